/- The texts of the proof, one behind the other: PVal, PUnesc, PUnesc2, PUnesc3, PEscBack, PPrint, PPrint2, PMsg, PBuild, PRead, PFew, W9, PBounceTells, PGlob. -/
import Derived.Test.YtmfcepdbpdihgaaGreatDoorMs4
import Derived.Test.YtmfcepdbpdihgaaGreatDoorMs2
import Derived.Test.YtmfcepdbpdihgaaGreatDoorRows
import Derived.Test.YtmfcepdbpdihgaaGreatDoorProg
import Derived.MakeChecks
set_option linter.unusedVariables false
set_option linter.unusedSimpArgs false
set_option maxRecDepth 100000
namespace Go.Proofs.YtmfcepdbpdihgaaGreatDoor.W
open Go Go.Ae Go.Pl
def uv (c : UInt8) : Option Nat := bif Nat.ble 48 c.toNat && Nat.ble c.toNat 57 then some (c.toNat - 48) else bif Nat.ble 65 c.toNat && Nat.ble c.toNat 70 then some (c.toNat - 55) else none
def valU : Nat → List UInt8 → Option Nat
  | a, [] => some a
  | a, c :: r => match uv c with
    | some x => valU (16 * a + x) r
    | none => none
def hexV (d : List UInt8) : Option Nat :=
  bif Nat.ble 1 d.length && Nat.ble d.length 6 then bif Nat.beq d.length 1 || !(d.headD 0 == 48) then valU 0 d else none else none
theorem valU_app : ∀ (l : List UInt8) (a : Nat) (r : List UInt8), valU a (l ++ r) = (valU a l).bind fun b => valU b r
  | [], a, r => rfl
  | c :: l, a, r => by
    simp only [List.cons_append, valU]
    cases uv c with
    | none => rfl
    | some x => exact valU_app l _ r
theorem uv_dgu : ∀ n, n < 16 → uv (dgu n) = some n := fun n hn => by
  have := fin16 (p := fun n => decide (uv (dgu n) = some n)) (by decide) n hn
  simpa using this
def uvB (c : UInt8) : Bool := match uv c with | some n => decide (n < 16) && decide (dgu n = c) | none => true
theorem uvB_k : ((List.range 256).all fun n => uvB (UInt8.ofNat n)) = true := by kernel_rfl
theorem dgu_uv {c : UInt8} {n : Nat} (h : uv c = some n) : n < 16 ∧ dgu n = c := by
  have k := all256 uvB uvB_k c
  simpa [uvB, h] using k
theorem valU_hex : ∀ (f n : Nat), n < 16 ^ (f + 1) → valU 0 (hexF dgu (f + 1) n) = some n
  | 0, n, h => by
    have h16 : n < 16 := by simpa using h
    rw [hexF_lo _ _ _ h16]; simp [valU, uv_dgu n h16]
  | f + 1, n, h => by
    by_cases h16 : n < 16
    · rw [hexF_lo _ _ _ h16]; simp [valU, uv_dgu n h16]
    · rw [hexF_hi _ _ _ (by omega), valU_app, valU_hex f (n / 16) (by rw [Nat.pow_succ] at h; omega)]
      simp only [Option.bind_some, valU, uv_dgu (n % 16) (Nat.mod_lt _ (by omega))]
      congr 1; omega
theorem hexF_len_lo : ∀ (f n k : Nat), n < 16 ^ (f + 1) → (hexF dgu (f + 1) n).length ≤ k + 1 → n < 16 ^ (k + 1)
  | 0, n, k, h, _ => by
    have h16 : n < 16 := by simpa using h
    have := Nat.one_le_pow k 16 (by omega)
    rw [Nat.pow_succ]; omega
  | f + 1, n, k, h, hl => by
    by_cases h16 : n < 16
    · have := Nat.one_le_pow k 16 (by omega)
      rw [Nat.pow_succ]; omega
    · rw [hexF_hi _ _ _ (by omega), List.length_append] at hl
      simp only [List.length_cons, List.length_nil] at hl
      have hne : 1 ≤ (hexF dgu (f + 1) (n / 16)).length := by
        by_cases h2 : n / 16 < 16
        · rw [hexF_lo _ _ _ h2]; simp
        · rw [hexF_hi _ _ _ (by omega)]; simp
      match k with
      | 0 => omega
      | k + 1 =>
        have := hexF_len_lo f (n / 16) k (by rw [Nat.pow_succ] at h; omega) (by omega)
        rw [Nat.pow_succ]; omega
theorem hexF_head : ∀ (f n : Nat), 1 ≤ n → n < 16 ^ (f + 1) → (hexF dgu (f + 1) n).headD 0 ≠ 48
  | 0, n, h1, h => by
    have h16 : n < 16 := by simpa using h
    rw [hexF_lo _ _ _ h16]
    have := fin16 (p := fun n => Nat.beq n 0 || decide (dgu n ≠ 48)) (by decide) n h16
    have h0 : Nat.beq n 0 = false := by rw [← Bool.not_eq_true]; intro e; have := Nat.eq_of_beq_eq_true e; omega
    simpa [h0] using this
  | f + 1, n, h1, h => by
    by_cases h16 : n < 16
    · rw [hexF_lo _ _ _ h16]
      have := fin16 (p := fun n => Nat.beq n 0 || decide (dgu n ≠ 48)) (by decide) n h16
      have h0 : Nat.beq n 0 = false := by rw [← Bool.not_eq_true]; intro e; have := Nat.eq_of_beq_eq_true e; omega
      simpa [h0] using this
    · have ih := hexF_head f (n / 16) (by omega) (by rw [Nat.pow_succ] at h; omega)
      rw [hexF_hi _ _ _ (by omega)]
      have hne : hexF dgu (f + 1) (n / 16) ≠ [] := by
        by_cases h2 : n / 16 < 16
        · rw [hexF_lo _ _ _ h2]; simp
        · rw [hexF_hi _ _ _ (by omega)]; simp
      cases hx : hexF dgu (f + 1) (n / 16) with
      | nil => exact absurd hx hne
      | cons a l => rw [hx] at ih; simpa using ih
theorem hexF_one : ∀ (f n : Nat), 16 ≤ n → 2 ≤ (hexF dgu (f + 2) n).length := fun f n h => by
  rw [hexF_hi _ _ _ h, List.length_append]
  have hne : 1 ≤ (hexF dgu (f + 1) (n / 16)).length := by
    by_cases h2 : n / 16 < 16
    · rw [hexF_lo _ _ _ h2]; simp
    · rw [hexF_hi _ _ _ (by omega)]; simp
  simp; omega
theorem hexV_of {n : Nat} (hn : n < 18446744073709551616) (hl : (hexU n).length ≤ 6) : hexV (hexU n) = some n := by
  have h6 := hexF_len_lo 15 n 5 (by omega) hl
  have hv := valU_hex 15 n (by omega)
  unfold hexV
  have h1 : 1 ≤ (hexU n).length := by
    unfold hexU
    by_cases h16 : n < 16
    · rw [hexF_lo _ _ _ h16]; simp
    · have h2 : 2 ≤ (hexF dgu 16 n).length := hexF_one 14 n (by omega)
      omega
  have e1 : (Nat.ble 1 (hexU n).length && Nat.ble (hexU n).length 6) = true := by rw [Bool.and_eq_true]; exact ⟨Nat.ble_eq_true_of_le h1, Nat.ble_eq_true_of_le hl⟩
  rw [e1, cond_true]
  have e2 : (Nat.beq (hexU n).length 1 || !((hexU n).headD 0 == 48)) = true := by
    rw [Bool.or_eq_true]
    by_cases h0 : n = 0
    · left; subst h0; rfl
    · right
      have := hexF_head 15 n (by omega) (by omega)
      simpa [hexU] using this
  rw [e2, cond_true]
  exact hv
theorem valU_snoc : ∀ (k : Nat) (d : List UInt8), d.length = k + 1 → (k = 0 ∨ d.headD 0 ≠ 48) → ∀ n, valU 0 d = some n → hexF dgu (k + 1) n = d ∧ n < 16 ^ (k + 1) ∧ (d.headD 0 ≠ 48 → 1 ≤ n)
  | 0, d, hl, _, n, h => by
    match d, hl with
    | [c], _ =>
      simp only [valU] at h
      cases hc : uv c with
      | none => rw [hc] at h; cases h
      | some x =>
        rw [hc] at h
        simp only [Option.some.injEq] at h
        obtain ⟨h1, h2⟩ := dgu_uv hc
        have hx : n = x := by omega
        subst hx
        refine ⟨by rw [hexF_lo _ _ _ h1, h2], by simpa using h1, fun hh => ?_⟩
        rcases Nat.eq_zero_or_pos n with h0 | h0
        · subst h0; exact absurd (by rw [List.headD_cons, ← h2]; rfl) hh
        · exact h0
  | k + 1, d, hl, hh, n, h => by
    have hne : d ≠ [] := by intro e; rw [e] at hl; simp at hl
    obtain ⟨l, c, rfl⟩ : ∃ l c, d = l ++ [c] := ⟨d.dropLast, d.getLast hne, (List.dropLast_concat_getLast hne).symm⟩
    have hll : l.length = k + 1 := by simpa using hl
    have hhd : (l ++ [c]).headD 0 = l.headD 0 := by
      cases l with
      | nil => simp at hll
      | cons a l => rfl
    have hl48 : l.headD 0 ≠ 48 := by rw [← hhd]; rcases hh with hh | hh; omega; exact hh
    rw [valU_app] at h
    cases hv : valU 0 l with
    | none => rw [hv] at h; cases h
    | some a =>
      rw [hv] at h
      simp only [Option.bind_some, valU] at h
      obtain ⟨i1, i2, i3⟩ := valU_snoc k l hll (.inr hl48) a hv
      have ha := i3 hl48
      cases hc : uv c with
      | none => rw [hc] at h; cases h
      | some x =>
        rw [hc] at h
        simp only [Option.some.injEq] at h
        obtain ⟨h1, h2⟩ := dgu_uv hc
        subst h
        refine ⟨?_, by rw [Nat.pow_succ]; omega, fun _ => by omega⟩
        rw [hexF_hi _ _ _ (by omega), show (16 * a + x) / 16 = a by omega, show (16 * a + x) % 16 = x by omega, i1, h2]
theorem hexV_back {d : List UInt8} {n : Nat} (h : hexV d = some n) : hexU n = d ∧ d.length ≤ 6 ∧ n < 16777216 := by
  unfold hexV at h
  cases e1 : (Nat.ble 1 d.length && Nat.ble d.length 6) with
  | false => rw [e1] at h; cases h
  | true =>
    rw [e1, cond_true] at h
    rw [Bool.and_eq_true] at e1
    have g1 := Nat.le_of_ble_eq_true e1.1
    have g2 := Nat.le_of_ble_eq_true e1.2
    cases e2 : (Nat.beq d.length 1 || !(d.headD 0 == 48)) with
    | false => rw [e2] at h; cases h
    | true =>
      rw [e2, cond_true] at h
      rw [Bool.or_eq_true] at e2
      have hh : d.length - 1 = 0 ∨ d.headD 0 ≠ 48 := by
        rcases e2 with e2 | e2
        · left; have := Nat.eq_of_beq_eq_true e2; omega
        · right; simpa using e2
      obtain ⟨i1, i2, _⟩ := valU_snoc (d.length - 1) d (by omega) hh n h
      have hp : 16 ^ (d.length - 1 + 1) ≤ 16 ^ 6 := Nat.pow_le_pow_right (by omega) (by omega)
      refine ⟨?_, g2, by have : (16 : Nat) ^ 6 = 16777216 := by decide
                         omega⟩
      unfold hexU
      rw [← i1]
      exact hexF_more dgu (d.length - 1) 15 n i2 (by omega)
def dvI (c : Int) : Option Int :=
  bif decide (48 ≤ c) && decide (c ≤ 57) then some (IntKind.u8.wrap (c - 48))
  else bif decide (97 ≤ intBits BinOp.or IntKind.u8 c 32) && decide (intBits BinOp.or IntKind.u8 c 32 ≤ 122) then some (IntKind.u8.wrap (IntKind.u8.wrap (intBits BinOp.or IntKind.u8 c 32 - 97) + 10))
  else none
def dvB (c : UInt8) : Bool := match dvI (c.toNat : Int) with | some x => (decide (0 ≤ x) && decide (x ≤ 255)) && (match uv c with | some n => decide (x = (n : Int)) | none => true) | none => (match uv c with | some _ => false | none => true)
theorem dvB_k : ((List.range 256).all fun n => dvB (UInt8.ofNat n)) = true := by kernel_rfl
theorem dv_rng {c : UInt8} {x : Int} (h : dvI (c.toNat : Int) = some x) : 0 ≤ x ∧ x ≤ 255 := by
  have k := all256 dvB dvB_k c
  simp only [dvB, h, Bool.and_eq_true, decide_eq_true_eq] at k
  exact k.1
theorem dv_uv {c : UInt8} {n : Nat} (h : uv c = some n) : dvI (c.toNat : Int) = some (n : Int) := by
  have k := all256 dvB dvB_k c
  unfold dvB at k
  cases hd : dvI (c.toNat : Int) with
  | none => rw [hd, h] at k; cases k
  | some x =>
    rw [hd, h] at k
    simp only [Bool.and_eq_true, decide_eq_true_eq] at k
    rw [k.2]
def puS : Int → List UInt8 → (Int × Int × Unit) ⊕ (Int × Unit)
  | n, [] => .inr (n, ())
  | n, c :: r => match dvI (c.toNat : Int) with
    | none => .inl (0, 2, ())
    | some x => if 16 ≤ x then .inl (0, 2, ()) else if 4294967295 < n * 16 + x then .inl (4294967295, 1, ()) else puS (n * 16 + x) r
theorem puS_rng : ∀ (l : List UInt8) (n : Int), 0 ≤ n → n ≤ 4294967295 → (∀ v u, puS n l = .inr (v, u) → 0 ≤ v ∧ v ≤ 4294967295) ∧ (∀ v e u, puS n l = .inl (v, e, u) → (v = 0 ∧ e = 2) ∨ (v = 4294967295 ∧ e = 1))
  | [], n, h0, h1 => ⟨fun v u h => (by cases h; exact ⟨h0, h1⟩), fun v e u h => (by cases h)⟩
  | c :: r, n, h0, h1 => by
    unfold puS
    cases hd : dvI (c.toNat : Int) with
    | none => exact ⟨fun v u h => (by cases h), fun v e u h => (by cases h; exact .inl ⟨rfl, rfl⟩)⟩
    | some x =>
      have hx := dv_rng hd
      simp only
      split
      · exact ⟨fun v u h => (by cases h), fun v e u h => (by cases h; exact .inl ⟨rfl, rfl⟩)⟩
      · split
        · exact ⟨fun v u h => (by cases h), fun v e u h => (by cases h; exact .inr ⟨rfl, rfl⟩)⟩
        · exact puS_rng r (n * 16 + x) (by omega) (by omega)
theorem valU_ge : ∀ (l : List UInt8) (a m : Nat), valU a l = some m → a ≤ m
  | [], a, m, h => by cases h; exact Nat.le_refl _
  | c :: r, a, m, h => by
    simp only [valU] at h
    cases hc : uv c with
    | none => rw [hc] at h; cases h
    | some x => rw [hc] at h; have := valU_ge r _ m h; omega
theorem puS_val : ∀ (l : List UInt8) (a m : Nat), valU a l = some m → m ≤ 4294967295 → puS (a : Int) l = .inr ((m : Int), ())
  | [], a, m, h, _ => by cases h; rfl
  | c :: r, a, m, h, hm => by
    simp only [valU] at h
    cases hc : uv c with
    | none => rw [hc] at h; cases h
    | some x =>
      rw [hc] at h
      have hx := (dgu_uv hc).1
      have hge := valU_ge r _ m h
      unfold puS
      rw [dv_uv hc]
      simp only
      rw [if_neg (by omega), if_neg (by omega)]
      have := puS_val r (16 * a + x) m h hm
      rw [show ((16 * a + x : Nat) : Int) = (a : Int) * 16 + (x : Int) by omega] at this
      exact this
end Go.Proofs.YtmfcepdbpdihgaaGreatDoor.W
set_option linter.unusedVariables false
set_option linter.unusedSimpArgs false
set_option maxRecDepth 100000
namespace Go.Proofs.YtmfcepdbpdihgaaGreatDoor.W
open Go Go.Ae Go.Pl
theorem pc6 (s0 d : List UInt8) (n N i c : Int) : C119_c6 (16, false, s0, 1152921504606846976, 4294967295, false, n, c, d, N, i, false, ()) =
    some (match dvI c with | some x => .inr (.inl (16, false, s0, 1152921504606846976, 4294967295, false, n, x, d, N, i, ())) | none => .inr (.inr (0, 2, ()))) := by
  have h150 : ∀ c : Int, C150 (c, ()) = some (intBits BinOp.or IntKind.u8 c 32, ()) := fun c => rfl
  simp only [C119_c6, F119_c6, C119_c5, F119_c5, C119_c4, F119_c4, h150, dvI, Option.bind_some, cond_false]
  cases decide (48 ≤ c) <;> cases decide (c ≤ 57) <;> cases decide (97 ≤ intBits BinOp.or IntKind.u8 c 32) <;> cases decide (intBits BinOp.or IntKind.u8 c 32 ≤ 122) <;> rfl
def puR (s0 : List UInt8) : (Int × Int × Unit) ⊕ (Int × Unit) → (List UInt8 × Bool × Int × Unit) ⊕ (Int × Int × Unit)
  | .inl (v, e, _) => .inr (v, e, ())
  | .inr (n, _) => .inl (s0, false, n, ())
theorem pstep (s0 pre r : List UInt8) (c : UInt8) (n : Int) (h0 : 0 ≤ n) (h1 : n ≤ 4294967295) (hl : pre.length + r.length ≤ 1000000000) :
    F119_l0 C119_c6 (16, false, s0, 1152921504606846976, 4294967295, false, n, pre ++ c :: r, ((pre ++ c :: r).length : Int), (pre.length : Int), ()) =
      some (match dvI (c.toNat : Int) with
        | none => .inr (.inr (0, 2, ()))
        | some x => if 16 ≤ x then .inr (.inr (0, 2, ())) else if 4294967295 < n * 16 + x then .inr (.inr (4294967295, 1, ())) else
            .inl (16, false, s0, 1152921504606846976, 4294967295, false, n * 16 + x, pre ++ c :: r, ((pre ++ c :: r).length : Int), ((pre.length + 1 : Nat) : Int), ())) := by
  have hi : decide ((pre.length : Int) < ((pre ++ c :: r).length : Int)) = true := by simp; omega
  have hi0 : decide (0 ≤ (pre.length : Int)) = true := by simp
  have hw : IntKind.i64.wrap ((pre.length : Int) + 1) = ((pre.length + 1 : Nat) : Int) := wrN _ (by omega)
  have hg : (pre ++ c :: r).getD ((pre.length : Int)).toNat 0 = c := by rw [Int.toNat_natCast]; exact gd rfl
  have w16 : IntKind.u8.wrap 16 = 16 := by decide
  have w16' : IntKind.u64.wrap 16 = 16 := by decide
  simp only [F119_l0, hi, hi0, hg, pc6, Option.bind_some, cond_true, Bool.and_self]
  have key : ∀ b : Bool, (bif b then (Sum.elim (fun val => some (Sum.inl (val.fst, val.snd.fst, val.snd.snd.fst, val.snd.snd.snd.fst, val.snd.snd.snd.snd.fst, val.snd.snd.snd.snd.snd.fst, val.snd.snd.snd.snd.snd.snd.fst, val.snd.snd.snd.snd.snd.snd.snd.fst, val.snd.snd.snd.snd.snd.snd.snd.snd.fst, val.snd.snd.snd.snd.snd.snd.snd.snd.snd.fst, ()))) (fun _ => none) (.inl ((0 : Int), false, s0, (0 : Int), (0 : Int), false, (0 : Int), pre, (0 : Int), (0 : Int), ()) : (Int × Bool × List UInt8 × Int × Int × Bool × Int × List UInt8 × Int × Int × Unit) ⊕ Unit) : Option ((Int × Bool × List UInt8 × Int × Int × Bool × Int × List UInt8 × Int × Int × Unit) ⊕ Unit)) else none) = none ∨ True := fun _ => .inr trivial
  clear key
  cases hd : dvI (c.toNat : Int) with
  | none => simp only [Sum.elim_inr, Bool.cond_self]
  | some x =>
    have hx := dv_rng hd
    have wx : IntKind.u64.wrap x = x := by rw [IntKind.wrap_u64]; omega
    have wn : IntKind.u64.wrap (n * 16) = n * 16 := by rw [IntKind.wrap_u64]; omega
    have ws : IntKind.u64.wrap (n * 16 + x) = n * 16 + x := by rw [IntKind.wrap_u64]; omega
    have c1 : decide (n ≥ 1152921504606846976) = false := by simp; omega
    have c2 : decide (n * 16 + x < n * 16) = false := by simp; omega
    simp only [Sum.elim_inr, Sum.elim_inl, w16, w16', wx, wn, ws, c1, c2, cond_false, hw, Bool.cond_self]
    by_cases h16 : 16 ≤ x
    · have d1 : decide (x ≥ 16) = true := by simp [h16]
      rw [d1, if_pos h16]; rfl
    · have d1 : decide (x ≥ 16) = false := by simp; omega
      rw [d1, if_neg h16, cond_false]
      by_cases hm : 4294967295 < n * 16 + x
      · have d2 : decide (n * 16 + x > 4294967295) = true := by simp [hm]
        rw [d2, if_pos hm]; rfl
      · have d2 : decide (n * 16 + x > 4294967295) = false := by simp; omega
        rw [d2, if_neg hm]; rfl
theorem prun16 (s0 : List UInt8) : ∀ (r pre : List UInt8) (n : Int) (N : Int) (m : Nat), N = ((pre ++ r).length : Int) → 0 ≤ n → n ≤ 4294967295 → pre.length + r.length ≤ 1000000000 → r.length < m →
    loopN (F119_l0 C119_c6) m (16, false, s0, 1152921504606846976, 4294967295, false, n, pre ++ r, N, (pre.length : Int), ()) = some (puR s0 (puS n r))
  | _, _, _, _, 0, _, _, _, _, hm => by omega
  | [], pre, n, N, m + 1, hN, h0, h1, hl, hm => by
    subst hN
    refine loopN_inr ?_
    have hi : decide ((pre.length : Int) < (pre.length : Int)) = false := by simp
    simp only [F119_l0, List.append_nil, hi, cond_false, puS, puR]
  | c :: r, pre, n, N, m + 1, hN, h0, h1, hl, hm => by
    subst hN
    simp only [List.length_cons] at hl hm
    have hs := pstep s0 pre r c n h0 h1 (by omega)
    unfold puS
    cases hd : dvI (c.toNat : Int) with
    | none => rw [hd] at hs; rw [loopN_inr hs]; rfl
    | some x =>
      have hx := dv_rng hd
      rw [hd] at hs
      simp only at hs ⊢
      by_cases h16 : 16 ≤ x
      · rw [if_pos h16] at hs ⊢; rw [loopN_inr hs]; rfl
      · rw [if_neg h16] at hs ⊢
        by_cases hmx : 4294967295 < n * 16 + x
        · rw [if_pos hmx] at hs ⊢; rw [loopN_inr hs]; rfl
        · rw [if_neg hmx] at hs ⊢
          rw [loopN_inl hs, shift, show ((pre.length + 1 : Nat) : Int) = ((pre ++ [c]).length : Int) by simp]
          exact prun16 s0 r (pre ++ [c]) (n * 16 + x) _ m (by simp) (by omega) (by omega) (by simp; omega) (by omega)
theorem pu16 (d : List UInt8) (hd : d ≠ []) (hl : d.length ≤ 1000000) : C119 (d, 16, 32, ()) = some (puS 0 d) := by
  have h := prun16 d d [] 0 (d.length : Int) big (by simp) (by omega) (by omega) (by simp; omega) (by unfold big; omega)
  have h' : C119_l0 (16, false, d, 1152921504606846976, 4294967295, false, 0, d, (d.length : Int), 0, ()) = _ := h
  have hn : (d == []) = false := by simpa using hd
  have e1 : decide ((2 : Int) ≤ 16) = true := by decide
  have e2 : decide ((16 : Int) ≤ 36) = true := by decide
  have e3 : ((16 : Int) == 0) = false := rfl
  have e4 : ((32 : Int) == 0) = false := rfl
  have e5 : decide ((32 : Int) < 0) = false := by decide
  have e6 : decide ((32 : Int) > 64) = false := by decide
  have e7 : ((16 : Int) == 10) = false := rfl
  have e8 : ((16 : Int) == 16) = true := rfl
  have e9 : decide (0 ≤ IntKind.u64.wrap 32) = true := by decide
  have e10 : decide (d.length ≤ 9223372036854775807) = true := by simp; omega
  have e11 : IntKind.u64.wrap (IntKind.u64.wrap (1 * 2 ^ min (IntKind.u64.wrap 32).toNat IntKind.u64.bits) - 1) = 4294967295 := by decide
  simp only [C119, F119, C119_c3, F119_c3, C119_c8, F119_c8, C119_c7, F119_c7, hn, e1, e2, e3, e4, e5, e6, e7, e8, e9, e10, e11, h', Option.bind_some, cond_true, cond_false, Sum.elim_inl]
  cases puS 0 d with
  | inl x => obtain ⟨v, e, u⟩ := x; rfl
  | inr x => obtain ⟨v, u⟩ := x; rfl
def rngS (neg : Bool) (u : Int) : (Int × Int × Unit) ⊕ (Int × Unit) :=
  bif neg then (if 2147483648 < u then .inl (-2147483648, 1, ()) else .inr (-u, ())) else (if 2147483648 ≤ u then .inl (2147483647, 1, ()) else .inr (u, ()))
theorem rc0 (neg : Bool) (u : Int) (h0 : 0 ≤ u) (h1 : u ≤ 4294967295) : C90_c0 (32, neg, u, ()) = some (rngS neg u) := by
  have e1 : decide (0 ≤ IntKind.u64.wrap (IntKind.i64.wrap (32 - 1))) = true := by decide
  have e2 : IntKind.u64.wrap (1 * 2 ^ min (IntKind.u64.wrap (IntKind.i64.wrap (32 - 1))).toNat IntKind.u64.bits) = 2147483648 := by decide
  have e3 : IntKind.i64.wrap (IntKind.u64.wrap (2147483648 - 1)) = 2147483647 := by decide
  have e4 : IntKind.i64.wrap (0 - IntKind.i64.wrap 2147483648) = -2147483648 := by decide
  have e5 : IntKind.i64.wrap u = u := w64 (by omega) (by omega)
  have e6 : IntKind.i64.wrap (0 - u) = -u := by rw [w64] <;> omega
  simp only [C90_c0, F90_c0, e1, e2, e3, e4, e5, e6, cond_true]
  cases neg with
  | false =>
    by_cases hu : 2147483648 ≤ u
    · have d1 : decide (u ≥ 2147483648) = true := by simp [hu]
      simp [d1, rngS, hu]
    · have d1 : decide (u ≥ 2147483648) = false := by simp; omega
      simp only [d1, rngS, Bool.not_false, cond_true, cond_false]
      rw [if_neg hu]
  | true =>
    by_cases hu : 2147483648 < u
    · have d1 : decide (u > 2147483648) = true := by simp [hu]
      simp [d1, rngS, hu]
    · have d1 : decide (u > 2147483648) = false := by simp; omega
      simp only [d1, rngS, Bool.not_true, cond_true, cond_false]
      rw [if_neg hu]
def piS (neg : Bool) (d : List UInt8) : (Int × Int × Unit) ⊕ (Int × Unit) :=
  if d = [] then .inl (0, 2, ()) else match puS 0 d with
    | .inl (v, e, _) => if e = 1 then rngS neg v else .inl (0, e, ())
    | .inr (u, _) => rngS neg u
theorem rc1 (neg : Bool) (d : List UInt8) (hl : d.length ≤ 1000000) : C90_c1 (d, 16, 32, neg, ()) = some (piS neg d) := by
  have e4 : ((32 : Int) == 0) = false := rfl
  by_cases hd : d = []
  · subst hd
    simp only [C90_c1, F90_c1, piS, if_true]
    rfl
  · have hp := pu16 d hd hl
    have hr := puS_rng d 0 (by omega) (by omega)
    simp only [C90_c1, F90_c1, hp, piS, if_neg hd, e4, Option.bind_some, cond_false]
    cases hq : puS 0 d with
    | inl x =>
      obtain ⟨v, e, u⟩ := x
      rcases hr.2 v e u hq with ⟨rfl, rfl⟩ | ⟨rfl, rfl⟩
      · rfl
      · simp only [Sum.elim_inl, rc0 neg 4294967295 (by omega) (by omega), Option.bind_some, if_true]
        have : ((1 : Int) == 1) = true := rfl
        simp only [this, Bool.not_true, cond_false]
        cases rngS neg 4294967295 <;> rfl
    | inr x =>
      obtain ⟨v, u⟩ := x
      have := hr.1 v u hq
      simp only [Sum.elim_inr, rc0 neg v this.1 this.2, Option.bind_some]
      cases rngS neg v <;> rfl
theorem piS_rng (neg : Bool) (d : List UInt8) : (∀ v e u, piS neg d = .inl (v, e, u) → e = 1 ∨ e = 2) ∧ (∀ v u, piS neg d = .inr (v, u) → -2147483648 ≤ v ∧ v ≤ 2147483647) := by
  have hr := puS_rng d 0 (by omega) (by omega)
  have hg : ∀ u : Int, 0 ≤ u → (∀ v e w, rngS neg u = .inl (v, e, w) → e = 1 ∨ e = 2) ∧ (∀ v w, rngS neg u = .inr (v, w) → -2147483648 ≤ v ∧ v ≤ 2147483647) := by
    intro u hu
    unfold rngS
    cases neg with
    | false =>
      simp only [cond_false]
      split
      · exact ⟨fun v e w h => (by cases h; exact .inl rfl), fun v w h => (by cases h)⟩
      · exact ⟨fun v e w h => (by cases h), fun v w h => (by cases h; omega)⟩
    | true =>
      simp only [cond_true]
      split
      · exact ⟨fun v e w h => (by cases h; exact .inl rfl), fun v w h => (by cases h)⟩
      · exact ⟨fun v e w h => (by cases h), fun v w h => (by cases h; omega)⟩
  unfold piS
  split
  · exact ⟨fun v e w h => (by cases h; exact .inr rfl), fun v w h => (by cases h)⟩
  · split
    · rename_i v e u hq
      rcases hr.2 v e u hq with ⟨rfl, rfl⟩ | ⟨rfl, rfl⟩
      · rw [if_neg (by decide)]; exact ⟨fun v e w h => (by cases h; exact .inr rfl), fun v w h => (by cases h)⟩
      · rw [if_pos rfl]; exact hg _ (by omega)
    · rename_i u w hq
      exact hg u (hr.1 u w hq).1
def piT (d : List UInt8) : (Int × Int × Unit) ⊕ (Int × Unit) := match d with
  | [] => .inl (0, 2, ())
  | c :: r => bif c.toNat == 43 then piS false r else bif c.toNat == 45 then piS true r else piS false (c :: r)
theorem pi16 (d : List UInt8) (hl : d.length ≤ 1000000) : C90 (d, 16, 32, ()) = some (piT d) := by
  cases d with
  | nil => rfl
  | cons c r =>
    simp only [List.length_cons] at hl
    have hn : ((c :: r) == ([] : List UInt8)) = false := rfl
    have e0 : decide ((0 : Int) < ((c :: r).length : Int)) = true := by simp
    have e1 : decide ((1 : Int) ≤ ((c :: r).length : Int)) = true := by simp; omega
    have hg : (c :: r).getD 0 0 = c := rfl
    have hdr : List.drop 1 (c :: r) = r := rfl
    have b43 : (((c.toNat : Nat) : Int) == 43) = (c.toNat == 43) := by
      by_cases h : c.toNat = 43
      · rw [h]; rfl
      · rw [ibF (by omega)]; simp [h]
    have b45 : (((c.toNat : Nat) : Int) == 45) = (c.toNat == 45) := by
      by_cases h : c.toNat = 45
      · rw [h]; rfl
      · rw [ibF (by omega)]; simp [h]
    simp only [C90, F90, hn, e0, e1, hg, hdr, b43, b45, rc1 false r (by omega), rc1 true r (by omega), rc1 false (c :: r) (by simp; omega), piT, Option.bind_some, cond_true, cond_false]
    cases c.toNat == 43 with
    | true =>
      simp only [cond_true]
      cases piS false r with
      | inl x => obtain ⟨v, e, u⟩ := x; rfl
      | inr x => obtain ⟨v, u⟩ := x; rfl
    | false =>
      cases c.toNat == 45 with
      | true =>
        simp only [cond_true, cond_false]
        cases piS true r with
        | inl x => obtain ⟨v, e, u⟩ := x; rfl
        | inr x => obtain ⟨v, u⟩ := x; rfl
      | false =>
        simp only [cond_false]
        cases piS false (c :: r) with
        | inl x => obtain ⟨v, e, u⟩ := x; rfl
        | inr x => obtain ⟨v, u⟩ := x; rfl
theorem piT_rng (d : List UInt8) : (∀ v e u, piT d = .inl (v, e, u) → e = 1 ∨ e = 2) ∧ (∀ v u, piT d = .inr (v, u) → -2147483648 ≤ v ∧ v ≤ 2147483647) := by
  cases d with
  | nil => exact ⟨fun v e w h => (by cases h; exact .inr rfl), fun v w h => (by cases h)⟩
  | cons c r =>
    unfold piT
    simp only
    cases c.toNat == 43 with
    | true => exact piS_rng false r
    | false =>
      cases c.toNat == 45 with
      | true => exact piS_rng true r
      | false => exact piS_rng false (c :: r)
theorem piT_val {d : List UInt8} {n : Nat} (h : hexV d = some n) : piT d = .inr ((n : Int), ()) := by
  obtain ⟨hu, hl, hn⟩ := hexV_back h
  have hv := valU_hex 15 n (by omega)
  change valU 0 (hexU n) = some n at hv
  rw [hu] at hv
  have hp := puS_val d 0 n hv (by omega)
  cases d with
  | nil =>
    have : hexU n ≠ [] := by
      unfold hexU
      by_cases h2 : n < 16
      · rw [hexF_lo _ _ _ h2]; simp
      · rw [hexF_hi _ _ _ (by omega)]; simp
    exact absurd hu this
  | cons c r =>
    have hc : ∃ x, uv c = some x := by
      simp only [valU] at hv
      cases hc : uv c with
      | none => rw [hc] at hv; cases hv
      | some x => exact ⟨x, rfl⟩
    obtain ⟨x, hc⟩ := hc
    have b43 : (c.toNat == 43) = false := by
      cases hb : c.toNat == 43 with
      | false => rfl
      | true => have : c.toNat = 43 := by simpa using hb
                unfold uv at hc; rw [this] at hc; cases hc
    have b45 : (c.toNat == 45) = false := by
      cases hb : c.toNat == 45 with
      | false => rfl
      | true => have : c.toNat = 45 := by simpa using hb
                unfold uv at hc; rw [this] at hc; cases hc
    unfold piT
    simp only [b43, b45, cond_false]
    unfold piS
    rw [if_neg (by simp)]
    have hp' : puS 0 (c :: r) = .inr ((n : Int), ()) := hp
    rw [hp']
    simp only [rngS, cond_false]
    rw [if_neg (by omega)]
theorem c27 (d : List UInt8) (hl : d.length ≤ 1000000) : ∃ r, C27 (d, ()) = some (r, ()) ∧ (match hexV d with | some n => if plainB (n : Int) = true then r < 0 else r = (n : Int) | none => r < 0) := by
  have hrng := piT_rng d
  have h63 : C63 (d, 16, 32, ()) = some (match piT d with | .inl (v, e, _) => .inl (v, ()) | .inr (v, _) => .inr (v, ())) := by
    simp only [C63, F63, pi16 d hl, Option.bind_some]
    cases hp : piT d with
    | inl x =>
      obtain ⟨v, e, u⟩ := x
      have he := hrng.1 v e u hp
      have ht : C91 ([80, 97, 114, 115, 101, 73, 110, 116], d, 16, 32, e, ()) = some () := by
        rw [C91, if_pos ⟨(show d.length ≤ 281474976710656 by omega), he⟩]
      simp only [Sum.elim_inl, ht, Option.bind_some]
    | inr x => obtain ⟨v, u⟩ := x; rfl
  cases hp : piT d with
  | inl x =>
    obtain ⟨v, e, u⟩ := x
    rw [hp] at h63
    refine ⟨-1, ?_, ?_⟩
    · simp only [C27, F27, h63, Option.bind_some, Sum.elim_inl]
    · cases hv : hexV d with
      | none => simp
      | some n => rw [piT_val hv] at hp; cases hp
  | inr x =>
    obtain ⟨v, u⟩ := x
    have hvr := hrng.2 v u hp
    rw [hp] at h63
    by_cases h6 : d.length > 6
    · have e6 : decide ((d.length : Int) > 6) = true := by simp; omega
      refine ⟨-1, ?_, ?_⟩
      · simp only [C27, F27, h63, e6, Option.bind_some, Sum.elim_inr, cond_true]
      · cases hv : hexV d with
        | none => simp
        | some n => have := (hexV_back hv).2.1; omega
    · have e6 : decide ((d.length : Int) > 6) = false := by simp; omega
      have hh := c34 v (by omega) (by omega)
      by_cases he : (bif decide (v < 0) then [45] else []) ++ hexU v.natAbs = d
      · have eb : (((bif decide (v < 0) then [45] else []) ++ hexU v.natAbs) == d) = true := by rw [he]; simp
        refine ⟨bif plainB (IntKind.i32.wrap v) then -1 else IntKind.i32.wrap v, ?_, ?_⟩
        · simp only [C27, F27, h63, e6, hh, eb, c24, Option.bind_some, Sum.elim_inr, cond_false, Bool.not_true]
          cases plainB (IntKind.i32.wrap v) <;> rfl
        · rw [w32 (n := v) (by omega) (by omega)]
          by_cases hneg : v < 0
          · have d1 : decide (v < 0) = true := by simp [hneg]
            rw [d1] at he
            have hnone : hexV d = none := by
              cases hv : hexV d with
              | none => rfl
              | some n => have := piT_val hv; rw [hp] at this; simp only [Sum.inr.injEq, Prod.mk.injEq] at this; omega
            rw [hnone]
            cases plainB v
            · exact hneg
            · exact (by decide : (-1 : Int) < 0)
          · have d1 : decide (v < 0) = false := by simp; omega
            rw [d1] at he
            simp only [cond_false, List.nil_append] at he
            have hsome : hexV d = some v.natAbs := by
              rw [← he]
              exact hexV_of (by omega) (by rw [he]; omega)
            rw [hsome]
            simp only
            rw [show ((v.natAbs : Nat) : Int) = v by omega]
            cases plainB v
            · simp
            · simp
      · have eb : (((bif decide (v < 0) then [45] else []) ++ hexU v.natAbs) == d) = false := by simpa using he
        refine ⟨-1, ?_, ?_⟩
        · simp only [C27, F27, h63, e6, hh, eb, Option.bind_some, Sum.elim_inr, cond_false, cond_true, Bool.not_false]
        · cases hv : hexV d with
          | none => simp
          | some n =>
            have h1 := piT_val hv
            rw [hp] at h1
            simp only [Sum.inr.injEq, Prod.mk.injEq, and_true] at h1
            obtain ⟨h2, _, h3⟩ := hexV_back hv
            refine absurd ?_ he
            have d1 : decide (v < 0) = false := by simp; omega
            rw [d1, h1]
            simpa using h2
end Go.Proofs.YtmfcepdbpdihgaaGreatDoor.W
set_option linter.unusedVariables false
set_option linter.unusedSimpArgs false
set_option maxRecDepth 100000
namespace Go.Proofs.YtmfcepdbpdihgaaGreatDoor.W
open Go Go.Ae Go.Pl
def e125 (x : UInt8) : Bool := x == 125
theorem iB (s : List UInt8) (c : UInt8) : Lib.indexByte s c = fnd (fun x => x == c) s := by
  induction s with
  | nil => rfl
  | cons b r ih =>
    unfold Lib.indexByte fnd
    by_cases h : (b == c) = true
    · simp [h, fp]
    · simp only [Bool.not_eq_true] at h
      simp only [h, ih, fp, cond_false, List.length_cons, fnd]
      simp only [Bool.false_eq_true, if_false]
      by_cases h2 : fp (fun x => x == c) r < r.length
      · simp only [if_pos h2, if_pos (show fp (fun x => x == c) r + 1 < r.length + 1 by omega)]
        rw [if_neg (by simp)]
        rfl
      · simp [h2]
def cutAt (c : UInt8) (s : List UInt8) : List UInt8 × List UInt8 × Bool :=
  if fp (fun x => x == c) s < s.length then (s.take (fp (fun x => x == c) s), s.drop (fp (fun x => x == c) s + 1), true) else (s, [], false)
theorem c115 (s : List UInt8) (c : UInt8) : C115 (s, (c.toNat : Int), ()) = some (fnd (fun x => x == c) s, ()) := by
  simp only [C115, F115, C148, Option.bind_some]
  rw [← iB]
  congr 2
  simp
theorem c89_1 (s : List UInt8) (c : UInt8) : C89 (s, [c], ()) = some (fnd (fun x => x == c) s, ()) := by
  have e0 : (((1 : Nat) : Int) == 0) = false := rfl
  have e1 : (((1 : Nat) : Int) == 1) = true := rfl
  have e2 : decide (0 < ((1 : Nat) : Int)) = true := rfl
  have hg : [c].getD 0 0 = c := rfl
  simp only [C89, F89, C89_c0, F89_c0, List.length_cons, List.length_nil, Nat.zero_add, e0, e1, e2, hg, c115, Option.bind_some, cond_true, cond_false]
  cases hx : ([c] == s) with
  | false => rfl
  | true =>
    have hs : [c] = s := by simpa using hx
    subst hs
    simp [fnd, fp]
theorem c26_1 (s : List UInt8) (c : UInt8) (hl : s.length ≤ 1000000000) : C26 (s, [c], ()) = some ((cutAt c s).1, (cutAt c s).2.1, (cutAt c s).2.2, ()) := by
  simp only [C26, F26, C62, F62, c89_1, Option.bind_some]
  unfold cutAt fnd
  by_cases h : fp (fun x => x == c) s < s.length
  · have e1 : decide (((fp (fun x => x == c) s : Nat) : Int) ≥ 0) = true := by simp
    have e2 : decide (0 ≤ ((fp (fun x => x == c) s : Nat) : Int)) = true := by simp
    have e3 : decide (((fp (fun x => x == c) s : Nat) : Int) ≤ (s.length : Int)) = true := by simp; omega
    have hw : IntKind.i64.wrap (((fp (fun x => x == c) s : Nat) : Int) + (([c].length : Nat) : Int)) = ((fp (fun x => x == c) s + 1 : Nat) : Int) := wrN _ (by omega)
    have e4 : decide (0 ≤ ((fp (fun x => x == c) s + 1 : Nat) : Int)) = true := by simp; omega
    have e5 : decide (((fp (fun x => x == c) s + 1 : Nat) : Int) ≤ (s.length : Int)) = true := by simp; omega
    simp only [if_pos h, e1, e2, e3, hw, e4, e5, cond_true, Bool.and_self, Int.toNat_natCast, Option.bind_some]
  · have e1 : decide ((-1 : Int) ≥ 0) = false := by decide
    simp only [if_neg h, e1, cond_false, Option.bind_some]
def hasP (p s : List UInt8) : Bool := s.take p.length == p
theorem hasP_len {p s : List UInt8} (h : hasP p s = true) : p.length ≤ s.length ∧ s = p ++ s.drop p.length := by
  have h' : s.take p.length = p := by simpa [hasP] using h
  have hl := congrArg List.length h'
  rw [List.length_take] at hl
  exact ⟨by omega, by conv => lhs; rw [← List.take_append_drop p.length s, h']⟩
theorem c82 (s p : List UInt8) : C82 (s, p, ()) = some (hasP p s, ()) := by
  simp only [C82, F82]
  by_cases h : p.length ≤ s.length
  · have e1 : decide ((s.length : Int) ≥ (p.length : Int)) = true := by simp; omega
    have e2 : decide (0 ≤ (p.length : Int)) = true := by simp
    have e3 : decide ((p.length : Int) ≤ (s.length : Int)) = true := by simp; omega
    simp only [e1, e2, e3, cond_true, Bool.and_self, Int.toNat_natCast, hasP]
  · have e1 : decide ((s.length : Int) ≥ (p.length : Int)) = false := by simp; omega
    have : hasP p s = false := by
      cases hh : hasP p s with
      | false => rfl
      | true => exact absurd (hasP_len hh).1 h
    simp only [e1, cond_false, this]
theorem c25 (s p : List UInt8) : C25 (s, p, ()) = some (if hasP p s = true then (s.drop p.length, true, ()) else (s, false, ())) := by
  simp only [C25, F25, C61, F61, c82, Option.bind_some]
  cases h : hasP p s with
  | false => rfl
  | true =>
    have hl := (hasP_len h).1
    have e2 : decide (0 ≤ (p.length : Int)) = true := by simp
    have e3 : decide ((p.length : Int) ≤ (s.length : Int)) = true := by simp; omega
    simp only [Bool.not_true, cond_false, e2, e3, cond_true, Bool.and_self, Int.toNat_natCast, Option.bind_some, if_true]
def escAt (s : List UInt8) : Option (Int × List UInt8) :=
  if hasP [92, 120, 123] s = true then
    (if fp e125 (s.drop 3) < (s.drop 3).length then
      (match hexV ((s.drop 3).take (fp e125 (s.drop 3))) with
        | some n => if plainB (n : Int) = true then none else some ((n : Int), (s.drop 3).drop (fp e125 (s.drop 3) + 1))
        | none => none)
    else none)
  else none
theorem escAt_len {s : List UInt8} {v : Int} {t : List UInt8} (h : escAt s = some (v, t)) : t.length < s.length := by
  unfold escAt at h
  split at h
  · rename_i hp
    have hl := (hasP_len hp).1
    simp only [List.length_cons, List.length_nil] at hl
    split at h
    · split at h
      · split at h
        · cases h
        · simp only [Option.some.injEq, Prod.mk.injEq] at h
          obtain ⟨_, rfl⟩ := h
          simp only [List.length_drop]; omega
      · cases h
    · cases h
  · cases h
def unesc : Nat → List UInt8 → Option (List Int)
  | 0, _ => none
  | _ + 1, [] => some []
  | n + 1, c :: r => bif plainB (cv c) then (unesc n r).map (cv c :: ·) else match escAt (c :: r) with
    | some (v, t) => (unesc n t).map (v :: ·)
    | none => none
theorem cv32 (c : UInt8) : IntKind.i32.wrap ((c.toNat : Nat) : Int) = cv c := by have := c.toNat_lt; rw [w32 (by omega) (by omega)]; rfl
theorem ustep (c : UInt8) (r : List UInt8) (out : List Int) (hl : r.length ≤ 900000) (ho : out.length ≤ 1000000) :
    F9_l0 C24 C25 C26 C27 (c :: r, out, ()) = some (bif plainB (cv c) then .inl (r, out ++ [cv c], ()) else match escAt (c :: r) with
      | some (v, t) => .inl (t, out ++ [v], ())
      | none => .inr (.inr ([], false, ()))) := by
  have e0 : ((c :: r) == ([] : List UInt8)) = false := rfl
  have e1 : decide ((0 : Int) < ((c :: r).length : Int)) = true := by simp
  have e2 : decide ((1 : Int) ≤ ((c :: r).length : Int)) = true := by simp; omega
  have hg : (c :: r).getD 0 0 = c := rfl
  have eo : decide (out.length + 1 ≤ 140737488355328 / 4) = true := by simp; omega
  have hdr : List.drop 1 (c :: r) = r := rfl
  simp only [F9_l0, e0, e1, e2, hg, hdr, cv32, c24, List.length_cons, List.length_nil, Nat.zero_add, eo, Option.bind_some, cond_true, Bool.not_false]
  cases hp : plainB (cv c) with
  | true =>
    have e1' : decide ((0 : Int) < ((r.length + 1 : Nat) : Int)) = true := by simp
    have e2' : decide ((1 : Int) ≤ ((r.length + 1 : Nat) : Int)) = true := by simp; omega
    simp only [cond_true, e1', e2']
  | false =>
    have e1' : decide ((0 : Int) < ((r.length + 1 : Nat) : Int)) = true := by simp
    simp only [cond_false, e1', cond_true]
    rw [c25]
    unfold escAt
    by_cases hh : hasP [92, 120, 123] (c :: r) = true
    · rw [if_pos hh, if_pos hh]
      have h3 : List.drop [92, 120, 123].length (c :: r) = List.drop 3 (c :: r) := rfl
      simp only [Option.bind_some, h3]
      have hl3 : ((c :: r).drop 3).length ≤ 900000 := by simp; omega
      generalize (c :: r).drop 3 = t at hl3
      rw [c26_1 t 125 (by omega)]
      simp only [Option.bind_some]
      have hc : (cutAt 125 t).1.length ≤ 1000000 := by
        unfold cutAt; split
        · simp; omega
        · simp; omega
      obtain ⟨x, hx, hxs⟩ := c27 (cutAt 125 t).1 hc
      rw [hx]
      simp only [Option.bind_some, Bool.not_true, cond_false]
      unfold cutAt at hxs ⊢
      have hfe : (fun x : UInt8 => x == 125) = e125 := rfl
      rw [hfe] at hxs ⊢
      by_cases hf : fp e125 t < t.length
      · simp only [if_pos hf] at hxs ⊢
        simp only [Bool.not_true, cond_false]
        cases hv : hexV (t.take (fp e125 t)) with
        | none =>
          rw [hv] at hxs
          have d : decide (x < 0) = true := by simpa using hxs
          rw [d]; rfl
        | some n =>
          rw [hv] at hxs
          simp only at hxs ⊢
          by_cases hpl : plainB (n : Int) = true
          · rw [if_pos hpl] at hxs ⊢
            have d : decide (x < 0) = true := by simpa using hxs
            rw [d]; rfl
          · rw [if_neg hpl] at hxs ⊢
            subst hxs
            have d : decide ((n : Int) < 0) = false := by simp
            rw [d]; rfl
      · simp only [if_neg hf, Bool.not_false, cond_true]
    · rw [if_neg hh, if_neg hh]
      simp only [Option.bind_some]
      rw [c26_1 (c :: r) 125 (by simp; omega)]
      simp only [Option.bind_some]
      have hc : (cutAt 125 (c :: r)).1.length ≤ 1000000 := by
        unfold cutAt; split
        · simp; omega
        · simp; omega
      obtain ⟨x, hx, hxs⟩ := c27 (cutAt 125 (c :: r)).1 hc
      rw [hx]
      rfl
theorem urun : ∀ (n : Nat) (s : List UInt8) (out : List Int) (m : Nat), s.length < n → s.length < m → s.length ≤ 800000 → out.length + s.length ≤ 1000000 →
    loopN (F9_l0 C24 C25 C26 C27) m (s, out, ()) = some (match unesc n s with | some l => .inl (out ++ l, ()) | none => .inr ([], false, ()))
  | 0, _, _, _, hn, _, _, _ => by omega
  | _, _, _, 0, _, hm, _, _ => by omega
  | n + 1, [], out, m + 1, hn, hm, hl, ho => by
    refine loopN_inr ?_
    simp only [F9_l0, unesc, List.append_nil]
    rfl
  | n + 1, c :: r, out, m + 1, hn, hm, hl, ho => by
    simp only [List.length_cons] at hn hm hl ho
    have hs := ustep c r out (by omega) (by omega)
    unfold unesc
    cases hp : plainB (cv c) with
    | true =>
      rw [hp, cond_true] at hs
      rw [loopN_inl hs, urun n r (out ++ [cv c]) m (by omega) (by omega) (by omega) (by simp; omega), cond_true]
      cases unesc n r <;> simp
    | false =>
      rw [hp, cond_false] at hs
      rw [cond_false]
      cases he : escAt (c :: r) with
      | none => rw [he] at hs; rw [loopN_inr hs]
      | some x =>
        obtain ⟨v, t⟩ := x
        have ht := escAt_len he
        simp only [List.length_cons] at ht
        rw [he] at hs
        rw [loopN_inl hs, urun n t (out ++ [v]) m (by omega) (by omega) (by omega) (by simp; omega)]
        simp only
        cases unesc n t <;> simp
def fin2 : Option (List Int) → List UInt8 × Bool × Unit
  | some l => match strE l with | some e => (e, true, ()) | none => ([], false, ())
  | none => ([], false, ())
def unE (s : List UInt8) : Option (List Int) := unesc (s.length + 1) s
theorem unesc_more : ∀ (n m : Nat) (s : List UInt8), s.length < n → s.length < m → unesc n s = unesc m s
  | 0, _, _, h, _ => by omega
  | _, 0, _, _, h => by omega
  | n + 1, m + 1, [], _, _ => rfl
  | n + 1, m + 1, c :: r, h1, h2 => by
    simp only [List.length_cons] at h1 h2
    unfold unesc
    rw [unesc_more n m r (by omega) (by omega)]
    cases plainB (cv c) with
    | true => rfl
    | false =>
      simp only [cond_false]
      cases he : escAt (c :: r) with
      | none => rfl
      | some x =>
        obtain ⟨v, t⟩ := x
        have ht := escAt_len he
        simp only [List.length_cons] at ht
        simp only
        rw [unesc_more n m t (by omega) (by omega)]
theorem unesc_len : ∀ (n : Nat) (s : List UInt8) (l : List Int), unesc n s = some l → l.length ≤ s.length
  | 0, _, _, h => by cases h
  | n + 1, [], l, h => by cases h; simp
  | n + 1, c :: r, l, h => by
    unfold unesc at h
    cases hp : plainB (cv c) with
    | true =>
      rw [hp, cond_true] at h
      obtain ⟨l', h1, rfl⟩ := Option.map_eq_some_iff.1 h
      have := unesc_len n r l' h1
      simp; omega
    | false =>
      rw [hp, cond_false] at h
      cases he : escAt (c :: r) with
      | none => rw [he] at h; cases h
      | some x =>
        obtain ⟨v, t⟩ := x
        rw [he] at h
        simp only at h
        obtain ⟨l', h1, rfl⟩ := Option.map_eq_some_iff.1 h
        have := unesc_len n t l' h1
        have := escAt_len he
        simp at *; omega
theorem c9 (s : List UInt8) (hl : s.length ≤ 800000) : C9 (s, ()) = some (fin2 (unE s)) := by
  have h := urun (s.length + 1) s [] big (by omega) (by unfold big; omega) hl (by simp; omega)
  have h' : C9_l0 (s, [], ()) = _ := h
  simp only [C9, F9, h', Option.bind_some]
  unfold unE fin2
  cases hu : unesc (s.length + 1) s with
  | none => rfl
  | some l =>
    have hll := unesc_len _ _ _ hu
    simp only [Sum.elim_inl, List.nil_append, c28 l (by omega), Option.bind_some]
    all_goals (cases strE l <;> rfl)
theorem vstep (c : UInt8) (pre r : List UInt8) (n : Nat) (hn : n ≤ 100000000) (hl : pre.length + r.length ≤ 1000) :
    F30_l0 C30_c1 (pre ++ c :: r, (n : Int), (pre.length : Int), ()) = some (match uv c with
      | some x => .inl (pre ++ c :: r, ((16 * n + x : Nat) : Int), ((pre.length + 1 : Nat) : Int), ())
      | none => .inr (.inr (-1, ()))) := by
  have hc := c.toNat_lt
  have hi : decide ((pre.length : Int) < ((pre ++ c :: r).length : Int)) = true := by simp; omega
  have hi0 : decide (0 ≤ (pre.length : Int)) = true := by simp
  have hw : IntKind.i64.wrap ((pre.length : Int) + 1) = ((pre.length + 1 : Nat) : Int) := wrN _ (by omega)
  have hg : (pre ++ c :: r).getD ((pre.length : Int)).toNat 0 = c := by rw [Int.toNat_natCast]; exact gd rfl
  have w1 : IntKind.i64.wrap (16 * (n : Int)) = 16 * (n : Int) := w64 (by omega) (by omega)
  unfold uv
  by_cases h48 : 48 ≤ c.toNat
  · have d48 : decide (((c.toNat : Nat) : Int) ≥ 48) = true := by simp; omega
    have b48 : Nat.ble 48 c.toNat = true := Nat.ble_eq_true_of_le h48
    by_cases h57 : c.toNat ≤ 57
    · have d57 : decide (((c.toNat : Nat) : Int) ≤ 57) = true := by simp; omega
      have b57 : Nat.ble c.toNat 57 = true := Nat.ble_eq_true_of_le h57
      have w2 : IntKind.i64.wrap (IntKind.u8.wrap (((c.toNat : Nat) : Int) - 48)) = ((c.toNat : Nat) : Int) - 48 := by rw [wu8 (by omega) (by omega), w64 (by omega) (by omega)]
      have w3 : IntKind.i64.wrap (16 * (n : Int) + (((c.toNat : Nat) : Int) - 48)) = ((16 * n + (c.toNat - 48) : Nat) : Int) := by rw [w64] <;> omega
      simp only [F30_l0, C30_c1, F30_c1, hi, hi0, hg, hw, w1, w2, w3, d48, d57, b48, b57, cond_true, Bool.and_self, Option.bind_some, Sum.elim_inl]
    · have d57 : decide (((c.toNat : Nat) : Int) ≤ 57) = false := by simp; omega
      have b57 : Nat.ble c.toNat 57 = false := by rw [← Bool.not_eq_true, Nat.ble_eq]; exact h57
      by_cases h65 : 65 ≤ c.toNat
      · have d65 : decide (((c.toNat : Nat) : Int) ≥ 65) = true := by simp; omega
        have b65 : Nat.ble 65 c.toNat = true := Nat.ble_eq_true_of_le h65
        by_cases h70 : c.toNat ≤ 70
        · have d70 : decide (((c.toNat : Nat) : Int) ≤ 70) = true := by simp; omega
          have b70 : Nat.ble c.toNat 70 = true := Nat.ble_eq_true_of_le h70
          have w2 : IntKind.i64.wrap (IntKind.u8.wrap (((c.toNat : Nat) : Int) - 65)) = ((c.toNat : Nat) : Int) - 65 := by rw [wu8 (by omega) (by omega), w64 (by omega) (by omega)]
          have w3 : IntKind.i64.wrap (IntKind.i64.wrap (16 * (n : Int) + (((c.toNat : Nat) : Int) - 65)) + 10) = ((16 * n + (c.toNat - 55) : Nat) : Int) := by
            rw [w64 (n := 16 * (n : Int) + (((c.toNat : Nat) : Int) - 65)) (by omega) (by omega), w64 (by omega) (by omega)]; omega
          simp only [F30_l0, C30_c1, F30_c1, C30_c0, F30_c0, hi, hi0, hg, hw, w1, w2, w3, d48, d57, d65, d70, b48, b57, b65, b70, cond_true, cond_false, Bool.and_self, Bool.and_false, Option.bind_some, Sum.elim_inl]
        · have d70 : decide (((c.toNat : Nat) : Int) ≤ 70) = false := by simp; omega
          have b70 : Nat.ble c.toNat 70 = false := by rw [← Bool.not_eq_true, Nat.ble_eq]; exact h70
          simp only [F30_l0, C30_c1, F30_c1, C30_c0, F30_c0, hi, hi0, hg, hw, d48, d57, d65, d70, b48, b57, b65, b70, cond_true, cond_false, Bool.and_self, Bool.and_false, Option.bind_some, Sum.elim_inl, Sum.elim_inr]
      · have d65 : decide (((c.toNat : Nat) : Int) ≥ 65) = false := by simp; omega
        have b65 : Nat.ble 65 c.toNat = false := by rw [← Bool.not_eq_true, Nat.ble_eq]; exact h65
        simp only [F30_l0, C30_c1, F30_c1, C30_c0, F30_c0, hi, hi0, hg, hw, d48, d57, d65, b48, b57, b65, cond_true, cond_false, Bool.and_self, Bool.and_false, Bool.false_and, Option.bind_some, Sum.elim_inl, Sum.elim_inr]
  · have d48 : decide (((c.toNat : Nat) : Int) ≥ 48) = false := by simp; omega
    have b48 : Nat.ble 48 c.toNat = false := by rw [← Bool.not_eq_true, Nat.ble_eq]; exact h48
    have d65 : decide (((c.toNat : Nat) : Int) ≥ 65) = false := by simp; omega
    have b65 : Nat.ble 65 c.toNat = false := by rw [← Bool.not_eq_true, Nat.ble_eq]; omega
    simp only [F30_l0, C30_c1, F30_c1, C30_c0, F30_c0, hi, hi0, hg, hw, d48, d65, b48, b65, cond_true, cond_false, Bool.and_self, Bool.and_false, Bool.false_and, Option.bind_some, Sum.elim_inl, Sum.elim_inr]
theorem vrun : ∀ (r pre : List UInt8) (n m : Nat), n < 16 ^ pre.length → pre.length + r.length ≤ 6 → r.length < m →
    loopN (F30_l0 C30_c1) m (pre ++ r, (n : Int), (pre.length : Int), ()) = some (match valU n r with | some v => .inl ((v : Int), ()) | none => .inr (-1, ()))
  | _, _, _, 0, _, _, hm => by omega
  | [], pre, n, m + 1, hn, hl, hm => by
    refine loopN_inr ?_
    have hi : decide ((pre.length : Int) < (pre.length : Int)) = false := by simp
    simp only [F30_l0, List.append_nil, hi, cond_false, valU]
  | c :: r, pre, n, m + 1, hn, hl, hm => by
    simp only [List.length_cons] at hl hm
    have hp : 16 ^ pre.length ≤ 16 ^ 6 := Nat.pow_le_pow_right (by omega) (by omega)
    have h6 : (16 : Nat) ^ 6 = 16777216 := by decide
    have hs := vstep c pre r n (by omega) (by omega)
    unfold valU
    cases hc : uv c with
    | none => rw [hc] at hs; rw [loopN_inr hs]
    | some x =>
      have hx := (dgu_uv hc).1
      rw [hc] at hs
      simp only at hs ⊢
      rw [loopN_inl hs, shift, show ((pre.length + 1 : Nat) : Int) = ((pre ++ [c]).length : Int) by simp]
      exact vrun r (pre ++ [c]) (16 * n + x) m (by rw [List.length_append, List.length_cons, List.length_nil, Nat.pow_succ]; omega) (by simp; omega) (by omega)
theorem c30 (d : List UInt8) : C30 (d, ()) = some ((match hexV d with | some n => (n : Int) | none => -1), ()) := by
  unfold hexV
  by_cases h1 : d.length < 1
  · have d1 : decide ((d.length : Int) < 1) = true := by simp; omega
    have b1 : Nat.ble 1 d.length = false := by rw [← Bool.not_eq_true, Nat.ble_eq]; omega
    simp only [C30, F30, d1, b1, cond_true, Bool.false_and, cond_false]
  · have d1 : decide ((d.length : Int) < 1) = false := by simp; omega
    have b1 : Nat.ble 1 d.length = true := Nat.ble_eq_true_of_le (by omega)
    by_cases h6 : d.length > 6
    · have d6 : decide ((d.length : Int) > 6) = true := by simp; omega
      have b6 : Nat.ble d.length 6 = false := by rw [← Bool.not_eq_true, Nat.ble_eq]; omega
      simp only [C30, F30, d1, d6, b1, b6, cond_true, cond_false, Bool.and_false]
    · have d6 : decide ((d.length : Int) > 6) = false := by simp; omega
      have b6 : Nat.ble d.length 6 = true := Nat.ble_eq_true_of_le (by omega)
      have h := vrun d [] 0 big (by simp) (by simp; omega) (by unfold big; omega)
      have h' : C30_l0 (d, 0, 0, ()) = _ := h
      have hc2 : C30_c2 (d, ()) = some ((match valU 0 d with | some n => (n : Int) | none => -1), ()) := by
        simp only [C30_c2, F30_c2, h', Option.bind_some]
        cases valU 0 d <;> rfl
      by_cases hg : d.length > 1
      · have dg : decide ((d.length : Int) > 1) = true := by simp; omega
        have d0 : decide (0 < (d.length : Int)) = true := by simp; omega
        have bg : Nat.beq d.length 1 = false := by rw [← Bool.not_eq_true]; intro e; have := Nat.eq_of_beq_eq_true e; omega
        have hh : (((d.getD 0 0).toNat : Int) == 48) = (d.headD 0 == 48) := by
          cases d with
          | nil => simp at hg
          | cons c r =>
            show (((c.toNat : Nat) : Int) == 48) = (c == 48)
            by_cases hc : c = 48
            · subst hc; rfl
            · have h1 : (c == 48) = false := by simpa using hc
              rw [h1, ibF]
              intro e
              exact hc (u8_eq (n := 48) (by omega))
        simp only [C30, F30, d1, d6, dg, d0, hh, hc2, b1, b6, bg, cond_true, cond_false, Bool.and_self, Bool.false_or, Option.bind_some]
        cases d.headD 0 == 48 <;> rfl
      · have dg : decide ((d.length : Int) > 1) = false := by simp; omega
        have bg : Nat.beq d.length 1 = true := by rw [show d.length = 1 by omega]; rfl
        simp only [C30, F30, d1, d6, dg, hc2, b1, b6, bg, cond_true, cond_false, Bool.and_self, Bool.true_or, Option.bind_some]
end Go.Proofs.YtmfcepdbpdihgaaGreatDoor.W
set_option linter.unusedVariables false
set_option linter.unusedSimpArgs false
set_option maxRecDepth 100000
namespace Go.Proofs.YtmfcepdbpdihgaaGreatDoor.W
open Go Go.Ae Go.Pl
theorem krun (x1 : Int) (x3 : List Int) : ∀ (t pre : List UInt8) (m : Nat), pre.length + t.length ≤ 1000000000 → t.length < m →
    loopN F10_l0 m (pre ++ t, x1, (pre.length : Int), x3, ()) = some (pre ++ t, x1, ((pre.length + fp e125 t : Nat) : Int), x3, ())
  | _, _, 0, _, hm => by omega
  | [], pre, m + 1, hl, hm => by
    refine loopN_inr ?_
    have hi : decide ((pre.length : Int) < (pre.length : Int)) = false := by simp
    simp only [F10_l0, List.append_nil, hi, cond_false, fp, Nat.add_zero]
  | c :: t, pre, m + 1, hl, hm => by
    simp only [List.length_cons] at hl hm
    have hi : decide ((pre.length : Int) < ((pre ++ c :: t).length : Int)) = true := by simp; omega
    have hi0 : decide (0 ≤ (pre.length : Int)) = true := by simp
    have hw : IntKind.i64.wrap ((pre.length : Int) + 1) = ((pre.length + 1 : Nat) : Int) := wrN _ (by omega)
    have hg : (pre ++ c :: t).getD ((pre.length : Int)).toNat 0 = c := by rw [Int.toNat_natCast]; exact gd rfl
    have hb : (((c.toNat : Nat) : Int) != 125) = !(e125 c) := by
      unfold e125
      by_cases hc : c = 125
      · subst hc; rfl
      · have h1 : (c == 125) = false := by simpa using hc
        rw [h1, inT]; rfl
        intro e
        exact hc (u8_eq (n := 125) (by omega))
    cases he : e125 c with
    | true =>
      rw [loopN_inr (y := (pre ++ c :: t, x1, (pre.length : Int), x3, ())) (by simp only [F10_l0, hi, hi0, hg, hb, he, cond_true, cond_false, Bool.and_self, Bool.not_true])]
      simp [fp, he]
    | false =>
      rw [loopN_inl (v' := (pre ++ c :: t, x1, ((pre.length + 1 : Nat) : Int), x3, ())) (by simp only [F10_l0, hi, hi0, hg, hw, hb, he, cond_true, cond_false, Bool.and_self, Bool.not_false])]
      rw [shift, show ((pre.length + 1 : Nat) : Int) = ((pre ++ [c]).length : Int) by simp, krun x1 x3 t (pre ++ [c]) m (by simp; omega) (by omega)]
      simp only [fp, he, cond_false, List.length_append, List.length_cons, List.length_nil]
      congr 4
      omega
def escAtR (s : List UInt8) : Option (Int × List UInt8) := match escAt s with
  | some (v, t) => if 1114111 < v then none else some (v, t)
  | none => none
theorem rc0_ (pre rest : List UInt8) (out : List Int) (hl : pre.length + rest.length ≤ 1000000) (ho : out.length ≤ 1000000) :
    C10_c0 (pre ++ 92 :: 120 :: 123 :: rest, (pre.length : Int), out, ()) = some (match escAtR (92 :: 120 :: 123 :: rest) with
      | some (v, t) => .inr (pre ++ 92 :: 120 :: 123 :: rest, ((pre.length + 3 + fp e125 rest : Nat) : Int), out ++ [v], ())
      | none => .inl ([], false, ())) := by
  have hsp : pre ++ 92 :: 120 :: 123 :: rest = (pre ++ [92, 120, 123]) ++ rest := by simp
  have hpl : (pre ++ [92, 120, 123]).length = pre.length + 3 := by simp
  have hw3 : IntKind.i64.wrap ((pre.length : Int) + 3) = ((pre.length + 3 : Nat) : Int) := by rw [w64] <;> omega
  have hk := krun (pre.length : Int) out rest (pre ++ [92, 120, 123]) big (by rw [hpl]; omega) (by unfold big; omega)
  rw [hpl] at hk
  have hk' : C10_l0 ((pre ++ [92, 120, 123]) ++ rest, (pre.length : Int), ((pre.length + 3 : Nat) : Int), out, ()) = _ := hk
  have hle := fp_le e125 rest
  have hhp : hasP [92, 120, 123] (92 :: 120 :: 123 :: rest) = true := by simp [hasP]
  have hd3 : (92 :: 120 :: 123 :: rest).drop 3 = rest := rfl
  unfold escAtR escAt
  rw [if_pos hhp, hd3, hsp]
  simp only [C10_c0, F10_c0, hw3, hk', Option.bind_some]
  have hlen : ((pre ++ [92, 120, 123]) ++ rest).length = pre.length + 3 + rest.length := by rw [List.length_append, hpl]
  by_cases hf : fp e125 rest < rest.length
  · have e1 : (((pre.length + 3 + fp e125 rest : Nat) : Int) == ((((pre ++ [92, 120, 123]) ++ rest).length : Nat) : Int)) = false := by rw [hlen, ibF]; omega
    have e2 : decide (0 ≤ ((pre.length + 3 + fp e125 rest : Nat) : Int)) = true := by simp; omega
    have e3 : decide (((pre.length + 3 + fp e125 rest : Nat) : Int) ≤ ((((pre ++ [92, 120, 123]) ++ rest).length : Nat) : Int)) = true := by rw [hlen]; simp; omega
    have e4 : decide (0 ≤ ((pre.length + 3 : Nat) : Int)) = true := by simp; omega
    have e5 : decide (((pre.length + 3 : Nat) : Int) ≤ ((pre.length + 3 + fp e125 rest : Nat) : Int)) = true := by simp; omega
    have htd : List.drop (pre.length + 3) (List.take (pre.length + 3 + fp e125 rest) ((pre ++ [92, 120, 123]) ++ rest)) = rest.take (fp e125 rest) := by
      rw [List.take_append, hpl, List.take_of_length_le (by rw [hpl]; omega), Nat.add_sub_cancel_left]
      exact dr hpl
    rw [if_pos hf]
    simp only [e1, e2, e3, e4, e5, Int.toNat_natCast, htd, c30, cond_true, cond_false, Bool.and_self, Option.bind_some]
    cases hv : hexV (rest.take (fp e125 rest)) with
    | none =>
      have d : decide ((-1 : Int) < 0) = true := by decide
      simp only [d, cond_true]
    | some n =>
      have hn := (hexV_back hv).2.2
      have d : decide ((n : Int) < 0) = false := by simp
      have hw : IntKind.i32.wrap (n : Int) = n := w32 (by omega) (by omega)
      simp only [d, cond_false, hw, c29, Option.bind_some]
      have eo : decide (out.length + 1 ≤ 140737488355328 / 4) = true := by simp; omega
      by_cases hp : plainB (n : Int) = true
      · rw [if_pos hp, hp]
        have h2 : decide ((n : Int) > 1114111) = false := by have := plainB_iff.1 hp; simp; omega
        simp only [h2, cond_false, cond_true]
      · rw [if_neg hp]
        simp only [Bool.not_eq_true] at hp
        rw [hp]
        by_cases hb : 1114111 < (n : Int)
        · have h2 : decide ((n : Int) > 1114111) = true := by simp; omega
          simp only [h2, cond_true, if_pos hb]
        · have h2 : decide ((n : Int) > 1114111) = false := by simp; omega
          simp only [h2, cond_false, if_neg hb, List.length_cons, List.length_nil, Nat.zero_add, eo, cond_true]
  · have hfe : fp e125 rest = rest.length := by omega
    have e1 : (((pre.length + 3 + fp e125 rest : Nat) : Int) == ((((pre ++ [92, 120, 123]) ++ rest).length : Nat) : Int)) = true := by rw [hlen, hfe, ibT]; rfl
    rw [if_neg hf]
    simp only [e1, cond_true]
theorem escAt_no {s : List UInt8} (h : hasP [92, 120, 123] s = false) : escAtR s = none := by
  unfold escAtR escAt
  rw [if_neg (by rw [h]; simp)]
theorem ne_byte {c : UInt8} {n : Nat} (hn : n < 256) (h : c ≠ UInt8.ofNat n) : (((c.toNat : Nat) : Int) != (n : Int)) = true := by
  rw [inT]
  intro e
  exact h (u8_eq (by omega))
theorem rstep (c : UInt8) (r pre : List UInt8) (out : List Int) (hl : pre.length + r.length ≤ 900000) (ho : out.length ≤ 1000000) :
    F10_l1 C29 C10_c0 (pre ++ c :: r, (pre.length : Int), out, ()) = some (bif plainB (cv c) then .inl (pre ++ c :: r, ((pre.length + 1 : Nat) : Int), out ++ [cv c], ()) else match escAtR (c :: r) with
      | some (v, t) => .inl (pre ++ c :: r, ((pre.length + (r.length + 1 - t.length) : Nat) : Int), out ++ [v], ())
      | none => .inr (.inr ([], false, ()))) := by
  have hlen : (pre ++ c :: r).length = pre.length + (r.length + 1) := by simp
  have hi : decide ((pre.length : Int) < ((pre ++ c :: r).length : Int)) = true := by simp; omega
  have hi0 : decide (0 ≤ (pre.length : Int)) = true := by simp
  have hw : IntKind.i64.wrap ((pre.length : Int) + 1) = ((pre.length + 1 : Nat) : Int) := wrN _ (by omega)
  have hw2 : IntKind.i64.wrap ((pre.length : Int) + 2) = ((pre.length + 2 : Nat) : Int) := by rw [w64] <;> omega
  have hg : (pre ++ c :: r).getD ((pre.length : Int)).toNat 0 = c := by rw [Int.toNat_natCast]; exact gd rfl
  have eo : decide (out.length + 1 ≤ 140737488355328 / 4) = true := by simp; omega
  have hwl : IntKind.i64.wrap (((pre ++ c :: r).length : Int) - (pre.length : Int)) = ((r.length + 1 : Nat) : Int) := by rw [hlen, w64] <;> omega
  cases hp : plainB (cv c) with
  | true =>
    simp only [F10_l1, hi, hi0, hg, hw, cv32, c29, hp, List.length_cons, List.length_nil, Nat.zero_add, eo, Option.bind_some, cond_true, Bool.and_self]
  | false =>
    by_cases h4 : r.length + 1 < 4
    · have e4 : decide (((r.length + 1 : Nat) : Int) < 4) = true := by simp; omega
      have hnone : escAtR (c :: r) = none := by
        cases hh : hasP [92, 120, 123] (c :: r) with
        | false => exact escAt_no hh
        | true =>
          have hx := (hasP_len hh).2
          have h3 := (hasP_len hh).1
          simp only [List.length_cons, List.length_nil] at h3
          unfold escAtR escAt
          rw [if_pos hh, if_neg]
          simp only [List.length_drop, List.length_cons]
          omega
      simp only [F10_l1, hi, hi0, hg, cv32, c29, hp, hwl, e4, hnone, Option.bind_some, cond_true, cond_false, Bool.and_self]
    · have e4 : decide (((r.length + 1 : Nat) : Int) < 4) = false := by simp; omega
      match r, h4 with
      | [], h4 => simp at h4
      | [_], h4 => simp at h4
      | a :: b :: t, h4 =>
        simp only [List.length_cons] at hl h4
        have hg0 : (pre ++ c :: a :: b :: t).getD pre.length 0 = c := gd rfl
        have hg1 : (pre ++ c :: a :: b :: t).getD (pre.length + 1) 0 = a := by
          rw [shift]; exact gd (by simp)
        have hg2 : (pre ++ c :: a :: b :: t).getD (pre.length + 2) 0 = b := by
          rw [shift, shift]; exact gd (by simp)
        have j1 : decide (0 ≤ ((pre.length + 1 : Nat) : Int)) = true := by simp; omega
        have j2 : decide (((pre.length + 1 : Nat) : Int) < ((pre ++ c :: a :: b :: t).length : Int)) = true := by rw [hlen]; simp; omega
        have j3 : decide (0 ≤ ((pre.length + 2 : Nat) : Int)) = true := by simp; omega
        have j4 : decide (((pre.length + 2 : Nat) : Int) < ((pre ++ c :: a :: b :: t).length : Int)) = true := by rw [hlen]; simp; omega
        by_cases hc : c = 92
        · have b1 : (((c.toNat : Nat) : Int) != 92) = false := by rw [hc]; rfl
          by_cases ha : a = 120
          · have b2 : (((a.toNat : Nat) : Int) != 120) = false := by rw [ha]; rfl
            by_cases hb : b = 123
            · have b3 : (((b.toNat : Nat) : Int) != 123) = false := by rw [hb]; rfl
              have hr0 := rc0_ pre t out (by omega) ho
              rw [← hc, ← ha, ← hb] at hr0
              simp only [F10_l1, hi, hi0, hg, hg0, hw, hw2, hg1, hg2, j1, j2, j3, j4, b1, b2, b3, cv32, c29, hp, hwl, e4, Int.toNat_natCast, hr0, Option.bind_some, cond_true, cond_false, Bool.and_self]
              cases he : escAtR (c :: a :: b :: t) with
              | none => simp only [Sum.elim_inl]
              | some x =>
                obtain ⟨v, t'⟩ := x
                have hle := fp_le e125 t
                have ht' : t'.length + (fp e125 t + 1) = t.length := by
                  rw [hc, ha, hb] at he
                  have hhp : hasP [92, 120, 123] (92 :: 120 :: 123 :: t) = true := by simp [hasP]
                  have hd3 : (92 :: 120 :: 123 :: t).drop 3 = t := rfl
                  unfold escAtR escAt at he
                  rw [if_pos hhp, hd3] at he
                  by_cases hf : fp e125 t < t.length
                  · rw [if_pos hf] at he
                    cases hv : hexV (t.take (fp e125 t)) with
                    | none => rw [hv] at he; cases he
                    | some n =>
                      rw [hv] at he
                      simp only at he
                      by_cases hpl : plainB (n : Int) = true
                      · rw [if_pos hpl] at he; cases he
                      · rw [if_neg hpl] at he
                        simp only at he
                        by_cases hbig : 1114111 < (n : Int)
                        · rw [if_pos hbig] at he; cases he
                        · rw [if_neg hbig] at he
                          simp only [Option.some.injEq, Prod.mk.injEq] at he
                          rw [← he.2, List.length_drop]; omega
                  · rw [if_neg hf] at he; cases he
                have hwk : IntKind.i64.wrap (((pre.length + 3 + fp e125 t : Nat) : Int) + 1) = ((pre.length + ((t.length + 1 + 1) + 1 - t'.length) : Nat) : Int) := by rw [w64] <;> omega
                simp only [Sum.elim_inr, hwk, List.length_cons]
            · have b3 : (((b.toNat : Nat) : Int) != 123) = true := ne_byte (n := 123) (by omega) hb
              have hnone : escAtR (c :: a :: b :: t) = none := escAt_no (by
                rw [hc, ha]
                cases hh : hasP [92, 120, 123] (92 :: 120 :: b :: t) with
                | false => rfl
                | true => exact absurd (by simpa [hasP] using hh) hb)
              simp only [F10_l1, hi, hi0, hg, hg0, hw, hw2, hg1, hg2, j1, j2, j3, j4, b1, b2, b3, cv32, c29, hp, hwl, e4, Int.toNat_natCast, hnone, Option.bind_some, cond_true, cond_false, Bool.and_self]
          · have b2 : (((a.toNat : Nat) : Int) != 120) = true := ne_byte (n := 120) (by omega) ha
            have hnone : escAtR (c :: a :: b :: t) = none := escAt_no (by
              rw [hc]
              cases hh : hasP [92, 120, 123] (92 :: a :: b :: t) with
              | false => rfl
              | true =>
                have : a = 120 ∧ b = 123 := by simpa [hasP] using hh
                exact absurd this.1 ha)
            simp only [F10_l1, hi, hi0, hg, hg0, hw, hw2, hg1, hg2, j1, j2, j3, j4, b1, b2, cv32, c29, hp, hwl, e4, Int.toNat_natCast, hnone, Option.bind_some, cond_true, cond_false, Bool.and_self]
        · have b1 : (((c.toNat : Nat) : Int) != 92) = true := ne_byte (n := 92) (by omega) hc
          have hnone : escAtR (c :: a :: b :: t) = none := escAt_no (by
            cases hh : hasP [92, 120, 123] (c :: a :: b :: t) with
            | false => rfl
            | true =>
              have : c = 92 ∧ a = 120 ∧ b = 123 := by simpa [hasP] using hh
              exact absurd this.1 hc)
          simp only [F10_l1, hi, hi0, hg, b1, cv32, c29, hp, hwl, e4, hnone, Option.bind_some, cond_true, cond_false, Bool.and_self]
def unescR : Nat → List UInt8 → Option (List Int)
  | 0, _ => none
  | _ + 1, [] => some []
  | n + 1, c :: r => bif plainB (cv c) then (unescR n r).map (cv c :: ·) else match escAtR (c :: r) with
    | some (v, t) => (unescR n t).map (v :: ·)
    | none => none
theorem escAtR_some {s : List UInt8} {v : Int} {t : List UInt8} (h : escAtR s = some (v, t)) : escAt s = some (v, t) := by
  unfold escAtR at h
  split at h
  · rename_i v' t' he
    split at h
    · cases h
    · rw [he, ← h]
  · cases h
theorem escAt_suf {s : List UInt8} {v : Int} {t : List UInt8} (h : escAt s = some (v, t)) : s.drop (s.length - t.length) = t := by
  unfold escAt at h
  split at h
  · rename_i hp
    split at h
    · rename_i hf
      split at h
      · split at h
        · cases h
        · simp only [Option.some.injEq, Prod.mk.injEq] at h
          have hl := (hasP_len hp).1
          simp only [List.length_cons, List.length_nil] at hl
          simp only [List.length_drop] at hf
          rw [← h.2, List.drop_drop, List.length_drop]
          congr 1; omega
      · cases h
    · cases h
  · cases h
theorem rrun25 : ∀ (n : Nat) (s pre : List UInt8) (out : List Int) (m : Nat), s.length < n → s.length < m → pre.length + s.length ≤ 800000 → out.length + s.length ≤ 1000000 →
    loopN (F10_l1 C29 C10_c0) m (pre ++ s, (pre.length : Int), out, ()) = some (match unescR n s with | some l => .inl (out ++ l, ()) | none => .inr ([], false, ()))
  | 0, _, _, _, _, hn, _, _, _ => by omega
  | _, _, _, _, 0, _, hm, _, _ => by omega
  | n + 1, [], pre, out, m + 1, hn, hm, hl, ho => by
    refine loopN_inr ?_
    have hi : decide ((pre.length : Int) < (pre.length : Int)) = false := by simp
    simp only [F10_l1, List.append_nil, hi, cond_false, unescR]
  | n + 1, c :: r, pre, out, m + 1, hn, hm, hl, ho => by
    simp only [List.length_cons] at hn hm hl ho
    have hs := rstep c r pre out (by omega) (by omega)
    unfold unescR
    cases hp : plainB (cv c) with
    | true =>
      rw [hp, cond_true] at hs
      rw [loopN_inl hs, shift, show ((pre.length + 1 : Nat) : Int) = ((pre ++ [c]).length : Int) by simp, rrun25 n r (pre ++ [c]) (out ++ [cv c]) m (by omega) (by omega) (by simp; omega) (by simp; omega), cond_true]
      cases unescR n r <;> simp
    | false =>
      rw [hp, cond_false] at hs
      rw [cond_false]
      cases he : escAtR (c :: r) with
      | none => rw [he] at hs; rw [loopN_inr hs]
      | some x =>
        obtain ⟨v, t⟩ := x
        have he' := escAtR_some he
        have ht := escAt_len he'
        have hsf := escAt_suf he'
        simp only [List.length_cons] at ht hsf
        rw [he] at hs
        have hsplit : pre ++ c :: r = (pre ++ (c :: r).take (r.length + 1 - t.length)) ++ t := by
          rw [List.append_assoc]
          conv => lhs; rw [← List.take_append_drop (r.length + 1 - t.length) (c :: r), hsf]
        have hpl : (pre ++ (c :: r).take (r.length + 1 - t.length)).length = pre.length + (r.length + 1 - t.length) := by rw [List.length_append, List.length_take, List.length_cons]; omega
        have ih := rrun25 n t (pre ++ (c :: r).take (r.length + 1 - t.length)) (out ++ [v]) m (by omega) (by omega) (by rw [hpl]; omega) (by simp; omega)
        rw [← hsplit, hpl] at ih
        rw [loopN_inl hs, ih]
        simp only
        cases unescR n t <;> simp
theorem unesc_R : ∀ (n : Nat) (s : List UInt8), unescR n s = unesc n s ∨ (unescR n s = none ∧ ∃ l, unesc n s = some l ∧ strE l = none) ∨ (unescR n s = none ∧ unesc n s = none)
  | 0, _ => .inl rfl
  | n + 1, [] => .inl rfl
  | n + 1, c :: r => by
    have hcons : ∀ (v : Int) (l : List Int), strE l = none → strE (v :: l) = none := by
      intro v l h; rw [strE, h]; split <;> rfl
    unfold unescR unesc
    cases hp : plainB (cv c) with
    | true =>
      simp only [cond_true]
      rcases unesc_R n r with h | ⟨h1, l, h2, h3⟩ | ⟨h1, h2⟩
      · left; rw [h]
      · right; left; exact ⟨by rw [h1]; rfl, cv c :: l, by rw [h2]; rfl, hcons _ _ h3⟩
      · right; right; exact ⟨by rw [h1]; rfl, by rw [h2]; rfl⟩
    | false =>
      simp only [cond_false]
      unfold escAtR
      cases he : escAt (c :: r) with
      | none => left; rfl
      | some x =>
        obtain ⟨v, t⟩ := x
        simp only
        by_cases hb : 1114111 < v
        · rw [if_pos hb]
          cases hu : unesc n t with
          | none => right; right; exact ⟨rfl, rfl⟩
          | some l =>
            right; left
            refine ⟨rfl, v :: l, rfl, ?_⟩
            have hr : rightB v = false := by
              cases hr : rightB v with
              | false => rfl
              | true => have := rightB_iff.1 hr; omega
            rw [strE, hr, if_neg (by simp)]
        · rw [if_neg hb]
          simp only
          rcases unesc_R n t with h | ⟨h1, l, h2, h3⟩ | ⟨h1, h2⟩
          · left; rw [h]
          · right; left; exact ⟨by rw [h1]; rfl, v :: l, by rw [h2]; rfl, hcons _ _ h3⟩
          · right; right; exact ⟨by rw [h1]; rfl, by rw [h2]; rfl⟩
theorem fin_R (n : Nat) (s : List UInt8) : fin2 (unescR n s) = fin2 (unesc n s) := by
  rcases unesc_R n s with h | ⟨h1, l, h2, h3⟩ | ⟨h1, h2⟩
  · rw [h]
  · rw [h1, h2]; simp [fin2, h3]
  · rw [h1, h2]
theorem c10 (s : List UInt8) (hl : s.length ≤ 800000) : C10 (s, ()) = some (fin2 (unE s)) := by
  have h := rrun25 (s.length + 1) s [] [] big (by omega) (by unfold big; omega) (by simp; omega) (by simp; omega)
  have h' : C10_l1 (s, 0, [], ()) = _ := h
  unfold unE
  rw [← fin_R]
  simp only [C10, F10, h', Option.bind_some]
  cases hu : unescR (s.length + 1) s with
  | none => rfl
  | some l =>
    have hll : l.length ≤ s.length := by
      rcases unesc_R (s.length + 1) s with h | ⟨h1, _⟩ | ⟨h1, _⟩
      · exact unesc_len _ _ _ (h.symm.trans hu)
      · rw [h1] at hu; cases hu
      · rw [h1] at hu; cases hu
    simp only [Sum.elim_inl, List.nil_append, c31 l (by omega), Option.bind_some, fin2]
    all_goals (cases strE l <;> rfl)
end Go.Proofs.YtmfcepdbpdihgaaGreatDoor.W
set_option linter.unusedVariables false
set_option linter.unusedSimpArgs false
set_option maxRecDepth 100000
namespace Go.Proofs.YtmfcepdbpdihgaaGreatDoor.W
open Go Go.Ae Go.Pl
theorem unE_nil : unE [] = some [] := rfl
theorem unE_cons (c : UInt8) (r : List UInt8) : unE (c :: r) = bif plainB (cv c) then (unE r).map (cv c :: ·) else match escAt (c :: r) with
    | some (v, t) => (unE t).map (v :: ·)
    | none => none := by
  unfold unE
  rw [List.length_cons]
  conv => lhs; unfold unesc
  cases plainB (cv c) with
  | true => rfl
  | false =>
    simp only [cond_false]
    cases he : escAt (c :: r) with
    | none => rfl
    | some x =>
      obtain ⟨v, t⟩ := x
      have ht := escAt_len he
      simp only [List.length_cons] at ht
      simp only
      rw [unesc_more (r.length + 1) (t.length + 1) t (by omega) (by omega)]
def hxB (c : UInt8) : Bool := (Nat.ble 32 c.toNat && Nat.ble c.toNat 126) && !e125 c
theorem dgu_hx : ∀ n, n < 16 → hxB (dgu n) = true := fin16 (p := fun n => hxB (dgu n)) (by decide)
theorem hexU_hx (n : Nat) : (hexU n).all hxB = true := hexF_all hxB dgu dgu_hx 16 n
theorem fp_app {p : UInt8 → Bool} : ∀ (l t : List UInt8), (∀ c ∈ l, p c = false) → fp p (l ++ t) = l.length + fp p t
  | [], t, _ => by simp
  | c :: l, t, h => by
    rw [List.cons_append, fp, h c List.mem_cons_self, cond_false, fp_app l t fun x hx => h x (List.mem_cons_of_mem _ hx)]
    simp; omega
theorem hexU_125 (n : Nat) : ∀ c ∈ hexU n, e125 c = false := fun c hc => by
  have h := List.all_eq_true.1 (hexU_hx n) c hc
  simp only [hxB, Bool.and_eq_true, Bool.not_eq_true'] at h
  exact h.2
theorem hexU_six {n : Nat} (h : n < 16777216) : (hexU n).length ≤ 6 := by
  have : hexU n = hexF dgu 6 n := hexF_more dgu 5 15 n (by omega) (by omega)
  rw [this]; exact hexF_len dgu 6 n
theorem escAt_hex (n : Nat) (t : List UInt8) : escAt ([92, 120, 123] ++ hexU n ++ [125] ++ t) = match hexV (hexU n) with
    | some n => if plainB (n : Int) = true then none else some ((n : Int), t)
    | none => none := by
  have hs : [92, 120, 123] ++ hexU n ++ [125] ++ t = 92 :: 120 :: 123 :: (hexU n ++ 125 :: t) := by simp
  rw [hs]
  have hhp : hasP [92, 120, 123] (92 :: 120 :: 123 :: (hexU n ++ 125 :: t)) = true := by simp [hasP]
  have hd3 : (92 :: 120 :: 123 :: (hexU n ++ 125 :: t)).drop 3 = hexU n ++ 125 :: t := rfl
  have hf : fp e125 (hexU n ++ 125 :: t) = (hexU n).length := by
    rw [fp_app _ _ (hexU_125 n)]
    simp [fp, e125]
  unfold escAt
  rw [if_pos hhp, hd3, hf, if_pos (by simp), List.take_left]
  have hdr : List.drop ((hexU n).length + 1) (hexU n ++ 125 :: t) = t := by
    rw [shift]; exact dr (by simp)
  rw [hdr]
  all_goals (cases hexV (hexU n) <;> rfl)
theorem unE_escR {v : Int} (hr : rightB v = true) (t : List UInt8) : unE (escR v ++ t) = (unE t).map (v :: ·) := by
  have hi := rightB_iff.1 hr
  unfold escR
  cases hp : plainB v with
  | true =>
    have hp' := plainB_iff.1 hp
    have e := b8_cv (n := v) (by omega) (by omega)
    rw [if_pos rfl]
    show unE (b8 v :: t) = _
    rw [unE_cons, e, hp, cond_true]
  | false =>
    rw [if_neg (by simp)]
    have hc : [92, 120, 123] ++ hexU v.toNat ++ [125] ++ t = 92 :: (120 :: 123 :: (hexU v.toNat ++ 125 :: t)) := by simp
    have h92 : plainB (cv 92) = false := by decide
    rw [hc, unE_cons, h92, cond_false, ← hc, escAt_hex, hexV_of (by omega) (hexU_six (by omega))]
    have e : ((v.toNat : Nat) : Int) = v := by omega
    simp only [e, hp]
    rfl
theorem unE_flat : ∀ (l : List Int) (t : List UInt8), (∀ v ∈ l, rightB v = true) → unE (l.flatMap escR ++ t) = (unE t).map (l ++ ·)
  | [], t, _ => by
    show unE t = _
    cases unE t <;> rfl
  | v :: l, t, h => by
    rw [List.flatMap_cons, List.append_assoc, unE_escR (h v List.mem_cons_self), unE_flat l t fun u hu => h u (List.mem_cons_of_mem _ hu)]
    cases unE t <;> rfl
theorem hexV_zero (l : List UInt8) : hexV (48 :: 48 :: l) = none := by
  unfold hexV
  have b1 : Nat.beq (48 :: 48 :: l : List UInt8).length 1 = false := by
    rw [← Bool.not_eq_true]; intro e; have := Nat.eq_of_beq_eq_true e; simp at this
  rw [b1]
  cases (Nat.ble 1 (48 :: 48 :: l : List UInt8).length && Nat.ble (48 :: 48 :: l : List UInt8).length 6) <;> rfl
theorem unE_escB (c : UInt8) (t : List UInt8) : unE (escB c ++ t) = none := by
  have hc : escB c ++ t = 92 :: (120 :: 123 :: ((48 :: 48 :: hexU c.toNat) ++ 125 :: t)) := by simp [escB]
  have h92 : plainB (cv 92) = false := by decide
  have hf : fp e125 ((48 :: 48 :: hexU c.toNat) ++ 125 :: t) = (48 :: 48 :: hexU c.toNat).length := by
    rw [fp_app]
    · simp [fp, e125]
    · intro x hx
      rcases List.mem_cons.1 hx with rfl | hx
      · rfl
      · rcases List.mem_cons.1 hx with rfl | hx
        · rfl
        · exact hexU_125 _ x hx
  have hhp : hasP [92, 120, 123] (92 :: 120 :: 123 :: ((48 :: 48 :: hexU c.toNat) ++ 125 :: t)) = true := by simp [hasP]
  have hd3 : (92 :: 120 :: 123 :: ((48 :: 48 :: hexU c.toNat) ++ 125 :: t)).drop 3 = (48 :: 48 :: hexU c.toNat) ++ 125 :: t := rfl
  rw [hc, unE_cons, h92, cond_false]
  have he : escAt (92 :: 120 :: 123 :: ((48 :: 48 :: hexU c.toNat) ++ 125 :: t)) = none := by
    unfold escAt
    rw [if_pos hhp, hd3, hf, if_pos (by simp), List.take_left, hexV_zero]
  rw [he]
theorem strE_rl {s : List UInt8} (h : rr s = []) : strE (rl s) = some s := by
  have h1 := rl_rr s
  rw [h, List.append_nil] at h1
  rw [strE_all, if_pos (List.all_eq_true.2 (rl_right s)), ← h1]
theorem back1 (s : List UInt8) : fin2 (unE (esc s)) = if rr s = [] then (s, true, ()) else ([], false, ()) := by
  unfold esc
  rw [unE_flat _ _ (rl_right s)]
  split
  · rename_i h
    rw [h, List.flatMap_nil, unE_nil]
    simp only [Option.map_some, List.append_nil, fin2, strE_rl h]
  · rename_i h
    cases hr : rr s with
    | nil => exact absurd hr h
    | cons c t =>
      rw [List.flatMap_cons, unE_escB]
      rfl
theorem fin_cases (o : Option (List Int)) : (∃ y, fin2 o = (y, true, ())) ∨ fin2 o = ([], false, ()) := by
  unfold fin2
  split
  · split
    · exact .inl ⟨_, rfl⟩
    · exact .inr rfl
  · exact .inr rfl
def ascB (c : UInt8) : Bool := Nat.ble 32 c.toNat && Nat.ble c.toNat 126
theorem esc_asc (s : List UInt8) : (esc s).all ascB = true := by
  have hx : ∀ n, (hexU n).all ascB = true := fun n => by
    rw [List.all_eq_true]
    intro c hc
    have h := List.all_eq_true.1 (hexU_hx n) c hc
    simp only [hxB, Bool.and_eq_true] at h
    simp only [ascB, Bool.and_eq_true]; exact h.1
  have hR : ∀ v, (escR v).all ascB = true := fun v => by
    unfold escR
    split
    · rename_i hp
      have hp' := plainB_iff.1 hp
      have e := b8_cv (n := v) (by omega) (by omega)
      unfold cv at e
      simp only [List.all_cons, List.all_nil, Bool.and_true, ascB, Bool.and_eq_true]
      exact ⟨Nat.ble_eq_true_of_le (by omega), Nat.ble_eq_true_of_le (by omega)⟩
    · rw [List.all_append, List.all_append, hx]; rfl
  have hB : ∀ c, (escB c).all ascB = true := fun c => by
    unfold escB
    rw [List.all_append, List.all_append, hx]; rfl
  unfold esc
  rw [List.all_append, List.all_flatMap, List.all_flatMap, Bool.and_eq_true]
  exact ⟨List.all_eq_true.2 fun v _ => hR v, List.all_eq_true.2 fun c _ => hB c⟩
end Go.Proofs.YtmfcepdbpdihgaaGreatDoor.W
set_option linter.unusedVariables false
set_option linter.unusedSimpArgs false
set_option maxRecDepth 100000
namespace Go.Proofs.YtmfcepdbpdihgaaGreatDoor.W
open Go Go.Ae Go.Pl
theorem at4 {α : Type} (pre r : List α) (c d : α) (hl : pre.length + r.length ≤ 1000000000) : decide ((pre.length : Int) < ((pre ++ c :: r).length : Int)) = true ∧ decide (0 ≤ (pre.length : Int)) = true ∧
    IntKind.i64.wrap ((pre.length : Int) + 1) = ((pre.length + 1 : Nat) : Int) ∧ (pre ++ c :: r).getD ((pre.length : Int)).toNat d = c :=
  ⟨by simp; omega, by simp, wrN _ (by omega), by rw [Int.toNat_natCast]; exact gd rfl⟩
theorem at0 (n : Nat) : decide ((n : Int) < (n : Int)) = false := by simp
theorem pl1 {α : Type} (pre : List α) (c : α) : ((pre.length + 1 : Nat) : Int) = ((pre ++ [c]).length : Int) := by simp
def fdB (c : UInt8) : Bool := match C111 ((c.toNat : Int), ()) with | some (x, _) => decide (x = ((lowB c).toNat : Int)) | none => false
theorem fdB_k : ((List.range 256).all fun n => fdB (UInt8.ofNat n)) = true := by kernel_rfl
theorem c111 (c : UInt8) : C111 ((c.toNat : Int), ()) = some (((lowB c).toNat : Int), ()) := by
  have k := all256 fdB fdB_k c
  unfold fdB at k
  cases h : C111 ((c.toNat : Int), ()) with
  | none => rw [h] at k; cases k
  | some x =>
    obtain ⟨x, u⟩ := x
    rw [h] at k
    have : x = ((lowB c).toNat : Int) := by simpa using k
    rw [this]
theorem frun : ∀ (r pre out : List UInt8) (N : Int) (n : Nat), N = ((pre ++ r).length : Int) → pre.length + r.length ≤ 1000000000 → out.length + r.length ≤ 1000000000000 → r.length < n →
    loopN (F110_l0 C111) n (pre ++ r, N, (pre.length : Int), out, ()) = some (out ++ r.map lowB, ())
  | _, _, _, _, 0, _, _, _, hn => by omega
  | [], pre, out, N, n + 1, hN, hl, ho, hn => by
    subst hN
    refine loopN_inr ?_
    simp only [F110_l0, List.append_nil, at0, cond_false, List.map_nil]
  | c :: r, pre, out, N, n + 1, hN, hl, ho, hn => by
    subst hN
    simp only [List.length_cons] at hl ho hn
    obtain ⟨hi, hi0, hw, hg⟩ := at4 pre r c 0 (by omega)
    have eo : decide (out.length + 1 ≤ 140737488355328 / 1) = true := by simp; omega
    rw [loopN_inl (v' := (pre ++ c :: r, ((pre ++ c :: r).length : Int), ((pre.length + 1 : Nat) : Int), out ++ [lowB c], ())) (by
      simp only [F110_l0, hi, hi0, hg, hw, c111, List.length_cons, List.length_nil, Nat.zero_add, Option.bind_some, cond_true, Bool.and_self, byte_back]
      simp only [eo, cond_true])]
    rw [shift, pl1 pre c, frun r (pre ++ [c]) (out ++ [lowB c]) _ n (by simp) (by simp; omega) (by simp; omega) (by omega)]
    simp
theorem c86 (s : List UInt8) (hl : s.length ≤ 1000000) : C86 (s, ()) = some (s.map lowB, ()) := by
  have h := frun s [] [] (s.length : Int) big (by simp) (by simp; omega) (by simp; omega) (by unfold big; omega)
  have h' : C110_l0 (s, (s.length : Int), 0, [], ()) = _ := h
  have e : decide (s.length ≤ 9223372036854775807) = true := by simp; omega
  simp only [C86, F86, C110, F110, h', e, cond_true, Option.bind_some, List.nil_append]
theorem c102 (s : List UInt8) (hl : s.length ≤ 1000000) : C102 (s, ()) = some (s.map lowB, ()) := by
  rw [C102, if_pos (show s.length ≤ 140737488355328 by omega)]
def postm : List UInt8 := [112, 111, 115, 116, 109, 97, 115, 116, 101, 114]
def mastB (null : Bool) (lo dom : List UInt8) : Bool := !null && (dom == [] && lo.map lowB == postm)
theorem c59 (null : Bool) (lo dom : List UInt8) (hl : lo.length ≤ 1000000) : C59 (null, lo, dom, ()) = some (mastB null lo dom, ()) := by
  simp only [C59, F59, c86 lo hl, Option.bind_some, mastB, postm]
  cases null <;> cases dom == [] <;> rfl
theorem c76 (null : Bool) (lo dom : List UInt8) (hl : lo.length ≤ 1000000) : C76 (null, lo, dom, ()) = some (mastB null lo dom, ()) := by
  simp only [C76, F76, c102 lo hl, Option.bind_some, mastB, postm]
  cases null <;> cases dom == [] <;> rfl
def atomB (c : UInt8) : Bool := gB (C147 ((c.toNat : Int), ()))
theorem c147 (c : UInt8) : C147 ((c.toNat : Int), ()) = some (atomB c, ()) := okB_some (all256 (fun c => okB (C147 ((c.toNat : Int), ()))) (by kernel_rfl) c)
def ratB (c : UInt8) : Bool := match C167 ((c.toNat : Int), ()) with | some (b, _) => bif atomB c then b else !b | none => false
theorem ratB_k : ((List.range 256).all fun n => ratB (UInt8.ofNat n)) = true := by kernel_rfl
theorem c167 (c : UInt8) : C167 ((c.toNat : Int), ()) = some (atomB c, ()) := by
  have k := all256 ratB ratB_k c
  unfold ratB at k
  cases h : C167 ((c.toNat : Int), ()) with
  | none => rw [h] at k; cases k
  | some x =>
    obtain ⟨b, u⟩ := x
    rw [h] at k
    simp only at k
    cases ha : atomB c <;> cases b <;> simp_all
def plainS (s : List UInt8) : Bool := s.all atomB && !(s == [])
theorem prunA : ∀ (r pre : List UInt8) (N : Int) (n : Nat), N = ((pre ++ r).length : Int) → pre.length + r.length ≤ 1000000000 → r.length < n →
    loopN (F113_l0 C147) n (pre ++ r, N, (pre.length : Int), ()) = some (if r.all atomB = true then .inl (pre ++ r, ()) else .inr (false, ()))
  | _, _, _, 0, _, _, hn => by omega
  | [], pre, N, n + 1, hN, hl, hn => by
    subst hN
    refine loopN_inr ?_
    simp only [F113_l0, List.append_nil, at0, cond_false]
    rfl
  | c :: r, pre, N, n + 1, hN, hl, hn => by
    subst hN
    simp only [List.length_cons] at hl hn
    obtain ⟨hi, hi0, hw, hg⟩ := at4 pre r c 0 (by omega)
    cases ha : atomB c with
    | false =>
      rw [loopN_inr (y := .inr (false, ())) (by simp only [F113_l0, hi, hi0, hg, hw, c147, ha, Option.bind_some, cond_true, cond_false, Bool.and_self, Bool.not_false])]
      simp [ha]
    | true =>
      rw [loopN_inl (v' := (pre ++ c :: r, ((pre ++ c :: r).length : Int), ((pre.length + 1 : Nat) : Int), ())) (by simp only [F113_l0, hi, hi0, hg, hw, c147, ha, Option.bind_some, cond_true, cond_false, Bool.and_self, Bool.not_true])]
      rw [shift, pl1 pre c, prunA r (pre ++ [c]) _ n (by simp) (by simp; omega) (by omega)]
      simp [ha]
theorem c113 (s : List UInt8) (hl : s.length ≤ 1000000) : C113 (s, ()) = some (plainS s, ()) := by
  have h := prunA s [] (s.length : Int) big (by simp) (by simp; omega) (by unfold big; omega)
  have h' : C113_l0 (s, (s.length : Int), 0, ()) = _ := h
  simp only [C113, F113, h', Option.bind_some, plainS, List.nil_append]
  cases ha : s.all atomB with
  | true => simp only [if_true, Sum.elim_inl]; cases s == [] <;> rfl
  | false => rw [if_neg (by simp)]; rfl
theorem prunR : ∀ (r pre : List UInt8) (n : Nat), pre.length + r.length ≤ 1000000000 → r.length < n →
    loopN (F143_l0 C167) n (pre ++ r, (pre.length : Int), ()) = some (if r.all atomB = true then .inl (pre ++ r, ()) else .inr (false, ()))
  | _, _, 0, _, hn => by omega
  | [], pre, n + 1, hl, hn => by
    refine loopN_inr ?_
    simp only [F143_l0, List.append_nil, at0, cond_false]
    rfl
  | c :: r, pre, n + 1, hl, hn => by
    simp only [List.length_cons] at hl hn
    obtain ⟨hi, hi0, hw, hg⟩ := at4 pre r c 0 (by omega)
    cases ha : atomB c with
    | false =>
      rw [loopN_inr (y := .inr (false, ())) (by simp only [F143_l0, hi, hi0, hg, hw, c167, ha, Option.bind_some, cond_true, cond_false, Bool.and_self, Bool.not_false])]
      simp [ha]
    | true =>
      rw [loopN_inl (v' := (pre ++ c :: r, ((pre.length + 1 : Nat) : Int), ())) (by simp only [F143_l0, hi, hi0, hg, hw, c167, ha, Option.bind_some, cond_true, cond_false, Bool.and_self, Bool.not_true])]
      rw [shift, pl1 pre c, prunR r (pre ++ [c]) n (by simp; omega) (by omega)]
      simp [ha]
theorem c143 (s : List UInt8) (hl : s.length ≤ 1000000) : C143 (s, ()) = some (plainS s, ()) := by
  have h := prunR s [] big (by simp; omega) (by unfold big; omega)
  have h' : C143_l0 (s, 0, ()) = _ := h
  simp only [C143, F143, h', Option.bind_some, plainS, List.nil_append]
  cases ha : s.all atomB with
  | true => simp only [if_true, Sum.elim_inl]; cases s == [] <;> rfl
  | false => rw [if_neg (by simp)]; rfl
def sp (c : UInt8) : List UInt8 → List (List UInt8)
  | [] => [[]]
  | x :: r => bif x == c then [] :: sp c r else match sp c r with
    | h :: t => (x :: h) :: t
    | [] => [[x]]
theorem sp_ne (c : UInt8) : ∀ s, sp c s ≠ []
  | [] => by simp [sp]
  | x :: r => by
    unfold sp
    cases x == c with
    | true => simp
    | false =>
      simp only [cond_false]
      split <;> simp
theorem sp_count (c : UInt8) : ∀ s, (sp c s).length = s.count c + 1
  | [] => rfl
  | x :: r => by
    have ih := sp_count c r
    unfold sp
    rw [List.count_cons]
    cases h : x == c with
    | true => simp only [cond_true, List.length_cons, ih, if_true]
    | false =>
      simp only [cond_false]
      cases hs : sp c r with
      | nil => exact absurd hs (sp_ne c r)
      | cons a t => rw [hs] at ih; simpa using ih
theorem sp_cons (c x : UInt8) (r : List UInt8) : sp c (x :: r) = bif x == c then [] :: sp c r else match sp c r with
    | h :: t => (x :: h) :: t
    | [] => [[x]] := rfl
theorem sp_cut (c : UInt8) : ∀ s, (fp (fun x => x == c) s < s.length → sp c s = s.take (fp (fun x => x == c) s) :: sp c (s.drop (fp (fun x => x == c) s + 1))) ∧ (¬ fp (fun x => x == c) s < s.length → sp c s = [s])
  | [] => ⟨fun h => by simp at h, fun _ => rfl⟩
  | x :: r => by
    have ih := sp_cut c r
    rw [sp_cons]
    cases h : x == c with
    | true =>
      simp only [fp, h, cond_true]
      exact ⟨fun _ => rfl, fun h => by simp at h⟩
    | false =>
      simp only [fp, h, cond_false, List.length_cons]
      refine ⟨fun hl => ?_, fun hl => ?_⟩
      · rw [ih.1 (by omega)]
        rfl
      · rw [ih.2 (by omega)]
theorem splrun (c : UInt8) : ∀ (k : Nat) (s : List UInt8) (done : List (List UInt8)) (n : Nat), (sp c s).length = k + 1 → s.length ≤ 1000000 → done.length + k ≤ 1000000 → k < n →
    loopN (F146_l0 C145) n (s, [c], 0, ((done.length + k : Nat) : Int), (done.length : Int), done ++ List.replicate (k + 1) [], ()) =
      some ((sp c s).getLast (sp_ne c s), ((done.length + k : Nat) : Int), (done ++ (sp c s).dropLast) ++ [[]], ())
  | _, _, _, 0, _, _, _, hn => by omega
  | 0, s, done, n + 1, hk, hl, hd, hn => by
    have h1 := sp_cut c s
    have hnf : ¬ fp (fun x => x == c) s < s.length := fun h => by
      rw [h1.1 h] at hk
      have := sp_count c (s.drop (fp (fun x => x == c) s + 1))
      simp only [List.length_cons] at hk; omega
    have hs := h1.2 hnf
    refine loopN_inr ?_
    simp only [F146_l0, Nat.add_zero, at0, cond_false]
    have e1 : (sp c s).getLast (sp_ne c s) = s := by simp only [hs]; rfl
    rw [e1, hs]
    simp
  | k + 1, s, done, n + 1, hk, hl, hd, hn => by
    have h1 := sp_cut c s
    have hf : fp (fun x => x == c) s < s.length := by
      rcases Nat.lt_or_ge (fp (fun x => x == c) s) s.length with h | h
      · exact h
      · rw [h1.2 (by omega)] at hk; simp at hk
    have hs := h1.1 hf
    have hk' : (sp c (s.drop (fp (fun x => x == c) s + 1))).length = k + 1 := by rw [hs] at hk; simpa using hk
    have hx : C145 (s, [c], ()) = some (((fp (fun x => x == c) s : Nat) : Int), ()) := by
      simp only [C145, F145, c89_1, Option.bind_some, fnd]
      rw [if_pos hf]
    have d0 : decide ((done.length : Int) < ((done.length + (k + 1) : Nat) : Int)) = true := by simp; omega
    have d1 : decide (((fp (fun x => x == c) s : Nat) : Int) < 0) = false := by simp
    have w0 : IntKind.i64.wrap (((fp (fun x => x == c) s : Nat) : Int) + 0) = ((fp (fun x => x == c) s : Nat) : Int) := by rw [w64] <;> omega
    have w1 : IntKind.i64.wrap (((fp (fun x => x == c) s : Nat) : Int) + (([c].length : Nat) : Int)) = ((fp (fun x => x == c) s + 1 : Nat) : Int) := wrN _ (by omega)
    have w2 : IntKind.i64.wrap ((done.length : Int) + 1) = ((done.length + 1 : Nat) : Int) := wrN _ (by omega)
    have d2 : decide (0 ≤ ((fp (fun x => x == c) s : Nat) : Int)) = true := by simp
    have d3 : decide (((fp (fun x => x == c) s : Nat) : Int) ≤ (s.length : Int)) = true := by simp; omega
    have d4 : decide (0 ≤ (done.length : Int)) = true := by simp
    have d5 : decide ((done.length : Int) < ((done ++ List.replicate (k + 1 + 1) ([] : List UInt8)).length : Int)) = true := by simp; omega
    have d6 : decide (0 ≤ ((fp (fun x => x == c) s + 1 : Nat) : Int)) = true := by simp; omega
    have d7 : decide (((fp (fun x => x == c) s + 1 : Nat) : Int) ≤ (s.length : Int)) = true := by simp; omega
    have hset : (done ++ List.replicate (k + 1 + 1) ([] : List UInt8)).set done.length (s.take (fp (fun x => x == c) s)) = (done ++ [s.take (fp (fun x => x == c) s)]) ++ List.replicate (k + 1) [] := by
      rw [List.replicate_succ, set_mid]; simp
    have ih := splrun c k (s.drop (fp (fun x => x == c) s + 1)) (done ++ [s.take (fp (fun x => x == c) s)]) n hk' (by simp; omega) (by simp; omega) (by omega)
    rw [loopN_inl (v' := (s.drop (fp (fun x => x == c) s + 1), [c], 0, ((done.length + (k + 1) : Nat) : Int), ((done.length + 1 : Nat) : Int), (done ++ [s.take (fp (fun x => x == c) s)]) ++ List.replicate (k + 1) [], ())) (by
      simp only [F146_l0, hx, Option.bind_some, d0, d1, w0, w1, w2, d2, d3, d4, d5, d6, d7, cond_true, cond_false, Bool.and_self, Int.toNat_natCast, hset])]
    have el : ((done.length + (k + 1) : Nat) : Int) = (((done ++ [s.take (fp (fun x => x == c) s)]).length + k : Nat) : Int) := by simp; omega
    have el2 : ((done.length + 1 : Nat) : Int) = ((done ++ [s.take (fp (fun x => x == c) s)]).length : Int) := by simp
    rw [el, el2, ih]
    have hne := sp_ne c (s.drop (fp (fun x => x == c) s + 1))
    have e1 : (sp c s).getLast (sp_ne c s) = (sp c (s.drop (fp (fun x => x == c) s + 1))).getLast hne := by
      simp only [hs]; exact List.getLast_cons hne
    have e2 : (sp c s).dropLast = s.take (fp (fun x => x == c) s) :: (sp c (s.drop (fp (fun x => x == c) s + 1))).dropLast := by
      rw [hs]; exact List.dropLast_cons_of_ne_nil hne
    rw [e1, e2]
    simp
theorem c112_1 (c : UInt8) (s : List UInt8) (hl : s.length ≤ 900000) : C112 (s, [c], ()) = some (sp c s, ()) := by
  have hcnt := sp_count c s
  have hcl : s.count c ≤ s.length := List.count_le_length
  have hc : C144 (s, [c], ()) = some (((s.count c : Nat) : Int), ()) := by
    have e0 : (((1 : Nat) : Int) == 0) = false := rfl
    have e1 : (((1 : Nat) : Int) == 1) = true := rfl
    have e2 : decide (0 < ((1 : Nat) : Int)) = true := rfl
    have hg : [c].getD 0 0 = c := rfl
    simp only [C144, F144, List.length_cons, List.length_nil, Nat.zero_add, e0, e1, e2, hg, C169, Lib.countByte, cond_true, cond_false, Option.bind_some]
    congr 3
    simp
  have h := splrun c (s.count c) s [] big hcnt (by omega) (by simp; omega) (by unfold big; omega)
  simp only [List.length_nil, Nat.zero_add, List.nil_append] at h
  have h' : C146_l0 (s, [c], 0, ((s.count c : Nat) : Int), 0, List.replicate (s.count c + 1) [], ()) = _ := h
  have n0 : ((-1 : Int) == 0) = false := rfl
  have n1 : decide ((-1 : Int) < 0) = true := rfl
  have ne : (([c] : List UInt8) == []) = false := rfl
  have w1 : IntKind.i64.wrap (((s.count c : Nat) : Int) + 1) = ((s.count c + 1 : Nat) : Int) := wrN _ (by omega)
  have w2 : IntKind.i64.wrap ((s.length : Int) + 1) = ((s.length + 1 : Nat) : Int) := wrN _ (by omega)
  have hmin : (if ((s.length + 1 : Nat) : Int) < ((s.count c + 1 : Nat) : Int) then ((s.length + 1 : Nat) : Int) else ((s.count c + 1 : Nat) : Int)) = ((s.count c + 1 : Nat) : Int) := if_neg (by omega)
  have w3 : IntKind.i64.wrap (((s.count c + 1 : Nat) : Int) - 1) = ((s.count c : Nat) : Int) := by rw [w64] <;> omega
  have d1 : decide (0 ≤ ((s.count c + 1 : Nat) : Int)) = true := by simp; omega
  have d2 : decide (16 * ((s.count c + 1 : Nat) : Int) ≤ 281474976710656) = true := by simp; omega
  have d3 : decide (((s.count c + 1 : Nat) : Int) ≤ 140737488355328) = true := by simp; omega
  have d4 : decide (0 ≤ ((s.count c : Nat) : Int)) = true := by simp
  have hdl : (sp c s).dropLast.length = s.count c := by rw [List.length_dropLast, hcnt]; rfl
  have d5 : decide (((s.count c : Nat) : Int) < (((sp c s).dropLast ++ [[]]).length : Int)) = true := by simp [hdl, hcnt]; omega
  have hset : ((sp c s).dropLast ++ [[]]).set (s.count c) ((sp c s).getLast (sp_ne c s)) = sp c s := by
    have := set_mid (sp c s).dropLast [] ([] : List UInt8) ((sp c s).getLast (sp_ne c s))
    rw [hdl] at this
    rw [this]
    exact List.dropLast_concat_getLast (sp_ne c s)
  have d6 : decide (((s.count c + 1 : Nat) : Int) ≤ ((sp c s).length : Int)) = true := by simp [hcnt]
  have htk : (sp c s).take (s.count c + 1) = sp c s := List.take_of_length_le (by omega)
  simp only [C112, F112, C146, F146, C146_c0, F146_c0, n0, n1, ne, hc, w1, w2, hmin, w3, d1, d2, d3, decide_true, cond_true, cond_false, Bool.and_self, Bool.true_and, Int.toNat_natCast, h', Option.bind_some, d4, d5, hset, d6, htk]
def wordsS (s : List UInt8) : Bool := (sp 46 s).all plainS
theorem wrun : ∀ (r pre : List (List UInt8)) (N : Int) (n : Nat), N = ((pre ++ r).length : Int) → (∀ s ∈ r, s.length ≤ 1000000) → pre.length + r.length ≤ 1000000000 → r.length < n →
    loopN (F87_l0 C113) n (pre ++ r, N, (pre.length : Int), ()) = some (if r.all plainS = true then .inl () else .inr (false, ()))
  | _, _, _, 0, _, _, _, hn => by omega
  | [], pre, N, n + 1, hN, hs, hl, hn => by
    subst hN
    refine loopN_inr ?_
    simp only [F87_l0, List.append_nil, at0, cond_false]
    rfl
  | c :: r, pre, N, n + 1, hN, hs, hl, hn => by
    subst hN
    simp only [List.length_cons] at hl hn
    obtain ⟨hi, hi0, hw, hg⟩ := at4 pre r c [] (by omega)
    have hc := c113 c (hs c List.mem_cons_self)
    cases ha : plainS c with
    | false =>
      rw [loopN_inr (y := .inr (false, ())) (by simp only [F87_l0, hi, hi0, hg, hw, hc, ha, Option.bind_some, cond_true, cond_false, Bool.and_self, Bool.not_false])]
      simp [ha]
    | true =>
      rw [loopN_inl (v' := (pre ++ c :: r, ((pre ++ c :: r).length : Int), ((pre.length + 1 : Nat) : Int), ())) (by simp only [F87_l0, hi, hi0, hg, hw, hc, ha, Option.bind_some, cond_true, cond_false, Bool.and_self, Bool.not_true])]
      rw [shift, pl1 pre c, wrun r (pre ++ [c]) _ n (by simp) (fun s h => hs s (List.mem_cons_of_mem _ h)) (by simp; omega) (by omega)]
      simp [ha]
theorem sp_len (c : UInt8) : ∀ (s t : List UInt8), t ∈ sp c s → t.length ≤ s.length
  | [], t, h => by simp [sp] at h; subst h; simp
  | x :: r, t, h => by
    unfold sp at h
    cases hx : x == c with
    | true =>
      rw [hx, cond_true] at h
      rcases List.mem_cons.1 h with rfl | h
      · simp
      · have := sp_len c r t h; simp; omega
    | false =>
      rw [hx, cond_false] at h
      cases hs : sp c r with
      | nil => exact absurd hs (sp_ne c r)
      | cons a u =>
        rw [hs] at h
        rcases List.mem_cons.1 h with rfl | h
        · have := sp_len c r a (by rw [hs]; exact List.mem_cons_self); simp; omega
        · have := sp_len c r t (by rw [hs]; exact List.mem_cons_of_mem _ h); simp; omega
theorem c87 (s : List UInt8) (hl : s.length ≤ 900000) : C87 (s, ()) = some (wordsS s, ()) := by
  have hc := sp_count 46 s
  have hcl : s.count 46 ≤ s.length := List.count_le_length
  have h := wrun (sp 46 s) [] ((sp 46 s).length : Int) big (by simp) (fun t ht => by have := sp_len 46 s t ht; omega) (by simp; omega) (by unfold big; omega)
  have h' : C87_l0 (sp 46 s, ((sp 46 s).length : Int), 0, ()) = _ := h
  simp only [C87, F87, c112_1 46 s hl, h', Option.bind_some, wordsS]
  cases (sp 46 s).all plainS <;> rfl
end Go.Proofs.YtmfcepdbpdihgaaGreatDoor.W
set_option linter.unusedVariables false
set_option linter.unusedSimpArgs false
set_option maxRecDepth 100000
namespace Go.Proofs.YtmfcepdbpdihgaaGreatDoor.W
open Go Go.Ae Go.Pl
def qd1 (c : UInt8) : List UInt8 := bif c == 34 || c == 92 then [92, c] else [c]
def qd (s : List UInt8) : List UInt8 := s.flatMap qd1
theorem qd1_len (c : UInt8) : (qd1 c).length ≤ 2 := by unfold qd1; cases c == 34 || c == 92 <;> simp
theorem qd_len (s : List UInt8) : (qd s).length ≤ 2 * s.length := flat_len qd1 2 qd1_len s
theorem eq_byte (c : UInt8) (n : Nat) (hn : n < 256) : (((c.toNat : Nat) : Int) == (n : Int)) = (c == UInt8.ofNat n) := by
  by_cases h : c = UInt8.ofNat n
  · subst h
    rw [ibT, beq_self_eq_true]
    simp; omega
  · have h1 : (c == UInt8.ofNat n) = false := by simpa using h
    rw [h1, ibF]; intro e; exact h (u8_eq (by omega))
theorem e34 (c : UInt8) : (((c.toNat : Nat) : Int) == 34) = (c == 34) := eq_byte c 34 (by omega)
theorem e92 (c : UInt8) : (((c.toNat : Nat) : Int) == 92) = (c == 92) := eq_byte c 92 (by omega)
theorem qrun : ∀ (r pre out : List UInt8) (N : Int) (n : Nat), N = ((pre ++ r).length : Int) → pre.length + r.length ≤ 1000000000 → out.length + 2 * r.length ≤ 1000000000000 → r.length < n →
    loopN F114_l0 n (pre ++ r, N, (pre.length : Int), out, ()) = some (out ++ qd r, ())
  | _, _, _, _, 0, _, _, _, hn => by omega
  | [], pre, out, N, n + 1, hN, hl, ho, hn => by
    subst hN
    refine loopN_inr ?_
    simp only [F114_l0, List.append_nil, at0, cond_false, qd, List.flatMap_nil]
  | c :: r, pre, out, N, n + 1, hN, hl, ho, hn => by
    subst hN
    simp only [List.length_cons] at hl ho hn
    obtain ⟨hi, hi0, hw, hg⟩ := at4 pre r c 0 (by omega)
    have hc1 := qd1_len c
    have eo : decide (out.length + (0 + 1) ≤ 140737488355328 / 1) = true := by simp; omega
    have eo2 : decide (out.length + (0 + 1) + (0 + 1) ≤ 140737488355328 / 1) = true := by simp; omega
    have step : F114_l0 (pre ++ c :: r, ((pre ++ c :: r).length : Int), (pre.length : Int), out, ()) = some (.inl (pre ++ c :: r, ((pre ++ c :: r).length : Int), ((pre.length + 1 : Nat) : Int), out ++ qd1 c, ())) := by
      unfold qd1
      cases h1 : c == 34 with
      | true => simp only [F114_l0, hi, hi0, hg, hw, e34, e92, h1, List.length_append, List.length_cons, List.length_nil, at4, eo, eo2, cond_true, cond_false, Bool.and_self, Bool.true_or, byte_back, List.append_assoc, List.cons_append, List.nil_append]
                have hi' : decide ((pre.length : Int) < ((pre.length + (r.length + 1) : Nat) : Int)) = true := by simp; omega
                simp only [hi', cond_true, Bool.and_self]
      | false =>
        cases h2 : c == 92 with
        | true => simp only [F114_l0, hi, hi0, hg, hw, e34, e92, h1, h2, List.length_append, List.length_cons, List.length_nil, eo, eo2, cond_true, cond_false, Bool.and_self, Bool.false_or, byte_back, List.append_assoc, List.cons_append, List.nil_append]
                  have hi' : decide ((pre.length : Int) < ((pre.length + (r.length + 1) : Nat) : Int)) = true := by simp; omega
                  simp only [hi', cond_true, Bool.and_self]
        | false => simp only [F114_l0, hi, hi0, hg, hw, e34, e92, h1, h2, List.length_append, List.length_cons, List.length_nil, eo, eo2, cond_true, cond_false, Bool.and_self, Bool.false_or, byte_back, List.append_assoc, List.cons_append, List.nil_append]
                   have hi' : decide ((pre.length : Int) < ((pre.length + (r.length + 1) : Nat) : Int)) = true := by simp; omega
                   simp only [hi', cond_true, Bool.and_self]
    rw [loopN_inl step, shift, pl1 pre c, qrun r (pre ++ [c]) (out ++ qd1 c) _ n (by simp) (by simp; omega) (by rw [List.length_append]; omega) (by omega)]
    simp [qd]
def quoS (s : List UInt8) : List UInt8 := [34] ++ qd s ++ [34]
theorem c88_1 (s : List UInt8) (at_ : Int) (hl : s.length ≤ 1000000) : C88 (1, s, 0, ()) = some (quoS s, ()) := by
  have h := qrun s [] [] (s.length : Int) big (by simp) (by simp; omega) (by simp; omega) (by unfold big; omega)
  have h' : C114_l0 (s, (s.length : Int), 0, [], ()) = _ := h
  have hq := qd_len s
  have e0 : ((1 : Int) == 1) = true := rfl
  have e1 : decide (0 + 1 + (qd s).length ≤ 9223372036854775807) = true := by simp; omega
  have e2 : decide (0 + 1 + (qd s).length + (0 + 1) ≤ 9223372036854775807) = true := by simp; omega
  simp only [C88, F88, C114, F114, h', e0, cond_true, Option.bind_some, List.nil_append, List.length_append, List.length_cons, List.length_nil, e1, e2, quoS]
def boxS (lo dom : List UInt8) : List UInt8 := (bif wordsS lo then lo else quoS lo) ++ [64] ++ dom
theorem quoS_len (s : List UInt8) : (quoS s).length ≤ 2 * s.length + 2 := by have := qd_len s; simp [quoS]; omega
theorem c60 (lo dom : List UInt8) (h1 : lo.length ≤ 100000) (h2 : dom.length ≤ 100000) : C60 (lo, dom, ()) = some (boxS lo dom, ()) := by
  have hq := quoS_len lo
  have a1 : decide (lo.length + (0 + 1) ≤ 9223372036854775807) = true := by simp; omega
  have a2 : decide (lo.length + (0 + 1) + dom.length ≤ 9223372036854775807) = true := by simp; omega
  have b1 : decide ((quoS lo).length + (0 + 1) ≤ 9223372036854775807) = true := by simp; omega
  have b2 : decide ((quoS lo).length + (0 + 1) + dom.length ≤ 9223372036854775807) = true := by simp; omega
  simp only [C60, F60, c87 lo (by omega), c88_1 lo 0 (by omega), Option.bind_some, boxS]
  cases wordsS lo with
  | true => simp only [Bool.not_true, cond_true, cond_false, List.length_append, List.length_cons, List.length_nil, a1, a2]
  | false => simp only [Bool.not_false, cond_true, cond_false, List.length_append, List.length_cons, List.length_nil, b1, b2]
def pathS (null : Bool) (lo dom : List UInt8) : List UInt8 := bif null then [60, 62] else bif mastB null lo dom then [60] ++ lo ++ [62] else [60] ++ boxS lo dom ++ [62]
theorem boxS_len (lo dom : List UInt8) : (boxS lo dom).length ≤ 2 * lo.length + dom.length + 3 := by
  have hq := quoS_len lo
  unfold boxS
  cases wordsS lo <;> simp <;> omega
theorem pathS_len (null : Bool) (lo dom : List UInt8) : (pathS null lo dom).length ≤ 2 * lo.length + dom.length + 5 := by
  have hq := boxS_len lo dom
  unfold pathS
  cases null
  · cases mastB false lo dom
    · simp; omega
    · simp; omega
  · simp <;> omega
theorem c23 (null : Bool) (lo dom : List UInt8) (h1 : lo.length ≤ 100000) (h2 : dom.length ≤ 100000) : C23 (null, lo, dom, ()) = some (pathS null lo dom, ()) := by
  have hb := boxS_len lo dom
  have a1 : decide (0 + 1 + lo.length ≤ 9223372036854775807) = true := by simp; omega
  have a2 : decide (0 + 1 + lo.length + (0 + 1) ≤ 9223372036854775807) = true := by simp; omega
  have b1 : decide (0 + 1 + (boxS lo dom).length ≤ 9223372036854775807) = true := by simp; omega
  have b2 : decide (0 + 1 + (boxS lo dom).length + (0 + 1) ≤ 9223372036854775807) = true := by simp; omega
  simp only [C23, F23, c59 null lo dom (by omega), c60 lo dom h1 h2, Option.bind_some, pathS]
  cases null with
  | true => rfl
  | false =>
    simp only [cond_false]
    cases mastB false lo dom with
    | true => simp only [cond_true, List.length_append, List.length_cons, List.length_nil, a1, a2]
    | false => simp only [cond_true, cond_false, List.length_append, List.length_cons, List.length_nil, b1, b2]
end Go.Proofs.YtmfcepdbpdihgaaGreatDoor.W
set_option linter.unusedVariables false
set_option linter.unusedSimpArgs false
set_option maxRecDepth 100000
namespace Go.Proofs.YtmfcepdbpdihgaaGreatDoor.W
open Go Go.Ae Go.Pl
def mtaS : List UInt8 := [82, 101, 112, 111, 114, 116, 105, 110, 103, 45, 77, 84, 65, 58, 32, 100, 110, 115, 59, 32]
def oriS : List UInt8 := [79, 114, 105, 103, 105, 110, 97, 108, 45, 73, 68, 58, 32]
def finS : List UInt8 := [70, 105, 110, 97, 108, 45, 82, 101, 99, 105, 112, 105, 101, 110, 116, 58, 32, 117, 116, 102, 45, 56, 59, 32]
def staS : List UInt8 := [83, 116, 97, 116, 117, 115, 58, 32]
def subS : List UInt8 := [83, 117, 98, 106, 101, 99, 116, 58, 32, 110, 111, 116, 32, 100, 101, 108, 105, 118, 101, 114, 101, 100]
def mimS : List UInt8 := [77, 73, 77, 69, 45, 86, 101, 114, 115, 105, 111, 110, 58, 32, 49, 46, 48]
def conS : List UInt8 := [67, 111, 110, 116, 101, 110, 116, 45, 84, 121, 112, 101, 58, 32, 109, 101, 115, 115, 97, 103, 101, 47, 103, 108, 111, 98, 97, 108, 45, 100, 101, 108, 105, 118, 101, 114, 121, 45, 115, 116, 97, 116, 117, 115]
def actS : List UInt8 := [65, 99, 116, 105, 111, 110, 58, 32, 102, 97, 105, 108, 101, 100]
def linesS (a b c d : List UInt8) : List (List UInt8) := [subS, mimS, conS, [], mtaS ++ a, [], oriS ++ b, finS ++ c, actS, staS ++ d]
theorem c42 (a b c d : List UInt8) (h : a.length + b.length + c.length + d.length ≤ 1000000000) : C42 (a, b, c, d, ()) = some (linesS a b c d, ()) := by
  have e1 : decide ((82 :: 101 :: 112 :: 111 :: 114 :: 116 :: 105 :: 110 :: 103 :: 45 :: 77 :: 84 :: 65 :: 58 :: 32 :: 100 :: 110 :: 115 :: 59 :: [32] : List Nat).length + a.length ≤ 9223372036854775807) = true := by simp; omega
  have e2 : decide ((79 :: 114 :: 105 :: 103 :: 105 :: 110 :: 97 :: 108 :: 45 :: 73 :: 68 :: 58 :: [32] : List Nat).length + b.length ≤ 9223372036854775807) = true := by simp; omega
  have e3 : decide ((70 :: 105 :: 110 :: 97 :: 108 :: 45 :: 82 :: 101 :: 99 :: 105 :: 112 :: 105 :: 101 :: 110 :: 116 :: 58 :: 32 :: 117 :: 116 :: 102 :: 45 :: 56 :: 59 :: [32] : List Nat).length + c.length ≤ 9223372036854775807) = true := by simp; omega
  have e4 : decide ((83 :: 116 :: 97 :: 116 :: 117 :: 115 :: 58 :: [32] : List Nat).length + d.length ≤ 9223372036854775807) = true := by simp; omega
  simp only [C42, F42, e1, e2, e3, e4, cond_true]
  rfl
def lowS (s : List UInt8) : Bool := s.all fun c => Nat.blt c.toNat 128
theorem asc_low {s : List UInt8} (h : s.all ascB = true) : lowS s = true := by
  unfold lowS
  rw [List.all_eq_true] at *
  intro c hc
  have := h c hc
  simp only [ascB, Bool.and_eq_true] at this
  have := Nat.le_of_ble_eq_true this.2
  rw [Nat.blt_eq]; omega
theorem low_rr : ∀ s : List UInt8, lowS s = true → rr s = []
  | [], _ => (runes_none (s := []) rfl).2
  | c :: r, h => by
    unfold lowS at h
    rw [List.all_cons, Bool.and_eq_true] at h
    have hc : c.toNat < 128 := by have := h.1; rwa [Nat.blt_eq] at this
    have hd : dec (c :: r) = some (cv c) := by
      rw [dec_cons, decC]
      have : decide (cv c < 128) = true := decide_eq_true (by unfold cv; omega)
      rw [this, cond_true]
    have hl := lenE1 (v := cv c) (by have := cv_rng c; omega) (by unfold cv; omega)
    rw [(runes_some hd).2, hl, List.drop_one, List.tail_cons]
    exact low_rr r h.2
theorem eightrun : ∀ (r pre : List UInt8) (N : Int) (n : Nat), N = ((pre ++ r).length : Int) → lowS r = true → pre.length + r.length ≤ 1000000000 → r.length < n →
    loopN F22_l0 n (pre ++ r, N, (pre.length : Int), ()) = some (.inl ())
  | _, _, _, 0, _, _, _, hn => by omega
  | [], pre, N, n + 1, hN, ha, hl, hn => by
    subst hN
    refine loopN_inr ?_
    simp only [F22_l0, List.append_nil, at0, cond_false]
  | c :: r, pre, N, n + 1, hN, ha, hl, hn => by
    subst hN
    simp only [List.length_cons] at hl hn
    obtain ⟨hi, hi0, hw, hg⟩ := at4 pre r c 0 (by omega)
    unfold lowS at ha
    rw [List.all_cons, Bool.and_eq_true] at ha
    have hc : c.toNat < 128 := by have := ha.1; rwa [Nat.blt_eq] at this
    have d : decide (((c.toNat : Nat) : Int) ≥ 128) = false := by simp; omega
    rw [loopN_inl (v' := (pre ++ c :: r, ((pre ++ c :: r).length : Int), ((pre.length + 1 : Nat) : Int), ())) (by simp only [F22_l0, hi, hi0, hg, hw, d, cond_true, cond_false, Bool.and_self])]
    rw [shift, pl1 pre c]
    exact eightrun r (pre ++ [c]) _ n (by simp) ha.2 (by simp; omega) (by omega)
theorem c22_low (s : List UInt8) (h : lowS s = true) (hl : s.length ≤ 1000000) : C22 (s, ()) = some (-1, ()) := by
  have h1 := eightrun s [] (s.length : Int) big (by simp) h (by simp; omega) (by unfold big; omega)
  have h1' : C22_l0 (s, (s.length : Int), 0, ()) = _ := h1
  simp only [C22, F22, h1', Option.bind_some]
  rfl
def okL (l : List (List UInt8)) : Prop := ∀ s ∈ l, lowS s = true ∧ s.length ≤ 1000000
theorem c73_low {s : List UInt8} (h : lowS s = true ∧ s.length ≤ 1000000) : C73 (s, ()) = some (false, ()) := by
  simp only [C73, F73, c22_low s h.1 h.2, Option.bind_some]
  rfl
theorem c74_low {s : List UInt8} (h : lowS s = true ∧ s.length ≤ 1000000) : C74 (s, ()) = some (false, ()) := by
  simp only [C74, F74, d21 s h.2, badAt_nil (low_rr s h.1), Option.bind_some]
  rfl
theorem cfrun (f : List UInt8 × Unit → Option (Bool × Unit)) : ∀ (r pre : List (List UInt8)) (N : Int) (n : Nat), N = ((pre ++ r).length : Int) → (∀ s ∈ r, f (s, ()) = some (false, ())) → pre.length + r.length ≤ 1000000000 → r.length < n →
    loopN (F98_l0 f) n (pre ++ r, N, (pre.length : Int), ()) = some (.inl ()) ∧ loopN (F98v1_l0 f) n (pre ++ r, N, (pre.length : Int), ()) = some (.inl ())
  | _, _, _, 0, _, _, _, hn => by omega
  | [], pre, N, n + 1, hN, ha, hl, hn => by
    subst hN
    refine ⟨loopN_inr ?_, loopN_inr ?_⟩
    · simp only [F98_l0, List.append_nil, at0, cond_false]
    · simp only [F98v1_l0, List.append_nil, at0, cond_false]
  | c :: r, pre, N, n + 1, hN, ha, hl, hn => by
    subst hN
    simp only [List.length_cons] at hl hn
    obtain ⟨hi, hi0, hw, hg⟩ := at4 pre r c [] (by omega)
    have hf := ha c List.mem_cons_self
    have ih := cfrun f r (pre ++ [c]) ((pre ++ c :: r).length : Int) n (by simp) (fun s h => ha s (List.mem_cons_of_mem _ h)) (by simp; omega) (by omega)
    rw [← shift, ← pl1 pre c] at ih
    constructor
    · rw [loopN_inl (v' := (pre ++ c :: r, ((pre ++ c :: r).length : Int), ((pre.length + 1 : Nat) : Int), ())) (by simp only [F98_l0, hi, hi0, hg, hw, hf, Option.bind_some, cond_true, cond_false, Bool.and_self])]
      exact ih.1
    · rw [loopN_inl (v' := (pre ++ c :: r, ((pre ++ c :: r).length : Int), ((pre.length + 1 : Nat) : Int), ())) (by simp only [F98v1_l0, hi, hi0, hg, hw, hf, Option.bind_some, cond_true, cond_false, Bool.and_self])]
      exact ih.2
theorem cf0 (l : List (List UInt8)) (h : okL l) (hl : l.length ≤ 1000000) : C72 (l, ()) = some (false, ()) ∧ C72v1 (l, ()) = some (false, ()) := by
  have h1 := (cfrun C73 l [] (l.length : Int) big (by simp) (fun s hs => c73_low (h s hs)) (by simp; omega) (by unfold big; omega)).1
  have h2 := (cfrun C74 l [] (l.length : Int) big (by simp) (fun s hs => c74_low (h s hs)) (by simp; omega) (by unfold big; omega)).2
  have h1' : C98_l0 (l, (l.length : Int), 0, ()) = _ := h1
  have h2' : C98v1_l0 (l, (l.length : Int), 0, ()) = _ := h2
  constructor
  · simp only [C72, F72, C98, F98, h1', Option.bind_some]
    rfl
  · simp only [C72v1, F72v1, C98v1, F98v1, h2', Option.bind_some]
    rfl
theorem hd71 (a b c d : List UInt8) : C71 (linesS a b c d, ()) = some (3, ()) := by kernel_rfl
def fldP : List (List UInt8 × List UInt8) := match C75 (linesS [] [] [] [], ()) with | some (x, _) => x | none => []
theorem fl75 (a b c d : List UInt8) : C75 (linesS a b c d, ()) = some (fldP, ()) := by kernel_rfl
theorem c41_m (a b c d : List UInt8) (h : okL (linesS a b c d)) : C41 (linesS a b c d, ()) = some (false, false, false, 3, 0, ()) := by
  have hT : okL (List.take (Int.toNat 3) (linesS a b c d)) := fun s hs => h s (List.mem_of_mem_take hs)
  have hD : okL (List.drop (Int.toNat 3) (linesS a b c d)) := fun s hs => h s (List.mem_of_mem_drop hs)
  have hlen : (linesS a b c d).length = 10 := rfl
  have e1 : decide (0 ≤ (3 : Int)) = true := by decide
  have e2 : decide ((3 : Int) ≤ ((linesS a b c d).length : Int)) = true := by rw [hlen]; decide
  have c1 := cf0 _ hT (by rw [List.length_take]; omega)
  have c2 := cf0 _ hD (by rw [List.length_drop]; omega)
  simp only [C41, F41, hd71, e1, e2, c1.1, c1.2, c2.1, fl75, Option.bind_some, cond_true, Bool.and_self]
  show @Eq (Option (Bool × Bool × Bool × Int × Int × Unit)) _ _
  kernel_rfl
end Go.Proofs.YtmfcepdbpdihgaaGreatDoor.W
set_option linter.unusedVariables false
set_option linter.unusedSimpArgs false
set_option maxRecDepth 100000
namespace Go.Proofs.YtmfcepdbpdihgaaGreatDoor.W
open Go Go.Ae Go.Pl
abbrev Rc := (Bool × (List UInt8 × List UInt8)) × (Int × (Int × (Int × Int)))
abbrev MailT := Bool × List UInt8 × List UInt8 × List (Bool × (List UInt8 × List UInt8)) × List (List UInt8) × Bool × Bool × Bool × Int × Int × Int × Bool × Unit
def rcD : Rc := ((false, ([], [])), (0, (0, (0, 0))))
def noMail : MailT := (false, [], [], [], [], false, false, false, 0, 0, 0, false, ())
def sumB : List (List UInt8) → Int
  | [] => 0
  | s :: r => ((s.length : Int) + 2) + sumB r
def mLines (name : List UInt8) (id : Int) (r : Rc) : List (List UInt8) := linesS (esc name) (itoaF id) (esc (pathS r.1.1 r.1.2.1 r.1.2.2)) (stS r.2.2.2.2)
def asksB (nl : Bool) (to : List Rc) (k : Int) : Bool := !nl && (decide (0 ≤ k) && (decide (k < (to.length : Int)) && (to.getD k.toNat rcD).2.1 == 3))
def buildS (name : List UInt8) (id : Int) (nl : Bool) (lo dm : List UInt8) (to : List Rc) (k : Int) : MailT :=
  bif asksB nl to k then (true, [], [], [(nl, lo, dm)], mLines name id (to.getD k.toNat rcD), false, false, false, 3, 0, sumB (mLines name id (to.getD k.toNat rcD)), true, ()) else noMail
theorem bind_eq {α β : Type} {o : Option α} {v : α} {f : α → Option β} {r : Option β} (h : o = some v) (h2 : f v = r) : o.bind f = r := by rw [h]; exact h2
theorem digF_asc : ∀ f n, (digF f n).all ascB = true
  | 0, n => rfl
  | f + 1, n => by
    have hd : ∀ m, m < 10 → ascB (UInt8.ofNat (48 + m)) = true := fun m hm => by
      have := List.all_eq_true.1 (show ((List.range 10).all fun m => ascB (UInt8.ofNat (48 + m))) = true by decide) m (List.mem_range.2 hm)
      exact this
    rw [digF]
    split
    · rename_i h; rw [List.all_cons, hd n h]; rfl
    · rw [List.all_append, digF_asc f, Bool.true_and, List.all_cons, hd (n % 10) (Nat.mod_lt _ (by omega))]; rfl
theorem itoaF_asc (n : Int) : (itoaF n).all ascB = true := by
  unfold itoaF
  split
  · rw [List.all_cons, digF_asc]; rfl
  · exact digF_asc _ _
theorem digF_len : ∀ f n, (digF f n).length ≤ f
  | 0, n => Nat.le_refl _
  | f + 1, n => by
    rw [digF]
    split
    · simp
    · have := digF_len f (n / 10); simp; omega
theorem itoaF_len (n : Int) : (itoaF n).length ≤ 21 := by
  unfold itoaF
  have h1 := digF_len 20 n.natAbs
  have h2 := digF_len 20 n.toNat
  split
  · simp; omega
  · omega
theorem stS_asc (n : Int) : (stS n).all ascB = true := by
  unfold stS
  split
  · rfl
  · rename_i h
    have hb : ∀ m : Int, 0 ≤ m → m < 10 → ascB (b8 (48 + m)) = true := fun m h0 h1 => by
      have e := b8_cv (n := 48 + m) (by omega) (by omega)
      unfold cv at e
      simp only [ascB, Bool.and_eq_true]
      exact ⟨Nat.ble_eq_true_of_le (by omega), Nat.ble_eq_true_of_le (by omega)⟩
    simp only [List.all_cons, List.all_nil, Bool.and_true, hb (n / 100) (by omega) (by omega), hb (n / 10 % 10) (by omega) (by omega), hb (n % 10) (by omega) (by omega)]
    rfl
theorem stS_len (n : Int) : (stS n).length = 5 := by unfold stS; split <;> rfl
theorem okL_m {a b c d : List UInt8} (ha : a.all ascB = true) (hb : b.all ascB = true) (hc : c.all ascB = true) (hd : d.all ascB = true) (hl : a.length + b.length + c.length + d.length ≤ 900000) : okL (linesS a b c d) := by
  have key : ∀ (p s : List UInt8), p.all ascB = true → s.all ascB = true → p.length + s.length ≤ 1000000 → lowS (p ++ s) = true ∧ (p ++ s).length ≤ 1000000 := fun p s hp hs h =>
    ⟨asc_low (by rw [List.all_append, hp, hs]; rfl), by rw [List.length_append]; exact h⟩
  have l1 : mtaS.length = 20 := rfl
  have l2 : oriS.length = 13 := rfl
  have l3 : finS.length = 24 := rfl
  have l4 : staS.length = 8 := rfl
  intro s hs
  simp only [linesS, List.mem_cons, List.not_mem_nil, or_false] at hs
  rcases hs with rfl | rfl | rfl | rfl | rfl | rfl | rfl | rfl | rfl | rfl
  · exact ⟨by decide, by decide⟩
  · exact ⟨by decide, by decide⟩
  · exact ⟨by decide, by decide⟩
  · exact ⟨rfl, by decide⟩
  · exact key mtaS a (by decide) ha (by omega)
  · exact ⟨rfl, by decide⟩
  · exact key oriS b (by decide) hb (by omega)
  · exact key finS c (by decide) hc (by omega)
  · exact ⟨by decide, by decide⟩
  · exact key staS d (by decide) hd (by omega)
theorem mL_len (name : List UInt8) (id : Int) (r : Rc) (h1 : name.length ≤ 1000) (h2 : r.1.2.1.length ≤ 1000) (h3 : r.1.2.2.length ≤ 1000) :
    (esc name).length + (itoaF id).length + (esc (pathS r.1.1 r.1.2.1 r.1.2.2)).length + (stS r.2.2.2.2).length ≤ 400000 := by
  have a1 := esc_len name
  have a2 := itoaF_len id
  have a3 := esc_len (pathS r.1.1 r.1.2.1 r.1.2.2)
  have a4 := pathS_len r.1.1 r.1.2.1 r.1.2.2
  have a5 := stS_len r.2.2.2.2
  omega
theorem mL_ok (name : List UInt8) (id : Int) (r : Rc) (h1 : name.length ≤ 1000) (h2 : r.1.2.1.length ≤ 1000) (h3 : r.1.2.2.length ≤ 1000) : okL (mLines name id r) :=
  okL_m (esc_asc _) (itoaF_asc _) (esc_asc _) (stS_asc _) (by have := mL_len name id r h1 h2 h3; omega)
theorem brun (N : Int) (y2 : Bool) (y3 y4 : List UInt8) (y5 y6 y7 : Bool) (y8 y9 y10 : Int) (y11 : Bool) (y12 y13 : List UInt8) (y14 y15 y16 : Bool) (y17 y18 : Int) (y21 : List (Bool × (List UInt8 × List UInt8))) :
    ∀ (r pre : List (List UInt8)) (b : Int) (n : Nat), N = ((pre ++ r).length : Int) → (∀ s ∈ r, s.length ≤ 1000000) → pre.length + r.length ≤ 1000 → 0 ≤ b → b + 1000002 * r.length ≤ 1000000000000 → r.length < n →
    loopN F16_l0 n (N, (pre.length : Int), y2, y3, y4, y5, y6, y7, y8, y9, y10, y11, y12, y13, y14, y15, y16, y17, y18, b, pre ++ r, y21, ()) = some (y2, y3, y4, y5, y6, y7, y8, y9, y10, y11, y12, y13, y14, y15, y16, y17, y18, b + sumB r, y21, pre ++ r, ())
  | _, _, _, 0, _, _, _, _, _, hn => by omega
  | [], pre, b, n + 1, hN, hs, hl, h0, hb, hn => by
    subst hN
    refine loopN_inr ?_
    simp only [F16_l0, List.append_nil, at0, cond_false, sumB, Int.add_zero]
  | c :: r, pre, b, n + 1, hN, hs, hl, h0, hb, hn => by
    subst hN
    simp only [List.length_cons] at hl hb hn
    obtain ⟨hi, hi0, hw, hg⟩ := at4 pre r c [] (by omega)
    have hc := hs c List.mem_cons_self
    have w1 : IntKind.i64.wrap ((c.length : Int) + 2) = (c.length : Int) + 2 := w64 (by omega) (by omega)
    have w2 : IntKind.i64.wrap (b + ((c.length : Int) + 2)) = b + ((c.length : Int) + 2) := w64 (by omega) (by omega)
    rw [loopN_inl (v' := (((pre ++ c :: r).length : Int), ((pre.length + 1 : Nat) : Int), y2, y3, y4, y5, y6, y7, y8, y9, y10, y11, y12, y13, y14, y15, y16, y17, y18, b + ((c.length : Int) + 2), pre ++ c :: r, y21, ())) (by simp only [F16_l0, hi, hi0, hg, hw, w1, w2, cond_true, Bool.and_self])]
    rw [shift, pl1 pre c, brun _ y2 y3 y4 y5 y6 y7 y8 y9 y10 y11 y12 y13 y14 y15 y16 y17 y18 y21 r (pre ++ [c]) (b + ((c.length : Int) + 2)) n (by simp) (fun s h => hs s (List.mem_cons_of_mem _ h)) (by simp; omega) (by omega) (by omega) (by omega)]
    simp only [sumB, Int.add_assoc]
theorem c16 (name : List UInt8) (id : Int) (nl : Bool) (lo dm : List UInt8) (to : List Rc) (z6 : List (List UInt8)) (z7 z8 z9 : Bool) (z10 z11 z12 k : Int) (hn : name.length ≤ 1000) (hid : -9223372036854775808 ≤ id ∧ id ≤ 9223372036854775807)
    (hto : ∀ r ∈ to, r.1.2.1.length ≤ 1000 ∧ r.1.2.2.length ≤ 1000 ∧ -9223372036854775808 ≤ r.2.2.2.2 ∧ r.2.2.2.2 ≤ 9223372036854775807) :
    C16 (name, id, nl, lo, dm, to, z6, z7, z8, z9, z10, z11, z12, k, ()) = some (buildS name id nl lo dm to k) := by
  have hz : ((false, ([], [])), (0, (0, (0, 0)))) = rcD := rfl
  unfold buildS asksB
  simp only [C16, F16]
  cases nl with
  | true => rfl
  | false =>
    simp only [cond_false, Bool.not_false, Bool.true_and]
    by_cases hk : k < 0
    · have d1 : decide (k < 0) = true := by simp [hk]
      have d2 : decide (0 ≤ k) = false := by simp; omega
      rw [d1, d2]; rfl
    · have d1 : decide (k < 0) = false := by simp; omega
      have d2 : decide (0 ≤ k) = true := by simp; omega
      rw [d1, d2]
      simp only [cond_false, Bool.true_and]
      by_cases hk2 : k < (to.length : Int)
      · have d3 : decide (k ≥ (to.length : Int)) = false := by simp; omega
        have d4 : decide (k < (to.length : Int)) = true := by simp [hk2]
        rw [d3, d4]
        simp only [cond_false, cond_true, Bool.true_and]
        have hmem : to.getD k.toNat rcD ∈ to := by
          rw [List.getD_eq_getElem?_getD, List.getElem?_eq_getElem (show k.toNat < to.length by omega)]
          exact List.getElem_mem _
        have hr := hto _ hmem
        obtain ⟨r, hrr⟩ : ∃ r, to.getD k.toNat rcD = r := ⟨_, rfl⟩
        rw [hrr] at hr
        change (bif (to.getD k.toNat rcD).2.1 != 3 then _ else _) = _
        rw [hrr]
        cases h3 : r.2.1 == 3 with
        | false =>
          have : (r.2.1 != 3) = true := by simp only [bne, h3]; rfl
          rw [this]; rfl
        | true =>
          have : (r.2.1 != 3) = false := by simp only [bne, h3]; rfl
          rw [this]
          simp only [cond_false, cond_true]
          have hml := mL_len name id r hn hr.1 hr.2.1
          have hok := mL_ok name id r hn hr.1 hr.2.1
          have hpl := pathS_len r.1.1 r.1.2.1 r.1.2.2
          have hI : C38 (id, ()) = some (itoaF id, ()) := by rw [C38, if_pos hid]
          have hfl := c41_m (esc name) (itoaF id) (esc (pathS r.1.1 r.1.2.1 r.1.2.2)) (stS r.2.2.2.2) hok
          have hP := c23 r.1.1 r.1.2.1 r.1.2.2 (by omega) (by omega)
          have hE := c11 (pathS r.1.1 r.1.2.1 r.1.2.2) (by omega)
          have hS := c13 r.2.2.2.2 hr.2.2.1 hr.2.2.2
          have hl0 := brun ((mLines name id r).length : Int) false [] [] false false false 0 0 0 true [] [] false false false 3 0 [(false, lo, dm)] (mLines name id r) [] 0 big (by simp) (fun s hs => (hok s hs).2) (by show 0 + 10 ≤ 1000; omega) (by omega) (by show (0 : Int) + 1000002 * 10 ≤ _; omega) (by show 10 < big; unfold big; omega)
          have e1 : decide ((82 :: 101 :: 112 :: 111 :: 114 :: 116 :: 105 :: 110 :: 103 :: 45 :: 77 :: 84 :: 65 :: 58 :: 32 :: 100 :: 110 :: 115 :: 59 :: [32] : List Nat).length + (esc name).length ≤ 9223372036854775807) = true := by simp; omega
          have e2 : decide ((79 :: 114 :: 105 :: 103 :: 105 :: 110 :: 97 :: 108 :: 45 :: 73 :: 68 :: 58 :: [32] : List Nat).length + (itoaF id).length ≤ 9223372036854775807) = true := by simp; omega
          have e3 : decide ((70 :: 105 :: 110 :: 97 :: 108 :: 45 :: 82 :: 101 :: 99 :: 105 :: 112 :: 105 :: 101 :: 110 :: 116 :: 58 :: 32 :: 117 :: 116 :: 102 :: 45 :: 56 :: 59 :: [32] : List Nat).length + (esc (pathS r.1.1 r.1.2.1 r.1.2.2)).length ≤ 9223372036854775807) = true := by simp; omega
          have e4 : decide ((83 :: 116 :: 97 :: 116 :: 117 :: 115 :: 58 :: [32] : List Nat).length + (stS r.2.2.2.2).length ≤ 9223372036854775807) = true := by simp; omega
          simp only [C16_c1, F16_c1, hz, hrr, d2, d4, c11 name (by omega), e1, hI, e2, hP, hE, e3, hS, e4, cond_true, Bool.and_self, Option.bind_some, C16_c0, F16_c0]
          rw [Int.zero_add] at hl0
          rw [Option.bind_assoc, Option.bind_assoc]
          refine bind_eq hfl ?_
          simp only [Option.bind_assoc]
          refine bind_eq hl0 ?_
          rfl
      · have d3 : decide (k ≥ (to.length : Int)) = true := by simp; omega
        have d4 : decide (k < (to.length : Int)) = false := by simp; omega
        rw [d3, d4]; rfl
end Go.Proofs.YtmfcepdbpdihgaaGreatDoor.W
set_option linter.unusedVariables false
set_option linter.unusedSimpArgs false
set_option maxRecDepth 100000
namespace Go.Proofs.YtmfcepdbpdihgaaGreatDoor.W
open Go Go.Ae Go.Pl
def numS (s : List UInt8) : Int := match Lib.atoiAll (s.filter fun b => b != 46) with
  | .ok n => if stS n = s then (if n < 100 then -1 else n) else -1
  | _ => -1
theorem atoi_rng {l : List UInt8} {n : Int} (h : Lib.atoiAll l = .ok n) : -9223372036854775808 ≤ n ∧ n ≤ 9223372036854775807 := by
  unfold Lib.atoiAll at h
  split at h
  · cases h
  · dsimp only at h
    split at h
    · cases h
    · cases h
    · split at h
      · cases h
      · split at h
        · cases h
        · rename_i u hu h1 h2
          cases h
          split
          · rename_i hn
            have : ¬ (9223372036854775808 < u) := fun hc => h2 ⟨hn, hc⟩
            omega
          · rename_i hn
            have : ¬ (9223372036854775808 ≤ u) := fun hc => h1 ⟨hn, hc⟩
            omega
theorem c55 (s : List UInt8) (hl : s.length ≤ 1000000) : C55 (s, ()) = some (numS s, ()) := by
  have h84 : C84 (s, [46], [], ()) = some (s.filter (fun b => b != 46), ()) := by
    simp only [C84]
    rw [if_pos (by omega)]
  have hf : (s.filter (fun b => b != 46)).length ≤ 281474976710656 := by
    have := List.length_filter_le (fun b => b != 46) s
    omega
  simp only [C55, F55, h84, Option.bind_some, C83]
  rw [if_pos hf]
  unfold numS
  cases hx : Lib.atoiAll (s.filter fun b => b != 46) with
  | ok n =>
    have hr := atoi_rng hx
    simp only [Option.bind_some, Sum.elim_inl, c13 n hr.1 hr.2]
    by_cases hs : stS n = s
    · rw [if_pos hs]
      have : (stS n == s) = true := by simp [hs]
      simp only [this, Bool.not_true, cond_false]
      by_cases h1 : n < 100
      · rw [if_pos h1, decide_eq_true h1]; rfl
      · rw [if_neg h1, decide_eq_false h1]; rfl
    · rw [if_neg hs]
      have : (stS n == s) = false := by simp [hs]
      simp only [this, Bool.not_false, cond_true]
  | _ => rfl
theorem atoi900 : ((List.range 900).all fun m => match Lib.atoiAll ((stS ((100 + m : Nat) : Int)).filter fun b => b != 46) with | .ok n => n == ((100 + m : Nat) : Int) | _ => false) = true := by kernel_rfl
theorem atoi_st {n : Int} (h0 : 100 ≤ n) (h1 : n ≤ 999) : Lib.atoiAll ((stS n).filter fun b => b != 46) = .ok n := by
  have := List.all_eq_true.1 atoi900 (n.toNat - 100) (List.mem_range.2 (by omega))
  rw [show ((100 + (n.toNat - 100) : Nat) : Int) = n by omega] at this
  split at this
  · rename_i m hm; rw [hm]; simp at this; rw [this]
  · cases this
theorem num_st {n : Int} (h0 : 100 ≤ n) (h1 : n ≤ 999) : numS (stS n) = n := by
  unfold numS
  rw [atoi_st h0 h1]
  dsimp only
  rw [if_pos rfl, if_neg (by omega)]
theorem num_spec (s : List UInt8) : (∃ n, 100 ≤ n ∧ n ≤ 999 ∧ stS n = s ∧ numS s = n) ∨ (numS s = -1 ∧ ∀ n, 100 ≤ n → n ≤ 999 → stS n ≠ s) := by
  by_cases h : ∃ n, 100 ≤ n ∧ n ≤ 999 ∧ stS n = s
  · obtain ⟨n, h0, h1, rfl⟩ := h
    exact .inl ⟨n, h0, h1, rfl, num_st h0 h1⟩
  · refine .inr ⟨?_, fun n h0 h1 hs => h ⟨n, h0, h1, hs⟩⟩
    unfold numS
    split
    · rename_i n hn
      split
      · rename_i hs
        split
        · rfl
        · rename_i h1
          exfalso
          by_cases h9 : n ≤ 999
          · exact h ⟨n, by omega, h9, hs⟩
          · have h5 : stS n = [53, 46, 48, 46, 48] := by unfold stS; rw [if_pos (by omega)]
            have h6 : stS 500 = [53, 46, 48, 46, 48] := by decide
            exact h ⟨500, by omega, by omega, by rw [h6, ← h5, hs]⟩
      · rfl
    · rfl
theorem c52 (s p : List UInt8) : C52 (s, p, ()) = some (hasP p s, ()) := by
  simp only [C52, F52, c82, Option.bind_some]
theorem c56 (s p : List UInt8) : C56 (s, p, ()) = some (if hasP p s = true then (s.drop p.length, true, ()) else ([], false, ())) := by
  by_cases hl : s.length < p.length
  · have d : decide ((s.length : Int) < (p.length : Int)) = true := by simp; omega
    have : hasP p s = false := by
      cases hh : hasP p s with
      | false => rfl
      | true => have := (hasP_len hh).1; omega
    simp only [C56, F56, d, cond_true, this]
    rfl
  · have d : decide ((s.length : Int) < (p.length : Int)) = false := by simp; omega
    have d2 : decide (0 ≤ (p.length : Int)) = true := by simp
    have d3 : decide ((p.length : Int) ≤ (s.length : Int)) = true := by simp; omega
    simp only [C56, F56, d, d2, d3, cond_true, cond_false, Bool.and_self, Int.toNat_natCast]
    change (bif !hasP p s then _ else _) = _
    cases hasP p s <;> rfl
theorem rowrun (x1 x3 : Int) : ∀ (r t pre : List (List UInt8)) (n : Nat), r.length = t.length → pre.length + r.length ≤ 1000000000 → r.length < n → ∀ pre2 : List (List UInt8), pre2.length = pre.length →
    loopN F81_l0 n ((pre.length : Int), x1, pre ++ r, x3, pre2 ++ t, ()) = some (bif r == t then .inl () else .inr (false, ()))
  | _, _, _, 0, _, _, hn, _, _ => by omega
  | [], [], pre, n + 1, _, hl, hn, pre2, hp => by
    refine loopN_inr ?_
    simp only [F81_l0, List.append_nil, at0, cond_false]
    rfl
  | [], _ :: _, _, _, h, _, _, _, _ => by simp at h
  | _ :: _, [], _, _, h, _, _, _, _ => by simp at h
  | c :: r, d :: t, pre, n + 1, h, hl, hn, pre2, hp => by
    simp only [List.length_cons] at h hl hn
    obtain ⟨hi, hi0, hw, hg⟩ := at4 pre r c [] (by omega)
    obtain ⟨hi2, _, _, hg2⟩ := at4 pre2 t d [] (by omega)
    rw [hp] at hi2 hg2
    cases hcd : c == d with
    | false =>
      have : ((c :: r) == (d :: t)) = false := by
        rw [List.cons_beq_cons, hcd]; rfl
      rw [this]
      refine loopN_inr ?_
      simp only [F81_l0, hi, hi0, hi2, hg, hg2, hcd, cond_true, Bool.and_self, Bool.not_false]
      rfl
    | true =>
      have : ((c :: r) == (d :: t)) = (r == t) := by
        rw [List.cons_beq_cons, hcd]; rfl
      rw [this]
      rw [loopN_inl (v' := (((pre.length + 1 : Nat) : Int), x1, pre ++ c :: r, x3, pre2 ++ d :: t, ())) (by simp only [F81_l0, hi, hi0, hi2, hg, hg2, hw, hcd, cond_true, cond_false, Bool.and_self, Bool.not_true])]
      rw [shift pre, shift pre2, pl1 pre c]
      exact rowrun x1 x3 r t (pre ++ [c]) n (by omega) (by simp; omega) (by omega) (pre2 ++ [d]) (by simp [hp])
theorem c46 (l m : List (List UInt8)) (hl : l.length ≤ 1000000) : C46 (l, m, ()) = some (l == m, ()) := by
  simp only [C46, F46, C81, F81]
  by_cases h : l.length = m.length
  · have d : ((l.length : Int) != (m.length : Int)) = false := by simp [h]
    have h1 := rowrun 0 0 l m [] big h (by simp; omega) (by unfold big; omega) [] rfl
    have h1' : C81_l0 (0, 0, l, 0, m, ()) = _ := h1
    have d0 : ((0 : Int) != 0) = false := rfl
    simp only [d, d0, cond_false, h1', Option.bind_some]
    cases l == m <;> rfl
  · have d : ((l.length : Int) != (m.length : Int)) = true := by simp; omega
    have d0 : ((0 : Int) != 0) = false := rfl
    have : (l == m) = false := by
      rw [beq_eq_false_iff_ne]
      intro he; exact h (by rw [he])
    simp only [d, d0, cond_true, cond_false, Option.bind_some, this]
def none3 : List UInt8 × Int × Bool × Unit := ([], 0, false, ())
def tenOk (a0 a1 a2 a3 a4 a5 a6 a7 a8 a9 : List UInt8) : Bool :=
  (a0 == subS && a1 == mimS) && ((a2 == conS && (a3 == [] && a5 == [])) && ((hasP mtaS a4 && hasP oriS a6) && ((hasP finS a7 && (fin2 (unE (a7.drop 24))).2.1) && (hasP staS a9 && (decide (numS (a9.drop 8) > 0) && a8 == actS)))))
def readS : List (List UInt8) → List UInt8 × Int × Bool × Unit
  | [a0, a1, a2, a3, a4, a5, a6, a7, a8, a9] => bif tenOk a0 a1 a2 a3 a4 a5 a6 a7 a8 a9 then ((fin2 (unE (a7.drop 24))).1, numS (a9.drop 8), true, ()) else none3
  | _ => none3
theorem ten (l : List (List UInt8)) : (∃ a0 a1 a2 a3 a4 a5 a6 a7 a8 a9, l = [a0, a1, a2, a3, a4, a5, a6, a7, a8, a9]) ∨ (l.length ≠ 10 ∧ readS l = none3) := by
  match l with
  | [] => exact .inr ⟨by simp, rfl⟩
  | [_] => exact .inr ⟨by simp, rfl⟩
  | [_, _] => exact .inr ⟨by simp, rfl⟩
  | [_, _, _] => exact .inr ⟨by simp, rfl⟩
  | [_, _, _, _] => exact .inr ⟨by simp, rfl⟩
  | [_, _, _, _, _] => exact .inr ⟨by simp, rfl⟩
  | [_, _, _, _, _, _] => exact .inr ⟨by simp, rfl⟩
  | [_, _, _, _, _, _, _] => exact .inr ⟨by simp, rfl⟩
  | [_, _, _, _, _, _, _, _] => exact .inr ⟨by simp, rfl⟩
  | [_, _, _, _, _, _, _, _, _] => exact .inr ⟨by simp, rfl⟩
  | [a0, a1, a2, a3, a4, a5, a6, a7, a8, a9] => exact .inl ⟨a0, a1, a2, a3, a4, a5, a6, a7, a8, a9, rfl⟩
  | _ :: _ :: _ :: _ :: _ :: _ :: _ :: _ :: _ :: _ :: _ :: _ => exact .inr ⟨by simp, rfl⟩
section
variable (a0 a1 a2 a3 a4 a5 a6 a7 a8 a9 : List UInt8)
theorem r2 : C49 ([a0, a1, a2, a3, a4, a5, a6, a7, a8, a9], ()) = some (a0 == subS && a1 == mimS, [a0, a1, a2, a3, a4, a5, a6, a7, a8, a9], ()) := by
  show (bif a0 == subS then some (a1 == mimS, [a0, a1, a2, a3, a4, a5, a6, a7, a8, a9], ()) else some (false, [a0, a1, a2, a3, a4, a5, a6, a7, a8, a9], ())) = _
  cases a0 == subS <;> rfl
theorem r3 : C50 ([a0, a1, a2, a3, a4, a5, a6, a7, a8, a9], ()) = some (a2 == conS && (a3 == [] && a5 == []), [a0, a1, a2, a3, a4, a5, a6, a7, a8, a9], ()) := by
  show (bif a2 == conS then (bif a3 == [] then some (a5 == [], [a0, a1, a2, a3, a4, a5, a6, a7, a8, a9], ()) else some (false, [a0, a1, a2, a3, a4, a5, a6, a7, a8, a9], ())) else some (false, [a0, a1, a2, a3, a4, a5, a6, a7, a8, a9], ())) = _
  cases a2 == conS <;> cases a3 == [] <;> rfl
theorem r4 : C51 ([a0, a1, a2, a3, a4, a5, a6, a7, a8, a9], ()) = some (hasP mtaS a4 && hasP oriS a6, [a0, a1, a2, a3, a4, a5, a6, a7, a8, a9], ()) := by
  have h1 := c52 a4 mtaS
  have h2 := c52 a6 oriS
  show ((C52 (a4, mtaS, ())).bind fun val => bif val.1 then ((C52 (a6, oriS, ())).bind fun val => some (val.1, [a0, a1, a2, a3, a4, a5, a6, a7, a8, a9], ())) else some (false, [a0, a1, a2, a3, a4, a5, a6, a7, a8, a9], ())) = _
  rw [h1, h2]
  cases hasP mtaS a4 <;> rfl
theorem r5 (x : List UInt8) (h7 : a7.length ≤ 800000) : ∃ y, C53 ([a0, a1, a2, a3, a4, a5, a6, a7, a8, a9], x, ()) = some (hasP finS a7 && (fin2 (unE (a7.drop 24))).2.1, [a0, a1, a2, a3, a4, a5, a6, a7, a8, a9], y, ()) ∧ (hasP finS a7 = true → y = (fin2 (unE (a7.drop 24))).1) := by
  have h1 := c25 a7 finS
  have e : C53 ([a0, a1, a2, a3, a4, a5, a6, a7, a8, a9], x, ()) = ((C25 (a7, finS, ())).bind fun val => (C9 (val.1, ())).bind fun val_1 => bif val.2.1 then some (val_1.2.1, [a0, a1, a2, a3, a4, a5, a6, a7, a8, a9], val_1.1, ()) else some (false, [a0, a1, a2, a3, a4, a5, a6, a7, a8, a9], val_1.1, ())) := rfl
  rw [e, h1]
  cases hasP finS a7 with
  | true =>
    have hd : (a7.drop finS.length).length ≤ 800000 := by rw [List.length_drop]; omega
    rw [if_pos rfl]
    simp only [Option.bind_some, c9 _ hd, cond_true]
    exact ⟨_, rfl, fun _ => rfl⟩
  | false =>
    rw [if_neg (by simp)]
    simp only [Option.bind_some, c9 _ h7, cond_false]
    exact ⟨_, rfl, fun h => by cases h⟩
theorem r6 (x : Int) (h9 : a9.length ≤ 800000) : ∃ y, C54 ([a0, a1, a2, a3, a4, a5, a6, a7, a8, a9], x, ()) = some (hasP staS a9 && (decide (numS (a9.drop 8) > 0) && a8 == actS), [a0, a1, a2, a3, a4, a5, a6, a7, a8, a9], y, ()) ∧ (hasP staS a9 = true → y = numS (a9.drop 8)) := by
  have h1 := c25 a9 staS
  have e : C54 ([a0, a1, a2, a3, a4, a5, a6, a7, a8, a9], x, ()) = ((C25 (a9, staS, ())).bind fun val => (C55 (val.1, ())).bind fun val_1 => bif val.2.1 then (bif decide (val_1.1 > 0) then some (a8 == actS, [a0, a1, a2, a3, a4, a5, a6, a7, a8, a9], val_1.1, ()) else some (false, [a0, a1, a2, a3, a4, a5, a6, a7, a8, a9], val_1.1, ())) else some (false, [a0, a1, a2, a3, a4, a5, a6, a7, a8, a9], val_1.1, ())) := rfl
  rw [e, h1]
  cases hasP staS a9 with
  | true =>
    have hd : (a9.drop staS.length).length ≤ 1000000 := by rw [List.length_drop]; omega
    rw [if_pos rfl]
    simp only [Option.bind_some, c55 _ hd, cond_true]
    refine ⟨numS (a9.drop staS.length), ?_, fun _ => rfl⟩
    show (bif decide (numS (a9.drop 8) > 0) then _ else _) = _
    cases decide (numS (a9.drop 8) > 0) <;> rfl
  | false =>
    rw [if_neg (by simp)]
    simp only [Option.bind_some, c55 _ (show a9.length ≤ 1000000 by omega), cond_false]
    exact ⟨_, rfl, fun h => by cases h⟩
end
theorem c19 (l : List (List UInt8)) (hl : ∀ s ∈ l, s.length ≤ 800000) : C19 (l, ()) = some (readS l) := by
  rcases ten l with ⟨a0, a1, a2, a3, a4, a5, a6, a7, a8, a9, rfl⟩ | ⟨h, hr⟩
  · have h1 : C48 ([a0, a1, a2, a3, a4, a5, a6, a7, a8, a9], ()) = some (true, [a0, a1, a2, a3, a4, a5, a6, a7, a8, a9], ()) := rfl
    obtain ⟨y5, h5, hy5⟩ := r5 a0 a1 a2 a3 a4 a5 a6 a7 a8 a9 [] (hl _ (by simp))
    obtain ⟨y6, h6, hy6⟩ := r6 a0 a1 a2 a3 a4 a5 a6 a7 a8 a9 0 (hl _ (by simp))
    simp only [C19, F19, C47, F47, h1, r2, r3, r4, h5, h6, Option.bind_some, Bool.not_true, cond_false, readS, tenOk]
    cases a0 == subS && a1 == mimS <;> simp only [Bool.not_true, Bool.not_false, cond_true, cond_false, Option.bind_some, Bool.true_and, Bool.false_and, none3]
    cases a2 == conS && (a3 == [] && a5 == []) <;> simp only [Bool.not_true, Bool.not_false, cond_true, cond_false, Option.bind_some, Bool.true_and, Bool.false_and]
    cases hasP mtaS a4 && hasP oriS a6 <;> simp only [Bool.not_true, Bool.not_false, cond_true, cond_false, Option.bind_some, Bool.true_and, Bool.false_and]
    cases hf : hasP finS a7 <;> simp only [Bool.not_true, Bool.not_false, cond_true, cond_false, Option.bind_some, Bool.true_and, Bool.false_and]
    rw [hy5 hf]
    cases (fin2 (unE (a7.drop 24))).2.1 <;> simp only [Bool.not_true, Bool.not_false, cond_true, cond_false, Option.bind_some, Bool.true_and, Bool.false_and]
    cases hg : hasP staS a9 <;> simp only [Bool.not_true, Bool.not_false, cond_true, cond_false, Option.bind_some, Bool.true_and, Bool.false_and]
    rw [hy6 hg]
    cases decide (numS (a9.drop 8) > 0) && a8 == actS <;> simp only [Bool.not_true, Bool.not_false, cond_true, cond_false, Option.bind_some, Bool.true_and, Bool.false_and]
  · have d : ((l.length : Int) == 10) = false := by
      rw [beq_eq_false_iff_ne]; omega
    rw [hr]
    simp only [C19, F19, C47, F47, C48, F48, d, Option.bind_some, Bool.not_false, cond_true, none3]
theorem nrun (s y : List UInt8) : C20_l0 (s, y, true, 100, ()) = some (if numS s > 0 then .inr (y, numS s, true, ()) else .inl ()) := by
  show loopN (F20_l0 C14) big (s, y, true, 100, ()) = _
  have dt : ∀ j : Nat, j < 900 → decide (100 + (j : Int) < 1000) = true := fun j h => by simp; omega
  have hw : ∀ j : Nat, j < 900 → IntKind.i64.wrap (100 + (j : Int) + 1) = 100 + ((j + 1 : Nat) : Int) := fun j h => by rw [w64 (by omega) (by omega)]; omega
  rcases num_spec s with ⟨n, h0, h1, hs, hn⟩ | ⟨hn, hno⟩
  · rw [hn, if_pos (by omega)]
    refine loopN_to (fun j => (s, y, true, 100 + (j : Int), ())) (n.toNat - 100) (fun j hj => ?_) ?_ (by unfold big; omega)
    · have hne : (stS (100 + (j : Int)) == s) = false := by
        rw [← hs, stS_inj (by omega) (by omega)]
        simp; omega
      simp only [F20_l0, dt j (by omega), c14, hne, hw j (by omega), cond_true, cond_false, Option.bind_some]
    · have e : 100 + ((n.toNat - 100 : Nat) : Int) = n := by omega
      have d := dt (n.toNat - 100) (by omega)
      rw [e] at d
      simp only [e, F20_l0, d, c14, hs, beq_self_eq_true, cond_true, Option.bind_some]
  · rw [hn, if_neg (by omega)]
    refine loopN_to (fun j => (s, y, true, 100 + (j : Int), ())) 900 (fun j hj => ?_) ?_ (by unfold big; omega)
    · have hne : (stS (100 + (j : Int)) == s) = false := by
        rw [beq_eq_false_iff_ne]
        exact hno _ (by omega) (by omega)
      simp only [F20_l0, dt j (by omega), c14, hne, hw j (by omega), cond_true, cond_false, Option.bind_some]
    · rfl
theorem c20 (l : List (List UInt8)) (hl : ∀ s ∈ l, s.length ≤ 800000) : C20 (l, ()) = some (readS l) := by
  rcases ten l with ⟨a0, a1, a2, a3, a4, a5, a6, a7, a8, a9, rfl⟩ | ⟨h, hr⟩
  · have b4 := c56 a4 mtaS
    have b6 := c56 a6 oriS
    have b7 := c56 a7 finS
    have b9 := c56 a9 staS
    have e4 := hl a4 (by simp)
    have e6 := hl a6 (by simp)
    have e7 := hl a7 (by simp)
    have e9 := hl a9 (by simp)
    have key : C20 ([a0, a1, a2, a3, a4, a5, a6, a7, a8, a9], ()) = ((C56 (a4, mtaS, ())).bind fun val => (C56 (a6, oriS, ())).bind fun val_1 => (C56 (a7, finS, ())).bind fun val_2 => (C56 (a9, staS, ())).bind fun val_3 =>
        (C42 (val.1, val_1.1, val_2.1, val_3.1, ())).bind fun val_4 =>
          bif !val.2.1 then some ([], 0, false, ()) else bif !val_1.2.1 then some ([], 0, false, ()) else bif !val_2.2.1 then some ([], 0, false, ()) else bif !val_3.2.1 then some ([], 0, false, ()) else
            (C46 ([a0, a1, a2, a3, a4, a5, a6, a7, a8, a9], val_4.1, ())).bind fun val =>
              bif !val.1 then some ([], 0, false, ()) else
                (C10 (val_2.1, ())).bind fun val => (C20_l0 (val_3.1, val.1, val.2.1, 100, ())).bind fun val =>
                  Sum.elim (fun val => some ([], 0, false, ())) (fun val => some (val.1, val.2.1, val.2.2.1, ())) val) := rfl
    rw [key, b4, b6, b7, b9]
    have hd : ∀ (p s : List UInt8), s.length ≤ 800000 → (if hasP p s = true then (s.drop p.length, true, ()) else (([] : List UInt8), false, ())).1.length ≤ 800000 := fun p s h => by
      split
      · show (s.drop p.length).length ≤ _; rw [List.length_drop]; omega
      · exact Nat.zero_le _
    have hli := c42 _ _ _ _ (Nat.le_trans (Nat.add_le_add (Nat.add_le_add (Nat.add_le_add (hd mtaS a4 e4) (hd oriS a6 e6)) (hd finS a7 e7)) (hd staS a9 e9)) (by omega))
    simp only [Option.bind_some, hli, readS, tenOk]
    cases h4 : hasP mtaS a4
    · simp only [Bool.false_and, Bool.and_false]; rfl
    cases h6 : hasP oriS a6
    · simp only [Bool.false_and, Bool.and_false, Bool.true_and]; rfl
    cases h7 : hasP finS a7
    · simp only [Bool.false_and, Bool.and_false, Bool.true_and]; rfl
    cases h9 : hasP staS a9
    · simp only [Bool.false_and, Bool.and_false, Bool.true_and]; rfl
    simp only [if_true, Bool.not_true, cond_false, c46 [a0, a1, a2, a3, a4, a5, a6, a7, a8, a9] _ (by show 10 ≤ 1000000; omega), Option.bind_some, Bool.true_and, Bool.and_true]
    have hrow : ([a0, a1, a2, a3, a4, a5, a6, a7, a8, a9] == linesS (a4.drop mtaS.length) (a6.drop oriS.length) (a7.drop finS.length) (a9.drop staS.length)) = ((a0 == subS && a1 == mimS) && ((a2 == conS && (a3 == [] && a5 == [])) && a8 == actS)) := by
      have s4 := (hasP_len h4).2
      have s6 := (hasP_len h6).2
      have s7 := (hasP_len h7).2
      have s9 := (hasP_len h9).2
      unfold linesS
      rw [← s4, ← s6, ← s7, ← s9]
      simp only [List.cons_beq_cons, beq_self_eq_true, Bool.true_and]
      cases a0 == subS <;> cases a1 == mimS <;> cases a2 == conS <;> cases a3 == [] <;> cases a5 == [] <;> cases a8 == actS <;> rfl
    rw [hrow]
    have hu : C10 (a7.drop finS.length, ()) = some (fin2 (unE (a7.drop finS.length))) := c10 _ (by rw [List.length_drop]; omega)
    rw [hu]
    simp only [Option.bind_some]
    have f24 : finS.length = 24 := rfl
    have s8 : staS.length = 8 := rfl
    rw [f24, s8]
    cases a0 == subS && a1 == mimS
    · rfl
    cases a2 == conS && (a3 == [] && a5 == [])
    · rfl
    cases a8 == actS
    · simp only [Bool.and_false, Bool.true_and]; rfl
    rcases fin_cases (unE (a7.drop 24)) with ⟨y, hy⟩ | hy
    · rw [hy]
      simp only [Bool.true_and, Bool.not_true, cond_false, nrun, Option.bind_some, Bool.and_true]
      by_cases hp : numS (a9.drop 8) > 0
      · rw [if_pos hp, decide_eq_true hp]; rfl
      · rw [if_neg hp, decide_eq_false hp]; rfl
    · rw [hy]; rfl
  · have d : ((l.length : Int) != 10) = true := by simp; omega
    rw [hr]
    simp only [C20, F20, d, cond_true, none3]
end Go.Proofs.YtmfcepdbpdihgaaGreatDoor.W
set_option linter.unusedVariables false
set_option linter.unusedSimpArgs false
set_option maxRecDepth 100000
namespace Go.Proofs.YtmfcepdbpdihgaaGreatDoor.W
open Go Go.Ae Go.Pl
theorem at6 {α : Type} (pre r : List α) (c d : α) (hl : pre.length + r.length ≤ 1000000000000000000) : decide ((pre.length : Int) < ((pre ++ c :: r).length : Int)) = true ∧ decide (0 ≤ (pre.length : Int)) = true ∧
    IntKind.i64.wrap ((pre.length : Int) + 1) = ((pre.length + 1 : Nat) : Int) ∧ (pre ++ c :: r).getD ((pre.length : Int)).toNat d = c :=
  ⟨by simp; omega, by simp, wrN _ (by omega), by rw [Int.toNat_natCast]; exact gd rfl⟩
def boxF (lo dm : List UInt8) : Bool := Nat.ble lo.length 150 && Nat.ble dm.length 200
theorem boxF_iff {lo dm : List UInt8} : boxF lo dm = true ↔ lo.length ≤ 150 ∧ dm.length ≤ 200 := by
  simp [boxF]
theorem c40 (lo dm : List UInt8) : C40 (lo, dm, ()) = some (boxF lo dm, ()) := by
  have e1 : decide ((lo.length : Int) ≤ 150) = Nat.ble lo.length 150 := by
    rw [Bool.eq_iff_iff]; simp; omega
  have e2 : decide ((dm.length : Int) ≤ 200) = Nat.ble dm.length 200 := by
    rw [Bool.eq_iff_iff]; simp; omega
  simp only [C40, F40, e1, e2, boxF]
  cases Nat.ble lo.length 150 <;> rfl
theorem fewrun (x1 : Int) (x2 : Bool) (x3 x4 : List UInt8) (x6 : List (List UInt8)) (x7 x8 x9 : Bool) (x10 x11 x12 : Int) : ∀ (r pre : List Rc) (n : Nat), pre.length + r.length ≤ 1000000000000000000 → r.length < n →
    loopN (F15_l0 C40) n ((pre.length : Int), x1, x2, x3, x4, pre ++ r, x6, x7, x8, x9, x10, x11, x12, ()) = some (if (∀ x ∈ r, boxF x.1.2.1 x.1.2.2 = true) then .inl (x1, x2, x3, x4, pre ++ r, x6, x7, x8, x9, x10, x11, x12, ()) else .inr (false, ()))
  | _, _, 0, _, hn => by omega
  | [], pre, n + 1, hl, hn => by
    refine loopN_inr ?_
    rw [if_pos (fun x hx => by cases hx)]
    simp only [F15_l0, List.append_nil, at0, cond_false]
  | c :: r, pre, n + 1, hl, hn => by
    simp only [List.length_cons] at hl hn
    obtain ⟨hi, hi0, hw, hg⟩ := at6 pre r c rcD (by omega)
    have hz : ((false, ([], [])), (0, (0, (0, 0)))) = rcD := rfl
    cases hb : boxF c.1.2.1 c.1.2.2 with
    | false =>
      rw [if_neg (fun h => by have := h c List.mem_cons_self; rw [hb] at this; cases this)]
      refine loopN_inr ?_
      simp only [F15_l0, hz, hi, hi0, hg, c40, hb, cond_true, Bool.and_self, Option.bind_some, Bool.not_false]
    | true =>
      rw [loopN_inl (v' := (((pre.length + 1 : Nat) : Int), x1, x2, x3, x4, pre ++ c :: r, x6, x7, x8, x9, x10, x11, x12, ())) (by simp only [F15_l0, hz, hi, hi0, hg, hw, c40, hb, cond_true, cond_false, Bool.and_self, Option.bind_some, Bool.not_true])]
      rw [shift, pl1 pre c, fewrun x1 x2 x3 x4 x6 x7 x8 x9 x10 x11 x12 r (pre ++ [c]) n (by simp; omega) (by omega)]
      congr 1
      by_cases h : ∀ x ∈ r, boxF x.1.2.1 x.1.2.2 = true
      · rw [if_pos h, if_pos (fun x hx => by rcases List.mem_cons.1 hx with rfl | hx; exact hb; exact h x hx)]
      · rw [if_neg h, if_neg (fun h2 => h fun x hx => h2 x (List.mem_cons_of_mem _ hx))]
theorem c15 (id : Int) (nl : Bool) (lo dm : List UInt8) (to : List Rc) (z6 : List (List UInt8)) (z7 z8 z9 : Bool) (z10 z11 z12 : Int) (hl : to.length ≤ 1000000000000000) :
    ∃ b, C15 (id, nl, lo, dm, to, z6, z7, z8, z9, z10, z11, z12, ()) = some (b, ()) ∧ (b = true → (∀ x ∈ to, x.1.2.1.length ≤ 150 ∧ x.1.2.2.length ≤ 200) ∧ lo.length ≤ 150 ∧ dm.length ≤ 200 ∧ to.length ≤ 120) := by
  have h1 := fewrun id nl lo dm z6 z7 z8 z9 z10 z11 z12 to [] big (by simp; omega) (by unfold big; omega)
  have h1' : C15_l0 (0, id, nl, lo, dm, to, z6, z7, z8, z9, z10, z11, z12, ()) = _ := h1
  simp only [C15, F15, h1', Option.bind_some, List.nil_append]
  by_cases h : ∀ x ∈ to, boxF x.1.2.1 x.1.2.2 = true
  · rw [if_pos h]
    simp only [Sum.elim_inl, c40, Option.bind_some]
    cases hb : boxF lo dm with
    | false => exact ⟨false, rfl, fun h => by cases h⟩
    | true =>
      refine ⟨_, rfl, fun hd => ⟨fun x hx => boxF_iff.1 (h x hx), (boxF_iff.1 hb).1, (boxF_iff.1 hb).2, ?_⟩⟩
      have := of_decide_eq_true hd
      omega
  · rw [if_neg h]
    exact ⟨false, rfl, fun h => by cases h⟩
theorem mL_le (name : List UInt8) (id : Int) (r : Rc) (h1 : name.length ≤ 1000) (h2 : r.1.2.1.length ≤ 1000) (h3 : r.1.2.2.length ≤ 1000) : ∀ s ∈ mLines name id r, s.length ≤ 800000 := by
  have hb := mL_len name id r h1 h2 h3
  have l1 : mtaS.length = 20 := rfl
  have l2 : oriS.length = 13 := rfl
  have l3 : finS.length = 24 := rfl
  have l4 : staS.length = 8 := rfl
  intro s hs
  simp only [mLines, linesS, List.mem_cons, List.not_mem_nil, or_false] at hs
  rcases hs with rfl | rfl | rfl | rfl | rfl | rfl | rfl | rfl | rfl | rfl
  · decide
  · decide
  · decide
  · decide
  · rw [List.length_append]; omega
  · decide
  · rw [List.length_append]; omega
  · rw [List.length_append]; omega
  · decide
  · rw [List.length_append]; omega
end Go.Proofs.YtmfcepdbpdihgaaGreatDoor.W
set_option maxRecDepth 100000
set_option linter.unusedVariables false
namespace Go.Proofs.YtmfcepdbpdihgaaGreatDoor.W
open Go Go.Ae
def f6_ins : List Sh := [.str, .agg 12, .int .i64, .bool, .str, .str, .lst (.pair (.pair .bool (.pair .str .str)) (.pair (.int .i64) (.pair (.int .i64) (.pair (.int .i64) (.int .i64))))), .lst .str, .bool, .bool, .bool, .int .i64, .int .i64, .int .i64, .int .i64]
def f6_outs : Outs := [(.ret, [.bool])]
def f6_l0_ins : List Sh := (List.cons (.str) (List.cons (.top) (List.cons (.int .i64) (List.cons (.top) (List.cons (.ptr 0 0) (List.cons (.top) (List.cons (.top) (List.cons (.bool) (List.cons (.top) (List.cons (.ptr 1 0) (List.cons (.top) (List.cons (.int .i64) (tp 206 (List.cons (.obox 12) (List.cons (.int .i64) (List.cons (.bool) (List.cons (.str) (List.cons (.str) (List.cons (.lst (.pair (.pair .bool (.pair .str .str)) (.pair (.int .i64) (.pair (.int .i64) (.pair (.int .i64) (.int .i64)))))) (List.cons (.lst .str) (List.cons (.bool) (List.cons (.bool) (List.cons (.bool) (List.cons (.int .i64) (List.cons (.int .i64) (List.cons (.int .i64) (List.cons (.obox 11) (List.cons (.bool) (List.cons (.str) (List.cons (.str) (List.cons (.lst (.pair .bool (.pair .str .str))) (List.cons (.lst .str) (List.cons (.bool) (List.cons (.bool) (List.cons (.bool) (List.cons (.int .i64) (List.cons (.int .i64) (List.cons (.int .i64) []))))))))))))))))))))))))))))))))))))))
def f6_l0_outs : Outs := [((.exit 0), (List.cons (.str) (List.cons (.top) (List.cons (.int .i64) (List.cons (.top) (List.cons (.ptr 0 0) (List.cons (.top) (List.cons (.top) (List.cons (.bool) (List.cons (.top) (List.cons (.ptr 1 0) (tp 208 (List.cons (.obox 12) (List.cons (.int .i64) (List.cons (.bool) (List.cons (.str) (List.cons (.str) (List.cons (.lst (.pair (.pair .bool (.pair .str .str)) (.pair (.int .i64) (.pair (.int .i64) (.pair (.int .i64) (.int .i64)))))) (List.cons (.lst .str) (List.cons (.bool) (List.cons (.bool) (List.cons (.bool) (List.cons (.int .i64) (List.cons (.int .i64) (List.cons (.int .i64) (List.cons (.obox 11) (List.cons (.bool) (List.cons (.str) (List.cons (.str) (List.cons (.lst (.pair .bool (.pair .str .str))) (List.cons (.lst .str) (List.cons (.bool) (List.cons (.bool) (List.cons (.bool) (List.cons (.int .i64) (List.cons (.int .i64) (List.cons (.int .i64) []))))))))))))))))))))))))))))))))))))), (.ret, (tp 6 (List.cons (.bool) (tp 211 []))))]
def f6_c0_ins : List Sh := (tp 4 (List.cons (.ptr 0 0) (List.cons (.top) (List.cons (.top) (List.cons (.bool) (List.cons (.top) (List.cons (.ptr 1 0) (tp 11 (List.cons (.bool) (tp 196 (List.cons (.obox 12) (List.cons (.int .i64) (List.cons (.bool) (List.cons (.str) (List.cons (.str) (List.cons (.lst (.pair (.pair .bool (.pair .str .str)) (.pair (.int .i64) (.pair (.int .i64) (.pair (.int .i64) (.int .i64)))))) (List.cons (.lst .str) (List.cons (.bool) (List.cons (.bool) (List.cons (.bool) (List.cons (.int .i64) (List.cons (.int .i64) (List.cons (.int .i64) (List.cons (.obox 11) (List.cons (.bool) (List.cons (.str) (List.cons (.str) (List.cons (.lst (.pair .bool (.pair .str .str))) (List.cons (.lst .str) (List.cons (.bool) (List.cons (.bool) (List.cons (.bool) (List.cons (.int .i64) (List.cons (.int .i64) (List.cons (.int .i64) [])))))))))))))))))))))))))))))))))))
def f6_c0_outs : Outs := [(.ret, (tp 6 (List.cons (.bool) (tp 211 []))))]
def f6_c1_ins : List Sh := (List.cons (.str) (tp 3 (List.cons (.ptr 0 0) (List.cons (.top) (List.cons (.top) (List.cons (.bool) (List.cons (.top) (List.cons (.ptr 1 0) (tp 9 (List.cons (.ptr 2 0) (tp 198 (List.cons (.obox 12) (List.cons (.int .i64) (List.cons (.bool) (List.cons (.str) (List.cons (.str) (List.cons (.lst (.pair (.pair .bool (.pair .str .str)) (.pair (.int .i64) (.pair (.int .i64) (.pair (.int .i64) (.int .i64)))))) (List.cons (.lst .str) (List.cons (.bool) (List.cons (.bool) (List.cons (.bool) (List.cons (.int .i64) (List.cons (.int .i64) (List.cons (.int .i64) (List.cons (.obox 11) (List.cons (.bool) (List.cons (.str) (List.cons (.str) (List.cons (.lst (.pair .bool (.pair .str .str))) (List.cons (.lst .str) (List.cons (.bool) (List.cons (.bool) (List.cons (.bool) (List.cons (.int .i64) (List.cons (.int .i64) (List.cons (.int .i64) (List.cons (.obox 12) (List.cons (.int .i64) (List.cons (.bool) (List.cons (.str) (List.cons (.str) (List.cons (.row 3) (List.cons (.nils) (List.cons (.bool) (List.cons (.bool) (List.cons (.bool) (List.cons (.int .i64) (List.cons (.int .i64) (List.cons (.int .i64) (List.cons (.orow 53 (.pair (.pair .bool (.pair .str .str)) (.pair (.int .i64) (.pair (.int .i64) (.pair (.int .i64) (.int .i64)))))) []))))))))))))))))))))))))))))))))))))))))))))))))))
def f6_c1_outs : Outs := [(.ret, (tp 6 (List.cons (.bool) (tp 211 []))))]
def f6_c2_ins : List Sh := (List.cons (.str) (tp 3 (List.cons (.ptr 0 0) (List.cons (.top) (List.cons (.top) (List.cons (.bool) (List.cons (.top) (List.cons (.ptr 1 0) (tp 208 (List.cons (.obox 12) (List.cons (.int .i64) (List.cons (.bool) (List.cons (.str) (List.cons (.str) (List.cons (.lst (.pair (.pair .bool (.pair .str .str)) (.pair (.int .i64) (.pair (.int .i64) (.pair (.int .i64) (.int .i64)))))) (List.cons (.lst .str) (List.cons (.bool) (List.cons (.bool) (List.cons (.bool) (List.cons (.int .i64) (List.cons (.int .i64) (List.cons (.int .i64) (List.cons (.obox 11) (List.cons (.bool) (List.cons (.str) (List.cons (.str) (List.cons (.lst (.pair .bool (.pair .str .str))) (List.cons (.lst .str) (List.cons (.bool) (List.cons (.bool) (List.cons (.bool) (List.cons (.int .i64) (List.cons (.int .i64) (List.cons (.int .i64) []))))))))))))))))))))))))))))))))))
def f6_c2_outs : Outs := [(.ret, (tp 6 (List.cons (.bool) (tp 211 []))))]
def f6_c3_ins : List Sh := (List.cons (.str) (List.cons (.top) (List.cons (.int .i64) (List.cons (.top) (List.cons (.ptr 0 0) (List.cons (.top) (List.cons (.top) (List.cons (.bool) (List.cons (.top) (List.cons (.ptr 1 0) (List.cons (.bool) (tp 207 (List.cons (.obox 12) (List.cons (.int .i64) (List.cons (.bool) (List.cons (.str) (List.cons (.str) (List.cons (.lst (.pair (.pair .bool (.pair .str .str)) (.pair (.int .i64) (.pair (.int .i64) (.pair (.int .i64) (.int .i64)))))) (List.cons (.lst .str) (List.cons (.bool) (List.cons (.bool) (List.cons (.bool) (List.cons (.int .i64) (List.cons (.int .i64) (List.cons (.int .i64) (List.cons (.obox 11) (List.cons (.bool) (List.cons (.str) (List.cons (.str) (List.cons (.lst (.pair .bool (.pair .str .str))) (List.cons (.lst .str) (List.cons (.bool) (List.cons (.bool) (List.cons (.bool) (List.cons (.int .i64) (List.cons (.int .i64) (List.cons (.int .i64) [])))))))))))))))))))))))))))))))))))))
def f6_c3_outs : Outs := [(.ret, (tp 6 (List.cons (.bool) (tp 211 []))))]
def f6_c4_ins : List Sh := (List.cons (.str) (List.cons (.top) (List.cons (.int .i64) (List.cons (.top) (List.cons (.ptr 0 0) (List.cons (.top) (List.cons (.top) (List.cons (.bool) (tp 210 (List.cons (.obox 12) (List.cons (.int .i64) (List.cons (.bool) (List.cons (.str) (List.cons (.str) (List.cons (.lst (.pair (.pair .bool (.pair .str .str)) (.pair (.int .i64) (.pair (.int .i64) (.pair (.int .i64) (.int .i64)))))) (List.cons (.lst .str) (List.cons (.bool) (List.cons (.bool) (List.cons (.bool) (List.cons (.int .i64) (List.cons (.int .i64) (List.cons (.int .i64) []))))))))))))))))))))))
def f6_c4_outs : Outs := [(.ret, (tp 6 (List.cons (.bool) (tp 211 []))))]
def F6_l0 (f22 : List UInt8 × Unit → Option (Int × Unit)) : List UInt8 × Int × Bool × Int × Int × Bool × List UInt8 × List UInt8 × List (((Bool × (List UInt8 × List UInt8)) × (Int × (Int × (Int × Int))))) × List (List UInt8) × Bool × Bool × Bool × Int × Int × Int × Bool × List UInt8 × List UInt8 × List ((Bool × (List UInt8 × List UInt8))) × List (List UInt8) × Bool × Bool × Bool × Int × Int × Int × Unit → Option ((List UInt8 × Int × Bool × Int × Int × Bool × List UInt8 × List UInt8 × List (((Bool × (List UInt8 × List UInt8)) × (Int × (Int × (Int × Int))))) × List (List UInt8) × Bool × Bool × Bool × Int × Int × Int × Bool × List UInt8 × List UInt8 × List ((Bool × (List UInt8 × List UInt8))) × List (List UInt8) × Bool × Bool × Bool × Int × Int × Int × Unit) ⊕ ((List UInt8 × Int × Bool × Int × Bool × List UInt8 × List UInt8 × List (((Bool × (List UInt8 × List UInt8)) × (Int × (Int × (Int × Int))))) × List (List UInt8) × Bool × Bool × Bool × Int × Int × Int × Bool × List UInt8 × List UInt8 × List ((Bool × (List UInt8 × List UInt8))) × List (List UInt8) × Bool × Bool × Bool × Int × Int × Int × Unit) ⊕ (Bool × Unit))) := fun (x0, x1, x2, x3, x4, x5, x6, x7, x8, x9, x10, x11, x12, x13, x14, x15, x16, x17, x18, x19, x20, x21, x22, x23, x24, x25, x26, _) =>
 bif decide (x3 < (↑x20.length : Int)) then
 bif decide (0 ≤ x3) && decide (x3 < (↑x20.length : Int)) then
 (f22 (x20.getD x3.toNat [], ())).bind fun val =>
 bif decide (val.1 ≥ 0) then some (Sum.inr (Sum.inr (false, ())))
 else
 some
 (Sum.inl
 (x0, x1, x2, IntKind.i64.wrap (x3 + 1), x4, x5, x6, x7, x8, x9, x10, x11, x12, x13, x14, x15, x16, x17, x18,
 x19, x20, x21, x22, x23, x24, x25, x26, ()))
 else none
 else
 some
 (Sum.inr
 (Sum.inl
 (x0, x1, x2, x4, x5, x6, x7, x8, x9, x10, x11, x12, x13, x14, x15, x16, x17, x18, x19, x20, x21, x22, x23, x24,
 x25, x26, ())))
theorem h6_l0 (f22 : HS f22_ins → Option (OTy f22_outs)) (v : HS f6_l0_ins) : aev Γ (fun f => Ae.lookA f [(22, ⟨f22_ins, f22_outs, f22⟩)]) 0 (subc (code Tryz.f6) [1, 1, 1, 1, 1, 1, 1, 0, 1, 0, 0]) .nil (stof f6_l0_ins v) (around 0 f6_l0_ins f6_l0_outs) = F6_l0 f22 v := by kernel_rfl
def C6_l0 (v : List UInt8 × Int × Bool × Int × Int × Bool × List UInt8 × List UInt8 × List (((Bool × (List UInt8 × List UInt8)) × (Int × (Int × (Int × Int))))) × List (List UInt8) × Bool × Bool × Bool × Int × Int × Int × Bool × List UInt8 × List UInt8 × List ((Bool × (List UInt8 × List UInt8))) × List (List UInt8) × Bool × Bool × Bool × Int × Int × Int × Unit) : Option ((List UInt8 × Int × Bool × Int × Bool × List UInt8 × List UInt8 × List (((Bool × (List UInt8 × List UInt8)) × (Int × (Int × (Int × Int))))) × List (List UInt8) × Bool × Bool × Bool × Int × Int × Int × Bool × List UInt8 × List UInt8 × List ((Bool × (List UInt8 × List UInt8))) × List (List UInt8) × Bool × Bool × Bool × Int × Int × Int × Unit) ⊕ (Bool × Unit)) := loopN (F6_l0 C22) big v
theorem k6_l0 : FragOk Tryz.prog 0 (fun Q a w => (Code.loop (subc (code Tryz.f6) [1, 1, 1, 1, 1, 1, 1, 0, 1, 0, 0])).wp Tryz.prog Q a w) ⟨f6_l0_ins, f6_l0_outs, C6_l0⟩ :=
 frag_loop (ins := f6_l0_ins) (os := f6_l0_outs) (np := 0) (n := .nil) (F := F6_l0 C22) hm hΓ (K := (fun f => Ae.lookA f [(22, ⟨f22_ins, f22_outs, C22⟩)])) (kok_cons ok22 (kok_nil _)) (fun _ => big)
 (ann_nil _) (fun v => h6_l0 C22 v)
def F6_c0  : Bool × Bool × Int × Bool × List UInt8 × List UInt8 × List (((Bool × (List UInt8 × List UInt8)) × (Int × (Int × (Int × Int))))) × List (List UInt8) × Bool × Bool × Bool × Int × Int × Int × Bool × List UInt8 × List UInt8 × List ((Bool × (List UInt8 × List UInt8))) × List (List UInt8) × Bool × Bool × Bool × Int × Int × Int × Unit → Option (Bool × Unit) := fun (x0, x1, x2, x3, x4, x5, x6, x7, x8, x9, x10, x11, x12, x13, x14, x15, x16, x17, x18, x19, x20, x21, x22, x23, x24, _) =>
 bif x0 then
 bif x14 then
 bif (↑x17.length : Int) == 1 then
 bif decide (0 < (↑x17.length : Int)) then
 bif
 (x17.getD 0 (false, ([], []))).1 == x3 &&
 ((x17.getD 0 (false, ([], []))).2.1 == x4 &&
 ((x17.getD 0 (false, ([], []))).2.2 == x5 && true) &&
 true) then
 bif !x1 then
 bif !x19 then
 bif !x20 then bif !x21 then some (x22 == 3, ()) else some (false, ())
 else some (false, ())
 else some (false, ())
 else some (false, ())
 else some (false, ())
 else none
 else some (false, ())
 else some (false, ())
 else some (false, ())
theorem h6_c0  (v : HS f6_c0_ins) : aev Γ (fun f => Ae.lookA f []) 0 (subc (code Tryz.f6) [1, 1, 1, 1, 1, 1, 1, 1, 1, 1, 1, 1, 1, 1, 1]) .nil (stof f6_c0_ins v) (oout 0 f6_c0_outs) = F6_c0 v := by kernel_rfl
def C6_c0 (v : Bool × Bool × Int × Bool × List UInt8 × List UInt8 × List (((Bool × (List UInt8 × List UInt8)) × (Int × (Int × (Int × Int))))) × List (List UInt8) × Bool × Bool × Bool × Int × Int × Int × Bool × List UInt8 × List UInt8 × List ((Bool × (List UInt8 × List UInt8))) × List (List UInt8) × Bool × Bool × Bool × Int × Int × Int × Unit) : Option (Bool × Unit) := F6_c0 v
theorem k6_c0 : FragOk Tryz.prog 0 (fun Q a w => ((subc (code Tryz.f6) [1, 1, 1, 1, 1, 1, 1, 1, 1, 1, 1, 1, 1, 1, 1])).wp Tryz.prog Q a w) ⟨f6_c0_ins, f6_c0_outs, C6_c0⟩ :=
 frag_code (ins := f6_c0_ins) (os := f6_c0_outs) (np := 0) (n := .nil) (F := C6_c0) hm hΓ (K := (fun f => Ae.lookA f [])) (kok_nil _)
 (ann_nil _) (fun v => h6_c0 v)
def F6_c1 (f16 : List UInt8 × Int × Bool × List UInt8 × List UInt8 × List (((Bool × (List UInt8 × List UInt8)) × (Int × (Int × (Int × Int))))) × List (List UInt8) × Bool × Bool × Bool × Int × Int × Int × Int × Unit → Option (Bool × List UInt8 × List UInt8 × List ((Bool × (List UInt8 × List UInt8))) × List (List UInt8) × Bool × Bool × Bool × Int × Int × Int × Bool × Unit)) (f6_c0 : Bool × Bool × Int × Bool × List UInt8 × List UInt8 × List (((Bool × (List UInt8 × List UInt8)) × (Int × (Int × (Int × Int))))) × List (List UInt8) × Bool × Bool × Bool × Int × Int × Int × Bool × List UInt8 × List UInt8 × List ((Bool × (List UInt8 × List UInt8))) × List (List UInt8) × Bool × Bool × Bool × Int × Int × Int × Unit → Option (Bool × Unit)) : List UInt8 × Bool × Int × Bool × List UInt8 × List UInt8 × List (((Bool × (List UInt8 × List UInt8)) × (Int × (Int × (Int × Int))))) × List (List UInt8) × Bool × Bool × Bool × Int × Int × Int × Bool × List UInt8 × List UInt8 × List ((Bool × (List UInt8 × List UInt8))) × List (List UInt8) × Bool × Bool × Bool × Int × Int × Int × Int × Bool × List UInt8 × List UInt8 × Bool × Bool × Bool × Int × Int × Int × List (((Bool × (List UInt8 × List UInt8)) × (Int × (Int × (Int × Int))))) × Unit → Option (Bool × Unit) := fun (x0, x1, x2, x3, x4, x5, x6, x7, x8, x9, x10, x11, x12, x13, x14, x15, x16, x17, x18, x19, x20, x21, x22, x23, x24, x25, x26, x27, x28, x29, x30, x31, x32, x33, x34, x35, _) =>
 (f16 (x0, x25, x26, x27, x28, x35, [], x29, x30, x31, x32, x33, x34, 0, ())).bind fun val =>
 (f6_c0
 (x1, val.2.2.2.2.2.2.2.2.2.2.2.1, x2, x3, x4, x5, x6, x7, x8, x9, x10, x11, x12, x13,
 x14, x15, x16, x17, x18, x19, x20, x21, x22, x23, x24, ())).bind
 fun val => some (val.1, ())
theorem h6_c1 (f16 : HS f16_ins → Option (OTy f16_outs)) (f6_c0 : HS f6_c0_ins → Option (OTy f6_c0_outs)) (v : HS f6_c1_ins) : aev Γ (fun f => Ae.lookA f [(16, ⟨f16_ins, f16_outs, f16⟩)]) 0 (subc (code Tryz.f6) [1, 1, 1, 1, 1, 1, 1, 1, 1, 1, 1, 1, 1, 1]) (.cut .nil ⟨f6_c0_ins, f6_c0_outs, f6_c0⟩) (stof f6_c1_ins v) (oout 0 f6_c1_outs) = F6_c1 f16 f6_c0 v := by kernel_rfl
def C6_c1 (v : List UInt8 × Bool × Int × Bool × List UInt8 × List UInt8 × List (((Bool × (List UInt8 × List UInt8)) × (Int × (Int × (Int × Int))))) × List (List UInt8) × Bool × Bool × Bool × Int × Int × Int × Bool × List UInt8 × List UInt8 × List ((Bool × (List UInt8 × List UInt8))) × List (List UInt8) × Bool × Bool × Bool × Int × Int × Int × Int × Bool × List UInt8 × List UInt8 × Bool × Bool × Bool × Int × Int × Int × List (((Bool × (List UInt8 × List UInt8)) × (Int × (Int × (Int × Int))))) × Unit) : Option (Bool × Unit) := F6_c1 C16 C6_c0 v
theorem k6_c1 : FragOk Tryz.prog 0 (fun Q a w => ((subc (code Tryz.f6) [1, 1, 1, 1, 1, 1, 1, 1, 1, 1, 1, 1, 1, 1])).wp Tryz.prog Q a w) ⟨f6_c1_ins, f6_c1_outs, C6_c1⟩ :=
 frag_code (ins := f6_c1_ins) (os := f6_c1_outs) (np := 0) (n := (.cut .nil ⟨f6_c0_ins, f6_c0_outs, C6_c0⟩)) (F := C6_c1) hm hΓ (K := (fun f => Ae.lookA f [(16, ⟨f16_ins, f16_outs, C16⟩)])) (kok_cons ok16 (kok_nil _))
 (ann_cut (a := (subc (code Tryz.f6) [1, 1, 1, 1, 1, 1, 1, 1, 1, 1, 1, 1, 1, 1, 0])) (b := (subc (code Tryz.f6) [1, 1, 1, 1, 1, 1, 1, 1, 1, 1, 1, 1, 1, 1, 1])) (by kernel_rfl) (ann_nil _) k6_c0) (fun v => h6_c1 C16 C6_c0 v)
def F6_c2 (f6_c1 : List UInt8 × Bool × Int × Bool × List UInt8 × List UInt8 × List (((Bool × (List UInt8 × List UInt8)) × (Int × (Int × (Int × Int))))) × List (List UInt8) × Bool × Bool × Bool × Int × Int × Int × Bool × List UInt8 × List UInt8 × List ((Bool × (List UInt8 × List UInt8))) × List (List UInt8) × Bool × Bool × Bool × Int × Int × Int × Int × Bool × List UInt8 × List UInt8 × Bool × Bool × Bool × Int × Int × Int × List (((Bool × (List UInt8 × List UInt8)) × (Int × (Int × (Int × Int))))) × Unit → Option (Bool × Unit)) : List UInt8 × Bool × Int × Bool × List UInt8 × List UInt8 × List (((Bool × (List UInt8 × List UInt8)) × (Int × (Int × (Int × Int))))) × List (List UInt8) × Bool × Bool × Bool × Int × Int × Int × Bool × List UInt8 × List UInt8 × List ((Bool × (List UInt8 × List UInt8))) × List (List UInt8) × Bool × Bool × Bool × Int × Int × Int × Unit → Option (Bool × Unit) := fun (x0, x1, x2, x3, x4, x5, x6, x7, x8, x9, x10, x11, x12, x13, x14, x15, x16, x17, x18, x19, x20, x21, x22, x23, x24, _) =>
 bif decide (0 < (↑x17.length : Int)) then
 (f6_c1
 (x0, x1, x2, x3, x4, x5, x6, x7, x8, x9, x10, x11, x12, x13, x14, x15, x16, x17, x18, x19, x20, x21, x22, x23,
 x24, 0, x14, x15, x16, false, false, false, 0, 0, 0,
 [(((x17.getD 0 (false, ([], []))).1,
 (x17.getD 0 (false, ([], []))).2.1,
 (x17.getD 0 (false, ([], []))).2.2),
 3, 0, 0, 0)],
 ())).bind
 fun val => some (val.1, ())
 else none
theorem h6_c2 (f6_c1 : HS f6_c1_ins → Option (OTy f6_c1_outs)) (v : HS f6_c2_ins) : aev Γ (fun f => Ae.lookA f []) 0 (subc (code Tryz.f6) [1, 1, 1, 1, 1, 1, 1, 1, 1, 1, 1, 1, 1]) (.cut .nil ⟨f6_c1_ins, f6_c1_outs, f6_c1⟩) (stof f6_c2_ins v) (oout 0 f6_c2_outs) = F6_c2 f6_c1 v := by kernel_rfl
def C6_c2 (v : List UInt8 × Bool × Int × Bool × List UInt8 × List UInt8 × List (((Bool × (List UInt8 × List UInt8)) × (Int × (Int × (Int × Int))))) × List (List UInt8) × Bool × Bool × Bool × Int × Int × Int × Bool × List UInt8 × List UInt8 × List ((Bool × (List UInt8 × List UInt8))) × List (List UInt8) × Bool × Bool × Bool × Int × Int × Int × Unit) : Option (Bool × Unit) := F6_c2 C6_c1 v
theorem k6_c2 : FragOk Tryz.prog 0 (fun Q a w => ((subc (code Tryz.f6) [1, 1, 1, 1, 1, 1, 1, 1, 1, 1, 1, 1, 1])).wp Tryz.prog Q a w) ⟨f6_c2_ins, f6_c2_outs, C6_c2⟩ :=
 frag_code (ins := f6_c2_ins) (os := f6_c2_outs) (np := 0) (n := (.cut .nil ⟨f6_c1_ins, f6_c1_outs, C6_c1⟩)) (F := C6_c2) hm hΓ (K := (fun f => Ae.lookA f [])) (kok_nil _)
 (ann_cut (a := (subc (code Tryz.f6) [1, 1, 1, 1, 1, 1, 1, 1, 1, 1, 1, 1, 1, 0])) (b := (subc (code Tryz.f6) [1, 1, 1, 1, 1, 1, 1, 1, 1, 1, 1, 1, 1, 1])) (by kernel_rfl) (ann_nil _) k6_c1) (fun v => h6_c2 C6_c1 v)
def F6_c3 (f19 : List (List UInt8) × Unit → Option (List UInt8 × Int × Bool × Unit)) (f21 : List UInt8 × Unit → Option (List (Int) × Int × Unit)) (f23 : Bool × List UInt8 × List UInt8 × Unit → Option (List UInt8 × Unit)) (f6_c2 : List UInt8 × Bool × Int × Bool × List UInt8 × List UInt8 × List (((Bool × (List UInt8 × List UInt8)) × (Int × (Int × (Int × Int))))) × List (List UInt8) × Bool × Bool × Bool × Int × Int × Int × Bool × List UInt8 × List UInt8 × List ((Bool × (List UInt8 × List UInt8))) × List (List UInt8) × Bool × Bool × Bool × Int × Int × Int × Unit → Option (Bool × Unit)) (f6_l0 : List UInt8 × Int × Bool × Int × Int × Bool × List UInt8 × List UInt8 × List (((Bool × (List UInt8 × List UInt8)) × (Int × (Int × (Int × Int))))) × List (List UInt8) × Bool × Bool × Bool × Int × Int × Int × Bool × List UInt8 × List UInt8 × List ((Bool × (List UInt8 × List UInt8))) × List (List UInt8) × Bool × Bool × Bool × Int × Int × Int × Unit → Option ((List UInt8 × Int × Bool × Int × Bool × List UInt8 × List UInt8 × List (((Bool × (List UInt8 × List UInt8)) × (Int × (Int × (Int × Int))))) × List (List UInt8) × Bool × Bool × Bool × Int × Int × Int × Bool × List UInt8 × List UInt8 × List ((Bool × (List UInt8 × List UInt8))) × List (List UInt8) × Bool × Bool × Bool × Int × Int × Int × Unit) ⊕ (Bool × Unit))) : List UInt8 × Int × Bool × Bool × Int × Bool × List UInt8 × List UInt8 × List (((Bool × (List UInt8 × List UInt8)) × (Int × (Int × (Int × Int))))) × List (List UInt8) × Bool × Bool × Bool × Int × Int × Int × Bool × List UInt8 × List UInt8 × List ((Bool × (List UInt8 × List UInt8))) × List (List UInt8) × Bool × Bool × Bool × Int × Int × Int × Unit → Option (Bool × Unit) := fun (x0, x1, x2, x3, x4, x5, x6, x7, x8, x9, x10, x11, x12, x13, x14, x15, x16, x17, x18, x19, x20, x21, x22, x23, x24, x25, x26, _) =>
 bif !x3 then some (x2, ())
 else
 (f6_l0
 (x0, x1, x2, 0, x4, x5, x6, x7, x8, x9, x10, x11, x12, x13, x14, x15, x16, x17, x18, x19, x20, x21, x22, x23,
 x24, x25, x26, ())).bind
 fun val =>
 Sum.elim
 (fun val =>
 bif
 decide (0 ≤ val.2.1) &&
 decide (val.2.1 < (↑(List.length val.2.2.2.2.2.2.2.1) : Int)) then
 bif
 decide (0 ≤ val.2.1) &&
 decide (val.2.1 < (↑(List.length val.2.2.2.2.2.2.2.1) : Int)) then
 (f23
 ((List.getD val.2.2.2.2.2.2.2.1 (Int.toNat val.2.1)
 ((false, ([], [])), (0, (0, (0, 0))))).1.1,
 (List.getD val.2.2.2.2.2.2.2.1 (Int.toNat val.2.1)
 ((false, ([], [])), (0, (0, (0, 0))))).1.2.1,
 (List.getD val.2.2.2.2.2.2.2.1 (Int.toNat val.2.1)
 ((false, ([], [])), (0, (0, (0, 0))))).1.2.2,
 ())).bind
 fun val_1 =>
 (f21 (val_1.1, ())).bind fun val_2 =>
 (f19 (val.2.2.2.2.2.2.2.2.2.2.2.2.2.2.2.2.2.2.2.1, ())).bind
 fun val_3 =>
 bif decide (val_2.2.1 < 0) then
 bif
 decide
 ((List.getD val.2.2.2.2.2.2.2.1 (Int.toNat val.2.1)
 ((false, ([], [])), (0, (0, (0, 0))))).2.2.2.2 ≥
 100) then
 bif
 decide
 ((List.getD val.2.2.2.2.2.2.2.1 (Int.toNat val.2.1)
 ((false, ([], [])), (0, (0, (0, 0))))).2.2.2.2 ≤
 999) then
 bif !val_3.2.2.1 then some (false, ())
 else
 bif
 val_3.2.1 !=
 (List.getD val.2.2.2.2.2.2.2.1 (Int.toNat val.2.1)
 ((false, ([], [])), (0, (0, (0, 0))))).2.2.2.2 then
 some (false, ())
 else
 bif
 decide
 ((List.getD val.2.2.2.2.2.2.2.1 (Int.toNat val.2.1)
 ((false, ([], [])), (0, (0, (0, 0))))).2.2.2.2 <
 100) then
 bif val_3.2.1 != 500 then some (false, ())
 else
 bif !val_3.1 == val_1.1 then some (false, ())
 else
 (f6_c2
 (val.1, val.2.2.1, val.2.2.2.1, val.2.2.2.2.1,
 val.2.2.2.2.2.1, val.2.2.2.2.2.2.1,
 val.2.2.2.2.2.2.2.1, val.2.2.2.2.2.2.2.2.1,
 val.2.2.2.2.2.2.2.2.2.1,
 val.2.2.2.2.2.2.2.2.2.2.1,
 val.2.2.2.2.2.2.2.2.2.2.2.1,
 val.2.2.2.2.2.2.2.2.2.2.2.2.1,
 val.2.2.2.2.2.2.2.2.2.2.2.2.2.1,
 val.2.2.2.2.2.2.2.2.2.2.2.2.2.2.1,
 val.2.2.2.2.2.2.2.2.2.2.2.2.2.2.2.1,
 val.2.2.2.2.2.2.2.2.2.2.2.2.2.2.2.2.1,
 val.2.2.2.2.2.2.2.2.2.2.2.2.2.2.2.2.2.1,
 val.2.2.2.2.2.2.2.2.2.2.2.2.2.2.2.2.2.2.1,
 val.2.2.2.2.2.2.2.2.2.2.2.2.2.2.2.2.2.2.2.1,
 val.2.2.2.2.2.2.2.2.2.2.2.2.2.2.2.2.2.2.2.2.1,
 val.2.2.2.2.2.2.2.2.2.2.2.2.2.2.2.2.2.2.2.2.2.1,
 val.2.2.2.2.2.2.2.2.2.2.2.2.2.2.2.2.2.2.2.2.2.2.1,
 val.2.2.2.2.2.2.2.2.2.2.2.2.2.2.2.2.2.2.2.2.2.2.2.1,
 val.2.2.2.2.2.2.2.2.2.2.2.2.2.2.2.2.2.2.2.2.2.2.2.2.1,
 val.2.2.2.2.2.2.2.2.2.2.2.2.2.2.2.2.2.2.2.2.2.2.2.2.2.1,
 ())).bind
 fun val => some (val.1, ())
 else
 bif
 decide
 ((List.getD val.2.2.2.2.2.2.2.1 (Int.toNat val.2.1)
 ((false, ([], [])), (0, (0, (0, 0))))).2.2.2.2 >
 999) then
 bif val_3.2.1 != 500 then some (false, ())
 else
 bif !val_3.1 == val_1.1 then some (false, ())
 else
 (f6_c2
 (val.1, val.2.2.1, val.2.2.2.1, val.2.2.2.2.1,
 val.2.2.2.2.2.1, val.2.2.2.2.2.2.1,
 val.2.2.2.2.2.2.2.1,
 val.2.2.2.2.2.2.2.2.1,
 val.2.2.2.2.2.2.2.2.2.1,
 val.2.2.2.2.2.2.2.2.2.2.1,
 val.2.2.2.2.2.2.2.2.2.2.2.1,
 val.2.2.2.2.2.2.2.2.2.2.2.2.1,
 val.2.2.2.2.2.2.2.2.2.2.2.2.2.1,
 val.2.2.2.2.2.2.2.2.2.2.2.2.2.2.1,
 val.2.2.2.2.2.2.2.2.2.2.2.2.2.2.2.1,
 val.2.2.2.2.2.2.2.2.2.2.2.2.2.2.2.2.1,
 val.2.2.2.2.2.2.2.2.2.2.2.2.2.2.2.2.2.1,
 val.2.2.2.2.2.2.2.2.2.2.2.2.2.2.2.2.2.2.1,
 val.2.2.2.2.2.2.2.2.2.2.2.2.2.2.2.2.2.2.2.1,
 val.2.2.2.2.2.2.2.2.2.2.2.2.2.2.2.2.2.2.2.2.1,
 val.2.2.2.2.2.2.2.2.2.2.2.2.2.2.2.2.2.2.2.2.2.1,
 val.2.2.2.2.2.2.2.2.2.2.2.2.2.2.2.2.2.2.2.2.2.2.1,
 val.2.2.2.2.2.2.2.2.2.2.2.2.2.2.2.2.2.2.2.2.2.2.2.1,
 val.2.2.2.2.2.2.2.2.2.2.2.2.2.2.2.2.2.2.2.2.2.2.2.2.1,
 val.2.2.2.2.2.2.2.2.2.2.2.2.2.2.2.2.2.2.2.2.2.2.2.2.2.1,
 ())).bind
 fun val => some (val.1, ())
 else
 bif !val_3.1 == val_1.1 then some (false, ())
 else
 (f6_c2
 (val.1, val.2.2.1, val.2.2.2.1, val.2.2.2.2.1,
 val.2.2.2.2.2.1, val.2.2.2.2.2.2.1,
 val.2.2.2.2.2.2.2.1, val.2.2.2.2.2.2.2.2.1,
 val.2.2.2.2.2.2.2.2.2.1,
 val.2.2.2.2.2.2.2.2.2.2.1,
 val.2.2.2.2.2.2.2.2.2.2.2.1,
 val.2.2.2.2.2.2.2.2.2.2.2.2.1,
 val.2.2.2.2.2.2.2.2.2.2.2.2.2.1,
 val.2.2.2.2.2.2.2.2.2.2.2.2.2.2.1,
 val.2.2.2.2.2.2.2.2.2.2.2.2.2.2.2.1,
 val.2.2.2.2.2.2.2.2.2.2.2.2.2.2.2.2.1,
 val.2.2.2.2.2.2.2.2.2.2.2.2.2.2.2.2.2.1,
 val.2.2.2.2.2.2.2.2.2.2.2.2.2.2.2.2.2.2.1,
 val.2.2.2.2.2.2.2.2.2.2.2.2.2.2.2.2.2.2.2.1,
 val.2.2.2.2.2.2.2.2.2.2.2.2.2.2.2.2.2.2.2.2.1,
 val.2.2.2.2.2.2.2.2.2.2.2.2.2.2.2.2.2.2.2.2.2.1,
 val.2.2.2.2.2.2.2.2.2.2.2.2.2.2.2.2.2.2.2.2.2.2.1,
 val.2.2.2.2.2.2.2.2.2.2.2.2.2.2.2.2.2.2.2.2.2.2.2.1,
 val.2.2.2.2.2.2.2.2.2.2.2.2.2.2.2.2.2.2.2.2.2.2.2.2.1,
 val.2.2.2.2.2.2.2.2.2.2.2.2.2.2.2.2.2.2.2.2.2.2.2.2.2.1,
 ())).bind
 fun val => some (val.1, ())
 else
 bif
 decide
 ((List.getD val.2.2.2.2.2.2.2.1 (Int.toNat val.2.1)
 ((false, ([], [])), (0, (0, (0, 0))))).2.2.2.2 <
 100) then
 bif val_3.2.1 != 500 then some (false, ())
 else
 bif !val_3.1 == val_1.1 then some (false, ())
 else
 (f6_c2
 (val.1, val.2.2.1, val.2.2.2.1, val.2.2.2.2.1,
 val.2.2.2.2.2.1, val.2.2.2.2.2.2.1,
 val.2.2.2.2.2.2.2.1, val.2.2.2.2.2.2.2.2.1,
 val.2.2.2.2.2.2.2.2.2.1,
 val.2.2.2.2.2.2.2.2.2.2.1,
 val.2.2.2.2.2.2.2.2.2.2.2.1,
 val.2.2.2.2.2.2.2.2.2.2.2.2.1,
 val.2.2.2.2.2.2.2.2.2.2.2.2.2.1,
 val.2.2.2.2.2.2.2.2.2.2.2.2.2.2.1,
 val.2.2.2.2.2.2.2.2.2.2.2.2.2.2.2.1,
 val.2.2.2.2.2.2.2.2.2.2.2.2.2.2.2.2.1,
 val.2.2.2.2.2.2.2.2.2.2.2.2.2.2.2.2.2.1,
 val.2.2.2.2.2.2.2.2.2.2.2.2.2.2.2.2.2.2.1,
 val.2.2.2.2.2.2.2.2.2.2.2.2.2.2.2.2.2.2.2.1,
 val.2.2.2.2.2.2.2.2.2.2.2.2.2.2.2.2.2.2.2.2.1,
 val.2.2.2.2.2.2.2.2.2.2.2.2.2.2.2.2.2.2.2.2.2.1,
 val.2.2.2.2.2.2.2.2.2.2.2.2.2.2.2.2.2.2.2.2.2.2.1,
 val.2.2.2.2.2.2.2.2.2.2.2.2.2.2.2.2.2.2.2.2.2.2.2.1,
 val.2.2.2.2.2.2.2.2.2.2.2.2.2.2.2.2.2.2.2.2.2.2.2.2.1,
 val.2.2.2.2.2.2.2.2.2.2.2.2.2.2.2.2.2.2.2.2.2.2.2.2.2.1,
 ())).bind
 fun val => some (val.1, ())
 else
 bif
 decide
 ((List.getD val.2.2.2.2.2.2.2.1 (Int.toNat val.2.1)
 ((false, ([], [])), (0, (0, (0, 0))))).2.2.2.2 >
 999) then
 bif val_3.2.1 != 500 then some (false, ())
 else
 bif !val_3.1 == val_1.1 then some (false, ())
 else
 (f6_c2
 (val.1, val.2.2.1, val.2.2.2.1, val.2.2.2.2.1,
 val.2.2.2.2.2.1, val.2.2.2.2.2.2.1,
 val.2.2.2.2.2.2.2.1, val.2.2.2.2.2.2.2.2.1,
 val.2.2.2.2.2.2.2.2.2.1,
 val.2.2.2.2.2.2.2.2.2.2.1,
 val.2.2.2.2.2.2.2.2.2.2.2.1,
 val.2.2.2.2.2.2.2.2.2.2.2.2.1,
 val.2.2.2.2.2.2.2.2.2.2.2.2.2.1,
 val.2.2.2.2.2.2.2.2.2.2.2.2.2.2.1,
 val.2.2.2.2.2.2.2.2.2.2.2.2.2.2.2.1,
 val.2.2.2.2.2.2.2.2.2.2.2.2.2.2.2.2.1,
 val.2.2.2.2.2.2.2.2.2.2.2.2.2.2.2.2.2.1,
 val.2.2.2.2.2.2.2.2.2.2.2.2.2.2.2.2.2.2.1,
 val.2.2.2.2.2.2.2.2.2.2.2.2.2.2.2.2.2.2.2.1,
 val.2.2.2.2.2.2.2.2.2.2.2.2.2.2.2.2.2.2.2.2.1,
 val.2.2.2.2.2.2.2.2.2.2.2.2.2.2.2.2.2.2.2.2.2.1,
 val.2.2.2.2.2.2.2.2.2.2.2.2.2.2.2.2.2.2.2.2.2.2.1,
 val.2.2.2.2.2.2.2.2.2.2.2.2.2.2.2.2.2.2.2.2.2.2.2.1,
 val.2.2.2.2.2.2.2.2.2.2.2.2.2.2.2.2.2.2.2.2.2.2.2.2.1,
 val.2.2.2.2.2.2.2.2.2.2.2.2.2.2.2.2.2.2.2.2.2.2.2.2.2.1,
 ())).bind
 fun val => some (val.1, ())
 else
 bif !val_3.1 == val_1.1 then some (false, ())
 else
 (f6_c2
 (val.1, val.2.2.1, val.2.2.2.1, val.2.2.2.2.1,
 val.2.2.2.2.2.1, val.2.2.2.2.2.2.1,
 val.2.2.2.2.2.2.2.1, val.2.2.2.2.2.2.2.2.1,
 val.2.2.2.2.2.2.2.2.2.1,
 val.2.2.2.2.2.2.2.2.2.2.1,
 val.2.2.2.2.2.2.2.2.2.2.2.1,
 val.2.2.2.2.2.2.2.2.2.2.2.2.1,
 val.2.2.2.2.2.2.2.2.2.2.2.2.2.1,
 val.2.2.2.2.2.2.2.2.2.2.2.2.2.2.1,
 val.2.2.2.2.2.2.2.2.2.2.2.2.2.2.2.1,
 val.2.2.2.2.2.2.2.2.2.2.2.2.2.2.2.2.1,
 val.2.2.2.2.2.2.2.2.2.2.2.2.2.2.2.2.2.1,
 val.2.2.2.2.2.2.2.2.2.2.2.2.2.2.2.2.2.2.1,
 val.2.2.2.2.2.2.2.2.2.2.2.2.2.2.2.2.2.2.2.1,
 val.2.2.2.2.2.2.2.2.2.2.2.2.2.2.2.2.2.2.2.2.1,
 val.2.2.2.2.2.2.2.2.2.2.2.2.2.2.2.2.2.2.2.2.2.1,
 val.2.2.2.2.2.2.2.2.2.2.2.2.2.2.2.2.2.2.2.2.2.2.1,
 val.2.2.2.2.2.2.2.2.2.2.2.2.2.2.2.2.2.2.2.2.2.2.2.1,
 val.2.2.2.2.2.2.2.2.2.2.2.2.2.2.2.2.2.2.2.2.2.2.2.2.1,
 val.2.2.2.2.2.2.2.2.2.2.2.2.2.2.2.2.2.2.2.2.2.2.2.2.2.1,
 ())).bind
 fun val => some (val.1, ())
 else
 bif
 decide
 ((List.getD val.2.2.2.2.2.2.2.1 (Int.toNat val.2.1)
 ((false, ([], [])), (0, (0, (0, 0))))).2.2.2.2 <
 100) then
 bif val_3.2.1 != 500 then some (false, ())
 else
 bif !val_3.1 == val_1.1 then some (false, ())
 else
 (f6_c2
 (val.1, val.2.2.1, val.2.2.2.1, val.2.2.2.2.1,
 val.2.2.2.2.2.1, val.2.2.2.2.2.2.1,
 val.2.2.2.2.2.2.2.1, val.2.2.2.2.2.2.2.2.1,
 val.2.2.2.2.2.2.2.2.2.1,
 val.2.2.2.2.2.2.2.2.2.2.1,
 val.2.2.2.2.2.2.2.2.2.2.2.1,
 val.2.2.2.2.2.2.2.2.2.2.2.2.1,
 val.2.2.2.2.2.2.2.2.2.2.2.2.2.1,
 val.2.2.2.2.2.2.2.2.2.2.2.2.2.2.1,
 val.2.2.2.2.2.2.2.2.2.2.2.2.2.2.2.1,
 val.2.2.2.2.2.2.2.2.2.2.2.2.2.2.2.2.1,
 val.2.2.2.2.2.2.2.2.2.2.2.2.2.2.2.2.2.1,
 val.2.2.2.2.2.2.2.2.2.2.2.2.2.2.2.2.2.2.1,
 val.2.2.2.2.2.2.2.2.2.2.2.2.2.2.2.2.2.2.2.1,
 val.2.2.2.2.2.2.2.2.2.2.2.2.2.2.2.2.2.2.2.2.1,
 val.2.2.2.2.2.2.2.2.2.2.2.2.2.2.2.2.2.2.2.2.2.1,
 val.2.2.2.2.2.2.2.2.2.2.2.2.2.2.2.2.2.2.2.2.2.2.1,
 val.2.2.2.2.2.2.2.2.2.2.2.2.2.2.2.2.2.2.2.2.2.2.2.1,
 val.2.2.2.2.2.2.2.2.2.2.2.2.2.2.2.2.2.2.2.2.2.2.2.2.1,
 val.2.2.2.2.2.2.2.2.2.2.2.2.2.2.2.2.2.2.2.2.2.2.2.2.2.1,
 ())).bind
 fun val => some (val.1, ())
 else
 bif
 decide
 ((List.getD val.2.2.2.2.2.2.2.1 (Int.toNat val.2.1)
 ((false, ([], [])), (0, (0, (0, 0))))).2.2.2.2 >
 999) then
 bif val_3.2.1 != 500 then some (false, ())
 else
 bif !val_3.1 == val_1.1 then some (false, ())
 else
 (f6_c2
 (val.1, val.2.2.1, val.2.2.2.1, val.2.2.2.2.1,
 val.2.2.2.2.2.1, val.2.2.2.2.2.2.1,
 val.2.2.2.2.2.2.2.1, val.2.2.2.2.2.2.2.2.1,
 val.2.2.2.2.2.2.2.2.2.1,
 val.2.2.2.2.2.2.2.2.2.2.1,
 val.2.2.2.2.2.2.2.2.2.2.2.1,
 val.2.2.2.2.2.2.2.2.2.2.2.2.1,
 val.2.2.2.2.2.2.2.2.2.2.2.2.2.1,
 val.2.2.2.2.2.2.2.2.2.2.2.2.2.2.1,
 val.2.2.2.2.2.2.2.2.2.2.2.2.2.2.2.1,
 val.2.2.2.2.2.2.2.2.2.2.2.2.2.2.2.2.1,
 val.2.2.2.2.2.2.2.2.2.2.2.2.2.2.2.2.2.1,
 val.2.2.2.2.2.2.2.2.2.2.2.2.2.2.2.2.2.2.1,
 val.2.2.2.2.2.2.2.2.2.2.2.2.2.2.2.2.2.2.2.1,
 val.2.2.2.2.2.2.2.2.2.2.2.2.2.2.2.2.2.2.2.2.1,
 val.2.2.2.2.2.2.2.2.2.2.2.2.2.2.2.2.2.2.2.2.2.1,
 val.2.2.2.2.2.2.2.2.2.2.2.2.2.2.2.2.2.2.2.2.2.2.1,
 val.2.2.2.2.2.2.2.2.2.2.2.2.2.2.2.2.2.2.2.2.2.2.2.1,
 val.2.2.2.2.2.2.2.2.2.2.2.2.2.2.2.2.2.2.2.2.2.2.2.2.1,
 val.2.2.2.2.2.2.2.2.2.2.2.2.2.2.2.2.2.2.2.2.2.2.2.2.2.1,
 ())).bind
 fun val => some (val.1, ())
 else
 bif !val_3.1 == val_1.1 then some (false, ())
 else
 (f6_c2
 (val.1, val.2.2.1, val.2.2.2.1, val.2.2.2.2.1,
 val.2.2.2.2.2.1, val.2.2.2.2.2.2.1,
 val.2.2.2.2.2.2.2.1, val.2.2.2.2.2.2.2.2.1,
 val.2.2.2.2.2.2.2.2.2.1,
 val.2.2.2.2.2.2.2.2.2.2.1,
 val.2.2.2.2.2.2.2.2.2.2.2.1,
 val.2.2.2.2.2.2.2.2.2.2.2.2.1,
 val.2.2.2.2.2.2.2.2.2.2.2.2.2.1,
 val.2.2.2.2.2.2.2.2.2.2.2.2.2.2.1,
 val.2.2.2.2.2.2.2.2.2.2.2.2.2.2.2.1,
 val.2.2.2.2.2.2.2.2.2.2.2.2.2.2.2.2.1,
 val.2.2.2.2.2.2.2.2.2.2.2.2.2.2.2.2.2.1,
 val.2.2.2.2.2.2.2.2.2.2.2.2.2.2.2.2.2.2.1,
 val.2.2.2.2.2.2.2.2.2.2.2.2.2.2.2.2.2.2.2.1,
 val.2.2.2.2.2.2.2.2.2.2.2.2.2.2.2.2.2.2.2.2.1,
 val.2.2.2.2.2.2.2.2.2.2.2.2.2.2.2.2.2.2.2.2.2.1,
 val.2.2.2.2.2.2.2.2.2.2.2.2.2.2.2.2.2.2.2.2.2.2.1,
 val.2.2.2.2.2.2.2.2.2.2.2.2.2.2.2.2.2.2.2.2.2.2.2.1,
 val.2.2.2.2.2.2.2.2.2.2.2.2.2.2.2.2.2.2.2.2.2.2.2.2.1,
 val.2.2.2.2.2.2.2.2.2.2.2.2.2.2.2.2.2.2.2.2.2.2.2.2.2.1,
 ())).bind
 fun val => some (val.1, ())
 else
 (f6_c2
 (val.1, val.2.2.1, val.2.2.2.1, val.2.2.2.2.1,
 val.2.2.2.2.2.1, val.2.2.2.2.2.2.1,
 val.2.2.2.2.2.2.2.1, val.2.2.2.2.2.2.2.2.1,
 val.2.2.2.2.2.2.2.2.2.1,
 val.2.2.2.2.2.2.2.2.2.2.1,
 val.2.2.2.2.2.2.2.2.2.2.2.1,
 val.2.2.2.2.2.2.2.2.2.2.2.2.1,
 val.2.2.2.2.2.2.2.2.2.2.2.2.2.1,
 val.2.2.2.2.2.2.2.2.2.2.2.2.2.2.1,
 val.2.2.2.2.2.2.2.2.2.2.2.2.2.2.2.1,
 val.2.2.2.2.2.2.2.2.2.2.2.2.2.2.2.2.1,
 val.2.2.2.2.2.2.2.2.2.2.2.2.2.2.2.2.2.1,
 val.2.2.2.2.2.2.2.2.2.2.2.2.2.2.2.2.2.2.1,
 val.2.2.2.2.2.2.2.2.2.2.2.2.2.2.2.2.2.2.2.1,
 val.2.2.2.2.2.2.2.2.2.2.2.2.2.2.2.2.2.2.2.2.1,
 val.2.2.2.2.2.2.2.2.2.2.2.2.2.2.2.2.2.2.2.2.2.1,
 val.2.2.2.2.2.2.2.2.2.2.2.2.2.2.2.2.2.2.2.2.2.2.1,
 val.2.2.2.2.2.2.2.2.2.2.2.2.2.2.2.2.2.2.2.2.2.2.2.1,
 val.2.2.2.2.2.2.2.2.2.2.2.2.2.2.2.2.2.2.2.2.2.2.2.2.1,
 val.2.2.2.2.2.2.2.2.2.2.2.2.2.2.2.2.2.2.2.2.2.2.2.2.2.1,
 ())).bind
 fun val => some (val.1, ())
 else none
 else none)
 (fun val => some (val.1, ())) val
theorem h6_c3 (f19 : HS f19_ins → Option (OTy f19_outs)) (f21 : HS f21_ins → Option (OTy f21_outs)) (f23 : HS f23_ins → Option (OTy f23_outs)) (f6_c2 : HS f6_c2_ins → Option (OTy f6_c2_outs)) (f6_l0 : HS f6_l0_ins → Option (OTy f6_l0_outs)) (v : HS f6_c3_ins) : aev Γ (fun f => Ae.lookA f [(19, ⟨f19_ins, f19_outs, f19⟩), (21, ⟨f21_ins, f21_outs, f21⟩), (23, ⟨f23_ins, f23_outs, f23⟩)]) 0 (subc (code Tryz.f6) [1, 1, 1, 1, 1, 1]) (.seq .nil (.seq (.seq .nil (.blk (.loop ⟨f6_l0_ins, f6_l0_outs, f6_l0⟩))) (.seq .nil (.seq .nil (.seq .nil (.seq .nil (.cut .nil ⟨f6_c2_ins, f6_c2_outs, f6_c2⟩))))))) (stof f6_c3_ins v) (oout 0 f6_c3_outs) = F6_c3 f19 f21 f23 f6_c2 f6_l0 v := by kernel_rfl
def C6_c3 (v : List UInt8 × Int × Bool × Bool × Int × Bool × List UInt8 × List UInt8 × List (((Bool × (List UInt8 × List UInt8)) × (Int × (Int × (Int × Int))))) × List (List UInt8) × Bool × Bool × Bool × Int × Int × Int × Bool × List UInt8 × List UInt8 × List ((Bool × (List UInt8 × List UInt8))) × List (List UInt8) × Bool × Bool × Bool × Int × Int × Int × Unit) : Option (Bool × Unit) := F6_c3 C19 C21 C23 C6_c2 C6_l0 v
theorem k6_c3 : FragOk Tryz.prog 0 (fun Q a w => ((subc (code Tryz.f6) [1, 1, 1, 1, 1, 1])).wp Tryz.prog Q a w) ⟨f6_c3_ins, f6_c3_outs, C6_c3⟩ :=
 frag_code (ins := f6_c3_ins) (os := f6_c3_outs) (np := 0) (n := (.seq .nil (.seq (.seq .nil (.blk (.loop ⟨f6_l0_ins, f6_l0_outs, C6_l0⟩))) (.seq .nil (.seq .nil (.seq .nil (.seq .nil (.cut .nil ⟨f6_c2_ins, f6_c2_outs, C6_c2⟩)))))))) (F := C6_c3) hm hΓ (K := (fun f => Ae.lookA f [(19, ⟨f19_ins, f19_outs, C19⟩), (21, ⟨f21_ins, f21_outs, C21⟩), (23, ⟨f23_ins, f23_outs, C23⟩)])) (kok_cons ok19 (kok_cons ok21 (kok_cons ok23 (kok_nil _))))
 (ann_seq (a := (subc (code Tryz.f6) [1, 1, 1, 1, 1, 1, 0])) (b := (subc (code Tryz.f6) [1, 1, 1, 1, 1, 1, 1])) (by kernel_rfl) (ann_nil _) (ann_seq (a := (subc (code Tryz.f6) [1, 1, 1, 1, 1, 1, 1, 0])) (b := (subc (code Tryz.f6) [1, 1, 1, 1, 1, 1, 1, 1])) (by kernel_rfl) (ann_seq (a := (subc (code Tryz.f6) [1, 1, 1, 1, 1, 1, 1, 0, 0])) (b := (subc (code Tryz.f6) [1, 1, 1, 1, 1, 1, 1, 0, 1])) (by kernel_rfl) (ann_nil _) (ann_blk (x := (subc (code Tryz.f6) [1, 1, 1, 1, 1, 1, 1, 0, 1, 0])) (by kernel_rfl) (ann_loop (x := (subc (code Tryz.f6) [1, 1, 1, 1, 1, 1, 1, 0, 1, 0, 0])) (by kernel_rfl) k6_l0))) (ann_seq (a := (subc (code Tryz.f6) [1, 1, 1, 1, 1, 1, 1, 1, 0])) (b := (subc (code Tryz.f6) [1, 1, 1, 1, 1, 1, 1, 1, 1])) (by kernel_rfl) (ann_nil _) (ann_seq (a := (subc (code Tryz.f6) [1, 1, 1, 1, 1, 1, 1, 1, 1, 0])) (b := (subc (code Tryz.f6) [1, 1, 1, 1, 1, 1, 1, 1, 1, 1])) (by kernel_rfl) (ann_nil _) (ann_seq (a := (subc (code Tryz.f6) [1, 1, 1, 1, 1, 1, 1, 1, 1, 1, 0])) (b := (subc (code Tryz.f6) [1, 1, 1, 1, 1, 1, 1, 1, 1, 1, 1])) (by kernel_rfl) (ann_nil _) (ann_seq (a := (subc (code Tryz.f6) [1, 1, 1, 1, 1, 1, 1, 1, 1, 1, 1, 0])) (b := (subc (code Tryz.f6) [1, 1, 1, 1, 1, 1, 1, 1, 1, 1, 1, 1])) (by kernel_rfl) (ann_nil _) (ann_cut (a := (subc (code Tryz.f6) [1, 1, 1, 1, 1, 1, 1, 1, 1, 1, 1, 1, 0])) (b := (subc (code Tryz.f6) [1, 1, 1, 1, 1, 1, 1, 1, 1, 1, 1, 1, 1])) (by kernel_rfl) (ann_nil _) k6_c2))))))) (fun v => h6_c3 C19 C21 C23 C6_c2 C6_l0 v)
def F6_c4 (f16 : List UInt8 × Int × Bool × List UInt8 × List UInt8 × List (((Bool × (List UInt8 × List UInt8)) × (Int × (Int × (Int × Int))))) × List (List UInt8) × Bool × Bool × Bool × Int × Int × Int × Int × Unit → Option (Bool × List UInt8 × List UInt8 × List ((Bool × (List UInt8 × List UInt8))) × List (List UInt8) × Bool × Bool × Bool × Int × Int × Int × Bool × Unit)) (f6_c3 : List UInt8 × Int × Bool × Bool × Int × Bool × List UInt8 × List UInt8 × List (((Bool × (List UInt8 × List UInt8)) × (Int × (Int × (Int × Int))))) × List (List UInt8) × Bool × Bool × Bool × Int × Int × Int × Bool × List UInt8 × List UInt8 × List ((Bool × (List UInt8 × List UInt8))) × List (List UInt8) × Bool × Bool × Bool × Int × Int × Int × Unit → Option (Bool × Unit)) : List UInt8 × Int × Bool × Int × Bool × List UInt8 × List UInt8 × List (((Bool × (List UInt8 × List UInt8)) × (Int × (Int × (Int × Int))))) × List (List UInt8) × Bool × Bool × Bool × Int × Int × Int × Unit → Option (Bool × Unit) := fun (x0, x1, x2, x3, x4, x5, x6, x7, x8, x9, x10, x11, x12, x13, x14, _) =>
 (f16 (x0, x3, x4, x5, x6, x7, x8, x9, x10, x11, x12, x13, x14, x1, ())).bind fun val =>
 bif !x4 then
 bif decide (0 ≤ x1) && decide (x1 < (↑x7.length : Int)) then
 bif
 !val.2.2.2.2.2.2.2.2.2.2.2.1 ==
 ((x7.getD x1.toNat
 ((false, ([], [])), (0, (0, (0, 0))))).2.1 ==
 3) then
 some (false, ())
 else
 bif !val.2.2.2.2.2.2.2.2.2.2.2.1 then
 bif (↑(List.length val.2.2.2.2.1) : Int) != 0 then some (false, ())
 else
 (f6_c3
 (x0, x1, x2, val.2.2.2.2.2.2.2.2.2.2.2.1, x3, x4, x5, x6, x7, x8, x9, x10,
 x11, x12, x13, x14, val.1, val.2.1, val.2.2.1, val.2.2.2.1,
 val.2.2.2.2.1, val.2.2.2.2.2.1, val.2.2.2.2.2.2.1,
 val.2.2.2.2.2.2.2.1, val.2.2.2.2.2.2.2.2.1,
 val.2.2.2.2.2.2.2.2.2.1, val.2.2.2.2.2.2.2.2.2.2.1,
 ())).bind
 fun val => some (val.1, ())
 else
 (f6_c3
 (x0, x1, x2, val.2.2.2.2.2.2.2.2.2.2.2.1, x3, x4, x5, x6, x7, x8, x9, x10, x11,
 x12, x13, x14, val.1, val.2.1, val.2.2.1, val.2.2.2.1, val.2.2.2.2.1,
 val.2.2.2.2.2.1, val.2.2.2.2.2.2.1, val.2.2.2.2.2.2.2.1,
 val.2.2.2.2.2.2.2.2.1, val.2.2.2.2.2.2.2.2.2.1,
 val.2.2.2.2.2.2.2.2.2.2.1, ())).bind
 fun val => some (val.1, ())
 else none
 else
 bif !val.2.2.2.2.2.2.2.2.2.2.2.1 == false then some (false, ())
 else
 bif !val.2.2.2.2.2.2.2.2.2.2.2.1 then
 bif (↑(List.length val.2.2.2.2.1) : Int) != 0 then some (false, ())
 else
 (f6_c3
 (x0, x1, x2, val.2.2.2.2.2.2.2.2.2.2.2.1, x3, x4, x5, x6, x7, x8, x9, x10, x11,
 x12, x13, x14, val.1, val.2.1, val.2.2.1, val.2.2.2.1, val.2.2.2.2.1,
 val.2.2.2.2.2.1, val.2.2.2.2.2.2.1, val.2.2.2.2.2.2.2.1,
 val.2.2.2.2.2.2.2.2.1, val.2.2.2.2.2.2.2.2.2.1,
 val.2.2.2.2.2.2.2.2.2.2.1, ())).bind
 fun val => some (val.1, ())
 else
 (f6_c3
 (x0, x1, x2, val.2.2.2.2.2.2.2.2.2.2.2.1, x3, x4, x5, x6, x7, x8, x9, x10, x11,
 x12, x13, x14, val.1, val.2.1, val.2.2.1, val.2.2.2.1, val.2.2.2.2.1,
 val.2.2.2.2.2.1, val.2.2.2.2.2.2.1, val.2.2.2.2.2.2.2.1,
 val.2.2.2.2.2.2.2.2.1, val.2.2.2.2.2.2.2.2.2.1,
 val.2.2.2.2.2.2.2.2.2.2.1, ())).bind
 fun val => some (val.1, ())
theorem h6_c4 (f16 : HS f16_ins → Option (OTy f16_outs)) (f6_c3 : HS f6_c3_ins → Option (OTy f6_c3_outs)) (v : HS f6_c4_ins) : aev Γ (fun f => Ae.lookA f [(16, ⟨f16_ins, f16_outs, f16⟩)]) 0 (subc (code Tryz.f6) [1, 1, 1, 1]) (.seq .nil (.cut .nil ⟨f6_c3_ins, f6_c3_outs, f6_c3⟩)) (stof f6_c4_ins v) (oout 0 f6_c4_outs) = F6_c4 f16 f6_c3 v := by kernel_rfl
def C6_c4 (v : List UInt8 × Int × Bool × Int × Bool × List UInt8 × List UInt8 × List (((Bool × (List UInt8 × List UInt8)) × (Int × (Int × (Int × Int))))) × List (List UInt8) × Bool × Bool × Bool × Int × Int × Int × Unit) : Option (Bool × Unit) := F6_c4 C16 C6_c3 v
theorem k6_c4 : FragOk Tryz.prog 0 (fun Q a w => ((subc (code Tryz.f6) [1, 1, 1, 1])).wp Tryz.prog Q a w) ⟨f6_c4_ins, f6_c4_outs, C6_c4⟩ :=
 frag_code (ins := f6_c4_ins) (os := f6_c4_outs) (np := 0) (n := (.seq .nil (.cut .nil ⟨f6_c3_ins, f6_c3_outs, C6_c3⟩))) (F := C6_c4) hm hΓ (K := (fun f => Ae.lookA f [(16, ⟨f16_ins, f16_outs, C16⟩)])) (kok_cons ok16 (kok_nil _))
 (ann_seq (a := (subc (code Tryz.f6) [1, 1, 1, 1, 0])) (b := (subc (code Tryz.f6) [1, 1, 1, 1, 1])) (by kernel_rfl) (ann_nil _) (ann_cut (a := (subc (code Tryz.f6) [1, 1, 1, 1, 1, 0])) (b := (subc (code Tryz.f6) [1, 1, 1, 1, 1, 1])) (by kernel_rfl) (ann_nil _) k6_c3)) (fun v => h6_c4 C16 C6_c3 v)
def F6 (f8 : Unit → Option (Bool × Unit)) (f15 : Int × Bool × List UInt8 × List UInt8 × List (((Bool × (List UInt8 × List UInt8)) × (Int × (Int × (Int × Int))))) × List (List UInt8) × Bool × Bool × Bool × Int × Int × Int × Unit → Option (Bool × Unit)) (f6_c4 : List UInt8 × Int × Bool × Int × Bool × List UInt8 × List UInt8 × List (((Bool × (List UInt8 × List UInt8)) × (Int × (Int × (Int × Int))))) × List (List UInt8) × Bool × Bool × Bool × Int × Int × Int × Unit → Option (Bool × Unit)) : List UInt8 × Int × Bool × List UInt8 × List UInt8 × List (((Bool × (List UInt8 × List UInt8)) × (Int × (Int × (Int × Int))))) × List (List UInt8) × Bool × Bool × Bool × Int × Int × Int × Int × Unit → Option (Bool × Unit) := fun (x0, x1, x2, x3, x4, x5, x6, x7, x8, x9, x10, x11, x12, x13, _) =>
 (f8 ()).bind fun val =>
 (f15 (x1, x2, x3, x4, x5, x6, x7, x8, x9, x10, x11, x12, ())).bind fun val_1 =>
 bif !val_1.1 then some (val.1, ())
 else
 bif decide ((↑x0.length : Int) > 200) then some (val.1, ())
 else
 bif decide (x13 < 0) then some (val.1, ())
 else
 bif decide (x13 ≥ (↑x5.length : Int)) then some (val.1, ())
 else
 (f6_c4 (x0, x13, val.1, x1, x2, x3, x4, x5, x6, x7, x8, x9, x10, x11, x12, ())).bind fun val =>
 some (val.1, ())
theorem h6 (f8 : HS f8_ins → Option (OTy f8_outs)) (f15 : HS f15_ins → Option (OTy f15_outs)) (f6_c4 : HS f6_c4_ins → Option (OTy f6_c4_outs)) (v : HS f6_ins) : afun Γ (fun f => Ae.lookA f [(8, ⟨f8_ins, f8_outs, f8⟩), (15, ⟨f15_ins, f15_outs, f15⟩)]) 0 Tryz.f6.ntmps Tryz.f6.results.toList (code Tryz.f6) (.seq .nil (.seq .nil (.seq .nil (.cut .nil ⟨f6_c4_ins, f6_c4_outs, f6_c4⟩)))) (em id f6_ins v).1 (em id f6_ins v).2 (ofin 0 f6_outs) = F6 f8 f15 f6_c4 v := by kernel_rfl
def C6 (v : List UInt8 × Int × Bool × List UInt8 × List UInt8 × List (((Bool × (List UInt8 × List UInt8)) × (Int × (Int × (Int × Int))))) × List (List UInt8) × Bool × Bool × Bool × Int × Int × Int × Int × Unit) : Option (Bool × Unit) := F6 C8 C15 C6_c4 v
theorem ok6 : FnOk Tryz.prog 6 ⟨f6_ins, f6_outs, C6⟩ :=
 fn_ok (np := 0) (n := (.seq .nil (.seq .nil (.seq .nil (.cut .nil ⟨f6_c4_ins, f6_c4_outs, C6_c4⟩))))) hm hΓ (K := (fun f => Ae.lookA f [(8, ⟨f8_ins, f8_outs, C8⟩), (15, ⟨f15_ins, f15_outs, C15⟩)])) (kok_cons ok8 (kok_cons ok15 (kok_nil _))) Tryz.func6 (c := code Tryz.f6) (by kernel_rfl) (name_ne (by kernel_rfl))
 (ann_seq (a := (subc (code Tryz.f6) [0])) (b := (subc (code Tryz.f6) [1])) (by kernel_rfl) (ann_nil _) (ann_seq (a := (subc (code Tryz.f6) [1, 0])) (b := (subc (code Tryz.f6) [1, 1])) (by kernel_rfl) (ann_nil _) (ann_seq (a := (subc (code Tryz.f6) [1, 1, 0])) (b := (subc (code Tryz.f6) [1, 1, 1])) (by kernel_rfl) (ann_nil _) (ann_cut (a := (subc (code Tryz.f6) [1, 1, 1, 0])) (b := (subc (code Tryz.f6) [1, 1, 1, 1])) (by kernel_rfl) (ann_nil _) k6_c4)))) (fun v => Nat.le_of_ble_eq_true (by kernel_rfl)) (fun v => h6 C8 C15 C6_c4 v)
end Go.Proofs.YtmfcepdbpdihgaaGreatDoor.W
set_option linter.unusedVariables false
set_option linter.unusedSimpArgs false
set_option maxRecDepth 100000
namespace Go.Proofs.YtmfcepdbpdihgaaGreatDoor.PBounceTells
open Go Go.Ae Go.Pl Go.Proofs.YtmfcepdbpdihgaaGreatDoor.W
theorem lrun (x0 : List UInt8) (x1 : Int) (x2 : Bool) (x4 : Int) (x5 : Bool) (x6 x7 : List UInt8) (x8 : List Rc) (x9 : List (List UInt8)) (x10 x11 x12 : Bool) (x13 x14 x15 : Int) (x16 : Bool) (x17 x18 : List UInt8) (x19 : List (Bool × (List UInt8 × List UInt8))) (x21 x22 x23 : Bool) (x24 x25 x26 : Int) : ∀ (r pre : List (List UInt8)) (n : Nat), okL r → pre.length + r.length ≤ 1000000000 → r.length < n →
    loopN (F6_l0 C22) n (x0, x1, x2, (pre.length : Int), x4, x5, x6, x7, x8, x9, x10, x11, x12, x13, x14, x15, x16, x17, x18, x19, pre ++ r, x21, x22, x23, x24, x25, x26, ()) = some (.inl (x0, x1, x2, x4, x5, x6, x7, x8, x9, x10, x11, x12, x13, x14, x15, x16, x17, x18, x19, pre ++ r, x21, x22, x23, x24, x25, x26, ()))
  | _, _, 0, _, _, hn => by omega
  | [], pre, n + 1, ho, hl, hn => by
    refine loopN_inr ?_
    simp only [F6_l0, List.append_nil, at0, cond_false]
  | c :: r, pre, n + 1, ho, hl, hn => by
    simp only [List.length_cons] at hl hn
    obtain ⟨hi, hi0, hw, hg⟩ := at4 pre r c [] (by omega)
    have hc := ho c List.mem_cons_self
    have d : decide ((-1 : Int) ≥ 0) = false := by decide
    rw [loopN_inl (v' := (x0, x1, x2, ((pre.length + 1 : Nat) : Int), x4, x5, x6, x7, x8, x9, x10, x11, x12, x13, x14, x15, x16, x17, x18, x19, pre ++ c :: r, x21, x22, x23, x24, x25, x26, ())) (by simp only [F6_l0, hi, hi0, hg, hw, c22_low c hc.1 hc.2, d, cond_true, cond_false, Bool.and_self, Option.bind_some])]
    rw [shift, pl1 pre c]
    exact lrun x0 x1 x2 x4 x5 x6 x7 x8 x9 x10 x11 x12 x13 x14 x15 x16 x17 x18 x19 x21 x22 x23 x24 x25 x26 r (pre ++ [c]) n (fun s hs => ho s (List.mem_cons_of_mem _ hs)) (by simp; omega) (by omega)
theorem hasP_app (p s : List UInt8) : hasP p (p ++ s) = true := by simp [hasP]
theorem read_built (name : List UInt8) (id : Int) (r : Rc) :
    (rr (pathS r.1.1 r.1.2.1 r.1.2.2) = [] → readS (mLines name id r) = (pathS r.1.1 r.1.2.1 r.1.2.2, (if r.2.2.2.2 < 100 ∨ 999 < r.2.2.2.2 then 500 else r.2.2.2.2), true, ())) := by
  intro h
  have d7 : (finS ++ esc (pathS r.1.1 r.1.2.1 r.1.2.2)).drop 24 = esc (pathS r.1.1 r.1.2.1 r.1.2.2) := by
    rw [show (24 : Nat) = finS.length by rfl, List.drop_left]
  have d9 : (staS ++ stS r.2.2.2.2).drop 8 = stS r.2.2.2.2 := by
    rw [show (8 : Nat) = staS.length by rfl, List.drop_left]
  have hn : numS (stS r.2.2.2.2) = (if r.2.2.2.2 < 100 ∨ 999 < r.2.2.2.2 then 500 else r.2.2.2.2) := by
    split
    · rename_i hh
      have h5 : stS r.2.2.2.2 = stS 500 := by
        rw [stS, if_pos hh]; decide
      rw [h5, num_st (by omega) (by omega)]
    · exact num_st (by omega) (by omega)
  have hp : decide ((if r.2.2.2.2 < 100 ∨ 999 < r.2.2.2.2 then (500 : Int) else r.2.2.2.2) > 0) = true := by
    rw [decide_eq_true_eq]; split <;> omega
  have hb := back1 (pathS r.1.1 r.1.2.1 r.1.2.2)
  rw [if_pos h] at hb
  simp only [mLines, linesS, readS, tenOk, d7, d9, hn, hb, hp, hasP_app, beq_self_eq_true, Bool.and_self, cond_true]
theorem main (name : List UInt8) (id : Int) (nl : Bool) (lo dm : List UInt8) (to : List Rc) (z6 : List (List UInt8)) (z7 z8 z9 : Bool) (z10 z11 z12 k : Int) (hid : -9223372036854775808 ≤ id ∧ id ≤ 9223372036854775807) (htl : to.length ≤ 1000000000000000)
    (hto : ∀ r ∈ to, -9223372036854775808 ≤ r.2.2.2.2 ∧ r.2.2.2.2 ≤ 9223372036854775807) :
    C6 (name, id, nl, lo, dm, to, z6, z7, z8, z9, z10, z11, z12, k, ()) = some (true, ()) := by
  have c8 : C8 () = some (true, ()) := rfl
  obtain ⟨b, hb, hbt⟩ := c15 id nl lo dm to z6 z7 z8 z9 z10 z11 z12 htl
  simp only [C6, F6, c8, hb, Option.bind_some]
  cases b with
  | false => rfl
  | true =>
    obtain ⟨hx, hlo, hdm, h120⟩ := hbt rfl
    simp only [Bool.not_true, cond_false]
    by_cases hn : name.length > 200
    · have d : decide ((name.length : Int) > 200) = true := by simp; omega
      simp only [d, cond_true]
    have d : decide ((name.length : Int) > 200) = false := by simp; omega
    simp only [d, cond_false]
    by_cases hk : k < 0
    · have d : decide (k < 0) = true := by simp [hk]
      simp only [d, cond_true]
    have d : decide (k < 0) = false := by simp; omega
    simp only [d, cond_false]
    by_cases hk2 : k ≥ (to.length : Int)
    · have d : decide (k ≥ (to.length : Int)) = true := by simp; omega
      simp only [d, cond_true]
    have d2 : decide (k ≥ (to.length : Int)) = false := by simp; omega
    simp only [d2, cond_false]
    have hto' : ∀ r ∈ to, r.1.2.1.length ≤ 1000 ∧ r.1.2.2.length ≤ 1000 ∧ -9223372036854775808 ≤ r.2.2.2.2 ∧ r.2.2.2.2 ≤ 9223372036854775807 := fun r hr => by
      have h1 := hx r hr
      have h2 := hto r hr
      exact ⟨by omega, by omega, h2⟩
    have hB := c16 name id nl lo dm to z6 z7 z8 z9 z10 z11 z12 k (by omega) hid hto'
    have e0 : decide (0 ≤ k) = true := by simp; omega
    have e1 : decide (k < (to.length : Int)) = true := by simp; omega
    have hz : ((false, ([], [])), (0, (0, (0, 0)))) = rcD := rfl
    have hmem : to.getD k.toNat rcD ∈ to := by
      rw [List.getD_eq_getElem?_getD, List.getElem?_eq_getElem (show k.toNat < to.length by omega)]
      exact List.getElem_mem _
    have hr := hx _ hmem
    have hrs := hto _ hmem
    obtain ⟨r, hrr⟩ : ∃ r, to.getD k.toNat rcD = r := ⟨_, rfl⟩
    rw [hrr] at hr hrs
    simp only [C6_c4, F6_c4, hB, hz, hrr, e0, e1, Bool.and_self, cond_true, Option.bind_some]
    have ha : asksB nl to k = (!nl && (r.2.1 == 3)) := by
      unfold asksB
      rw [e0, e1, hrr]; rfl
    cases nl with
    | true =>
      have hS : buildS name id true lo dm to k = noMail := by unfold buildS; rw [ha]; rfl
      rw [hS]
      rfl
    | false =>
      cases h3 : r.2.1 == 3 with
      | false =>
        have hS : buildS name id false lo dm to k = noMail := by unfold buildS; rw [ha, h3]; rfl
        rw [hS]
        rfl
      | true =>
        have hS : buildS name id false lo dm to k = (true, [], [], [(false, lo, dm)], mLines name id r, false, false, false, 3, 0, sumB (mLines name id r), true, ()) := by
          unfold buildS; rw [ha, h3, hrr]; rfl
        rw [hS]
        simp only [Bool.not_false, Bool.not_true, cond_true, cond_false, beq_self_eq_true]
        have hok := mL_ok name id r (by omega) (by omega) (by omega)
        have hle := mL_le name id r (by omega) (by omega) (by omega)
        have hl0 := lrun name k true id false lo dm to z6 z7 z8 z9 z10 z11 z12 true [] [] [(false, lo, dm)] false false false 3 0 (sumB (mLines name id r)) (mLines name id r) [] big hok (by show 0 + 10 ≤ 1000000000; omega) (by show 10 < big; unfold big; omega)
        have hl0' : C6_l0 (name, k, true, 0, id, false, lo, dm, to, z6, z7, z8, z9, z10, z11, z12, true, [], [], [(false, lo, dm)], mLines name id r, false, false, false, 3, 0, sumB (mLines name id r), ()) = _ := hl0
        have hpl := pathS_len r.1.1 r.1.2.1 r.1.2.2
        have hP := c23 r.1.1 r.1.2.1 r.1.2.2 (by omega) (by omega)
        have hU := d21 (pathS r.1.1 r.1.2.1 r.1.2.2) (by omega)
        have hRd := c19 (mLines name id r) hle
        have hB2 := c16 name 0 true [] [] [((false, lo, dm), 3, 0, 0, 0)] [] false false false 0 0 0 0 (by omega) ⟨by omega, by omega⟩ (fun q hq => by
          have : q = ((false, lo, dm), 3, 0, 0, 0) := by simpa using hq
          subst this
          exact ⟨by show lo.length ≤ 1000; omega, by show dm.length ≤ 1000; omega, by show (-9223372036854775808 : Int) ≤ 0; omega, by show (0 : Int) ≤ 9223372036854775807; omega⟩)
        have hS2 : buildS name 0 true [] [] [((false, lo, dm), 3, 0, 0, 0)] 0 = noMail := by unfold buildS asksB; rfl
        rw [hS2] at hB2
        have hc2 : C6_c2 (name, true, id, false, lo, dm, to, z6, z7, z8, z9, z10, z11, z12, true, [], [], [(false, lo, dm)], mLines name id r, false, false, false, 3, 0, sumB (mLines name id r), ()) = some (true, ()) := by
          have g0 : ([(false, lo, dm)] : List (Bool × (List UInt8 × List UInt8))).getD 0 (false, ([], [])) = (false, lo, dm) := rfl
          have g1 : decide ((0 : Int) < (([(false, lo, dm)] : List (Bool × (List UInt8 × List UInt8))).length : Int)) = true := rfl
          have g2 : ((([(false, lo, dm)] : List (Bool × (List UInt8 × List UInt8))).length : Int) == 1) = true := rfl
          simp only [C6_c2, F6_c2, C6_c1, F6_c1, C6_c0, F6_c0, g0, g1, g2, hB2, noMail, beq_self_eq_true, Bool.and_self, Bool.not_false, cond_true, Option.bind_some]
        simp only [C6_c3, F6_c3, Bool.not_true, cond_false, hl0', Option.bind_some, Sum.elim_inl, List.nil_append, hz, hrr, e0, e1, Bool.and_self, cond_true, hP, hU, hRd, hc2]
        by_cases hrr2 : rr (pathS r.1.1 r.1.2.1 r.1.2.2) = []
        · have hrd := read_built name id r hrr2
          have hba : badAt (pathS r.1.1 r.1.2.1 r.1.2.2) = -1 := badAt_nil hrr2
          rw [hrd, hba]
          have dm1 : decide ((-1 : Int) < 0) = true := rfl
          simp only [dm1, cond_true, Bool.not_true, cond_false, beq_self_eq_true]
          by_cases a1 : r.2.2.2.2 < 100
          · rw [if_pos (.inl a1)]
            have q1 : decide (r.2.2.2.2 ≥ 100) = false := by simp; omega
            have q2 : decide (r.2.2.2.2 < 100) = true := by simp [a1]
            have q3 : ((500 : Int) != 500) = false := rfl
            simp only [q1, q2, q3, cond_true, cond_false]
            rfl
          · by_cases a2 : 999 < r.2.2.2.2
            · rw [if_pos (.inr a2)]
              have q1 : decide (r.2.2.2.2 ≥ 100) = true := by simp; omega
              have q2 : decide (r.2.2.2.2 < 100) = false := by simp; omega
              have q4 : decide (r.2.2.2.2 ≤ 999) = false := by simp; omega
              have q5 : decide (r.2.2.2.2 > 999) = true := by simp; omega
              have q3 : ((500 : Int) != 500) = false := rfl
              simp only [q1, q2, q3, q4, q5, cond_true, cond_false]
              rfl
            · rw [if_neg (by omega)]
              have q1 : decide (r.2.2.2.2 ≥ 100) = true := by simp; omega
              have q2 : decide (r.2.2.2.2 < 100) = false := by simp; omega
              have q4 : decide (r.2.2.2.2 ≤ 999) = true := by simp; omega
              have q5 : decide (r.2.2.2.2 > 999) = false := by simp; omega
              have q3 : (r.2.2.2.2 != r.2.2.2.2) = false := by simp
              simp only [q1, q2, q3, q4, q5, cond_true, cond_false]
              rfl
        · have dm1 : decide (badAt (pathS r.1.1 r.1.2.1 r.1.2.2) < 0) = false := by rw [badAt_some hrr2]; simp
          simp only [dm1, cond_false]
          rfl
theorem pure (x0 : Ty.str.den) (b0 : Bd Ty.str x0) (x1 : (Ty.pair (.int .i64) (.pair (.pair .bool (.pair .str .str)) (.pair (.lst (.pair (.pair .bool (.pair .str .str)) (.pair (.int .i64) (.pair (.int .i64) (.pair (.int .i64) (.int .i64)))))) (.pair (.lst .str) (.pair (.pair .bool (.pair .bool (.pair .bool (.pair (.int .i64) (.int .i64))))) (.int .i64)))))).den) (b1 : Bd (Ty.pair (.int .i64) (.pair (.pair .bool (.pair .str .str)) (.pair (.lst (.pair (.pair .bool (.pair .str .str)) (.pair (.int .i64) (.pair (.int .i64) (.pair (.int .i64) (.int .i64)))))) (.pair (.lst .str) (.pair (.pair .bool (.pair .bool (.pair .bool (.pair (.int .i64) (.int .i64))))) (.int .i64)))))) x1) (x2 : (Ty.int .i64).den) (b2 : Bd (Ty.int .i64) x2) : C6 (x0, x1.1, x1.2.1.1, x1.2.1.2.1, x1.2.1.2.2, x1.2.2.1, x1.2.2.2.1, x1.2.2.2.2.1.1, x1.2.2.2.2.1.2.1, x1.2.2.2.2.1.2.2.1, x1.2.2.2.2.1.2.2.2.1, x1.2.2.2.2.1.2.2.2.2, x1.2.2.2.2.2, x2, ()) = some (true, ()) :=
  main x0 x1.1 x1.2.1.1 x1.2.1.2.1 x1.2.1.2.2 x1.2.2.1 x1.2.2.2.1 x1.2.2.2.2.1.1 x1.2.2.2.2.1.2.1 x1.2.2.2.2.1.2.2.1 x1.2.2.2.2.1.2.2.2.1 x1.2.2.2.2.1.2.2.2.2 x1.2.2.2.2.2 x2 (bd64 b1.1) (Nat.le_trans b1.2.2.1.1 (by omega)) (fun r hr => bd64 (b1.2.2.1.2 r hr).2.2.2.2)
end Go.Proofs.YtmfcepdbpdihgaaGreatDoor.PBounceTells
set_option linter.unusedVariables false
set_option maxRecDepth 100000
namespace Go.Proofs.YtmfcepdbpdihgaaGreatDoor
open Go Go.Ae Go.RowKit
theorem glob {W : World} (hL : laidMetH Tryz.prog Rows.bounceStatusRow.laid W) (hsh : W.ShapedOpen Tryz.prog) : GI W m0 := by
  rw [MakeChecks.laidMetH_plain _ _ _ (by kernel_rfl)] at hL
  obtain ⟨m, hm⟩ := Go.Proofs.cell_of_shapedOpen_int (g := 0) (k := .i64) (t := 3) (zero := #[.int .i64 0]) hsh (of_decide_eq_true (by kernel_rfl)) (by kernel_rfl) (by kernel_rfl) (by kernel_rfl) (by kernel_rfl) (by kernel_rfl)
  have g8 : Tryz.prog.globalNamed "math/bits.deBruijn64tab" = some 8 := by kernel_rfl
  have g4 : Tryz.prog.globalNamed "internal/strconv.uint64pow10" = some 4 := by kernel_rfl
  have g2 : Tryz.prog.globalNamed "strconv.ErrRange" = some 2 := by kernel_rfl
  have g1 : Tryz.prog.globalNamed "strconv.ErrSyntax" = some 1 := by kernel_rfl
  have h8 : Lib.TabIs Tryz.prog W "math/bits.deBruijn64tab" .u8 deBruijn64 := Lib.tabIs_of_head (zs := deBruijn64) (t := 186) (e := 5) (n := 64) g8 (by kernel_rfl) (by kernel_rfl) (by kernel_rfl) (by kernel_rfl) (by kernel_rfl) hL.tail
  have h4 : Lib.TabIs Tryz.prog W "internal/strconv.uint64pow10" .u64 tens := Lib.tabIs_of_head (zs := tens) (t := 161) (e := 126) (n := 20) g4 (by kernel_rfl) (by kernel_rfl) (by kernel_rfl) (by kernel_rfl) (by kernel_rfl) hL.tail.tail
  obtain ⟨t2, p2, h2⟩ := laid_iface (ti := 69) (ms := #[("Error", 73)]) hL.tail.tail.tail.tail g2 (by kernel_rfl) (by kernel_rfl)
  obtain ⟨t1, p1, h1⟩ := laid_iface (ti := 69) (ms := #[("Error", 73)]) hL.tail.tail.tail.tail.tail g1 (by kernel_rfl) (by kernel_rfl)
  obtain ⟨ty8, fz8, k8⟩ := var_heap g8 h8
  obtain ⟨ty4, fz4, k4⟩ := var_heap g4 h4
  obtain ⟨ty2, fz2, k2⟩ := var_heap g2 h2
  obtain ⟨ty1, fz1, k1⟩ := var_heap g1 h1
  refine ⟨⟨⟨m, hm⟩, ⟨t1, p1, cell_of_heap0 k1⟩, ⟨t2, p2, cell_of_heap0 k2⟩, ⟨ty4, fz4, k4⟩, ⟨ty8, fz8, k8⟩⟩, fun b hb => ⟨?_, fun h => h⟩⟩
  simp only [GlobB, List.mem_cons, List.not_mem_nil, or_false] at hb
  rcases hb with rfl | rfl | rfl | rfl | rfl
  · exact lt_of_cell hm
  · exact lt_of_heap k1
  · exact lt_of_heap k2
  · exact lt_of_heap k4
  · exact lt_of_heap k8
end Go.Proofs.YtmfcepdbpdihgaaGreatDoor
