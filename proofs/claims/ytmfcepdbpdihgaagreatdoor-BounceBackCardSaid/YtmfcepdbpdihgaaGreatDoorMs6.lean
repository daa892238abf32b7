/- Hexadecimal digits. -/
import Derived.Test.YtmfcepdbpdihgaaGreatDoorMs5
import Derived.Test.YtmfcepdbpdihgaaGreatDoorRows
import Derived.Test.YtmfcepdbpdihgaaGreatDoorProg
import Derived.Test.YtmfcepdbpdihgaaGreatDoorMs2
import Derived.MakeChecks
set_option linter.unusedVariables false
set_option linter.unusedSimpArgs false
set_option maxRecDepth 100000
namespace Go.Proofs.YtmfcepdbpdihgaaGreatDoor.W
open Go Go.Ae Go.Pl
def lowT : List UInt8 := [48, 49, 50, 51, 52, 53, 54, 55, 56, 57, 97, 98, 99, 100, 101, 102, 103, 104, 105, 106, 107, 108, 109, 110, 111, 112, 113, 114, 115, 116, 117, 118, 119, 120, 121, 122]
def upT : List UInt8 := [48, 49, 50, 51, 52, 53, 54, 55, 56, 57, 65, 66, 67, 68, 69, 70]
def dgl (n : Nat) : UInt8 := lowT.getD n 0
def dgu (n : Nat) : UInt8 := upT.getD n 0
def hexF (d : Nat → UInt8) : Nat → Nat → List UInt8
  | 0, _ => []
  | f + 1, n => bif Nat.blt n 16 then [d n] else hexF d f (n / 16) ++ [d (n % 16)]
theorem hexF_lo (d : Nat → UInt8) (f n : Nat) (h : n < 16) : hexF d (f + 1) n = [d n] := by
  have : Nat.blt n 16 = true := by rw [Nat.blt_eq]; exact h
  simp [hexF, this]
theorem hexF_hi (d : Nat → UInt8) (f n : Nat) (h : 16 ≤ n) : hexF d (f + 1) n = hexF d f (n / 16) ++ [d (n % 16)] := by
  have : Nat.blt n 16 = false := by rw [← Bool.not_eq_true, Nat.blt_eq]; omega
  simp [hexF, this]
theorem hexF_more (d : Nat → UInt8) : ∀ (f g n : Nat), n < 16 ^ (f + 1) → f ≤ g → hexF d (g + 1) n = hexF d (f + 1) n
  | 0, g, n, h, _ => by rw [hexF_lo d g n (by simpa using h), hexF_lo d 0 n (by simpa using h)]
  | f + 1, 0, n, h, hg => by omega
  | f + 1, g + 1, n, h, hg => by
    by_cases h16 : n < 16
    · rw [hexF_lo d _ n h16, hexF_lo d _ n h16]
    · rw [hexF_hi d _ n (by omega), hexF_hi d _ n (by omega), hexF_more d f g (n / 16) (by rw [Nat.pow_succ] at h; omega) (by omega)]
theorem hexF_map (u : UInt8 → UInt8) (d e : Nat → UInt8) (hde : ∀ n, n < 16 → u (d n) = e n) : ∀ (f n : Nat), (hexF d f n).map u = hexF e f n
  | 0, n => rfl
  | f + 1, n => by
    by_cases h16 : n < 16
    · rw [hexF_lo d _ n h16, hexF_lo e _ n h16]; simp [hde n h16]
    · rw [hexF_hi d _ n (by omega), hexF_hi e _ n (by omega), List.map_append, hexF_map u d e hde f]; simp [hde (n % 16) (by omega)]
theorem hexF_all (p : UInt8 → Bool) (d : Nat → UInt8) (hd : ∀ n, n < 16 → p (d n) = true) : ∀ (f n : Nat), (hexF d f n).all p = true
  | 0, n => rfl
  | f + 1, n => by
    by_cases h16 : n < 16
    · rw [hexF_lo d _ n h16]; simp [hd n h16]
    · rw [hexF_hi d _ n (by omega), List.all_append, hexF_all p d hd f]; simp [hd (n % 16) (by omega)]
theorem hexF_len (d : Nat → UInt8) : ∀ (f n : Nat), (hexF d f n).length ≤ f
  | 0, n => Nat.le_refl _
  | f + 1, n => by
    by_cases h16 : n < 16
    · rw [hexF_lo d _ n h16]; simp
    · rw [hexF_hi d _ n (by omega)]; have := hexF_len d f (n / 16); simp; omega
/-- A number's digits, great letters. -/
def hexU (n : Nat) : List UInt8 := hexF dgu 16 n
theorem fin16 {p : Nat → Bool} (h : ((List.range 16).all p) = true) : ∀ n, n < 16 → p n = true := fun n hn => List.all_eq_true.1 h n (List.mem_range.2 hn)
theorem dgu_up : ∀ n, n < 16 → Lib.upperB (dgl n) = dgu n := fun n hn => by
  have := fin16 (p := fun n => decide (Lib.upperB (dgl n) = dgu n)) (by decide) n hn
  simpa using this
theorem dgl_low : ∀ n, n < 16 → decide ((dgl n).toNat < 128) = true := fin16 (p := fun n => decide ((dgl n).toNat < 128)) (by decide)
theorem dgu_low : ∀ n, n < 16 → decide ((dgu n).toNat < 128) = true := fin16 (p := fun n => decide ((dgu n).toNat < 128)) (by decide)
theorem dgu_slice : ∀ n, n < 16 → List.drop n (List.take (n + 1) upT) = [dgu n] := fun n hn => by
  have := fin16 (p := fun n => decide (List.drop n (List.take (n + 1) upT) = [dgu n])) (by decide) n hn
  simpa using this
theorem and15 {x : Int} (h0 : 0 ≤ x) (h1 : x < 18446744073709551616) : intBits .and .u64 x 15 = x % 16 := by
  have h := and64 (m := 4) h0 h1 (by omega)
  have e1 : (2 : Int) ^ 4 - 1 = 15 := by decide
  have e2 : (2 : Int) ^ 4 = 16 := by decide
  rw [e1, e2] at h
  exact h
theorem set_drop {l : List UInt8} {i : Nat} {x : UInt8} (h1 : 1 ≤ i) (h2 : i ≤ l.length) : (l.set (i - 1) x).drop (i - 1) = x :: l.drop i := by
  rw [List.drop_eq_getElem_cons (by simp; omega)]
  simp only [List.getElem_set_self, List.drop_set]
  rw [if_pos (by omega)]
  congr 2; omega
theorem bits_loop (b1 b2 : Bool) (p q : List UInt8) : ∀ (f : Nat) (u : Nat) (i : Nat) (arr : List UInt8) (n : Nat), u < 16 ^ (f + 1) → u < 18446744073709551616 → f + 1 ≤ i → i ≤ 65 → arr.length = 65 → f < n →
    ∃ (u' : Nat) (i' : Nat) (arr' : List UInt8), loopN F133_l0 n (p, (u : Int), b1, b2, q, (i : Int), 4, 16, 15, arr, ()) = some (p, (u' : Int), b1, b2, q, (i' : Int), arr', ()) ∧ u' < 16 ∧ arr'.length = 65 ∧ i ≤ i' + f ∧ i' ≤ i ∧ dgl u' :: arr'.drop i' = hexF dgl (f + 1) u ++ arr.drop i
  | _, _, _, _, 0, _, _, _, _, _, hn => by omega
  | 0, u, i, arr, n + 1, hu, hu2, hi, hi2, ha, hn => by
    have h16 : u < 16 := by simpa using hu
    refine ⟨u, i, arr, loopN_inr ?_, h16, ha, by omega, Nat.le_refl _, by rw [hexF_lo _ _ _ h16]; rfl⟩
    have e : decide ((u : Int) ≥ 16) = false := by simp; omega
    simp only [F133_l0, e, cond_false]
  | f + 1, u, i, arr, n + 1, hu, hu2, hi, hi2, ha, hn => by
    by_cases h16 : u < 16
    · refine ⟨u, i, arr, loopN_inr ?_, h16, ha, by omega, Nat.le_refl _, by rw [hexF_lo _ _ _ h16]; rfl⟩
      have e : decide ((u : Int) ≥ 16) = false := by simp; omega
      simp only [F133_l0, e, cond_false]
    · have e : decide ((u : Int) ≥ 16) = true := by simp; omega
      have ea := and15 (x := (u : Int)) (by omega) (by omega)
      have e1 : decide (0 ≤ (u : Int) % 16) = true := by simp; omega
      have e2 : decide ((u : Int) % 16 < (([48, 49, 50, 51, 52, 53, 54, 55, 56, 57, 97, 98, 99, 100, 101, 102, 103, 104, 105, 106, 107, 108, 109, 110, 111, 112, 113, 114, 115, 116, 117, 118, 119, 120, 121, 122].length : Nat) : Int)) = true := by simp; omega
      have ew : IntKind.i64.wrap ((i : Int) - 1) = ((i - 1 : Nat) : Int) := by rw [w64] <;> omega
      have e3 : decide (arr.length = 65) = true := by simp [ha]
      have e4 : decide (0 ≤ ((i - 1 : Nat) : Int)) = true := by simp
      have e5 : decide (((i - 1 : Nat) : Int) < (65 : Int)) = true := by simp; omega
      have e6 : decide (i - 1 < arr.length) = true := by simp; omega
      have e7 : decide ((0 : Int) ≤ 4) = true := by decide
      have ef : (u : Int).fdiv (2 ^ min (4 : Int).toNat IntKind.u64.bits) = ((u / 16 : Nat) : Int) := by
        have : (2 : Int) ^ min (4 : Int).toNat IntKind.u64.bits = 16 := by decide
        rw [this, fdiv_nn (by omega)]; omega
      have et : ((u : Int) % 16).toNat = u % 16 := by omega
      have es : F133_l0 (p, (u : Int), b1, b2, q, (i : Int), 4, 16, 15, arr, ()) = some (.inl (p, ((u / 16 : Nat) : Int), b1, b2, q, ((i - 1 : Nat) : Int), 4, 16, 15, arr.set (i - 1) (dgl (u % 16)), ())) := by
        simp only [F133_l0, e, ea, e1, e2, ew, e3, e4, e5, e6, e7, ef, et, Int.toNat_natCast, cond_true, Bool.and_self, byte_back, of_to]
        rfl
      obtain ⟨u', i', arr', h1, h2, h3, h4, h5, h6⟩ := bits_loop b1 b2 p q f (u / 16) (i - 1) (arr.set (i - 1) (dgl (u % 16))) n (by rw [Nat.pow_succ] at hu; omega) (by omega) (by omega) (by omega) (by simp [ha]) (by omega)
      have g1 : i ≤ i' + (f + 1) := by clear es h1 h6 e5 e6; omega
      have g2 : i' ≤ i := by clear es h1 h6 e5 e6; omega
      refine ⟨u', i', arr', by rw [loopN_inl es]; exact h1, h2, h3, g1, g2, ?_⟩
      rw [h6, hexF_hi dgl (f + 1) u (by omega), set_drop (by omega) (by omega), List.append_assoc]
      rfl
theorem pow2_16 : C161 (16, ()) = some (true, ()) := by kernel_rfl
theorem bits16 (neg : Bool) (u : Nat) (hu : u < 18446744073709551616) (arr : List UInt8) (ha : arr.length = 65) (p q : List UInt8) :
    C133_c2 (p, (u : Int), 16, neg, false, q, 65, arr, ()) = some ((bif neg then [45] else []) ++ hexF dgl 16 u, ()) := by
  obtain ⟨u', i', arr', h1, h2, h3, h4, h5, h6⟩ := bits_loop neg false p q 15 u 65 arr big (by omega) hu (by omega) (by omega) ha (by unfold big; omega)
  have h1' : C133_l0 (p, (u : Int), neg, false, q, 65, 4, 16, 15, arr, ()) = _ := h1
  have w1 : IntKind.u64.wrap 16 = 16 := by decide
  have w2 : IntKind.u64.wrap 4 = 4 := by decide
  have w3 : IntKind.u64.wrap (16 - 1) = 15 := by decide
  have t16 : C162 (16, ()) = some (4, ()) := by simp [C162]
  have e1 : decide (0 ≤ (u' : Int)) = true := by simp
  have e2 : decide ((u' : Int) < (([48, 49, 50, 51, 52, 53, 54, 55, 56, 57, 97, 98, 99, 100, 101, 102, 103, 104, 105, 106, 107, 108, 109, 110, 111, 112, 113, 114, 115, 116, 117, 118, 119, 120, 121, 122].length : Nat) : Int)) = true := by simp; omega
  have ew : IntKind.i64.wrap ((i' : Int) - 1) = ((i' - 1 : Nat) : Int) := by rw [w64] <;> omega
  have e3 : decide (arr'.length = 65) = true := by simp [h3]
  have e4 : decide (0 ≤ ((i' - 1 : Nat) : Int)) = true := by simp
  have e5 : decide (((i' - 1 : Nat) : Int) < (65 : Int)) = true := by simp; omega
  have e6 : decide (i' - 1 < arr'.length) = true := by simp; omega
  have e7 : decide ((arr'.set (i' - 1) (dgl u')).length = 65) = true := by simp [h3]
  have e8 : decide (((i' - 1 : Nat) : Int) ≤ ((arr'.set (i' - 1) (dgl u')).length : Int)) = true := by simp; omega
  have hd := set_drop (l := arr') (i := i') (x := dgl u') (by omega) (by omega)
  have hdl : arr.drop 65 = [] := List.drop_eq_nil_of_le (by omega)
  rw [h6, hdl, List.append_nil] at hd
  have hfin : C133_c1 (p, neg, false, q, ((i' - 1 : Nat) : Int), arr'.set (i' - 1) (dgl u'), ()) = some ((bif neg then [45] else []) ++ hexF dgl 16 u, ()) := by
    cases neg with
    | false =>
      simp only [C133_c1, F133_c1, C133_c0, F133_c0, cond_true, cond_false, e7, e4, e8, Bool.and_self, Int.toNat_natCast, Option.bind_some, hd, List.nil_append]
    | true =>
      have ew2 : IntKind.i64.wrap (((i' - 1 : Nat) : Int) - 1) = ((i' - 1 - 1 : Nat) : Int) := by rw [w64] <;> omega
      have g4 : decide (0 ≤ ((i' - 1 - 1 : Nat) : Int)) = true := by simp
      have g5 : decide (((i' - 1 - 1 : Nat) : Int) < (65 : Int)) = true := by simp; omega
      have g6 : decide (i' - 1 - 1 < (arr'.set (i' - 1) (dgl u')).length) = true := by simp; omega
      have g7 : decide (((arr'.set (i' - 1) (dgl u')).set (i' - 1 - 1) 45).length = 65) = true := by simp [h3]
      have g8 : decide (((i' - 1 - 1 : Nat) : Int) ≤ (((arr'.set (i' - 1) (dgl u')).set (i' - 1 - 1) 45).length : Int)) = true := by simp; omega
      have hd2 := set_drop (l := arr'.set (i' - 1) (dgl u')) (i := i' - 1) (x := 45) (by omega) (by simp; omega)
      rw [hd] at hd2
      simp only [C133_c1, F133_c1, C133_c0, F133_c0, cond_true, cond_false, e7, ew2, g4, g5, g6, g7, g8, Bool.and_self, Int.toNat_natCast, Option.bind_some, hd2]
      rfl
  simp only [C133_c2, F133_c2, pow2_16, w1, w2, w3, t16, h1', Option.bind_some, cond_true, e1, e2, Bool.and_self, ew, e3, e4, e5, e6, Int.toNat_natCast, byte_back, of_to]
  have hk : ∀ x : UInt8, x = dgl u' → (C133_c1 (p, neg, false, q, ((i' - 1 : Nat) : Int), arr'.set (i' - 1) x, ())).bind (fun val => some (val.fst, ())) = some ((bif neg then [45] else []) ++ hexF dgl 16 u, ()) := fun x hx => by
    rw [hx, hfin]; rfl
  exact hk _ rfl
theorem fmt16 (n : Int) (h0 : -9223372036854775807 ≤ n) (h1 : n ≤ 9223372036854775807) : C68 (n, 16, ()) = some ((bif decide (n < 0) then [45] else []) ++ hexF dgl 16 n.natAbs, ()) := by
  have e10 : ((16 : Int) == 10) = false := rfl
  have e2 : decide ((16 : Int) < 2) = false := rfl
  have e36 : decide ((16 : Int) > 36) = false := rfl
  by_cases hn : n < 0
  · have d : decide (n < 0) = true := by simp [hn]
    have hw : IntKind.u64.wrap (0 - IntKind.u64.wrap n) = ((n.natAbs : Nat) : Int) := by rw [IntKind.wrap_u64, IntKind.wrap_u64]; omega
    simp only [C68, F68, C97, F97, C133, F133, e10, e2, e36, d, hw, cond_true, cond_false]
    rw [bits16 true n.natAbs (by omega) _ rfl]
    rfl
  · have d : decide (n < 0) = false := by simp [hn]
    have hw : IntKind.u64.wrap n = ((n.natAbs : Nat) : Int) := by rw [IntKind.wrap_u64]; omega
    simp only [C68, F68, C97, F97, C133, F133, e10, e2, e36, d, hw, cond_true, cond_false]
    rw [bits16 false n.natAbs (by omega) _ rfl]
    rfl
theorem c34 (n : Int) (h0 : -9223372036854775807 ≤ n) (h1 : n ≤ 9223372036854775807) : C34 (n, ()) = some ((bif decide (n < 0) then [45] else []) ++ hexU n.natAbs, ()) := by
  have hl := hexF_len dgl 16 n.natAbs
  have ha := hexF_all (fun b => decide (b.toNat < 128)) dgl dgl_low 16 n.natAbs
  have hm := hexF_map Lib.upperB dgl dgu dgu_up 16 n.natAbs
  simp only [C34, F34, fmt16 n h0 h1, Option.bind_some, C67]
  cases decide (n < 0) with
  | false =>
    rw [if_pos ⟨by simp; omega, by simpa using ha⟩]
    simp only [cond_false, List.nil_append, hm, Option.bind_some, hexU]
  | true =>
    rw [if_pos ⟨by simp; omega, by simpa using ha⟩]
    simp only [cond_true, List.cons_append, List.nil_append, List.map_cons, hm, Option.bind_some, hexU]
    rfl
theorem refhex : ∀ (f n m : Nat), n < 16 ^ (f + 1) → n < 9223372036854775808 → f < m → recN (fun G => F37 G) m ((n : Int), ()) = some (hexF dgu (f + 1) n, ())
  | _, _, 0, _, _, hm => by omega
  | f, n, m + 1, hn, hb, hm => by
    show F37 (recN (fun G => F37 G) m) ((n : Int), ()) = _
    by_cases h16 : n < 16
    · have e : decide ((n : Int) < 16) = true := by simp; omega
      have ew : IntKind.i64.wrap ((n : Int) + 1) = ((n + 1 : Nat) : Int) := wrN _ (by omega)
      have e1 : decide (0 ≤ ((n + 1 : Nat) : Int)) = true := by simp; omega
      have e2 : decide (((n + 1 : Nat) : Int) ≤ (([48, 49, 50, 51, 52, 53, 54, 55, 56, 57, 65, 66, 67, 68, 69, 70].length : Nat) : Int)) = true := by simp; omega
      have e3 : decide (0 ≤ (n : Int)) = true := by simp
      have e4 : decide ((n : Int) ≤ ((n + 1 : Nat) : Int)) = true := by simp; omega
      have hs := dgu_slice n h16
      simp only [F37, e, ew, e1, e2, e3, e4, cond_true, Bool.and_self, Int.toNat_natCast]
      rw [hexF_lo _ _ _ h16]
      exact congrArg (fun x => some (x, ())) hs
    · match f, hn with
      | 0, hn => omega
      | f + 1, hn =>
        have e : decide ((n : Int) < 16) = false := by simp; omega
        have ed : (n : Int).tdiv 16 = ((n / 16 : Nat) : Int) := by rw [tdiv_nn _ (by omega)]; omega
        have em : (n : Int).tmod 16 = ((n % 16 : Nat) : Int) := by rw [tmod_nn _ (by omega)]; omega
        have ew : IntKind.i64.wrap ((n / 16 : Nat) : Int) = ((n / 16 : Nat) : Int) := by rw [w64] <;> omega
        have i1 := refhex f (n / 16) m (by rw [Nat.pow_succ] at hn; omega) (by omega) (by omega)
        have i2 := refhex f (n % 16) m (by have : n % 16 < 16 := Nat.mod_lt _ (by omega); have := Nat.one_le_two_pow (n := f); rw [Nat.pow_succ]; have := Nat.one_le_pow f 16 (by omega); omega) (by omega) (by omega)
        have hl := hexF_len dgu (f + 1) (n / 16)
        rw [hexF_lo _ _ _ (Nat.mod_lt _ (by omega))] at i2
        rw [hexF_hi _ _ _ (by omega)]
        have hlen : (hexF dgu (f + 1) (n / 16)).length ≤ 9223372036854775000 := by
          have := hexF_more dgu 15 (f + 1) (n / 16)
          by_cases hf : f ≤ 15
          · omega
          · have h2 := hexF_more dgu 15 f (n / 16) (by omega) (by omega)
            rw [h2]
            have := hexF_len dgu (15 + 1) (n / 16)
            omega
        have el : decide ((hexF dgu (f + 1) (n / 16)).length + [dgu (n % 16)].length ≤ 9223372036854775807) = true := by simp; omega
        simp only [F37, e, ed, em, ew, i1, i2, el, Option.bind_some, cond_true, cond_false]
theorem c37 (n : Nat) (hb : n < 9223372036854775808) : C37 ((n : Int), ()) = some (hexU n, ()) := by
  rw [C37]
  exact refhex 15 n big (by omega) hb (by unfold big; omega)
end Go.Proofs.YtmfcepdbpdihgaaGreatDoor.W
/- Statuses. -/
set_option linter.unusedVariables false
set_option linter.unusedSimpArgs false
set_option maxRecDepth 100000
namespace Go.Proofs.YtmfcepdbpdihgaaGreatDoor.W
open Go Go.Ae Go.Pl
theorem bd64 {x : Int} (h : (Lit.int .i64 x).wf = true) : -9223372036854775808 ≤ x ∧ x ≤ 9223372036854775807 := by
  simp [Lit.wf, IntKind.min, IntKind.max, IntKind.signed, IntKind.bits] at h
  omega
/-- A status as it is told. -/
def stS (n : Int) : List UInt8 := if n < 100 ∨ 999 < n then [53, 46, 48, 46, 48] else [b8 (48 + n / 100), 46, b8 (48 + n / 10 % 10), 46, b8 (48 + n % 10)]
theorem dig3 (m : Nat) (h0 : 100 ≤ m) (h1 : m ≤ 999) : digF 20 m = [UInt8.ofNat (48 + m / 100), UInt8.ofNat (48 + m / 10 % 10), UInt8.ofNat (48 + m % 10)] := by
  have e1 : ¬ m < 10 := by omega
  have e2 : ¬ m / 10 < 10 := by omega
  have e3 : m / 10 / 10 < 10 := by omega
  have e4 : m / 10 / 10 = m / 100 := by omega
  rw [digF, if_neg e1, digF, if_neg e2, digF, if_pos e3, e4]
  rfl
theorem b8n {n : Int} {m : Nat} (h : n = m) : b8 (48 + n) = UInt8.ofNat (48 + m) := by
  subst h; unfold b8; congr 1
theorem c13 (n : Int) (h0 : -9223372036854775808 ≤ n) (h1 : n ≤ 9223372036854775807) : C13 (n, ()) = some (stS n, ()) := by
  unfold stS
  by_cases ha : n < 100
  · have d : decide (n < 100) = true := by simp [ha]
    simp only [C13, F13, d, cond_true, if_pos (Or.inl ha : n < 100 ∨ 999 < n)]
  · by_cases hb : n > 999
    · have d : decide (n < 100) = false := by simp [ha]
      have d2 : decide (n > 999) = true := by simp; omega
      simp only [C13, F13, d, d2, cond_true, cond_false, if_pos (Or.inr hb : n < 100 ∨ 999 < n)]
    · have d : decide (n < 100) = false := by simp [ha]
      have d2 : decide (n > 999) = false := by simp; omega
      have hI : C38 (n, ()) = some ([UInt8.ofNat (48 + n.toNat / 100), UInt8.ofNat (48 + n.toNat / 10 % 10), UInt8.ofNat (48 + n.toNat % 10)], ()) := by
        rw [C38, if_pos ⟨h0, h1⟩]
        unfold itoaF
        rw [if_neg (by omega), dig3 _ (by omega) (by omega)]
      have hneg : ¬ (n < 100 ∨ 999 < n) := by omega
      rw [if_neg hneg, b8n (n := n / 100) (m := n.toNat / 100) (by omega), b8n (n := n / 10 % 10) (m := n.toNat / 10 % 10) (by omega), b8n (n := n % 10) (m := n.toNat % 10) (by omega)]
      simp only [C13, F13, d, d2, cond_false, hI, Option.bind_some]
      rfl
theorem num10 (m : Nat) (n : Nat) (h : n < 10) (hm : 0 < m) : recN (fun G => F39 G) m ((n : Int), ()) = some ([UInt8.ofNat (48 + n)], ()) := by
  match m with
  | m + 1 =>
    show F39 _ ((n : Int), ()) = _
    rcases (show n = 0 ∨ n = 1 ∨ n = 2 ∨ n = 3 ∨ n = 4 ∨ n = 5 ∨ n = 6 ∨ n = 7 ∨ n = 8 ∨ n = 9 by omega) with rfl | rfl | rfl | rfl | rfl | rfl | rfl | rfl | rfl | rfl <;> rfl
theorem c39_10 (n : Int) (h0 : 0 ≤ n) (h : n < 10) : C39 (n, ()) = some ([b8 (48 + n)], ()) := by
  rw [C39, b8n (m := n.toNat) (by omega)]
  have := num10 big n.toNat (by omega) (by unfold big; omega)
  rw [show ((n.toNat : Nat) : Int) = n by omega] at this
  exact this
theorem c14 (n : Int) : C14 (n, ()) = some (stS n, ()) := by
  unfold stS
  by_cases ha : n < 100
  · have d : decide (n < 100) = true := by simp [ha]
    simp only [C14, F14, d, cond_true, if_pos (Or.inl ha : n < 100 ∨ 999 < n)]
  · by_cases hb : n > 999
    · have d : decide (n < 100) = false := by simp [ha]
      have d2 : decide (n > 999) = true := by simp; omega
      simp only [C14, F14, d, d2, cond_true, cond_false, if_pos (Or.inr hb : n < 100 ∨ 999 < n)]
    · have d : decide (n < 100) = false := by simp [ha]
      have d2 : decide (n > 999) = false := by simp; omega
      have hneg : ¬ (n < 100 ∨ 999 < n) := by omega
      have e1 : IntKind.i64.wrap (n.tdiv 100) = n / 100 := by rw [tdiv_nn _ (by omega), w64] <;> omega
      have e2 : (IntKind.i64.wrap (n.tdiv 10)).tmod 10 = n / 10 % 10 := by rw [tdiv_nn _ (by omega), w64 (by omega) (by omega), tmod_nn _ (by omega)]
      have e3 : n.tmod 10 = n % 10 := tmod_nn _ (by omega)
      rw [if_neg hneg]
      simp only [C14, F14, d, d2, cond_false, e1, e2, e3, c39_10 (n / 100) (by omega) (by omega), c39_10 (n / 10 % 10) (by omega) (by omega), c39_10 (n % 10) (by omega) (by omega), Option.bind_some]
      rfl
theorem stS_inj {n m : Int} (hn : ¬ (n < 100 ∨ 999 < n)) (hm : ¬ (m < 100 ∨ 999 < m)) : (stS n == stS m) = (n == m) := by
  have hn' : stS n = [b8 (48 + n / 100), 46, b8 (48 + n / 10 % 10), 46, b8 (48 + n % 10)] := by rw [stS, if_neg hn]
  have hm' : stS m = [b8 (48 + m / 100), 46, b8 (48 + m / 10 % 10), 46, b8 (48 + m % 10)] := by rw [stS, if_neg hm]
  by_cases h : n = m
  · subst h; simp
  · rw [ibF h]
    rw [beq_eq_false_iff_ne]
    intro e
    rw [hn', hm'] at e
    simp only [List.cons.injEq, and_true, true_and] at e
    obtain ⟨a, b, c⟩ := e
    have a' := congrArg cv a
    have b' := congrArg cv b
    have c' := congrArg cv c
    rw [b8_cv (by omega) (by omega), b8_cv (by omega) (by omega)] at a' b' c'
    omega
end Go.Proofs.YtmfcepdbpdihgaaGreatDoor.W
/- What is escaped. -/
set_option linter.unusedVariables false
set_option linter.unusedSimpArgs false
set_option maxRecDepth 100000
namespace Go.Proofs.YtmfcepdbpdihgaaGreatDoor.W
open Go Go.Ae Go.Pl
def plainB (v : Int) : Bool := decide (32 ≤ v) && (decide (v ≤ 126) && !decide (v = 92))
theorem plainB_iff {v : Int} : plainB v = true ↔ 32 ≤ v ∧ v ≤ 126 ∧ v ≠ 92 := by simp [plainB]
theorem c24 (v : Int) : C24 (v, ()) = some (plainB v, ()) := by
  simp only [C24, F24, plainB]
  by_cases h1 : v ≥ 32 <;> by_cases h2 : v ≤ 126 <;> by_cases h3 : v = 92 <;> simp [h1, h2, h3] <;> omega
theorem c29 (v : Int) : C29 (v, ()) = some (plainB v, ()) := by
  simp only [C29, F29, plainB]
  by_cases h1 : v ≥ 32 <;> by_cases h2 : v ≤ 126 <;> by_cases h3 : v = 92 <;> simp [h1, h2, h3] <;> omega
/-- A character, escaped; a byte that is of none. -/
def escR (v : Int) : List UInt8 := if plainB v = true then [b8 v] else [92, 120, 123] ++ hexU v.toNat ++ [125]
def escB (c : UInt8) : List UInt8 := [92, 120, 123, 48, 48] ++ hexU c.toNat ++ [125]
def esc (s : List UInt8) : List UInt8 := (rl s).flatMap escR ++ (rr s).flatMap escB
theorem hexU_len (n : Nat) : (hexU n).length ≤ 16 := hexF_len dgu 16 n
theorem escR_len (v : Int) : (escR v).length ≤ 20 := by
  unfold escR; have := hexU_len v.toNat; split <;> simp; omega
theorem escB_len (c : UInt8) : (escB c).length ≤ 22 := by
  unfold escB; have := hexU_len c.toNat; simp; omega
theorem flat_len {α : Type} (f : α → List UInt8) (k : Nat) (hf : ∀ a, (f a).length ≤ k) : ∀ l : List α, (l.flatMap f).length ≤ k * l.length
  | [] => by simp
  | a :: l => by have := flat_len f k hf l; have := hf a; rw [List.flatMap_cons, List.length_append, List.length_cons, Nat.mul_succ]; omega
theorem esc_len (s : List UInt8) : (esc s).length ≤ 42 * s.length := by
  unfold esc
  have h1 := flat_len escR 20 escR_len (rl s)
  have h2 := flat_len escB 22 escB_len (rr s)
  have := rl_len s
  have := rr_le s
  rw [List.length_append]; omega
theorem c32 (c : Int) (out : List UInt8) (h : out.length ≤ 100000000000000) : C32 (c, out, ()) = some (out ++ [b8 c], ()) := by
  have e : decide (out.length + 1 ≤ 140737488355328 / 1) = true := by simp; omega
  simp only [C32, F32, C66, bldChk, Option.bind_some, List.length_cons, List.length_nil, Nat.zero_add, e, cond_true]
  rfl
theorem c33 (s out : List UInt8) (h : out.length + s.length ≤ 100000000000000) : C33 (s, out, ()) = some ((s.length : Int), out ++ s, ()) := by
  have e : decide (out.length + s.length ≤ 140737488355328 / 1) = true := by simp; omega
  simp only [C33, F33, C66, bldChk, Option.bind_some, e, cond_true]
theorem right_hex {v : Int} (hr : rightB v = true) : C34 (IntKind.i64.wrap v, ()) = some (hexU v.toNat, ()) := by
  have hi := rightB_iff.1 hr
  rw [w64 (by omega) (by omega), c34 v (by omega) (by omega)]
  have d : decide (v < 0) = false := by simp; omega
  rw [d, show v.natAbs = v.toNat by omega]
  rfl
theorem byte_hex (c : UInt8) : C34 (IntKind.i64.wrap ((c.toNat : Nat) : Int), ()) = some (hexU c.toNat, ()) := by
  have hc := c.toNat_lt
  rw [w64 (by omega) (by omega), c34 _ (by omega) (by omega)]
  have d : decide (((c.toNat : Nat) : Int) < 0) = false := by simp
  rw [d]; rfl
theorem erun0 (s : List UInt8) (at0 : Int) : ∀ (r pre : List Int) (N : Int) (out : List UInt8) (n : Nat), N = ((pre ++ r).length : Int) → (∀ v ∈ r, rightB v = true) → pre.length + r.length ≤ 1000000000 → out.length + 20 * r.length ≤ 1000000000000 → r.length < n →
    loopN (F11_l0 C24 C32 C33 C34) n (s, at0, pre ++ r, N, (pre.length : Int), out, ()) = some (s, at0, out ++ r.flatMap escR, ())
  | _, _, _, _, 0, _, _, _, _, hn => by omega
  | [], pre, N, out, n + 1, hN, hr, hl, ho, hn => by
    subst hN
    refine loopN_inr ?_
    have hi : decide ((pre.length : Int) < (pre.length : Int)) = false := by simp
    simp only [F11_l0, List.append_nil, hi, cond_false, List.flatMap_nil]
  | v :: r, pre, N, out, n + 1, hN, hr, hl, ho, hn => by
    subst hN
    simp only [List.length_cons] at hl ho hn
    have hi : decide ((pre.length : Int) < ((pre ++ v :: r).length : Int)) = true := by simp; omega
    have hi0 : decide (0 ≤ (pre.length : Int)) = true := by simp
    have hw : IntKind.i64.wrap ((pre.length : Int) + 1) = ((pre.length + 1 : Nat) : Int) := wrN _ (by omega)
    have hg : (pre ++ v :: r).getD ((pre.length : Int)).toNat 0 = v := by rw [Int.toNat_natCast]; exact gd rfl
    have hv := hr v List.mem_cons_self
    have hlen := escR_len v
    have step : F11_l0 C24 C32 C33 C34 (s, at0, pre ++ v :: r, ((pre ++ v :: r).length : Int), (pre.length : Int), out, ()) = some (.inl (s, at0, pre ++ v :: r, ((pre ++ v :: r).length : Int), ((pre.length + 1 : Nat) : Int), out ++ escR v, ())) := by
      cases hp : plainB v with
      | true =>
        have hp' := plainB_iff.1 hp
        have hwb := c32 (IntKind.u8.wrap v) out (by omega)
        rw [wu8 (by omega) (by omega)] at hwb
        have hu : IntKind.u8.wrap v = v := wu8 (by omega) (by omega)
        simp only [F11_l0, hi, hi0, hg, hw, hu, hwb, c24, hp, Option.bind_some, cond_true, Bool.and_self, escR, if_true]
      | false =>
        have hh := hexU_len v.toNat
        have e1 : decide ([92, 120, 123].length + (hexU v.toNat).length ≤ 9223372036854775807) = true := by simp; omega
        have e2 : decide (([92, 120, 123] ++ hexU v.toNat).length + [125].length ≤ 9223372036854775807) = true := by simp; omega
        have hws := c33 ([92, 120, 123] ++ hexU v.toNat ++ [125]) out (by simp; omega)
        simp only [F11_l0, hi, hi0, hg, hw, right_hex hv, e1, e2, hws, c24, hp, Option.bind_some, cond_true, cond_false, Bool.and_self, escR]
        rfl
    rw [loopN_inl step, shift, show ((pre.length + 1 : Nat) : Int) = ((pre ++ [v]).length : Int) by simp, erun0 s at0 r (pre ++ [v]) _ (out ++ escR v) n (by simp) (fun u hu => hr u (List.mem_cons_of_mem _ hu)) (by simp; omega) (by rw [List.length_append]; omega) (by omega)]
    rw [List.flatMap_cons, List.append_assoc]
theorem erun1 : ∀ (r pre : List UInt8) (N : Int) (out : List UInt8) (n : Nat), N = ((pre ++ r).length : Int) → pre.length + r.length ≤ 1000000000 → out.length + 22 * r.length ≤ 1000000000000 → r.length < n →
    loopN (F11_l1 C33 C34) n (pre ++ r, N, (pre.length : Int), out, ()) = some (out ++ r.flatMap escB, ())
  | _, _, _, _, 0, _, _, _, hn => by omega
  | [], pre, N, out, n + 1, hN, hl, ho, hn => by
    subst hN
    refine loopN_inr ?_
    have hi : decide ((pre.length : Int) < (pre.length : Int)) = false := by simp
    simp only [F11_l1, List.append_nil, hi, cond_false, List.flatMap_nil]
  | c :: r, pre, N, out, n + 1, hN, hl, ho, hn => by
    subst hN
    simp only [List.length_cons] at hl ho hn
    have hi : decide ((pre.length : Int) < ((pre ++ c :: r).length : Int)) = true := by simp; omega
    have hi0 : decide (0 ≤ (pre.length : Int)) = true := by simp
    have hw : IntKind.i64.wrap ((pre.length : Int) + 1) = ((pre.length + 1 : Nat) : Int) := wrN _ (by omega)
    have hg : (pre ++ c :: r).getD ((pre.length : Int)).toNat 0 = c := by rw [Int.toNat_natCast]; exact gd rfl
    have hlen := escB_len c
    have hh := hexU_len c.toNat
    have e1 : decide ([92, 120, 123, 48, 48].length + (hexU c.toNat).length ≤ 9223372036854775807) = true := by simp; omega
    have e2 : decide (([92, 120, 123, 48, 48] ++ hexU c.toNat).length + [125].length ≤ 9223372036854775807) = true := by simp; omega
    have hws := c33 ([92, 120, 123, 48, 48] ++ hexU c.toNat ++ [125]) out (by simp; omega)
    have step : F11_l1 C33 C34 (pre ++ c :: r, ((pre ++ c :: r).length : Int), (pre.length : Int), out, ()) = some (.inl (pre ++ c :: r, ((pre ++ c :: r).length : Int), ((pre.length + 1 : Nat) : Int), out ++ escB c, ())) := by
      simp only [F11_l1, hi, hi0, hg, hw, byte_hex, e1, e2, hws, Option.bind_some, cond_true, Bool.and_self, escB]
    rw [loopN_inl step, shift, show ((pre.length + 1 : Nat) : Int) = ((pre ++ [c]).length : Int) by simp, erun1 r (pre ++ [c]) _ (out ++ escB c) n (by simp) (by simp; omega) (by rw [List.length_append]; omega) (by omega)]
    rw [List.flatMap_cons, List.append_assoc]
theorem c11 (s : List UInt8) (hb : s.length ≤ 1000000) : C11 (s, ()) = some (esc s, ()) := by
  have hrl := rl_len s
  have hrr := rr_le s
  have h0 := erun0 s (badAt s) (rl s) [] ((rl s).length : Int) [] big (by simp) (rl_right s) (by simp; omega) (by simp; omega) (by unfold big; omega)
  have h0' : C11_l0 (s, badAt s, rl s, ((rl s).length : Int), 0, [], ()) = _ := h0
  have hf := flat_len escR 20 escR_len (rl s)
  have hB : ∀ x : List UInt8, C35 (x, ()) = some (x, ()) := fun x => rfl
  simp only [C11, F11, d21 s hb, h0', Option.bind_some, List.nil_append]
  by_cases ha : badAt s ≥ 0
  · obtain ⟨hd, hlt⟩ := badAt_drop ha
    have e1 : decide (badAt s ≥ 0) = true := by simp [ha]
    have e2 : decide (0 ≤ badAt s) = true := by simp; omega
    have e3 : decide (badAt s ≤ (s.length : Int)) = true := by simp; omega
    have e4 : decide ((rr s).length ≤ 9223372036854775807) = true := by simp; omega
    have h1 := erun1 (rr s) [] ((rr s).length : Int) ((rl s).flatMap escR) big (by simp) (by simp; omega) (by omega) (by unfold big; omega)
    have h1' : C11_l1 (rr s, ((rr s).length : Int), 0, (rl s).flatMap escR, ()) = _ := h1
    simp only [e1, e2, e3, hd, e4, h1', hB, Option.bind_some, cond_true, Bool.and_self]
    rfl
  · have e1 : decide (badAt s ≥ 0) = false := by simp; omega
    have hn := badAt_neg (s := s) (by omega)
    simp only [e1, hB, Option.bind_some, cond_false, esc, hn, List.flatMap_nil, List.append_nil]
/-! ### the document's -/
theorem frun0 (s : List UInt8) (at0 : Int) : ∀ (r pre : List Int) (out : List UInt8) (n : Nat), (∀ v ∈ r, rightB v = true) → pre.length + r.length ≤ 1000000000 → out.length + 20 * r.length ≤ 1000000000000 → r.length < n →
    loopN (F12_l0 C29 C37) n (s, pre ++ r, at0, out, (pre.length : Int), ()) = some (s, at0, out ++ r.flatMap escR, ())
  | _, _, _, 0, _, _, _, hn => by omega
  | [], pre, out, n + 1, hr, hl, ho, hn => by
    refine loopN_inr ?_
    have hi : decide ((pre.length : Int) < (pre.length : Int)) = false := by simp
    simp only [F12_l0, List.append_nil, hi, cond_false, List.flatMap_nil]
  | v :: r, pre, out, n + 1, hr, hl, ho, hn => by
    simp only [List.length_cons] at hl ho hn
    have hi : decide ((pre.length : Int) < ((pre ++ v :: r).length : Int)) = true := by simp; omega
    have hi0 : decide (0 ≤ (pre.length : Int)) = true := by simp
    have hw : IntKind.i64.wrap ((pre.length : Int) + 1) = ((pre.length + 1 : Nat) : Int) := wrN _ (by omega)
    have hg : (pre ++ v :: r).getD ((pre.length : Int)).toNat 0 = v := by rw [Int.toNat_natCast]; exact gd rfl
    have hv := hr v List.mem_cons_self
    have hi' := rightB_iff.1 hv
    have hlen := escR_len v
    have hh := hexU_len v.toNat
    have hx : C37 (IntKind.i64.wrap v, ()) = some (hexU v.toNat, ()) := by
      rw [w64 (by omega) (by omega)]
      have := c37 v.toNat (by omega)
      rw [show ((v.toNat : Nat) : Int) = v by omega] at this
      exact this
    have step : F12_l0 C29 C37 (s, pre ++ v :: r, at0, out, (pre.length : Int), ()) = some (.inl (s, pre ++ v :: r, at0, out ++ escR v, ((pre.length + 1 : Nat) : Int), ())) := by
      cases hp : plainB v with
      | true =>
        have hp' := plainB_iff.1 hp
        have hu : IntKind.u8.wrap v = v := wu8 (by omega) (by omega)
        have e1 : decide (out.length + 1 ≤ 9223372036854775807) = true := by simp; omega
        simp only [F12_l0, hi, hi0, hg, hw, hu, e1, List.length_cons, List.length_nil, Nat.zero_add, c29, hp, Option.bind_some, cond_true, Bool.and_self, escR, if_true]
        rfl
      | false =>
        have e1 : ∀ k : Nat, k ≤ 100 → decide (out.length + k ≤ 9223372036854775807) = true := fun k hk => by simp; omega
        have e1' : decide (out.length + 1 ≤ 9223372036854775807) = true := e1 1 (by omega)
        have e2 : decide (out.length + (0 + 1) + (0 + 1 + 1) ≤ 9223372036854775807) = true := by simp; omega
        have e3 : decide (out.length + (0 + 1) + (0 + 1 + 1) + (hexU v.toNat).length ≤ 9223372036854775807) = true := by simp; omega
        have e4 : decide (out.length + (0 + 1) + (0 + 1 + 1) + (hexU v.toNat).length + (0 + 1) ≤ 9223372036854775807) = true := by simp; omega
        have e5 : decide (out.length + (0 + 1) ≤ 9223372036854775807) = true := e1 1 (by omega)
        have hi2 : decide ((pre.length : Int) < ((pre.length + (r.length + 1) : Nat) : Int)) = true := by simp; omega
        simp only [F12_l0, hi, hi2, hi0, hg, hw, hx, List.length_append, List.length_cons, List.length_nil, e2, e3, e4, e5, c29, hp, Option.bind_some, cond_true, cond_false, Bool.and_self, escR]
        simp only [List.append_assoc, List.cons_append, List.nil_append]
        rfl
    rw [loopN_inl step, shift, show ((pre.length + 1 : Nat) : Int) = ((pre ++ [v]).length : Int) by simp, frun0 s at0 r (pre ++ [v]) (out ++ escR v) n (fun u hu => hr u (List.mem_cons_of_mem _ hu)) (by simp; omega) (by rw [List.length_append]; omega) (by omega)]
    rw [List.flatMap_cons, List.append_assoc]
theorem frun1 (at0 : Int) (ha : 0 ≤ at0) : ∀ (r pre : List UInt8) (out : List UInt8) (n : Nat), pre.length + r.length ≤ 1000000000 → out.length + 22 * r.length ≤ 1000000000000 → r.length < n →
    loopN (F12_l1 C37) n (pre ++ r, at0, out, (pre.length : Int), ()) = some (out ++ r.flatMap escB, ())
  | _, _, _, 0, _, _, hn => by omega
  | [], pre, out, n + 1, hl, ho, hn => by
    refine loopN_inr ?_
    have e0 : decide (at0 ≥ 0) = true := by simp [ha]
    have hi : decide ((pre.length : Int) < (pre.length : Int)) = false := by simp
    simp only [F12_l1, List.append_nil, e0, hi, cond_true, cond_false, List.flatMap_nil]
  | c :: r, pre, out, n + 1, hl, ho, hn => by
    simp only [List.length_cons] at hl ho hn
    have e0 : decide (at0 ≥ 0) = true := by simp [ha]
    have hi : decide ((pre.length : Int) < ((pre ++ c :: r).length : Int)) = true := by simp; omega
    have hi0 : decide (0 ≤ (pre.length : Int)) = true := by simp
    have hw : IntKind.i64.wrap ((pre.length : Int) + 1) = ((pre.length + 1 : Nat) : Int) := wrN _ (by omega)
    have hg : (pre ++ c :: r).getD ((pre.length : Int)).toNat 0 = c := by rw [Int.toNat_natCast]; exact gd rfl
    have hc := c.toNat_lt
    have hlen := escB_len c
    have hh := hexU_len c.toNat
    have hx : C37 (IntKind.i64.wrap ((c.toNat : Nat) : Int), ()) = some (hexU c.toNat, ()) := by
      rw [w64 (by omega) (by omega)]
      exact c37 c.toNat (by omega)
    have e2 : decide (out.length + (0 + 1) + (0 + 1 + 1 + 1 + 1) ≤ 9223372036854775807) = true := by simp; omega
    have e3 : decide (out.length + (0 + 1) + (0 + 1 + 1 + 1 + 1) + (hexU c.toNat).length ≤ 9223372036854775807) = true := by simp; omega
    have e4 : decide (out.length + (0 + 1) + (0 + 1 + 1 + 1 + 1) + (hexU c.toNat).length + (0 + 1) ≤ 9223372036854775807) = true := by simp; omega
    have e5 : decide (out.length + (0 + 1) ≤ 9223372036854775807) = true := by simp; omega
    have step : F12_l1 C37 (pre ++ c :: r, at0, out, (pre.length : Int), ()) = some (.inl (pre ++ c :: r, at0, out ++ escB c, ((pre.length + 1 : Nat) : Int), ())) := by
      have hi2 : decide ((pre.length : Int) < ((pre.length + (r.length + 1) : Nat) : Int)) = true := by simp; omega
      simp only [F12_l1, e0, hi, hi2, hi0, hg, hw, hx, List.length_append, List.length_cons, List.length_nil, e2, e3, e4, e5, Option.bind_some, cond_true, cond_false, Bool.and_self, escB]
      simp only [List.append_assoc, List.cons_append, List.nil_append]
    rw [loopN_inl step, shift, show ((pre.length + 1 : Nat) : Int) = ((pre ++ [c]).length : Int) by simp, frun1 at0 ha r (pre ++ [c]) (out ++ escB c) n (by simp; omega) (by rw [List.length_append]; omega) (by omega)]
    rw [List.flatMap_cons, List.append_assoc]
theorem c12 (s : List UInt8) (hb : s.length ≤ 1000000) : C12 (s, ()) = some (esc s, ()) := by
  have hrl := rl_len s
  have hrr := rr_le s
  have h0 := frun0 s (badAt s) (rl s) [] [] big (rl_right s) (by simp; omega) (by simp; omega) (by unfold big; omega)
  have h0' : C12_l0 (s, rl s, badAt s, [], 0, ()) = _ := h0
  have hf := flat_len escR 20 escR_len (rl s)
  simp only [C12, F12, c36 s hb, h0', Option.bind_some, List.nil_append]
  by_cases ha : 0 ≤ badAt s
  · obtain ⟨hd, hlt⟩ := badAt_drop ha
    have hs : s = s.take (badAt s).toNat ++ rr s := by rw [← hd, List.take_append_drop]
    have hp : ((s.take (badAt s).toNat).length : Int) = badAt s := by simp; omega
    have h1 := frun1 (badAt s) ha (rr s) (s.take (badAt s).toNat) ((rl s).flatMap escR) big (by simp; omega) (by omega) (by unfold big; omega)
    rw [← hs, hp] at h1
    have h1' : C12_l1 (s, badAt s, (rl s).flatMap escR, badAt s, ()) = _ := h1
    simp only [h1', Option.bind_some]
    rfl
  · have hn := badAt_neg (s := s) (by omega)
    have e0 : decide (badAt s ≥ 0) = false := by simp; omega
    have h1 : C12_l1 (s, badAt s, (rl s).flatMap escR, badAt s, ()) = some ((rl s).flatMap escR, ()) := by
      show loopN _ big _ = _
      rw [show big = 999999999999999999999 + 1 from rfl]
      refine loopN_inr ?_
      simp only [F12_l1, e0, cond_false]
    simp only [h1, Option.bind_some, esc, hn, List.flatMap_nil, List.append_nil]
end Go.Proofs.YtmfcepdbpdihgaaGreatDoor.W
/- Hexadecimal numbers, read. -/
set_option linter.unusedVariables false
set_option linter.unusedSimpArgs false
set_option maxRecDepth 100000
namespace Go.Proofs.YtmfcepdbpdihgaaGreatDoor.W
open Go Go.Ae Go.Pl
/-! ### the document's form -/
def uv (c : UInt8) : Option Nat := bif Nat.ble 48 c.toNat && Nat.ble c.toNat 57 then some (c.toNat - 48) else bif Nat.ble 65 c.toNat && Nat.ble c.toNat 70 then some (c.toNat - 55) else none
def valU : Nat → List UInt8 → Option Nat
  | a, [] => some a
  | a, c :: r => match uv c with
    | some x => valU (16 * a + x) r
    | none => none
def hexV (d : List UInt8) : Option Nat :=
  bif Nat.ble 1 d.length && Nat.ble d.length 6 then bif Nat.beq d.length 1 || !(d.headD 0 == 48) then valU 0 d else none else none
theorem valU_app : ∀ (l : List UInt8) (a : Nat) (r : List UInt8), valU a (l ++ r) = (valU a l).bind fun b => valU b r
  | [], a, r => rfl
  | c :: l, a, r => by
    simp only [List.cons_append, valU]
    cases uv c with
    | none => rfl
    | some x => exact valU_app l _ r
theorem uv_dgu : ∀ n, n < 16 → uv (dgu n) = some n := fun n hn => by
  have := fin16 (p := fun n => decide (uv (dgu n) = some n)) (by decide) n hn
  simpa using this
def uvB (c : UInt8) : Bool := match uv c with | some n => decide (n < 16) && decide (dgu n = c) | none => true
theorem uvB_k : ((List.range 256).all fun n => uvB (UInt8.ofNat n)) = true := by kernel_rfl
theorem dgu_uv {c : UInt8} {n : Nat} (h : uv c = some n) : n < 16 ∧ dgu n = c := by
  have k := all256 uvB uvB_k c
  simpa [uvB, h] using k
theorem valU_hex : ∀ (f n : Nat), n < 16 ^ (f + 1) → valU 0 (hexF dgu (f + 1) n) = some n
  | 0, n, h => by
    have h16 : n < 16 := by simpa using h
    rw [hexF_lo _ _ _ h16]; simp [valU, uv_dgu n h16]
  | f + 1, n, h => by
    by_cases h16 : n < 16
    · rw [hexF_lo _ _ _ h16]; simp [valU, uv_dgu n h16]
    · rw [hexF_hi _ _ _ (by omega), valU_app, valU_hex f (n / 16) (by rw [Nat.pow_succ] at h; omega)]
      simp only [Option.bind_some, valU, uv_dgu (n % 16) (Nat.mod_lt _ (by omega))]
      congr 1; omega
theorem hexF_len_lo : ∀ (f n k : Nat), n < 16 ^ (f + 1) → (hexF dgu (f + 1) n).length ≤ k + 1 → n < 16 ^ (k + 1)
  | 0, n, k, h, _ => by
    have h16 : n < 16 := by simpa using h
    have := Nat.one_le_pow k 16 (by omega)
    rw [Nat.pow_succ]; omega
  | f + 1, n, k, h, hl => by
    by_cases h16 : n < 16
    · have := Nat.one_le_pow k 16 (by omega)
      rw [Nat.pow_succ]; omega
    · rw [hexF_hi _ _ _ (by omega), List.length_append] at hl
      simp only [List.length_cons, List.length_nil] at hl
      have hne : 1 ≤ (hexF dgu (f + 1) (n / 16)).length := by
        by_cases h2 : n / 16 < 16
        · rw [hexF_lo _ _ _ h2]; simp
        · rw [hexF_hi _ _ _ (by omega)]; simp
      match k with
      | 0 => omega
      | k + 1 =>
        have := hexF_len_lo f (n / 16) k (by rw [Nat.pow_succ] at h; omega) (by omega)
        rw [Nat.pow_succ]; omega
theorem hexF_head : ∀ (f n : Nat), 1 ≤ n → n < 16 ^ (f + 1) → (hexF dgu (f + 1) n).headD 0 ≠ 48
  | 0, n, h1, h => by
    have h16 : n < 16 := by simpa using h
    rw [hexF_lo _ _ _ h16]
    have := fin16 (p := fun n => Nat.beq n 0 || decide (dgu n ≠ 48)) (by decide) n h16
    have h0 : Nat.beq n 0 = false := by rw [← Bool.not_eq_true]; intro e; have := Nat.eq_of_beq_eq_true e; omega
    simpa [h0] using this
  | f + 1, n, h1, h => by
    by_cases h16 : n < 16
    · rw [hexF_lo _ _ _ h16]
      have := fin16 (p := fun n => Nat.beq n 0 || decide (dgu n ≠ 48)) (by decide) n h16
      have h0 : Nat.beq n 0 = false := by rw [← Bool.not_eq_true]; intro e; have := Nat.eq_of_beq_eq_true e; omega
      simpa [h0] using this
    · have ih := hexF_head f (n / 16) (by omega) (by rw [Nat.pow_succ] at h; omega)
      rw [hexF_hi _ _ _ (by omega)]
      have hne : hexF dgu (f + 1) (n / 16) ≠ [] := by
        by_cases h2 : n / 16 < 16
        · rw [hexF_lo _ _ _ h2]; simp
        · rw [hexF_hi _ _ _ (by omega)]; simp
      cases hx : hexF dgu (f + 1) (n / 16) with
      | nil => exact absurd hx hne
      | cons a l => rw [hx] at ih; simpa using ih
theorem hexF_one : ∀ (f n : Nat), 16 ≤ n → 2 ≤ (hexF dgu (f + 2) n).length := fun f n h => by
  rw [hexF_hi _ _ _ h, List.length_append]
  have hne : 1 ≤ (hexF dgu (f + 1) (n / 16)).length := by
    by_cases h2 : n / 16 < 16
    · rw [hexF_lo _ _ _ h2]; simp
    · rw [hexF_hi _ _ _ (by omega)]; simp
  simp; omega
/-- What a number's digits are, if they are few. -/
theorem hexV_of {n : Nat} (hn : n < 18446744073709551616) (hl : (hexU n).length ≤ 6) : hexV (hexU n) = some n := by
  have h6 := hexF_len_lo 15 n 5 (by omega) hl
  have hv := valU_hex 15 n (by omega)
  unfold hexV
  have h1 : 1 ≤ (hexU n).length := by
    unfold hexU
    by_cases h16 : n < 16
    · rw [hexF_lo _ _ _ h16]; simp
    · have h2 : 2 ≤ (hexF dgu 16 n).length := hexF_one 14 n (by omega)
      omega
  have e1 : (Nat.ble 1 (hexU n).length && Nat.ble (hexU n).length 6) = true := by rw [Bool.and_eq_true]; exact ⟨Nat.ble_eq_true_of_le h1, Nat.ble_eq_true_of_le hl⟩
  rw [e1, cond_true]
  have e2 : (Nat.beq (hexU n).length 1 || !((hexU n).headD 0 == 48)) = true := by
    rw [Bool.or_eq_true]
    by_cases h0 : n = 0
    · left; subst h0; rfl
    · right
      have := hexF_head 15 n (by omega) (by omega)
      simpa [hexU] using this
  rw [e2, cond_true]
  exact hv
theorem valU_snoc : ∀ (k : Nat) (d : List UInt8), d.length = k + 1 → (k = 0 ∨ d.headD 0 ≠ 48) → ∀ n, valU 0 d = some n → hexF dgu (k + 1) n = d ∧ n < 16 ^ (k + 1) ∧ (d.headD 0 ≠ 48 → 1 ≤ n)
  | 0, d, hl, _, n, h => by
    match d, hl with
    | [c], _ =>
      simp only [valU] at h
      cases hc : uv c with
      | none => rw [hc] at h; cases h
      | some x =>
        rw [hc] at h
        simp only [Option.some.injEq] at h
        obtain ⟨h1, h2⟩ := dgu_uv hc
        have hx : n = x := by omega
        subst hx
        refine ⟨by rw [hexF_lo _ _ _ h1, h2], by simpa using h1, fun hh => ?_⟩
        rcases Nat.eq_zero_or_pos n with h0 | h0
        · subst h0; exact absurd (by rw [List.headD_cons, ← h2]; rfl) hh
        · exact h0
  | k + 1, d, hl, hh, n, h => by
    have hne : d ≠ [] := by intro e; rw [e] at hl; simp at hl
    obtain ⟨l, c, rfl⟩ : ∃ l c, d = l ++ [c] := ⟨d.dropLast, d.getLast hne, (List.dropLast_concat_getLast hne).symm⟩
    have hll : l.length = k + 1 := by simpa using hl
    have hhd : (l ++ [c]).headD 0 = l.headD 0 := by
      cases l with
      | nil => simp at hll
      | cons a l => rfl
    have hl48 : l.headD 0 ≠ 48 := by rw [← hhd]; rcases hh with hh | hh; omega; exact hh
    rw [valU_app] at h
    cases hv : valU 0 l with
    | none => rw [hv] at h; cases h
    | some a =>
      rw [hv] at h
      simp only [Option.bind_some, valU] at h
      obtain ⟨i1, i2, i3⟩ := valU_snoc k l hll (.inr hl48) a hv
      have ha := i3 hl48
      cases hc : uv c with
      | none => rw [hc] at h; cases h
      | some x =>
        rw [hc] at h
        simp only [Option.some.injEq] at h
        obtain ⟨h1, h2⟩ := dgu_uv hc
        subst h
        refine ⟨?_, by rw [Nat.pow_succ]; omega, fun _ => by omega⟩
        rw [hexF_hi _ _ _ (by omega), show (16 * a + x) / 16 = a by omega, show (16 * a + x) % 16 = x by omega, i1, h2]
theorem hexV_back {d : List UInt8} {n : Nat} (h : hexV d = some n) : hexU n = d ∧ d.length ≤ 6 ∧ n < 16777216 := by
  unfold hexV at h
  cases e1 : (Nat.ble 1 d.length && Nat.ble d.length 6) with
  | false => rw [e1] at h; cases h
  | true =>
    rw [e1, cond_true] at h
    rw [Bool.and_eq_true] at e1
    have g1 := Nat.le_of_ble_eq_true e1.1
    have g2 := Nat.le_of_ble_eq_true e1.2
    cases e2 : (Nat.beq d.length 1 || !(d.headD 0 == 48)) with
    | false => rw [e2] at h; cases h
    | true =>
      rw [e2, cond_true] at h
      rw [Bool.or_eq_true] at e2
      have hh : d.length - 1 = 0 ∨ d.headD 0 ≠ 48 := by
        rcases e2 with e2 | e2
        · left; have := Nat.eq_of_beq_eq_true e2; omega
        · right; simpa using e2
      obtain ⟨i1, i2, _⟩ := valU_snoc (d.length - 1) d (by omega) hh n h
      have hp : 16 ^ (d.length - 1 + 1) ≤ 16 ^ 6 := Nat.pow_le_pow_right (by omega) (by omega)
      refine ⟨?_, g2, by have : (16 : Nat) ^ 6 = 16777216 := by decide
                         omega⟩
      unfold hexU
      rw [← i1]
      exact hexF_more dgu (d.length - 1) 15 n i2 (by omega)
/-! ### ParseUint, at base 16, 32 bits -/
def dvI (c : Int) : Option Int :=
  bif decide (48 ≤ c) && decide (c ≤ 57) then some (IntKind.u8.wrap (c - 48))
  else bif decide (97 ≤ intBits BinOp.or IntKind.u8 c 32) && decide (intBits BinOp.or IntKind.u8 c 32 ≤ 122) then some (IntKind.u8.wrap (IntKind.u8.wrap (intBits BinOp.or IntKind.u8 c 32 - 97) + 10))
  else none
def dvB (c : UInt8) : Bool := match dvI (c.toNat : Int) with | some x => (decide (0 ≤ x) && decide (x ≤ 255)) && (match uv c with | some n => decide (x = (n : Int)) | none => true) | none => (match uv c with | some _ => false | none => true)
theorem dvB_k : ((List.range 256).all fun n => dvB (UInt8.ofNat n)) = true := by kernel_rfl
theorem dv_rng {c : UInt8} {x : Int} (h : dvI (c.toNat : Int) = some x) : 0 ≤ x ∧ x ≤ 255 := by
  have k := all256 dvB dvB_k c
  simp only [dvB, h, Bool.and_eq_true, decide_eq_true_eq] at k
  exact k.1
theorem dv_uv {c : UInt8} {n : Nat} (h : uv c = some n) : dvI (c.toNat : Int) = some (n : Int) := by
  have k := all256 dvB dvB_k c
  unfold dvB at k
  cases hd : dvI (c.toNat : Int) with
  | none => rw [hd, h] at k; cases k
  | some x =>
    rw [hd, h] at k
    simp only [Bool.and_eq_true, decide_eq_true_eq] at k
    rw [k.2]
/-- What it comes to: an error, or the number. -/
def puS : Int → List UInt8 → (Int × Int × Unit) ⊕ (Int × Unit)
  | n, [] => .inr (n, ())
  | n, c :: r => match dvI (c.toNat : Int) with
    | none => .inl (0, 2, ())
    | some x => if 16 ≤ x then .inl (0, 2, ()) else if 4294967295 < n * 16 + x then .inl (4294967295, 1, ()) else puS (n * 16 + x) r
theorem puS_rng : ∀ (l : List UInt8) (n : Int), 0 ≤ n → n ≤ 4294967295 → (∀ v u, puS n l = .inr (v, u) → 0 ≤ v ∧ v ≤ 4294967295) ∧ (∀ v e u, puS n l = .inl (v, e, u) → (v = 0 ∧ e = 2) ∨ (v = 4294967295 ∧ e = 1))
  | [], n, h0, h1 => ⟨fun v u h => (by cases h; exact ⟨h0, h1⟩), fun v e u h => (by cases h)⟩
  | c :: r, n, h0, h1 => by
    unfold puS
    cases hd : dvI (c.toNat : Int) with
    | none => exact ⟨fun v u h => (by cases h), fun v e u h => (by cases h; exact .inl ⟨rfl, rfl⟩)⟩
    | some x =>
      have hx := dv_rng hd
      simp only
      split
      · exact ⟨fun v u h => (by cases h), fun v e u h => (by cases h; exact .inl ⟨rfl, rfl⟩)⟩
      · split
        · exact ⟨fun v u h => (by cases h), fun v e u h => (by cases h; exact .inr ⟨rfl, rfl⟩)⟩
        · exact puS_rng r (n * 16 + x) (by omega) (by omega)
theorem valU_ge : ∀ (l : List UInt8) (a m : Nat), valU a l = some m → a ≤ m
  | [], a, m, h => by cases h; exact Nat.le_refl _
  | c :: r, a, m, h => by
    simp only [valU] at h
    cases hc : uv c with
    | none => rw [hc] at h; cases h
    | some x => rw [hc] at h; have := valU_ge r _ m h; omega
theorem puS_val : ∀ (l : List UInt8) (a m : Nat), valU a l = some m → m ≤ 4294967295 → puS (a : Int) l = .inr ((m : Int), ())
  | [], a, m, h, _ => by cases h; rfl
  | c :: r, a, m, h, hm => by
    simp only [valU] at h
    cases hc : uv c with
    | none => rw [hc] at h; cases h
    | some x =>
      rw [hc] at h
      have hx := (dgu_uv hc).1
      have hge := valU_ge r _ m h
      unfold puS
      rw [dv_uv hc]
      simp only
      rw [if_neg (by omega), if_neg (by omega)]
      have := puS_val r (16 * a + x) m h hm
      rw [show ((16 * a + x : Nat) : Int) = (a : Int) * 16 + (x : Int) by omega] at this
      exact this
end Go.Proofs.YtmfcepdbpdihgaaGreatDoor.W
/- What is unescaped. -/
set_option linter.unusedVariables false
set_option linter.unusedSimpArgs false
set_option maxRecDepth 100000
namespace Go.Proofs.YtmfcepdbpdihgaaGreatDoor.W
open Go Go.Ae Go.Pl
theorem pc6 (s0 d : List UInt8) (n N i c : Int) : C119_c6 (16, false, s0, 1152921504606846976, 4294967295, false, n, c, d, N, i, false, ()) =
    some (match dvI c with | some x => .inr (.inl (16, false, s0, 1152921504606846976, 4294967295, false, n, x, d, N, i, ())) | none => .inr (.inr (0, 2, ()))) := by
  have h150 : ∀ c : Int, C150 (c, ()) = some (intBits BinOp.or IntKind.u8 c 32, ()) := fun c => rfl
  simp only [C119_c6, F119_c6, C119_c5, F119_c5, C119_c4, F119_c4, h150, dvI, Option.bind_some, cond_false]
  cases decide (48 ≤ c) <;> cases decide (c ≤ 57) <;> cases decide (97 ≤ intBits BinOp.or IntKind.u8 c 32) <;> cases decide (intBits BinOp.or IntKind.u8 c 32 ≤ 122) <;> rfl
def puR (s0 : List UInt8) : (Int × Int × Unit) ⊕ (Int × Unit) → (List UInt8 × Bool × Int × Unit) ⊕ (Int × Int × Unit)
  | .inl (v, e, _) => .inr (v, e, ())
  | .inr (n, _) => .inl (s0, false, n, ())
theorem pstep (s0 pre r : List UInt8) (c : UInt8) (n : Int) (h0 : 0 ≤ n) (h1 : n ≤ 4294967295) (hl : pre.length + r.length ≤ 1000000000) :
    F119_l0 C119_c6 (16, false, s0, 1152921504606846976, 4294967295, false, n, pre ++ c :: r, ((pre ++ c :: r).length : Int), (pre.length : Int), ()) =
      some (match dvI (c.toNat : Int) with
        | none => .inr (.inr (0, 2, ()))
        | some x => if 16 ≤ x then .inr (.inr (0, 2, ())) else if 4294967295 < n * 16 + x then .inr (.inr (4294967295, 1, ())) else
            .inl (16, false, s0, 1152921504606846976, 4294967295, false, n * 16 + x, pre ++ c :: r, ((pre ++ c :: r).length : Int), ((pre.length + 1 : Nat) : Int), ())) := by
  have hi : decide ((pre.length : Int) < ((pre ++ c :: r).length : Int)) = true := by simp; omega
  have hi0 : decide (0 ≤ (pre.length : Int)) = true := by simp
  have hw : IntKind.i64.wrap ((pre.length : Int) + 1) = ((pre.length + 1 : Nat) : Int) := wrN _ (by omega)
  have hg : (pre ++ c :: r).getD ((pre.length : Int)).toNat 0 = c := by rw [Int.toNat_natCast]; exact gd rfl
  have w16 : IntKind.u8.wrap 16 = 16 := by decide
  have w16' : IntKind.u64.wrap 16 = 16 := by decide
  simp only [F119_l0, hi, hi0, hg, pc6, Option.bind_some, cond_true, Bool.and_self]
  have key : ∀ b : Bool, (bif b then (Sum.elim (fun val => some (Sum.inl (val.fst, val.snd.fst, val.snd.snd.fst, val.snd.snd.snd.fst, val.snd.snd.snd.snd.fst, val.snd.snd.snd.snd.snd.fst, val.snd.snd.snd.snd.snd.snd.fst, val.snd.snd.snd.snd.snd.snd.snd.fst, val.snd.snd.snd.snd.snd.snd.snd.snd.fst, val.snd.snd.snd.snd.snd.snd.snd.snd.snd.fst, ()))) (fun _ => none) (.inl ((0 : Int), false, s0, (0 : Int), (0 : Int), false, (0 : Int), pre, (0 : Int), (0 : Int), ()) : (Int × Bool × List UInt8 × Int × Int × Bool × Int × List UInt8 × Int × Int × Unit) ⊕ Unit) : Option ((Int × Bool × List UInt8 × Int × Int × Bool × Int × List UInt8 × Int × Int × Unit) ⊕ Unit)) else none) = none ∨ True := fun _ => .inr trivial
  clear key
  cases hd : dvI (c.toNat : Int) with
  | none => simp only [Sum.elim_inr, Bool.cond_self]
  | some x =>
    have hx := dv_rng hd
    have wx : IntKind.u64.wrap x = x := by rw [IntKind.wrap_u64]; omega
    have wn : IntKind.u64.wrap (n * 16) = n * 16 := by rw [IntKind.wrap_u64]; omega
    have ws : IntKind.u64.wrap (n * 16 + x) = n * 16 + x := by rw [IntKind.wrap_u64]; omega
    have c1 : decide (n ≥ 1152921504606846976) = false := by simp; omega
    have c2 : decide (n * 16 + x < n * 16) = false := by simp; omega
    simp only [Sum.elim_inr, Sum.elim_inl, w16, w16', wx, wn, ws, c1, c2, cond_false, hw, Bool.cond_self]
    by_cases h16 : 16 ≤ x
    · have d1 : decide (x ≥ 16) = true := by simp [h16]
      rw [d1, if_pos h16]; rfl
    · have d1 : decide (x ≥ 16) = false := by simp; omega
      rw [d1, if_neg h16, cond_false]
      by_cases hm : 4294967295 < n * 16 + x
      · have d2 : decide (n * 16 + x > 4294967295) = true := by simp [hm]
        rw [d2, if_pos hm]; rfl
      · have d2 : decide (n * 16 + x > 4294967295) = false := by simp; omega
        rw [d2, if_neg hm]; rfl
theorem prun16 (s0 : List UInt8) : ∀ (r pre : List UInt8) (n : Int) (N : Int) (m : Nat), N = ((pre ++ r).length : Int) → 0 ≤ n → n ≤ 4294967295 → pre.length + r.length ≤ 1000000000 → r.length < m →
    loopN (F119_l0 C119_c6) m (16, false, s0, 1152921504606846976, 4294967295, false, n, pre ++ r, N, (pre.length : Int), ()) = some (puR s0 (puS n r))
  | _, _, _, _, 0, _, _, _, _, hm => by omega
  | [], pre, n, N, m + 1, hN, h0, h1, hl, hm => by
    subst hN
    refine loopN_inr ?_
    have hi : decide ((pre.length : Int) < (pre.length : Int)) = false := by simp
    simp only [F119_l0, List.append_nil, hi, cond_false, puS, puR]
  | c :: r, pre, n, N, m + 1, hN, h0, h1, hl, hm => by
    subst hN
    simp only [List.length_cons] at hl hm
    have hs := pstep s0 pre r c n h0 h1 (by omega)
    unfold puS
    cases hd : dvI (c.toNat : Int) with
    | none => rw [hd] at hs; rw [loopN_inr hs]; rfl
    | some x =>
      have hx := dv_rng hd
      rw [hd] at hs
      simp only at hs ⊢
      by_cases h16 : 16 ≤ x
      · rw [if_pos h16] at hs ⊢; rw [loopN_inr hs]; rfl
      · rw [if_neg h16] at hs ⊢
        by_cases hmx : 4294967295 < n * 16 + x
        · rw [if_pos hmx] at hs ⊢; rw [loopN_inr hs]; rfl
        · rw [if_neg hmx] at hs ⊢
          rw [loopN_inl hs, shift, show ((pre.length + 1 : Nat) : Int) = ((pre ++ [c]).length : Int) by simp]
          exact prun16 s0 r (pre ++ [c]) (n * 16 + x) _ m (by simp) (by omega) (by omega) (by simp; omega) (by omega)
theorem pu16 (d : List UInt8) (hd : d ≠ []) (hl : d.length ≤ 1000000) : C119 (d, 16, 32, ()) = some (puS 0 d) := by
  have h := prun16 d d [] 0 (d.length : Int) big (by simp) (by omega) (by omega) (by simp; omega) (by unfold big; omega)
  have h' : C119_l0 (16, false, d, 1152921504606846976, 4294967295, false, 0, d, (d.length : Int), 0, ()) = _ := h
  have hn : (d == []) = false := by simpa using hd
  have e1 : decide ((2 : Int) ≤ 16) = true := by decide
  have e2 : decide ((16 : Int) ≤ 36) = true := by decide
  have e3 : ((16 : Int) == 0) = false := rfl
  have e4 : ((32 : Int) == 0) = false := rfl
  have e5 : decide ((32 : Int) < 0) = false := by decide
  have e6 : decide ((32 : Int) > 64) = false := by decide
  have e7 : ((16 : Int) == 10) = false := rfl
  have e8 : ((16 : Int) == 16) = true := rfl
  have e9 : decide (0 ≤ IntKind.u64.wrap 32) = true := by decide
  have e10 : decide (d.length ≤ 9223372036854775807) = true := by simp; omega
  have e11 : IntKind.u64.wrap (IntKind.u64.wrap (1 * 2 ^ min (IntKind.u64.wrap 32).toNat IntKind.u64.bits) - 1) = 4294967295 := by decide
  simp only [C119, F119, C119_c3, F119_c3, C119_c8, F119_c8, C119_c7, F119_c7, hn, e1, e2, e3, e4, e5, e6, e7, e8, e9, e10, e11, h', Option.bind_some, cond_true, cond_false, Sum.elim_inl]
  cases puS 0 d with
  | inl x => obtain ⟨v, e, u⟩ := x; rfl
  | inr x => obtain ⟨v, u⟩ := x; rfl
/-- Behind the sign: what is within 32 bits. -/
def rngS (neg : Bool) (u : Int) : (Int × Int × Unit) ⊕ (Int × Unit) :=
  bif neg then (if 2147483648 < u then .inl (-2147483648, 1, ()) else .inr (-u, ())) else (if 2147483648 ≤ u then .inl (2147483647, 1, ()) else .inr (u, ()))
theorem rc0 (neg : Bool) (u : Int) (h0 : 0 ≤ u) (h1 : u ≤ 4294967295) : C90_c0 (32, neg, u, ()) = some (rngS neg u) := by
  have e1 : decide (0 ≤ IntKind.u64.wrap (IntKind.i64.wrap (32 - 1))) = true := by decide
  have e2 : IntKind.u64.wrap (1 * 2 ^ min (IntKind.u64.wrap (IntKind.i64.wrap (32 - 1))).toNat IntKind.u64.bits) = 2147483648 := by decide
  have e3 : IntKind.i64.wrap (IntKind.u64.wrap (2147483648 - 1)) = 2147483647 := by decide
  have e4 : IntKind.i64.wrap (0 - IntKind.i64.wrap 2147483648) = -2147483648 := by decide
  have e5 : IntKind.i64.wrap u = u := w64 (by omega) (by omega)
  have e6 : IntKind.i64.wrap (0 - u) = -u := by rw [w64] <;> omega
  simp only [C90_c0, F90_c0, e1, e2, e3, e4, e5, e6, cond_true]
  cases neg with
  | false =>
    by_cases hu : 2147483648 ≤ u
    · have d1 : decide (u ≥ 2147483648) = true := by simp [hu]
      simp [d1, rngS, hu]
    · have d1 : decide (u ≥ 2147483648) = false := by simp; omega
      simp only [d1, rngS, Bool.not_false, cond_true, cond_false]
      rw [if_neg hu]
  | true =>
    by_cases hu : 2147483648 < u
    · have d1 : decide (u > 2147483648) = true := by simp [hu]
      simp [d1, rngS, hu]
    · have d1 : decide (u > 2147483648) = false := by simp; omega
      simp only [d1, rngS, Bool.not_true, cond_true, cond_false]
      rw [if_neg hu]
/-- ParseInt at base 16, 32 bits, behind the sign. -/
def piS (neg : Bool) (d : List UInt8) : (Int × Int × Unit) ⊕ (Int × Unit) :=
  if d = [] then .inl (0, 2, ()) else match puS 0 d with
    | .inl (v, e, _) => if e = 1 then rngS neg v else .inl (0, e, ())
    | .inr (u, _) => rngS neg u
theorem rc1 (neg : Bool) (d : List UInt8) (hl : d.length ≤ 1000000) : C90_c1 (d, 16, 32, neg, ()) = some (piS neg d) := by
  have e4 : ((32 : Int) == 0) = false := rfl
  by_cases hd : d = []
  · subst hd
    simp only [C90_c1, F90_c1, piS, if_true]
    rfl
  · have hp := pu16 d hd hl
    have hr := puS_rng d 0 (by omega) (by omega)
    simp only [C90_c1, F90_c1, hp, piS, if_neg hd, e4, Option.bind_some, cond_false]
    cases hq : puS 0 d with
    | inl x =>
      obtain ⟨v, e, u⟩ := x
      rcases hr.2 v e u hq with ⟨rfl, rfl⟩ | ⟨rfl, rfl⟩
      · rfl
      · simp only [Sum.elim_inl, rc0 neg 4294967295 (by omega) (by omega), Option.bind_some, if_true]
        have : ((1 : Int) == 1) = true := rfl
        simp only [this, Bool.not_true, cond_false]
        cases rngS neg 4294967295 <;> rfl
    | inr x =>
      obtain ⟨v, u⟩ := x
      have := hr.1 v u hq
      simp only [Sum.elim_inr, rc0 neg v this.1 this.2, Option.bind_some]
      cases rngS neg v <;> rfl
theorem piS_rng (neg : Bool) (d : List UInt8) : (∀ v e u, piS neg d = .inl (v, e, u) → e = 1 ∨ e = 2) ∧ (∀ v u, piS neg d = .inr (v, u) → -2147483648 ≤ v ∧ v ≤ 2147483647) := by
  have hr := puS_rng d 0 (by omega) (by omega)
  have hg : ∀ u : Int, 0 ≤ u → (∀ v e w, rngS neg u = .inl (v, e, w) → e = 1 ∨ e = 2) ∧ (∀ v w, rngS neg u = .inr (v, w) → -2147483648 ≤ v ∧ v ≤ 2147483647) := by
    intro u hu
    unfold rngS
    cases neg with
    | false =>
      simp only [cond_false]
      split
      · exact ⟨fun v e w h => (by cases h; exact .inl rfl), fun v w h => (by cases h)⟩
      · exact ⟨fun v e w h => (by cases h), fun v w h => (by cases h; omega)⟩
    | true =>
      simp only [cond_true]
      split
      · exact ⟨fun v e w h => (by cases h; exact .inl rfl), fun v w h => (by cases h)⟩
      · exact ⟨fun v e w h => (by cases h), fun v w h => (by cases h; omega)⟩
  unfold piS
  split
  · exact ⟨fun v e w h => (by cases h; exact .inr rfl), fun v w h => (by cases h)⟩
  · split
    · rename_i v e u hq
      rcases hr.2 v e u hq with ⟨rfl, rfl⟩ | ⟨rfl, rfl⟩
      · rw [if_neg (by decide)]; exact ⟨fun v e w h => (by cases h; exact .inr rfl), fun v w h => (by cases h)⟩
      · rw [if_pos rfl]; exact hg _ (by omega)
    · rename_i u w hq
      exact hg u (hr.1 u w hq).1
def piT (d : List UInt8) : (Int × Int × Unit) ⊕ (Int × Unit) := match d with
  | [] => .inl (0, 2, ())
  | c :: r => bif c.toNat == 43 then piS false r else bif c.toNat == 45 then piS true r else piS false (c :: r)
theorem pi16 (d : List UInt8) (hl : d.length ≤ 1000000) : C90 (d, 16, 32, ()) = some (piT d) := by
  cases d with
  | nil => rfl
  | cons c r =>
    simp only [List.length_cons] at hl
    have hn : ((c :: r) == ([] : List UInt8)) = false := rfl
    have e0 : decide ((0 : Int) < ((c :: r).length : Int)) = true := by simp
    have e1 : decide ((1 : Int) ≤ ((c :: r).length : Int)) = true := by simp; omega
    have hg : (c :: r).getD 0 0 = c := rfl
    have hdr : List.drop 1 (c :: r) = r := rfl
    have b43 : (((c.toNat : Nat) : Int) == 43) = (c.toNat == 43) := by
      by_cases h : c.toNat = 43
      · rw [h]; rfl
      · rw [ibF (by omega)]; simp [h]
    have b45 : (((c.toNat : Nat) : Int) == 45) = (c.toNat == 45) := by
      by_cases h : c.toNat = 45
      · rw [h]; rfl
      · rw [ibF (by omega)]; simp [h]
    simp only [C90, F90, hn, e0, e1, hg, hdr, b43, b45, rc1 false r (by omega), rc1 true r (by omega), rc1 false (c :: r) (by simp; omega), piT, Option.bind_some, cond_true, cond_false]
    cases c.toNat == 43 with
    | true =>
      simp only [cond_true]
      cases piS false r with
      | inl x => obtain ⟨v, e, u⟩ := x; rfl
      | inr x => obtain ⟨v, u⟩ := x; rfl
    | false =>
      cases c.toNat == 45 with
      | true =>
        simp only [cond_true, cond_false]
        cases piS true r with
        | inl x => obtain ⟨v, e, u⟩ := x; rfl
        | inr x => obtain ⟨v, u⟩ := x; rfl
      | false =>
        simp only [cond_false]
        cases piS false (c :: r) with
        | inl x => obtain ⟨v, e, u⟩ := x; rfl
        | inr x => obtain ⟨v, u⟩ := x; rfl
theorem piT_rng (d : List UInt8) : (∀ v e u, piT d = .inl (v, e, u) → e = 1 ∨ e = 2) ∧ (∀ v u, piT d = .inr (v, u) → -2147483648 ≤ v ∧ v ≤ 2147483647) := by
  cases d with
  | nil => exact ⟨fun v e w h => (by cases h; exact .inr rfl), fun v w h => (by cases h)⟩
  | cons c r =>
    unfold piT
    simp only
    cases c.toNat == 43 with
    | true => exact piS_rng false r
    | false =>
      cases c.toNat == 45 with
      | true => exact piS_rng true r
      | false => exact piS_rng false (c :: r)
theorem piT_val {d : List UInt8} {n : Nat} (h : hexV d = some n) : piT d = .inr ((n : Int), ()) := by
  obtain ⟨hu, hl, hn⟩ := hexV_back h
  have hv := valU_hex 15 n (by omega)
  change valU 0 (hexU n) = some n at hv
  rw [hu] at hv
  have hp := puS_val d 0 n hv (by omega)
  cases d with
  | nil =>
    have : hexU n ≠ [] := by
      unfold hexU
      by_cases h2 : n < 16
      · rw [hexF_lo _ _ _ h2]; simp
      · rw [hexF_hi _ _ _ (by omega)]; simp
    exact absurd hu this
  | cons c r =>
    have hc : ∃ x, uv c = some x := by
      simp only [valU] at hv
      cases hc : uv c with
      | none => rw [hc] at hv; cases hv
      | some x => exact ⟨x, rfl⟩
    obtain ⟨x, hc⟩ := hc
    have b43 : (c.toNat == 43) = false := by
      cases hb : c.toNat == 43 with
      | false => rfl
      | true => have : c.toNat = 43 := by simpa using hb
                unfold uv at hc; rw [this] at hc; cases hc
    have b45 : (c.toNat == 45) = false := by
      cases hb : c.toNat == 45 with
      | false => rfl
      | true => have : c.toNat = 45 := by simpa using hb
                unfold uv at hc; rw [this] at hc; cases hc
    unfold piT
    simp only [b43, b45, cond_false]
    unfold piS
    rw [if_neg (by simp)]
    have hp' : puS 0 (c :: r) = .inr ((n : Int), ()) := hp
    rw [hp']
    simp only [rngS, cond_false]
    rw [if_neg (by omega)]
/-- The character that digits are. -/
theorem c27 (d : List UInt8) (hl : d.length ≤ 1000000) : ∃ r, C27 (d, ()) = some (r, ()) ∧ (match hexV d with | some n => if plainB (n : Int) = true then r < 0 else r = (n : Int) | none => r < 0) := by
  have hrng := piT_rng d
  have h63 : C63 (d, 16, 32, ()) = some (match piT d with | .inl (v, e, _) => .inl (v, ()) | .inr (v, _) => .inr (v, ())) := by
    simp only [C63, F63, pi16 d hl, Option.bind_some]
    cases hp : piT d with
    | inl x =>
      obtain ⟨v, e, u⟩ := x
      have he := hrng.1 v e u hp
      have ht : C91 ([80, 97, 114, 115, 101, 73, 110, 116], d, 16, 32, e, ()) = some () := by
        rw [C91, if_pos ⟨(show d.length ≤ 281474976710656 by omega), he⟩]
      simp only [Sum.elim_inl, ht, Option.bind_some]
    | inr x => obtain ⟨v, u⟩ := x; rfl
  cases hp : piT d with
  | inl x =>
    obtain ⟨v, e, u⟩ := x
    rw [hp] at h63
    refine ⟨-1, ?_, ?_⟩
    · simp only [C27, F27, h63, Option.bind_some, Sum.elim_inl]
    · cases hv : hexV d with
      | none => simp
      | some n => rw [piT_val hv] at hp; cases hp
  | inr x =>
    obtain ⟨v, u⟩ := x
    have hvr := hrng.2 v u hp
    rw [hp] at h63
    by_cases h6 : d.length > 6
    · have e6 : decide ((d.length : Int) > 6) = true := by simp; omega
      refine ⟨-1, ?_, ?_⟩
      · simp only [C27, F27, h63, e6, Option.bind_some, Sum.elim_inr, cond_true]
      · cases hv : hexV d with
        | none => simp
        | some n => have := (hexV_back hv).2.1; omega
    · have e6 : decide ((d.length : Int) > 6) = false := by simp; omega
      have hh := c34 v (by omega) (by omega)
      by_cases he : (bif decide (v < 0) then [45] else []) ++ hexU v.natAbs = d
      · have eb : (((bif decide (v < 0) then [45] else []) ++ hexU v.natAbs) == d) = true := by rw [he]; simp
        refine ⟨bif plainB (IntKind.i32.wrap v) then -1 else IntKind.i32.wrap v, ?_, ?_⟩
        · simp only [C27, F27, h63, e6, hh, eb, c24, Option.bind_some, Sum.elim_inr, cond_false, Bool.not_true]
          cases plainB (IntKind.i32.wrap v) <;> rfl
        · rw [w32 (n := v) (by omega) (by omega)]
          by_cases hneg : v < 0
          · have d1 : decide (v < 0) = true := by simp [hneg]
            rw [d1] at he
            have hnone : hexV d = none := by
              cases hv : hexV d with
              | none => rfl
              | some n => have := piT_val hv; rw [hp] at this; simp only [Sum.inr.injEq, Prod.mk.injEq] at this; omega
            rw [hnone]
            cases plainB v
            · exact hneg
            · exact (by decide : (-1 : Int) < 0)
          · have d1 : decide (v < 0) = false := by simp; omega
            rw [d1] at he
            simp only [cond_false, List.nil_append] at he
            have hsome : hexV d = some v.natAbs := by
              rw [← he]
              exact hexV_of (by omega) (by rw [he]; omega)
            rw [hsome]
            simp only
            rw [show ((v.natAbs : Nat) : Int) = v by omega]
            cases plainB v
            · simp
            · simp
      · have eb : (((bif decide (v < 0) then [45] else []) ++ hexU v.natAbs) == d) = false := by simpa using he
        refine ⟨-1, ?_, ?_⟩
        · simp only [C27, F27, h63, e6, hh, eb, Option.bind_some, Sum.elim_inr, cond_false, cond_true, Bool.not_false]
        · cases hv : hexV d with
          | none => simp
          | some n =>
            have h1 := piT_val hv
            rw [hp] at h1
            simp only [Sum.inr.injEq, Prod.mk.injEq, and_true] at h1
            obtain ⟨h2, _, h3⟩ := hexV_back hv
            refine absurd ?_ he
            have d1 : decide (v < 0) = false := by simp; omega
            rw [d1, h1]
            simpa using h2
end Go.Proofs.YtmfcepdbpdihgaaGreatDoor.W
/- What is unescaped, and what the document makes of it. -/
set_option linter.unusedVariables false
set_option linter.unusedSimpArgs false
set_option maxRecDepth 100000
namespace Go.Proofs.YtmfcepdbpdihgaaGreatDoor.W
open Go Go.Ae Go.Pl
def e125 (x : UInt8) : Bool := x == 125
theorem iB (s : List UInt8) (c : UInt8) : Lib.indexByte s c = fnd (fun x => x == c) s := by
  induction s with
  | nil => rfl
  | cons b r ih =>
    unfold Lib.indexByte fnd
    by_cases h : (b == c) = true
    · simp [h, fp]
    · simp only [Bool.not_eq_true] at h
      simp only [h, ih, fp, cond_false, List.length_cons, fnd]
      simp only [Bool.false_eq_true, if_false]
      by_cases h2 : fp (fun x => x == c) r < r.length
      · simp only [if_pos h2, if_pos (show fp (fun x => x == c) r + 1 < r.length + 1 by omega)]
        rw [if_neg (by simp)]
        rfl
      · simp [h2]
/-- A text, cut at the first of a byte. -/
def cutAt (c : UInt8) (s : List UInt8) : List UInt8 × List UInt8 × Bool :=
  if fp (fun x => x == c) s < s.length then (s.take (fp (fun x => x == c) s), s.drop (fp (fun x => x == c) s + 1), true) else (s, [], false)
theorem c115 (s : List UInt8) (c : UInt8) : C115 (s, (c.toNat : Int), ()) = some (fnd (fun x => x == c) s, ()) := by
  simp only [C115, F115, C148, Option.bind_some]
  rw [← iB]
  congr 2
  simp
theorem c89_1 (s : List UInt8) (c : UInt8) : C89 (s, [c], ()) = some (fnd (fun x => x == c) s, ()) := by
  have e0 : (((1 : Nat) : Int) == 0) = false := rfl
  have e1 : (((1 : Nat) : Int) == 1) = true := rfl
  have e2 : decide (0 < ((1 : Nat) : Int)) = true := rfl
  have hg : [c].getD 0 0 = c := rfl
  simp only [C89, F89, C89_c0, F89_c0, List.length_cons, List.length_nil, Nat.zero_add, e0, e1, e2, hg, c115, Option.bind_some, cond_true, cond_false]
  cases hx : ([c] == s) with
  | false => rfl
  | true =>
    have hs : [c] = s := by simpa using hx
    subst hs
    simp [fnd, fp]
theorem c26_1 (s : List UInt8) (c : UInt8) (hl : s.length ≤ 1000000000) : C26 (s, [c], ()) = some ((cutAt c s).1, (cutAt c s).2.1, (cutAt c s).2.2, ()) := by
  simp only [C26, F26, C62, F62, c89_1, Option.bind_some]
  unfold cutAt fnd
  by_cases h : fp (fun x => x == c) s < s.length
  · have e1 : decide (((fp (fun x => x == c) s : Nat) : Int) ≥ 0) = true := by simp
    have e2 : decide (0 ≤ ((fp (fun x => x == c) s : Nat) : Int)) = true := by simp
    have e3 : decide (((fp (fun x => x == c) s : Nat) : Int) ≤ (s.length : Int)) = true := by simp; omega
    have hw : IntKind.i64.wrap (((fp (fun x => x == c) s : Nat) : Int) + (([c].length : Nat) : Int)) = ((fp (fun x => x == c) s + 1 : Nat) : Int) := wrN _ (by omega)
    have e4 : decide (0 ≤ ((fp (fun x => x == c) s + 1 : Nat) : Int)) = true := by simp; omega
    have e5 : decide (((fp (fun x => x == c) s + 1 : Nat) : Int) ≤ (s.length : Int)) = true := by simp; omega
    simp only [if_pos h, e1, e2, e3, hw, e4, e5, cond_true, Bool.and_self, Int.toNat_natCast, Option.bind_some]
  · have e1 : decide ((-1 : Int) ≥ 0) = false := by decide
    simp only [if_neg h, e1, cond_false, Option.bind_some]
def hasP (p s : List UInt8) : Bool := s.take p.length == p
theorem hasP_len {p s : List UInt8} (h : hasP p s = true) : p.length ≤ s.length ∧ s = p ++ s.drop p.length := by
  have h' : s.take p.length = p := by simpa [hasP] using h
  have hl := congrArg List.length h'
  rw [List.length_take] at hl
  exact ⟨by omega, by conv => lhs; rw [← List.take_append_drop p.length s, h']⟩
theorem c82 (s p : List UInt8) : C82 (s, p, ()) = some (hasP p s, ()) := by
  simp only [C82, F82]
  by_cases h : p.length ≤ s.length
  · have e1 : decide ((s.length : Int) ≥ (p.length : Int)) = true := by simp; omega
    have e2 : decide (0 ≤ (p.length : Int)) = true := by simp
    have e3 : decide ((p.length : Int) ≤ (s.length : Int)) = true := by simp; omega
    simp only [e1, e2, e3, cond_true, Bool.and_self, Int.toNat_natCast, hasP]
  · have e1 : decide ((s.length : Int) ≥ (p.length : Int)) = false := by simp; omega
    have : hasP p s = false := by
      cases hh : hasP p s with
      | false => rfl
      | true => exact absurd (hasP_len hh).1 h
    simp only [e1, cond_false, this]
theorem c25 (s p : List UInt8) : C25 (s, p, ()) = some (if hasP p s = true then (s.drop p.length, true, ()) else (s, false, ())) := by
  simp only [C25, F25, C61, F61, c82, Option.bind_some]
  cases h : hasP p s with
  | false => rfl
  | true =>
    have hl := (hasP_len h).1
    have e2 : decide (0 ≤ (p.length : Int)) = true := by simp
    have e3 : decide ((p.length : Int) ≤ (s.length : Int)) = true := by simp; omega
    simp only [Bool.not_true, cond_false, e2, e3, cond_true, Bool.and_self, Int.toNat_natCast, Option.bind_some, if_true]
/-- An escaped character at a text's beginning, and what stands behind it. -/
def escAt (s : List UInt8) : Option (Int × List UInt8) :=
  if hasP [92, 120, 123] s = true then
    (if fp e125 (s.drop 3) < (s.drop 3).length then
      (match hexV ((s.drop 3).take (fp e125 (s.drop 3))) with
        | some n => if plainB (n : Int) = true then none else some ((n : Int), (s.drop 3).drop (fp e125 (s.drop 3) + 1))
        | none => none)
    else none)
  else none
theorem escAt_len {s : List UInt8} {v : Int} {t : List UInt8} (h : escAt s = some (v, t)) : t.length < s.length := by
  unfold escAt at h
  split at h
  · rename_i hp
    have hl := (hasP_len hp).1
    simp only [List.length_cons, List.length_nil] at hl
    split at h
    · split at h
      · split at h
        · cases h
        · simp only [Option.some.injEq, Prod.mk.injEq] at h
          obtain ⟨_, rfl⟩ := h
          simp only [List.length_drop]; omega
      · cases h
    · cases h
  · cases h
def unesc : Nat → List UInt8 → Option (List Int)
  | 0, _ => none
  | _ + 1, [] => some []
  | n + 1, c :: r => bif plainB (cv c) then (unesc n r).map (cv c :: ·) else match escAt (c :: r) with
    | some (v, t) => (unesc n t).map (v :: ·)
    | none => none
theorem cv32 (c : UInt8) : IntKind.i32.wrap ((c.toNat : Nat) : Int) = cv c := by have := c.toNat_lt; rw [w32 (by omega) (by omega)]; rfl
theorem ustep (c : UInt8) (r : List UInt8) (out : List Int) (hl : r.length ≤ 900000) (ho : out.length ≤ 1000000) :
    F9_l0 C24 C25 C26 C27 (c :: r, out, ()) = some (bif plainB (cv c) then .inl (r, out ++ [cv c], ()) else match escAt (c :: r) with
      | some (v, t) => .inl (t, out ++ [v], ())
      | none => .inr (.inr ([], false, ()))) := by
  have e0 : ((c :: r) == ([] : List UInt8)) = false := rfl
  have e1 : decide ((0 : Int) < ((c :: r).length : Int)) = true := by simp
  have e2 : decide ((1 : Int) ≤ ((c :: r).length : Int)) = true := by simp; omega
  have hg : (c :: r).getD 0 0 = c := rfl
  have eo : decide (out.length + 1 ≤ 140737488355328 / 4) = true := by simp; omega
  have hdr : List.drop 1 (c :: r) = r := rfl
  simp only [F9_l0, e0, e1, e2, hg, hdr, cv32, c24, List.length_cons, List.length_nil, Nat.zero_add, eo, Option.bind_some, cond_true, Bool.not_false]
  cases hp : plainB (cv c) with
  | true =>
    have e1' : decide ((0 : Int) < ((r.length + 1 : Nat) : Int)) = true := by simp
    have e2' : decide ((1 : Int) ≤ ((r.length + 1 : Nat) : Int)) = true := by simp; omega
    simp only [cond_true, e1', e2']
  | false =>
    have e1' : decide ((0 : Int) < ((r.length + 1 : Nat) : Int)) = true := by simp
    simp only [cond_false, e1', cond_true]
    rw [c25]
    unfold escAt
    by_cases hh : hasP [92, 120, 123] (c :: r) = true
    · rw [if_pos hh, if_pos hh]
      have h3 : List.drop [92, 120, 123].length (c :: r) = List.drop 3 (c :: r) := rfl
      simp only [Option.bind_some, h3]
      have hl3 : ((c :: r).drop 3).length ≤ 900000 := by simp; omega
      generalize (c :: r).drop 3 = t at hl3
      rw [c26_1 t 125 (by omega)]
      simp only [Option.bind_some]
      have hc : (cutAt 125 t).1.length ≤ 1000000 := by
        unfold cutAt; split
        · simp; omega
        · simp; omega
      obtain ⟨x, hx, hxs⟩ := c27 (cutAt 125 t).1 hc
      rw [hx]
      simp only [Option.bind_some, Bool.not_true, cond_false]
      unfold cutAt at hxs ⊢
      have hfe : (fun x : UInt8 => x == 125) = e125 := rfl
      rw [hfe] at hxs ⊢
      by_cases hf : fp e125 t < t.length
      · simp only [if_pos hf] at hxs ⊢
        simp only [Bool.not_true, cond_false]
        cases hv : hexV (t.take (fp e125 t)) with
        | none =>
          rw [hv] at hxs
          have d : decide (x < 0) = true := by simpa using hxs
          rw [d]; rfl
        | some n =>
          rw [hv] at hxs
          simp only at hxs ⊢
          by_cases hpl : plainB (n : Int) = true
          · rw [if_pos hpl] at hxs ⊢
            have d : decide (x < 0) = true := by simpa using hxs
            rw [d]; rfl
          · rw [if_neg hpl] at hxs ⊢
            subst hxs
            have d : decide ((n : Int) < 0) = false := by simp
            rw [d]; rfl
      · simp only [if_neg hf, Bool.not_false, cond_true]
    · rw [if_neg hh, if_neg hh]
      simp only [Option.bind_some]
      rw [c26_1 (c :: r) 125 (by simp; omega)]
      simp only [Option.bind_some]
      have hc : (cutAt 125 (c :: r)).1.length ≤ 1000000 := by
        unfold cutAt; split
        · simp; omega
        · simp; omega
      obtain ⟨x, hx, hxs⟩ := c27 (cutAt 125 (c :: r)).1 hc
      rw [hx]
      rfl
theorem urun : ∀ (n : Nat) (s : List UInt8) (out : List Int) (m : Nat), s.length < n → s.length < m → s.length ≤ 800000 → out.length + s.length ≤ 1000000 →
    loopN (F9_l0 C24 C25 C26 C27) m (s, out, ()) = some (match unesc n s with | some l => .inl (out ++ l, ()) | none => .inr ([], false, ()))
  | 0, _, _, _, hn, _, _, _ => by omega
  | _, _, _, 0, _, hm, _, _ => by omega
  | n + 1, [], out, m + 1, hn, hm, hl, ho => by
    refine loopN_inr ?_
    simp only [F9_l0, unesc, List.append_nil]
    rfl
  | n + 1, c :: r, out, m + 1, hn, hm, hl, ho => by
    simp only [List.length_cons] at hn hm hl ho
    have hs := ustep c r out (by omega) (by omega)
    unfold unesc
    cases hp : plainB (cv c) with
    | true =>
      rw [hp, cond_true] at hs
      rw [loopN_inl hs, urun n r (out ++ [cv c]) m (by omega) (by omega) (by omega) (by simp; omega), cond_true]
      cases unesc n r <;> simp
    | false =>
      rw [hp, cond_false] at hs
      rw [cond_false]
      cases he : escAt (c :: r) with
      | none => rw [he] at hs; rw [loopN_inr hs]
      | some x =>
        obtain ⟨v, t⟩ := x
        have ht := escAt_len he
        simp only [List.length_cons] at ht
        rw [he] at hs
        rw [loopN_inl hs, urun n t (out ++ [v]) m (by omega) (by omega) (by omega) (by simp; omega)]
        simp only
        cases unesc n t <;> simp
def fin2 : Option (List Int) → List UInt8 × Bool × Unit
  | some l => match strE l with | some e => (e, true, ()) | none => ([], false, ())
  | none => ([], false, ())
/-- What is unescaped. -/
def unE (s : List UInt8) : Option (List Int) := unesc (s.length + 1) s
theorem unesc_more : ∀ (n m : Nat) (s : List UInt8), s.length < n → s.length < m → unesc n s = unesc m s
  | 0, _, _, h, _ => by omega
  | _, 0, _, _, h => by omega
  | n + 1, m + 1, [], _, _ => rfl
  | n + 1, m + 1, c :: r, h1, h2 => by
    simp only [List.length_cons] at h1 h2
    unfold unesc
    rw [unesc_more n m r (by omega) (by omega)]
    cases plainB (cv c) with
    | true => rfl
    | false =>
      simp only [cond_false]
      cases he : escAt (c :: r) with
      | none => rfl
      | some x =>
        obtain ⟨v, t⟩ := x
        have ht := escAt_len he
        simp only [List.length_cons] at ht
        simp only
        rw [unesc_more n m t (by omega) (by omega)]
theorem unesc_len : ∀ (n : Nat) (s : List UInt8) (l : List Int), unesc n s = some l → l.length ≤ s.length
  | 0, _, _, h => by cases h
  | n + 1, [], l, h => by cases h; simp
  | n + 1, c :: r, l, h => by
    unfold unesc at h
    cases hp : plainB (cv c) with
    | true =>
      rw [hp, cond_true] at h
      obtain ⟨l', h1, rfl⟩ := Option.map_eq_some_iff.1 h
      have := unesc_len n r l' h1
      simp; omega
    | false =>
      rw [hp, cond_false] at h
      cases he : escAt (c :: r) with
      | none => rw [he] at h; cases h
      | some x =>
        obtain ⟨v, t⟩ := x
        rw [he] at h
        simp only at h
        obtain ⟨l', h1, rfl⟩ := Option.map_eq_some_iff.1 h
        have := unesc_len n t l' h1
        have := escAt_len he
        simp at *; omega
theorem c9 (s : List UInt8) (hl : s.length ≤ 800000) : C9 (s, ()) = some (fin2 (unE s)) := by
  have h := urun (s.length + 1) s [] big (by omega) (by unfold big; omega) hl (by simp; omega)
  have h' : C9_l0 (s, [], ()) = _ := h
  simp only [C9, F9, h', Option.bind_some]
  unfold unE fin2
  cases hu : unesc (s.length + 1) s with
  | none => rfl
  | some l =>
    have hll := unesc_len _ _ _ hu
    simp only [Sum.elim_inl, List.nil_append, c28 l (by omega), Option.bind_some]
    cases strE l <;> rfl
/-! ### the document's -/
theorem vstep (c : UInt8) (pre r : List UInt8) (n : Nat) (hn : n ≤ 100000000) (hl : pre.length + r.length ≤ 1000) :
    F30_l0 C30_c1 (pre ++ c :: r, (n : Int), (pre.length : Int), ()) = some (match uv c with
      | some x => .inl (pre ++ c :: r, ((16 * n + x : Nat) : Int), ((pre.length + 1 : Nat) : Int), ())
      | none => .inr (.inr (-1, ()))) := by
  have hc := c.toNat_lt
  have hi : decide ((pre.length : Int) < ((pre ++ c :: r).length : Int)) = true := by simp; omega
  have hi0 : decide (0 ≤ (pre.length : Int)) = true := by simp
  have hw : IntKind.i64.wrap ((pre.length : Int) + 1) = ((pre.length + 1 : Nat) : Int) := wrN _ (by omega)
  have hg : (pre ++ c :: r).getD ((pre.length : Int)).toNat 0 = c := by rw [Int.toNat_natCast]; exact gd rfl
  have w1 : IntKind.i64.wrap (16 * (n : Int)) = 16 * (n : Int) := w64 (by omega) (by omega)
  unfold uv
  by_cases h48 : 48 ≤ c.toNat
  · have d48 : decide (((c.toNat : Nat) : Int) ≥ 48) = true := by simp; omega
    have b48 : Nat.ble 48 c.toNat = true := Nat.ble_eq_true_of_le h48
    by_cases h57 : c.toNat ≤ 57
    · have d57 : decide (((c.toNat : Nat) : Int) ≤ 57) = true := by simp; omega
      have b57 : Nat.ble c.toNat 57 = true := Nat.ble_eq_true_of_le h57
      have w2 : IntKind.i64.wrap (IntKind.u8.wrap (((c.toNat : Nat) : Int) - 48)) = ((c.toNat : Nat) : Int) - 48 := by rw [wu8 (by omega) (by omega), w64 (by omega) (by omega)]
      have w3 : IntKind.i64.wrap (16 * (n : Int) + (((c.toNat : Nat) : Int) - 48)) = ((16 * n + (c.toNat - 48) : Nat) : Int) := by rw [w64] <;> omega
      simp only [F30_l0, C30_c1, F30_c1, hi, hi0, hg, hw, w1, w2, w3, d48, d57, b48, b57, cond_true, Bool.and_self, Option.bind_some, Sum.elim_inl]
    · have d57 : decide (((c.toNat : Nat) : Int) ≤ 57) = false := by simp; omega
      have b57 : Nat.ble c.toNat 57 = false := by rw [← Bool.not_eq_true, Nat.ble_eq]; exact h57
      by_cases h65 : 65 ≤ c.toNat
      · have d65 : decide (((c.toNat : Nat) : Int) ≥ 65) = true := by simp; omega
        have b65 : Nat.ble 65 c.toNat = true := Nat.ble_eq_true_of_le h65
        by_cases h70 : c.toNat ≤ 70
        · have d70 : decide (((c.toNat : Nat) : Int) ≤ 70) = true := by simp; omega
          have b70 : Nat.ble c.toNat 70 = true := Nat.ble_eq_true_of_le h70
          have w2 : IntKind.i64.wrap (IntKind.u8.wrap (((c.toNat : Nat) : Int) - 65)) = ((c.toNat : Nat) : Int) - 65 := by rw [wu8 (by omega) (by omega), w64 (by omega) (by omega)]
          have w3 : IntKind.i64.wrap (IntKind.i64.wrap (16 * (n : Int) + (((c.toNat : Nat) : Int) - 65)) + 10) = ((16 * n + (c.toNat - 55) : Nat) : Int) := by
            rw [w64 (n := 16 * (n : Int) + (((c.toNat : Nat) : Int) - 65)) (by omega) (by omega), w64 (by omega) (by omega)]; omega
          simp only [F30_l0, C30_c1, F30_c1, C30_c0, F30_c0, hi, hi0, hg, hw, w1, w2, w3, d48, d57, d65, d70, b48, b57, b65, b70, cond_true, cond_false, Bool.and_self, Bool.and_false, Option.bind_some, Sum.elim_inl]
        · have d70 : decide (((c.toNat : Nat) : Int) ≤ 70) = false := by simp; omega
          have b70 : Nat.ble c.toNat 70 = false := by rw [← Bool.not_eq_true, Nat.ble_eq]; exact h70
          simp only [F30_l0, C30_c1, F30_c1, C30_c0, F30_c0, hi, hi0, hg, hw, d48, d57, d65, d70, b48, b57, b65, b70, cond_true, cond_false, Bool.and_self, Bool.and_false, Option.bind_some, Sum.elim_inl, Sum.elim_inr]
      · have d65 : decide (((c.toNat : Nat) : Int) ≥ 65) = false := by simp; omega
        have b65 : Nat.ble 65 c.toNat = false := by rw [← Bool.not_eq_true, Nat.ble_eq]; exact h65
        simp only [F30_l0, C30_c1, F30_c1, C30_c0, F30_c0, hi, hi0, hg, hw, d48, d57, d65, b48, b57, b65, cond_true, cond_false, Bool.and_self, Bool.and_false, Bool.false_and, Option.bind_some, Sum.elim_inl, Sum.elim_inr]
  · have d48 : decide (((c.toNat : Nat) : Int) ≥ 48) = false := by simp; omega
    have b48 : Nat.ble 48 c.toNat = false := by rw [← Bool.not_eq_true, Nat.ble_eq]; exact h48
    have d65 : decide (((c.toNat : Nat) : Int) ≥ 65) = false := by simp; omega
    have b65 : Nat.ble 65 c.toNat = false := by rw [← Bool.not_eq_true, Nat.ble_eq]; omega
    simp only [F30_l0, C30_c1, F30_c1, C30_c0, F30_c0, hi, hi0, hg, hw, d48, d65, b48, b65, cond_true, cond_false, Bool.and_self, Bool.and_false, Bool.false_and, Option.bind_some, Sum.elim_inl, Sum.elim_inr]
theorem vrun : ∀ (r pre : List UInt8) (n m : Nat), n < 16 ^ pre.length → pre.length + r.length ≤ 6 → r.length < m →
    loopN (F30_l0 C30_c1) m (pre ++ r, (n : Int), (pre.length : Int), ()) = some (match valU n r with | some v => .inl ((v : Int), ()) | none => .inr (-1, ()))
  | _, _, _, 0, _, _, hm => by omega
  | [], pre, n, m + 1, hn, hl, hm => by
    refine loopN_inr ?_
    have hi : decide ((pre.length : Int) < (pre.length : Int)) = false := by simp
    simp only [F30_l0, List.append_nil, hi, cond_false, valU]
  | c :: r, pre, n, m + 1, hn, hl, hm => by
    simp only [List.length_cons] at hl hm
    have hp : 16 ^ pre.length ≤ 16 ^ 6 := Nat.pow_le_pow_right (by omega) (by omega)
    have h6 : (16 : Nat) ^ 6 = 16777216 := by decide
    have hs := vstep c pre r n (by omega) (by omega)
    unfold valU
    cases hc : uv c with
    | none => rw [hc] at hs; rw [loopN_inr hs]
    | some x =>
      have hx := (dgu_uv hc).1
      rw [hc] at hs
      simp only at hs ⊢
      rw [loopN_inl hs, shift, show ((pre.length + 1 : Nat) : Int) = ((pre ++ [c]).length : Int) by simp]
      exact vrun r (pre ++ [c]) (16 * n + x) m (by rw [List.length_append, List.length_cons, List.length_nil, Nat.pow_succ]; omega) (by simp; omega) (by omega)
theorem c30 (d : List UInt8) : C30 (d, ()) = some ((match hexV d with | some n => (n : Int) | none => -1), ()) := by
  unfold hexV
  by_cases h1 : d.length < 1
  · have d1 : decide ((d.length : Int) < 1) = true := by simp; omega
    have b1 : Nat.ble 1 d.length = false := by rw [← Bool.not_eq_true, Nat.ble_eq]; omega
    simp only [C30, F30, d1, b1, cond_true, Bool.false_and, cond_false]
  · have d1 : decide ((d.length : Int) < 1) = false := by simp; omega
    have b1 : Nat.ble 1 d.length = true := Nat.ble_eq_true_of_le (by omega)
    by_cases h6 : d.length > 6
    · have d6 : decide ((d.length : Int) > 6) = true := by simp; omega
      have b6 : Nat.ble d.length 6 = false := by rw [← Bool.not_eq_true, Nat.ble_eq]; omega
      simp only [C30, F30, d1, d6, b1, b6, cond_true, cond_false, Bool.and_false]
    · have d6 : decide ((d.length : Int) > 6) = false := by simp; omega
      have b6 : Nat.ble d.length 6 = true := Nat.ble_eq_true_of_le (by omega)
      have h := vrun d [] 0 big (by simp) (by simp; omega) (by unfold big; omega)
      have h' : C30_l0 (d, 0, 0, ()) = _ := h
      have hc2 : C30_c2 (d, ()) = some ((match valU 0 d with | some n => (n : Int) | none => -1), ()) := by
        simp only [C30_c2, F30_c2, h', Option.bind_some]
        cases valU 0 d <;> rfl
      by_cases hg : d.length > 1
      · have dg : decide ((d.length : Int) > 1) = true := by simp; omega
        have d0 : decide (0 < (d.length : Int)) = true := by simp; omega
        have bg : Nat.beq d.length 1 = false := by rw [← Bool.not_eq_true]; intro e; have := Nat.eq_of_beq_eq_true e; omega
        have hh : (((d.getD 0 0).toNat : Int) == 48) = (d.headD 0 == 48) := by
          cases d with
          | nil => simp at hg
          | cons c r =>
            show (((c.toNat : Nat) : Int) == 48) = (c == 48)
            by_cases hc : c = 48
            · subst hc; rfl
            · have h1 : (c == 48) = false := by simpa using hc
              rw [h1, ibF]
              intro e
              exact hc (u8_eq (n := 48) (by omega))
        simp only [C30, F30, d1, d6, dg, d0, hh, hc2, b1, b6, bg, cond_true, cond_false, Bool.and_self, Bool.false_or, Option.bind_some]
        cases d.headD 0 == 48 <;> rfl
      · have dg : decide ((d.length : Int) > 1) = false := by simp; omega
        have bg : Nat.beq d.length 1 = true := by rw [show d.length = 1 by omega]; rfl
        simp only [C30, F30, d1, d6, dg, hc2, b1, b6, bg, cond_true, cond_false, Bool.and_self, Bool.true_or, Option.bind_some]
end Go.Proofs.YtmfcepdbpdihgaaGreatDoor.W
/- What is unescaped: the document's reading comes to the same. -/
set_option linter.unusedVariables false
set_option linter.unusedSimpArgs false
set_option maxRecDepth 100000
namespace Go.Proofs.YtmfcepdbpdihgaaGreatDoor.W
open Go Go.Ae Go.Pl
theorem krun (x1 : Int) (x3 : List Int) : ∀ (t pre : List UInt8) (m : Nat), pre.length + t.length ≤ 1000000000 → t.length < m →
    loopN F10_l0 m (pre ++ t, x1, (pre.length : Int), x3, ()) = some (pre ++ t, x1, ((pre.length + fp e125 t : Nat) : Int), x3, ())
  | _, _, 0, _, hm => by omega
  | [], pre, m + 1, hl, hm => by
    refine loopN_inr ?_
    have hi : decide ((pre.length : Int) < (pre.length : Int)) = false := by simp
    simp only [F10_l0, List.append_nil, hi, cond_false, fp, Nat.add_zero]
  | c :: t, pre, m + 1, hl, hm => by
    simp only [List.length_cons] at hl hm
    have hi : decide ((pre.length : Int) < ((pre ++ c :: t).length : Int)) = true := by simp; omega
    have hi0 : decide (0 ≤ (pre.length : Int)) = true := by simp
    have hw : IntKind.i64.wrap ((pre.length : Int) + 1) = ((pre.length + 1 : Nat) : Int) := wrN _ (by omega)
    have hg : (pre ++ c :: t).getD ((pre.length : Int)).toNat 0 = c := by rw [Int.toNat_natCast]; exact gd rfl
    have hb : (((c.toNat : Nat) : Int) != 125) = !(e125 c) := by
      unfold e125
      by_cases hc : c = 125
      · subst hc; rfl
      · have h1 : (c == 125) = false := by simpa using hc
        rw [h1, inT]; rfl
        intro e
        exact hc (u8_eq (n := 125) (by omega))
    cases he : e125 c with
    | true =>
      rw [loopN_inr (y := (pre ++ c :: t, x1, (pre.length : Int), x3, ())) (by simp only [F10_l0, hi, hi0, hg, hb, he, cond_true, cond_false, Bool.and_self, Bool.not_true])]
      simp [fp, he]
    | false =>
      rw [loopN_inl (v' := (pre ++ c :: t, x1, ((pre.length + 1 : Nat) : Int), x3, ())) (by simp only [F10_l0, hi, hi0, hg, hw, hb, he, cond_true, cond_false, Bool.and_self, Bool.not_false])]
      rw [shift, show ((pre.length + 1 : Nat) : Int) = ((pre ++ [c]).length : Int) by simp, krun x1 x3 t (pre ++ [c]) m (by simp; omega) (by omega)]
      simp only [fp, he, cond_false, List.length_append, List.length_cons, List.length_nil]
      congr 4
      omega
def escAtR (s : List UInt8) : Option (Int × List UInt8) := match escAt s with
  | some (v, t) => if 1114111 < v then none else some (v, t)
  | none => none
theorem rc0_ (pre rest : List UInt8) (out : List Int) (hl : pre.length + rest.length ≤ 1000000) (ho : out.length ≤ 1000000) :
    C10_c0 (pre ++ 92 :: 120 :: 123 :: rest, (pre.length : Int), out, ()) = some (match escAtR (92 :: 120 :: 123 :: rest) with
      | some (v, t) => .inr (pre ++ 92 :: 120 :: 123 :: rest, ((pre.length + 3 + fp e125 rest : Nat) : Int), out ++ [v], ())
      | none => .inl ([], false, ())) := by
  have hsp : pre ++ 92 :: 120 :: 123 :: rest = (pre ++ [92, 120, 123]) ++ rest := by simp
  have hpl : (pre ++ [92, 120, 123]).length = pre.length + 3 := by simp
  have hw3 : IntKind.i64.wrap ((pre.length : Int) + 3) = ((pre.length + 3 : Nat) : Int) := by rw [w64] <;> omega
  have hk := krun (pre.length : Int) out rest (pre ++ [92, 120, 123]) big (by rw [hpl]; omega) (by unfold big; omega)
  rw [hpl] at hk
  have hk' : C10_l0 ((pre ++ [92, 120, 123]) ++ rest, (pre.length : Int), ((pre.length + 3 : Nat) : Int), out, ()) = _ := hk
  have hle := fp_le e125 rest
  have hhp : hasP [92, 120, 123] (92 :: 120 :: 123 :: rest) = true := by simp [hasP]
  have hd3 : (92 :: 120 :: 123 :: rest).drop 3 = rest := rfl
  unfold escAtR escAt
  rw [if_pos hhp, hd3, hsp]
  simp only [C10_c0, F10_c0, hw3, hk', Option.bind_some]
  have hlen : ((pre ++ [92, 120, 123]) ++ rest).length = pre.length + 3 + rest.length := by rw [List.length_append, hpl]
  by_cases hf : fp e125 rest < rest.length
  · have e1 : (((pre.length + 3 + fp e125 rest : Nat) : Int) == ((((pre ++ [92, 120, 123]) ++ rest).length : Nat) : Int)) = false := by rw [hlen, ibF]; omega
    have e2 : decide (0 ≤ ((pre.length + 3 + fp e125 rest : Nat) : Int)) = true := by simp; omega
    have e3 : decide (((pre.length + 3 + fp e125 rest : Nat) : Int) ≤ ((((pre ++ [92, 120, 123]) ++ rest).length : Nat) : Int)) = true := by rw [hlen]; simp; omega
    have e4 : decide (0 ≤ ((pre.length + 3 : Nat) : Int)) = true := by simp; omega
    have e5 : decide (((pre.length + 3 : Nat) : Int) ≤ ((pre.length + 3 + fp e125 rest : Nat) : Int)) = true := by simp; omega
    have htd : List.drop (pre.length + 3) (List.take (pre.length + 3 + fp e125 rest) ((pre ++ [92, 120, 123]) ++ rest)) = rest.take (fp e125 rest) := by
      rw [List.take_append, hpl, List.take_of_length_le (by rw [hpl]; omega), Nat.add_sub_cancel_left]
      exact dr hpl
    rw [if_pos hf]
    simp only [e1, e2, e3, e4, e5, Int.toNat_natCast, htd, c30, cond_true, cond_false, Bool.and_self, Option.bind_some]
    cases hv : hexV (rest.take (fp e125 rest)) with
    | none =>
      have d : decide ((-1 : Int) < 0) = true := by decide
      simp only [d, cond_true]
    | some n =>
      have hn := (hexV_back hv).2.2
      have d : decide ((n : Int) < 0) = false := by simp
      have hw : IntKind.i32.wrap (n : Int) = n := w32 (by omega) (by omega)
      simp only [d, cond_false, hw, c29, Option.bind_some]
      have eo : decide (out.length + 1 ≤ 140737488355328 / 4) = true := by simp; omega
      by_cases hp : plainB (n : Int) = true
      · rw [if_pos hp, hp]
        have h2 : decide ((n : Int) > 1114111) = false := by have := plainB_iff.1 hp; simp; omega
        simp only [h2, cond_false, cond_true]
      · rw [if_neg hp]
        simp only [Bool.not_eq_true] at hp
        rw [hp]
        by_cases hb : 1114111 < (n : Int)
        · have h2 : decide ((n : Int) > 1114111) = true := by simp; omega
          simp only [h2, cond_true, if_pos hb]
        · have h2 : decide ((n : Int) > 1114111) = false := by simp; omega
          simp only [h2, cond_false, if_neg hb, List.length_cons, List.length_nil, Nat.zero_add, eo, cond_true]
  · have hfe : fp e125 rest = rest.length := by omega
    have e1 : (((pre.length + 3 + fp e125 rest : Nat) : Int) == ((((pre ++ [92, 120, 123]) ++ rest).length : Nat) : Int)) = true := by rw [hlen, hfe, ibT]; rfl
    rw [if_neg hf]
    simp only [e1, cond_true]
theorem escAt_no {s : List UInt8} (h : hasP [92, 120, 123] s = false) : escAtR s = none := by
  unfold escAtR escAt
  rw [if_neg (by rw [h]; simp)]
theorem ne_byte {c : UInt8} {n : Nat} (hn : n < 256) (h : c ≠ UInt8.ofNat n) : (((c.toNat : Nat) : Int) != (n : Int)) = true := by
  rw [inT]
  intro e
  exact h (u8_eq (by omega))
theorem rstep (c : UInt8) (r pre : List UInt8) (out : List Int) (hl : pre.length + r.length ≤ 900000) (ho : out.length ≤ 1000000) :
    F10_l1 C29 C10_c0 (pre ++ c :: r, (pre.length : Int), out, ()) = some (bif plainB (cv c) then .inl (pre ++ c :: r, ((pre.length + 1 : Nat) : Int), out ++ [cv c], ()) else match escAtR (c :: r) with
      | some (v, t) => .inl (pre ++ c :: r, ((pre.length + (r.length + 1 - t.length) : Nat) : Int), out ++ [v], ())
      | none => .inr (.inr ([], false, ()))) := by
  have hlen : (pre ++ c :: r).length = pre.length + (r.length + 1) := by simp
  have hi : decide ((pre.length : Int) < ((pre ++ c :: r).length : Int)) = true := by simp; omega
  have hi0 : decide (0 ≤ (pre.length : Int)) = true := by simp
  have hw : IntKind.i64.wrap ((pre.length : Int) + 1) = ((pre.length + 1 : Nat) : Int) := wrN _ (by omega)
  have hw2 : IntKind.i64.wrap ((pre.length : Int) + 2) = ((pre.length + 2 : Nat) : Int) := by rw [w64] <;> omega
  have hg : (pre ++ c :: r).getD ((pre.length : Int)).toNat 0 = c := by rw [Int.toNat_natCast]; exact gd rfl
  have eo : decide (out.length + 1 ≤ 140737488355328 / 4) = true := by simp; omega
  have hwl : IntKind.i64.wrap (((pre ++ c :: r).length : Int) - (pre.length : Int)) = ((r.length + 1 : Nat) : Int) := by rw [hlen, w64] <;> omega
  cases hp : plainB (cv c) with
  | true =>
    simp only [F10_l1, hi, hi0, hg, hw, cv32, c29, hp, List.length_cons, List.length_nil, Nat.zero_add, eo, Option.bind_some, cond_true, Bool.and_self]
  | false =>
    by_cases h4 : r.length + 1 < 4
    · have e4 : decide (((r.length + 1 : Nat) : Int) < 4) = true := by simp; omega
      have hnone : escAtR (c :: r) = none := by
        cases hh : hasP [92, 120, 123] (c :: r) with
        | false => exact escAt_no hh
        | true =>
          have hx := (hasP_len hh).2
          have h3 := (hasP_len hh).1
          simp only [List.length_cons, List.length_nil] at h3
          unfold escAtR escAt
          rw [if_pos hh, if_neg]
          simp only [List.length_drop, List.length_cons]
          omega
      simp only [F10_l1, hi, hi0, hg, cv32, c29, hp, hwl, e4, hnone, Option.bind_some, cond_true, cond_false, Bool.and_self]
    · have e4 : decide (((r.length + 1 : Nat) : Int) < 4) = false := by simp; omega
      match r, h4 with
      | [], h4 => simp at h4
      | [_], h4 => simp at h4
      | a :: b :: t, h4 =>
        simp only [List.length_cons] at hl h4
        have hg0 : (pre ++ c :: a :: b :: t).getD pre.length 0 = c := gd rfl
        have hg1 : (pre ++ c :: a :: b :: t).getD (pre.length + 1) 0 = a := by
          rw [shift]; exact gd (by simp)
        have hg2 : (pre ++ c :: a :: b :: t).getD (pre.length + 2) 0 = b := by
          rw [shift, shift]; exact gd (by simp)
        have j1 : decide (0 ≤ ((pre.length + 1 : Nat) : Int)) = true := by simp; omega
        have j2 : decide (((pre.length + 1 : Nat) : Int) < ((pre ++ c :: a :: b :: t).length : Int)) = true := by rw [hlen]; simp; omega
        have j3 : decide (0 ≤ ((pre.length + 2 : Nat) : Int)) = true := by simp; omega
        have j4 : decide (((pre.length + 2 : Nat) : Int) < ((pre ++ c :: a :: b :: t).length : Int)) = true := by rw [hlen]; simp; omega
        by_cases hc : c = 92
        · have b1 : (((c.toNat : Nat) : Int) != 92) = false := by rw [hc]; rfl
          by_cases ha : a = 120
          · have b2 : (((a.toNat : Nat) : Int) != 120) = false := by rw [ha]; rfl
            by_cases hb : b = 123
            · have b3 : (((b.toNat : Nat) : Int) != 123) = false := by rw [hb]; rfl
              have hr0 := rc0_ pre t out (by omega) ho
              rw [← hc, ← ha, ← hb] at hr0
              simp only [F10_l1, hi, hi0, hg, hg0, hw, hw2, hg1, hg2, j1, j2, j3, j4, b1, b2, b3, cv32, c29, hp, hwl, e4, Int.toNat_natCast, hr0, Option.bind_some, cond_true, cond_false, Bool.and_self]
              cases he : escAtR (c :: a :: b :: t) with
              | none => simp only [Sum.elim_inl]
              | some x =>
                obtain ⟨v, t'⟩ := x
                have hle := fp_le e125 t
                have ht' : t'.length + (fp e125 t + 1) = t.length := by
                  rw [hc, ha, hb] at he
                  have hhp : hasP [92, 120, 123] (92 :: 120 :: 123 :: t) = true := by simp [hasP]
                  have hd3 : (92 :: 120 :: 123 :: t).drop 3 = t := rfl
                  unfold escAtR escAt at he
                  rw [if_pos hhp, hd3] at he
                  by_cases hf : fp e125 t < t.length
                  · rw [if_pos hf] at he
                    cases hv : hexV (t.take (fp e125 t)) with
                    | none => rw [hv] at he; cases he
                    | some n =>
                      rw [hv] at he
                      simp only at he
                      by_cases hpl : plainB (n : Int) = true
                      · rw [if_pos hpl] at he; cases he
                      · rw [if_neg hpl] at he
                        simp only at he
                        by_cases hbig : 1114111 < (n : Int)
                        · rw [if_pos hbig] at he; cases he
                        · rw [if_neg hbig] at he
                          simp only [Option.some.injEq, Prod.mk.injEq] at he
                          rw [← he.2, List.length_drop]; omega
                  · rw [if_neg hf] at he; cases he
                have hwk : IntKind.i64.wrap (((pre.length + 3 + fp e125 t : Nat) : Int) + 1) = ((pre.length + ((t.length + 1 + 1) + 1 - t'.length) : Nat) : Int) := by rw [w64] <;> omega
                simp only [Sum.elim_inr, hwk, List.length_cons]
            · have b3 : (((b.toNat : Nat) : Int) != 123) = true := ne_byte (n := 123) (by omega) hb
              have hnone : escAtR (c :: a :: b :: t) = none := escAt_no (by
                rw [hc, ha]
                cases hh : hasP [92, 120, 123] (92 :: 120 :: b :: t) with
                | false => rfl
                | true => exact absurd (by simpa [hasP] using hh) hb)
              simp only [F10_l1, hi, hi0, hg, hg0, hw, hw2, hg1, hg2, j1, j2, j3, j4, b1, b2, b3, cv32, c29, hp, hwl, e4, Int.toNat_natCast, hnone, Option.bind_some, cond_true, cond_false, Bool.and_self]
          · have b2 : (((a.toNat : Nat) : Int) != 120) = true := ne_byte (n := 120) (by omega) ha
            have hnone : escAtR (c :: a :: b :: t) = none := escAt_no (by
              rw [hc]
              cases hh : hasP [92, 120, 123] (92 :: a :: b :: t) with
              | false => rfl
              | true =>
                have : a = 120 ∧ b = 123 := by simpa [hasP] using hh
                exact absurd this.1 ha)
            simp only [F10_l1, hi, hi0, hg, hg0, hw, hw2, hg1, hg2, j1, j2, j3, j4, b1, b2, cv32, c29, hp, hwl, e4, Int.toNat_natCast, hnone, Option.bind_some, cond_true, cond_false, Bool.and_self]
        · have b1 : (((c.toNat : Nat) : Int) != 92) = true := ne_byte (n := 92) (by omega) hc
          have hnone : escAtR (c :: a :: b :: t) = none := escAt_no (by
            cases hh : hasP [92, 120, 123] (c :: a :: b :: t) with
            | false => rfl
            | true =>
              have : c = 92 ∧ a = 120 ∧ b = 123 := by simpa [hasP] using hh
              exact absurd this.1 hc)
          simp only [F10_l1, hi, hi0, hg, b1, cv32, c29, hp, hwl, e4, hnone, Option.bind_some, cond_true, cond_false, Bool.and_self]
def unescR : Nat → List UInt8 → Option (List Int)
  | 0, _ => none
  | _ + 1, [] => some []
  | n + 1, c :: r => bif plainB (cv c) then (unescR n r).map (cv c :: ·) else match escAtR (c :: r) with
    | some (v, t) => (unescR n t).map (v :: ·)
    | none => none
theorem escAtR_some {s : List UInt8} {v : Int} {t : List UInt8} (h : escAtR s = some (v, t)) : escAt s = some (v, t) := by
  unfold escAtR at h
  split at h
  · rename_i v' t' he
    split at h
    · cases h
    · rw [he, ← h]
  · cases h
theorem escAt_suf {s : List UInt8} {v : Int} {t : List UInt8} (h : escAt s = some (v, t)) : s.drop (s.length - t.length) = t := by
  unfold escAt at h
  split at h
  · rename_i hp
    split at h
    · rename_i hf
      split at h
      · split at h
        · cases h
        · simp only [Option.some.injEq, Prod.mk.injEq] at h
          have hl := (hasP_len hp).1
          simp only [List.length_cons, List.length_nil] at hl
          simp only [List.length_drop] at hf
          rw [← h.2, List.drop_drop, List.length_drop]
          congr 1; omega
      · cases h
    · cases h
  · cases h
theorem rrun25 : ∀ (n : Nat) (s pre : List UInt8) (out : List Int) (m : Nat), s.length < n → s.length < m → pre.length + s.length ≤ 800000 → out.length + s.length ≤ 1000000 →
    loopN (F10_l1 C29 C10_c0) m (pre ++ s, (pre.length : Int), out, ()) = some (match unescR n s with | some l => .inl (out ++ l, ()) | none => .inr ([], false, ()))
  | 0, _, _, _, _, hn, _, _, _ => by omega
  | _, _, _, _, 0, _, hm, _, _ => by omega
  | n + 1, [], pre, out, m + 1, hn, hm, hl, ho => by
    refine loopN_inr ?_
    have hi : decide ((pre.length : Int) < (pre.length : Int)) = false := by simp
    simp only [F10_l1, List.append_nil, hi, cond_false, unescR]
  | n + 1, c :: r, pre, out, m + 1, hn, hm, hl, ho => by
    simp only [List.length_cons] at hn hm hl ho
    have hs := rstep c r pre out (by omega) (by omega)
    unfold unescR
    cases hp : plainB (cv c) with
    | true =>
      rw [hp, cond_true] at hs
      rw [loopN_inl hs, shift, show ((pre.length + 1 : Nat) : Int) = ((pre ++ [c]).length : Int) by simp, rrun25 n r (pre ++ [c]) (out ++ [cv c]) m (by omega) (by omega) (by simp; omega) (by simp; omega), cond_true]
      cases unescR n r <;> simp
    | false =>
      rw [hp, cond_false] at hs
      rw [cond_false]
      cases he : escAtR (c :: r) with
      | none => rw [he] at hs; rw [loopN_inr hs]
      | some x =>
        obtain ⟨v, t⟩ := x
        have he' := escAtR_some he
        have ht := escAt_len he'
        have hsf := escAt_suf he'
        simp only [List.length_cons] at ht hsf
        rw [he] at hs
        have hsplit : pre ++ c :: r = (pre ++ (c :: r).take (r.length + 1 - t.length)) ++ t := by
          rw [List.append_assoc]
          conv => lhs; rw [← List.take_append_drop (r.length + 1 - t.length) (c :: r), hsf]
        have hpl : (pre ++ (c :: r).take (r.length + 1 - t.length)).length = pre.length + (r.length + 1 - t.length) := by rw [List.length_append, List.length_take, List.length_cons]; omega
        have ih := rrun25 n t (pre ++ (c :: r).take (r.length + 1 - t.length)) (out ++ [v]) m (by omega) (by omega) (by rw [hpl]; omega) (by simp; omega)
        rw [← hsplit, hpl] at ih
        rw [loopN_inl hs, ih]
        simp only
        cases unescR n t <;> simp
/-- Where the two part, what comes is no text. -/
theorem unesc_R : ∀ (n : Nat) (s : List UInt8), unescR n s = unesc n s ∨ (unescR n s = none ∧ ∃ l, unesc n s = some l ∧ strE l = none) ∨ (unescR n s = none ∧ unesc n s = none)
  | 0, _ => .inl rfl
  | n + 1, [] => .inl rfl
  | n + 1, c :: r => by
    have hcons : ∀ (v : Int) (l : List Int), strE l = none → strE (v :: l) = none := by
      intro v l h; rw [strE, h]; split <;> rfl
    unfold unescR unesc
    cases hp : plainB (cv c) with
    | true =>
      simp only [cond_true]
      rcases unesc_R n r with h | ⟨h1, l, h2, h3⟩ | ⟨h1, h2⟩
      · left; rw [h]
      · right; left; exact ⟨by rw [h1]; rfl, cv c :: l, by rw [h2]; rfl, hcons _ _ h3⟩
      · right; right; exact ⟨by rw [h1]; rfl, by rw [h2]; rfl⟩
    | false =>
      simp only [cond_false]
      unfold escAtR
      cases he : escAt (c :: r) with
      | none => left; rfl
      | some x =>
        obtain ⟨v, t⟩ := x
        simp only
        by_cases hb : 1114111 < v
        · rw [if_pos hb]
          cases hu : unesc n t with
          | none => right; right; exact ⟨rfl, rfl⟩
          | some l =>
            right; left
            refine ⟨rfl, v :: l, rfl, ?_⟩
            have hr : rightB v = false := by
              cases hr : rightB v with
              | false => rfl
              | true => have := rightB_iff.1 hr; omega
            rw [strE, hr, if_neg (by simp)]
        · rw [if_neg hb]
          simp only
          rcases unesc_R n t with h | ⟨h1, l, h2, h3⟩ | ⟨h1, h2⟩
          · left; rw [h]
          · right; left; exact ⟨by rw [h1]; rfl, v :: l, by rw [h2]; rfl, hcons _ _ h3⟩
          · right; right; exact ⟨by rw [h1]; rfl, by rw [h2]; rfl⟩
theorem fin_R (n : Nat) (s : List UInt8) : fin2 (unescR n s) = fin2 (unesc n s) := by
  rcases unesc_R n s with h | ⟨h1, l, h2, h3⟩ | ⟨h1, h2⟩
  · rw [h]
  · rw [h1, h2]; simp [fin2, h3]
  · rw [h1, h2]
theorem c10 (s : List UInt8) (hl : s.length ≤ 800000) : C10 (s, ()) = some (fin2 (unE s)) := by
  have h := rrun25 (s.length + 1) s [] [] big (by omega) (by unfold big; omega) (by simp; omega) (by simp; omega)
  have h' : C10_l1 (s, 0, [], ()) = _ := h
  unfold unE
  rw [← fin_R]
  simp only [C10, F10, h', Option.bind_some]
  cases hu : unescR (s.length + 1) s with
  | none => rfl
  | some l =>
    have hll : l.length ≤ s.length := by
      rcases unesc_R (s.length + 1) s with h | ⟨h1, _⟩ | ⟨h1, _⟩
      · exact unesc_len _ _ _ (h.symm.trans hu)
      · rw [h1] at hu; cases hu
      · rw [h1] at hu; cases hu
    simp only [Sum.elim_inl, List.nil_append, c31 l (by omega), Option.bind_some, fin2]
    cases strE l <;> rfl
end Go.Proofs.YtmfcepdbpdihgaaGreatDoor.W
/- What is escaped is unescaped, and back. -/
set_option linter.unusedVariables false
set_option linter.unusedSimpArgs false
set_option maxRecDepth 100000
namespace Go.Proofs.YtmfcepdbpdihgaaGreatDoor.W
open Go Go.Ae Go.Pl
theorem unE_nil : unE [] = some [] := rfl
theorem unE_cons (c : UInt8) (r : List UInt8) : unE (c :: r) = bif plainB (cv c) then (unE r).map (cv c :: ·) else match escAt (c :: r) with
    | some (v, t) => (unE t).map (v :: ·)
    | none => none := by
  unfold unE
  rw [List.length_cons]
  conv => lhs; unfold unesc
  cases plainB (cv c) with
  | true => rfl
  | false =>
    simp only [cond_false]
    cases he : escAt (c :: r) with
    | none => rfl
    | some x =>
      obtain ⟨v, t⟩ := x
      have ht := escAt_len he
      simp only [List.length_cons] at ht
      simp only
      rw [unesc_more (r.length + 1) (t.length + 1) t (by omega) (by omega)]
def hxB (c : UInt8) : Bool := (Nat.ble 32 c.toNat && Nat.ble c.toNat 126) && !e125 c
theorem dgu_hx : ∀ n, n < 16 → hxB (dgu n) = true := fin16 (p := fun n => hxB (dgu n)) (by decide)
theorem hexU_hx (n : Nat) : (hexU n).all hxB = true := hexF_all hxB dgu dgu_hx 16 n
theorem fp_app {p : UInt8 → Bool} : ∀ (l t : List UInt8), (∀ c ∈ l, p c = false) → fp p (l ++ t) = l.length + fp p t
  | [], t, _ => by simp
  | c :: l, t, h => by
    rw [List.cons_append, fp, h c List.mem_cons_self, cond_false, fp_app l t fun x hx => h x (List.mem_cons_of_mem _ hx)]
    simp; omega
theorem hexU_125 (n : Nat) : ∀ c ∈ hexU n, e125 c = false := fun c hc => by
  have h := List.all_eq_true.1 (hexU_hx n) c hc
  simp only [hxB, Bool.and_eq_true, Bool.not_eq_true'] at h
  exact h.2
theorem hexU_six {n : Nat} (h : n < 16777216) : (hexU n).length ≤ 6 := by
  have : hexU n = hexF dgu 6 n := hexF_more dgu 5 15 n (by omega) (by omega)
  rw [this]; exact hexF_len dgu 6 n
theorem escAt_hex (n : Nat) (t : List UInt8) : escAt ([92, 120, 123] ++ hexU n ++ [125] ++ t) = match hexV (hexU n) with
    | some n => if plainB (n : Int) = true then none else some ((n : Int), t)
    | none => none := by
  have hs : [92, 120, 123] ++ hexU n ++ [125] ++ t = 92 :: 120 :: 123 :: (hexU n ++ 125 :: t) := by simp
  rw [hs]
  have hhp : hasP [92, 120, 123] (92 :: 120 :: 123 :: (hexU n ++ 125 :: t)) = true := by simp [hasP]
  have hd3 : (92 :: 120 :: 123 :: (hexU n ++ 125 :: t)).drop 3 = hexU n ++ 125 :: t := rfl
  have hf : fp e125 (hexU n ++ 125 :: t) = (hexU n).length := by
    rw [fp_app _ _ (hexU_125 n)]
    simp [fp, e125]
  unfold escAt
  rw [if_pos hhp, hd3, hf, if_pos (by simp), List.take_left]
  have hdr : List.drop ((hexU n).length + 1) (hexU n ++ 125 :: t) = t := by
    rw [shift]; exact dr (by simp)
  rw [hdr]
  all_goals (cases hexV (hexU n) <;> rfl)
theorem unE_escR {v : Int} (hr : rightB v = true) (t : List UInt8) : unE (escR v ++ t) = (unE t).map (v :: ·) := by
  have hi := rightB_iff.1 hr
  unfold escR
  cases hp : plainB v with
  | true =>
    have hp' := plainB_iff.1 hp
    have e := b8_cv (n := v) (by omega) (by omega)
    rw [if_pos rfl]
    show unE (b8 v :: t) = _
    rw [unE_cons, e, hp, cond_true]
  | false =>
    rw [if_neg (by simp)]
    have hc : [92, 120, 123] ++ hexU v.toNat ++ [125] ++ t = 92 :: (120 :: 123 :: (hexU v.toNat ++ 125 :: t)) := by simp
    have h92 : plainB (cv 92) = false := by decide
    rw [hc, unE_cons, h92, cond_false, ← hc, escAt_hex, hexV_of (by omega) (hexU_six (by omega))]
    have e : ((v.toNat : Nat) : Int) = v := by omega
    simp only [e, hp]
    rfl
theorem unE_flat : ∀ (l : List Int) (t : List UInt8), (∀ v ∈ l, rightB v = true) → unE (l.flatMap escR ++ t) = (unE t).map (l ++ ·)
  | [], t, _ => by
    show unE t = _
    cases unE t <;> rfl
  | v :: l, t, h => by
    rw [List.flatMap_cons, List.append_assoc, unE_escR (h v List.mem_cons_self), unE_flat l t fun u hu => h u (List.mem_cons_of_mem _ hu)]
    cases unE t <;> rfl
theorem hexV_zero (l : List UInt8) : hexV (48 :: 48 :: l) = none := by
  unfold hexV
  have b1 : Nat.beq (48 :: 48 :: l : List UInt8).length 1 = false := by
    rw [← Bool.not_eq_true]; intro e; have := Nat.eq_of_beq_eq_true e; simp at this
  rw [b1]
  cases (Nat.ble 1 (48 :: 48 :: l : List UInt8).length && Nat.ble (48 :: 48 :: l : List UInt8).length 6) <;> rfl
theorem unE_escB (c : UInt8) (t : List UInt8) : unE (escB c ++ t) = none := by
  have hc : escB c ++ t = 92 :: (120 :: 123 :: ((48 :: 48 :: hexU c.toNat) ++ 125 :: t)) := by simp [escB]
  have h92 : plainB (cv 92) = false := by decide
  have hf : fp e125 ((48 :: 48 :: hexU c.toNat) ++ 125 :: t) = (48 :: 48 :: hexU c.toNat).length := by
    rw [fp_app]
    · simp [fp, e125]
    · intro x hx
      rcases List.mem_cons.1 hx with rfl | hx
      · rfl
      · rcases List.mem_cons.1 hx with rfl | hx
        · rfl
        · exact hexU_125 _ x hx
  have hhp : hasP [92, 120, 123] (92 :: 120 :: 123 :: ((48 :: 48 :: hexU c.toNat) ++ 125 :: t)) = true := by simp [hasP]
  have hd3 : (92 :: 120 :: 123 :: ((48 :: 48 :: hexU c.toNat) ++ 125 :: t)).drop 3 = (48 :: 48 :: hexU c.toNat) ++ 125 :: t := rfl
  rw [hc, unE_cons, h92, cond_false]
  have he : escAt (92 :: 120 :: 123 :: ((48 :: 48 :: hexU c.toNat) ++ 125 :: t)) = none := by
    unfold escAt
    rw [if_pos hhp, hd3, hf, if_pos (by simp), List.take_left, hexV_zero]
  rw [he]
theorem strE_rl {s : List UInt8} (h : rr s = []) : strE (rl s) = some s := by
  have h1 := rl_rr s
  rw [h, List.append_nil] at h1
  rw [strE_all, if_pos (List.all_eq_true.2 (rl_right s)), ← h1]
theorem back1 (s : List UInt8) : fin2 (unE (esc s)) = if rr s = [] then (s, true, ()) else ([], false, ()) := by
  unfold esc
  rw [unE_flat _ _ (rl_right s)]
  split
  · rename_i h
    rw [h, List.flatMap_nil, unE_nil]
    simp only [Option.map_some, List.append_nil, fin2, strE_rl h]
  · rename_i h
    cases hr : rr s with
    | nil => exact absurd hr h
    | cons c t =>
      rw [List.flatMap_cons, unE_escB]
      rfl
theorem unesc_esc : ∀ (n : Nat) (t : List UInt8) (l : List Int), unesc n t = some l → l.flatMap escR = t
  | 0, _, _, h => by cases h
  | n + 1, [], l, h => by cases h; rfl
  | n + 1, c :: r, l, h => by
    unfold unesc at h
    cases hp : plainB (cv c) with
    | true =>
      rw [hp, cond_true] at h
      obtain ⟨l', h1, rfl⟩ := Option.map_eq_some_iff.1 h
      rw [List.flatMap_cons, unesc_esc n r l' h1, escR, if_pos hp, b8_of (c := c) (n := cv c) rfl]
      rfl
    | false =>
      rw [hp, cond_false] at h
      cases he : escAt (c :: r) with
      | none => rw [he] at h; cases h
      | some x =>
        obtain ⟨v, t⟩ := x
        rw [he] at h
        simp only at h
        obtain ⟨l', h1, rfl⟩ := Option.map_eq_some_iff.1 h
        rw [List.flatMap_cons, unesc_esc n t l' h1]
        unfold escAt at he
        split at he
        · rename_i hh
          have hs := (hasP_len hh).2
          rw [hs]
          have h3 : List.drop ([92, 120, 123] : List UInt8).length (c :: r) = List.drop 3 (c :: r) := rfl
          rw [h3]
          generalize List.drop 3 (c :: r) = u at he
          split at he
          · rename_i hf
            split at he
            · rename_i k hv
              split at he
              · cases he
              · rename_i hpl
                simp only [Option.some.injEq, Prod.mk.injEq] at he
                obtain ⟨rfl, rfl⟩ := he
                have hb := (hexV_back hv).1
                rw [escR, if_neg hpl, Int.toNat_natCast, hb]
                have h125 : u[fp e125 u] = 125 := by have := fp_at e125 u hf; simpa [e125] using this
                have hu : u = u.take (fp e125 u) ++ 125 :: u.drop (fp e125 u + 1) := by
                  conv => lhs; rw [← List.take_append_drop (fp e125 u) u, List.drop_eq_getElem_cons hf, h125]
                conv => rhs; rw [hu]
                simp
            · cases he
          · cases he
        · cases he
theorem back2 {t y : List UInt8} (h : fin2 (unE t) = (y, true, ())) : esc y = t := by
  unfold fin2 at h
  split at h
  · rename_i l hu
    split at h
    · rename_i e hs
      simp only [Prod.mk.injEq, and_true] at h
      subst h
      rw [strE_all] at hs
      split at hs
      · rename_i ha
        simp only [Option.some.injEq] at hs
        have hr := runes_of l [] (fun v hv => List.all_eq_true.1 ha v hv) rfl
        rw [List.append_nil, hs] at hr
        unfold esc
        rw [hr.1, hr.2, List.flatMap_nil, List.append_nil]
        exact unesc_esc _ t l hu
      · cases hs
    · simp at h
  · simp at h
theorem fin_cases (o : Option (List Int)) : (∃ y, fin2 o = (y, true, ())) ∨ fin2 o = ([], false, ()) := by
  unfold fin2
  split
  · split
    · exact .inl ⟨_, rfl⟩
    · exact .inr rfl
  · exact .inr rfl
def ascB (c : UInt8) : Bool := Nat.ble 32 c.toNat && Nat.ble c.toNat 126
theorem esc_asc (s : List UInt8) : (esc s).all ascB = true := by
  have hx : ∀ n, (hexU n).all ascB = true := fun n => by
    rw [List.all_eq_true]
    intro c hc
    have h := List.all_eq_true.1 (hexU_hx n) c hc
    simp only [hxB, Bool.and_eq_true] at h
    simp only [ascB, Bool.and_eq_true]; exact h.1
  have hR : ∀ v, (escR v).all ascB = true := fun v => by
    unfold escR
    split
    · rename_i hp
      have hp' := plainB_iff.1 hp
      have e := b8_cv (n := v) (by omega) (by omega)
      unfold cv at e
      simp only [List.all_cons, List.all_nil, Bool.and_true, ascB, Bool.and_eq_true]
      exact ⟨Nat.ble_eq_true_of_le (by omega), Nat.ble_eq_true_of_le (by omega)⟩
    · rw [List.all_append, List.all_append, hx]; rfl
  have hB : ∀ c, (escB c).all ascB = true := fun c => by
    unfold escB
    rw [List.all_append, List.all_append, hx]; rfl
  unfold esc
  rw [List.all_append, List.all_flatMap, List.all_flatMap, Bool.and_eq_true]
  exact ⟨List.all_eq_true.2 fun v _ => hR v, List.all_eq_true.2 fun c _ => hB c⟩
end Go.Proofs.YtmfcepdbpdihgaaGreatDoor.W
/- What is escaped is unescaped, by plain bytes; what is unescaped is escaped so. -/
set_option linter.unusedVariables false
set_option linter.unusedSimpArgs false
set_option maxRecDepth 100000
namespace Go.Proofs.YtmfcepdbpdihgaaGreatDoor.PBounceBack
open Go Go.Ae Go.Pl Go.Proofs.YtmfcepdbpdihgaaGreatDoor.W
theorem arun (s t : List UInt8) (b : Bool) : ∀ (r pre : List UInt8) (m : Nat), r.all ascB = true → pre.length + r.length ≤ 1000000000 → r.length < m →
    loopN F5_l0 m (s, t, b, pre ++ r, (pre.length : Int), ()) = some (.inl (s, t, b, pre ++ r, ()))
  | _, _, 0, _, _, hm => by omega
  | [], pre, m + 1, ha, hl, hm => by
    refine loopN_inr ?_
    have hi : decide ((pre.length : Int) < (pre.length : Int)) = false := by simp
    simp only [F5_l0, List.append_nil, hi, cond_false]
  | c :: r, pre, m + 1, ha, hl, hm => by
    simp only [List.length_cons] at hl hm
    rw [List.all_cons, Bool.and_eq_true] at ha
    have hc : 32 ≤ c.toNat ∧ c.toNat ≤ 126 := by
      have := ha.1
      simp only [ascB, Bool.and_eq_true] at this
      exact ⟨Nat.le_of_ble_eq_true this.1, Nat.le_of_ble_eq_true this.2⟩
    have hi : decide ((pre.length : Int) < ((pre ++ c :: r).length : Int)) = true := by simp; omega
    have hi0 : decide (0 ≤ (pre.length : Int)) = true := by simp
    have hw : IntKind.i64.wrap ((pre.length : Int) + 1) = ((pre.length + 1 : Nat) : Int) := wrN _ (by omega)
    have hg : (pre ++ c :: r).getD ((pre.length : Int)).toNat 0 = c := by rw [Int.toNat_natCast]; exact gd rfl
    have d1 : decide (((c.toNat : Nat) : Int) < 32) = false := by simp; omega
    have d2 : decide (((c.toNat : Nat) : Int) > 126) = false := by simp; omega
    rw [loopN_inl (v' := (s, t, b, pre ++ c :: r, ((pre.length + 1 : Nat) : Int), ())) (by simp only [F5_l0, hi, hi0, hg, hw, d1, d2, cond_true, cond_false, Bool.and_self])]
    rw [shift, show ((pre.length + 1 : Nat) : Int) = ((pre ++ [c]).length : Int) by simp]
    exact arun s t b r (pre ++ [c]) m ha.2 (by simp; omega) (by omega)
theorem main (s t : List UInt8) : C5 (s, t, ()) = some (true, ()) := by
  have c8 : C8 () = some (true, ()) := rfl
  simp only [C5, F5, c8, Option.bind_some]
  by_cases h : s.length > 500
  · have d : decide ((s.length : Int) > 500) = true := by simp; omega
    simp only [d, cond_true]
  · have d : decide ((s.length : Int) > 500) = false := by simp; omega
    by_cases h2 : t.length > 500
    · have d2 : decide ((t.length : Int) > 500) = true := by simp; omega
      simp only [d, d2, cond_true, cond_false]
    · have d2 : decide ((t.length : Int) > 500) = false := by simp; omega
      have he := esc_len s
      have hl := arun s t true (esc s) [] big (esc_asc s) (by simp; omega) (by unfold big; omega)
      have hl' : C5_l0 (s, t, true, esc s, 0, ()) = _ := hl
      have hb := back1 s
      have tail : (bif (fin2 (unE t)).2.1 then (bif !(fin2 (unE t)).2.1 then some (true, ()) else (C11 ((fin2 (unE t)).1, ())).bind fun val_5 => some (val_5.fst == t, ()))
          else bif (fin2 (unE t)).1 == [] then (bif !(fin2 (unE t)).2.1 then some (true, ()) else (C11 ((fin2 (unE t)).1, ())).bind fun val_5 => some (val_5.fst == t, ())) else some (false, ())) = (some (true, ()) : Option (Bool × Unit)) := by
        rcases fin_cases (unE t) with ⟨y, hy⟩ | hy
        · have hb2 := back2 hy
          have hyl : y.length ≤ 1000000 := by
            have h1 : y.length ≤ 4 * t.length := by
              unfold fin2 at hy
              split at hy
              · rename_i l hu
                split at hy
                · rename_i e hs
                  simp only [Prod.mk.injEq, and_true] at hy
                  subst hy
                  have hll := unesc_len _ _ _ hu
                  rw [strE_all] at hs
                  split at hs
                  · simp only [Option.some.injEq] at hs
                    rw [← hs]
                    have := flat_len enc 4 (fun v => by rw [enc_len]; cases hr : rightB v with | true => exact (lenE_pos hr).2 | false => rw [lenE0 hr]; omega) l
                    omega
                  · cases hs
                · simp at hy
              · simp at hy
            omega
          rw [hy]
          simp only [cond_true, Bool.not_true, cond_false, c11 y hyl, hb2, Option.bind_some, beq_self_eq_true]
        · rw [hy]; rfl
      simp only [d, d2, cond_false, List.nil_append, c11 s (by omega), hl', Sum.elim_inl, d21 s (by omega), c9 (esc s) (by omega), c9 t (by omega), hb, Option.bind_some]
      by_cases hr : rr s = []
      · rw [if_pos hr]
        have d3 : decide (badAt s < 0) = true := by rw [badAt_nil hr]; rfl
        simp only [d3, beq_self_eq_true, Bool.not_true, cond_false, cond_true]
        exact tail
      · rw [if_neg hr]
        have d3 : decide (badAt s < 0) = false := by rw [badAt_some hr]; simp
        simp only [d3, beq_self_eq_true, Bool.not_true, cond_false, cond_true]
        exact tail
theorem pure (x0 : (Ty.str).den) (b0 : Bd (Ty.str) x0) (x1 : (Ty.str).den) (b1 : Bd (Ty.str) x1) : C5 (x0, x1, ()) = some (true, ()) := main x0 x1
end Go.Proofs.YtmfcepdbpdihgaaGreatDoor.PBounceBack
/- What the listed variables tell. -/
set_option linter.unusedVariables false
set_option maxRecDepth 100000
namespace Go.Proofs.YtmfcepdbpdihgaaGreatDoor
open Go Go.Ae Go.RowKit
theorem glob {W : World} (hL : laidMetH Tryz.prog Rows.bounceStatusRow.laid W) (hsh : W.ShapedOpen Tryz.prog) : GI W m0 := by
  rw [MakeChecks.laidMetH_plain _ _ _ (by kernel_rfl)] at hL
  obtain ⟨m, hm⟩ := Go.Proofs.cell_of_shapedOpen_int (g := 0) (k := .i64) (t := 3) (zero := #[.int .i64 0]) hsh (of_decide_eq_true (by kernel_rfl)) (by kernel_rfl) (by kernel_rfl) (by kernel_rfl) (by kernel_rfl) (by kernel_rfl)
  have g8 : Tryz.prog.globalNamed "math/bits.deBruijn64tab" = some 8 := by kernel_rfl
  have g4 : Tryz.prog.globalNamed "internal/strconv.uint64pow10" = some 4 := by kernel_rfl
  have g2 : Tryz.prog.globalNamed "strconv.ErrRange" = some 2 := by kernel_rfl
  have g1 : Tryz.prog.globalNamed "strconv.ErrSyntax" = some 1 := by kernel_rfl
  have h8 : Lib.TabIs Tryz.prog W "math/bits.deBruijn64tab" .u8 deBruijn64 := Lib.tabIs_of_head (zs := deBruijn64) (t := 186) (e := 5) (n := 64) g8 (by kernel_rfl) (by kernel_rfl) (by kernel_rfl) (by kernel_rfl) (by kernel_rfl) hL.tail
  have h4 : Lib.TabIs Tryz.prog W "internal/strconv.uint64pow10" .u64 tens := Lib.tabIs_of_head (zs := tens) (t := 161) (e := 126) (n := 20) g4 (by kernel_rfl) (by kernel_rfl) (by kernel_rfl) (by kernel_rfl) (by kernel_rfl) hL.tail.tail
  obtain ⟨t2, p2, h2⟩ := laid_iface (ti := 69) (ms := #[("Error", 73)]) hL.tail.tail.tail.tail g2 (by kernel_rfl) (by kernel_rfl)
  obtain ⟨t1, p1, h1⟩ := laid_iface (ti := 69) (ms := #[("Error", 73)]) hL.tail.tail.tail.tail.tail g1 (by kernel_rfl) (by kernel_rfl)
  obtain ⟨ty8, fz8, k8⟩ := var_heap g8 h8
  obtain ⟨ty4, fz4, k4⟩ := var_heap g4 h4
  obtain ⟨ty2, fz2, k2⟩ := var_heap g2 h2
  obtain ⟨ty1, fz1, k1⟩ := var_heap g1 h1
  refine ⟨⟨⟨m, hm⟩, ⟨t1, p1, cell_of_heap0 k1⟩, ⟨t2, p2, cell_of_heap0 k2⟩, ⟨ty4, fz4, k4⟩, ⟨ty8, fz8, k8⟩⟩, fun b hb => ⟨?_, fun h => h⟩⟩
  simp only [GlobB, List.mem_cons, List.not_mem_nil, or_false] at hb
  rcases hb with rfl | rfl | rfl | rfl | rfl
  · exact lt_of_cell hm
  · exact lt_of_heap k1
  · exact lt_of_heap k2
  · exact lt_of_heap k4
  · exact lt_of_heap k8
end Go.Proofs.YtmfcepdbpdihgaaGreatDoor
