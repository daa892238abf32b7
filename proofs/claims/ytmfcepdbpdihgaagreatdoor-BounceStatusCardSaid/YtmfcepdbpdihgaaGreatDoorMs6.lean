/- Hexadecimal digits. -/
import Derived.Test.YtmfcepdbpdihgaaGreatDoorMs5
import Derived.Test.YtmfcepdbpdihgaaGreatDoorRows
import Derived.Test.YtmfcepdbpdihgaaGreatDoorProg
import Derived.Test.YtmfcepdbpdihgaaGreatDoorMs2
import Derived.MakeChecks
set_option linter.unusedVariables false
set_option linter.unusedSimpArgs false
set_option maxRecDepth 100000
namespace Go.Proofs.YtmfcepdbpdihgaaGreatDoor.W
open Go Go.Ae Go.Pl
def lowT : List UInt8 := [48, 49, 50, 51, 52, 53, 54, 55, 56, 57, 97, 98, 99, 100, 101, 102, 103, 104, 105, 106, 107, 108, 109, 110, 111, 112, 113, 114, 115, 116, 117, 118, 119, 120, 121, 122]
def upT : List UInt8 := [48, 49, 50, 51, 52, 53, 54, 55, 56, 57, 65, 66, 67, 68, 69, 70]
def dgl (n : Nat) : UInt8 := lowT.getD n 0
def dgu (n : Nat) : UInt8 := upT.getD n 0
def hexF (d : Nat → UInt8) : Nat → Nat → List UInt8
  | 0, _ => []
  | f + 1, n => bif Nat.blt n 16 then [d n] else hexF d f (n / 16) ++ [d (n % 16)]
theorem hexF_lo (d : Nat → UInt8) (f n : Nat) (h : n < 16) : hexF d (f + 1) n = [d n] := by
  have : Nat.blt n 16 = true := by rw [Nat.blt_eq]; exact h
  simp [hexF, this]
theorem hexF_hi (d : Nat → UInt8) (f n : Nat) (h : 16 ≤ n) : hexF d (f + 1) n = hexF d f (n / 16) ++ [d (n % 16)] := by
  have : Nat.blt n 16 = false := by rw [← Bool.not_eq_true, Nat.blt_eq]; omega
  simp [hexF, this]
theorem hexF_more (d : Nat → UInt8) : ∀ (f g n : Nat), n < 16 ^ (f + 1) → f ≤ g → hexF d (g + 1) n = hexF d (f + 1) n
  | 0, g, n, h, _ => by rw [hexF_lo d g n (by simpa using h), hexF_lo d 0 n (by simpa using h)]
  | f + 1, 0, n, h, hg => by omega
  | f + 1, g + 1, n, h, hg => by
    by_cases h16 : n < 16
    · rw [hexF_lo d _ n h16, hexF_lo d _ n h16]
    · rw [hexF_hi d _ n (by omega), hexF_hi d _ n (by omega), hexF_more d f g (n / 16) (by rw [Nat.pow_succ] at h; omega) (by omega)]
theorem hexF_map (u : UInt8 → UInt8) (d e : Nat → UInt8) (hde : ∀ n, n < 16 → u (d n) = e n) : ∀ (f n : Nat), (hexF d f n).map u = hexF e f n
  | 0, n => rfl
  | f + 1, n => by
    by_cases h16 : n < 16
    · rw [hexF_lo d _ n h16, hexF_lo e _ n h16]; simp [hde n h16]
    · rw [hexF_hi d _ n (by omega), hexF_hi e _ n (by omega), List.map_append, hexF_map u d e hde f]; simp [hde (n % 16) (by omega)]
theorem hexF_all (p : UInt8 → Bool) (d : Nat → UInt8) (hd : ∀ n, n < 16 → p (d n) = true) : ∀ (f n : Nat), (hexF d f n).all p = true
  | 0, n => rfl
  | f + 1, n => by
    by_cases h16 : n < 16
    · rw [hexF_lo d _ n h16]; simp [hd n h16]
    · rw [hexF_hi d _ n (by omega), List.all_append, hexF_all p d hd f]; simp [hd (n % 16) (by omega)]
theorem hexF_len (d : Nat → UInt8) : ∀ (f n : Nat), (hexF d f n).length ≤ f
  | 0, n => Nat.le_refl _
  | f + 1, n => by
    by_cases h16 : n < 16
    · rw [hexF_lo d _ n h16]; simp
    · rw [hexF_hi d _ n (by omega)]; have := hexF_len d f (n / 16); simp; omega
/-- A number's digits, great letters. -/
def hexU (n : Nat) : List UInt8 := hexF dgu 16 n
theorem fin16 {p : Nat → Bool} (h : ((List.range 16).all p) = true) : ∀ n, n < 16 → p n = true := fun n hn => List.all_eq_true.1 h n (List.mem_range.2 hn)
theorem dgu_up : ∀ n, n < 16 → Lib.upperB (dgl n) = dgu n := fun n hn => by
  have := fin16 (p := fun n => decide (Lib.upperB (dgl n) = dgu n)) (by decide) n hn
  simpa using this
theorem dgl_low : ∀ n, n < 16 → decide ((dgl n).toNat < 128) = true := fin16 (p := fun n => decide ((dgl n).toNat < 128)) (by decide)
theorem dgu_low : ∀ n, n < 16 → decide ((dgu n).toNat < 128) = true := fin16 (p := fun n => decide ((dgu n).toNat < 128)) (by decide)
theorem dgu_slice : ∀ n, n < 16 → List.drop n (List.take (n + 1) upT) = [dgu n] := fun n hn => by
  have := fin16 (p := fun n => decide (List.drop n (List.take (n + 1) upT) = [dgu n])) (by decide) n hn
  simpa using this
theorem and15 {x : Int} (h0 : 0 ≤ x) (h1 : x < 18446744073709551616) : intBits .and .u64 x 15 = x % 16 := by
  have h := and64 (m := 4) h0 h1 (by omega)
  have e1 : (2 : Int) ^ 4 - 1 = 15 := by decide
  have e2 : (2 : Int) ^ 4 = 16 := by decide
  rw [e1, e2] at h
  exact h
theorem set_drop {l : List UInt8} {i : Nat} {x : UInt8} (h1 : 1 ≤ i) (h2 : i ≤ l.length) : (l.set (i - 1) x).drop (i - 1) = x :: l.drop i := by
  rw [List.drop_eq_getElem_cons (by simp; omega)]
  simp only [List.getElem_set_self, List.drop_set]
  rw [if_pos (by omega)]
  congr 2; omega
theorem bits_loop (b1 b2 : Bool) (p q : List UInt8) : ∀ (f : Nat) (u : Nat) (i : Nat) (arr : List UInt8) (n : Nat), u < 16 ^ (f + 1) → u < 18446744073709551616 → f + 1 ≤ i → i ≤ 65 → arr.length = 65 → f < n →
    ∃ (u' : Nat) (i' : Nat) (arr' : List UInt8), loopN F133_l0 n (p, (u : Int), b1, b2, q, (i : Int), 4, 16, 15, arr, ()) = some (p, (u' : Int), b1, b2, q, (i' : Int), arr', ()) ∧ u' < 16 ∧ arr'.length = 65 ∧ i ≤ i' + f ∧ i' ≤ i ∧ dgl u' :: arr'.drop i' = hexF dgl (f + 1) u ++ arr.drop i
  | _, _, _, _, 0, _, _, _, _, _, hn => by omega
  | 0, u, i, arr, n + 1, hu, hu2, hi, hi2, ha, hn => by
    have h16 : u < 16 := by simpa using hu
    refine ⟨u, i, arr, loopN_inr ?_, h16, ha, by omega, Nat.le_refl _, by rw [hexF_lo _ _ _ h16]; rfl⟩
    have e : decide ((u : Int) ≥ 16) = false := by simp; omega
    simp only [F133_l0, e, cond_false]
  | f + 1, u, i, arr, n + 1, hu, hu2, hi, hi2, ha, hn => by
    by_cases h16 : u < 16
    · refine ⟨u, i, arr, loopN_inr ?_, h16, ha, by omega, Nat.le_refl _, by rw [hexF_lo _ _ _ h16]; rfl⟩
      have e : decide ((u : Int) ≥ 16) = false := by simp; omega
      simp only [F133_l0, e, cond_false]
    · have e : decide ((u : Int) ≥ 16) = true := by simp; omega
      have ea := and15 (x := (u : Int)) (by omega) (by omega)
      have e1 : decide (0 ≤ (u : Int) % 16) = true := by simp; omega
      have e2 : decide ((u : Int) % 16 < (([48, 49, 50, 51, 52, 53, 54, 55, 56, 57, 97, 98, 99, 100, 101, 102, 103, 104, 105, 106, 107, 108, 109, 110, 111, 112, 113, 114, 115, 116, 117, 118, 119, 120, 121, 122].length : Nat) : Int)) = true := by simp; omega
      have ew : IntKind.i64.wrap ((i : Int) - 1) = ((i - 1 : Nat) : Int) := by rw [w64] <;> omega
      have e3 : decide (arr.length = 65) = true := by simp [ha]
      have e4 : decide (0 ≤ ((i - 1 : Nat) : Int)) = true := by simp
      have e5 : decide (((i - 1 : Nat) : Int) < (65 : Int)) = true := by simp; omega
      have e6 : decide (i - 1 < arr.length) = true := by simp; omega
      have e7 : decide ((0 : Int) ≤ 4) = true := by decide
      have ef : (u : Int).fdiv (2 ^ min (4 : Int).toNat IntKind.u64.bits) = ((u / 16 : Nat) : Int) := by
        have : (2 : Int) ^ min (4 : Int).toNat IntKind.u64.bits = 16 := by decide
        rw [this, fdiv_nn (by omega)]; omega
      have et : ((u : Int) % 16).toNat = u % 16 := by omega
      have es : F133_l0 (p, (u : Int), b1, b2, q, (i : Int), 4, 16, 15, arr, ()) = some (.inl (p, ((u / 16 : Nat) : Int), b1, b2, q, ((i - 1 : Nat) : Int), 4, 16, 15, arr.set (i - 1) (dgl (u % 16)), ())) := by
        simp only [F133_l0, e, ea, e1, e2, ew, e3, e4, e5, e6, e7, ef, et, Int.toNat_natCast, cond_true, Bool.and_self, byte_back, of_to]
        rfl
      obtain ⟨u', i', arr', h1, h2, h3, h4, h5, h6⟩ := bits_loop b1 b2 p q f (u / 16) (i - 1) (arr.set (i - 1) (dgl (u % 16))) n (by rw [Nat.pow_succ] at hu; omega) (by omega) (by omega) (by omega) (by simp [ha]) (by omega)
      have g1 : i ≤ i' + (f + 1) := by clear es h1 h6 e5 e6; omega
      have g2 : i' ≤ i := by clear es h1 h6 e5 e6; omega
      refine ⟨u', i', arr', by rw [loopN_inl es]; exact h1, h2, h3, g1, g2, ?_⟩
      rw [h6, hexF_hi dgl (f + 1) u (by omega), set_drop (by omega) (by omega), List.append_assoc]
      rfl
theorem pow2_16 : C161 (16, ()) = some (true, ()) := by kernel_rfl
theorem bits16 (neg : Bool) (u : Nat) (hu : u < 18446744073709551616) (arr : List UInt8) (ha : arr.length = 65) (p q : List UInt8) :
    C133_c2 (p, (u : Int), 16, neg, false, q, 65, arr, ()) = some ((bif neg then [45] else []) ++ hexF dgl 16 u, ()) := by
  obtain ⟨u', i', arr', h1, h2, h3, h4, h5, h6⟩ := bits_loop neg false p q 15 u 65 arr big (by omega) hu (by omega) (by omega) ha (by unfold big; omega)
  have h1' : C133_l0 (p, (u : Int), neg, false, q, 65, 4, 16, 15, arr, ()) = _ := h1
  have w1 : IntKind.u64.wrap 16 = 16 := by decide
  have w2 : IntKind.u64.wrap 4 = 4 := by decide
  have w3 : IntKind.u64.wrap (16 - 1) = 15 := by decide
  have t16 : C162 (16, ()) = some (4, ()) := by simp [C162]
  have e1 : decide (0 ≤ (u' : Int)) = true := by simp
  have e2 : decide ((u' : Int) < (([48, 49, 50, 51, 52, 53, 54, 55, 56, 57, 97, 98, 99, 100, 101, 102, 103, 104, 105, 106, 107, 108, 109, 110, 111, 112, 113, 114, 115, 116, 117, 118, 119, 120, 121, 122].length : Nat) : Int)) = true := by simp; omega
  have ew : IntKind.i64.wrap ((i' : Int) - 1) = ((i' - 1 : Nat) : Int) := by rw [w64] <;> omega
  have e3 : decide (arr'.length = 65) = true := by simp [h3]
  have e4 : decide (0 ≤ ((i' - 1 : Nat) : Int)) = true := by simp
  have e5 : decide (((i' - 1 : Nat) : Int) < (65 : Int)) = true := by simp; omega
  have e6 : decide (i' - 1 < arr'.length) = true := by simp; omega
  have e7 : decide ((arr'.set (i' - 1) (dgl u')).length = 65) = true := by simp [h3]
  have e8 : decide (((i' - 1 : Nat) : Int) ≤ ((arr'.set (i' - 1) (dgl u')).length : Int)) = true := by simp; omega
  have hd := set_drop (l := arr') (i := i') (x := dgl u') (by omega) (by omega)
  have hdl : arr.drop 65 = [] := List.drop_eq_nil_of_le (by omega)
  rw [h6, hdl, List.append_nil] at hd
  have hfin : C133_c1 (p, neg, false, q, ((i' - 1 : Nat) : Int), arr'.set (i' - 1) (dgl u'), ()) = some ((bif neg then [45] else []) ++ hexF dgl 16 u, ()) := by
    cases neg with
    | false =>
      simp only [C133_c1, F133_c1, C133_c0, F133_c0, cond_true, cond_false, e7, e4, e8, Bool.and_self, Int.toNat_natCast, Option.bind_some, hd, List.nil_append]
    | true =>
      have ew2 : IntKind.i64.wrap (((i' - 1 : Nat) : Int) - 1) = ((i' - 1 - 1 : Nat) : Int) := by rw [w64] <;> omega
      have g4 : decide (0 ≤ ((i' - 1 - 1 : Nat) : Int)) = true := by simp
      have g5 : decide (((i' - 1 - 1 : Nat) : Int) < (65 : Int)) = true := by simp; omega
      have g6 : decide (i' - 1 - 1 < (arr'.set (i' - 1) (dgl u')).length) = true := by simp; omega
      have g7 : decide (((arr'.set (i' - 1) (dgl u')).set (i' - 1 - 1) 45).length = 65) = true := by simp [h3]
      have g8 : decide (((i' - 1 - 1 : Nat) : Int) ≤ (((arr'.set (i' - 1) (dgl u')).set (i' - 1 - 1) 45).length : Int)) = true := by simp; omega
      have hd2 := set_drop (l := arr'.set (i' - 1) (dgl u')) (i := i' - 1) (x := 45) (by omega) (by simp; omega)
      rw [hd] at hd2
      simp only [C133_c1, F133_c1, C133_c0, F133_c0, cond_true, cond_false, e7, ew2, g4, g5, g6, g7, g8, Bool.and_self, Int.toNat_natCast, Option.bind_some, hd2]
      rfl
  simp only [C133_c2, F133_c2, pow2_16, w1, w2, w3, t16, h1', Option.bind_some, cond_true, e1, e2, Bool.and_self, ew, e3, e4, e5, e6, Int.toNat_natCast, byte_back, of_to]
  have hk : ∀ x : UInt8, x = dgl u' → (C133_c1 (p, neg, false, q, ((i' - 1 : Nat) : Int), arr'.set (i' - 1) x, ())).bind (fun val => some (val.fst, ())) = some ((bif neg then [45] else []) ++ hexF dgl 16 u, ()) := fun x hx => by
    rw [hx, hfin]; rfl
  exact hk _ rfl
theorem fmt16 (n : Int) (h0 : -9223372036854775807 ≤ n) (h1 : n ≤ 9223372036854775807) : C68 (n, 16, ()) = some ((bif decide (n < 0) then [45] else []) ++ hexF dgl 16 n.natAbs, ()) := by
  have e10 : ((16 : Int) == 10) = false := rfl
  have e2 : decide ((16 : Int) < 2) = false := rfl
  have e36 : decide ((16 : Int) > 36) = false := rfl
  by_cases hn : n < 0
  · have d : decide (n < 0) = true := by simp [hn]
    have hw : IntKind.u64.wrap (0 - IntKind.u64.wrap n) = ((n.natAbs : Nat) : Int) := by rw [IntKind.wrap_u64, IntKind.wrap_u64]; omega
    simp only [C68, F68, C97, F97, C133, F133, e10, e2, e36, d, hw, cond_true, cond_false]
    rw [bits16 true n.natAbs (by omega) _ rfl]
    rfl
  · have d : decide (n < 0) = false := by simp [hn]
    have hw : IntKind.u64.wrap n = ((n.natAbs : Nat) : Int) := by rw [IntKind.wrap_u64]; omega
    simp only [C68, F68, C97, F97, C133, F133, e10, e2, e36, d, hw, cond_true, cond_false]
    rw [bits16 false n.natAbs (by omega) _ rfl]
    rfl
theorem c34 (n : Int) (h0 : -9223372036854775807 ≤ n) (h1 : n ≤ 9223372036854775807) : C34 (n, ()) = some ((bif decide (n < 0) then [45] else []) ++ hexU n.natAbs, ()) := by
  have hl := hexF_len dgl 16 n.natAbs
  have ha := hexF_all (fun b => decide (b.toNat < 128)) dgl dgl_low 16 n.natAbs
  have hm := hexF_map Lib.upperB dgl dgu dgu_up 16 n.natAbs
  simp only [C34, F34, fmt16 n h0 h1, Option.bind_some, C67]
  cases decide (n < 0) with
  | false =>
    rw [if_pos ⟨by simp; omega, by simpa using ha⟩]
    simp only [cond_false, List.nil_append, hm, Option.bind_some, hexU]
  | true =>
    rw [if_pos ⟨by simp; omega, by simpa using ha⟩]
    simp only [cond_true, List.cons_append, List.nil_append, List.map_cons, hm, Option.bind_some, hexU]
    rfl
theorem refhex : ∀ (f n m : Nat), n < 16 ^ (f + 1) → n < 9223372036854775808 → f < m → recN (fun G => F37 G) m ((n : Int), ()) = some (hexF dgu (f + 1) n, ())
  | _, _, 0, _, _, hm => by omega
  | f, n, m + 1, hn, hb, hm => by
    show F37 (recN (fun G => F37 G) m) ((n : Int), ()) = _
    by_cases h16 : n < 16
    · have e : decide ((n : Int) < 16) = true := by simp; omega
      have ew : IntKind.i64.wrap ((n : Int) + 1) = ((n + 1 : Nat) : Int) := wrN _ (by omega)
      have e1 : decide (0 ≤ ((n + 1 : Nat) : Int)) = true := by simp; omega
      have e2 : decide (((n + 1 : Nat) : Int) ≤ (([48, 49, 50, 51, 52, 53, 54, 55, 56, 57, 65, 66, 67, 68, 69, 70].length : Nat) : Int)) = true := by simp; omega
      have e3 : decide (0 ≤ (n : Int)) = true := by simp
      have e4 : decide ((n : Int) ≤ ((n + 1 : Nat) : Int)) = true := by simp; omega
      have hs := dgu_slice n h16
      simp only [F37, e, ew, e1, e2, e3, e4, cond_true, Bool.and_self, Int.toNat_natCast]
      rw [hexF_lo _ _ _ h16]
      exact congrArg (fun x => some (x, ())) hs
    · match f, hn with
      | 0, hn => omega
      | f + 1, hn =>
        have e : decide ((n : Int) < 16) = false := by simp; omega
        have ed : (n : Int).tdiv 16 = ((n / 16 : Nat) : Int) := by rw [tdiv_nn _ (by omega)]; omega
        have em : (n : Int).tmod 16 = ((n % 16 : Nat) : Int) := by rw [tmod_nn _ (by omega)]; omega
        have ew : IntKind.i64.wrap ((n / 16 : Nat) : Int) = ((n / 16 : Nat) : Int) := by rw [w64] <;> omega
        have i1 := refhex f (n / 16) m (by rw [Nat.pow_succ] at hn; omega) (by omega) (by omega)
        have i2 := refhex f (n % 16) m (by have : n % 16 < 16 := Nat.mod_lt _ (by omega); have := Nat.one_le_two_pow (n := f); rw [Nat.pow_succ]; have := Nat.one_le_pow f 16 (by omega); omega) (by omega) (by omega)
        have hl := hexF_len dgu (f + 1) (n / 16)
        rw [hexF_lo _ _ _ (Nat.mod_lt _ (by omega))] at i2
        rw [hexF_hi _ _ _ (by omega)]
        have hlen : (hexF dgu (f + 1) (n / 16)).length ≤ 9223372036854775000 := by
          have := hexF_more dgu 15 (f + 1) (n / 16)
          by_cases hf : f ≤ 15
          · omega
          · have h2 := hexF_more dgu 15 f (n / 16) (by omega) (by omega)
            rw [h2]
            have := hexF_len dgu (15 + 1) (n / 16)
            omega
        have el : decide ((hexF dgu (f + 1) (n / 16)).length + [dgu (n % 16)].length ≤ 9223372036854775807) = true := by simp; omega
        simp only [F37, e, ed, em, ew, i1, i2, el, Option.bind_some, cond_true, cond_false]
theorem c37 (n : Nat) (hb : n < 9223372036854775808) : C37 ((n : Int), ()) = some (hexU n, ()) := by
  rw [C37]
  exact refhex 15 n big (by omega) hb (by unfold big; omega)
end Go.Proofs.YtmfcepdbpdihgaaGreatDoor.W
/- Statuses. -/
set_option linter.unusedVariables false
set_option linter.unusedSimpArgs false
set_option maxRecDepth 100000
namespace Go.Proofs.YtmfcepdbpdihgaaGreatDoor.W
open Go Go.Ae Go.Pl
theorem bd64 {x : Int} (h : (Lit.int .i64 x).wf = true) : -9223372036854775808 ≤ x ∧ x ≤ 9223372036854775807 := by
  simp [Lit.wf, IntKind.min, IntKind.max, IntKind.signed, IntKind.bits] at h
  omega
/-- A status as it is told. -/
def stS (n : Int) : List UInt8 := if n < 100 ∨ 999 < n then [53, 46, 48, 46, 48] else [b8 (48 + n / 100), 46, b8 (48 + n / 10 % 10), 46, b8 (48 + n % 10)]
theorem dig3 (m : Nat) (h0 : 100 ≤ m) (h1 : m ≤ 999) : digF 20 m = [UInt8.ofNat (48 + m / 100), UInt8.ofNat (48 + m / 10 % 10), UInt8.ofNat (48 + m % 10)] := by
  have e1 : ¬ m < 10 := by omega
  have e2 : ¬ m / 10 < 10 := by omega
  have e3 : m / 10 / 10 < 10 := by omega
  have e4 : m / 10 / 10 = m / 100 := by omega
  rw [digF, if_neg e1, digF, if_neg e2, digF, if_pos e3, e4]
  rfl
theorem b8n {n : Int} {m : Nat} (h : n = m) : b8 (48 + n) = UInt8.ofNat (48 + m) := by
  subst h; unfold b8; congr 1
theorem c13 (n : Int) (h0 : -9223372036854775808 ≤ n) (h1 : n ≤ 9223372036854775807) : C13 (n, ()) = some (stS n, ()) := by
  unfold stS
  by_cases ha : n < 100
  · have d : decide (n < 100) = true := by simp [ha]
    simp only [C13, F13, d, cond_true, if_pos (Or.inl ha : n < 100 ∨ 999 < n)]
  · by_cases hb : n > 999
    · have d : decide (n < 100) = false := by simp [ha]
      have d2 : decide (n > 999) = true := by simp; omega
      simp only [C13, F13, d, d2, cond_true, cond_false, if_pos (Or.inr hb : n < 100 ∨ 999 < n)]
    · have d : decide (n < 100) = false := by simp [ha]
      have d2 : decide (n > 999) = false := by simp; omega
      have hI : C38 (n, ()) = some ([UInt8.ofNat (48 + n.toNat / 100), UInt8.ofNat (48 + n.toNat / 10 % 10), UInt8.ofNat (48 + n.toNat % 10)], ()) := by
        rw [C38, if_pos ⟨h0, h1⟩]
        unfold itoaF
        rw [if_neg (by omega), dig3 _ (by omega) (by omega)]
      have hneg : ¬ (n < 100 ∨ 999 < n) := by omega
      rw [if_neg hneg, b8n (n := n / 100) (m := n.toNat / 100) (by omega), b8n (n := n / 10 % 10) (m := n.toNat / 10 % 10) (by omega), b8n (n := n % 10) (m := n.toNat % 10) (by omega)]
      simp only [C13, F13, d, d2, cond_false, hI, Option.bind_some]
      rfl
theorem num10 (m : Nat) (n : Nat) (h : n < 10) (hm : 0 < m) : recN (fun G => F39 G) m ((n : Int), ()) = some ([UInt8.ofNat (48 + n)], ()) := by
  match m with
  | m + 1 =>
    show F39 _ ((n : Int), ()) = _
    rcases (show n = 0 ∨ n = 1 ∨ n = 2 ∨ n = 3 ∨ n = 4 ∨ n = 5 ∨ n = 6 ∨ n = 7 ∨ n = 8 ∨ n = 9 by omega) with rfl | rfl | rfl | rfl | rfl | rfl | rfl | rfl | rfl | rfl <;> rfl
theorem c39_10 (n : Int) (h0 : 0 ≤ n) (h : n < 10) : C39 (n, ()) = some ([b8 (48 + n)], ()) := by
  rw [C39, b8n (m := n.toNat) (by omega)]
  have := num10 big n.toNat (by omega) (by unfold big; omega)
  rw [show ((n.toNat : Nat) : Int) = n by omega] at this
  exact this
theorem c14 (n : Int) : C14 (n, ()) = some (stS n, ()) := by
  unfold stS
  by_cases ha : n < 100
  · have d : decide (n < 100) = true := by simp [ha]
    simp only [C14, F14, d, cond_true, if_pos (Or.inl ha : n < 100 ∨ 999 < n)]
  · by_cases hb : n > 999
    · have d : decide (n < 100) = false := by simp [ha]
      have d2 : decide (n > 999) = true := by simp; omega
      simp only [C14, F14, d, d2, cond_true, cond_false, if_pos (Or.inr hb : n < 100 ∨ 999 < n)]
    · have d : decide (n < 100) = false := by simp [ha]
      have d2 : decide (n > 999) = false := by simp; omega
      have hneg : ¬ (n < 100 ∨ 999 < n) := by omega
      have e1 : IntKind.i64.wrap (n.tdiv 100) = n / 100 := by rw [tdiv_nn _ (by omega), w64] <;> omega
      have e2 : (IntKind.i64.wrap (n.tdiv 10)).tmod 10 = n / 10 % 10 := by rw [tdiv_nn _ (by omega), w64 (by omega) (by omega), tmod_nn _ (by omega)]
      have e3 : n.tmod 10 = n % 10 := tmod_nn _ (by omega)
      rw [if_neg hneg]
      simp only [C14, F14, d, d2, cond_false, e1, e2, e3, c39_10 (n / 100) (by omega) (by omega), c39_10 (n / 10 % 10) (by omega) (by omega), c39_10 (n % 10) (by omega) (by omega), Option.bind_some]
      rfl
theorem stS_inj {n m : Int} (hn : ¬ (n < 100 ∨ 999 < n)) (hm : ¬ (m < 100 ∨ 999 < m)) : (stS n == stS m) = (n == m) := by
  have hn' : stS n = [b8 (48 + n / 100), 46, b8 (48 + n / 10 % 10), 46, b8 (48 + n % 10)] := by rw [stS, if_neg hn]
  have hm' : stS m = [b8 (48 + m / 100), 46, b8 (48 + m / 10 % 10), 46, b8 (48 + m % 10)] := by rw [stS, if_neg hm]
  by_cases h : n = m
  · subst h; simp
  · rw [ibF h]
    rw [beq_eq_false_iff_ne]
    intro e
    rw [hn', hm'] at e
    simp only [List.cons.injEq, and_true, true_and] at e
    obtain ⟨a, b, c⟩ := e
    have a' := congrArg cv a
    have b' := congrArg cv b
    have c' := congrArg cv c
    rw [b8_cv (by omega) (by omega), b8_cv (by omega) (by omega)] at a' b' c'
    omega
end Go.Proofs.YtmfcepdbpdihgaaGreatDoor.W
/- Statuses from 100 to 999 are told apart, by three digits. -/
set_option linter.unusedVariables false
set_option maxRecDepth 100000
namespace Go.Proofs.YtmfcepdbpdihgaaGreatDoor.PBounceStatus
open Go Go.Ae Go.Pl Go.Proofs.YtmfcepdbpdihgaaGreatDoor.W
theorem main (x0 x1 : Int) (h0 : -9223372036854775808 ≤ x0 ∧ x0 ≤ 9223372036854775807) (h1 : -9223372036854775808 ≤ x1 ∧ x1 ≤ 9223372036854775807) : C7 (x0, x1, ()) = some (true, ()) := by
  have c8 : C8 () = some (true, ()) := rfl
  have key : ∀ t : Bool, (t = true ↔ (x0 < 100 ∨ 999 < x0) ∨ (x1 < 100 ∨ 999 < x1)) →
      ((C7_c0 (x0, x1, true, stS x0, stS x1, t, ())).bind fun val => Sum.elim (fun val => some (val.fst, ())) (fun val => (C7_c1 (val.fst, val.snd.fst, val.snd.snd.fst, val.snd.snd.snd.fst, val.snd.snd.snd.snd.fst, ())).bind fun val => some (val.fst, ())) val) = (some (true, ()) : Option (Bool × Unit)) := by
    intro t ht
    cases t with
    | true =>
      have ht' := ht.1 rfl
      by_cases ha : x0 ≥ 100
      · by_cases hb : x0 ≤ 999
        · have d1 : decide (x0 ≥ 100) = true := by simp [ha]
          have d2 : decide (x0 ≤ 999) = true := by simp [hb]
          simp only [C7_c0, F7_c0, d1, d2, cond_true, Option.bind_some, Sum.elim_inl]
        · have d1 : decide (x0 ≥ 100) = true := by simp [ha]
          have d2 : decide (x0 ≤ 999) = false := by simp [hb]
          have hs : stS x0 = [53, 46, 48, 46, 48] := by rw [stS, if_pos (by omega)]
          simp only [C7_c0, F7_c0, d1, d2, hs, cond_true, cond_false, Option.bind_some, Sum.elim_inl]
          rfl
      · have d1 : decide (x0 ≥ 100) = false := by simp [ha]
        have hs : stS x0 = [53, 46, 48, 46, 48] := by rw [stS, if_pos (by omega)]
        simp only [C7_c0, F7_c0, d1, hs, cond_true, cond_false, Option.bind_some, Sum.elim_inl]
        rfl
    | false =>
      have hn : ¬ (x0 < 100 ∨ 999 < x0) := fun h => by have := ht.2 (.inl h); cases this
      have hm : ¬ (x1 < 100 ∨ 999 < x1) := fun h => by have := ht.2 (.inr h); cases this
      have hs : stS x0 = [b8 (48 + x0 / 100), 46, b8 (48 + x0 / 10 % 10), 46, b8 (48 + x0 % 10)] := by rw [stS, if_neg hn]
      have hi := stS_inj hn hm
      have e1 := b8_cv (n := 48 + x0 / 100) (by omega) (by omega)
      have e2 := b8_cv (n := 48 + x0 / 10 % 10) (by omega) (by omega)
      have e3 := b8_cv (n := 48 + x0 % 10) (by omega) (by omega)
      unfold cv at e1 e2 e3
      have g : IntKind.i64.wrap (IntKind.i64.wrap (IntKind.i64.wrap (IntKind.i64.wrap (IntKind.u8.wrap (((b8 (48 + x0 / 100)).toNat : Int) - 48)) * 100) + IntKind.i64.wrap (IntKind.i64.wrap (IntKind.u8.wrap (((b8 (48 + x0 / 10 % 10)).toNat : Int) - 48)) * 10)) + IntKind.i64.wrap (IntKind.u8.wrap (((b8 (48 + x0 % 10)).toNat : Int) - 48))) = x0 := by
        rw [e1, e2, e3, wu8 (by omega) (by omega), wu8 (by omega) (by omega), wu8 (by omega) (by omega), w64 (n := 48 + x0 / 100 - 48) (by omega) (by omega), w64 (n := 48 + x0 / 10 % 10 - 48) (by omega) (by omega), w64 (n := 48 + x0 % 10 - 48) (by omega) (by omega),
          w64 (n := (48 + x0 / 100 - 48) * 100) (by omega) (by omega), w64 (n := (48 + x0 / 10 % 10 - 48) * 10) (by omega) (by omega), w64 (n := (48 + x0 / 100 - 48) * 100 + (48 + x0 / 10 % 10 - 48) * 10) (by omega) (by omega), w64 (by omega) (by omega)]
        omega
      have g' : (IntKind.i64.wrap (IntKind.i64.wrap (IntKind.i64.wrap (IntKind.i64.wrap (IntKind.u8.wrap ((((stS x0).getD 0 0).toNat : Int) - 48)) * 100) + IntKind.i64.wrap (IntKind.i64.wrap (IntKind.u8.wrap ((((stS x0).getD 2 0).toNat : Int) - 48)) * 10)) + IntKind.i64.wrap (IntKind.u8.wrap ((((stS x0).getD 4 0).toNat : Int) - 48))) == x0) = true := by
        rw [hs]; exact ibT g
      have hl : ((stS x0).length : Int) = 5 := by rw [hs]; rfl
      have l1 : ((((stS x0).getD 1 0).toNat : Int) == 46) = true := by rw [hs]; rfl
      have l3 : ((((stS x0).getD 3 0).toNat : Int) == 46) = true := by rw [hs]; rfl
      simp only [C7_c0, F7_c0, C7_c1, F7_c1, cond_true, cond_false, Option.bind_some, Sum.elim_inl, Sum.elim_inr, g', hl, l1, l3, hi]
      simp
  have hT := key true
  have hF := key false
  simp only [C7, F7, c8, c13 x0 h0.1 h0.2, c13 x1 h1.1 h1.2, Option.bind_some]
  by_cases a1 : x0 < 100
  · have d : decide (x0 < 100) = true := by simp [a1]
    rw [d, cond_true]; exact hT (by simp [a1])
  · by_cases a2 : x0 > 999
    · have d : decide (x0 < 100) = false := by simp [a1]
      have d2 : decide (x0 > 999) = true := by simp; omega
      rw [d, d2, cond_false, cond_true]; exact hT (by simp; omega)
    · by_cases a3 : x1 < 100
      · have d : decide (x0 < 100) = false := by simp [a1]
        have d2 : decide (x0 > 999) = false := by simp; omega
        have d3 : decide (x1 < 100) = true := by simp [a3]
        rw [d, d2, d3, cond_false, cond_false, cond_true]; exact hT (by simp; omega)
      · have d : decide (x0 < 100) = false := by simp [a1]
        have d2 : decide (x0 > 999) = false := by simp; omega
        have d3 : decide (x1 < 100) = false := by simp [a3]
        rw [d, d2, d3, cond_false, cond_false, cond_false]
        exact key _ (by simp; omega)
theorem pure (x0 : (Ty.int .i64).den) (b0 : Bd (Ty.int .i64) x0) (x1 : (Ty.int .i64).den) (b1 : Bd (Ty.int .i64) x1) : C7 (x0, x1, ()) = some (true, ()) := main x0 x1 (bd64 b0) (bd64 b1)
end Go.Proofs.YtmfcepdbpdihgaaGreatDoor.PBounceStatus
/- What the listed variables tell. -/
set_option linter.unusedVariables false
set_option maxRecDepth 100000
namespace Go.Proofs.YtmfcepdbpdihgaaGreatDoor
open Go Go.Ae Go.RowKit
theorem glob {W : World} (hL : laidMetH Tryz.prog Rows.bounceStatusRow.laid W) (hsh : W.ShapedOpen Tryz.prog) : GI W m0 := by
  rw [MakeChecks.laidMetH_plain _ _ _ (by kernel_rfl)] at hL
  obtain ⟨m, hm⟩ := Go.Proofs.cell_of_shapedOpen_int (g := 0) (k := .i64) (t := 3) (zero := #[.int .i64 0]) hsh (of_decide_eq_true (by kernel_rfl)) (by kernel_rfl) (by kernel_rfl) (by kernel_rfl) (by kernel_rfl) (by kernel_rfl)
  have g8 : Tryz.prog.globalNamed "math/bits.deBruijn64tab" = some 8 := by kernel_rfl
  have g4 : Tryz.prog.globalNamed "internal/strconv.uint64pow10" = some 4 := by kernel_rfl
  have g2 : Tryz.prog.globalNamed "strconv.ErrRange" = some 2 := by kernel_rfl
  have g1 : Tryz.prog.globalNamed "strconv.ErrSyntax" = some 1 := by kernel_rfl
  have h8 : Lib.TabIs Tryz.prog W "math/bits.deBruijn64tab" .u8 deBruijn64 := Lib.tabIs_of_head (zs := deBruijn64) (t := 186) (e := 5) (n := 64) g8 (by kernel_rfl) (by kernel_rfl) (by kernel_rfl) (by kernel_rfl) (by kernel_rfl) hL.tail
  have h4 : Lib.TabIs Tryz.prog W "internal/strconv.uint64pow10" .u64 tens := Lib.tabIs_of_head (zs := tens) (t := 161) (e := 126) (n := 20) g4 (by kernel_rfl) (by kernel_rfl) (by kernel_rfl) (by kernel_rfl) (by kernel_rfl) hL.tail.tail
  obtain ⟨t2, p2, h2⟩ := laid_iface (ti := 69) (ms := #[("Error", 73)]) hL.tail.tail.tail.tail g2 (by kernel_rfl) (by kernel_rfl)
  obtain ⟨t1, p1, h1⟩ := laid_iface (ti := 69) (ms := #[("Error", 73)]) hL.tail.tail.tail.tail.tail g1 (by kernel_rfl) (by kernel_rfl)
  obtain ⟨ty8, fz8, k8⟩ := var_heap g8 h8
  obtain ⟨ty4, fz4, k4⟩ := var_heap g4 h4
  obtain ⟨ty2, fz2, k2⟩ := var_heap g2 h2
  obtain ⟨ty1, fz1, k1⟩ := var_heap g1 h1
  refine ⟨⟨⟨m, hm⟩, ⟨t1, p1, cell_of_heap0 k1⟩, ⟨t2, p2, cell_of_heap0 k2⟩, ⟨ty4, fz4, k4⟩, ⟨ty8, fz8, k8⟩⟩, fun b hb => ⟨?_, fun h => h⟩⟩
  simp only [GlobB, List.mem_cons, List.not_mem_nil, or_false] at hb
  rcases hb with rfl | rfl | rfl | rfl | rfl
  · exact lt_of_cell hm
  · exact lt_of_heap k1
  · exact lt_of_heap k2
  · exact lt_of_heap k4
  · exact lt_of_heap k8
end Go.Proofs.YtmfcepdbpdihgaaGreatDoor
