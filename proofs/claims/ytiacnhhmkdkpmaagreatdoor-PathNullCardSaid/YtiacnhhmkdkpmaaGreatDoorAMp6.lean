/- The texts of the proof, one behind the other: PD6, PD7, PD8, PD9, PLT, PPN, W15, PPathNull, PGlob. -/
import Derived.Test.YtiacnhhmkdkpmaaGreatDoorAMp5
import Derived.Test.YtiacnhhmkdkpmaaGreatDoorAMp4
import Derived.Lib.IndexMore
import Derived.Test.YtiacnhhmkdkpmaaGreatDoorRows
import Derived.Test.YtiacnhhmkdkpmaaGreatDoorProg
import Derived.Test.YtiacnhhmkdkpmaaGreatDoorAMp2
import Derived.MakeChecks
set_option linter.unusedVariables false
set_option linter.unusedSimpArgs false
set_option maxRecDepth 100000
namespace Go.Proofs.YtiacnhhmkdkpmaaGreatDoorA.W
open Go Go.Ae
section
variable {T : List R6} {A : List R4} {B : List R3}
theorem d278 (hA : A.length ≤ 1000000000000) (a b : Int) : Df (C278 (a, b, T, A, B, ())) (fun y => y.2 = (T, A, B, ())) := by
 unfold C278 F278
 dsimp only
 refine dZ (d276 T A B _ hA) ?_
 rintro ⟨x, u⟩ -
 exact dZ (d276 T A B _ hA) fun _ _ => dP rfl
theorem d310_0 (o n : Nat) (a b i j : Int) (row : List Int) (hj : 1 ≤ j ∧ j < n) (hn : n ≤ 100000000000000) :
 Df (C310_c0 (((o : Int), (n : Int)), a, b, i, j, row, T, A, B, ())) (fun y => ∃ (r' : List Int), r'.length = row.length ∧ y = (((o : Int), (n : Int)), a, b, i, j - 1, r', T, A, B, ())) := by
 unfold C310_c0 F310_c0
 dsimp only
 simp only [Int.toNat_natCast]
 rw [w64s (n := j - 1) (by omega)]
 with_reducible repeat' (first | apply dP | apply dX <;> intro _)
 · exact ⟨_, by simp only [List.length_set], rfl⟩
 all_goals (refine dO ?_; omega)
theorem d310_1 (hA : A.length ≤ 1000000000000) (o n : Nat) (a b i j : Int) (row : List Int) (ha : 0 ≤ a) (hj : a ≤ j ∧ j < n) (hn : n ≤ 100000000000000) :
 Df (C310_l0 (((o : Int), (n : Int)), a, b, i, j, row, T, A, B, ())) (fun y => ∃ (r' : List Int), r'.length = row.length ∧ y = (((o : Int), (n : Int)), a, b, i, r', T, A, B, ())) := by
 refine dL ?I ?m ?h _ ?hv ?hn
 case I => exact (fun v => ∃ (j' : Int) (r' : List Int), a ≤ j' ∧ j' < n ∧ r'.length = row.length ∧ v = (((o : Int), (n : Int)), a, b, i, j', r', T, A, B, ()))
 case m => exact (fun v => (v.2.2.2.2.1 - a).toNat)
 case hv => exact ⟨j, row, hj.1, hj.2, rfl, rfl⟩
 case hn => exact (by first | omega | (dsimp only; omega))
 rintro v ⟨j', r', h1, h2, h3, rfl⟩
 unfold F310_l0
 dsimp only
 simp only [Int.toNat_natCast]
 rw [w64s (n := j' - 1) (by omega)]
 with_reducible repeat' (first | apply dP | apply dX <;> intro _)
 · refine dZ (d278 hA _ _) ?_
   rintro ⟨c, t, a', b', u⟩ hc
   simp only [Prod.mk.injEq] at hc
   obtain ⟨rfl, rfl, rfl, -⟩ := hc
   dsimp only
   with_reducible repeat' (first | apply dP | apply dX <;> intro _)
   · refine dZ (d310_0 o n a b i j' r' (by omega) hn) ?_
     rintro y ⟨r2, h4, rfl⟩
     dsimp only
     simp only [Int.toNat_natCast]
     exact dP ⟨⟨_, _, by omega, by omega, h4.trans h3, rfl⟩, by first | omega | (dsimp only; omega)⟩
   · exact ⟨_, h3, rfl⟩
 · refine dO ?_; omega
 · refine dO ?_; omega
 · exact ⟨_, h3, rfl⟩
theorem d310 (hA : A.length ≤ 1000000000000) (o n : Nat) (a b : Int) (row : List Int) (ha : 0 ≤ a ∧ a ≤ n) (hb : b ≤ n) (hn : n ≤ 100000000000000) :
 Df (C310 (((o : Int), (n : Int)), a, b, row, T, A, B, ())) (fun y => ∃ (r' : List Int), r'.length = row.length ∧ y = (r', T, A, B, ())) := by
 unfold C310 F310
 dsimp only
 simp only [Int.toNat_natCast]
 rw [w64s (n := a + 1) (by omega)]
 refine dZ (P := fun y => ∃ (r' : List Int), r'.length = row.length ∧ y = (r', T, A, B, ())) ?_ ?_
 · refine dL ?I ?m ?h _ ?hv ?hn
   case I => exact (fun v => ∃ (i : Int) (r' : List Int), a + 1 ≤ i ∧ r'.length = row.length ∧ v = (((o : Int), (n : Int)), a, b, i, r', T, A, B, ()))
   case m => exact (fun v => (b - v.2.2.2.1).toNat)
   case hv => exact ⟨a + 1, row, Int.le_refl _, rfl, rfl⟩
   case hn => exact (by first | omega | (dsimp only; omega))
   rintro v ⟨i, r', h1, h2, rfl⟩
   unfold F310_l1
   dsimp only
   simp only [Int.toNat_natCast]
   with_reducible repeat' (first | apply dP | apply dX <;> intro _)
   · refine dZ (d310_1 hA o n a b i i r' ha.1 (by omega) hn) ?_
     rintro y ⟨r2, h4, rfl⟩
     dsimp only
     simp only [Int.toNat_natCast]
     rw [w64s (n := i + 1) (by omega)]
     exact dP ⟨⟨_, _, by omega, h4.trans h2, rfl⟩, by first | omega | (dsimp only; omega)⟩
   · exact ⟨_, h2, rfl⟩
 · rintro y ⟨r', h, rfl⟩
   exact dP ⟨_, h, rfl⟩
theorem d316 (o n : Nat) (a b k : Int) (row : List Int) (ha : 0 ≤ a ∧ a + k ≤ n) (hb : 0 ≤ b ∧ b + k ≤ n) (hn : n ≤ 100000000000000) :
 Df (C316 (((o : Int), (n : Int)), a, b, k, row, T, A, B, ())) (fun y => ∃ (r' : List Int), r'.length = row.length ∧ y = (r', T, A, B, ())) := by
 unfold C316 F316
 dsimp only
 simp only [Int.toNat_natCast]
 refine dZ (P := fun y => ∃ (r' : List Int), r'.length = row.length ∧ y = (r', T, A, B, ())) ?_ ?_
 · refine dL ?I ?m ?h _ ?hv ?hn
   case I => exact (fun v => ∃ (i : Int) (r' : List Int), 0 ≤ i ∧ r'.length = row.length ∧ v = (((o : Int), (n : Int)), a, b, k, i, r', T, A, B, ()))
   case m => exact (fun v => (k - v.2.2.2.2.1).toNat)
   case hv => exact ⟨0, row, Int.le_refl _, rfl, rfl⟩
   case hn => exact (by first | omega | (dsimp only; omega))
   rintro v ⟨i, r', h1, h2, rfl⟩
   unfold F316_l0
   dsimp only
   simp only [Int.toNat_natCast]
   by_cases hlt : i < k
   · rw [w64s (n := a + i) (by omega), w64s (n := b + i) (by omega), w64s (n := i + 1) (by omega)]
     with_reducible repeat' (first | apply dP | apply dX <;> intro _)
     · exact ⟨⟨_, _, by omega, by simp only [List.length_set]; exact h2, rfl⟩, by first | omega | (dsimp only; omega)⟩
     all_goals first | (refine dO ?_; omega) | (exfalso; omega)
   · rw [decide_eq_false hlt]
     exact dP ⟨_, h2, rfl⟩
 · rintro y ⟨r', h, rfl⟩
   exact dP ⟨_, h, rfl⟩
theorem d315 (o n : Nat) (a m b : Int) (row : List Int) (ha : 0 ≤ a ∧ a < m) (hb : m < b ∧ b ≤ n) (hn : n ≤ 100000000000000) :
 Df (C315 (((o : Int), (n : Int)), a, m, b, row, T, A, B, ())) (fun y => ∃ (r' : List Int), r'.length = row.length ∧ y = (r', T, A, B, ())) := by
 unfold C315 F315
 dsimp only
 simp only [Int.toNat_natCast]
 rw [w64s (n := m - a) (by omega), w64s (n := b - m) (by omega)]
 refine dZ (P := fun y => ∃ (i : Int) (r' : List Int), 0 ≤ i ∧ i ≤ m - a ∧ m + i ≤ n ∧ r'.length = row.length ∧ y = (((o : Int), (n : Int)), m, i, r', T, A, B, ())) ?_ ?_
 · refine dL ?I ?m ?h _ ?hv ?hn
   case I => exact (fun v => ∃ (i : Int) (j : Int) (r' : List Int), 0 < i ∧ 0 < j ∧ i ≤ m - a ∧ j ≤ b - m ∧ r'.length = row.length ∧ v = (((o : Int), (n : Int)), m, i, j, r', T, A, B, ()))
   case m => exact (fun v => (v.2.2.1 + v.2.2.2.1).toNat)
   case hv => exact ⟨m - a, b - m, row, by omega, by omega, Int.le_refl _, Int.le_refl _, rfl, rfl⟩
   case hn => exact (by first | omega | (dsimp only; omega))
   rintro v ⟨i, j, r', h1, h2, h3, h4, h5, rfl⟩
   unfold F315_l0
   dsimp only
   simp only [Int.toNat_natCast]
   rw [w64s (n := m - i) (by omega), w64s (n := i - j) (by omega), w64s (n := j - i) (by omega), w64s (n := m + j) (by omega), w64s (n := m + j - i) (by omega)]
   with_reducible repeat' (first | apply dP | apply dX <;> intro _)
   · refine dZ (d316 o n (m - i) m j r' (by omega) (by omega) hn) ?_
     rintro y ⟨r2, h6, rfl⟩
     dsimp only
     exact dP ⟨⟨_, _, _, by omega, by omega, by omega, by omega, h6.trans h5, rfl⟩, by first | omega | (dsimp only; omega)⟩
   · refine dZ (d316 o n (m - i) (m + j - i) i r' (by omega) (by omega) hn) ?_
     rintro y ⟨r2, h6, rfl⟩
     dsimp only
     exact dP ⟨⟨_, _, _, by omega, by omega, by omega, by omega, h6.trans h5, rfl⟩, by first | omega | (dsimp only; omega)⟩
   · exact ⟨_, _, by omega, by omega, by omega, h5, rfl⟩
 · rintro y ⟨i, r', h1, h2, h3, h4, rfl⟩
   dsimp only
   simp only [Int.toNat_natCast]
   rw [w64s (n := m - i) (by omega)]
   refine dZ (d316 o n (m - i) m i r' (by omega) (by omega) hn) ?_
   rintro y ⟨r2, h6, rfl⟩
   exact dP ⟨_, h6.trans h4, rfl⟩
theorem d311_0 (G : T311) (hA : A.length ≤ 1000000000000) (o n : Nat) (a i j : Int) (row : List Int) (ha : 0 ≤ a ∧ a < n) (hi : 0 ≤ i ∧ i ≤ j) (hj : j ≤ n) (hn : n ≤ 100000000000000) :
 Df (C311_l0 G (((o : Int), (n : Int)), a, i, j, row, T, A, B, ())) (fun y => ∃ (i' : Int), i ≤ i' ∧ i' ≤ j ∧ y = (((o : Int), (n : Int)), a, i', row, T, A, B, ())) := by
 refine dL ?I ?m ?h _ ?hv ?hn
 case I => exact (fun v => ∃ (i' : Int) (j' : Int), i ≤ i' ∧ i' ≤ j' ∧ j' ≤ j ∧ v = (((o : Int), (n : Int)), a, i', j', row, T, A, B, ()))
 case m => exact (fun v => (v.2.2.2.1 - v.2.2.1).toNat)
 case hv => exact ⟨i, j, Int.le_refl _, hi.2, Int.le_refl _, rfl⟩
 case hn => exact (by first | omega | (dsimp only; omega))
 rintro v ⟨i', j', h1, h2, h3, rfl⟩
 unfold F311_l0
 dsimp only
 simp only [Int.toNat_natCast]
 rw [mid2 (by omega) (by omega) (by omega), w64s (n := (i' + j') / 2 + 1) (by omega)]
 with_reducible repeat' (first | apply dP | apply dX <;> intro _)
 · refine dZ (d278 hA _ _) ?_
   rintro ⟨c, t, a', b', u⟩ hc
   simp only [Prod.mk.injEq] at hc
   obtain ⟨rfl, rfl, rfl, -⟩ := hc
   dsimp only
   with_reducible repeat' (first | apply dP | apply dX <;> intro _)
   · exact ⟨⟨_, _, by omega, by omega, by omega, rfl⟩, by first | omega | (dsimp only; omega)⟩
   · exact ⟨⟨_, _, by omega, by omega, by omega, rfl⟩, by first | omega | (dsimp only; omega)⟩
 · refine dO ?_; omega
 · refine dO ?_; omega
 · exact ⟨_, by omega, by omega, rfl⟩
theorem d311_2 (G : T311) (hA : A.length ≤ 1000000000000) (o n : Nat) (a i j : Int) (row : List Int) (ha : 0 ≤ a ∧ a < n) (hi : 0 ≤ i ∧ i ≤ j) (hj : j ≤ n) (hn : n ≤ 100000000000000) :
 Df (C311_l2 G (((o : Int), (n : Int)), a, i, j, row, T, A, B, ())) (fun y => ∃ (i' : Int), i ≤ i' ∧ i' ≤ j ∧ y = (((o : Int), (n : Int)), a, i', row, T, A, B, ())) := by
 refine dL ?I ?m ?h _ ?hv ?hn
 case I => exact (fun v => ∃ (i' : Int) (j' : Int), i ≤ i' ∧ i' ≤ j' ∧ j' ≤ j ∧ v = (((o : Int), (n : Int)), a, i', j', row, T, A, B, ()))
 case m => exact (fun v => (v.2.2.2.1 - v.2.2.1).toNat)
 case hv => exact ⟨i, j, Int.le_refl _, hi.2, Int.le_refl _, rfl⟩
 case hn => exact (by first | omega | (dsimp only; omega))
 rintro v ⟨i', j', h1, h2, h3, rfl⟩
 unfold F311_l2
 dsimp only
 simp only [Int.toNat_natCast]
 rw [mid2 (by omega) (by omega) (by omega), w64s (n := (i' + j') / 2 + 1) (by omega)]
 with_reducible repeat' (first | apply dP | apply dX <;> intro _)
 · refine dZ (d278 hA _ _) ?_
   rintro ⟨c, t, a', b', u⟩ hc
   simp only [Prod.mk.injEq] at hc
   obtain ⟨rfl, rfl, rfl, -⟩ := hc
   dsimp only
   with_reducible repeat' (first | apply dP | apply dX <;> intro _)
   · exact ⟨⟨_, _, by omega, by omega, by omega, rfl⟩, by first | omega | (dsimp only; omega)⟩
   · exact ⟨⟨_, _, by omega, by omega, by omega, rfl⟩, by first | omega | (dsimp only; omega)⟩
 · refine dO ?_; omega
 · refine dO ?_; omega
 · exact ⟨_, by omega, by omega, rfl⟩
theorem d311_1 (G : T311) (o n : Nat) (i k : Int) (row : List Int) (hk : 0 ≤ k) (hi : i ≤ n) (hn : n ≤ 100000000000000) (hi0 : 0 ≤ i) :
 Df (C311_l1 G (((o : Int), (n : Int)), i, k, row, T, A, B, ())) (fun y => ∃ (r' : List Int), r'.length = row.length ∧ y = (r', T, A, B, ())) := by
 refine dL ?I ?m ?h _ ?hv ?hn
 case I => exact (fun v => ∃ (k' : Int) (r' : List Int), 0 ≤ k' ∧ r'.length = row.length ∧ v = (((o : Int), (n : Int)), i, k', r', T, A, B, ()))
 case m => exact (fun v => (i - v.2.2.1).toNat)
 case hv => exact ⟨k, row, hk, rfl, rfl⟩
 case hn => exact (by first | omega | (dsimp only; omega))
 rintro v ⟨k', r', h1, h2, rfl⟩
 unfold F311_l1
 dsimp only
 simp only [Int.toNat_natCast]
 rw [w64s (n := i - 1) (by omega)]
 by_cases hlt : k' < i - 1
 · rw [w64s (n := k' + 1) (by omega)]
   with_reducible repeat' (first | apply dP | apply dX <;> intro _)
   · exact ⟨⟨_, _, by omega, by simp only [List.length_set]; exact h2, rfl⟩, by first | omega | (dsimp only; omega)⟩
   all_goals first | (refine dO ?_; omega) | (exfalso; omega)
 · rw [decide_eq_false hlt]
   exact dP ⟨_, h2, rfl⟩
theorem d311_3 (G : T311) (o n : Nat) (i k : Int) (row : List Int) (hk : k < n) (hi : 0 ≤ i) (hn : n ≤ 100000000000000) :
 Df (C311_l3 G (((o : Int), (n : Int)), i, k, row, T, A, B, ())) (fun y => ∃ (r' : List Int), r'.length = row.length ∧ y = (r', T, A, B, ())) := by
 refine dL ?I ?m ?h _ ?hv ?hn
 case I => exact (fun v => ∃ (k' : Int) (r' : List Int), k' < n ∧ r'.length = row.length ∧ v = (((o : Int), (n : Int)), i, k', r', T, A, B, ()))
 case m => exact (fun v => (v.2.2.1 - i).toNat)
 case hv => exact ⟨k, row, hk, rfl, rfl⟩
 case hn => exact (by first | omega | (dsimp only; omega))
 rintro v ⟨k', r', h1, h2, rfl⟩
 unfold F311_l3
 dsimp only
 simp only [Int.toNat_natCast]
 by_cases hlt : k' > i
 · rw [w64s (n := k' - 1) (by omega)]
   with_reducible repeat' (first | apply dP | apply dX <;> intro _)
   · exact ⟨⟨_, _, by omega, by simp only [List.length_set]; exact h2, rfl⟩, by first | omega | (dsimp only; omega)⟩
   all_goals first | (refine dO ?_; omega) | (exfalso; omega)
 · rw [decide_eq_false hlt]
   exact dP ⟨_, h2, rfl⟩
theorem d311_4 (G : T311) (hA : A.length ≤ 1000000000000) (o n : Nat) (a m b mid s st r p : Int) (row : List Int) (h0 : 0 ≤ st ∧ st ≤ r) (hr : r ≤ n) (hp : 0 ≤ p - r + 1 ∧ p - st < n) (hn : n ≤ 100000000000000) :
 Df (C311_l4 G (((o : Int), (n : Int)), a, m, b, mid, s, st, r, p, row, T, A, B, ())) (fun y => ∃ (st' : Int), st ≤ st' ∧ st' ≤ r ∧ y = (((o : Int), (n : Int)), a, m, b, mid, s, st', row, T, A, B, ())) := by
 refine dL ?I ?m ?h _ ?hv ?hn
 case I => exact (fun v => ∃ (i' : Int) (j' : Int), st ≤ i' ∧ i' ≤ j' ∧ j' ≤ r ∧ v = (((o : Int), (n : Int)), a, m, b, mid, s, i', j', p, row, T, A, B, ()))
 case m => exact (fun v => (v.2.2.2.2.2.2.2.1 - v.2.2.2.2.2.2.1).toNat)
 case hv => exact ⟨st, r, Int.le_refl _, h0.2, Int.le_refl _, rfl⟩
 case hn => exact (by first | omega | (dsimp only; omega))
 rintro v ⟨i', j', h1, h2, h3, rfl⟩
 unfold F311_l4
 dsimp only
 simp only [Int.toNat_natCast]
 rw [mid2 (by omega) (by omega) (by omega)]
 by_cases hlt : i' < j'
 · rw [w64s (n := (i' + j') / 2 + 1) (by omega), w64s (n := p - (i' + j') / 2) (by omega)]
   with_reducible repeat' (first | apply dP | apply dX <;> intro _)
   · refine dZ (d278 hA _ _) ?_
     rintro ⟨c, t, a', b', u⟩ hc
     simp only [Prod.mk.injEq] at hc
     obtain ⟨rfl, rfl, rfl, -⟩ := hc
     dsimp only
     with_reducible repeat' (first | apply dP | apply dX <;> intro _)
     · exact ⟨⟨_, _, by omega, by omega, by omega, rfl⟩, by first | omega | (dsimp only; omega)⟩
     · exact ⟨⟨_, _, by omega, by omega, by omega, rfl⟩, by first | omega | (dsimp only; omega)⟩
   all_goals first | (refine dO ?_; omega) | (exfalso; omega)
 · rw [decide_eq_false hlt]
   exact dP ⟨_, by omega, by omega, rfl⟩
def Mg (T : List R6) (A : List R4) (B : List R3) (G : T311) (o n : Nat) (k : Int) : Prop := ∀ (a m b : Int) (row : List Int), 0 ≤ a → a < m → m < b → b ≤ n → b - a < k →
 Df (G (((o : Int), (n : Int)), a, m, b, row, T, A, B, ())) (fun y => ∃ (r' : List Int), r'.length = row.length ∧ y = (r', T, A, B, ()))
theorem d311_c0 (G : T311) (o n : Nat) (k : Int) (hG : Mg T A B G o n k) (b mid e : Int) (row : List Int) (h : 0 ≤ mid ∧ b ≤ n ∧ b - mid < k) :
 Df (C311_c0 G (((o : Int), (n : Int)), b, mid, e, row, T, A, B, ())) (fun y => ∃ (r' : List Int), r'.length = row.length ∧ y = (r', T, A, B, ())) := by
 show Df (F311_c0 C278 G C315 _) _
 unfold F311_c0
 dsimp only
 simp only [Int.toNat_natCast]
 with_reducible repeat' (first | apply dP | apply dX <;> intro _)
 · refine dZ (hG mid e b row (by omega) (by omega) (by omega) (by omega) (by omega)) ?_
   rintro y ⟨r', h, rfl⟩
   exact dP ⟨_, h, rfl⟩
 · exact ⟨_, rfl, rfl⟩
 · exact ⟨_, rfl, rfl⟩
theorem d311_c1 (G : T311) (o n : Nat) (k : Int) (hG : Mg T A B G o n k) (a b mid st e : Int) (row : List Int) (h0 : 0 ≤ a ∧ mid ≤ n ∧ mid - a < k) (h : 0 ≤ mid ∧ b ≤ n ∧ b - mid < k) :
 Df (C311_c1 G (((o : Int), (n : Int)), a, b, mid, st, e, row, T, A, B, ())) (fun y => ∃ (r' : List Int), r'.length = row.length ∧ y = (r', T, A, B, ())) := by
 show Df (F311_c1 C278 G C315 (C311_c0 G) _) _
 unfold F311_c1
 dsimp only
 simp only [Int.toNat_natCast]
 have fin : ∀ r0 : List Int, r0.length = row.length → Df ((C311_c0 G (((o : Int), (n : Int)), b, mid, e, r0, T, A, B, ())).bind fun val => some (val.fst, val.snd.fst, val.snd.snd.fst, val.snd.snd.snd.fst, ())) (fun y => ∃ (r' : List Int), r'.length = row.length ∧ y = (r', T, A, B, ())) := by
  intro r0 hr
  refine dZ (d311_c0 G o n k hG b mid e r0 h) ?_
  rintro y ⟨r', h, rfl⟩
  exact dP ⟨_, h.trans hr, rfl⟩
 with_reducible repeat' (first | apply dP | apply dX <;> intro _)
 · refine dZ (hG a st mid row (by omega) (by omega) (by omega) (by omega) (by omega)) ?_
   rintro y ⟨r', h, rfl⟩
   exact fin r' h
 · exact fin row rfl
 · exact fin row rfl
theorem d311_c2 (G : T311) (hA : A.length ≤ 1000000000000) (o n : Nat) (k : Int) (hG : Mg T A B G o n k) (a m b mid s st r : Int) (row : List Int) (hn : n ≤ 100000000000000) (hs : s = mid + m) (h0 : 0 ≤ st ∧ st ≤ r) (hr : r ≤ n) (hp : 0 ≤ s - r ∧ s - st ≤ n)
 (ha : 0 ≤ a ∧ mid ≤ n ∧ mid - a < k) (h : 0 ≤ mid ∧ b ≤ n ∧ b - mid < k) (hm : m ≤ n) :
 Df (C311_c2 G (((o : Int), (n : Int)), a, m, b, mid, s, st, r, row, T, A, B, ())) (fun y => ∃ (r' : List Int), r'.length = row.length ∧ y = (r', T, A, B, ())) := by
 show Df (F311_c2 C278 G C315 (C311_c1 G) (C311_l4 G) _) _
 unfold F311_c2
 dsimp only
 simp only [Int.toNat_natCast]
 rw [w64s (n := s - 1) (by omega)]
 refine dZ (d311_4 G hA o n a m b mid s st r (s - 1) row h0 hr (by omega) hn) ?_
 rintro y ⟨st', h1, h2, rfl⟩
 dsimp only
 simp only [Int.toNat_natCast]
 rw [w64s (n := s - st') (by omega)]
 have fin : ∀ r0 : List Int, r0.length = row.length → Df ((C311_c1 G (((o : Int), (n : Int)), a, b, mid, st', s - st', r0, T, A, B, ())).bind fun val => some (val.fst, val.snd.fst, val.snd.snd.fst, val.snd.snd.snd.fst, ())) (fun y => ∃ (r' : List Int), r'.length = row.length ∧ y = (r', T, A, B, ())) := by
  intro r0 hr0
  refine dZ (d311_c1 G o n k hG a b mid st' (s - st') r0 ha h) ?_
  rintro y ⟨r', h, rfl⟩
  exact dP ⟨_, h.trans hr0, rfl⟩
 with_reducible repeat' (first | apply dP | apply dX <;> intro _)
 · refine dZ (d315 o n st' m (s - st') row (by omega) (by omega) hn) ?_
   rintro y ⟨r', h, rfl⟩
   exact fin r' h
 · exact fin row rfl
 · exact fin row rfl
def FF311 (G : T311) : T311 := F311 C278 G C315 (C311_c2 G) (C311_l0 G) (C311_l1 G) (C311_l2 G) (C311_l3 G)
theorem d311r (hA : A.length ≤ 1000000000000) (o n : Nat) (hn : n ≤ 100000000000000) : ∀ k : Nat, Mg T A B (recN FF311 k) o n (k : Int)
 | 0 => fun a m b row h0 h1 h2 h3 h4 => by omega
 | k + 1 => fun a m b row h0 h1 h2 h3 h4 => by
  have hG := d311r hA o n hn k
  show Df (FF311 (recN FF311 k) _) _
  generalize recN FF311 k = G at hG ⊢
  show Df (F311 C278 G C315 (C311_c2 G) (C311_l0 G) (C311_l1 G) (C311_l2 G) (C311_l3 G) _) _
  unfold F311
  dsimp only
  simp only [Int.toNat_natCast]
  rw [w64s (n := m - a) (by omega), w64s (n := b - m) (by omega), mid2 (by omega) (by omega) (by omega), w64s (n := (a + b) / 2 + m) (by omega), w64s (n := (a + b) / 2 + m - b) (by omega)]
  have fin : ∀ {x : Option (List Int × List R6 × List R4 × List R3 × Unit)}, Df x (fun y => ∃ (r' : List Int), r'.length = row.length ∧ y = (r', T, A, B, ())) → Df (x.bind fun val => some (val.fst, val.snd.fst, val.snd.snd.fst, val.snd.snd.snd.fst, ())) (fun y => ∃ (r' : List Int), r'.length = row.length ∧ y = (r', T, A, B, ())) := by
   intro x hx
   refine dZ hx ?_
   rintro y ⟨r', h, rfl⟩
   exact dP ⟨_, h, rfl⟩
  with_reducible repeat' (first | apply dP | apply dX <;> intro _)
  · refine dZ (d311_0 G hA o n a m b row (by omega) (by omega) (by omega) hn) ?_
    rintro y ⟨i', h5, h6, rfl⟩
    dsimp only
    simp only [Int.toNat_natCast]
    exact fin (d311_1 G o n i' a row (by omega) (by omega) hn (by omega))
  · refine dZ (d311_2 G hA o n m a m row (by omega) (by omega) (by omega) hn) ?_
    rintro y ⟨i', h5, h6, rfl⟩
    dsimp only
    simp only [Int.toNat_natCast]
    exact fin (d311_3 G o n i' m row (by omega) (by omega) hn)
  · exact fin (d311_c2 G hA o n k hG a m b ((a + b) / 2) ((a + b) / 2 + m) ((a + b) / 2 + m - b) ((a + b) / 2) row hn rfl (by omega) (by omega) (by omega) (by omega) (by omega) (by omega))
  · exact fin (d311_c2 G hA o n k hG a m b ((a + b) / 2) ((a + b) / 2 + m) a m row hn rfl (by omega) (by omega) (by omega) (by omega) (by omega) (by omega))
theorem d311 (hA : A.length ≤ 1000000000000) (o n : Nat) (hn : n ≤ 100000000000000) (a m b : Int) (row : List Int) (h0 : 0 ≤ a) (h1 : a < m) (h2 : m < b) (h3 : b ≤ n) :
 Df (C311 (((o : Int), (n : Int)), a, m, b, row, T, A, B, ())) (fun y => ∃ (r' : List Int), r'.length = row.length ∧ y = (r', T, A, B, ())) := by
 show Df (recN FF311 big _) _
 exact d311r hA o n hn big a m b row h0 h1 h2 h3 (by unfold big; omega)
theorem d299_0 (hA : A.length ≤ 1000000000000) (o n : Nat) (hn : n ≤ 100000000000000) (row : List Int) :
 Df (C299_l0 (((o : Int), (n : Int)), (n : Int), 20, 0, 20, row, T, A, B, ())) (fun y => ∃ (a : Int) (r' : List Int), 0 ≤ a ∧ a ≤ n ∧ r'.length = row.length ∧ y = (((o : Int), (n : Int)), (n : Int), 20, a, r', T, A, B, ())) := by
 refine dL ?I ?m ?h _ ?hv ?hn
 case I => exact (fun v => ∃ (a : Int) (r' : List Int), 0 ≤ a ∧ a ≤ n ∧ r'.length = row.length ∧ v = (((o : Int), (n : Int)), (n : Int), 20, a, a + 20, r', T, A, B, ()))
 case m => exact (fun v => (n - v.2.2.2.1).toNat)
 case hv => exact ⟨0, row, Int.le_refl _, by omega, rfl, rfl⟩
 case hn => exact (by first | omega | (dsimp only; omega))
 rintro v ⟨a, r', h1, h2, h3, rfl⟩
 unfold F299_l0
 dsimp only
 simp only [Int.toNat_natCast]
 rw [w64s (n := a + 20 + 20) (by omega)]
 with_reducible repeat' (first | apply dP | apply dX <;> intro _)
 · refine dZ (d310 hA o n a (a + 20) r' (by omega) (by omega) hn) ?_
   rintro y ⟨r2, h4, rfl⟩
   exact dP ⟨⟨a + 20, r2, by omega, by omega, h4.trans h3, rfl⟩, by first | omega | (dsimp only; omega)⟩
 · exact ⟨_, _, h1, h2, h3, rfl⟩
theorem d299_1 (hA : A.length ≤ 1000000000000) (o n : Nat) (hn : n ≤ 100000000000000) (bs : Int) (hbs : 1 ≤ bs ∧ bs ≤ n) (row : List Int) :
 Df (C299_l1 (((o : Int), (n : Int)), (n : Int), bs, 0, 2 * bs, row, T, A, B, ())) (fun y => ∃ (a : Int) (r' : List Int), 0 ≤ a ∧ a ≤ n ∧ r'.length = row.length ∧ y = (((o : Int), (n : Int)), (n : Int), bs, a, r', T, A, B, ())) := by
 refine dL ?I ?m ?h _ ?hv ?hn
 case I => exact (fun v => ∃ (a : Int) (r' : List Int), 0 ≤ a ∧ a ≤ n ∧ r'.length = row.length ∧ v = (((o : Int), (n : Int)), (n : Int), bs, a, a + 2 * bs, r', T, A, B, ()))
 case m => exact (fun v => (n - v.2.2.2.1).toNat)
 case hv => exact ⟨0, row, Int.le_refl _, by omega, rfl, by rw [Int.zero_add]⟩
 case hn => exact (by first | omega | (dsimp only; omega))
 rintro v ⟨a, r', h1, h2, h3, rfl⟩
 unfold F299_l1
 dsimp only
 simp only [Int.toNat_natCast]
 rw [w64s (n := 2 * bs) (by omega), w64s (n := a + bs) (by omega), w64s (n := a + 2 * bs + 2 * bs) (by omega)]
 with_reducible repeat' (first | apply dP | apply dX <;> intro _)
 · refine dZ (d311 hA o n hn a (a + bs) (a + 2 * bs) r' (by omega) (by omega) (by omega) (by omega)) ?_
   rintro y ⟨r2, h4, rfl⟩
   exact dP ⟨⟨a + 2 * bs, r2, by omega, by omega, h4.trans h3, rfl⟩, by first | omega | (dsimp only; omega)⟩
 · exact ⟨_, _, h1, h2, h3, rfl⟩
theorem d299 (hA : A.length ≤ 1000000000000) (o n : Nat) (hn : n ≤ 100000000000000) (row : List Int) :
 Df (C299 (((o : Int), (n : Int)), (n : Int), row, T, A, B, ())) (fun y => ∃ (r' : List Int), r'.length = row.length ∧ y = (r', T, A, B, ())) := by
 unfold C299 F299
 dsimp only
 simp only [Int.toNat_natCast]
 refine dZ (d299_0 hA o n hn row) ?_
 rintro y ⟨a, r1, h1, h2, h3, rfl⟩
 dsimp only
 simp only [Int.toNat_natCast]
 refine dZ (d310 hA o n a n r1 (by omega) (by omega) hn) ?_
 rintro y ⟨r2, h4, rfl⟩
 dsimp only
 refine dZ (P := fun y => ∃ (r' : List Int), r'.length = row.length ∧ y = (r', T, A, B, ())) ?_ ?_
 · refine dL ?I ?m ?h _ ?hv ?hn
   case I => exact (fun v => ∃ (bs : Int) (r' : List Int), 1 ≤ bs ∧ bs ≤ 400000000000000 ∧ r'.length = row.length ∧ v = (((o : Int), (n : Int)), (n : Int), bs, r', T, A, B, ()))
   case m => exact (fun v => (n - v.2.2.1).toNat)
   case hv => exact ⟨20, r2, by omega, by omega, h4.trans h3, rfl⟩
   case hn => exact (by first | omega | (dsimp only; omega))
   rintro v ⟨bs, r', h5, h6, h7, rfl⟩
   unfold F299_l2
   dsimp only
   simp only [Int.toNat_natCast]
   rw [w64s (n := 2 * bs) (by omega)]
   with_reducible repeat' (first | apply dP | apply dX <;> intro _)
   · refine dZ (d299_1 hA o n hn bs (by omega) r') ?_
     rintro y ⟨a, r3, h8, h9, h10, rfl⟩
     dsimp only
     simp only [Int.toNat_natCast]
     rw [w64s (n := a + bs) (by omega), w64s (n := bs * 2) (by omega)]
     with_reducible repeat' (first | apply dP | apply dX <;> intro _)
     · refine dZ (d311 hA o n hn a (a + bs) n r3 (by omega) (by omega) (by omega) (by omega)) ?_
       rintro y ⟨r4, h11, rfl⟩
       exact dP ⟨⟨_, _, by omega, by omega, (h11.trans h10).trans h7, rfl⟩, by first | omega | (dsimp only; omega)⟩
     · exact ⟨⟨_, _, by omega, by omega, h10.trans h7, rfl⟩, by first | omega | (dsimp only; omega)⟩
   · exact ⟨_, h7, rfl⟩
 · rintro y ⟨r', h, rfl⟩
   exact dP ⟨_, h, rfl⟩
theorem d277 (hA : A.length ≤ 1000000000000) (o n : Nat) (hn : n ≤ 100000000000000) (row : List Int) :
 Df (C277 (((o : Int), (n : Int)), row, T, A, B, ())) (fun y => ∃ (r' : List Int), r'.length = row.length ∧ y = (r', T, A, B, ())) := by
 unfold C277 F277
 dsimp only
 simp only [Int.toNat_natCast]
 refine dZ (d299 hA o n hn row) ?_
 rintro y ⟨r', h, rfl⟩
 exact dP ⟨_, h, rfl⟩
theorem d239_0 (hA : A.length ≤ 1000000000000) (f k : Int) (row : List Int) (hf : 0 ≤ f ∧ f ≤ k) (hk : k ≤ row.length) (hn : row.length ≤ 35184372088832) :
 Df (C239_c0 (f, k, T, A, B, row, ())) (fun y => ∃ (r' : List Int), r'.length = row.length ∧ y = (k + 1, k, T, A, B, r', ())) := by
 unfold C239_c0 F239_c0
 dsimp only
 rw [w64s (n := k + 1) (by omega)]
 with_reducible repeat' (first | apply dP | apply dX <;> intro _)
 · refine dZ (d277 hA f.toNat (k.toNat - f.toNat) (by omega) row) ?_
   rintro y ⟨r', h, rfl⟩
   exact dP ⟨_, h, rfl⟩
 · refine dO ?_; omega
 · refine dO ?_; omega
theorem d239 (hA : A.length ≤ 1000000000000) (l : List Int) (hl : l.length ≤ 35184372088832) : Df (C239 (T, A, B, l, ())) (fun y => y.1.length = l.length) := by
 unfold C239 F239
 dsimp only
 refine dZ (P := fun y => y.1 = l) ?_ ?_
 · unfold C275
   dsimp only
   with_reducible repeat' (first | apply dP | apply dX <;> intro _)
   · rfl
   · refine dO ?_; omega
 rintro ⟨l', u⟩ hl'
 dsimp only at hl' ⊢
 subst hl'
 refine dZ (P := fun y => y.1.length = l'.length) ?_ (fun _ h => dP h)
 refine dL ?I ?m ?h _ ?hv ?hn
 case I => exact (fun v => ∃ (f : Int) (k : Int) (r' : List Int), 0 ≤ f ∧ f ≤ k ∧ k ≤ l'.length + 1 ∧ r'.length = l'.length ∧ v = (f, k, T, A, B, r', ()))
 case m => exact (fun v => (l'.length + 1 - v.2.1).toNat)
 case hv => exact ⟨0, 0, l', Int.le_refl _, Int.le_refl _, by omega, rfl, rfl⟩
 case hn => exact (by first | omega | (dsimp only; omega))
 rintro v ⟨f, k, r', h1, h2, h3, h4, rfl⟩
 unfold F239_l0
 dsimp only
 rw [w64s (n := k + 1) (by omega)]
 have fin : k ≤ r'.length → Df ((C239_c0 (f, k, T, A, B, r', ())).bind fun val => some (Sum.inl (val.fst, IntKind.i64.wrap (val.snd.fst + 1), val.snd.snd.fst, val.snd.snd.snd.fst, val.snd.snd.snd.snd.fst, val.snd.snd.snd.snd.snd.fst, ())))
  (Sum.elim (fun v' : Int × Int × List R6 × List R4 × List R3 × List Int × Unit => (∃ (f : Int) (k : Int) (r' : List Int), 0 ≤ f ∧ f ≤ k ∧ k ≤ l'.length + 1 ∧ r'.length = l'.length ∧ v' = (f, k, T, A, B, r', ())) ∧ (l'.length + 1 - v'.2.1).toNat < (l'.length + 1 - k).toNat) (fun y : List Int × Unit => y.1.length = l'.length)) := by
  intro hk
  refine dZ (d239_0 hA f k r' (by omega) hk (by omega)) ?_
  rintro y ⟨r2, h5, rfl⟩
  dsimp only
  rw [w64s (n := k + 1) (by omega)]
  exact dP ⟨⟨_, _, _, by omega, by omega, by omega, h5.trans h4, rfl⟩, by first | omega | (dsimp only; omega)⟩
 with_reducible repeat' (first | apply dP | apply dX <;> intro _)
 · refine dZ (d276 T A B _ hA) ?_
   rintro ⟨c, u⟩ -
   dsimp only
   with_reducible repeat' (first | apply dP | apply dX <;> intro _)
   · exact ⟨⟨_, _, _, by omega, by omega, by omega, h4, rfl⟩, by first | omega | (dsimp only; omega)⟩
   · exact fin (by omega)
 · refine dO ?_; omega
 · exact fin (by omega)
 · exact h4
end
section
variable {T : List R6} {A : List R4} {B : List R3}
theorem endF_total (f : Int → Option Int) (h : ∀ x, ∃ y, f x = some y) : ∀ l : List (Int × Int), ∃ y, endF f l = some y
 | [] => ⟨0, rfl⟩
 | x :: l => by
  obtain ⟨b, hb⟩ := h x.2
  simp only [endF, hb, Option.bind_some]
  cases (b != 6) with
  | true => exact ⟨b, rfl⟩
  | false => exact endF_total f h l
theorem d186 (h : TK T A B) (l : List Int) (hl : l.length ≤ 1000000000000) : Df (C186 (T, A, B, l, ())) (fun _ => True) := by
 unfold C186
 dsimp only
 rw [decide_eq_true hl]
 obtain ⟨y, hy⟩ := endF_total (fun x => (C218 (T, A, B, x, ())).map fun r => r.1) (fun x => by
  obtain ⟨y, e, -⟩ := d218 T A B x h.t
  exact ⟨y.1, by simp only [e, Option.map_some]⟩) (bk l)
 exact ⟨(y, ()), by simp only [cond_true, hy, Option.map_some], trivial⟩
theorem d154 (h : TK T A B) (l : List Int) (hl : l.length ≤ 1000000000000) : Df (C154 (T, A, B, l, ())) (fun _ => True) := by
 unfold C154 F154
 dsimp only
 refine dZ (d185 h l hl) ?_
 rintro ⟨z0, z1, z2, z3, z4, z5, z6, z7, u⟩ -
 refine dZ (d186 h l hl) ?_
 rintro ⟨e, u⟩ -
 refine dZ (d187 h l) ?_
 rintro ⟨s, u⟩ -
 dsimp only
 with_reducible repeat' (first | apply dP | apply dX <;> intro _)
 · exact dZ (d154_1 _ _ _ rfl) fun _ _ => dP trivial
 · exact dZ (d154_1 _ _ _ rfl) fun _ _ => dP trivial
 · refine dZ (d153 h l hl) ?_
   rintro ⟨b, u⟩ -
   dsimp only
   with_reducible repeat' (first | apply dP | apply dX <;> intro _)
   all_goals trivial
 · trivial
theorem d262 (h : TK T A B) (l : List Int) (hl : l.length ≤ 1000000000000) : Df (C262 (T, A, B, l, ())) (fun y => y.2 = (T, A, B, l, ())) := by
 unfold C262 F262
 dsimp only
 refine dZ (d153 h l hl) ?_
 rintro ⟨b, u⟩ -
 dsimp only
 with_reducible repeat' (first | apply dP | apply dX <;> intro _)
 · exact dZ (d154 h l hl) fun _ _ => dP rfl
 · rfl
theorem d213 (h : TK T A B) (s : List UInt8) (a b : Bool) (hs : s.length ≤ 100000000000) : Df (C213 (T, A, B, s, a, b, ())) (fun y => y.1.length ≤ 384 * s.length) := by
 unfold C213 F213
 dsimp only
 refine dZ (d83 s (by omega)) ?_
 rintro ⟨l, at_, u⟩ hl
 dsimp only at hl ⊢
 with_reducible repeat' (first | apply dP | apply dX <;> intro _)
 · exact (by simp : ([] : List UInt8).length ≤ 384 * s.length)
 · refine dZ (d240 T A B l a (by omega)) ?_
   rintro ⟨l2, u⟩ h2
   dsimp only at h2 ⊢
   refine dZ (d239 h.a l2 (by omega)) ?_
   rintro ⟨l3, u⟩ h3
   dsimp only at h3 ⊢
   with_reducible repeat' (first | apply dP | apply dX <;> intro _)
   · refine dZ (d241 T A B l3 (by omega) h.a) ?_
     rintro ⟨l4, u⟩ h4
     dsimp only at h4 ⊢
     refine dZ (d178 l4 (by omega)) ?_
     rintro ⟨s5, b5, u⟩ h5
     exact dP (by dsimp only at h5 ⊢; omega)
   · refine dZ (d178 l3 (by omega)) ?_
     rintro ⟨s5, b5, u⟩ h5
     exact dP (by dsimp only at h5 ⊢; omega)
theorem d181 (h : TK T A B) (s : List UInt8) (hs : s.length ≤ 100000000000) : Df (C181 (T, A, B, s, ())) (fun y => y.1.length ≤ 384 * s.length) := by
 unfold C181 F181
 dsimp only
 refine dZ (d213 h s false true hs) ?_
 rintro ⟨x, b, u⟩ hx
 exact dP hx
theorem d151 (h : TK T A B) (s : List UInt8) (hs : s.length ≤ 10000000000) : Df (C151 (T, A, B, s, ())) (fun y => y.1.length ≤ 1536 * s.length) := by
 unfold C151 F151
 dsimp only
 refine dZ (d83 s (by omega)) ?_
 rintro ⟨l, at_, u⟩ hl
 dsimp only at hl ⊢
 with_reducible repeat' (first | apply dP | apply dX <;> intro _)
 · exact (by simp : ([] : List UInt8).length ≤ 1536 * s.length)
 · refine dZ (d180 T A B l (by omega)) ?_
   rintro ⟨l2, u⟩ h2
   dsimp only at h2 ⊢
   refine dZ (d179 T A B h.b l2 (by omega)) ?_
   rintro ⟨l3, u⟩ h3
   dsimp only at h3 ⊢
   refine dZ (d178 l3 (by omega)) ?_
   rintro ⟨s4, b4, u⟩ h4
   dsimp only at h4 ⊢
   refine dZ (d181 h s4 (by omega)) ?_
   rintro ⟨s5, b5, u⟩ h5
   exact dP (by dsimp only at h5 ⊢; omega)
theorem d131 (a b : List UInt8) : Df (C131 (a, b, ())) (fun y => y.1 = true → b.length ≤ a.length) := by
 unfold C131 F131
 dsimp only
 with_reducible repeat' (first | apply dP | apply dX <;> intro _)
 · intro _; dsimp only at *; omega
 · refine dO ?_; omega
 · intro h; cases h
theorem d166 (a b : List UInt8) : Df (C166 (a, b, ())) (fun y => y.1.length ≤ a.length) := by
 unfold C166 F166
 dsimp only
 refine dZ (d131 a b) ?_
 rintro ⟨x, u⟩ hx
 dsimp only at hx ⊢
 with_reducible repeat' (first | apply dP | apply dX <;> intro _)
 · exact Nat.le_refl _
 · exact (by simp : (List.drop _ a).length ≤ a.length)
 · rename_i h1 h2
   have := hx h1
   refine dO ?_; omega
theorem d132 (a b : List UInt8) : Df (C132 (a, b, ())) (fun y => y.1.length ≤ a.length) := by
 unfold C132 F132
 dsimp only
 refine dZ (d166 a b) ?_
 rintro ⟨x, b, u⟩ hx
 exact dP hx
theorem d96 (a b : List UInt8) : Df (C96 (a, b, ())) (fun _ => True) := by
 unfold C96 F96
 dsimp only
 exact dZ (d131 a b) fun _ _ => dP trivial
theorem d308 (a b : List UInt8) (ha : a.length ≤ 1000000000000000) (hb : b.length ≤ 1000000000000000) : Df (C308 (a, b, ())) (fun _ => True) := by
 unfold C308 F308
 dsimp only
 rw [w64s (n := (a.length : Int) - (b.length : Int)) (by omega)]
 with_reducible repeat' (first | apply dP | apply dX <;> intro _)
 · trivial
 · refine dO ?_; omega
 · trivial
theorem d292 (a b : List UInt8) (ha : a.length ≤ 1000000000000000) (hb : b.length ≤ 1000000000000000) : Df (C292 (a, b, ())) (fun _ => True) := by
 unfold C292 F292
 dsimp only
 exact dZ (d308 a b ha hb) fun _ _ => dP trivial
theorem d258 (a : List UInt8) (ha : a.length ≤ 1000000000000000) : Df (C258 (a, ())) (fun _ => True) := by
 unfold C258 F258
 dsimp only
 refine dZ (d96 _ _) ?_
 rintro ⟨x, u⟩ -
 dsimp only
 with_reducible repeat' (first | apply dP | apply dX <;> intro _)
 · trivial
 · refine dZ (d292 _ _ ha (by simp)) ?_
   rintro ⟨x, u⟩ -
   dsimp only
   with_reducible repeat' (first | apply dP | apply dX <;> intro _)
   · trivial
   · trivial
   · refine dO ?_; omega
   · trivial
theorem d257 (a : List UInt8) (ha : a.length ≤ 1000000000000000) : Df (C257 (a, ())) (fun y => y.2.1 = a) := by
 unfold C257 F257
 dsimp only
 exact dZ (d258 a ha) fun _ _ => dP rfl
theorem d256 (h : TK T A B) (s : List UInt8) (hs : s.length ≤ 100000000000) : Df (C256 (T, A, B, s, ())) (fun _ => True) := by
 unfold C256 F256
 dsimp only
 refine dZ (d181 h s hs) ?_
 rintro ⟨x, b, u⟩ -
 dsimp only
 with_reducible repeat' (first | apply dP | apply dX <;> intro _)
 all_goals trivial
theorem d255 (h : TK T A B) (s : List UInt8) (hs : s.length ≤ 100000000000) : Df (C255 (s, T, A, B, ())) (fun y => y.2 = (s, T, A, B, ()) ∧ (y.1 = false → 0 < s.length)) := by
 unfold C255 F255
 dsimp only
 refine dZ (d21 s (by omega)) ?_
 rintro ⟨x, u⟩ hx
 dsimp only at hx ⊢
 with_reducible repeat' (first | apply dP | apply dX <;> intro _)
 · exact ⟨rfl, fun h => by cases h⟩
 · refine dZ (d256 h s hs) ?_
   rintro ⟨x, u⟩ -
   exact dP ⟨rfl, fun _ => by omega⟩
theorem d259 (h : TK T A B) (l : List Int) (hl : 0 < l.length) : Df (C259 (T, A, B, l, ())) (fun y => y.2 = (T, A, B, l, ())) := by
 unfold C259 F259
 dsimp only
 with_reducible repeat' (first | apply dP | apply dX <;> intro _)
 · exact dZ (d215 T A B _ h.t) fun _ _ => dP rfl
 · refine dO ?_; omega
theorem d254 (a : Int) : Df (C254 (a, ())) (fun y => y.2.1 = a ∧ (y.1 = false → a < 0)) := by
 unfold C254 F254
 dsimp only
 refine dP ⟨rfl, fun h => ?_⟩
 dsimp only at h
 simp only [decide_eq_false_iff_not] at h
 omega
theorem d263 (l : List Int) (a : List UInt8) (b : Bool) (hl : l.length ≤ 1000000000000) : Df (C263 (l, a, b, ())) (fun y => y.2.1 = l) := by
 unfold C263 F263
 dsimp only
 exact dZ (d223 l hl) fun _ _ => dP rfl
theorem d264 (a : List UInt8) : Df (C264 (a, ())) (fun _ => True) := by
 unfold C264 F264
 dsimp only
 exact dP trivial
theorem d253 (h : TK T A B) (a0 a1 a2 a3 a4 a5 a6 a7 : Int) (at_ : Int) (s : List UInt8) (l : List Int) (c : List UInt8) (d : Bool) (hs : s.length ≤ 100000000000) (hl : l.length ≤ 100000000000) (h0 : at_ < 0 → 0 < s.length → 0 < l.length) :
 Df (C253 (a0, a1, a2, a3, a4, a5, a6, a7, at_, s, T, A, B, l, c, d, ())) (fun _ => True) := by
 unfold C253 F253
 dsimp only
 refine dZ (d254 at_) ?_
 rintro ⟨b, at', u⟩ hb
 dsimp only at hb ⊢
 obtain ⟨rfl, hb⟩ := hb
 with_reducible repeat' (first | apply dP | apply dX <;> intro _)
 · trivial
 · rename_i h1
   refine dZ (d255 h s hs) ?_
   rintro ⟨b2, y⟩ ⟨hy, h2⟩
   dsimp only at hy h2
   subst hy
   dsimp only
   with_reducible repeat' (first | apply dP | apply dX <;> intro _)
   · trivial
   · rename_i h3
     refine dZ (d257 s (by omega)) ?_
     rintro ⟨b3, s', u⟩ hs'
     dsimp only at hs' ⊢
     with_reducible repeat' (first | apply dP | apply dX <;> intro _)
     · trivial
     · refine dZ (d259 h l (h0 (hb h1) (h2 h3))) ?_
       rintro ⟨b4, y⟩ hy
       dsimp only at hy
       subst hy
       dsimp only
       with_reducible repeat' (first | apply dP | apply dX <;> intro _)
       · trivial
       · refine dZ (d260 h l (by omega)) ?_
         rintro ⟨b5, y⟩ hy
         dsimp only at hy
         subst hy
         dsimp only
         with_reducible repeat' (first | apply dP | apply dX <;> intro _)
         · trivial
         · refine dZ (d262 h l (by omega)) ?_
           rintro ⟨b6, y⟩ hy
           dsimp only at hy
           subst hy
           dsimp only
           with_reducible repeat' (first | apply dP | apply dX <;> intro _)
           · trivial
           · refine dZ (d263 l c d (by omega)) ?_
             rintro ⟨b7, l', c', d', u⟩ -
             dsimp only
             with_reducible repeat' (first | apply dP | apply dX <;> intro _)
             · trivial
             · refine dZ (d264 _) ?_
               rintro ⟨b8, c8, u⟩ -
               dsimp only
               with_reducible repeat' (first | apply dP | apply dX <;> intro _)
               all_goals trivial
theorem d224 (h : TK T A B) (s : List UInt8) (hs : s.length ≤ 100000000000) : Df (C224 (T, A, B, s, ())) (fun _ => True) := by
 unfold C224 F224
 dsimp only
 refine dZ (d83 s (by omega)) ?_
 rintro ⟨l, at_, u⟩ hl
 dsimp only at hl ⊢
 refine dZ (d253 h _ _ _ _ _ _ _ _ at_ s l _ _ hs (by omega) hl.2.2) ?_
 rintro ⟨e, y⟩ -
 exact dP trivial
theorem d268_0 (a : Int) (b : Bool) : Df (C268_c0 (a, b, ())) (fun _ => True) := by
 unfold C268_c0 F268_c0
 dsimp only
 with_reducible repeat' (first | apply dP | apply dX <;> intro _)
 all_goals trivial
theorem d268_1 (a : Int) (b : Bool) : Df (C268_c1 (a, b, ())) (fun _ => True) := by
 unfold C268_c1 F268_c1
 dsimp only
 with_reducible repeat' (first | apply dP | apply dX <;> intro _)
 all_goals first | trivial | exact dZ (d268_0 _ _) fun _ _ => dP trivial
theorem d268 (a : Int) : Df (C268 (a, ())) (fun _ => True) := by
 unfold C268 F268
 dsimp only
 with_reducible repeat' (first | apply dP | apply dX <;> intro _)
 all_goals (refine dZ (d268_1 _ _) ?_; rintro ⟨x, u⟩ -; dsimp only; (repeat' (first | with_reducible apply dP | (with_reducible apply dB <;> intro _))); all_goals trivial)
theorem d156 (s : List UInt8) (b : Bool) (hs : s.length ≤ 1000000000000000) : Df (C156 (s, b, ())) (fun _ => True) := by
 unfold C156 F156
 dsimp only
 refine dZ (P := fun _ => True) ?_ (fun z _ => by cases z <;> exact dP trivial)
 refine dL ?I ?m ?h _ ?hv ?hn
 case I => exact (fun v => v.2.1.1 = s ∧ 0 ≤ v.2.1.2)
 case m => exact (fun v => s.length - v.2.1.2.toNat)
 case hv => exact ⟨rfl, Int.le_refl _⟩
 case hn => exact (by first | omega | (dsimp only; omega))
 · rintro ⟨x0, ⟨x1, p⟩, u⟩ hI
   dsimp only at hI
   obtain ⟨rfl, h0⟩ := hI
   unfold F156_l0
   dsimp only
   with_reducible repeat' (first | apply dP | apply dX <;> intro _)
   · refine dZ (d268 _) ?_
     rintro ⟨x, u⟩ -
     dsimp only
     have := decR_pos x1 p.toNat
     with_reducible repeat' (first | apply dP | apply dX <;> intro _)
     · trivial
     · exact ⟨⟨rfl, by first | omega | (dsimp only; omega)⟩, by first | omega | (dsimp only; omega)⟩
   · trivial
end
section
variable {T : List R6} {A : List R4} {B : List R3}
theorem d84 (s : List UInt8) (hs : s.length ≤ 1000000000000000) : Df (C84 (s, ())) (fun _ => True) := by
 unfold C84 F84
 dsimp only
 refine dZ (P := fun _ => True) ?_ (fun _ _ => dP trivial)
 unfold C123 F123
 dsimp only
 exact dZ (d156 s true hs) fun _ _ => dP trivial
theorem d225 (s : List UInt8) (hs : s.length ≤ 1000000000000000) : Df (C225 (s, ())) (fun _ => True) := by
 unfold C225 F225
 dsimp only
 refine dZ (P := fun _ => True) ?_ (fun _ _ => dP trivial)
 unfold C253v1 F253v1
 dsimp only
 refine dZ (P := fun y => y.2.1 = s) (dP rfl) ?_
 rintro ⟨b, s1, u⟩ h1
 dsimp only at h1 ⊢
 subst h1
 with_reducible repeat' (first | apply dP | apply dX <;> intro _)
 · trivial
 · refine dZ (P := fun y => y.2.1 = s1) (dP rfl) ?_
   rintro ⟨b, s2, u⟩ h2
   dsimp only at h2 ⊢
   subst h2
   with_reducible repeat' (first | apply dP | apply dX <;> intro _)
   · trivial
   · refine dZ (P := fun y => y.2.1 = s2) ?_ ?_
     · unfold C267 F267
       dsimp only
       exact dZ (d84 s2 hs) fun _ _ => dP rfl
     rintro ⟨b, s3, u⟩ h3
     dsimp only at h3 ⊢
     subst h3
     with_reducible repeat' (first | apply dP | apply dX <;> intro _)
     · trivial
     · refine dZ (P := fun _ => True) ?_ ?_
       · unfold C269 F269
         dsimp only
         exact dZ (d258 s3 hs) fun _ _ => dP trivial
       rintro ⟨b, s4, u⟩ -
       dsimp only
       with_reducible repeat' (first | apply dP | apply dX <;> intro _)
       all_goals trivial
theorem wu8' (n : Int) : IntKind.u8.wrap n = n % 256 := by simp [IntKind.wrap, IntKind.bits, IntKind.signed]
theorem d294_0 (x : Int) (b : Bool) (hb : b = true → 65 ≤ x ∧ x ≤ 90) : Df (C294_c0 (x, b, ())) (Sum.elim (fun y => 0 ≤ y.1 ∧ y.1 ≤ 35) (fun _ => True)) := by
 unfold C294_c0 F294_c0
 dsimp only
 with_reducible repeat' (first | apply dP | apply dX <;> intro _)
 · rename_i h1
   have := hb h1
   rw [wu8', w64']
   exact ⟨by first | omega | (dsimp only; omega), by first | omega | (dsimp only; omega)⟩
 · rw [wu8', w64']
   exact ⟨by first | omega | (dsimp only; omega), by first | omega | (dsimp only; omega)⟩
 all_goals trivial
theorem d294_1 (x : Int) (b : Bool) (hb : b = true → 48 ≤ x ∧ x ≤ 57) : Df (C294_c1 (x, b, ())) (Sum.elim (fun y => 0 ≤ y.1 ∧ y.1 ≤ 35) (fun _ => True)) := by
 unfold C294_c1 F294_c1
 dsimp only
 with_reducible repeat' (first | apply dP | apply dX <;> intro _)
 · rename_i h1
   have := hb h1
   rw [wu8', w64', w64']
   exact ⟨by first | omega | (dsimp only; omega), by first | omega | (dsimp only; omega)⟩
 · refine dZ (d294_0 x _ (fun h => by simp only [decide_eq_true_eq] at h; omega)) ?_
   intro z hz
   exact dS hz (fun a ha => dP ha) (fun _ _ => dP trivial)
 · refine dZ (d294_0 x _ (fun h => by cases h)) ?_
   intro z hz
   exact dS hz (fun a ha => dP ha) (fun _ _ => dP trivial)
theorem d294 (x : Int) : Df (C294 (x, ())) (fun y => y.2.1 = true → 0 ≤ y.1 ∧ y.1 ≤ 35) := by
 unfold C294 F294
 dsimp only
 with_reducible repeat' (first | apply dP | apply dX <;> intro _)
 · refine dZ (d294_1 x _ (fun h => by simp only [decide_eq_true_eq] at h; omega)) ?_
   intro z hz
   exact dS hz (fun a ha => dP fun _ => ha) (fun _ _ => dP fun h => by cases h)
 · refine dZ (d294_1 x _ (fun h => by cases h)) ?_
   intro z hz
   exact dS hz (fun a ha => dP fun _ => ha) (fun _ _ => dP fun h => by cases h)
theorem d271_l (s : List UInt8) (b : Int) (hs : s.length ≤ 1000000000000) : Df (C271_l0 (s, b, 0, 1, (s.length : Int), 0, ())) (Sum.elim (fun _ => True) (Sum.elim (fun _ => True) (fun y => 0 ≤ y.1 ∧ y.1 ≤ 2147483647 ∧ y.2.1.length < s.length))) := by
 refine dL ?I ?m ?h _ ?hv ?hn
 case I => exact (fun v => v.1 = s ∧ 0 ≤ v.2.2.1 ∧ v.2.2.1 ≤ 2147483647 ∧ 0 ≤ v.2.2.2.1 ∧ v.2.2.2.1 ≤ 75161927645 ∧ v.2.2.2.2.1 = s.length ∧ 0 ≤ v.2.2.2.2.2.1 ∧ v.2.2.2.2.2.1 ≤ s.length)
 case m => exact (fun v => (s.length - v.2.2.2.2.2.1).toNat)
 case hv => exact ⟨rfl, by first | omega | (dsimp only; omega), by first | omega | (dsimp only; omega), by first | omega | (dsimp only; omega), by first | omega | (dsimp only; omega), rfl, by first | omega | (dsimp only; omega), by first | omega | (dsimp only; omega)⟩
 case hn => exact (by first | omega | (dsimp only; omega))
 rintro ⟨x0, x1, x2, x3, x4, x5, u⟩ hI
 dsimp only at hI
 obtain ⟨rfl, h0, h1, h2, h3, rfl, h4, h5⟩ := hI
 unfold F271_l0
 dsimp only
 with_reducible repeat' (first | apply dP | apply dX <;> intro _)
 · refine dZ (d294 _) ?_
   rintro ⟨d, ok, u⟩ hd
   dsimp only at hd ⊢
   refine dH (fun _ => dP trivial) (fun hok => ?_)
   refine dD (fun _ => dP trivial) (fun hw => ?_)
   · have hd' := hd hok
     have p0 : 0 ≤ d * x3 := Int.mul_nonneg hd'.1 h2
     have p1 : d * x3 ≤ 35 * x3 := Int.mul_le_mul_of_nonneg_right hd'.2 h2
     generalize d * x3 = P at p0 p1 ⊢
     rw [w64s (n := P) (by omega), w64s (n := x2 + P) (by omega), w64s (n := x5 + 1) (by omega)]
     with_reducible repeat' (first | apply dP | apply dX <;> intro _)
     · trivial
     · refine dZ (d290 _ _) ?_
       rintro ⟨t, u⟩ ht
       dsimp only at ht ⊢
       have q0 : 0 ≤ x3 * (36 - t) := Int.mul_nonneg h2 (by omega)
       have q1 : x3 * (36 - t) ≤ x3 * 35 := Int.mul_le_mul_of_nonneg_left (by omega) h2
       rw [w64s (n := 36 - t) (by omega)]
       generalize x3 * (36 - t) = R at q0 q1 ⊢
       rw [w64s (n := R) (by omega)]
       with_reducible repeat' (first | apply dP | apply dX <;> intro _)
       · refine ⟨by first | omega | (dsimp only; omega), by first | omega | (dsimp only; omega), ?_⟩
         simp only [List.length_drop]
         omega
       · refine dO ?_; omega
       · exact ⟨⟨rfl, by first | omega | (dsimp only; omega), by first | omega | (dsimp only; omega), by first | omega | (dsimp only; omega), by first | omega | (dsimp only; omega), rfl, by first | omega | (dsimp only; omega), by first | omega | (dsimp only; omega)⟩, by first | omega | (dsimp only; omega)⟩
 · refine dO ?_; omega
 · trivial
theorem d271 (s : List UInt8) (b : Int) (hs : s.length ≤ 1000000000000) : Df (C271 (s, b, ())) (fun y => y.1 < 0 ∨ (0 ≤ y.1 ∧ y.1 ≤ 2147483647 ∧ y.2.1.length < s.length)) := by
 unfold C271 F271
 dsimp only
 refine dZ (d271_l s b hs) ?_
 intro z hz
 refine dS hz ?_ ?_
 · intro u _
   exact dP (.inl (by first | omega | (dsimp only; omega)))
 · intro z2 hz2
   refine dS hz2 ?_ ?_
   · intro u _
     refine dZ (P := fun y => y.1 < 0) ?_ ?_
     · refine dL ?I ?m ?h _ ?hv ?hn
       case I => exact (fun _ => True)
       case m => exact (fun _ => 0)
       case hv => exact trivial
       case hn => exact (by first | omega | (dsimp only; omega))
       intro v _
       unfold F271_g0
       exact dP (by decide : (-1 : Int) < 0)
     · rintro ⟨a, b, u⟩ h
       exact dP (.inl h)
   · rintro ⟨a, b, u⟩ h
     exact dP (.inr h)
theorem d272 (i : Int) (l : List Int) (x : Int) (hi : 0 ≤ i ∧ i ≤ l.length) (hl : l.length ≤ 1000000000000) : Df (C272 (i, l, [x], ())) (fun y => y.1.length = l.length + 1) := by
 unfold C272
 dsimp only
 rw [decide_eq_true hi.1, decide_eq_true hi.2, decide_eq_true hl]
 refine dP ?_
 simp only [List.length_append, List.length_take, List.length_drop, List.length_cons, List.length_nil]
 omega
theorem d226_l (L : Nat) (hL : L ≤ 1000000000000) (s : List UInt8) (out : List Int) (h : s.length + out.length ≤ L) : Df (C226_l0 (s, 128, 0, 72, true, out, ())) (Sum.elim (fun y => y.1.length ≤ L) (fun _ => True)) := by
 refine dL ?I ?m ?h _ ?hv ?hn
 case I => exact (fun v => v.1.length + v.2.2.2.2.2.1.length ≤ L ∧ 128 ≤ v.2.1 ∧ v.2.1 ≤ 1114111 ∧ 0 ≤ v.2.2.1 ∧ v.2.2.1 ≤ v.2.2.2.2.2.1.length)
 case m => exact (fun v => v.1.length)
 case hv => exact ⟨h, by first | omega | (dsimp only; omega), by first | omega | (dsimp only; omega), by first | omega | (dsimp only; omega), by first | omega | (dsimp only; omega)⟩
 case hn => exact (by first | omega | (dsimp only; omega))
 rintro ⟨x0, x1, x2, x3, x4, x5, u⟩ hI
 dsimp only at hI
 obtain ⟨h0, h1, h2, h3, h4⟩ := hI
 unfold F226_l0
 dsimp only
 rw [w64s (n := (x5.length : Int) + 1) (by omega)]
 with_reducible repeat' (first | apply dP | apply dX <;> intro _)
 · refine dZ (d271 x0 x3 (by omega)) ?_
   rintro ⟨d, rest, u⟩ hd
   dsimp only at hd ⊢
   refine dD (fun _ => dP trivial) (fun hneg => ?_)
   · have hd' := hd.resolve_left hneg
     rw [w64s (n := x2 + d) (by omega)]
     with_reducible repeat' (first | apply dP | apply dX <;> intro _)
     · trivial
     · refine dZ (d252 _ _ _ hd'.1 (by omega)) ?_
       rintro ⟨b, u⟩ -
       dsimp only
       have q0 : 0 ≤ (x2 + d) / ((x5.length : Int) + 1) := Int.ediv_nonneg (by omega) (by omega)
       have q1 : (x2 + d) / ((x5.length : Int) + 1) ≤ x2 + d := Int.ediv_le_self _ (by omega)
       have r0 : 0 ≤ (x2 + d) % ((x5.length : Int) + 1) := Int.emod_nonneg _ (by omega)
       have r1 : (x2 + d) % ((x5.length : Int) + 1) < (x5.length : Int) + 1 := Int.emod_lt_of_pos _ (by omega)
       rw [Int.tdiv_eq_ediv_of_nonneg (by omega), Int.tmod_eq_emod_of_nonneg (by omega)]
       generalize (x2 + d) / ((x5.length : Int) + 1) = q at q0 q1 ⊢
       generalize (x2 + d) % ((x5.length : Int) + 1) = r at r0 r1 ⊢
       rw [w64s (n := q) (by omega), w64s (n := x1 + q) (by omega)]
       with_reducible repeat' (first | apply dP | apply dX <;> intro _)
       · trivial
       · refine dZ (d155 _) ?_
         rintro ⟨ok, u⟩ -
         dsimp only
         with_reducible repeat' (first | apply dP | apply dX <;> intro _)
         · trivial
         · refine dZ (d272 r x5 _ (by omega) (by omega)) ?_
           rintro ⟨out', u⟩ ho
           dsimp only at ho ⊢
           rw [w64s (n := r + 1) (by omega)]
           exact dP ⟨⟨by first | omega | (dsimp only; omega), by first | omega | (dsimp only; omega), by first | omega | (dsimp only; omega), by first | omega | (dsimp only; omega), by first | omega | (dsimp only; omega)⟩, by first | omega | (dsimp only; omega)⟩
         · refine dO ?_; omega
       · refine dO ?_; omega
 · exact (by first | omega | (dsimp only; omega) : x5.length ≤ L)
theorem d226_0 (L : Nat) (hL : L ≤ 1000000000000) (s : List UInt8) (out : List Int) (h : s.length + out.length ≤ L) : Df (C226_c0 (s, out, ())) (fun y => y.2.1.length ≤ L) := by
 unfold C226_c0 F226_c0
 dsimp only
 refine dZ (d226_l L hL s out h) ?_
 intro z hz
 refine dS hz ?_ ?_
 · rintro ⟨a, u⟩ ha
   exact dP ha
 · rintro ⟨a, u⟩ -
   exact dP (by simp)
theorem d270 (s : List UInt8) (c : Int) (hs : s.length ≤ 1000000000000) : Df (C270 (s, c, ())) (fun y => -1 ≤ y.1 ∧ y.1 < s.length) := by
 unfold C270 F270
 dsimp only
 refine dZ (P := fun y => -1 ≤ y.1 ∧ y.1 < s.length) ?_ (fun _ h => dP h)
 unfold C293 F293
 dsimp only
 rw [w64s (n := (s.length : Int) - 1) (by omega)]
 refine dZ (P := Sum.elim (fun _ => True) (fun y => -1 ≤ y.1 ∧ y.1 < s.length)) ?_ ?_
 · refine dL ?I ?m ?h _ ?hv ?hn
   case I => exact (fun v => v.1 = s ∧ -1 ≤ v.2.2.1 ∧ v.2.2.1 < s.length)
   case m => exact (fun v => (v.2.2.1 + 1).toNat)
   case hv => exact ⟨rfl, by first | omega | (dsimp only; omega), by first | omega | (dsimp only; omega)⟩
   case hn => exact (by first | omega | (dsimp only; omega))
   rintro ⟨x0, x1, x2, u⟩ hI
   dsimp only at hI
   obtain ⟨rfl, h0, h1⟩ := hI
   unfold F293_l0
   dsimp only
   with_reducible repeat' (first | apply dP | apply dX <;> intro _)
   · exact ⟨by first | omega | (dsimp only; omega), by first | omega | (dsimp only; omega)⟩
   · rw [w64s (n := x2 - 1) (by omega)]
     exact ⟨⟨rfl, by first | omega | (dsimp only; omega), by first | omega | (dsimp only; omega)⟩, by first | omega | (dsimp only; omega)⟩
   · refine dO ?_; omega
   · trivial
 · intro z hz
   refine dS hz ?_ ?_
   · intro u _
     exact dP ⟨by first | omega | (dsimp only; omega), by first | omega | (dsimp only; omega)⟩
   · rintro ⟨a, u⟩ h
     exact dP h
theorem d226 (s : List UInt8) (hs : s.length ≤ 1000000000000) : Df (C226 (s, ())) (fun y => y.1.length ≤ s.length) := by
 unfold C226 F226
 dsimp only
 refine dZ (d21 s (by omega)) ?_
 rintro ⟨e, u⟩ he
 dsimp only at he ⊢
 with_reducible repeat' (first | apply dP | apply dX <;> intro _)
 · exact (by simp : ([] : List Int).length ≤ s.length)
 · rename_i hneg
   have hall := he.2 (by omega)
   refine dZ (d270 s 45 hs) ?_
   rintro ⟨k, u⟩ hk
   dsimp only at hk ⊢
   rw [w64s (n := k + 1) (by omega)]
   have hb : (decide ((List.take k.toNat s).length ≤ 70368744177664) && (List.take k.toNat s).all fun b => decide (b.toNat < 128)) = true := by
    rw [decide_eq_true (by rw [List.length_take]; omega), Bool.true_and, List.all_eq_true]
    intro c hc
    exact decide_eq_true (hall c (List.mem_of_mem_take hc))
   rw [hb]
   simp only [cond_true]
   with_reducible repeat' (first | apply dP | apply dX <;> intro _)
   · refine dZ (d226_0 s.length hs _ _ (by simp only [List.length_drop, List.length_map, List.length_take]; omega)) ?_
     rintro ⟨a, b, u⟩ h
     exact dP h
   · refine dO ?_; omega
   · refine dO ?_; omega
   · refine dZ (d226_0 s.length hs _ _ (by simp)) ?_
     rintro ⟨a, b, u⟩ h
     exact dP h
theorem d192 (h : TK T A B) (s : List UInt8) (hs : s.length ≤ 6000000) : Df (C192 (T, A, B, s, ())) (fun y => y.1.length ≤ 200000000000 ∧ y.2.1.length ≤ 200000000000) := by
 unfold C192 F192
 dsimp only
 refine dZ (d151 h s (by omega)) ?_
 rintro ⟨f, ok, u⟩ hf
 dsimp only at hf ⊢
 refine dZ (d132 f _) ?_
 rintro ⟨rest, is, u⟩ hr
 dsimp only at hr ⊢
 with_reducible repeat' (first | apply dP | apply dX <;> intro _)
 · exact ⟨by simp, by simp⟩
 · refine dZ (d21 f (by omega)) ?_
   rintro ⟨e, u⟩ -
   dsimp only
   with_reducible repeat' (first | apply dP | apply dX <;> intro _)
   · refine dZ (d83 f (by omega)) ?_
     rintro ⟨l, at_, u⟩ hl
     dsimp only at hl ⊢
     refine dZ (d223 l (by omega)) ?_
     rintro ⟨code, b, u⟩ hc
     dsimp only at hc ⊢
     with_reducible repeat' (first | apply dP | apply dX <;> intro _)
     · refine dZ (d224 h f (by omega)) ?_
       rintro ⟨w, u⟩ -
       exact dP ⟨by simp only [List.length_append, List.length_cons, List.length_nil]; omega, by first | omega | (dsimp only; omega)⟩
     · refine dO ?_; simp only [List.length_cons, List.length_nil] at *; omega
   · refine dZ (d225 f (by omega)) ?_
     rintro ⟨w, u⟩ -
     exact dP ⟨by first | omega | (dsimp only; omega), by first | omega | (dsimp only; omega)⟩
   · refine dZ (d226 rest (by omega)) ?_
     rintro ⟨l, ok2, u⟩ hl
     dsimp only at hl ⊢
     with_reducible repeat' (first | apply dP | apply dX <;> intro _)
     · exact ⟨by simp, by simp⟩
     · exact ⟨by simp, by simp⟩
     · refine dZ (d178 l (by omega)) ?_
       rintro ⟨us, b, u⟩ hu
       dsimp only at hu ⊢
       refine dZ (d224 h us (by omega)) ?_
       rintro ⟨w, u⟩ -
       dsimp only
       with_reducible repeat' (first | apply dP | apply dX <;> intro _)
       · exact ⟨by simp, by simp⟩
       · refine dZ (d223 l (by omega)) ?_
         rintro ⟨code, b, u⟩ -
         dsimp only
         with_reducible repeat' (first | apply dP | apply dX <;> intro _)
         · exact ⟨by simp, by simp⟩
         · exact ⟨by first | omega | (dsimp only; omega), by first | omega | (dsimp only; omega)⟩
theorem d159 (h : TK T A B) (s : List UInt8) (hs : s.length ≤ 6000000) : Df (C159 (T, A, B, s, ())) (fun y => y.1.length ≤ 200000000000) := by
 unfold C159 F159
 dsimp only
 refine dZ (d192 h s hs) ?_
 rintro ⟨a, b, e, u⟩ ha
 dsimp only at ha ⊢
 with_reducible repeat' (first | apply dP | apply dX <;> intro _)
 · exact (by simp : ([] : List UInt8).length ≤ 200000000000)
 · exact ha.1
theorem d160 (h : TK T A B) (s : List UInt8) (hs : s.length ≤ 6000000) : Df (C160 (T, A, B, s, ())) (fun y => y.1.length ≤ 200000000000) := by
 unfold C160 F160
 dsimp only
 refine dZ (d192 h s hs) ?_
 rintro ⟨a, b, e, u⟩ ha
 dsimp only at ha ⊢
 with_reducible repeat' (first | apply dP | apply dX <;> intro _)
 · exact (by simp : ([] : List UInt8).length ≤ 200000000000)
 · exact ha.2
theorem indexByte_lt (c : UInt8) : ∀ l : List UInt8, Lib.indexByte l c < l.length
 | [] => by simp [Lib.indexByte]
 | b :: l => by
  have := indexByte_lt c l
  simp only [Lib.indexByte, List.length_cons]
  split
  · omega
  · split <;> omega
theorem d162 (s : List UInt8) (c : Int) : Df (C162 (s, c, ())) (fun y => -1 ≤ y.1 ∧ y.1 < s.length) := by
 unfold C162 F162
 dsimp only
 exact dZ (P := fun y => -1 ≤ y.1 ∧ y.1 < s.length) (dP ⟨Lib.indexByte_ge s _, indexByte_lt _ s⟩) fun _ h => dP h
theorem d197_0 (s : List UInt8) (b : Bool) (hb : b = true → 0 < s.length) : Df (C197_c0 (s, [46], 1, b, ())) (fun y => -1 ≤ y.1 ∧ y.1 < s.length) := by
 unfold C197_c0 F197_c0
 dsimp only
 with_reducible repeat' (first | apply dP | apply dX <;> intro _)
 · rename_i h1
   have := hb h1
   exact ⟨by first | omega | (dsimp only; omega), by first | omega | (dsimp only; omega)⟩
 · exact dZ (d162 s _) fun _ h => dP h
 · rename_i h1 h2 h3
   exact absurd (by decide : (0 : Int) < (([46] : List UInt8).length : Int)) h3
 all_goals (exfalso; omega)
theorem d129 (s : List UInt8) (hs : s.length ≤ 1000000000000) : Df (C129 (s, [46], ())) (fun y => y.1.length ≤ s.length ∧ y.2.1.length ≤ s.length ∧ (y.2.2.1 = true → y.2.1.length < s.length)) := by
 unfold C129 F129
 dsimp only
 refine dZ (P := fun y => y.1.length ≤ s.length ∧ y.2.1.length ≤ s.length ∧ (y.2.2.1 = true → y.2.1.length < s.length)) ?_ (fun _ h => dP h)
 unfold C163 F163
 dsimp only
 refine dZ (P := fun y => -1 ≤ y.1 ∧ y.1 < s.length) ?_ ?_
 · unfold C197 F197
   dsimp only
   have e0 : ((([46] : List UInt8).length : Int) == 0) = false := rfl
   rw [e0]
   simp only [cond_false]
   refine dZ (d197_0 s _ fun h => ?_) fun _ h => dP h
   have := eq_of_beq h
   rw [← this]; decide
 rintro ⟨k, u⟩ hk
 dsimp only at hk ⊢
 rw [show (([46] : List UInt8).length : Int) = 1 from rfl, w64s (n := k + 1) (by omega)]
 with_reducible repeat' (first | apply dP | apply dX <;> intro _)
 · refine ⟨?_, ?_, fun _ => ?_⟩
   · simp only [List.length_take]; omega
   · simp only [List.length_drop]; omega
   · simp only [List.length_drop]; omega
 · refine dO ?_; omega
 · refine dO ?_; omega
 · exact ⟨Nat.le_refl _, by simp, fun h => by cases h⟩
theorem parts_total : ∀ (n : Nat) (s : List UInt8), s.length < n → s.length ≤ 1000000000000 → ∃ ps, partsC n s = some ps ∧ ps.length ≤ n ∧ ∀ p ∈ ps, p.length ≤ s.length
 | n + 1, s, hn, hs => by
  obtain ⟨⟨a, b, ok, u⟩, e, h1, h2, h3⟩ := d129 s hs
  dsimp only at h1 h2 h3
  cases ok with
  | true =>
   have h4 := h3 rfl
   obtain ⟨ps, e2, h5, h6⟩ := parts_total n b (by omega) (by omega)
   refine ⟨a :: ps, by simp only [partsC, e, Option.bind_some, cond_true, e2, Option.map_some], by simp only [List.length_cons]; omega, ?_⟩
   intro p hp
   rcases List.mem_cons.1 hp with rfl | hp
   · exact h1
   · have := h6 p hp; omega
  | false =>
   refine ⟨[a], by simp only [partsC, e, Option.bind_some, cond_false], by simp only [List.length_cons, List.length_nil]; omega, ?_⟩
   intro p hp
   rw [List.mem_singleton] at hp
   subst hp; exact h1
end
section
variable {T : List R6} {A : List R4} {B : List R3}
theorem index_fit {s old : List UInt8} {i : Nat} (h : Lib.index s old = i) : i + old.length ≤ s.length := by
 have := Lib.index_room s old (by omega)
 omega
theorem replaceK_le (old new : List UInt8) (hl : new.length ≤ old.length) : ∀ (k : Nat) (s : List UInt8), (Lib.replaceK old new k s).length ≤ s.length
 | 0, s => Nat.le_refl _
 | k + 1, s => by
  by_cases h : Lib.index s old = -1
  · rw [Lib.replaceK, if_pos (by rw [h]; rfl)]; exact Nat.le_refl _
  · obtain ⟨i, hi⟩ : ∃ i : Nat, Lib.index s old = i := ⟨(Lib.index s old).toNat, by have := Lib.index_ge s old; omega⟩
    rw [Lib.replaceK_hit old new k s i hi]
    have h1 := replaceK_le old new hl k (s.drop (i + old.length))
    have h2 := index_fit hi
    simp only [List.length_append, List.length_take, List.length_drop] at h1 ⊢
    omega
theorem replaceAll_le (s old new : List UInt8) (hl : new.length ≤ old.length) : (Lib.replaceAll s old new).length ≤ s.length := by
 unfold Lib.replaceAll Lib.replace
 split
 · exact Nat.le_refl _
 · exact replaceK_le old new hl _ s
theorem labels_total (f : List UInt8) (ok : Bool) (hf : f.length ≤ 5000000) : ∃ ls c, labelsF f ok = some (ls, c) ∧ ls.length ≤ 32 ∧ ∀ p ∈ ls, p.length ≤ 5000000 := by
 unfold labelsF
 cases ok with
 | false => exact ⟨[], 7, rfl, by simp, fun p hp => by cases hp⟩
 | true =>
  cases hfe : f.isEmpty with
  | true => exact ⟨[], 13, rfl, by simp, fun p hp => by cases hp⟩
  | false =>
   simp only [Bool.not_true, cond_false]
   rw [decide_eq_true (by omega)]
   simp only [cond_true]
   have hr := replaceAll_le f [227, 128, 130] [46] (by decide)
   obtain ⟨ps, e, h1, h2⟩ := parts_total (f.length + 2) (Lib.replaceAll f [227, 128, 130] [46]) (by omega) (by omega)
   simp only [e, Option.bind_some]
   rw [decide_eq_true (by omega)]
   simp only [cond_true]
   by_cases h3 : 32 < ps.length
   · rw [decide_eq_true h3]
     exact ⟨[], 2, rfl, by simp, fun p hp => by cases hp⟩
   · rw [decide_eq_false h3]
     exact ⟨ps, 0, rfl, by omega, fun p hp => by have := h2 p hp; omega⟩
theorem lens_snoc (l : List (List UInt8)) (x : List UInt8) : Lib.lens (l ++ [x]) = Lib.lens l + x.length := by simp [Lib.lens]
theorem both_total (f g : List UInt8 → Option (List UInt8 × Int)) (hf : ∀ x : List UInt8, x.length ≤ 5000000 → ∃ y, f x = some y ∧ y.1.length ≤ 200000000000) (hg : ∀ x : List UInt8, x.length ≤ 5000000 → ∃ y, g x = some y ∧ y.1.length ≤ 200000000000) :
 ∀ (ls ps qs : List (List UInt8)) (n : Nat), (∀ p ∈ ls, p.length ≤ 5000000) → ps.length + ls.length ≤ 32 → qs.length + ls.length ≤ 32 → Lib.lens ps ≤ 200000000000 * n → Lib.lens qs ≤ 200000000000 * n → n + ls.length ≤ 32 →
  ∃ r, bothF f g ls ps qs = some r ∧ r.2.1.length ≤ 32 ∧ r.2.2.length ≤ 32 ∧ Lib.lens r.2.1 ≤ 6400000000000 ∧ Lib.lens r.2.2 ≤ 6400000000000
 | [], ps, qs, n, h, h1, h2, h3, h4, h5 => ⟨(0, ps, qs), rfl, by simpa using h1, by simpa using h2, by simp only [List.length_nil] at h5; dsimp only; omega, by simp only [List.length_nil] at h5; dsimp only; omega⟩
 | x :: ls, ps, qs, n, h, h1, h2, h3, h4, h5 => by
  obtain ⟨a, ea, ha⟩ := hf x (h x List.mem_cons_self)
  obtain ⟨b, eb, hb⟩ := hg x (h x List.mem_cons_self)
  simp only [bothF, ea, Option.bind_some]
  simp only [List.length_cons] at h1 h2 h5
  cases hz : (a.2 != 0) with
  | true => exact ⟨(a.2, [], []), rfl, by simp, by simp, by simp [Lib.lens], by simp [Lib.lens]⟩
  | false =>
   simp only [cond_false, eb, Option.bind_some]
   exact both_total f g hf hg ls (ps ++ [a.1]) (qs ++ [b.1]) (n + 1) (fun p hp => h p (List.mem_cons_of_mem _ hp)) (by simp only [List.length_append, List.length_cons, List.length_nil]; omega) (by simp only [List.length_append, List.length_cons, List.length_nil]; omega)
    (by rw [lens_snoc]; omega) (by rw [lens_snoc]; omega) (by omega)
theorem join_total (l : List (List UInt8)) (h1 : l.length ≤ 32) (h2 : Lib.lens l ≤ 6400000000000) : ∃ r, joinF (l, [46], ()) = some (r, ()) := by
 unfold joinF
 have hj : (Lib.join l [46]).length ≤ 140737488355328 := by
  cases l with
  | nil => exact Nat.zero_le _
  | cons x r =>
   rw [Lib.join_length]
   simp only [List.length_cons, List.length_nil] at h1 ⊢
   omega
 dsimp only
 rw [decide_eq_true (by omega), decide_eq_true hj]
 exact ⟨_, rfl⟩
theorem out_total (r : Int × List (List UInt8) × List (List UInt8)) (h1 : r.2.1.length ≤ 32) (h2 : r.2.2.length ≤ 32) (h3 : Lib.lens r.2.1 ≤ 6400000000000) (h4 : Lib.lens r.2.2 ≤ 6400000000000) : ∃ o, outF r = some o := by
 unfold outF
 cases (r.1 != 0) with
 | true => exact ⟨_, rfl⟩
 | false =>
  obtain ⟨a, ha⟩ := join_total r.2.1 h1 h3
  obtain ⟨b, hb⟩ := join_total r.2.2 h2 h4
  simp only [cond_false, ha, Option.bind_some, hb]
  cases decide (253 < a.length) with
  | true => exact ⟨_, rfl⟩
  | false => exact ⟨_, rfl⟩
theorem d124 (h : TK T A B) (s : List UInt8) (hs : s.length ≤ 3000) : ∃ y, C124 (T, A, B, s, ()) = some y := by
 obtain ⟨⟨f, ok, u⟩, e, hf⟩ := d151 h s (by omega)
 dsimp only at hf
 obtain ⟨ls, c, e2, hll, hls⟩ := labels_total f ok (by omega)
 unfold C124
 dsimp only
 simp only [e, Option.bind_some, e2]
 cases (c != 0) with
 | true => exact ⟨_, rfl⟩
 | false =>
  simp only [cond_false]
  rw [decide_eq_true hll]
  obtain ⟨r, er, h1, h2, h3, h4⟩ := both_total (fun x => (C159 (T, A, B, x, ())).map fun r => (r.1, r.2.1)) (fun x => (C160 (T, A, B, x, ())).map fun r => (r.1, r.2.1))
   (fun x hx => by
    obtain ⟨y, e, hy⟩ := d159 h x (by omega)
    exact ⟨(y.1, y.2.1), by simp only [e, Option.map_some], hy⟩)
   (fun x hx => by
    obtain ⟨y, e, hy⟩ := d160 h x (by omega)
    exact ⟨(y.1, y.2.1), by simp only [e, Option.map_some], hy⟩)
   ls [] [] 0 hls (by simpa using hll) (by simpa using hll) (by simp [Lib.lens]) (by simp [Lib.lens]) (by simpa using hll)
  obtain ⟨o, ho⟩ := out_total r h1 h2 h3 h4
  simp only [cond_true, er, Option.bind_some, ho, Option.map_some]
  exact ⟨_, rfl⟩
end
section
variable {T : List R6} {A : List R4} {B : List R3}
theorem d85 (x : Int) : Df (C85 (x, ())) (fun _ => True) := by
 unfold C85 F85
 dsimp only
 with_reducible repeat' (first | apply dP | apply dX <;> intro _)
 all_goals trivial
theorem d156v1 (s : List UInt8) (b : Bool) (hs : s.length ≤ 1000000000000000) : Df (C156v1 (s, b, ())) (fun _ => True) := by
 unfold C156v1 F156v1
 dsimp only
 refine dZ (P := fun _ => True) ?_ (fun z _ => by cases z <;> exact dP trivial)
 refine dL ?I ?m ?h _ ?hv ?hn
 case I => exact (fun v => v.2.1.1 = s ∧ 0 ≤ v.2.1.2)
 case m => exact (fun v => s.length - v.2.1.2.toNat)
 case hv => exact ⟨rfl, Int.le_refl _⟩
 case hn => exact (by first | omega | (dsimp only; omega))
 · rintro ⟨x0, ⟨x1, p⟩, u⟩ hI
   dsimp only at hI
   obtain ⟨rfl, h0⟩ := hI
   unfold F156v1_l0
   dsimp only
   with_reducible repeat' (first | apply dP | apply dX <;> intro _)
   · refine dZ (d85 _) ?_
     rintro ⟨x, u⟩ -
     dsimp only
     have := decR_pos x1 p.toNat
     with_reducible repeat' (first | apply dP | apply dX <;> intro _)
     · trivial
     · exact ⟨⟨rfl, by first | omega | (dsimp only; omega)⟩, by first | omega | (dsimp only; omega)⟩
   · trivial
theorem d84v1 (s : List UInt8) (hs : s.length ≤ 1000000000000000) : Df (C84v1 (s, ())) (fun _ => True) := by
 unfold C84v1 F84v1
 dsimp only
 refine dZ (P := fun _ => True) ?_ (fun z _ => dP trivial)
 unfold C123v1 F123v1
 dsimp only
 exact dZ (d156v1 s true hs) (fun z _ => dP trivial)
theorem d86 (a : List UInt8) : Df (C86 (a, ())) (fun _ => True) := by
 unfold C86 F86
 dsimp only
 refine dZ (P := fun _ => True) ?_ (fun z _ => dP trivial)
 unfold C96 F96
 dsimp only
 exact dZ (d131 a [91]) (fun z _ => dP trivial)
theorem d87 (h : TK T A B) (s : List UInt8) (hs : s.length ≤ 3000) : Df (C87 (T, A, B, s, ())) (fun _ => True) := by
 unfold C87 F87
 dsimp only
 obtain ⟨y, e⟩ := d124 h s hs
 exact dZ (P := fun _ => True) ⟨y, e, trivial⟩ (fun z _ => dP trivial)
theorem d44 (h : TK T A B) (a b : List UInt8) (ha : a.length ≤ 100000) (hb : b.length ≤ 3000) : Df (C44 (T, A, B, a, b, ())) (fun _ => True) := by
 unfold C44 F44
 dsimp only
 refine dZ (d83 a (by omega)) ?_
 rintro ⟨x, y, u⟩ -
 dsimp only
 with_reducible repeat' (first | apply dP | apply dX <;> intro _)
 · trivial
 · trivial
 · trivial
 · refine dZ (d84v1 a (by omega)) ?_
   rintro ⟨x, u⟩ -
   dsimp only
   with_reducible repeat' (first | apply dP | apply dX <;> intro _)
   · trivial
   · refine dZ (d86 b) ?_
     rintro ⟨x, u⟩ -
     dsimp only
     with_reducible repeat' (first | apply dP | apply dX <;> intro _)
     · rw [c11 b]
       simp only [Option.bind_some]
       with_reducible repeat' (first | apply dP | apply dX <;> intro _)
       · trivial
       · trivial
       · trivial
       · trivial
       · refine dO ?_; omega
     · exact dZ (d87 h b hb) (fun z _ => dP trivial)
end
theorem lexs_sz : ∀ (m : Nat) (s : List UInt8) (p : Nat) (l : List Tok), s.length ≤ m → lexs s p = .inl l → szT l ≤ s.length ∧ l.length ≤ s.length
 | _, [], p, l, _, h => by rw [lexs_nil] at h; cases h; exact ⟨Nat.le_refl _, Nat.le_refl _⟩
 | 0, c :: r, p, l, hm, h => by simp at hm
 | m + 1, c :: r, p, l, hm, h => by
  obtain ⟨k, t, u, l', h1, h2, rfl⟩ := lexs_inl h
  have hu := one_used h1
  have ht := one_text_len h1
  obtain ⟨i1, i2⟩ := lexs_sz m ((c :: r).drop u) (p + u) l' (by simp at hm ⊢; omega) h2
  simp only [List.length_drop, List.length_cons, szT] at i1 i2 ⊢
  omega
theorem lexR_sz (s : List UInt8) : szT (lexR s).1 ≤ s.length ∧ (lexR s).1.length ≤ s.length := by
 have nil : szT ([] : List Tok) ≤ s.length ∧ ([] : List Tok).length ≤ s.length := ⟨Nat.zero_le _, Nat.zero_le _⟩
 unfold lexR
 split
 · exact nil
 · cases utf s with
   | some b => exact nil
   | none =>
    cases h : lexs s 0 with
    | inr e => exact nil
    | inl l => exact lexs_sz _ s 0 l (Nat.le_refl _) h
theorem dwn_sz : ∀ (m : Nat) (l : List Tok) (acc : List UInt8), l.length ≤ m → (dwn acc l).1.length ≤ acc.length + szT l + l.length
 | _, [], _, _ => by simp [dwn]
 | _, [_], _, _ => by simp only [dwn]; omega
 | 0, _ :: _ :: _, _, h => by simp at h
 | m + 1, t :: u :: r, acc, h => by
  have := dwn_sz m r (acc ++ ([46] ++ u.2.1)) (by simp at h; omega)
  simp only [List.length_append, List.length_cons, List.length_nil] at this
  simp only [dwn, szT, List.length_cons]
  cases ((t.1 == 2 && t.2.1 == [46]) && u.1 == 0) with
  | true => simp only [cond_true]; omega
  | false => simp only [cond_false]; omega
theorem dot_sz (l : List Tok) : (dot l).1.length ≤ szT l + l.length := by
 cases l with
 | nil => exact Nat.le_refl _
 | cons t r =>
  have := dwn_sz r.length r t.2.1 (Nat.le_refl _)
  simp only [dot, szT, List.length_cons]
  cases (t.1 == 0) with
  | true => simp only [cond_true]; omega
  | false => simp only [cond_false, List.length_nil]; omega
theorem loc_sz (l : List Tok) : (loc l).2.1.length ≤ szT l + l.length := by
 cases l with
 | nil => exact Nat.le_refl _
 | cons t r =>
  have := dot_sz (t :: r)
  simp only [loc, szT, List.length_cons] at this ⊢
  cases (t.1 == 1) with
  | true => simp only [cond_true]; omega
  | false => simpa only [cond_false] using this
theorem dom_sz (l : List Tok) : (dom l).2.1.length ≤ szT l + l.length + 2 := by
 cases l with
 | nil => exact Nat.zero_le _
 | cons t r =>
  have := dot_sz (t :: r)
  simp only [dom, szT, List.length_cons] at this ⊢
  by_cases h5 : t.1 = 5
  · rw [ibT h5]
    simp only [cond_true, src, h5, List.length_append, List.length_cons, List.length_nil]
    simp
    omega
  · rw [ibF h5]
    simp only [cond_false]
    omega
theorem mt_sz (l : List Tok) {r : List UInt8 × List UInt8 × Nat} (h : mt l = some r) : 1 ≤ r.2.2 ∧ r.1.length ≤ szT l + l.length ∧ r.2.1.length ≤ szT l + l.length + 2 := by
 unfold mt at h
 simp only at h
 have b1 := loc_sz (l.drop (skn l))
 have b2 := szT_drop (skn l) l
 rw [List.length_drop] at b1
 cases hl : (loc (l.drop (skn l))).1 with
 | false => simp only [hl, Bool.not_false, cond_true] at h; cases h
 | true =>
  simp only [hl, Bool.not_true, cond_false] at h
  generalize skn l + (loc (l.drop (skn l))).2.2 = n2 at h
  generalize n2 + skn (l.drop n2) = n3 at h
  cases hs : sgn [64] (l.drop n3) with
  | false => simp only [hs, Bool.not_false, cond_true] at h; cases h
  | true =>
   simp only [hs, Bool.not_true, cond_false] at h
   generalize hn5 : n3 + 1 + skn (l.drop (n3 + 1)) = n5 at h
   have b5 := dom_sz (l.drop n5)
   have b6 := szT_drop n5 l
   rw [List.length_drop] at b5
   cases hd : (dom (l.drop n5)).1 with
   | false => simp only [hd, Bool.not_false, cond_true] at h; cases h
   | true =>
    simp only [hd, Bool.not_true, cond_false] at h
    cases h
    simp only
    omega
section
variable {l : List Tok}
end
section
variable {T : List R6} {A : List R4} {B : List R3}
end
def lowb (b : UInt8) : UInt8 := UInt8.ofNat (((C64 ((b.toNat : Int), ())).getD (0, ())).1.toNat)
theorem low_k : ((List.range 256).all fun n => (C64 (((UInt8.ofNat n).toNat : Int), ())).isSome) = true := by kernel_rfl
theorem p64 (b : UInt8) : ∃ v : Int, C64 ((b.toNat : Int), ()) = some (v, ()) ∧ UInt8.ofNat v.toNat = lowb b := by
 have h := List.all_eq_true.1 low_k b.toNat (by simp only [List.mem_range]; exact b.toNat_lt)
 simp only [UInt8.ofNat_toNat] at h
 obtain ⟨⟨v, u⟩, hv⟩ := Option.isSome_iff_exists.1 h
 exact ⟨v, hv, by unfold lowb; rw [hv]; rfl⟩
theorem pl63 : ∀ (r pre : List UInt8) (p n : Nat) (acc : List UInt8), pre.length = p → acc.length = p → r.length < n → p + r.length ≤ 1000000 →
 loopN (F63_l0 C64) n (pre ++ r, ((p + r.length : Nat) : Int), (p : Int), acc, ()) = some (acc ++ r.map lowb, ())
 | [], pre, p, n + 1, acc, hp, ha, hn, hb => by
  refine loopN_inr ?_
  simp only [F63_l0, List.length_nil, Nat.add_zero]
  rw [decide_eq_false (by omega)]
  simp only [cond_false, List.map_nil, List.append_nil]
 | c :: r, pre, p, n + 1, acc, hp, ha, hn, hb => by
  simp only [List.length_cons] at hn hb
  obtain ⟨v, hv, hl⟩ := p64 c
  have hlen : (pre ++ c :: r).length = p + r.length + 1 := by simp [hp]; omega
  rw [loopN_inl (v' := (pre ++ c :: r, ((p + (r.length + 1) : Nat) : Int), ((p + 1 : Nat) : Int), acc ++ [lowb c], ())) ?_]
  · have ih := pl63 r (pre ++ [c]) (p + 1) n (acc ++ [lowb c]) (by simp [hp]) (by simp [ha]) (by omega) (by omega)
    rw [show p + (r.length + 1) = p + 1 + r.length by omega, show pre ++ c :: r = (pre ++ [c]) ++ r by simp, ih]
    simp
  · simp only [F63_l0, List.length_cons]
    rw [decide_eq_true (by omega), decide_eq_true (by omega), decide_eq_true (by omega)]
    simp only [Bool.and_self, cond_true, Int.toNat_natCast]
    rw [show (pre ++ c :: r).getD p 0 = c by subst hp; simp]
    simp only [hv, Option.bind_some, hl, wrN p (by omega)]
    rw [decide_eq_true (by simp only [List.length_cons, List.length_nil]; omega)]
    rfl
theorem p25 (l : List UInt8) (h : l.length ≤ 1000000) : C25 (l, ()) = some (l.map lowb, ()) := by
 have hl : C63_l0 (l, (l.length : Int), 0, [], ()) = some (l.map lowb, ()) := by
  have h := pl63 l [] 0 big [] rfl rfl (by unfold big; omega) (by omega)
  rw [Nat.zero_add] at h
  exact h
 have h63 : C63 (l, ()) = some (l.map lowb, ()) := by
  show F63 C64 C63_l0 _ = _
  simp only [F63, hl, Option.bind_some]
 show F25 C63 _ = _
 simp only [F25, h63, Option.bind_some]
 rw [decide_eq_true (by omega)]
 rfl
section
variable {T : List R6} {A : List R4} {B : List R3}
theorem d184_0 (h : TK T A B) (x : Int) (b : Bool) : Df (C184_c0 (x, b, T, A, B, ())) (fun y => ∀ z, y = .inr z → (z.2.1, z.2.2.1, z.2.2.2.1) = (T, A, B)) := by
 unfold C184_c0 F184_c0
 dsimp only
 with_reducible repeat' (first | apply dP | apply dX <;> intro _)
 · intro z hz; cases hz
 · refine dZ (d215 T A B x h.t) ?_
   rintro ⟨c, u⟩ -
   dsimp only
   with_reducible repeat' (first | apply dP | apply dX <;> intro _)
   · refine dZ (d216 T A B x) ?_
     rintro ⟨a1, a2, a3, a4, a5, a6, u⟩ -
     dsimp only
     with_reducible repeat' (first | apply dP | apply dX <;> intro _)
     all_goals (intro z hz; cases hz)
   · intro z hz; cases hz; rfl
theorem d184 (h : TK T A B) (x : Int) : Df (C184 (T, A, B, x, ())) (fun _ => True) := by
 unfold C184 F184
 dsimp only
 with_reducible repeat' (first | apply dP | apply dX <;> intro _)
 all_goals
  refine dZ (d184_0 h x _) ?_
  intro z hz
  cases z with
  | inl z => exact dP trivial
  | inr z =>
   obtain ⟨z1, z2, z3, z4, u⟩ := z
   have e := hz _ rfl
   cases e
   exact dZ (d217 h z1) fun _ _ => dP trivial
theorem d182 (h : TK T A B) (l : List Int) (p : Int) (hl : l.length ≤ 1000000000000) (h0 : 0 ≤ p) (hp : p < l.length) : Df (C182 (p, T, A, B, l, ())) (fun y => y.2 = (T, A, B, l, ())) := by
 unfold C182 F182
 dsimp only
 refine dZ (d183 h l p hl (by omega)) ?_
 rintro ⟨c, u⟩ -
 dsimp only
 with_reducible repeat' (first | apply dP | apply dX <;> intro _)
 · rfl
 · exact dZ (d184 h _) fun _ _ => dP rfl
 · refine dO ?_; omega
 · rfl
theorem d152 (h : TK T A B) (s : List UInt8) (hs : s.length ≤ 1000000000000) : Df (C152 (T, A, B, s, ())) (fun _ => True) := by
 unfold C152 F152
 dsimp only
 refine dZ (d83 s hs) ?_
 rintro ⟨l, bad, u⟩ ⟨h1, -, -⟩
 dsimp only at h1 ⊢
 with_reducible repeat' (first | apply dP | apply dX <;> intro _)
 · trivial
 · trivial
 · refine dZ (P := fun _ => True) ?_ (fun z _ => by cases z <;> exact dP trivial)
   refine dL ?I ?m ?h _ ?hv ?hn
   case I => exact (fun v => v.1 = l.length ∧ 0 ≤ v.2.1 ∧ v.2.2 = (T, A, B, l, ()))
   case m => exact (fun v => (l.length - v.2.1).toNat)
   case hv => exact ⟨rfl, Int.le_refl _, rfl⟩
   case hn => exact (by first | omega | (dsimp only; omega))
   rintro ⟨n, k, T', A', B', l', u⟩ ⟨g1, g2, g3⟩
   dsimp only at g1 g2 g3
   subst g1
   cases g3
   unfold F152_l0
   dsimp only
   with_reducible repeat' (first | apply dP | apply dX <;> intro _)
   · rename_i hk
     refine dZ (d182 h l k (by omega) g2 hk) ?_
     rintro ⟨b, r⟩ hr
     dsimp only at hr
     subst hr
     dsimp only
     with_reducible repeat' (first | apply dP | apply dX <;> intro _)
     · trivial
     · rw [w64s (by omega)]
       exact ⟨⟨rfl, by first | omega | (dsimp only; omega), rfl⟩, by first | omega | (dsimp only; omega)⟩
   · trivial
theorem d120 (h : TK T A B) (s : List UInt8) (hs : s.length ≤ 100000) : Df (C120 (T, A, B, s, ())) (fun _ => True) := by
 unfold C120 F120
 dsimp only
 refine dZ (d151 h s (by omega)) ?_
 rintro ⟨f, ok, u⟩ hf
 dsimp only at hf ⊢
 with_reducible repeat' (first | apply dP | apply dX <;> intro _)
 · trivial
 · refine dZ (d152 h f (by omega)) ?_
   rintro ⟨e, u⟩ -
   dsimp only
   with_reducible repeat' (first | apply dP | apply dX <;> intro _)
   · trivial
   · refine dZ (d83 f (by omega)) ?_
     rintro ⟨l, bad, u⟩ ⟨h1, -, -⟩
     dsimp only at h1 ⊢
     refine dZ (d153 h l (by omega)) ?_
     rintro ⟨e, u⟩ -
     dsimp only
     with_reducible repeat' (first | apply dP | apply dX <;> intro _)
     · refine dZ (d154 h l (by omega)) ?_
       rintro ⟨e, u⟩ -
       dsimp only
       with_reducible repeat' (first | apply dP | apply dX <;> intro _)
       · trivial
       · trivial
     · trivial
end
theorem d195 (s : List UInt8) : Df (C195 (s, [46], ())) (fun y => -1 ≤ y.1 ∧ y.1 < s.length) := by
 unfold C195 F195
 dsimp only
 refine dZ (P := fun y => -1 ≤ y.1 ∧ y.1 < s.length) ?_ fun _ h => dP h
 unfold C197 F197
 dsimp only
 have e0 : ((([46] : List UInt8).length : Int) == 0) = false := rfl
 rw [e0]
 simp only [cond_false]
 refine dZ (d197_0 s _ fun h => ?_) fun _ h => dP h
 have := eq_of_beq h
 rw [← this]; decide
theorem d194 (s : List UInt8) : Df (C194 (s, [46], ())) (fun y => 0 ≤ y.1 ∧ y.1 ≤ s.length) := by
 refine ⟨((Lib.countByte s 46 : Nat), ()), rfl, Int.natCast_nonneg _, ?_⟩
 have : Lib.countByte s 46 ≤ s.length := List.count_le_length
 dsimp only
 omega
theorem d161_l (L n : Nat) (hn : 1 ≤ n) (hL : L ≤ 1000000000000) (hnL : n ≤ 1000000000000) (s : List UInt8) (hs : s.length ≤ L) (rows : List (List UInt8)) (hr : rows.length = n) (ha : ∀ r ∈ rows, r.length ≤ L) :
 Df (C161_l0 (s, [46], 0, (n : Int) - 1, 0, rows, ())) (fun y => y.1.length ≤ L ∧ 0 ≤ y.2.1 ∧ y.2.1 < n ∧ y.2.2.1.length = n ∧ ∀ r ∈ y.2.2.1, r.length ≤ L) := by
 refine dL ?I ?m ?h _ ?hv ?hn
 case I => exact (fun v => (v.2.1, v.2.2.1, v.2.2.2.1) = ([46], 0, (n : Int) - 1) ∧ v.1.length ≤ L ∧ 0 ≤ v.2.2.2.2.1 ∧ v.2.2.2.2.1 < n ∧ v.2.2.2.2.2.1.length = n ∧ ∀ r ∈ v.2.2.2.2.2.1, r.length ≤ L)
 case m => exact (fun v => (n - v.2.2.2.2.1).toNat)
 case hv => exact ⟨rfl, hs, Int.le_refl _, by first | omega | (dsimp only; omega), hr, ha⟩
 case hn => exact (by first | omega | (dsimp only; omega))
 rintro ⟨s', x1, x2, x3, i, rows, u⟩ ⟨e, i1, i2, i3, i4, i5⟩
 dsimp only at e i1 i2 i3 i4 i5
 cases e
 unfold F161_l0
 dsimp only
 with_reducible repeat' (first | apply dP | apply dX <;> intro _)
 · refine dZ (d195 s') ?_
   rintro ⟨m, u⟩ ⟨h1, h2⟩
   dsimp only at h1 h2 ⊢
   rw [w64s (n := m + 0) (by omega), w64s (n := m + (([46] : List UInt8).length : Int)) (by simp only [List.length_cons, List.length_nil]; omega)]
   with_reducible repeat' (first | apply dP | apply dX <;> intro _)
   · exact ⟨i1, i2, i3, i4, i5⟩
   · rw [w64s (by omega)]
     refine ⟨⟨rfl, by simp only [List.length_drop]; omega, by first | omega | (dsimp only; omega), by first | omega | (dsimp only; omega), by simp only [List.length_set]; omega, fun r hr => ?_⟩, by first | omega | (dsimp only; omega)⟩
     dsimp only at hr
     rcases List.mem_or_eq_of_mem_set hr with h | h
     · exact i5 r h
     · subst h; simp only [List.length_take]; omega
   · refine dO ?_; rename_i hc; simp only [List.length_cons, List.length_nil] at hc; omega
   · refine dO ?_; omega
   · refine dO ?_; omega
 · exact ⟨i1, i2, i3, i4, i5⟩
theorem d161 (s : List UInt8) (hs : s.length ≤ 1000000000) : Df (C161 (s, [46], 0, -1, ())) (fun y => y.1.length ≤ s.length + 1 ∧ ∀ p ∈ y.1, p.length ≤ s.length) := by
 unfold C161 F161
 dsimp only
 rw [show ((-1 : Int) == 0) = false from rfl, show (([46] : List UInt8) == []) = false from rfl, show decide ((-1 : Int) < 0) = true from rfl]
 simp only [cond_false, cond_true]
 refine dZ (d194 s) ?_
 rintro ⟨c, u⟩ ⟨h1, h2⟩
 dsimp only at h1 h2 ⊢
 rw [w64s (n := c + 1) (by omega)]
 refine dZ (P := fun y => y.1.length ≤ s.length + 1 ∧ ∀ p ∈ y.1, p.length ≤ s.length) ?_ fun _ h => dP h
 unfold C161_c0 F161_c0
 dsimp only
 rw [w64s (n := (s.length : Int) + 1) (by omega)]
 obtain ⟨n, rfl⟩ : ∃ n : Nat, c = (n : Int) := ⟨c.toNat, by omega⟩
 have hif : (if (s.length : Int) + 1 < (n : Int) + 1 then (s.length : Int) + 1 else (n : Int) + 1) = ((n + 1 : Nat) : Int) := by rw [if_neg (by omega)]; omega
 simp only [hif]
 have hc : (decide (0 ≤ ((n + 1 : Nat) : Int)) && (decide True && (decide ((16 : Int) * ((n + 1 : Nat) : Int) ≤ 281474976710656) && decide (((n + 1 : Nat) : Int) ≤ 140737488355328)))) = true := by
  simp only [Bool.and_eq_true, decide_eq_true_eq]
  exact ⟨by omega, trivial, by omega, by omega⟩
 have hc' : (decide (0 ≤ ((n + 1 : Nat) : Int)) && (decide True && (decide (((16 : Nat) : Int) * ((n + 1 : Nat) : Int) ≤ 281474976710656) && decide (((n + 1 : Nat) : Int) ≤ 140737488355328)))) = true := hc
 first | rw [hc] | rw [hc']
 simp only [cond_true, Int.toNat_natCast]
 rw [w64s (n := ((n + 1 : Nat) : Int) - 1) (by omega)]
 refine dZ (d161_l s.length (n + 1) (by omega) (by omega) (by omega) s (Nat.le_refl _) (List.replicate (n + 1) []) (by simp) (fun r hr => by rw [(List.mem_replicate.1 hr).2]; exact Nat.zero_le _)) ?_
 rintro ⟨s', i, rows, u⟩ ⟨j1, j2, j3, j4, j5⟩
 dsimp only at j1 j2 j3 j4 j5 ⊢
 rw [w64s (n := i + 1) (by omega)]
 with_reducible repeat' (first | apply dP | apply dX <;> intro _)
 · refine ⟨?_, fun p hp => ?_⟩
   · simp only [List.length_take, List.length_set]; omega
   · rcases List.mem_or_eq_of_mem_set (List.mem_of_mem_take hp) with h | h
     · exact j5 p h
     · subst h; exact j1
 · refine dO ?_; rename_i hc; simp only [List.length_set] at hc; omega
 · refine dO ?_; omega
theorem d47 (s : List UInt8) (hs : s.length ≤ 1000000000) : Df (C47 (s, ())) (fun _ => True) := by
 unfold C47 F47
 dsimp only
 refine dZ (P := fun _ => True) ?_ (fun z _ => by cases z <;> exact dP trivial)
 refine dL ?I ?m ?h _ ?hv ?hn
 case I => exact (fun v => v.1 = s ∧ v.2.1 = s.length ∧ 0 ≤ v.2.2.1)
 case m => exact (fun v => (s.length - v.2.2.1).toNat)
 case hv => exact ⟨rfl, rfl, Int.le_refl _⟩
 case hn => exact (by first | omega | (dsimp only; omega))
 rintro ⟨s', n, k, u⟩ ⟨h1, h2, h3⟩
 dsimp only at h1 h2 h3
 subst h1
 subst h2
 unfold F47_l0
 dsimp only
 with_reducible repeat' (first | apply dP | apply dX <;> intro _)
 · rw [c17]
   simp only [Option.bind_some]
   with_reducible repeat' (first | apply dP | apply dX <;> intro _)
   · trivial
   · rw [w64s (by omega)]
     exact ⟨⟨rfl, rfl, by first | omega | (dsimp only; omega)⟩, by first | omega | (dsimp only; omega)⟩
 · refine dO ?_; omega
 · trivial
theorem d88 (s : List UInt8) (hs : s.length ≤ 1000000000) : Df (C88 (s, ())) (fun _ => True) := by
 unfold C88 F88
 dsimp only
 refine dZ (P := fun y => y.1.length ≤ s.length + 1 ∧ ∀ p ∈ y.1, p.length ≤ s.length) ?_ ?_
 · unfold C125 F125
   dsimp only
   exact dZ (d161 s hs) fun _ h => dP h
 rintro ⟨ps, u⟩ ⟨g1, g2⟩
 dsimp only at g1 g2 ⊢
 refine dZ (P := fun _ => True) ?_ (fun z _ => by cases z <;> exact dP trivial)
 refine dL ?I ?m ?h _ ?hv ?hn
 case I => exact (fun v => v.1 = ps ∧ v.2.1 = ps.length ∧ 0 ≤ v.2.2.1)
 case m => exact (fun v => (ps.length - v.2.2.1).toNat)
 case hv => exact ⟨rfl, rfl, Int.le_refl _⟩
 case hn => exact (by first | omega | (dsimp only; omega))
 rintro ⟨s', n, k, u⟩ ⟨h1, h2, h3⟩
 dsimp only at h1 h2 h3
 subst h1
 subst h2
 unfold F88_l0
 dsimp only
 with_reducible repeat' (first | apply dP | apply dX <;> intro _)
 · have hg : (s'.getD k.toNat []) ∈ s' := by rw [getD_lt (by omega)]; exact List.getElem_mem _
   have := g2 _ hg
   refine dZ (d47 _ (by omega)) ?_
   rintro ⟨b, u⟩ -
   dsimp only
   with_reducible repeat' (first | apply dP | apply dX <;> intro _)
   · trivial
   · rw [w64s (by omega)]
     exact ⟨⟨rfl, rfl, by first | omega | (dsimp only; omega)⟩, by first | omega | (dsimp only; omega)⟩
 · refine dO ?_; omega
 · trivial
theorem d45 (a b : List UInt8) (ha : a.length ≤ 1000) (hb : b.length ≤ 1000) : Df (C45 (a, b, ())) (fun y => y.1 ≠ [] ∧ y.1.length ≤ 2 * a.length + b.length + 3) := by
 unfold C45 F45
 dsimp only
 refine dZ (d88 a (by omega)) ?_
 rintro ⟨w, u⟩ -
 dsimp only
 have he := esc_len a
 have hq : (src 1 a).length = (esc a).length + 2 := by simp [src]
 with_reducible repeat' (first | apply dP | apply dX <;> intro _)
 · rw [c9 1 a 0 (by omega)]
   simp only [Option.bind_some]
   with_reducible repeat' (first | apply dP | apply dX <;> intro _)
   · exact ⟨by simp, by simp only [List.length_append, List.length_cons, List.length_nil]; omega⟩
   all_goals (refine dO ?_; rename_i hc; simp only [List.length_append, List.length_cons, List.length_nil] at hc; omega)
 · exact ⟨by simp, by simp only [List.length_append, List.length_cons, List.length_nil]; omega⟩
 all_goals (refine dO ?_; rename_i hc; simp only [List.length_append, List.length_cons, List.length_nil] at hc; omega)
theorem d59 (n : Bool) (a b : List UInt8) (ha : a.length ≤ 1000) : Df (C59 (n, a, b, ())) (fun y => y.1 = true → n = false ∧ a ≠ []) := by
 unfold C59 F59
 dsimp only
 with_reducible repeat' (first | apply dP | apply dX <;> intro _)
 · rename_i hn _
   rw [p25 a (by omega)]
   refine dP fun h => ⟨hn, ?_⟩
   rintro rfl
   cases h
 · intro h; cases h
 · intro h; cases h
theorem d22 (n : Bool) (a b : List UInt8) (ha : a.length ≤ 1000) (hb : b.length ≤ 1000) : Df (C22 (n, a, b, ())) (fun y => (n = true → y.1 = [60, 62]) ∧ (n = false → ∃ x, x ≠ [] ∧ y.1 = [60] ++ x ++ [62]) ∧ y.1.length ≤ 2 * a.length + b.length + 5) := by
 unfold C22 F22
 dsimp only
 with_reducible repeat' (first | apply dP | apply dX <;> intro _)
 · rename_i hn
   exact ⟨fun _ => rfl, fun h => (by rw [hn] at h; cases h), by simp only [List.length_cons, List.length_nil]; omega⟩
 · rename_i hn
   refine dZ (d59 n a b ha) ?_
   rintro ⟨m, u⟩ hm
   dsimp only at hm ⊢
   with_reducible repeat' (first | apply dP | apply dX <;> intro _)
   · rename_i h1 _ _
     exact ⟨fun h => (by rw [hn] at h; cases h), fun _ => ⟨a, (hm h1).2, rfl⟩, by simp only [List.length_append, List.length_cons, List.length_nil]; omega⟩
   · refine dO ?_; rename_i hc; simp only [List.length_append, List.length_cons, List.length_nil] at hc; omega
   · refine dO ?_; rename_i hc; simp only [List.length_append, List.length_cons, List.length_nil] at hc; omega
   · refine dZ (d45 a b ha hb) ?_
     rintro ⟨x, u⟩ ⟨k1, k2⟩
     dsimp only at k1 k2 ⊢
     with_reducible repeat' (first | apply dP | apply dX <;> intro _)
     · exact ⟨fun h => (by rw [hn] at h; cases h), fun _ => ⟨x, k1, rfl⟩, by simp only [List.length_append, List.length_cons, List.length_nil]; omega⟩
     all_goals (refine dO ?_; rename_i hc; simp only [List.length_append, List.length_cons, List.length_nil] at hc; omega)
section
variable {T : List R6} {A : List R4} {B : List R3}
theorem d82 (h : TK T A B) (a b : List UInt8) (ha : a.length ≤ 1000) (hb : b.length ≤ 1000) : Df (C82 (T, A, B, a, b, ())) (fun _ => True) := by
 have c0 : ∀ x, Df (C82_c0 (T, A, B, x, b, [], [], ())) (fun _ => True) := fun x => by
  unfold C82_c0 F82_c0
  dsimp only
  refine dZ (d86 b) ?_
  rintro ⟨o, u⟩ -
  dsimp only
  with_reducible repeat' (first | apply dP | apply dX <;> intro _)
  · rw [p25 b (by omega)]; exact dP trivial
  · refine dZ (d87 h b (by omega)) ?_
    rintro ⟨o, e, u⟩ -
    dsimp only
    with_reducible repeat' (first | apply dP | apply dX <;> intro _)
    · trivial
    · trivial
 unfold C82 F82
 dsimp only
 refine dZ (d120 h a (by omega)) ?_
 rintro ⟨x, e, u⟩ -
 dsimp only
 with_reducible repeat' (first | apply dP | apply dX <;> intro _)
 all_goals exact dZ (c0 _) fun _ _ => dP trivial
theorem d42 (h : TK T A B) (n : Bool) (a b : List UInt8) (ha : a.length ≤ 1000) (hb : b.length ≤ 1000) : Df (C42 (T, A, B, n, a, b, ())) (fun y => y.1 = n) := by
 unfold C42 F42
 dsimp only
 with_reducible repeat' (first | apply dP | apply dX <;> intro _)
 · rename_i hn; exact hn.symm
 · rename_i hn
   refine dZ (d59 n a b ha) ?_
   rintro ⟨m, u⟩ -
   dsimp only
   with_reducible repeat' (first | apply dP | apply dX <;> intro _)
   · exact hn.symm
   · exact dZ (d82 h a b ha hb) fun _ _ => dP hn.symm
theorem d20 (h : TK T A B) (a b : List UInt8) (ha : a.length ≤ 1000) (hb : b.length ≤ 1000) : Df (C20 (T, A, B, false, a, b, ())) (fun _ => True) := by
 unfold C20 F20
 dsimp only
 refine dZ (P := fun y => ∀ z, y = .inr z → z = (T, A, B, false, a, b, ())) ?_ ?_
 · unfold C20_c0 F20_c0
   dsimp only
   refine dZ (d59 false a b ha) ?_
   rintro ⟨m, u⟩ -
   dsimp only
   with_reducible repeat' (first | apply dP | apply dX <;> intro _)
   · intro z hz; cases hz
   · intro z hz; cases hz; rfl
 intro z hz
 cases z with
 | inl z => exact dP trivial
 | inr z =>
  have e := hz _ rfl
  subst e
  exact dZ (d44 h a b (by omega) (by omega)) fun _ _ => dP trivial
theorem d41 (h : TK T A B) (n : Bool) (a b : List UInt8) (ha : a.length ≤ 1000) (hb : b.length ≤ 1000) :
 Df (C41 (T, A, B, true, [], [], n, a, b, ())) (fun y => y.1 = (n == true && (a == [] && (b == [] && true) && true))) := by
 have r0 : C20 (T, A, B, true, [], [], ()) = some (0, ()) := rfl
 have k0 : C42 (T, A, B, true, [], [], ()) = some (true, [], [], ()) := rfl
 unfold C41 F41
 dsimp only
 rw [r0]
 dsimp only [Option.bind_some]
 rw [show ((0 : Int) == 0) = true from rfl]
 simp only [cond_true]
 cases n with
 | true =>
  have r1 : C20 (T, A, B, true, a, b, ()) = some ((if (a == [] && (b == [] && true)) = true then 0 else 1), ()) := by
   show F20 C44 C59 C20_c0 _ = _
   simp only [F20, cond_true]
   cases hab : (a == [] && (b == [] && true)) with
   | true => rfl
   | false => rfl
  have k1 : C42 (T, A, B, true, a, b, ()) = some (true, [], [], ()) := rfl
  rw [r1]
  cases hab : (a == [] && (b == [] && true)) with
  | true =>
   simp only [Option.bind_some, if_true, show ((0 : Int) == 0) = true from rfl, cond_true, k0, k1]
   exact dP rfl
  | false =>
   simp only [Option.bind_some, Bool.false_eq_true, if_false, show ((1 : Int) == 0) = false from rfl, cond_false]
   exact dP rfl
 | false =>
  refine dZ (d20 h a b ha hb) ?_
  rintro ⟨e, u⟩ -
  dsimp only
  with_reducible repeat' (first | apply dP | apply dX <;> intro _)
  · rw [k0]
    simp only [Option.bind_some]
    refine dZ (d42 h false a b ha hb) ?_
    rintro ⟨z1, z2, z3, u⟩ hz
    dsimp only at hz ⊢
    subst hz
    exact dP rfl
  · rfl
end
theorem d79 (k : Int) (s : List UInt8) (p : Int) (t : List UInt8) : Df (C79 (k, s, p, t, ())) (fun y => y.1 = true → k = 2 ∧ s = t) := by
 unfold C79 F79
 dsimp only
 with_reducible repeat' (first | apply dP | apply dX <;> intro _)
 · rename_i hk; exact fun h => ⟨hk, eq_of_beq h⟩
 · intro h; cases h
theorem d80 (l : List Tok) (hl : l.length ≤ 1000000) : Df (C80 (l, ())) (fun _ => True) := by
 unfold C80 F80
 dsimp only
 refine dZ (P := fun _ => True) ?_ (fun z _ => dP trivial)
 unfold C119 F119
 dsimp only
 refine dZ (P := fun _ => True) ?_ (fun z _ => by cases z <;> exact dP trivial)
 refine dL ?I ?m ?h _ ?hv ?hn
 case I => exact (fun v => v.1 = l ∧ v.2.1 = l.length ∧ 0 ≤ v.2.2.1)
 case m => exact (fun v => (l.length - v.2.2.1).toNat)
 case hv => exact ⟨rfl, rfl, Int.le_refl _⟩
 case hn => exact (by first | omega | (dsimp only; omega))
 rintro ⟨s', n, k, u⟩ ⟨h1, h2, h3⟩
 dsimp only at h1 h2 h3
 subst h1
 subst h2
 unfold F119_l0
 dsimp only
 with_reducible repeat' (first | apply dP | apply dX <;> intro _)
 · refine dZ (P := fun _ => True) ?_ ?_
   · unfold C81 F81
     dsimp only
     with_reducible repeat' (first | apply dP | apply dX <;> intro _)
     all_goals trivial
   rintro ⟨b, u⟩ -
   dsimp only
   with_reducible repeat' (first | apply dP | apply dX <;> intro _)
   · trivial
   · rw [w64s (by omega)]
     exact ⟨⟨rfl, rfl, by first | omega | (dsimp only; omega)⟩, by first | omega | (dsimp only; omega)⟩
 · refine dO ?_; omega
 · trivial
theorem szT_take : ∀ (k : Nat) (l : List Tok), szT (l.take k) ≤ szT l
 | 0, l => by simp [szT]
 | k + 1, [] => by simp
 | k + 1, t :: r => by have := szT_take k r; simp only [List.take_succ_cons, szT]; omega
section
variable {T : List R6} {A : List R4} {B : List R3}
theorem d40_1 (h : TK T A B) (l : List Tok) (hz : szT l + l.length ≤ 2900) (k : Int) (hk : 1 ≤ k ∧ k ≤ l.length) (a b : List UInt8) :
 Df (C40_c1 (k, l, 4, T, A, B, false, [], [], false, a, b, ())) (fun y => Sum.elim (fun z => z.2.1 = false) (fun z => z.2.1 = false) y) := by
 unfold C40_c1 F40_c1
 dsimp only
 have z1 := szT_take k.toNat l
 have z2 := szT_drop 1 (l.take k.toNat)
 with_reducible repeat' (first | apply dP | apply dX <;> intro _)
 · rw [c71 (List.drop 1 (List.take k.toNat l)) (by simp only [List.length_drop, List.length_take]; omega)]
   simp only [Option.bind_some]
   cases hm : mt (List.drop 1 (List.take k.toNat l)) with
   | none => exact dP rfl
   | some r =>
    have m := mt_sz _ hm
    simp only [List.length_drop, List.length_take] at m
    dsimp only
    with_reducible repeat' (first | apply dP | apply dX <;> intro _)
    · rename_i hc; cases hc
    · rfl
    · refine dZ (P := fun y => y.2.1 = false) ?_ fun _ h => dP h
      unfold C40_c0 F40_c0
      dsimp only
      refine dZ (d44 h r.1 r.2.1 (by omega) (by omega)) ?_
      rintro ⟨e, u⟩ -
      dsimp only
      with_reducible repeat' (first | apply dP | apply dX <;> intro _)
      · rfl
      · rfl
 all_goals (refine dO ?_; omega)
theorem d40_2 (h : TK T A B) (l : List Tok) (hz : szT l + l.length ≤ 2900) (k : Int) (hk : 1 ≤ k ∧ k ≤ l.length) (hl : 2 ≤ l.length) :
 Df (C40_c2 (k, l, 4, T, A, B, false, [], [], false, [], [], ())) (fun y => Sum.elim (fun z => z.2.1 = true → k = 1) (fun z => True) y) := by
 unfold C40_c2 F40_c2
 dsimp only
 with_reducible repeat' (first | apply dP | apply dX <;> intro _)
 · rename_i hk1; exact fun _ => hk1
 · have hx : (l.getD 1 ((0, ([], 0)) : Tok)).2.1.length ≤ 3000 := by
    rw [getD_lt (by omega)]
    have : ∀ (l : List Tok) (x : Tok), x ∈ l → x.2.1.length ≤ szT l := fun l => by
     induction l with
     | nil => intro x hx; cases hx
     | cons t r ih =>
      intro x hx
      simp only [szT]
      rcases List.mem_cons.1 hx with rfl | hx
      · omega
      · have := ih x hx; omega
    have := this l _ (List.getElem_mem (show 1 < l.length by omega))
    omega
   refine dZ (P := fun y => y.1 = true → True) ?_ ?_
   · unfold C59 F59
     dsimp only
     with_reducible repeat' (first | apply dP | apply dX <;> intro _)
     · rw [p25 _ (by omega)]; exact dP fun _ => trivial
     all_goals (intro _; trivial)
   rintro ⟨m, u⟩ -
   dsimp only
   with_reducible repeat' (first | apply dP | apply dX <;> intro _)
   · intro h; cases h
   · refine dZ (d40_1 h l hz k hk _ []) ?_
     intro z hz'
     cases z with
     | inl z => exact dP trivial
     | inr z => exact dP fun h => by rw [show z.2.1 = false from hz'] at h; cases h
 all_goals first
  | (refine dO ?_; omega)
  | (refine dZ (d40_1 h l hz k hk _ []) ?_
     intro z hz'
     cases z with
     | inl z => exact dP trivial
     | inr z => exact dP fun h => by rw [show z.2.1 = false from hz'] at h; cases h)
theorem two_src (s : List UInt8) (l : List Tok) (o : Int) (hR : lexR s = (l, o, 0)) (hl : l.length = 2) (h0 : (l.getD 0 ((0, ([], 0)) : Tok)).1 = 2 ∧ (l.getD 0 ((0, ([], 0)) : Tok)).2.1 = [60]) (h1 : (l.getD 1 ((0, ([], 0)) : Tok)).1 = 2 ∧ (l.getD 1 ((0, ([], 0)) : Tok)).2.1 = [62]) : s = [60, 62] := by
 have hx : lexs s 0 = .inl l := by
  unfold lexR at hR
  have no : l ≠ [] := fun h => by subst h; cases hl
  split at hR
  · exact absurd (congrArg Prod.fst hR).symm no
  · cases hu : utf s with
    | some b => rw [hu] at hR; exact absurd (congrArg Prod.fst hR).symm no
    | none =>
     rw [hu] at hR
     cases hx : lexs s 0 with
     | inr e => rw [hx] at hR; exact absurd (congrArg Prod.fst hR).symm no
     | inl l' => rw [hx] at hR; cases hR; rfl
 match l, hl with
 | [t, u], _ =>
  obtain ⟨a1, a2⟩ := h0
  obtain ⟨b1, b2⟩ := h1
  have a1 : t.1 = 2 := a1
  have a2 : t.2.1 = [60] := a2
  have b1 : u.1 = 2 := b1
  have b2 : u.2.1 = [62] := b2
  have hs := (srcs_len s.length s 0 [t, u] (Nat.le_refl _) hx).2.2 (fun x hx => by
   rcases List.mem_cons.1 hx with rfl | hx
   · rw [a1]; decide
   · rw [List.mem_singleton] at hx; subst hx; rw [b1]; decide)
  rw [← hs]
  simp only [srcs, List.flatMap_cons, List.flatMap_nil, a1, a2, b1, b2]
  rfl
theorem g40 (e : Int) (n : Bool) (a b : List UInt8) : C40_g0 (e, n, a, b, ()) = some (e, false, [], [], ()) := by
 obtain ⟨k, hk⟩ : ∃ k, big = k + 1 := ⟨big - 1, by unfold big; omega⟩
 show loopN (F40_g0 C44 C59 C67 C71 C79 C80) big _ = _
 rw [hk]
 exact loopN_inr rfl
theorem d40 (h : TK T A B) (s : List UInt8) (hs : s.length ≤ 1400) : Df (C40 (T, A, B, s, ())) (fun y => y.1 = true → s = [60, 62]) := by
 unfold C40 F40
 dsimp only
 rw [c11 s]
 have hz := lexR_sz s
 simp only [Option.bind_some]
 generalize hR : lexR s = R at hz ⊢
 obtain ⟨l, o, e⟩ := R
 dsimp only at hz ⊢
 simp only [g40, Option.bind_some]
 rw [w64s (n := (l.length : Int) - 1) (by omega)]
 with_reducible repeat' (first | apply dP | apply dX <;> intro _)
 · intro h; cases h
 · intro h; cases h
 · rename_i he _ _
   refine dZ (d79 _ _ _ _) ?_
   rintro ⟨q1, u⟩ hq1
   dsimp only at hq1 ⊢
   with_reducible repeat' (first | apply dP | apply dX <;> intro _)
   · intro h; cases h
   · rename_i ht1 _
     refine dZ (d79 _ _ _ _) ?_
     rintro ⟨q2, u⟩ hq2
     dsimp only at hq2 ⊢
     with_reducible repeat' (first | apply dP | apply dX <;> intro _)
     · intro h; cases h
     · rename_i ht2 _ _
       refine dZ (d80 _ (by simp only [List.length_drop, List.length_take]; omega)) ?_
       rintro ⟨q3, u⟩ -
       dsimp only
       with_reducible repeat' (first | apply dP | apply dX <;> intro _)
       · intro h; cases h
       · refine dZ (d40_2 h l (by omega) ((l.length : Int) - 1) (by omega) (by omega)) ?_
         intro z hz'
         cases z with
         | inl z =>
          refine dP fun hn => ?_
          have hk : (l.length : Int) - 1 = 1 := hz' hn
          have h2 := hq2 ht2
          rw [hk] at h2
          exact two_src s l o (by rw [hR, he]) (by omega) (hq1 ht1) h2
         | inr z => exact dP fun h => by cases h
     all_goals (refine dO ?_; omega)
   all_goals (refine dO ?_; omega)
 all_goals (refine dO ?_; omega)
end
abbrev T11_c0 := Bool × Int × Bool × LqS × LqS × LqA × LqB × LqC × Bool × LqS × LqS × Bool × LqS × LqS × Unit → Option (Bool × Unit)
def E11_c0 (f : T11_c0) : LEnt := ⟨Li320, Lo321, f⟩
abbrev T11 := Bool × LqS × LqS × Unit → Option (Bool × Unit)
def E11 (f : T11) : FEnt := ⟨Li296, Lo29, f⟩
def K11 (f18 : T18) (f22 : T22) (f37 : T37) (f38 : T38) (f39 : T39) (f40 : T40) (f41 : T41) (f42 : T42) := lk [(18, E18 f18), (22, E22 f22), (37, E37 f37), (38, E38 f38), (39, E39 f39), (40, E40 f40), (41, E41 f41), (42, E42 f42)]
theorem kok11 : KOk Tryz.prog (K11 C18 C22 C37 C38 C39 C40 C41 C42) := (kc ok18 (kc ok22 (kc ok37 (kc ok38 (kc ok39 (kc ok40 (kc ok41 (kc ok42 kn))))))))
def F11_c0 (f18 : T18) (f22 : T22) (f37 : T37) (f38 : T38) (f39 : T39) (f40 : T40) (f41 : T41) (f42 : T42) : T11_c0 := fun (x0, x1, x2, x3, x4, x5, x6, x7, x8, x9, x10, x11, x12, x13, _) =>
 bif x0 then
 (f41 (x5, x6, x7, x8, x9, x10, x2, x3, x4, ())).bind fun v =>
 bif v.1 == (x2 == x8 && (x3 == x9 && (x4 == x10 && true) && true)) then
 bif x11 == x8 && (x12 == x9 && (x13 == x10 && true) && true) then
 bif x1 == 0 then
 (f42 (x5, x6, x7, x8, x9, x10, ())).bind fun v =>
 bif v.1 == x8 && (v.2.1 == x9 && (v.2.2.1 == x10 && true) && true) then
 (f22 (x2, x3, x4, ())).bind fun v => some ((v.1 == [60, 62]) == x2, ())
 else some (false, ())
 else some (false, ())
 else some (false, ())
 else some (false, ())
 else some (false, ())
theorem h11_c0 (f18 : T18) (f22 : T22) (f37 : T37) (f38 : T38) (f39 : T39) (f40 : T40) (f41 : T41) (f42 : T42) : AqC (K11 f18 f22 f37 f38 f39 f40 f41 f42) 0 (subc (code Tryz.f11) [1, 1, 1, 1, 1, 1, 1, 1, 1]) .nil Li320 Lo321 (F11_c0 f18 f22 f37 f38 f39 f40 f41 f42) := fun v => by kernel_rfl
def C11_c0 : T11_c0 := F11_c0 C18 C22 C37 C38 C39 C40 C41 C42
theorem k11_c0 : CdOk 0 (subc (code Tryz.f11) [1, 1, 1, 1, 1, 1, 1, 1, 1]) (E11_c0 C11_c0) :=
 frc kok11 (h11_c0 C18 C22 C37 C38 C39 C40 C41 C42)
def N11 (f11_c0 : T11_c0) : Ann := (.seq .nil (.seq .nil (.seq .nil (.seq .nil (.seq .nil (.seq .nil (.seq .nil (.seq .nil (.cut .nil (E11_c0 f11_c0))))))))))
def F11 (f18 : T18) (f22 : T22) (f37 : T37) (f38 : T38) (f39 : T39) (f40 : T40) (f41 : T41) (f42 : T42) (f11_c0 : T11_c0) : T11 := fun (x0, x1, x2, _) =>
 (f37 ()).bind fun v =>
 (f38 (x1, x2, ())).bind fun v1 =>
 bif !v1.1 then some (v.1, ())
 else
 (f18 ()).bind fun v2 =>
 (f39 (v2.1, v2.2.1, v2.2.2.1, true, [], [], ())).bind fun v3 =>
 (f22 (x0, x1, x2, ())).bind fun v4 =>
 (f40 (v2.1, v2.2.1, v2.2.2.1, v4.1, ())).bind fun v5 =>
 bif v5.2.2.2.1 == 0 then
 bif !v5.1 == x0 then some (false, ())
 else
 (f11_c0
 (v.1, v3.2.2.2.1, x0, x1, x2, v2.1, v2.2.1, v2.2.2.1, true,
 [], [], v3.1, v3.2.1, v3.2.2.1, ())).bind
 fun v => some (v.1, ())
 else
 (f11_c0
 (v.1, v3.2.2.2.1, x0, x1, x2, v2.1, v2.2.1, v2.2.2.1, true,
 [], [], v3.1, v3.2.1, v3.2.2.1, ())).bind
 fun v => some (v.1, ())
theorem h11 (f18 : T18) (f22 : T22) (f37 : T37) (f38 : T38) (f39 : T39) (f40 : T40) (f41 : T41) (f42 : T42) (f11_c0 : T11_c0) : AqF (K11 f18 f22 f37 f38 f39 f40 f41 f42) 0 Tryz.f11 (N11 f11_c0) Li296 Lo29 (F11 f18 f22 f37 f38 f39 f40 f41 f42 f11_c0) := fun v => by kernel_rfl
def C11 : T11 := F11 C18 C22 C37 C38 C39 C40 C41 C42 C11_c0
theorem ok11 : FO 11 (E11 C11) :=
 qo kok11 Tryz.func11 (And.intro k11_c0 trivial) (h11 C18 C22 C37 C38 C39 C40 C41 C42 C11_c0)
def tkB : Bool := match C18 () with
 | some (T, A, B, _) => (decide (T.length ≤ 1000000000000) && T.all fun e => decide (0 ≤ e.2.2.2.1) && decide (e.2.2.2.1 < 8)) && (decide (A.length ≤ 1000000000000) && decide (B.length ≤ 1000000000000))
 | none => false
theorem tkB_k : tkB = true := by kernel_rfl
theorem tk : ∃ T A B, C18 () = some (T, A, B, ()) ∧ TK T A B := by
 have h := tkB_k
 unfold tkB at h
 cases hc : C18 () with
 | none => rw [hc] at h; cases h
 | some y =>
  obtain ⟨T, A, B, u⟩ := y
  rw [hc] at h
  simp only [Bool.and_eq_true, decide_eq_true_eq, List.all_eq_true] at h
  exact ⟨T, A, B, rfl, ⟨h.1.1, h.1.2⟩, h.2.1, h.2.2⟩
theorem head11 : C37 () = some (true, ()) := by kernel_rfl
theorem lex_null : C67 ([60, 62], ()) = some ([(2, [60], 0), (2, [62], 1)], 0, 0, ()) := by kernel_rfl
theorem c40null (T A B) : C40 (T, A, B, [60, 62], ()) = some (true, [], [], 0, ()) := by
 show F40 C44 C59 C67 C71 C79 C80 C40_c2 C40_g0 _ = _
 simp only [F40, lex_null, Option.bind_some]
 rfl
theorem c11_0 (T A B) (h : TK T A B) (n : Bool) (a b : List UInt8) (ha : a.length ≤ 1000) (hb : b.length ≤ 1000) : C11_c0 (true, 0, n, a, b, T, A, B, true, [], [], true, [], [], ()) = some (true, ()) := by
 obtain ⟨⟨x, u⟩, h41, hx⟩ := d41 h n a b ha hb
 obtain ⟨⟨y, u'⟩, h22, hy1, hy2, -⟩ := d22 n a b ha hb
 dsimp only at hx hy1 hy2
 have k0 : C42 (T, A, B, true, [], [], ()) = some (true, [], [], ()) := rfl
 show F11_c0 C18 C22 C37 C38 C39 C40 C41 C42 _ = _
 simp only [F11_c0, cond_true, h41, Option.bind_some, hx, k0, h22]
 rw [show ((n == true && (a == [] && (b == [] && true) && true)) == (n == true && (a == [] && (b == [] && true) && true))) = true from beq_self_eq_true _]
 cases n with
 | true =>
  have : (y == [60, 62]) = true := by rw [hy1 rfl]; rfl
  simp only [this]
  rfl
 | false =>
  obtain ⟨x, hx, rfl⟩ := hy2 rfl
  have : ([60] ++ x ++ [62] == [60, 62]) = false := by
   rw [beq_eq_false_iff_ne]
   intro h
   have := congrArg List.length h
   simp only [List.length_append, List.length_cons, List.length_nil] at this
   exact hx (List.length_eq_zero_iff.1 (by omega))
  simp only [this]
  rfl
theorem c11law (n : Bool) (a b : List UInt8) : C11 (n, a, b, ()) = some (true, ()) := by
 obtain ⟨T, A, B, h18, hT⟩ := tk
 show F11 C18 C22 C37 C38 C39 C40 C41 C42 C11_c0 _ = _
 simp only [F11, head11, Option.bind_some]
 by_cases h1 : (a.length : Int) ≤ 150
 · by_cases h2 : (b.length : Int) ≤ 200
   · have h38 : C38 (a, b, ()) = some (true, ()) := by
      show F38 _ = _
      simp only [F38]
      rw [decide_eq_true h1, decide_eq_true h2]; rfl
     obtain ⟨⟨y, u'⟩, h22, hy1, hy2, hy3⟩ := d22 n a b (by omega) (by omega)
     dsimp only at hy1 hy2 hy3
     obtain ⟨⟨z1, z2, z3, z4, u⟩, h40, hz⟩ := d40 hT y (by omega)
     dsimp only at hz
     have h39 : C39 (T, A, B, true, [], [], ()) = some (true, [], [], 0, ()) := rfl
     have hc := c11_0 T A B hT n a b (by omega) (by omega)
     simp only [h38, h18, h39, h22, h40, hc, Option.bind_some, Bool.not_true, cond_false]
     have he : z4 = 0 → z1 = n := by
      intro h4
      cases n with
      | true =>
       have := hy1 rfl
       subst this
       rw [c40null] at h40
       cases h40; rfl
      | false =>
       obtain ⟨x, hx, rfl⟩ := hy2 rfl
       cases z1 with
       | false => rfl
       | true =>
        have h := congrArg List.length (hz rfl)
        simp only [List.length_append, List.length_cons, List.length_nil] at h
        exact absurd (List.length_eq_zero_iff.1 (by omega)) hx
     by_cases h4 : z4 = 0
     · have := he h4
       subst this
       rw [ibT h4, beq_self_eq_true]; rfl
     · rw [ibF h4]; rfl
   · have h38 : C38 (a, b, ()) = some (false, ()) := by
      show F38 _ = _
      simp only [F38]
      rw [decide_eq_true h1, decide_eq_false h2]; rfl
     simp only [h38, Option.bind_some]; rfl
 · have h38 : C38 (a, b, ()) = some (false, ()) := by
    show F38 _ = _
    simp only [F38]
    rw [decide_eq_false h1]; rfl
   simp only [h38, Option.bind_some]; rfl
end Go.Proofs.YtiacnhhmkdkpmaaGreatDoorA.W
namespace Go.Proofs.YtiacnhhmkdkpmaaGreatDoorA.PPathNull
open Go Go.Ae Go.Proofs.YtiacnhhmkdkpmaaGreatDoorA.W
theorem pure (x0 : (Ty.pair .bool (.pair .str .str)).den) (b0 : Bd (Ty.pair .bool (.pair .str .str)) x0) : C11 (x0.1, x0.2.1, x0.2.2, ()) = some (true, ()) := c11law _ _ _
end Go.Proofs.YtiacnhhmkdkpmaaGreatDoorA.PPathNull
namespace Go.Proofs.YtiacnhhmkdkpmaaGreatDoor
open Go Go.Ae Go.RowKit
theorem glob {W : World} {p : Prop} (hL : p) (hsh : W.ShapedOpen Tryz.prog) : GI W m0 := by
 obtain ⟨m, hm⟩ := Go.Proofs.cell_of_shapedOpen_int (g := 2) (k := .i64) (t := 3) (zero := #[.int .i64 0]) hsh (of_decide_eq_true (by kernel_rfl)) (by kernel_rfl) (by kernel_rfl) (by kernel_rfl) (by kernel_rfl) (by kernel_rfl)
 refine ⟨⟨m, hm⟩, fun b hb => ⟨?_, fun h => h⟩⟩
 simp only [GlobB, List.mem_cons, List.not_mem_nil, or_false] at hb
 subst hb
 exact lt_of_cell hm
end Go.Proofs.YtiacnhhmkdkpmaaGreatDoor
