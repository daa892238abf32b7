/- The texts of the proof, one behind the other: PD4, PD5, PD6, PD7, PD8, PD9, PLT, PListOne, PGlob. -/
import Derived.Test.YtiacnhhmkdkpmaaGreatDoorAMy5
import Derived.Test.YtiacnhhmkdkpmaaGreatDoorAMy4
import Derived.Lib.IndexMore
import Derived.Test.YtiacnhhmkdkpmaaGreatDoorRows
import Derived.Test.YtiacnhhmkdkpmaaGreatDoorProg
import Derived.Test.YtiacnhhmkdkpmaaGreatDoorAMy2
import Derived.MakeChecks
set_option linter.unusedVariables false
set_option linter.unusedSimpArgs false
set_option maxRecDepth 100000
namespace Go.Proofs.YtiacnhhmkdkpmaaGreatDoorA.W
open Go Go.Ae
theorem d290 (a b : Int) : Df (C290 (a, b, ())) (fun y => 1 ≤ y.1 ∧ y.1 ≤ 26) := by
 show Df (F290 _) _
 unfold F290
 dsimp only
 refine dP ?_
 dsimp only
 generalize IntKind.i64.wrap (a - b) = n
 split <;> split <;> omega
theorem d291_0 (a : Int) (b : Bool) : Df (C291_c0 (a, b, ())) (fun _ => True) := by
 show Df (F291_c0 _) _
 unfold F291_c0
 dsimp only
 with_reducible repeat' (first | apply dP | apply dX <;> intro _)
 all_goals trivial
theorem d291 (a : Int) : Df (C291 (a, ())) (fun _ => True) := by
 show Df (F291 C291_c0 _) _
 unfold F291
 dsimp only
 with_reducible repeat' (first | apply dP | apply dX <;> intro _)
 all_goals (refine dZ (d291_0 _ _) ?_; intro z hz; cases z <;> exact dP trivial)
theorem d251_l (n b k : Int) (out : List UInt8) (j : Nat) (h0 : 0 ≤ n) (h1 : n < 10 ^ j) (hb : out.length + j ≤ 100000000000000) (hn : n ≤ 100000000000000) :
 Df (C251_l0 (n, b, k, out, ())) (fun y => y.1.length ≤ out.length + j + 1) := by
 refine dL ?I ?m ?h _ ?hv ?hn
 case I => exact (fun v => ∃ j' : Nat, 0 ≤ v.1 ∧ v.1 < 10 ^ j' ∧ v.1 ≤ n ∧ v.2.2.2.1.length + j' ≤ out.length + j)
 case m => exact (fun v => v.1.toNat)
 case hv => exact ⟨j, h0, h1, Int.le_refl _, Nat.le_refl _⟩
 case hn => exact (by first | omega | (dsimp only; omega))
 rintro ⟨x0, x1, x2, x3, u⟩ hI
 dsimp only at hI
 obtain ⟨j', i0, i1, i2, i3⟩ := hI
 unfold F251_l0
 dsimp only
 refine dZ (d290 _ _) ?_
 rintro ⟨t, u⟩ ht
 dsimp only at ht ⊢
 with_reducible repeat' (first | apply dP | apply dX <;> intro _)
 · refine dZ (d291 _) ?_
   rintro ⟨d, d', u⟩ -
   dsimp only
   with_reducible repeat' (first | apply dP | apply dX <;> intro _)
   · exact (by simp only [List.length_append, List.length_cons, List.length_nil]; omega : (x3 ++ [_]).length ≤ out.length + j + 1)
   · refine dO ?_; simp only [List.length_cons, List.length_nil] at *; omega
 · rename_i hge hne
   refine dZ (d291 _) ?_
   rintro ⟨d, d', u⟩ -
   dsimp only
   rw [w64s (n := 36 - t) (by omega)] at hne ⊢
   rw [w64s (n := x0 - t) (by omega), Int.tdiv_eq_ediv_of_nonneg (by omega)]
   have q0 : 0 ≤ (x0 - t) / (36 - t) := Int.ediv_nonneg (by omega) (by omega)
   have q1 : (x0 - t) / (36 - t) * (36 - t) ≤ x0 - t := Int.ediv_mul_le _ (by omega)
   have q2 : (x0 - t) / (36 - t) * 10 ≤ (x0 - t) / (36 - t) * (36 - t) := Int.mul_le_mul_of_nonneg_left (by omega) q0
   generalize (x0 - t) / (36 - t) = q at q0 q1 q2 ⊢
   rw [w64s (n := q) (by omega)]
   with_reducible repeat' (first | apply dP | apply dX <;> intro _)
   · obtain ⟨i, rfl⟩ : ∃ i, j' = i + 1 := by
      cases j' with
      | zero => simp at i1; omega
      | succ i => exact ⟨i, rfl⟩
     rw [Int.pow_succ] at i1
     generalize hP : (10 : Int) ^ i = P at i1
     refine ⟨⟨i, q0, ?_, ?_, ?_⟩, ?_⟩
     · show q < 10 ^ i
       rw [hP]; omega
     · dsimp only; omega
     · simp only [List.length_append, List.length_cons, List.length_nil]; omega
     · dsimp only; omega
   · rename_i hz
     exact absurd hz hne
   · refine dO ?_; simp only [List.length_cons, List.length_nil] at *; omega
 · rename_i hge hne
   rw [w64s (n := 36 - t) (by omega)] at hne
   refine dO ?_; omega
theorem d251 (n b : Int) (out : List UInt8) (h0 : 0 ≤ n) (h1 : n < 10 ^ 13) (hb : out.length ≤ 90000000000000) :
 Df (C251 (n, b, out, ())) (fun y => y.1.length ≤ out.length + 14) := by
 show Df (F251 C290 C291 C251_l0 _) _
 unfold F251
 dsimp only
 refine dZ (d290 _ _) ?_
 rintro ⟨t, u⟩ ht
 dsimp only at ht ⊢
 have h13 : (10 : Int) ^ 13 = 10000000000000 := rfl
 have h12 : (10 : Int) ^ 12 = 1000000000000 := rfl
 rw [h13] at h1
 with_reducible repeat' (first | apply dP | apply dX <;> intro _)
 · refine dZ (d291 _) ?_
   rintro ⟨d, d', u⟩ -
   dsimp only
   with_reducible repeat' (first | apply dP | apply dX <;> intro _)
   · exact (by simp only [List.length_append, List.length_cons, List.length_nil]; omega : (out ++ [_]).length ≤ out.length + 14)
   · refine dO ?_; simp only [List.length_cons, List.length_nil] at *; omega
 · rename_i hge hne
   refine dZ (d291 _) ?_
   rintro ⟨d, d', u⟩ -
   dsimp only
   rw [w64s (n := 36 - t) (by omega)] at hne ⊢
   rw [w64s (n := n - t) (by omega), Int.tdiv_eq_ediv_of_nonneg (by omega)]
   have q0 : 0 ≤ (n - t) / (36 - t) := Int.ediv_nonneg (by omega) (by omega)
   have q1 : (n - t) / (36 - t) * (36 - t) ≤ n - t := Int.ediv_mul_le _ (by omega)
   have q2 : (n - t) / (36 - t) * 10 ≤ (n - t) / (36 - t) * (36 - t) := Int.mul_le_mul_of_nonneg_left (by omega) q0
   generalize (n - t) / (36 - t) = q at q0 q1 q2 ⊢
   rw [w64s (n := q) (by omega)]
   with_reducible repeat' (first | apply dP | apply dX <;> intro _)
   · refine dZ (d251_l q b _ (out ++ [UInt8.ofNat (Int.toNat d)]) 12 q0 (by rw [h12]; omega) (by simp only [List.length_append, List.length_cons, List.length_nil]; omega) (by omega)) ?_
     rintro ⟨y, u⟩ hy
     simp only [List.length_append, List.length_cons, List.length_nil] at hy
     exact dP (by first | omega | (dsimp only; omega))
   · rename_i hz
     exact absurd hz hne
   · refine dO ?_; simp only [List.length_cons, List.length_nil] at *; omega
 · rename_i hge hne
   rw [w64s (n := 36 - t) (by omega)] at hne
   refine dO ?_; omega
theorem d252_l (a b : Int) (h0 : 0 ≤ a) (h1 : a ≤ 100000000000000000) : Df (C252_l0 (a, b, ())) (fun y => 0 ≤ y.1 ∧ y.1 ≤ 455) := by
 refine dL ?I ?m ?h _ ?hv ?hn
 case I => exact (fun v => 0 ≤ v.1 ∧ v.1 ≤ 100000000000000000)
 case m => exact (fun v => v.1.toNat)
 case hv => exact ⟨h0, h1⟩
 case hn => exact (by first | omega | (dsimp only; omega))
 rintro ⟨x0, x1, u⟩ hI
 dsimp only at hI
 unfold F252_l0
 dsimp only
 with_reducible repeat' (first | apply dP | apply dX <;> intro _)
 · rw [Int.tdiv_eq_ediv_of_nonneg (by omega), w64s (n := x0 / 35) (by omega)]
   exact ⟨⟨by first | omega | (dsimp only; omega), by first | omega | (dsimp only; omega)⟩, by first | omega | (dsimp only; omega)⟩
 · exact ⟨by first | omega | (dsimp only; omega), by first | omega | (dsimp only; omega)⟩
theorem d252_0 (a c : Int) (h0 : 0 ≤ a) (h1 : a ≤ 10000000000000000) : Df (C252_c0 (a, c, ())) (fun _ => True) := by
 show Df (F252_c0 C252_l0 _) _
 unfold F252_c0
 dsimp only
 have hm : 1 ≤ (if c > 1 then c else 1) := by split <;> omega
 generalize (if c > 1 then c else 1) = m at hm
 have q0 : 0 ≤ a / m := Int.ediv_nonneg h0 (by omega)
 have q1 : a / m ≤ a := Int.ediv_le_self _ h0
 rw [Int.tdiv_eq_ediv_of_nonneg h0, w64s (n := a / m) (by omega), w64s (n := a + a / m) (by omega)]
 with_reducible repeat' (first | apply dP | apply dX <;> intro _)
 · refine dZ (d252_l _ _ (by omega) (by omega)) ?_
   rintro ⟨x, y, u⟩ h
   dsimp only at h ⊢
   rw [w64s (n := x + 38) (by omega)]
   with_reducible repeat' (first | apply dP | apply dX <;> intro _)
   · trivial
   · refine dO ?_; omega
 · refine dO ?_; omega
theorem d252 (a c : Int) (f : Bool) (h0 : 0 ≤ a) (h1 : a ≤ 10000000000000000) : Df (C252 (a, c, f, ())) (fun _ => True) := by
 show Df (F252 C252_c0 _) _
 unfold F252
 dsimp only
 rw [Int.tdiv_eq_ediv_of_nonneg h0, Int.tdiv_eq_ediv_of_nonneg h0, w64s (n := a / 700) (by omega), w64s (n := a / 2) (by omega)]
 with_reducible repeat' (first | apply dP | apply dX <;> intro _)
 · exact dZ (d252_0 _ _ (by omega) (by omega)) fun _ _ => dP trivial
 · exact dZ (d252_0 _ _ (by omega) (by omega)) fun _ _ => dP trivial
def cnt (n : Int) (l : List Int) : Nat := l.countP fun r => decide (r < n)
def ceq (n : Int) (l : List Int) : Nat := l.countP fun r => decide (r = n)
theorem cnt_le (n : Int) (l : List Int) : cnt n l ≤ l.length := List.countP_le_length
theorem cnt_succ (n : Int) : ∀ l : List Int, cnt (n + 1) l = cnt n l + ceq n l
 | [] => rfl
 | x :: l => by
  have ih := cnt_succ n l
  unfold cnt ceq at *
  simp only [List.countP_cons, decide_eq_true_eq]
  split <;> split <;> split <;> omega
theorem cnt_same {n m : Int} (h : n ≤ m) : ∀ {l : List Int}, (∀ r ∈ l, n ≤ r → m ≤ r) → cnt m l = cnt n l
 | [], _ => rfl
 | x :: l, hl => by
  have ih := cnt_same (l := l) h fun r hr => hl r (List.mem_cons_of_mem _ hr)
  have hx := hl x List.mem_cons_self
  unfold cnt at *
  simp only [List.countP_cons, decide_eq_true_eq]
  split <;> split <;> omega
theorem cnt_all {n : Int} : ∀ {l : List Int}, (∀ r ∈ l, r < n) → cnt n l = l.length
 | [], _ => rfl
 | x :: l, hl => by
  have ih := cnt_all (l := l) fun r hr => hl r (List.mem_cons_of_mem _ hr)
  have hx := hl x List.mem_cons_self
  unfold cnt at *
  simp only [List.countP_cons, List.length_cons, decide_eq_true_eq, hx, if_true]
  omega
theorem ceq_pos {n : Int} : ∀ {l : List Int}, n ∈ l → 1 ≤ ceq n l
 | x :: l, h => by
  unfold ceq
  simp only [List.countP_cons, decide_eq_true_eq]
  rcases List.mem_cons.1 h with rfl | h
  · simp
  · have := ceq_pos h
    unfold ceq at this
    omega
theorem ceq_take {n : Int} {l : List Int} {i : Nat} (h : i < l.length) : ceq n (l.take (i + 1)) = ceq n (l.take i) + if l[i] = n then 1 else 0 := by
 unfold ceq
 rw [take_succ_get h, List.countP_append]
 simp [List.countP_cons]
theorem cnt_take {n : Int} {l : List Int} {i : Nat} (h : i < l.length) : cnt n (l.take (i + 1)) = cnt n (l.take i) + if l[i] < n then 1 else 0 := by
 unfold cnt
 rw [take_succ_get h, List.countP_append]
 simp [List.countP_cons]
theorem ceq_le_take (n : Int) (l : List Int) (i : Nat) : ceq n (l.take i) ≤ ceq n l := by
 unfold ceq
 exact (List.take_sublist i l).countP_le
theorem d250 (l : List Int) (n : Int) (hn : 0 ≤ n) (hl : l.length ≤ 1000000000000) : Df (C250 (l, n, ())) (fun y => (y.1 < 0 ∧ ∀ r ∈ l, r < n) ∨ (y.1 ∈ l ∧ n ≤ y.1 ∧ ∀ r ∈ l, n ≤ r → y.1 ≤ r)) := by
 show Df (F250 C250_l0 _) _
 unfold F250
 dsimp only
 refine dZ (P := fun y => (y.1 < 0 ∧ ∀ r ∈ l, r < n) ∨ (y.1 ∈ l ∧ n ≤ y.1 ∧ ∀ r ∈ l, n ≤ r → y.1 ≤ r)) ?_ (fun _ h => dP h)
 refine dL ?I ?m ?h _ ?hv ?hn
 case I => exact (fun v => v.1 = n ∧ v.2.2.1 = l ∧ v.2.2.2.1 = l.length ∧ 0 ≤ v.2.2.2.2.1 ∧ v.2.2.2.2.1 ≤ l.length ∧ ((v.2.1 < 0 ∧ ∀ r ∈ l.take v.2.2.2.2.1.toNat, r < n) ∨ (v.2.1 ∈ l ∧ n ≤ v.2.1 ∧ ∀ r ∈ l.take v.2.2.2.2.1.toNat, n ≤ r → v.2.1 ≤ r)))
 case m => exact (fun v => (l.length - v.2.2.2.2.1).toNat)
 case hv => exact ⟨rfl, rfl, rfl, by first | omega | (dsimp only; omega), by first | omega | (dsimp only; omega), .inl ⟨by first | omega | (dsimp only; omega), by simp⟩⟩
 case hn => exact (by first | omega | (dsimp only; omega))
 rintro ⟨x0, x1, x2, x3, x4, u⟩ hI
 dsimp only at hI
 obtain ⟨rfl, rfl, rfl, h0, h1, hI⟩ := hI
 unfold F250_l0
 dsimp only
 with_reducible repeat' (first | apply dP | apply dX <;> intro _)
 all_goals try rw [w64s (n := x4 + 1) (by omega)]
 · rename_i a1 a2 a3 a4
   have hlt : x4.toNat < x2.length := by omega
   rw [getD_lt hlt] at a3 ⊢
   refine ⟨⟨rfl, rfl, rfl, by first | omega | (dsimp only; omega), by first | omega | (dsimp only; omega), .inr ⟨List.getElem_mem hlt, a3, ?_⟩⟩, by first | omega | (dsimp only; omega)⟩
   dsimp only
   intro r hr hge
   rw [show (x4 + 1).toNat = x4.toNat + 1 by omega, take_succ_get hlt] at hr
   rcases List.mem_append.1 hr with hr | hr
   · rcases hI with ⟨_, hI⟩ | ⟨_, hx, _⟩
     · have := hI r hr; omega
     · omega
   · rw [List.mem_singleton] at hr; omega
 · rename_i a1 a2 a3 a4 a5
   have hlt : x4.toNat < x2.length := by omega
   rw [getD_lt hlt] at a3 a5 ⊢
   refine ⟨⟨rfl, rfl, rfl, by first | omega | (dsimp only; omega), by first | omega | (dsimp only; omega), .inr ⟨List.getElem_mem hlt, a3, ?_⟩⟩, by first | omega | (dsimp only; omega)⟩
   dsimp only
   intro r hr hge
   rw [show (x4 + 1).toNat = x4.toNat + 1 by omega, take_succ_get hlt] at hr
   rcases List.mem_append.1 hr with hr | hr
   · rcases hI with ⟨hx, _⟩ | ⟨_, hx, hI⟩
     · omega
     · have := hI r hr hge; omega
   · rw [List.mem_singleton] at hr; omega
 · rename_i a1 a2 a3 a4 a5
   have hlt : x4.toNat < x2.length := by omega
   rw [getD_lt hlt] at a3 a5
   refine ⟨⟨rfl, rfl, rfl, by first | omega | (dsimp only; omega), by first | omega | (dsimp only; omega), ?_⟩, by first | omega | (dsimp only; omega)⟩
   dsimp only
   rcases hI with ⟨hx, _⟩ | ⟨hm, hx, hI⟩
   · omega
   · refine .inr ⟨hm, hx, fun r hr hge => ?_⟩
     rw [show (x4 + 1).toNat = x4.toNat + 1 by omega, take_succ_get hlt] at hr
     rcases List.mem_append.1 hr with hr | hr
     · exact hI r hr hge
     · rw [List.mem_singleton] at hr; omega
 · rename_i a1 a2 a3
   have hlt : x4.toNat < x2.length := by omega
   rw [getD_lt hlt] at a3
   refine ⟨⟨rfl, rfl, rfl, by first | omega | (dsimp only; omega), by first | omega | (dsimp only; omega), ?_⟩, by first | omega | (dsimp only; omega)⟩
   dsimp only
   rcases hI with ⟨hx, hI⟩ | ⟨hm, hx, hI⟩
   · refine .inl ⟨hx, fun r hr => ?_⟩
     rw [show (x4 + 1).toNat = x4.toNat + 1 by omega, take_succ_get hlt] at hr
     rcases List.mem_append.1 hr with hr | hr
     · exact hI r hr
     · rw [List.mem_singleton] at hr; omega
   · refine .inr ⟨hm, hx, fun r hr hge => ?_⟩
     rw [show (x4 + 1).toNat = x4.toNat + 1 by omega, take_succ_get hlt] at hr
     rcases List.mem_append.1 hr with hr | hr
     · exact hI r hr hge
     · rw [List.mem_singleton] at hr; omega
 · refine dO ?_; omega
 · rw [List.take_of_length_le (by omega)] at hI
   exact hI
theorem d223_0 (l : List Int) (hl : l.length ≤ 1000000000000) : Df (C223_l0 (l, l, (l.length : Int), 0, [], ())) (Sum.elim (fun y => y.1 = l ∧ (∀ r ∈ l, 0 ≤ r ∧ r ≤ 1114111) ∧ y.2.1.length = cnt 128 l) (fun y => y.1 = [])) := by
 refine dL ?I ?m ?h _ ?hv ?hn
 case I => exact (fun v => v.1 = l ∧ v.2.1 = l ∧ v.2.2.1 = l.length ∧ 0 ≤ v.2.2.2.1 ∧ v.2.2.2.1 ≤ l.length ∧ (∀ r ∈ l.take v.2.2.2.1.toNat, 0 ≤ r ∧ r ≤ 1114111) ∧ v.2.2.2.2.1.length = cnt 128 (l.take v.2.2.2.1.toNat))
 case m => exact (fun v => (l.length - v.2.2.2.1).toNat)
 case hv => exact ⟨rfl, rfl, rfl, by first | omega | (dsimp only; omega), by first | omega | (dsimp only; omega), by simp, rfl⟩
 case hn => exact (by first | omega | (dsimp only; omega))
 rintro ⟨x0, x1, x2, x3, x4, u⟩ hI
 dsimp only at hI
 obtain ⟨rfl, rfl, rfl, h0, h1, h2, h3⟩ := hI
 unfold F223_l0
 dsimp only
 with_reducible repeat' (first | apply dP | apply dX <;> intro _)
 · refine dZ (d155 _) ?_
   rintro ⟨b, u⟩ hb
   dsimp only at hb ⊢
   have hlt : x3.toNat < x1.length := by omega
   have hc := cnt_le 128 (x1.take x3.toNat)
   rw [List.length_take] at hc
   have hr : b = true → ∀ r ∈ x1.take (x3.toNat + 1), 0 ≤ r ∧ r ≤ 1114111 := by
    intro hbt r hr
    rw [take_succ_get hlt] at hr
    rcases List.mem_append.1 hr with hr | hr
    · exact h2 r hr
    · rw [List.mem_singleton] at hr
      have := hb hbt
      rw [getD_lt hlt] at this
      subst hr; exact this
   have hct := cnt_take (n := 128) hlt
   have hs : (x3 + 1).toNat = x3.toNat + 1 := by omega
   rw [w64s (n := x3 + 1) (by omega)]
   with_reducible repeat' (first | apply dP | apply dX <;> intro _)
   · exact rfl
   · rename_i hbt hlow _
     rw [getD_lt hlt] at hlow
     rw [if_pos hlow] at hct
     exact ⟨⟨rfl, rfl, rfl, by first | omega | (dsimp only; omega), by first | omega | (dsimp only; omega), by dsimp only; rw [hs]; exact hr hbt, by dsimp only; rw [hs, List.length_append, hct, h3]; rfl⟩, by first | omega | (dsimp only; omega)⟩
   · refine dO ?_; simp only [List.length_cons, List.length_nil] at *; omega
   · rename_i hbt hlow
     rw [getD_lt hlt] at hlow
     rw [if_neg hlow] at hct
     exact ⟨⟨rfl, rfl, rfl, by first | omega | (dsimp only; omega), by first | omega | (dsimp only; omega), by dsimp only; rw [hs]; exact hr hbt, by dsimp only; rw [hs, hct, h3]; rfl⟩, by first | omega | (dsimp only; omega)⟩
 · refine dO ?_; omega
 · rw [List.take_of_length_le (by omega)] at h2 h3
   exact ⟨rfl, h2, h3⟩
theorem d223_1 (l : List Int) (p m delta bias h : Int) (out : List UInt8) (hl : l.length ≤ 1000000000000) (hh : h = cnt m l) (hd : 0 ≤ delta ∧ delta ≤ 2147483647) (ho : out.length ≤ l.length + 1 + 14 * cnt m l) :
 Df (C223_l1 (l, p, m, delta, bias, h, l, (l.length : Int), 0, out, ())) (fun y => y.1 = l ∧ y.2.1 = p ∧ y.2.2.1 = m ∧ 0 ≤ y.2.2.2.1 ∧ y.2.2.2.1 ≤ 2147483647 + l.length ∧ y.2.2.2.2.2.1 = cnt m l + ceq m l ∧ y.2.2.2.2.2.2.1.length ≤ l.length + 1 + 14 * (cnt m l + ceq m l)) := by
 refine dL ?I ?m ?h _ ?hv ?hn
 case I => exact (fun v => v.1 = l ∧ v.2.1 = p ∧ v.2.2.1 = m ∧ 0 ≤ v.2.2.2.1 ∧ v.2.2.2.1 ≤ 2147483647 + v.2.2.2.2.2.2.2.2.1 ∧ v.2.2.2.2.2.1 = cnt m l + ceq m (l.take v.2.2.2.2.2.2.2.2.1.toNat) ∧ v.2.2.2.2.2.2.1 = l ∧ v.2.2.2.2.2.2.2.1 = l.length ∧ 0 ≤ v.2.2.2.2.2.2.2.2.1 ∧ v.2.2.2.2.2.2.2.2.1 ≤ l.length ∧ v.2.2.2.2.2.2.2.2.2.1.length ≤ l.length + 1 + 14 * (cnt m l + ceq m (l.take v.2.2.2.2.2.2.2.2.1.toNat)))
 case m => exact (fun v => (l.length - v.2.2.2.2.2.2.2.2.1).toNat)
 case hv => exact ⟨rfl, rfl, rfl, hd.1, by first | omega | (dsimp only; omega), by dsimp only; rw [hh]; simp [ceq], rfl, rfl, by first | omega | (dsimp only; omega), by first | omega | (dsimp only; omega), by dsimp only; simpa [ceq] using ho⟩
 case hn => exact (by first | omega | (dsimp only; omega))
 rintro ⟨x0, x1, x2, x3, x4, x5, x6, x7, x8, x9, u⟩ hI
 dsimp only at hI
 obtain ⟨rfl, rfl, rfl, h0, h1, rfl, rfl, rfl, h2, h3, h4⟩ := hI
 have c1 := cnt_le x2 x6
 have c2 := ceq_le_take x2 x6 x8.toNat
 have c3 : ceq x2 x6 ≤ x6.length := List.countP_le_length
 unfold F223_l1
 dsimp only
 with_reducible repeat' (first | apply dP | apply dX <;> intro _)
 all_goals try rw [w64s (n := x8 + 1) (by omega)]
 · rename_i a1 a2 a3
   have hlt : x8.toNat < x6.length := by omega
   have hct := ceq_take (n := x2) hlt
   have hs : (x8 + 1).toNat = x8.toNat + 1 := by omega
   rw [getD_lt hlt] at a3
   rw [if_neg (by omega)] at hct
   rw [w64s (n := x3 + 1) (by omega)]
   refine ⟨⟨rfl, rfl, rfl, by first | omega | (dsimp only; omega), by first | omega | (dsimp only; omega), ?_, rfl, rfl, by first | omega | (dsimp only; omega), by first | omega | (dsimp only; omega), ?_⟩, by first | omega | (dsimp only; omega)⟩
   · dsimp only; rw [hs, hct]; simp
   · dsimp only; rw [hs, hct]; omega
 · rename_i a1 a2 a3 a4
   have hlt : x8.toNat < x6.length := by omega
   have hct := ceq_take (n := x2) hlt
   have hs : (x8 + 1).toNat = x8.toNat + 1 := by omega
   rw [getD_lt hlt] at a3 a4
   rw [if_pos a4] at hct
   refine dZ (d251 _ _ _ h0 (by rw [show (10 : Int) ^ 13 = 10000000000000 from rfl]; omega) (by omega)) ?_
   rintro ⟨y, u⟩ hy
   dsimp only at hy ⊢
   rw [w64s (n := ((cnt x2 x6 : Int) + (ceq x2 (x6.take x8.toNat) : Int)) + 1) (by omega)]
   refine dZ (d252 _ _ _ h0 (by omega)) ?_
   rintro ⟨z, u⟩ -
   dsimp only
   refine dP ⟨⟨rfl, rfl, rfl, by first | omega | (dsimp only; omega), by first | omega | (dsimp only; omega), ?_, rfl, rfl, by first | omega | (dsimp only; omega), by first | omega | (dsimp only; omega), ?_⟩, by first | omega | (dsimp only; omega)⟩
   · dsimp only; rw [hs, hct]; simp; omega
   · dsimp only; rw [hs, hct]; omega
 · rename_i a1 a2 a3 a4
   have hlt : x8.toNat < x6.length := by omega
   have hct := ceq_take (n := x2) hlt
   have hs : (x8 + 1).toNat = x8.toNat + 1 := by omega
   rw [getD_lt hlt] at a3 a4
   rw [if_neg a4] at hct
   refine ⟨⟨rfl, rfl, rfl, by first | omega | (dsimp only; omega), by first | omega | (dsimp only; omega), ?_, rfl, rfl, by first | omega | (dsimp only; omega), by first | omega | (dsimp only; omega), ?_⟩, by first | omega | (dsimp only; omega)⟩
   · dsimp only; rw [hs, hct]; simp
   · dsimp only; rw [hs, hct]; omega
 · refine dO ?_; omega
 · rw [List.take_of_length_le (by omega)] at h4 ⊢
   exact ⟨rfl, rfl, rfl, by first | omega | (dsimp only; omega), by first | omega | (dsimp only; omega), rfl, h4⟩
theorem d223_2 (l : List Int) (out : List UInt8) (hl : l.length ≤ 1000000000000) (hr : ∀ r ∈ l, 0 ≤ r ∧ r ≤ 1114111) (ho : out.length ≤ l.length + 1) :
 Df (C223_l2 (l, (cnt 128 l : Int), 128, 0, 72, (cnt 128 l : Int), out, ())) (Sum.elim (fun y => y.1.length ≤ 15 * l.length + 1) (fun y => y.1 = [])) := by
 refine dL ?I ?m ?h _ ?hv ?hn
 case I => exact (fun v => v.1 = l ∧ 128 ≤ v.2.2.1 ∧ v.2.2.1 ≤ 1114112 ∧ 0 ≤ v.2.2.2.1 ∧ v.2.2.2.1 ≤ 2147483648 + l.length ∧ v.2.2.2.2.2.1 = cnt v.2.2.1 l ∧ v.2.2.2.2.2.2.1.length ≤ l.length + 1 + 14 * cnt v.2.2.1 l)
 case m => exact (fun v => l.length - cnt v.2.2.1 l)
 case hv => exact ⟨rfl, by first | omega | (dsimp only; omega), by first | omega | (dsimp only; omega), by first | omega | (dsimp only; omega), by first | omega | (dsimp only; omega), rfl, by first | omega | (dsimp only; omega)⟩
 case hn => exact (by first | omega | (dsimp only; omega))
 rintro ⟨x0, x1, x2, x3, x4, x5, x6, u⟩ hI
 dsimp only at hI
 obtain ⟨rfl, h0, h1, h2, h3, rfl, h4⟩ := hI
 have c1 := cnt_le x2 x0
 unfold F223_l2
 dsimp only
 with_reducible repeat' (first | apply dP | apply dX <;> intro _)
 · rename_i hlt
   refine dZ (d250 x0 x2 (by omega) hl) ?_
   rintro ⟨m, u⟩ hm
   dsimp only at hm ⊢
   rcases hm with ⟨_, hm⟩ | ⟨hm, hnm, hmin⟩
   · have := cnt_all hm
     omega
   · have hm2 := hr m hm
     have hp0 : 0 ≤ (m - x2) * ((cnt x2 x0 : Int) + 1) := Int.mul_nonneg (by omega) (by omega)
     have hp1 : (m - x2) * ((cnt x2 x0 : Int) + 1) ≤ 1114111 * ((cnt x2 x0 : Int) + 1) := Int.mul_le_mul_of_nonneg_right (by omega) (by omega)
     rw [w32s (n := m - x2) (by omega), w64s (n := m - x2) (by omega), w64s (n := (cnt x2 x0 : Int) + 1) (by omega)]
     generalize (m - x2) * ((cnt x2 x0 : Int) + 1) = P at hp0 hp1 ⊢
     rw [w64s (n := P) (by omega), w64s (n := x3 + P) (by omega)]
     have hsame := cnt_same hnm hmin
     have hpos := ceq_pos hm
     have hsucc := cnt_succ m x0
     have c4 := cnt_le (m + 1) x0
     with_reducible repeat' (first | apply dP | apply dX <;> intro _)
     · exact rfl
     · refine dZ (d223_1 x0 x1 m (x3 + P) x4 _ x6 hl (by rw [hsame]) (by omega) (by omega)) ?_
       rintro ⟨y0, y1, y2, y3, y4, y5, y6, u⟩ hy
       dsimp only at hy ⊢
       obtain ⟨rfl, rfl, rfl, k0, k1, rfl, k2⟩ := hy
       rw [w32s (n := y2 + 1) (by omega), w64s (n := y3 + 1) (by omega)]
       refine dP ⟨⟨rfl, by first | omega | (dsimp only; omega), by first | omega | (dsimp only; omega), by first | omega | (dsimp only; omega), by first | omega | (dsimp only; omega), ?_, ?_⟩, ?_⟩
       · dsimp only; rw [hsucc]; simp
       · dsimp only; rw [hsucc]; exact k2
       · dsimp only; omega
 · exact (by first | omega | (dsimp only; omega) : x6.length ≤ 15 * x0.length + 1)
theorem d223 (l : List Int) (hl : l.length ≤ 1000000000000) : Df (C223 (l, ())) (fun y => y.1.length ≤ 15 * l.length + 1) := by
 show Df (F223 C155 C250 C251 C252 C223_c0 C223_l0 _) _
 unfold F223
 dsimp only
 refine dZ (d223_0 l hl) ?_
 intro z hz
 refine dS hz ?_ ?_
 · rintro ⟨x0, x1, u⟩ hx
   dsimp only at hx ⊢
   obtain ⟨rfl, hr, hc⟩ := hx
   have c0 := cnt_le 128 x0
   have fin : ∀ out : List UInt8, out.length ≤ x0.length + 1 → Df ((C223_c0 (x0, (x1.length : Int), out, ())).bind fun val => some (val.fst, val.snd.fst, ())) (fun y => y.1.length ≤ 15 * x0.length + 1) := by
    intro out ho
    refine dZ (P := fun y => y.1.length ≤ 15 * x0.length + 1) ?_ (fun _ h => dP h)
    show Df (F223_c0 C155 C250 C251 C252 C223_l2 _) _
    unfold F223_c0
    dsimp only
    rw [hc]
    refine dZ (d223_2 x0 out hl hr ho) ?_
    intro z hz
    refine dS hz ?_ ?_
    · rintro ⟨y, u⟩ hy; exact dP hy
    · rintro ⟨y, b, u⟩ hy
      dsimp only at hy
      subst hy
      exact dP (by simp)
   with_reducible repeat' (first | apply dP | apply dX <;> intro _)
   · exact fin _ (by simp only [List.length_append, List.length_cons, List.length_nil]; omega)
   · refine dO ?_; simp only [List.length_cons, List.length_nil] at *; omega
   · exact fin _ (by omega)
 · rintro ⟨y, b, u⟩ hy
   dsimp only at hy
   subst hy
   exact dP (by simp)
structure TK (T : List R6) (A : List R4) (B : List R3) : Prop where
 t : TOk T
 a : A.length ≤ 1000000000000
 b : B.length ≤ 1000000000000
section
variable {T : List R6} {A : List R4} {B : List R3}
theorem d304 (l : List Int) (p n : Int) (hp : 0 ≤ p ∧ p ≤ 1000000000000000) (hn : -1000000000000001 ≤ n ∧ n ≤ 1000000000000001) : Df (C304 (T, A, B, l, p, n, ())) (fun y => y.1 ≥ 0 → 0 ≤ p + n ∧ p + n < l.length) := by
 show Df (F304 _) _
 unfold F304
 dsimp only
 rw [w64s (n := p + n) (by omega)]
 with_reducible repeat' (first | apply dP | apply dX <;> intro _)
 · intro h; dsimp only at h; omega
 · intro h; dsimp only at h; omega
 · intro h; omega
 · refine dO ?_; omega
theorem d282 (h : TK T A B) (l : List Int) (p : Int) (hp : 0 ≤ p ∧ p ≤ 1000000000000000) : Df (C282 (T, A, B, l, p, ())) (fun _ => True) := by
 show Df (F282 C276 C304 _) _
 unfold F282
 dsimp only
 refine dZ (d304 l p (-1) hp (by omega)) ?_
 rintro ⟨x, u⟩ -
 exact dZ (d276 T A B _ h.a) fun _ _ => dP trivial
theorem d305 (h : TK T A B) (l : List Int) (p s : Int) (hp : 0 ≤ p ∧ p < l.length) (hl : l.length ≤ 1000000000000) (hs : s = 1 ∨ s = -1) : Df (C305 (T, A, B, l, p, s, ())) (fun _ => True) := by
 show Df (F305 C304 C313 C305_l0 _) _
 unfold F305
 dsimp only
 refine dZ (P := fun _ => True) ?_ ?_
 · refine dL ?I ?m ?h _ ?hv ?hn
   case I => exact (fun v => v.1 = s ∧ v.2.2.1 = T ∧ v.2.2.2.2.2.1 = l ∧ v.2.2.2.2.2.2.1 = p ∧ -1 ≤ p + v.2.1 ∧ p + v.2.1 ≤ l.length)
   case m => exact (fun v => (bif s == 1 then (l.length - (p + v.2.1)) else p + v.2.1 + 1).toNat)
   case hv => exact ⟨rfl, rfl, rfl, rfl, by first | omega | (dsimp only; omega), by first | omega | (dsimp only; omega)⟩
   case hn => exact (by rcases hs with rfl | rfl <;> simp <;> omega)
   rintro ⟨x0, x1, x2, x3, x4, x5, x6, u⟩ hI
   dsimp only at hI
   obtain ⟨rfl, rfl, rfl, rfl, h0, h1⟩ := hI
   unfold F305_l0
   dsimp only
   refine dZ (d304 x5 x6 x1 (by omega) (by omega)) ?_
   rintro ⟨c, u⟩ hc
   dsimp only at hc ⊢
   with_reducible repeat' (first | apply dP | apply dX <;> intro _)
   · rename_i hge
     have hc' := hc hge
     refine dZ (d304 x5 x6 x1 (by omega) (by omega)) ?_
     rintro ⟨c, u⟩ -
     dsimp only
     refine dZ (d313 x2 _ _ _ h.t) ?_
     rintro ⟨j, u⟩ -
     dsimp only
     rw [w64s (n := x1 + x0) (by omega)]
     with_reducible repeat' (first | apply dP | apply dX <;> intro _)
     · trivial
     · refine ⟨⟨rfl, rfl, rfl, rfl, by first | omega | (dsimp only; omega), by first | omega | (dsimp only; omega)⟩, ?_⟩
       rcases hs with rfl | rfl
       · simp only [show ((1 : Int) == 1) = true from rfl, cond_true]; omega
       · simp only [show ((-1 : Int) == 1) = false from rfl, cond_false]; omega
   · trivial
 · intro z hz
   cases z <;> exact dP trivial
theorem d283 (h : TK T A B) (l : List Int) (p : Int) (hp : 0 ≤ p ∧ p < l.length) (hl : l.length ≤ 1000000000000) : Df (C283 (T, A, B, l, p, ())) (fun _ => True) := by
 show Df (F283 C282 C305 _) _
 unfold F283
 dsimp only
 refine dZ (d305 h l p 1 hp hl (.inl rfl)) ?_
 rintro ⟨x, u⟩ -
 refine dZ (d282 h l p (by omega)) ?_
 rintro ⟨y, u⟩ -
 dsimp only
 with_reducible repeat' (first | apply dP | apply dX <;> intro _)
 · trivial
 · refine dZ (d305 h l p (-1) hp hl (.inr rfl)) ?_
   rintro ⟨x, u⟩ -
   dsimp only
   with_reducible repeat' (first | apply dP | apply dX <;> intro _)
   all_goals trivial
theorem d284 (l : List Int) (p : Int) (hp : 0 ≤ p ∧ p ≤ 1000000000000000) : Df (C284 (T, A, B, l, p, ())) (fun _ => True) := by
 show Df (F284 C304 _) _
 unfold F284
 dsimp only
 refine dZ (d304 l p (-1) hp (by omega)) ?_
 rintro ⟨x, u⟩ -
 dsimp only
 with_reducible repeat' (first | apply dP | apply dX <;> intro _)
 · exact dZ (d304 l p 1 hp (by omega)) fun _ _ => dP trivial
 · trivial
theorem d285 (h : TK T A B) (l : List Int) (p : Int) (hp : 0 ≤ p ∧ p ≤ 1000000000000000) : Df (C285 (T, A, B, l, p, ())) (fun _ => True) := by
 show Df (F285 C304 C306 _) _
 unfold F285
 dsimp only
 refine dZ (d304 l p 1 hp (by omega)) ?_
 rintro ⟨x, u⟩ -
 exact dZ (d306 T A B _ h.t) fun _ _ => dP trivial
theorem d286 (h : TK T A B) (l : List Int) (p : Int) (hp : 0 ≤ p ∧ p ≤ 1000000000000000) : Df (C286 (T, A, B, l, p, ())) (fun _ => True) := by
 show Df (F286 C304 C306 _) _
 unfold F286
 dsimp only
 refine dZ (d304 l p (-1) hp (by omega)) ?_
 rintro ⟨x, u⟩ -
 exact dZ (d306 T A B _ h.t) fun _ _ => dP trivial
theorem d242 (x : Int) : Df (C242 (x, ())) (fun _ => True) := by
 show Df (F242 _) _
 unfold F242
 dsimp only
 with_reducible repeat' (first | apply dP | apply dX <;> intro _)
 all_goals trivial
theorem d245 (x : Int) : Df (C245 (x, ())) (fun _ => True) := by
 show Df (F245 _) _
 unfold F245
 dsimp only
 with_reducible repeat' (first | apply dP | apply dX <;> intro _)
 all_goals trivial
theorem d281 (l : List Int) (hl : l.length ≤ 1000000000000) : Df (C281 (l, ())) (fun _ => True) := by
 show Df (F281 C245 C281_l0 _) _
 unfold F281
 dsimp only
 refine dZ (P := fun _ => True) ?_ (fun z _ => by cases z <;> exact dP trivial)
 refine dL ?I ?m ?h _ ?hv ?hn
 case I => exact (fun v => v.1 = l ∧ v.2.1 = l.length ∧ 0 ≤ v.2.2.1 ∧ v.2.2.1 ≤ l.length)
 case m => exact (fun v => (l.length - v.2.2.1).toNat)
 case hv => exact ⟨rfl, rfl, by first | omega | (dsimp only; omega), by first | omega | (dsimp only; omega)⟩
 case hn => exact (by first | omega | (dsimp only; omega))
 rintro ⟨x0, x1, x2, u⟩ hI
 dsimp only at hI
 obtain ⟨rfl, rfl, h0, h1⟩ := hI
 unfold F281_l0
 dsimp only
 with_reducible repeat' (first | apply dP | apply dX <;> intro _)
 · refine dZ (d245 _) ?_
   rintro ⟨b, u⟩ -
   dsimp only
   rw [w64s (n := x2 + 1) (by omega)]
   with_reducible repeat' (first | apply dP | apply dX <;> intro _)
   · trivial
   · exact ⟨⟨rfl, rfl, by first | omega | (dsimp only; omega), by first | omega | (dsimp only; omega)⟩, by first | omega | (dsimp only; omega)⟩
 · refine dO ?_; omega
 · trivial
theorem d281v1 (l : List Int) (hl : l.length ≤ 1000000000000) : Df (C281v1 (l, ())) (fun _ => True) := by
 show Df (F281v1 C242 C281v1_l0 _) _
 unfold F281v1
 dsimp only
 refine dZ (P := fun _ => True) ?_ (fun z _ => by cases z <;> exact dP trivial)
 refine dL ?I ?m ?h _ ?hv ?hn
 case I => exact (fun v => v.1 = l ∧ v.2.1 = l.length ∧ 0 ≤ v.2.2.1 ∧ v.2.2.1 ≤ l.length)
 case m => exact (fun v => (l.length - v.2.2.1).toNat)
 case hv => exact ⟨rfl, rfl, by first | omega | (dsimp only; omega), by first | omega | (dsimp only; omega)⟩
 case hn => exact (by first | omega | (dsimp only; omega))
 rintro ⟨x0, x1, x2, u⟩ hI
 dsimp only at hI
 obtain ⟨rfl, rfl, h0, h1⟩ := hI
 unfold F281v1_l0
 dsimp only
 with_reducible repeat' (first | apply dP | apply dX <;> intro _)
 · refine dZ (d242 _) ?_
   rintro ⟨b, u⟩ -
   dsimp only
   rw [w64s (n := x2 + 1) (by omega)]
   with_reducible repeat' (first | apply dP | apply dX <;> intro _)
   · trivial
   · exact ⟨⟨rfl, rfl, by first | omega | (dsimp only; omega), by first | omega | (dsimp only; omega)⟩, by first | omega | (dsimp only; omega)⟩
 · refine dO ?_; omega
 · trivial
theorem d243 (l : List Int) (p : Int) (hl : l.length ≤ 1000000000000) : Df (C243 (T, A, B, l, p, ())) (fun _ => True) := by
 show Df (F243 C244 _) _
 unfold F243
 dsimp only
 refine dZ (P := fun _ => True) ?_ (fun _ _ => dP trivial)
 show Df (F244 C281 _) _
 unfold F244
 dsimp only
 exact dZ (d281 l hl) fun _ _ => dP trivial
theorem d246 (l : List Int) (p : Int) (hl : l.length ≤ 1000000000000) : Df (C246 (T, A, B, l, p, ())) (fun _ => True) := by
 show Df (F246 C244v1 _) _
 unfold F246
 dsimp only
 refine dZ (P := fun _ => True) ?_ (fun _ _ => dP trivial)
 show Df (F244v1 C281v1 _) _
 unfold F244v1
 dsimp only
 exact dZ (d281v1 l hl) fun _ _ => dP trivial
theorem d307 (h : TK T A B) (r : Int) (l : List Int) (p : Int) : Df (C307 (r, T, A, B, l, p, ())) (fun y => y.2 = (T, A, B, l, p, ())) := by
 show Df (F307 C306 _) _
 unfold F307
 dsimp only
 refine dZ (d306 T A B _ h.t) ?_
 rintro ⟨x, u⟩ -
 dsimp only
 with_reducible repeat' (first | apply dP | apply dX <;> intro _)
 all_goals rfl
theorem d281v2 (h : TK T A B) (l : List Int) (l' : List Int) (p : Int) (hl : l.length ≤ 1000000000000) : Df (C281v2 (l, T, A, B, l', p, ())) (fun _ => True) := by
 show Df (F281v2 C307 C281v2_l0 _) _
 unfold F281v2
 dsimp only
 refine dZ (P := fun _ => True) ?_ (fun z _ => by cases z <;> exact dP trivial)
 refine dL ?I ?m ?h _ ?hv ?hn
 case I => exact (fun v => v.1 = l ∧ v.2.1 = l.length ∧ 0 ≤ v.2.2.1 ∧ v.2.2.1 ≤ l.length ∧ v.2.2.2 = (T, A, B, l', p, ()))
 case m => exact (fun v => (l.length - v.2.2.1).toNat)
 case hv => exact ⟨rfl, rfl, by first | omega | (dsimp only; omega), by first | omega | (dsimp only; omega), rfl⟩
 case hn => exact (by first | omega | (dsimp only; omega))
 rintro ⟨x0, x1, x2, x3, x4, x5, x6, x7, u⟩ hI
 dsimp only at hI
 obtain ⟨rfl, rfl, h0, h1, h2⟩ := hI
 simp only [Prod.mk.injEq] at h2
 obtain ⟨rfl, rfl, rfl, rfl, rfl, -⟩ := h2
 unfold F281v2_l0
 dsimp only
 with_reducible repeat' (first | apply dP | apply dX <;> intro _)
 · refine dZ (d307 h _ _ _) ?_
   rintro ⟨b, y1, y2, y3, y4, y5, u⟩ hy
   simp only [Prod.mk.injEq] at hy
   obtain ⟨rfl, rfl, rfl, rfl, rfl, -⟩ := hy
   dsimp only
   rw [w64s (n := x2 + 1) (by omega)]
   with_reducible repeat' (first | apply dP | apply dX <;> intro _)
   · trivial
   · exact ⟨⟨rfl, rfl, by first | omega | (dsimp only; omega), by first | omega | (dsimp only; omega), rfl⟩, by first | omega | (dsimp only; omega)⟩
 · refine dO ?_; omega
 · trivial
theorem d287 (h : TK T A B) (l : List Int) (p : Int) (hl : l.length ≤ 1000000000000) : Df (C287 (T, A, B, l, p, ())) (fun _ => True) := by
 show Df (F287 C244v2 _) _
 unfold F287
 dsimp only
 refine dZ (P := fun _ => True) ?_ (fun _ _ => dP trivial)
 show Df (F244v2 C281v2 _) _
 unfold F244v2
 dsimp only
 exact dZ (d281v2 h l l p hl) fun _ _ => dP trivial
theorem d214 (x : Int) : Df (C214 (x, ())) (fun _ => True) := by
 show Df (F214 C242 C245 C247 _) _
 unfold F214
 dsimp only
 refine dZ (d242 x) ?_
 rintro ⟨b, u⟩ -
 dsimp only
 with_reducible repeat' (first | apply dP | apply dX <;> intro _)
 · trivial
 · refine dZ (d245 x) ?_
   rintro ⟨b, u⟩ -
   dsimp only
   with_reducible repeat' (first | apply dP | apply dX <;> intro _)
   · trivial
   · refine dZ (P := fun _ => True) ⟨(), rfl, trivial⟩ ?_
     intro u _
     with_reducible repeat' (first | apply dP | apply dX <;> intro _)
     all_goals trivial
theorem d183 (h : TK T A B) (l : List Int) (p : Int) (hl : l.length ≤ 1000000000000) (hp : p ≤ 1000000000000) : Df (C183 (T, A, B, l, p, ())) (fun _ => True) := by
 show Df (F183 C214 C243 C246 C282 C283 C284 C285 C286 C287 _) _
 unfold F183
 dsimp only
 have fin : ∀ {x : Option (Bool × Unit)}, Df x (fun _ => True) → Df (x.bind fun val => bif val.fst then some ((1 : Int), ()) else some (2, ())) (fun _ => True) := by
  intro x hx
  refine dZ hx ?_
  rintro ⟨b, u⟩ -
  dsimp only
  with_reducible repeat' (first | apply dP | apply dX <;> intro _)
  all_goals trivial
 with_reducible repeat' (first | apply dP | apply dX <;> intro _)
 · trivial
 · trivial
 · refine dZ (d214 _) ?_
   intro z _
   rcases z with z | z | z | z | z | z | z | z | z
   · exact fin (d243 l p hl)
   · exact fin (d246 l p hl)
   · exact fin (d282 h l p (by omega))
   · exact fin (d283 h l p (by omega) hl)
   · exact fin (d284 l p (by omega))
   · exact fin (d285 h l p (by omega))
   · exact fin (d286 h l p (by omega))
   · exact fin (d287 h l p hl)
   · exact dP trivial
 · refine dO ?_; omega
theorem d217 (h : TK T A B) (r : Int) : Df (C217 (T, A, B, r, ())) (fun _ => True) := by
 show Df (F217 C215 C216 _) _
 unfold F217
 dsimp only
 refine dZ (d216 T A B r) ?_
 rintro ⟨v0, a, c, s, o, is, u⟩ -
 dsimp only
 with_reducible repeat' (first | apply dP | apply dX <;> intro _)
 all_goals first
  | trivial
  | (refine dZ (d215 T A B r h.t) ?_; rintro ⟨x, u⟩ -; dsimp only; (repeat' (first | apply dP | (apply dG <;> intro _))); all_goals trivial)
theorem d261 (h : TK T A B) (l : List Int) (hl : l.length ≤ 1000000000000) : Df (C261 (T, A, B, l, ())) (fun _ => True) := by
 show Df (F261 C183 C217 C261_l0 _) _
 unfold F261
 dsimp only
 refine dZ (P := fun _ => True) ?_ (fun z _ => by cases z <;> exact dP trivial)
 refine dL ?I ?m ?h _ ?hv ?hn
 case I => exact (fun v => v.1 = l ∧ v.2.1 = l ∧ v.2.2.1 = l.length ∧ 0 ≤ v.2.2.2.1 ∧ v.2.2.2.1 ≤ l.length ∧ v.2.2.2.2 = (T, A, B, ()))
 case m => exact (fun v => (l.length - v.2.2.2.1).toNat)
 case hv => exact ⟨rfl, rfl, rfl, by first | omega | (dsimp only; omega), by first | omega | (dsimp only; omega), rfl⟩
 case hn => exact (by first | omega | (dsimp only; omega))
 rintro ⟨x0, x1, x2, x3, x4, x5, x6, u⟩ hI
 dsimp only at hI
 obtain ⟨rfl, rfl, rfl, h0, h1, h2⟩ := hI
 simp only [Prod.mk.injEq] at h2
 obtain ⟨rfl, rfl, rfl, -⟩ := h2
 unfold F261_l0
 dsimp only
 with_reducible repeat' (first | apply dP | apply dX <;> intro _)
 · refine dZ (d183 h _ _ hl (by omega)) ?_
   rintro ⟨b, u⟩ -
   dsimp only
   rw [w64s (n := x3 + 1) (by omega)]
   with_reducible repeat' (first | apply dP | apply dX <;> intro _)
   · trivial
   · refine dZ (d217 h _) ?_
     rintro ⟨b, u⟩ -
     dsimp only
     with_reducible repeat' (first | apply dP | apply dX <;> intro _)
     · trivial
     · exact ⟨⟨rfl, rfl, rfl, by first | omega | (dsimp only; omega), by first | omega | (dsimp only; omega), rfl⟩, by first | omega | (dsimp only; omega)⟩
   · exact ⟨⟨rfl, rfl, rfl, by first | omega | (dsimp only; omega), by first | omega | (dsimp only; omega), rfl⟩, by first | omega | (dsimp only; omega)⟩
 · refine dO ?_; omega
 · trivial
theorem d260 (h : TK T A B) (l : List Int) (hl : l.length ≤ 1000000000000) : Df (C260 (T, A, B, l, ())) (fun y => y.2 = (T, A, B, l, ())) := by
 show Df (F260 C261 _) _
 unfold F260
 dsimp only
 exact dZ (d261 h l hl) fun _ _ => dP rfl
theorem d185 (h : TK T A B) (l : List Int) (hl : l.length ≤ 1000000000000) : Df (C185 (T, A, B, l, ())) (fun _ => True) := by
 show Df (F185 C218 C185_l0 _) _
 unfold F185
 dsimp only
 refine dZ (P := fun y => y.1.length = 8 ∧ y.2.1.length = 8) ?_ ?_
 · refine dL ?I ?m ?h _ ?hv ?hn
   case I => exact (fun v => v.1 = l ∧ v.2.1 = l.length ∧ 0 ≤ v.2.2.1 ∧ v.2.2.1 ≤ l.length ∧ v.2.2.2.1 = T ∧ v.2.2.2.2.2.2.1.length = 8 ∧ v.2.2.2.2.2.2.2.1.length = 8)
   case m => exact (fun v => (l.length - v.2.2.1).toNat)
   case hv => exact ⟨rfl, rfl, by first | omega | (dsimp only; omega), by first | omega | (dsimp only; omega), rfl, rfl, rfl⟩
   case hn => exact (by first | omega | (dsimp only; omega))
   rintro ⟨x0, x1, x2, x3, x4, x5, x6, x7, u⟩ hI
   dsimp only at hI
   obtain ⟨rfl, rfl, h0, h1, rfl, h2, h3⟩ := hI
   unfold F185_l0
   dsimp only
   with_reducible repeat' (first | apply dP | apply dX <;> intro _)
   · refine dZ (d218 x3 _ _ _ h.t) ?_
     rintro ⟨b, u⟩ hb
     dsimp only at hb ⊢
     rw [w64s (n := x2 + 1) (by omega)]
     with_reducible repeat' (first | apply dP | apply dX <;> intro _)
     all_goals first
      | exact ⟨⟨rfl, rfl, by first | omega | (dsimp only; omega), by first | omega | (dsimp only; omega), rfl, h2, by simp only [List.length_set]; omega⟩, by first | omega | (dsimp only; omega)⟩
      | (refine dO ?_; omega)
   · refine dO ?_; omega
   · exact ⟨h2, h3⟩
 · rintro ⟨x0, x1, u⟩ hx
   dsimp only at hx ⊢
   with_reducible repeat' (first | apply dP | apply dX <;> intro _)
   all_goals first | trivial | (refine dO ?_; omega)
theorem d153 (h : TK T A B) (l : List Int) (hl : l.length ≤ 1000000000000) : Df (C153 (T, A, B, l, ())) (fun _ => True) := by
 show Df (F153 C185 _) _
 unfold F153
 dsimp only
 exact dZ (d185 h l hl) fun _ _ => dP trivial
theorem d187 (h : TK T A B) (l : List Int) : Df (C187 (T, A, B, l, ())) (fun _ => True) := by
 show Df (F187 C218 _) _
 unfold F187
 dsimp only
 with_reducible repeat' (first | apply dP | apply dX <;> intro _)
 · trivial
 · refine dZ (d218 T A B _ h.t) ?_
   rintro ⟨b, u⟩ -
   dsimp only
   with_reducible repeat' (first | apply dP | apply dX <;> intro _)
   all_goals trivial
 · refine dO ?_; omega
theorem d154_0 (x : Bool) (y : Bool) (z : List Int) (hz : z.length = 8) : Df (C154_c0 (x, y, z, ())) (fun _ => True) := by
 show Df (F154_c0 C153 C185 C186 C187 _) _
 unfold F154_c0
 dsimp only
 with_reducible repeat' (first | apply dP | apply dX <;> intro _)
 all_goals first | trivial | (refine dO ?_; omega) | (rename_i h1 h2; exact absurd (show Int.toNat 1 < z.length by rw [hz]; decide) h2)
theorem d154_1 (x : Int) (y : Bool) (z : List Int) (hz : z.length = 8) : Df (C154_c1 (x, y, z, ())) (fun _ => True) := by
 show Df (F154_c1 C153 C185 C186 C187 C154_c0 _) _
 unfold F154_c1
 dsimp only
 with_reducible repeat' (first | apply dP | apply dX <;> intro _)
 all_goals exact dZ (d154_0 _ _ z hz) fun _ _ => dP trivial
end
section
variable {T : List R6} {A : List R4} {B : List R3}
theorem d278 (hA : A.length ≤ 1000000000000) (a b : Int) : Df (C278 (a, b, T, A, B, ())) (fun y => y.2 = (T, A, B, ())) := by
 unfold C278 F278
 dsimp only
 refine dZ (d276 T A B _ hA) ?_
 rintro ⟨x, u⟩ -
 exact dZ (d276 T A B _ hA) fun _ _ => dP rfl
theorem d310_0 (o n : Nat) (a b i j : Int) (row : List Int) (hj : 1 ≤ j ∧ j < n) (hn : n ≤ 100000000000000) :
 Df (C310_c0 (((o : Int), (n : Int)), a, b, i, j, row, T, A, B, ())) (fun y => ∃ (r' : List Int), r'.length = row.length ∧ y = (((o : Int), (n : Int)), a, b, i, j - 1, r', T, A, B, ())) := by
 unfold C310_c0 F310_c0
 dsimp only
 simp only [Int.toNat_natCast]
 rw [w64s (n := j - 1) (by omega)]
 with_reducible repeat' (first | apply dP | apply dX <;> intro _)
 · exact ⟨_, by simp only [List.length_set], rfl⟩
 all_goals (refine dO ?_; omega)
theorem d310_1 (hA : A.length ≤ 1000000000000) (o n : Nat) (a b i j : Int) (row : List Int) (ha : 0 ≤ a) (hj : a ≤ j ∧ j < n) (hn : n ≤ 100000000000000) :
 Df (C310_l0 (((o : Int), (n : Int)), a, b, i, j, row, T, A, B, ())) (fun y => ∃ (r' : List Int), r'.length = row.length ∧ y = (((o : Int), (n : Int)), a, b, i, r', T, A, B, ())) := by
 refine dL ?I ?m ?h _ ?hv ?hn
 case I => exact (fun v => ∃ (j' : Int) (r' : List Int), a ≤ j' ∧ j' < n ∧ r'.length = row.length ∧ v = (((o : Int), (n : Int)), a, b, i, j', r', T, A, B, ()))
 case m => exact (fun v => (v.2.2.2.2.1 - a).toNat)
 case hv => exact ⟨j, row, hj.1, hj.2, rfl, rfl⟩
 case hn => exact (by first | omega | (dsimp only; omega))
 rintro v ⟨j', r', h1, h2, h3, rfl⟩
 unfold F310_l0
 dsimp only
 simp only [Int.toNat_natCast]
 rw [w64s (n := j' - 1) (by omega)]
 with_reducible repeat' (first | apply dP | apply dX <;> intro _)
 · refine dZ (d278 hA _ _) ?_
   rintro ⟨c, t, a', b', u⟩ hc
   simp only [Prod.mk.injEq] at hc
   obtain ⟨rfl, rfl, rfl, -⟩ := hc
   dsimp only
   with_reducible repeat' (first | apply dP | apply dX <;> intro _)
   · refine dZ (d310_0 o n a b i j' r' (by omega) hn) ?_
     rintro y ⟨r2, h4, rfl⟩
     dsimp only
     simp only [Int.toNat_natCast]
     exact dP ⟨⟨_, _, by omega, by omega, h4.trans h3, rfl⟩, by first | omega | (dsimp only; omega)⟩
   · exact ⟨_, h3, rfl⟩
 · refine dO ?_; omega
 · refine dO ?_; omega
 · exact ⟨_, h3, rfl⟩
theorem d310 (hA : A.length ≤ 1000000000000) (o n : Nat) (a b : Int) (row : List Int) (ha : 0 ≤ a ∧ a ≤ n) (hb : b ≤ n) (hn : n ≤ 100000000000000) :
 Df (C310 (((o : Int), (n : Int)), a, b, row, T, A, B, ())) (fun y => ∃ (r' : List Int), r'.length = row.length ∧ y = (r', T, A, B, ())) := by
 unfold C310 F310
 dsimp only
 simp only [Int.toNat_natCast]
 rw [w64s (n := a + 1) (by omega)]
 refine dZ (P := fun y => ∃ (r' : List Int), r'.length = row.length ∧ y = (r', T, A, B, ())) ?_ ?_
 · refine dL ?I ?m ?h _ ?hv ?hn
   case I => exact (fun v => ∃ (i : Int) (r' : List Int), a + 1 ≤ i ∧ r'.length = row.length ∧ v = (((o : Int), (n : Int)), a, b, i, r', T, A, B, ()))
   case m => exact (fun v => (b - v.2.2.2.1).toNat)
   case hv => exact ⟨a + 1, row, Int.le_refl _, rfl, rfl⟩
   case hn => exact (by first | omega | (dsimp only; omega))
   rintro v ⟨i, r', h1, h2, rfl⟩
   unfold F310_l1
   dsimp only
   simp only [Int.toNat_natCast]
   with_reducible repeat' (first | apply dP | apply dX <;> intro _)
   · refine dZ (d310_1 hA o n a b i i r' ha.1 (by omega) hn) ?_
     rintro y ⟨r2, h4, rfl⟩
     dsimp only
     simp only [Int.toNat_natCast]
     rw [w64s (n := i + 1) (by omega)]
     exact dP ⟨⟨_, _, by omega, h4.trans h2, rfl⟩, by first | omega | (dsimp only; omega)⟩
   · exact ⟨_, h2, rfl⟩
 · rintro y ⟨r', h, rfl⟩
   exact dP ⟨_, h, rfl⟩
theorem d316 (o n : Nat) (a b k : Int) (row : List Int) (ha : 0 ≤ a ∧ a + k ≤ n) (hb : 0 ≤ b ∧ b + k ≤ n) (hn : n ≤ 100000000000000) :
 Df (C316 (((o : Int), (n : Int)), a, b, k, row, T, A, B, ())) (fun y => ∃ (r' : List Int), r'.length = row.length ∧ y = (r', T, A, B, ())) := by
 unfold C316 F316
 dsimp only
 simp only [Int.toNat_natCast]
 refine dZ (P := fun y => ∃ (r' : List Int), r'.length = row.length ∧ y = (r', T, A, B, ())) ?_ ?_
 · refine dL ?I ?m ?h _ ?hv ?hn
   case I => exact (fun v => ∃ (i : Int) (r' : List Int), 0 ≤ i ∧ r'.length = row.length ∧ v = (((o : Int), (n : Int)), a, b, k, i, r', T, A, B, ()))
   case m => exact (fun v => (k - v.2.2.2.2.1).toNat)
   case hv => exact ⟨0, row, Int.le_refl _, rfl, rfl⟩
   case hn => exact (by first | omega | (dsimp only; omega))
   rintro v ⟨i, r', h1, h2, rfl⟩
   unfold F316_l0
   dsimp only
   simp only [Int.toNat_natCast]
   by_cases hlt : i < k
   · rw [w64s (n := a + i) (by omega), w64s (n := b + i) (by omega), w64s (n := i + 1) (by omega)]
     with_reducible repeat' (first | apply dP | apply dX <;> intro _)
     · exact ⟨⟨_, _, by omega, by simp only [List.length_set]; exact h2, rfl⟩, by first | omega | (dsimp only; omega)⟩
     all_goals first | (refine dO ?_; omega) | (exfalso; omega)
   · rw [decide_eq_false hlt]
     exact dP ⟨_, h2, rfl⟩
 · rintro y ⟨r', h, rfl⟩
   exact dP ⟨_, h, rfl⟩
theorem d315 (o n : Nat) (a m b : Int) (row : List Int) (ha : 0 ≤ a ∧ a < m) (hb : m < b ∧ b ≤ n) (hn : n ≤ 100000000000000) :
 Df (C315 (((o : Int), (n : Int)), a, m, b, row, T, A, B, ())) (fun y => ∃ (r' : List Int), r'.length = row.length ∧ y = (r', T, A, B, ())) := by
 unfold C315 F315
 dsimp only
 simp only [Int.toNat_natCast]
 rw [w64s (n := m - a) (by omega), w64s (n := b - m) (by omega)]
 refine dZ (P := fun y => ∃ (i : Int) (r' : List Int), 0 ≤ i ∧ i ≤ m - a ∧ m + i ≤ n ∧ r'.length = row.length ∧ y = (((o : Int), (n : Int)), m, i, r', T, A, B, ())) ?_ ?_
 · refine dL ?I ?m ?h _ ?hv ?hn
   case I => exact (fun v => ∃ (i : Int) (j : Int) (r' : List Int), 0 < i ∧ 0 < j ∧ i ≤ m - a ∧ j ≤ b - m ∧ r'.length = row.length ∧ v = (((o : Int), (n : Int)), m, i, j, r', T, A, B, ()))
   case m => exact (fun v => (v.2.2.1 + v.2.2.2.1).toNat)
   case hv => exact ⟨m - a, b - m, row, by omega, by omega, Int.le_refl _, Int.le_refl _, rfl, rfl⟩
   case hn => exact (by first | omega | (dsimp only; omega))
   rintro v ⟨i, j, r', h1, h2, h3, h4, h5, rfl⟩
   unfold F315_l0
   dsimp only
   simp only [Int.toNat_natCast]
   rw [w64s (n := m - i) (by omega), w64s (n := i - j) (by omega), w64s (n := j - i) (by omega), w64s (n := m + j) (by omega), w64s (n := m + j - i) (by omega)]
   with_reducible repeat' (first | apply dP | apply dX <;> intro _)
   · refine dZ (d316 o n (m - i) m j r' (by omega) (by omega) hn) ?_
     rintro y ⟨r2, h6, rfl⟩
     dsimp only
     exact dP ⟨⟨_, _, _, by omega, by omega, by omega, by omega, h6.trans h5, rfl⟩, by first | omega | (dsimp only; omega)⟩
   · refine dZ (d316 o n (m - i) (m + j - i) i r' (by omega) (by omega) hn) ?_
     rintro y ⟨r2, h6, rfl⟩
     dsimp only
     exact dP ⟨⟨_, _, _, by omega, by omega, by omega, by omega, h6.trans h5, rfl⟩, by first | omega | (dsimp only; omega)⟩
   · exact ⟨_, _, by omega, by omega, by omega, h5, rfl⟩
 · rintro y ⟨i, r', h1, h2, h3, h4, rfl⟩
   dsimp only
   simp only [Int.toNat_natCast]
   rw [w64s (n := m - i) (by omega)]
   refine dZ (d316 o n (m - i) m i r' (by omega) (by omega) hn) ?_
   rintro y ⟨r2, h6, rfl⟩
   exact dP ⟨_, h6.trans h4, rfl⟩
theorem d311_0 (G : T311) (hA : A.length ≤ 1000000000000) (o n : Nat) (a i j : Int) (row : List Int) (ha : 0 ≤ a ∧ a < n) (hi : 0 ≤ i ∧ i ≤ j) (hj : j ≤ n) (hn : n ≤ 100000000000000) :
 Df (C311_l0 G (((o : Int), (n : Int)), a, i, j, row, T, A, B, ())) (fun y => ∃ (i' : Int), i ≤ i' ∧ i' ≤ j ∧ y = (((o : Int), (n : Int)), a, i', row, T, A, B, ())) := by
 refine dL ?I ?m ?h _ ?hv ?hn
 case I => exact (fun v => ∃ (i' : Int) (j' : Int), i ≤ i' ∧ i' ≤ j' ∧ j' ≤ j ∧ v = (((o : Int), (n : Int)), a, i', j', row, T, A, B, ()))
 case m => exact (fun v => (v.2.2.2.1 - v.2.2.1).toNat)
 case hv => exact ⟨i, j, Int.le_refl _, hi.2, Int.le_refl _, rfl⟩
 case hn => exact (by first | omega | (dsimp only; omega))
 rintro v ⟨i', j', h1, h2, h3, rfl⟩
 unfold F311_l0
 dsimp only
 simp only [Int.toNat_natCast]
 rw [mid2 (by omega) (by omega) (by omega), w64s (n := (i' + j') / 2 + 1) (by omega)]
 with_reducible repeat' (first | apply dP | apply dX <;> intro _)
 · refine dZ (d278 hA _ _) ?_
   rintro ⟨c, t, a', b', u⟩ hc
   simp only [Prod.mk.injEq] at hc
   obtain ⟨rfl, rfl, rfl, -⟩ := hc
   dsimp only
   with_reducible repeat' (first | apply dP | apply dX <;> intro _)
   · exact ⟨⟨_, _, by omega, by omega, by omega, rfl⟩, by first | omega | (dsimp only; omega)⟩
   · exact ⟨⟨_, _, by omega, by omega, by omega, rfl⟩, by first | omega | (dsimp only; omega)⟩
 · refine dO ?_; omega
 · refine dO ?_; omega
 · exact ⟨_, by omega, by omega, rfl⟩
theorem d311_2 (G : T311) (hA : A.length ≤ 1000000000000) (o n : Nat) (a i j : Int) (row : List Int) (ha : 0 ≤ a ∧ a < n) (hi : 0 ≤ i ∧ i ≤ j) (hj : j ≤ n) (hn : n ≤ 100000000000000) :
 Df (C311_l2 G (((o : Int), (n : Int)), a, i, j, row, T, A, B, ())) (fun y => ∃ (i' : Int), i ≤ i' ∧ i' ≤ j ∧ y = (((o : Int), (n : Int)), a, i', row, T, A, B, ())) := by
 refine dL ?I ?m ?h _ ?hv ?hn
 case I => exact (fun v => ∃ (i' : Int) (j' : Int), i ≤ i' ∧ i' ≤ j' ∧ j' ≤ j ∧ v = (((o : Int), (n : Int)), a, i', j', row, T, A, B, ()))
 case m => exact (fun v => (v.2.2.2.1 - v.2.2.1).toNat)
 case hv => exact ⟨i, j, Int.le_refl _, hi.2, Int.le_refl _, rfl⟩
 case hn => exact (by first | omega | (dsimp only; omega))
 rintro v ⟨i', j', h1, h2, h3, rfl⟩
 unfold F311_l2
 dsimp only
 simp only [Int.toNat_natCast]
 rw [mid2 (by omega) (by omega) (by omega), w64s (n := (i' + j') / 2 + 1) (by omega)]
 with_reducible repeat' (first | apply dP | apply dX <;> intro _)
 · refine dZ (d278 hA _ _) ?_
   rintro ⟨c, t, a', b', u⟩ hc
   simp only [Prod.mk.injEq] at hc
   obtain ⟨rfl, rfl, rfl, -⟩ := hc
   dsimp only
   with_reducible repeat' (first | apply dP | apply dX <;> intro _)
   · exact ⟨⟨_, _, by omega, by omega, by omega, rfl⟩, by first | omega | (dsimp only; omega)⟩
   · exact ⟨⟨_, _, by omega, by omega, by omega, rfl⟩, by first | omega | (dsimp only; omega)⟩
 · refine dO ?_; omega
 · refine dO ?_; omega
 · exact ⟨_, by omega, by omega, rfl⟩
theorem d311_1 (G : T311) (o n : Nat) (i k : Int) (row : List Int) (hk : 0 ≤ k) (hi : i ≤ n) (hn : n ≤ 100000000000000) (hi0 : 0 ≤ i) :
 Df (C311_l1 G (((o : Int), (n : Int)), i, k, row, T, A, B, ())) (fun y => ∃ (r' : List Int), r'.length = row.length ∧ y = (r', T, A, B, ())) := by
 refine dL ?I ?m ?h _ ?hv ?hn
 case I => exact (fun v => ∃ (k' : Int) (r' : List Int), 0 ≤ k' ∧ r'.length = row.length ∧ v = (((o : Int), (n : Int)), i, k', r', T, A, B, ()))
 case m => exact (fun v => (i - v.2.2.1).toNat)
 case hv => exact ⟨k, row, hk, rfl, rfl⟩
 case hn => exact (by first | omega | (dsimp only; omega))
 rintro v ⟨k', r', h1, h2, rfl⟩
 unfold F311_l1
 dsimp only
 simp only [Int.toNat_natCast]
 rw [w64s (n := i - 1) (by omega)]
 by_cases hlt : k' < i - 1
 · rw [w64s (n := k' + 1) (by omega)]
   with_reducible repeat' (first | apply dP | apply dX <;> intro _)
   · exact ⟨⟨_, _, by omega, by simp only [List.length_set]; exact h2, rfl⟩, by first | omega | (dsimp only; omega)⟩
   all_goals first | (refine dO ?_; omega) | (exfalso; omega)
 · rw [decide_eq_false hlt]
   exact dP ⟨_, h2, rfl⟩
theorem d311_3 (G : T311) (o n : Nat) (i k : Int) (row : List Int) (hk : k < n) (hi : 0 ≤ i) (hn : n ≤ 100000000000000) :
 Df (C311_l3 G (((o : Int), (n : Int)), i, k, row, T, A, B, ())) (fun y => ∃ (r' : List Int), r'.length = row.length ∧ y = (r', T, A, B, ())) := by
 refine dL ?I ?m ?h _ ?hv ?hn
 case I => exact (fun v => ∃ (k' : Int) (r' : List Int), k' < n ∧ r'.length = row.length ∧ v = (((o : Int), (n : Int)), i, k', r', T, A, B, ()))
 case m => exact (fun v => (v.2.2.1 - i).toNat)
 case hv => exact ⟨k, row, hk, rfl, rfl⟩
 case hn => exact (by first | omega | (dsimp only; omega))
 rintro v ⟨k', r', h1, h2, rfl⟩
 unfold F311_l3
 dsimp only
 simp only [Int.toNat_natCast]
 by_cases hlt : k' > i
 · rw [w64s (n := k' - 1) (by omega)]
   with_reducible repeat' (first | apply dP | apply dX <;> intro _)
   · exact ⟨⟨_, _, by omega, by simp only [List.length_set]; exact h2, rfl⟩, by first | omega | (dsimp only; omega)⟩
   all_goals first | (refine dO ?_; omega) | (exfalso; omega)
 · rw [decide_eq_false hlt]
   exact dP ⟨_, h2, rfl⟩
theorem d311_4 (G : T311) (hA : A.length ≤ 1000000000000) (o n : Nat) (a m b mid s st r p : Int) (row : List Int) (h0 : 0 ≤ st ∧ st ≤ r) (hr : r ≤ n) (hp : 0 ≤ p - r + 1 ∧ p - st < n) (hn : n ≤ 100000000000000) :
 Df (C311_l4 G (((o : Int), (n : Int)), a, m, b, mid, s, st, r, p, row, T, A, B, ())) (fun y => ∃ (st' : Int), st ≤ st' ∧ st' ≤ r ∧ y = (((o : Int), (n : Int)), a, m, b, mid, s, st', row, T, A, B, ())) := by
 refine dL ?I ?m ?h _ ?hv ?hn
 case I => exact (fun v => ∃ (i' : Int) (j' : Int), st ≤ i' ∧ i' ≤ j' ∧ j' ≤ r ∧ v = (((o : Int), (n : Int)), a, m, b, mid, s, i', j', p, row, T, A, B, ()))
 case m => exact (fun v => (v.2.2.2.2.2.2.2.1 - v.2.2.2.2.2.2.1).toNat)
 case hv => exact ⟨st, r, Int.le_refl _, h0.2, Int.le_refl _, rfl⟩
 case hn => exact (by first | omega | (dsimp only; omega))
 rintro v ⟨i', j', h1, h2, h3, rfl⟩
 unfold F311_l4
 dsimp only
 simp only [Int.toNat_natCast]
 rw [mid2 (by omega) (by omega) (by omega)]
 by_cases hlt : i' < j'
 · rw [w64s (n := (i' + j') / 2 + 1) (by omega), w64s (n := p - (i' + j') / 2) (by omega)]
   with_reducible repeat' (first | apply dP | apply dX <;> intro _)
   · refine dZ (d278 hA _ _) ?_
     rintro ⟨c, t, a', b', u⟩ hc
     simp only [Prod.mk.injEq] at hc
     obtain ⟨rfl, rfl, rfl, -⟩ := hc
     dsimp only
     with_reducible repeat' (first | apply dP | apply dX <;> intro _)
     · exact ⟨⟨_, _, by omega, by omega, by omega, rfl⟩, by first | omega | (dsimp only; omega)⟩
     · exact ⟨⟨_, _, by omega, by omega, by omega, rfl⟩, by first | omega | (dsimp only; omega)⟩
   all_goals first | (refine dO ?_; omega) | (exfalso; omega)
 · rw [decide_eq_false hlt]
   exact dP ⟨_, by omega, by omega, rfl⟩
def Mg (T : List R6) (A : List R4) (B : List R3) (G : T311) (o n : Nat) (k : Int) : Prop := ∀ (a m b : Int) (row : List Int), 0 ≤ a → a < m → m < b → b ≤ n → b - a < k →
 Df (G (((o : Int), (n : Int)), a, m, b, row, T, A, B, ())) (fun y => ∃ (r' : List Int), r'.length = row.length ∧ y = (r', T, A, B, ()))
theorem d311_c0 (G : T311) (o n : Nat) (k : Int) (hG : Mg T A B G o n k) (b mid e : Int) (row : List Int) (h : 0 ≤ mid ∧ b ≤ n ∧ b - mid < k) :
 Df (C311_c0 G (((o : Int), (n : Int)), b, mid, e, row, T, A, B, ())) (fun y => ∃ (r' : List Int), r'.length = row.length ∧ y = (r', T, A, B, ())) := by
 show Df (F311_c0 C278 G C315 _) _
 unfold F311_c0
 dsimp only
 simp only [Int.toNat_natCast]
 with_reducible repeat' (first | apply dP | apply dX <;> intro _)
 · refine dZ (hG mid e b row (by omega) (by omega) (by omega) (by omega) (by omega)) ?_
   rintro y ⟨r', h, rfl⟩
   exact dP ⟨_, h, rfl⟩
 · exact ⟨_, rfl, rfl⟩
 · exact ⟨_, rfl, rfl⟩
theorem d311_c1 (G : T311) (o n : Nat) (k : Int) (hG : Mg T A B G o n k) (a b mid st e : Int) (row : List Int) (h0 : 0 ≤ a ∧ mid ≤ n ∧ mid - a < k) (h : 0 ≤ mid ∧ b ≤ n ∧ b - mid < k) :
 Df (C311_c1 G (((o : Int), (n : Int)), a, b, mid, st, e, row, T, A, B, ())) (fun y => ∃ (r' : List Int), r'.length = row.length ∧ y = (r', T, A, B, ())) := by
 show Df (F311_c1 C278 G C315 (C311_c0 G) _) _
 unfold F311_c1
 dsimp only
 simp only [Int.toNat_natCast]
 have fin : ∀ r0 : List Int, r0.length = row.length → Df ((C311_c0 G (((o : Int), (n : Int)), b, mid, e, r0, T, A, B, ())).bind fun val => some (val.fst, val.snd.fst, val.snd.snd.fst, val.snd.snd.snd.fst, ())) (fun y => ∃ (r' : List Int), r'.length = row.length ∧ y = (r', T, A, B, ())) := by
  intro r0 hr
  refine dZ (d311_c0 G o n k hG b mid e r0 h) ?_
  rintro y ⟨r', h, rfl⟩
  exact dP ⟨_, h.trans hr, rfl⟩
 with_reducible repeat' (first | apply dP | apply dX <;> intro _)
 · refine dZ (hG a st mid row (by omega) (by omega) (by omega) (by omega) (by omega)) ?_
   rintro y ⟨r', h, rfl⟩
   exact fin r' h
 · exact fin row rfl
 · exact fin row rfl
theorem d311_c2 (G : T311) (hA : A.length ≤ 1000000000000) (o n : Nat) (k : Int) (hG : Mg T A B G o n k) (a m b mid s st r : Int) (row : List Int) (hn : n ≤ 100000000000000) (hs : s = mid + m) (h0 : 0 ≤ st ∧ st ≤ r) (hr : r ≤ n) (hp : 0 ≤ s - r ∧ s - st ≤ n)
 (ha : 0 ≤ a ∧ mid ≤ n ∧ mid - a < k) (h : 0 ≤ mid ∧ b ≤ n ∧ b - mid < k) (hm : m ≤ n) :
 Df (C311_c2 G (((o : Int), (n : Int)), a, m, b, mid, s, st, r, row, T, A, B, ())) (fun y => ∃ (r' : List Int), r'.length = row.length ∧ y = (r', T, A, B, ())) := by
 show Df (F311_c2 C278 G C315 (C311_c1 G) (C311_l4 G) _) _
 unfold F311_c2
 dsimp only
 simp only [Int.toNat_natCast]
 rw [w64s (n := s - 1) (by omega)]
 refine dZ (d311_4 G hA o n a m b mid s st r (s - 1) row h0 hr (by omega) hn) ?_
 rintro y ⟨st', h1, h2, rfl⟩
 dsimp only
 simp only [Int.toNat_natCast]
 rw [w64s (n := s - st') (by omega)]
 have fin : ∀ r0 : List Int, r0.length = row.length → Df ((C311_c1 G (((o : Int), (n : Int)), a, b, mid, st', s - st', r0, T, A, B, ())).bind fun val => some (val.fst, val.snd.fst, val.snd.snd.fst, val.snd.snd.snd.fst, ())) (fun y => ∃ (r' : List Int), r'.length = row.length ∧ y = (r', T, A, B, ())) := by
  intro r0 hr0
  refine dZ (d311_c1 G o n k hG a b mid st' (s - st') r0 ha h) ?_
  rintro y ⟨r', h, rfl⟩
  exact dP ⟨_, h.trans hr0, rfl⟩
 with_reducible repeat' (first | apply dP | apply dX <;> intro _)
 · refine dZ (d315 o n st' m (s - st') row (by omega) (by omega) hn) ?_
   rintro y ⟨r', h, rfl⟩
   exact fin r' h
 · exact fin row rfl
 · exact fin row rfl
def FF311 (G : T311) : T311 := F311 C278 G C315 (C311_c2 G) (C311_l0 G) (C311_l1 G) (C311_l2 G) (C311_l3 G)
theorem d311r (hA : A.length ≤ 1000000000000) (o n : Nat) (hn : n ≤ 100000000000000) : ∀ k : Nat, Mg T A B (recN FF311 k) o n (k : Int)
 | 0 => fun a m b row h0 h1 h2 h3 h4 => by omega
 | k + 1 => fun a m b row h0 h1 h2 h3 h4 => by
  have hG := d311r hA o n hn k
  show Df (FF311 (recN FF311 k) _) _
  generalize recN FF311 k = G at hG ⊢
  show Df (F311 C278 G C315 (C311_c2 G) (C311_l0 G) (C311_l1 G) (C311_l2 G) (C311_l3 G) _) _
  unfold F311
  dsimp only
  simp only [Int.toNat_natCast]
  rw [w64s (n := m - a) (by omega), w64s (n := b - m) (by omega), mid2 (by omega) (by omega) (by omega), w64s (n := (a + b) / 2 + m) (by omega), w64s (n := (a + b) / 2 + m - b) (by omega)]
  have fin : ∀ {x : Option (List Int × List R6 × List R4 × List R3 × Unit)}, Df x (fun y => ∃ (r' : List Int), r'.length = row.length ∧ y = (r', T, A, B, ())) → Df (x.bind fun val => some (val.fst, val.snd.fst, val.snd.snd.fst, val.snd.snd.snd.fst, ())) (fun y => ∃ (r' : List Int), r'.length = row.length ∧ y = (r', T, A, B, ())) := by
   intro x hx
   refine dZ hx ?_
   rintro y ⟨r', h, rfl⟩
   exact dP ⟨_, h, rfl⟩
  with_reducible repeat' (first | apply dP | apply dX <;> intro _)
  · refine dZ (d311_0 G hA o n a m b row (by omega) (by omega) (by omega) hn) ?_
    rintro y ⟨i', h5, h6, rfl⟩
    dsimp only
    simp only [Int.toNat_natCast]
    exact fin (d311_1 G o n i' a row (by omega) (by omega) hn (by omega))
  · refine dZ (d311_2 G hA o n m a m row (by omega) (by omega) (by omega) hn) ?_
    rintro y ⟨i', h5, h6, rfl⟩
    dsimp only
    simp only [Int.toNat_natCast]
    exact fin (d311_3 G o n i' m row (by omega) (by omega) hn)
  · exact fin (d311_c2 G hA o n k hG a m b ((a + b) / 2) ((a + b) / 2 + m) ((a + b) / 2 + m - b) ((a + b) / 2) row hn rfl (by omega) (by omega) (by omega) (by omega) (by omega) (by omega))
  · exact fin (d311_c2 G hA o n k hG a m b ((a + b) / 2) ((a + b) / 2 + m) a m row hn rfl (by omega) (by omega) (by omega) (by omega) (by omega) (by omega))
theorem d311 (hA : A.length ≤ 1000000000000) (o n : Nat) (hn : n ≤ 100000000000000) (a m b : Int) (row : List Int) (h0 : 0 ≤ a) (h1 : a < m) (h2 : m < b) (h3 : b ≤ n) :
 Df (C311 (((o : Int), (n : Int)), a, m, b, row, T, A, B, ())) (fun y => ∃ (r' : List Int), r'.length = row.length ∧ y = (r', T, A, B, ())) := by
 show Df (recN FF311 big _) _
 exact d311r hA o n hn big a m b row h0 h1 h2 h3 (by unfold big; omega)
theorem d299_0 (hA : A.length ≤ 1000000000000) (o n : Nat) (hn : n ≤ 100000000000000) (row : List Int) :
 Df (C299_l0 (((o : Int), (n : Int)), (n : Int), 20, 0, 20, row, T, A, B, ())) (fun y => ∃ (a : Int) (r' : List Int), 0 ≤ a ∧ a ≤ n ∧ r'.length = row.length ∧ y = (((o : Int), (n : Int)), (n : Int), 20, a, r', T, A, B, ())) := by
 refine dL ?I ?m ?h _ ?hv ?hn
 case I => exact (fun v => ∃ (a : Int) (r' : List Int), 0 ≤ a ∧ a ≤ n ∧ r'.length = row.length ∧ v = (((o : Int), (n : Int)), (n : Int), 20, a, a + 20, r', T, A, B, ()))
 case m => exact (fun v => (n - v.2.2.2.1).toNat)
 case hv => exact ⟨0, row, Int.le_refl _, by omega, rfl, rfl⟩
 case hn => exact (by first | omega | (dsimp only; omega))
 rintro v ⟨a, r', h1, h2, h3, rfl⟩
 unfold F299_l0
 dsimp only
 simp only [Int.toNat_natCast]
 rw [w64s (n := a + 20 + 20) (by omega)]
 with_reducible repeat' (first | apply dP | apply dX <;> intro _)
 · refine dZ (d310 hA o n a (a + 20) r' (by omega) (by omega) hn) ?_
   rintro y ⟨r2, h4, rfl⟩
   exact dP ⟨⟨a + 20, r2, by omega, by omega, h4.trans h3, rfl⟩, by first | omega | (dsimp only; omega)⟩
 · exact ⟨_, _, h1, h2, h3, rfl⟩
theorem d299_1 (hA : A.length ≤ 1000000000000) (o n : Nat) (hn : n ≤ 100000000000000) (bs : Int) (hbs : 1 ≤ bs ∧ bs ≤ n) (row : List Int) :
 Df (C299_l1 (((o : Int), (n : Int)), (n : Int), bs, 0, 2 * bs, row, T, A, B, ())) (fun y => ∃ (a : Int) (r' : List Int), 0 ≤ a ∧ a ≤ n ∧ r'.length = row.length ∧ y = (((o : Int), (n : Int)), (n : Int), bs, a, r', T, A, B, ())) := by
 refine dL ?I ?m ?h _ ?hv ?hn
 case I => exact (fun v => ∃ (a : Int) (r' : List Int), 0 ≤ a ∧ a ≤ n ∧ r'.length = row.length ∧ v = (((o : Int), (n : Int)), (n : Int), bs, a, a + 2 * bs, r', T, A, B, ()))
 case m => exact (fun v => (n - v.2.2.2.1).toNat)
 case hv => exact ⟨0, row, Int.le_refl _, by omega, rfl, by rw [Int.zero_add]⟩
 case hn => exact (by first | omega | (dsimp only; omega))
 rintro v ⟨a, r', h1, h2, h3, rfl⟩
 unfold F299_l1
 dsimp only
 simp only [Int.toNat_natCast]
 rw [w64s (n := 2 * bs) (by omega), w64s (n := a + bs) (by omega), w64s (n := a + 2 * bs + 2 * bs) (by omega)]
 with_reducible repeat' (first | apply dP | apply dX <;> intro _)
 · refine dZ (d311 hA o n hn a (a + bs) (a + 2 * bs) r' (by omega) (by omega) (by omega) (by omega)) ?_
   rintro y ⟨r2, h4, rfl⟩
   exact dP ⟨⟨a + 2 * bs, r2, by omega, by omega, h4.trans h3, rfl⟩, by first | omega | (dsimp only; omega)⟩
 · exact ⟨_, _, h1, h2, h3, rfl⟩
theorem d299 (hA : A.length ≤ 1000000000000) (o n : Nat) (hn : n ≤ 100000000000000) (row : List Int) :
 Df (C299 (((o : Int), (n : Int)), (n : Int), row, T, A, B, ())) (fun y => ∃ (r' : List Int), r'.length = row.length ∧ y = (r', T, A, B, ())) := by
 unfold C299 F299
 dsimp only
 simp only [Int.toNat_natCast]
 refine dZ (d299_0 hA o n hn row) ?_
 rintro y ⟨a, r1, h1, h2, h3, rfl⟩
 dsimp only
 simp only [Int.toNat_natCast]
 refine dZ (d310 hA o n a n r1 (by omega) (by omega) hn) ?_
 rintro y ⟨r2, h4, rfl⟩
 dsimp only
 refine dZ (P := fun y => ∃ (r' : List Int), r'.length = row.length ∧ y = (r', T, A, B, ())) ?_ ?_
 · refine dL ?I ?m ?h _ ?hv ?hn
   case I => exact (fun v => ∃ (bs : Int) (r' : List Int), 1 ≤ bs ∧ bs ≤ 400000000000000 ∧ r'.length = row.length ∧ v = (((o : Int), (n : Int)), (n : Int), bs, r', T, A, B, ()))
   case m => exact (fun v => (n - v.2.2.1).toNat)
   case hv => exact ⟨20, r2, by omega, by omega, h4.trans h3, rfl⟩
   case hn => exact (by first | omega | (dsimp only; omega))
   rintro v ⟨bs, r', h5, h6, h7, rfl⟩
   unfold F299_l2
   dsimp only
   simp only [Int.toNat_natCast]
   rw [w64s (n := 2 * bs) (by omega)]
   with_reducible repeat' (first | apply dP | apply dX <;> intro _)
   · refine dZ (d299_1 hA o n hn bs (by omega) r') ?_
     rintro y ⟨a, r3, h8, h9, h10, rfl⟩
     dsimp only
     simp only [Int.toNat_natCast]
     rw [w64s (n := a + bs) (by omega), w64s (n := bs * 2) (by omega)]
     with_reducible repeat' (first | apply dP | apply dX <;> intro _)
     · refine dZ (d311 hA o n hn a (a + bs) n r3 (by omega) (by omega) (by omega) (by omega)) ?_
       rintro y ⟨r4, h11, rfl⟩
       exact dP ⟨⟨_, _, by omega, by omega, (h11.trans h10).trans h7, rfl⟩, by first | omega | (dsimp only; omega)⟩
     · exact ⟨⟨_, _, by omega, by omega, h10.trans h7, rfl⟩, by first | omega | (dsimp only; omega)⟩
   · exact ⟨_, h7, rfl⟩
 · rintro y ⟨r', h, rfl⟩
   exact dP ⟨_, h, rfl⟩
theorem d277 (hA : A.length ≤ 1000000000000) (o n : Nat) (hn : n ≤ 100000000000000) (row : List Int) :
 Df (C277 (((o : Int), (n : Int)), row, T, A, B, ())) (fun y => ∃ (r' : List Int), r'.length = row.length ∧ y = (r', T, A, B, ())) := by
 unfold C277 F277
 dsimp only
 simp only [Int.toNat_natCast]
 refine dZ (d299 hA o n hn row) ?_
 rintro y ⟨r', h, rfl⟩
 exact dP ⟨_, h, rfl⟩
theorem d239_0 (hA : A.length ≤ 1000000000000) (f k : Int) (row : List Int) (hf : 0 ≤ f ∧ f ≤ k) (hk : k ≤ row.length) (hn : row.length ≤ 35184372088832) :
 Df (C239_c0 (f, k, T, A, B, row, ())) (fun y => ∃ (r' : List Int), r'.length = row.length ∧ y = (k + 1, k, T, A, B, r', ())) := by
 unfold C239_c0 F239_c0
 dsimp only
 rw [w64s (n := k + 1) (by omega)]
 with_reducible repeat' (first | apply dP | apply dX <;> intro _)
 · refine dZ (d277 hA f.toNat (k.toNat - f.toNat) (by omega) row) ?_
   rintro y ⟨r', h, rfl⟩
   exact dP ⟨_, h, rfl⟩
 · refine dO ?_; omega
 · refine dO ?_; omega
theorem d239 (hA : A.length ≤ 1000000000000) (l : List Int) (hl : l.length ≤ 35184372088832) : Df (C239 (T, A, B, l, ())) (fun y => y.1.length = l.length) := by
 unfold C239 F239
 dsimp only
 refine dZ (P := fun y => y.1 = l) ?_ ?_
 · unfold C275
   dsimp only
   with_reducible repeat' (first | apply dP | apply dX <;> intro _)
   · rfl
   · refine dO ?_; omega
 rintro ⟨l', u⟩ hl'
 dsimp only at hl' ⊢
 subst hl'
 refine dZ (P := fun y => y.1.length = l'.length) ?_ (fun _ h => dP h)
 refine dL ?I ?m ?h _ ?hv ?hn
 case I => exact (fun v => ∃ (f : Int) (k : Int) (r' : List Int), 0 ≤ f ∧ f ≤ k ∧ k ≤ l'.length + 1 ∧ r'.length = l'.length ∧ v = (f, k, T, A, B, r', ()))
 case m => exact (fun v => (l'.length + 1 - v.2.1).toNat)
 case hv => exact ⟨0, 0, l', Int.le_refl _, Int.le_refl _, by omega, rfl, rfl⟩
 case hn => exact (by first | omega | (dsimp only; omega))
 rintro v ⟨f, k, r', h1, h2, h3, h4, rfl⟩
 unfold F239_l0
 dsimp only
 rw [w64s (n := k + 1) (by omega)]
 have fin : k ≤ r'.length → Df ((C239_c0 (f, k, T, A, B, r', ())).bind fun val => some (Sum.inl (val.fst, IntKind.i64.wrap (val.snd.fst + 1), val.snd.snd.fst, val.snd.snd.snd.fst, val.snd.snd.snd.snd.fst, val.snd.snd.snd.snd.snd.fst, ())))
  (Sum.elim (fun v' : Int × Int × List R6 × List R4 × List R3 × List Int × Unit => (∃ (f : Int) (k : Int) (r' : List Int), 0 ≤ f ∧ f ≤ k ∧ k ≤ l'.length + 1 ∧ r'.length = l'.length ∧ v' = (f, k, T, A, B, r', ())) ∧ (l'.length + 1 - v'.2.1).toNat < (l'.length + 1 - k).toNat) (fun y : List Int × Unit => y.1.length = l'.length)) := by
  intro hk
  refine dZ (d239_0 hA f k r' (by omega) hk (by omega)) ?_
  rintro y ⟨r2, h5, rfl⟩
  dsimp only
  rw [w64s (n := k + 1) (by omega)]
  exact dP ⟨⟨_, _, _, by omega, by omega, by omega, h5.trans h4, rfl⟩, by first | omega | (dsimp only; omega)⟩
 with_reducible repeat' (first | apply dP | apply dX <;> intro _)
 · refine dZ (d276 T A B _ hA) ?_
   rintro ⟨c, u⟩ -
   dsimp only
   with_reducible repeat' (first | apply dP | apply dX <;> intro _)
   · exact ⟨⟨_, _, _, by omega, by omega, by omega, h4, rfl⟩, by first | omega | (dsimp only; omega)⟩
   · exact fin (by omega)
 · refine dO ?_; omega
 · exact fin (by omega)
 · exact h4
end
section
variable {T : List R6} {A : List R4} {B : List R3}
theorem endF_total (f : Int → Option Int) (h : ∀ x, ∃ y, f x = some y) : ∀ l : List (Int × Int), ∃ y, endF f l = some y
 | [] => ⟨0, rfl⟩
 | x :: l => by
  obtain ⟨b, hb⟩ := h x.2
  simp only [endF, hb, Option.bind_some]
  cases (b != 6) with
  | true => exact ⟨b, rfl⟩
  | false => exact endF_total f h l
theorem d186 (h : TK T A B) (l : List Int) (hl : l.length ≤ 1000000000000) : Df (C186 (T, A, B, l, ())) (fun _ => True) := by
 unfold C186
 dsimp only
 rw [decide_eq_true hl]
 obtain ⟨y, hy⟩ := endF_total (fun x => (C218 (T, A, B, x, ())).map fun r => r.1) (fun x => by
  obtain ⟨y, e, -⟩ := d218 T A B x h.t
  exact ⟨y.1, by simp only [e, Option.map_some]⟩) (bk l)
 exact ⟨(y, ()), by simp only [cond_true, hy, Option.map_some], trivial⟩
theorem d154 (h : TK T A B) (l : List Int) (hl : l.length ≤ 1000000000000) : Df (C154 (T, A, B, l, ())) (fun _ => True) := by
 unfold C154 F154
 dsimp only
 refine dZ (d185 h l hl) ?_
 rintro ⟨z0, z1, z2, z3, z4, z5, z6, z7, u⟩ -
 refine dZ (d186 h l hl) ?_
 rintro ⟨e, u⟩ -
 refine dZ (d187 h l) ?_
 rintro ⟨s, u⟩ -
 dsimp only
 with_reducible repeat' (first | apply dP | apply dX <;> intro _)
 · exact dZ (d154_1 _ _ _ rfl) fun _ _ => dP trivial
 · exact dZ (d154_1 _ _ _ rfl) fun _ _ => dP trivial
 · refine dZ (d153 h l hl) ?_
   rintro ⟨b, u⟩ -
   dsimp only
   with_reducible repeat' (first | apply dP | apply dX <;> intro _)
   all_goals trivial
 · trivial
theorem d262 (h : TK T A B) (l : List Int) (hl : l.length ≤ 1000000000000) : Df (C262 (T, A, B, l, ())) (fun y => y.2 = (T, A, B, l, ())) := by
 unfold C262 F262
 dsimp only
 refine dZ (d153 h l hl) ?_
 rintro ⟨b, u⟩ -
 dsimp only
 with_reducible repeat' (first | apply dP | apply dX <;> intro _)
 · exact dZ (d154 h l hl) fun _ _ => dP rfl
 · rfl
theorem d213 (h : TK T A B) (s : List UInt8) (a b : Bool) (hs : s.length ≤ 100000000000) : Df (C213 (T, A, B, s, a, b, ())) (fun y => y.1.length ≤ 384 * s.length) := by
 unfold C213 F213
 dsimp only
 refine dZ (d83 s (by omega)) ?_
 rintro ⟨l, at_, u⟩ hl
 dsimp only at hl ⊢
 with_reducible repeat' (first | apply dP | apply dX <;> intro _)
 · exact (by simp : ([] : List UInt8).length ≤ 384 * s.length)
 · refine dZ (d240 T A B l a (by omega)) ?_
   rintro ⟨l2, u⟩ h2
   dsimp only at h2 ⊢
   refine dZ (d239 h.a l2 (by omega)) ?_
   rintro ⟨l3, u⟩ h3
   dsimp only at h3 ⊢
   with_reducible repeat' (first | apply dP | apply dX <;> intro _)
   · refine dZ (d241 T A B l3 (by omega) h.a) ?_
     rintro ⟨l4, u⟩ h4
     dsimp only at h4 ⊢
     refine dZ (d178 l4 (by omega)) ?_
     rintro ⟨s5, b5, u⟩ h5
     exact dP (by dsimp only at h5 ⊢; omega)
   · refine dZ (d178 l3 (by omega)) ?_
     rintro ⟨s5, b5, u⟩ h5
     exact dP (by dsimp only at h5 ⊢; omega)
theorem d181 (h : TK T A B) (s : List UInt8) (hs : s.length ≤ 100000000000) : Df (C181 (T, A, B, s, ())) (fun y => y.1.length ≤ 384 * s.length) := by
 unfold C181 F181
 dsimp only
 refine dZ (d213 h s false true hs) ?_
 rintro ⟨x, b, u⟩ hx
 exact dP hx
theorem d151 (h : TK T A B) (s : List UInt8) (hs : s.length ≤ 10000000000) : Df (C151 (T, A, B, s, ())) (fun y => y.1.length ≤ 1536 * s.length) := by
 unfold C151 F151
 dsimp only
 refine dZ (d83 s (by omega)) ?_
 rintro ⟨l, at_, u⟩ hl
 dsimp only at hl ⊢
 with_reducible repeat' (first | apply dP | apply dX <;> intro _)
 · exact (by simp : ([] : List UInt8).length ≤ 1536 * s.length)
 · refine dZ (d180 T A B l (by omega)) ?_
   rintro ⟨l2, u⟩ h2
   dsimp only at h2 ⊢
   refine dZ (d179 T A B h.b l2 (by omega)) ?_
   rintro ⟨l3, u⟩ h3
   dsimp only at h3 ⊢
   refine dZ (d178 l3 (by omega)) ?_
   rintro ⟨s4, b4, u⟩ h4
   dsimp only at h4 ⊢
   refine dZ (d181 h s4 (by omega)) ?_
   rintro ⟨s5, b5, u⟩ h5
   exact dP (by dsimp only at h5 ⊢; omega)
theorem d131 (a b : List UInt8) : Df (C131 (a, b, ())) (fun y => y.1 = true → b.length ≤ a.length) := by
 unfold C131 F131
 dsimp only
 with_reducible repeat' (first | apply dP | apply dX <;> intro _)
 · intro _; dsimp only at *; omega
 · refine dO ?_; omega
 · intro h; cases h
theorem d166 (a b : List UInt8) : Df (C166 (a, b, ())) (fun y => y.1.length ≤ a.length) := by
 unfold C166 F166
 dsimp only
 refine dZ (d131 a b) ?_
 rintro ⟨x, u⟩ hx
 dsimp only at hx ⊢
 with_reducible repeat' (first | apply dP | apply dX <;> intro _)
 · exact Nat.le_refl _
 · exact (by simp : (List.drop _ a).length ≤ a.length)
 · rename_i h1 h2
   have := hx h1
   refine dO ?_; omega
theorem d132 (a b : List UInt8) : Df (C132 (a, b, ())) (fun y => y.1.length ≤ a.length) := by
 unfold C132 F132
 dsimp only
 refine dZ (d166 a b) ?_
 rintro ⟨x, b, u⟩ hx
 exact dP hx
theorem d96 (a b : List UInt8) : Df (C96 (a, b, ())) (fun _ => True) := by
 unfold C96 F96
 dsimp only
 exact dZ (d131 a b) fun _ _ => dP trivial
theorem d308 (a b : List UInt8) (ha : a.length ≤ 1000000000000000) (hb : b.length ≤ 1000000000000000) : Df (C308 (a, b, ())) (fun _ => True) := by
 unfold C308 F308
 dsimp only
 rw [w64s (n := (a.length : Int) - (b.length : Int)) (by omega)]
 with_reducible repeat' (first | apply dP | apply dX <;> intro _)
 · trivial
 · refine dO ?_; omega
 · trivial
theorem d292 (a b : List UInt8) (ha : a.length ≤ 1000000000000000) (hb : b.length ≤ 1000000000000000) : Df (C292 (a, b, ())) (fun _ => True) := by
 unfold C292 F292
 dsimp only
 exact dZ (d308 a b ha hb) fun _ _ => dP trivial
theorem d258 (a : List UInt8) (ha : a.length ≤ 1000000000000000) : Df (C258 (a, ())) (fun _ => True) := by
 unfold C258 F258
 dsimp only
 refine dZ (d96 _ _) ?_
 rintro ⟨x, u⟩ -
 dsimp only
 with_reducible repeat' (first | apply dP | apply dX <;> intro _)
 · trivial
 · refine dZ (d292 _ _ ha (by simp)) ?_
   rintro ⟨x, u⟩ -
   dsimp only
   with_reducible repeat' (first | apply dP | apply dX <;> intro _)
   · trivial
   · trivial
   · refine dO ?_; omega
   · trivial
theorem d257 (a : List UInt8) (ha : a.length ≤ 1000000000000000) : Df (C257 (a, ())) (fun y => y.2.1 = a) := by
 unfold C257 F257
 dsimp only
 exact dZ (d258 a ha) fun _ _ => dP rfl
theorem d256 (h : TK T A B) (s : List UInt8) (hs : s.length ≤ 100000000000) : Df (C256 (T, A, B, s, ())) (fun _ => True) := by
 unfold C256 F256
 dsimp only
 refine dZ (d181 h s hs) ?_
 rintro ⟨x, b, u⟩ -
 dsimp only
 with_reducible repeat' (first | apply dP | apply dX <;> intro _)
 all_goals trivial
theorem d255 (h : TK T A B) (s : List UInt8) (hs : s.length ≤ 100000000000) : Df (C255 (s, T, A, B, ())) (fun y => y.2 = (s, T, A, B, ()) ∧ (y.1 = false → 0 < s.length)) := by
 unfold C255 F255
 dsimp only
 refine dZ (d21 s (by omega)) ?_
 rintro ⟨x, u⟩ hx
 dsimp only at hx ⊢
 with_reducible repeat' (first | apply dP | apply dX <;> intro _)
 · exact ⟨rfl, fun h => by cases h⟩
 · refine dZ (d256 h s hs) ?_
   rintro ⟨x, u⟩ -
   exact dP ⟨rfl, fun _ => by omega⟩
theorem d259 (h : TK T A B) (l : List Int) (hl : 0 < l.length) : Df (C259 (T, A, B, l, ())) (fun y => y.2 = (T, A, B, l, ())) := by
 unfold C259 F259
 dsimp only
 with_reducible repeat' (first | apply dP | apply dX <;> intro _)
 · exact dZ (d215 T A B _ h.t) fun _ _ => dP rfl
 · refine dO ?_; omega
theorem d254 (a : Int) : Df (C254 (a, ())) (fun y => y.2.1 = a ∧ (y.1 = false → a < 0)) := by
 unfold C254 F254
 dsimp only
 refine dP ⟨rfl, fun h => ?_⟩
 dsimp only at h
 simp only [decide_eq_false_iff_not] at h
 omega
theorem d263 (l : List Int) (a : List UInt8) (b : Bool) (hl : l.length ≤ 1000000000000) : Df (C263 (l, a, b, ())) (fun y => y.2.1 = l) := by
 unfold C263 F263
 dsimp only
 exact dZ (d223 l hl) fun _ _ => dP rfl
theorem d264 (a : List UInt8) : Df (C264 (a, ())) (fun _ => True) := by
 unfold C264 F264
 dsimp only
 exact dP trivial
theorem d253 (h : TK T A B) (a0 a1 a2 a3 a4 a5 a6 a7 : Int) (at_ : Int) (s : List UInt8) (l : List Int) (c : List UInt8) (d : Bool) (hs : s.length ≤ 100000000000) (hl : l.length ≤ 100000000000) (h0 : at_ < 0 → 0 < s.length → 0 < l.length) :
 Df (C253 (a0, a1, a2, a3, a4, a5, a6, a7, at_, s, T, A, B, l, c, d, ())) (fun _ => True) := by
 unfold C253 F253
 dsimp only
 refine dZ (d254 at_) ?_
 rintro ⟨b, at', u⟩ hb
 dsimp only at hb ⊢
 obtain ⟨rfl, hb⟩ := hb
 with_reducible repeat' (first | apply dP | apply dX <;> intro _)
 · trivial
 · rename_i h1
   refine dZ (d255 h s hs) ?_
   rintro ⟨b2, y⟩ ⟨hy, h2⟩
   dsimp only at hy h2
   subst hy
   dsimp only
   with_reducible repeat' (first | apply dP | apply dX <;> intro _)
   · trivial
   · rename_i h3
     refine dZ (d257 s (by omega)) ?_
     rintro ⟨b3, s', u⟩ hs'
     dsimp only at hs' ⊢
     with_reducible repeat' (first | apply dP | apply dX <;> intro _)
     · trivial
     · refine dZ (d259 h l (h0 (hb h1) (h2 h3))) ?_
       rintro ⟨b4, y⟩ hy
       dsimp only at hy
       subst hy
       dsimp only
       with_reducible repeat' (first | apply dP | apply dX <;> intro _)
       · trivial
       · refine dZ (d260 h l (by omega)) ?_
         rintro ⟨b5, y⟩ hy
         dsimp only at hy
         subst hy
         dsimp only
         with_reducible repeat' (first | apply dP | apply dX <;> intro _)
         · trivial
         · refine dZ (d262 h l (by omega)) ?_
           rintro ⟨b6, y⟩ hy
           dsimp only at hy
           subst hy
           dsimp only
           with_reducible repeat' (first | apply dP | apply dX <;> intro _)
           · trivial
           · refine dZ (d263 l c d (by omega)) ?_
             rintro ⟨b7, l', c', d', u⟩ -
             dsimp only
             with_reducible repeat' (first | apply dP | apply dX <;> intro _)
             · trivial
             · refine dZ (d264 _) ?_
               rintro ⟨b8, c8, u⟩ -
               dsimp only
               with_reducible repeat' (first | apply dP | apply dX <;> intro _)
               all_goals trivial
theorem d224 (h : TK T A B) (s : List UInt8) (hs : s.length ≤ 100000000000) : Df (C224 (T, A, B, s, ())) (fun _ => True) := by
 unfold C224 F224
 dsimp only
 refine dZ (d83 s (by omega)) ?_
 rintro ⟨l, at_, u⟩ hl
 dsimp only at hl ⊢
 refine dZ (d253 h _ _ _ _ _ _ _ _ at_ s l _ _ hs (by omega) hl.2.2) ?_
 rintro ⟨e, y⟩ -
 exact dP trivial
theorem d268_0 (a : Int) (b : Bool) : Df (C268_c0 (a, b, ())) (fun _ => True) := by
 unfold C268_c0 F268_c0
 dsimp only
 with_reducible repeat' (first | apply dP | apply dX <;> intro _)
 all_goals trivial
theorem d268_1 (a : Int) (b : Bool) : Df (C268_c1 (a, b, ())) (fun _ => True) := by
 unfold C268_c1 F268_c1
 dsimp only
 with_reducible repeat' (first | apply dP | apply dX <;> intro _)
 all_goals first | trivial | exact dZ (d268_0 _ _) fun _ _ => dP trivial
theorem d268 (a : Int) : Df (C268 (a, ())) (fun _ => True) := by
 unfold C268 F268
 dsimp only
 with_reducible repeat' (first | apply dP | apply dX <;> intro _)
 all_goals (refine dZ (d268_1 _ _) ?_; rintro ⟨x, u⟩ -; dsimp only; (repeat' (first | with_reducible apply dP | (with_reducible apply dB <;> intro _))); all_goals trivial)
theorem d156 (s : List UInt8) (b : Bool) (hs : s.length ≤ 1000000000000000) : Df (C156 (s, b, ())) (fun _ => True) := by
 unfold C156 F156
 dsimp only
 refine dZ (P := fun _ => True) ?_ (fun z _ => by cases z <;> exact dP trivial)
 refine dL ?I ?m ?h _ ?hv ?hn
 case I => exact (fun v => v.2.1.1 = s ∧ 0 ≤ v.2.1.2)
 case m => exact (fun v => s.length - v.2.1.2.toNat)
 case hv => exact ⟨rfl, Int.le_refl _⟩
 case hn => exact (by first | omega | (dsimp only; omega))
 · rintro ⟨x0, ⟨x1, p⟩, u⟩ hI
   dsimp only at hI
   obtain ⟨rfl, h0⟩ := hI
   unfold F156_l0
   dsimp only
   with_reducible repeat' (first | apply dP | apply dX <;> intro _)
   · refine dZ (d268 _) ?_
     rintro ⟨x, u⟩ -
     dsimp only
     have := decR_pos x1 p.toNat
     with_reducible repeat' (first | apply dP | apply dX <;> intro _)
     · trivial
     · exact ⟨⟨rfl, by first | omega | (dsimp only; omega)⟩, by first | omega | (dsimp only; omega)⟩
   · trivial
end
section
variable {T : List R6} {A : List R4} {B : List R3}
theorem d84 (s : List UInt8) (hs : s.length ≤ 1000000000000000) : Df (C84 (s, ())) (fun _ => True) := by
 unfold C84 F84
 dsimp only
 refine dZ (P := fun _ => True) ?_ (fun _ _ => dP trivial)
 unfold C123 F123
 dsimp only
 exact dZ (d156 s true hs) fun _ _ => dP trivial
theorem d225 (s : List UInt8) (hs : s.length ≤ 1000000000000000) : Df (C225 (s, ())) (fun _ => True) := by
 unfold C225 F225
 dsimp only
 refine dZ (P := fun _ => True) ?_ (fun _ _ => dP trivial)
 unfold C253v1 F253v1
 dsimp only
 refine dZ (P := fun y => y.2.1 = s) (dP rfl) ?_
 rintro ⟨b, s1, u⟩ h1
 dsimp only at h1 ⊢
 subst h1
 with_reducible repeat' (first | apply dP | apply dX <;> intro _)
 · trivial
 · refine dZ (P := fun y => y.2.1 = s1) (dP rfl) ?_
   rintro ⟨b, s2, u⟩ h2
   dsimp only at h2 ⊢
   subst h2
   with_reducible repeat' (first | apply dP | apply dX <;> intro _)
   · trivial
   · refine dZ (P := fun y => y.2.1 = s2) ?_ ?_
     · unfold C267 F267
       dsimp only
       exact dZ (d84 s2 hs) fun _ _ => dP rfl
     rintro ⟨b, s3, u⟩ h3
     dsimp only at h3 ⊢
     subst h3
     with_reducible repeat' (first | apply dP | apply dX <;> intro _)
     · trivial
     · refine dZ (P := fun _ => True) ?_ ?_
       · unfold C269 F269
         dsimp only
         exact dZ (d258 s3 hs) fun _ _ => dP trivial
       rintro ⟨b, s4, u⟩ -
       dsimp only
       with_reducible repeat' (first | apply dP | apply dX <;> intro _)
       all_goals trivial
theorem wu8' (n : Int) : IntKind.u8.wrap n = n % 256 := by simp [IntKind.wrap, IntKind.bits, IntKind.signed]
theorem d294_0 (x : Int) (b : Bool) (hb : b = true → 65 ≤ x ∧ x ≤ 90) : Df (C294_c0 (x, b, ())) (Sum.elim (fun y => 0 ≤ y.1 ∧ y.1 ≤ 35) (fun _ => True)) := by
 unfold C294_c0 F294_c0
 dsimp only
 with_reducible repeat' (first | apply dP | apply dX <;> intro _)
 · rename_i h1
   have := hb h1
   rw [wu8', w64']
   exact ⟨by first | omega | (dsimp only; omega), by first | omega | (dsimp only; omega)⟩
 · rw [wu8', w64']
   exact ⟨by first | omega | (dsimp only; omega), by first | omega | (dsimp only; omega)⟩
 all_goals trivial
theorem d294_1 (x : Int) (b : Bool) (hb : b = true → 48 ≤ x ∧ x ≤ 57) : Df (C294_c1 (x, b, ())) (Sum.elim (fun y => 0 ≤ y.1 ∧ y.1 ≤ 35) (fun _ => True)) := by
 unfold C294_c1 F294_c1
 dsimp only
 with_reducible repeat' (first | apply dP | apply dX <;> intro _)
 · rename_i h1
   have := hb h1
   rw [wu8', w64', w64']
   exact ⟨by first | omega | (dsimp only; omega), by first | omega | (dsimp only; omega)⟩
 · refine dZ (d294_0 x _ (fun h => by simp only [decide_eq_true_eq] at h; omega)) ?_
   intro z hz
   exact dS hz (fun a ha => dP ha) (fun _ _ => dP trivial)
 · refine dZ (d294_0 x _ (fun h => by cases h)) ?_
   intro z hz
   exact dS hz (fun a ha => dP ha) (fun _ _ => dP trivial)
theorem d294 (x : Int) : Df (C294 (x, ())) (fun y => y.2.1 = true → 0 ≤ y.1 ∧ y.1 ≤ 35) := by
 unfold C294 F294
 dsimp only
 with_reducible repeat' (first | apply dP | apply dX <;> intro _)
 · refine dZ (d294_1 x _ (fun h => by simp only [decide_eq_true_eq] at h; omega)) ?_
   intro z hz
   exact dS hz (fun a ha => dP fun _ => ha) (fun _ _ => dP fun h => by cases h)
 · refine dZ (d294_1 x _ (fun h => by cases h)) ?_
   intro z hz
   exact dS hz (fun a ha => dP fun _ => ha) (fun _ _ => dP fun h => by cases h)
theorem d271_l (s : List UInt8) (b : Int) (hs : s.length ≤ 1000000000000) : Df (C271_l0 (s, b, 0, 1, (s.length : Int), 0, ())) (Sum.elim (fun _ => True) (Sum.elim (fun _ => True) (fun y => 0 ≤ y.1 ∧ y.1 ≤ 2147483647 ∧ y.2.1.length < s.length))) := by
 refine dL ?I ?m ?h _ ?hv ?hn
 case I => exact (fun v => v.1 = s ∧ 0 ≤ v.2.2.1 ∧ v.2.2.1 ≤ 2147483647 ∧ 0 ≤ v.2.2.2.1 ∧ v.2.2.2.1 ≤ 75161927645 ∧ v.2.2.2.2.1 = s.length ∧ 0 ≤ v.2.2.2.2.2.1 ∧ v.2.2.2.2.2.1 ≤ s.length)
 case m => exact (fun v => (s.length - v.2.2.2.2.2.1).toNat)
 case hv => exact ⟨rfl, by first | omega | (dsimp only; omega), by first | omega | (dsimp only; omega), by first | omega | (dsimp only; omega), by first | omega | (dsimp only; omega), rfl, by first | omega | (dsimp only; omega), by first | omega | (dsimp only; omega)⟩
 case hn => exact (by first | omega | (dsimp only; omega))
 rintro ⟨x0, x1, x2, x3, x4, x5, u⟩ hI
 dsimp only at hI
 obtain ⟨rfl, h0, h1, h2, h3, rfl, h4, h5⟩ := hI
 unfold F271_l0
 dsimp only
 with_reducible repeat' (first | apply dP | apply dX <;> intro _)
 · refine dZ (d294 _) ?_
   rintro ⟨d, ok, u⟩ hd
   dsimp only at hd ⊢
   refine dH (fun _ => dP trivial) (fun hok => ?_)
   refine dD (fun _ => dP trivial) (fun hw => ?_)
   · have hd' := hd hok
     have p0 : 0 ≤ d * x3 := Int.mul_nonneg hd'.1 h2
     have p1 : d * x3 ≤ 35 * x3 := Int.mul_le_mul_of_nonneg_right hd'.2 h2
     generalize d * x3 = P at p0 p1 ⊢
     rw [w64s (n := P) (by omega), w64s (n := x2 + P) (by omega), w64s (n := x5 + 1) (by omega)]
     with_reducible repeat' (first | apply dP | apply dX <;> intro _)
     · trivial
     · refine dZ (d290 _ _) ?_
       rintro ⟨t, u⟩ ht
       dsimp only at ht ⊢
       have q0 : 0 ≤ x3 * (36 - t) := Int.mul_nonneg h2 (by omega)
       have q1 : x3 * (36 - t) ≤ x3 * 35 := Int.mul_le_mul_of_nonneg_left (by omega) h2
       rw [w64s (n := 36 - t) (by omega)]
       generalize x3 * (36 - t) = R at q0 q1 ⊢
       rw [w64s (n := R) (by omega)]
       with_reducible repeat' (first | apply dP | apply dX <;> intro _)
       · refine ⟨by first | omega | (dsimp only; omega), by first | omega | (dsimp only; omega), ?_⟩
         simp only [List.length_drop]
         omega
       · refine dO ?_; omega
       · exact ⟨⟨rfl, by first | omega | (dsimp only; omega), by first | omega | (dsimp only; omega), by first | omega | (dsimp only; omega), by first | omega | (dsimp only; omega), rfl, by first | omega | (dsimp only; omega), by first | omega | (dsimp only; omega)⟩, by first | omega | (dsimp only; omega)⟩
 · refine dO ?_; omega
 · trivial
theorem d271 (s : List UInt8) (b : Int) (hs : s.length ≤ 1000000000000) : Df (C271 (s, b, ())) (fun y => y.1 < 0 ∨ (0 ≤ y.1 ∧ y.1 ≤ 2147483647 ∧ y.2.1.length < s.length)) := by
 unfold C271 F271
 dsimp only
 refine dZ (d271_l s b hs) ?_
 intro z hz
 refine dS hz ?_ ?_
 · intro u _
   exact dP (.inl (by first | omega | (dsimp only; omega)))
 · intro z2 hz2
   refine dS hz2 ?_ ?_
   · intro u _
     refine dZ (P := fun y => y.1 < 0) ?_ ?_
     · refine dL ?I ?m ?h _ ?hv ?hn
       case I => exact (fun _ => True)
       case m => exact (fun _ => 0)
       case hv => exact trivial
       case hn => exact (by first | omega | (dsimp only; omega))
       intro v _
       unfold F271_g0
       exact dP (by decide : (-1 : Int) < 0)
     · rintro ⟨a, b, u⟩ h
       exact dP (.inl h)
   · rintro ⟨a, b, u⟩ h
     exact dP (.inr h)
theorem d272 (i : Int) (l : List Int) (x : Int) (hi : 0 ≤ i ∧ i ≤ l.length) (hl : l.length ≤ 1000000000000) : Df (C272 (i, l, [x], ())) (fun y => y.1.length = l.length + 1) := by
 unfold C272
 dsimp only
 rw [decide_eq_true hi.1, decide_eq_true hi.2, decide_eq_true hl]
 refine dP ?_
 simp only [List.length_append, List.length_take, List.length_drop, List.length_cons, List.length_nil]
 omega
theorem d226_l (L : Nat) (hL : L ≤ 1000000000000) (s : List UInt8) (out : List Int) (h : s.length + out.length ≤ L) : Df (C226_l0 (s, 128, 0, 72, true, out, ())) (Sum.elim (fun y => y.1.length ≤ L) (fun _ => True)) := by
 refine dL ?I ?m ?h _ ?hv ?hn
 case I => exact (fun v => v.1.length + v.2.2.2.2.2.1.length ≤ L ∧ 128 ≤ v.2.1 ∧ v.2.1 ≤ 1114111 ∧ 0 ≤ v.2.2.1 ∧ v.2.2.1 ≤ v.2.2.2.2.2.1.length)
 case m => exact (fun v => v.1.length)
 case hv => exact ⟨h, by first | omega | (dsimp only; omega), by first | omega | (dsimp only; omega), by first | omega | (dsimp only; omega), by first | omega | (dsimp only; omega)⟩
 case hn => exact (by first | omega | (dsimp only; omega))
 rintro ⟨x0, x1, x2, x3, x4, x5, u⟩ hI
 dsimp only at hI
 obtain ⟨h0, h1, h2, h3, h4⟩ := hI
 unfold F226_l0
 dsimp only
 rw [w64s (n := (x5.length : Int) + 1) (by omega)]
 with_reducible repeat' (first | apply dP | apply dX <;> intro _)
 · refine dZ (d271 x0 x3 (by omega)) ?_
   rintro ⟨d, rest, u⟩ hd
   dsimp only at hd ⊢
   refine dD (fun _ => dP trivial) (fun hneg => ?_)
   · have hd' := hd.resolve_left hneg
     rw [w64s (n := x2 + d) (by omega)]
     with_reducible repeat' (first | apply dP | apply dX <;> intro _)
     · trivial
     · refine dZ (d252 _ _ _ hd'.1 (by omega)) ?_
       rintro ⟨b, u⟩ -
       dsimp only
       have q0 : 0 ≤ (x2 + d) / ((x5.length : Int) + 1) := Int.ediv_nonneg (by omega) (by omega)
       have q1 : (x2 + d) / ((x5.length : Int) + 1) ≤ x2 + d := Int.ediv_le_self _ (by omega)
       have r0 : 0 ≤ (x2 + d) % ((x5.length : Int) + 1) := Int.emod_nonneg _ (by omega)
       have r1 : (x2 + d) % ((x5.length : Int) + 1) < (x5.length : Int) + 1 := Int.emod_lt_of_pos _ (by omega)
       rw [Int.tdiv_eq_ediv_of_nonneg (by omega), Int.tmod_eq_emod_of_nonneg (by omega)]
       generalize (x2 + d) / ((x5.length : Int) + 1) = q at q0 q1 ⊢
       generalize (x2 + d) % ((x5.length : Int) + 1) = r at r0 r1 ⊢
       rw [w64s (n := q) (by omega), w64s (n := x1 + q) (by omega)]
       with_reducible repeat' (first | apply dP | apply dX <;> intro _)
       · trivial
       · refine dZ (d155 _) ?_
         rintro ⟨ok, u⟩ -
         dsimp only
         with_reducible repeat' (first | apply dP | apply dX <;> intro _)
         · trivial
         · refine dZ (d272 r x5 _ (by omega) (by omega)) ?_
           rintro ⟨out', u⟩ ho
           dsimp only at ho ⊢
           rw [w64s (n := r + 1) (by omega)]
           exact dP ⟨⟨by first | omega | (dsimp only; omega), by first | omega | (dsimp only; omega), by first | omega | (dsimp only; omega), by first | omega | (dsimp only; omega), by first | omega | (dsimp only; omega)⟩, by first | omega | (dsimp only; omega)⟩
         · refine dO ?_; omega
       · refine dO ?_; omega
 · exact (by first | omega | (dsimp only; omega) : x5.length ≤ L)
theorem d226_0 (L : Nat) (hL : L ≤ 1000000000000) (s : List UInt8) (out : List Int) (h : s.length + out.length ≤ L) : Df (C226_c0 (s, out, ())) (fun y => y.2.1.length ≤ L) := by
 unfold C226_c0 F226_c0
 dsimp only
 refine dZ (d226_l L hL s out h) ?_
 intro z hz
 refine dS hz ?_ ?_
 · rintro ⟨a, u⟩ ha
   exact dP ha
 · rintro ⟨a, u⟩ -
   exact dP (by simp)
theorem d270 (s : List UInt8) (c : Int) (hs : s.length ≤ 1000000000000) : Df (C270 (s, c, ())) (fun y => -1 ≤ y.1 ∧ y.1 < s.length) := by
 unfold C270 F270
 dsimp only
 refine dZ (P := fun y => -1 ≤ y.1 ∧ y.1 < s.length) ?_ (fun _ h => dP h)
 unfold C293 F293
 dsimp only
 rw [w64s (n := (s.length : Int) - 1) (by omega)]
 refine dZ (P := Sum.elim (fun _ => True) (fun y => -1 ≤ y.1 ∧ y.1 < s.length)) ?_ ?_
 · refine dL ?I ?m ?h _ ?hv ?hn
   case I => exact (fun v => v.1 = s ∧ -1 ≤ v.2.2.1 ∧ v.2.2.1 < s.length)
   case m => exact (fun v => (v.2.2.1 + 1).toNat)
   case hv => exact ⟨rfl, by first | omega | (dsimp only; omega), by first | omega | (dsimp only; omega)⟩
   case hn => exact (by first | omega | (dsimp only; omega))
   rintro ⟨x0, x1, x2, u⟩ hI
   dsimp only at hI
   obtain ⟨rfl, h0, h1⟩ := hI
   unfold F293_l0
   dsimp only
   with_reducible repeat' (first | apply dP | apply dX <;> intro _)
   · exact ⟨by first | omega | (dsimp only; omega), by first | omega | (dsimp only; omega)⟩
   · rw [w64s (n := x2 - 1) (by omega)]
     exact ⟨⟨rfl, by first | omega | (dsimp only; omega), by first | omega | (dsimp only; omega)⟩, by first | omega | (dsimp only; omega)⟩
   · refine dO ?_; omega
   · trivial
 · intro z hz
   refine dS hz ?_ ?_
   · intro u _
     exact dP ⟨by first | omega | (dsimp only; omega), by first | omega | (dsimp only; omega)⟩
   · rintro ⟨a, u⟩ h
     exact dP h
theorem d226 (s : List UInt8) (hs : s.length ≤ 1000000000000) : Df (C226 (s, ())) (fun y => y.1.length ≤ s.length) := by
 unfold C226 F226
 dsimp only
 refine dZ (d21 s (by omega)) ?_
 rintro ⟨e, u⟩ he
 dsimp only at he ⊢
 with_reducible repeat' (first | apply dP | apply dX <;> intro _)
 · exact (by simp : ([] : List Int).length ≤ s.length)
 · rename_i hneg
   have hall := he.2 (by omega)
   refine dZ (d270 s 45 hs) ?_
   rintro ⟨k, u⟩ hk
   dsimp only at hk ⊢
   rw [w64s (n := k + 1) (by omega)]
   have hb : (decide ((List.take k.toNat s).length ≤ 70368744177664) && (List.take k.toNat s).all fun b => decide (b.toNat < 128)) = true := by
    rw [decide_eq_true (by rw [List.length_take]; omega), Bool.true_and, List.all_eq_true]
    intro c hc
    exact decide_eq_true (hall c (List.mem_of_mem_take hc))
   rw [hb]
   simp only [cond_true]
   with_reducible repeat' (first | apply dP | apply dX <;> intro _)
   · refine dZ (d226_0 s.length hs _ _ (by simp only [List.length_drop, List.length_map, List.length_take]; omega)) ?_
     rintro ⟨a, b, u⟩ h
     exact dP h
   · refine dO ?_; omega
   · refine dO ?_; omega
   · refine dZ (d226_0 s.length hs _ _ (by simp)) ?_
     rintro ⟨a, b, u⟩ h
     exact dP h
theorem d192 (h : TK T A B) (s : List UInt8) (hs : s.length ≤ 6000000) : Df (C192 (T, A, B, s, ())) (fun y => y.1.length ≤ 200000000000 ∧ y.2.1.length ≤ 200000000000) := by
 unfold C192 F192
 dsimp only
 refine dZ (d151 h s (by omega)) ?_
 rintro ⟨f, ok, u⟩ hf
 dsimp only at hf ⊢
 refine dZ (d132 f _) ?_
 rintro ⟨rest, is, u⟩ hr
 dsimp only at hr ⊢
 with_reducible repeat' (first | apply dP | apply dX <;> intro _)
 · exact ⟨by simp, by simp⟩
 · refine dZ (d21 f (by omega)) ?_
   rintro ⟨e, u⟩ -
   dsimp only
   with_reducible repeat' (first | apply dP | apply dX <;> intro _)
   · refine dZ (d83 f (by omega)) ?_
     rintro ⟨l, at_, u⟩ hl
     dsimp only at hl ⊢
     refine dZ (d223 l (by omega)) ?_
     rintro ⟨code, b, u⟩ hc
     dsimp only at hc ⊢
     with_reducible repeat' (first | apply dP | apply dX <;> intro _)
     · refine dZ (d224 h f (by omega)) ?_
       rintro ⟨w, u⟩ -
       exact dP ⟨by simp only [List.length_append, List.length_cons, List.length_nil]; omega, by first | omega | (dsimp only; omega)⟩
     · refine dO ?_; simp only [List.length_cons, List.length_nil] at *; omega
   · refine dZ (d225 f (by omega)) ?_
     rintro ⟨w, u⟩ -
     exact dP ⟨by first | omega | (dsimp only; omega), by first | omega | (dsimp only; omega)⟩
   · refine dZ (d226 rest (by omega)) ?_
     rintro ⟨l, ok2, u⟩ hl
     dsimp only at hl ⊢
     with_reducible repeat' (first | apply dP | apply dX <;> intro _)
     · exact ⟨by simp, by simp⟩
     · exact ⟨by simp, by simp⟩
     · refine dZ (d178 l (by omega)) ?_
       rintro ⟨us, b, u⟩ hu
       dsimp only at hu ⊢
       refine dZ (d224 h us (by omega)) ?_
       rintro ⟨w, u⟩ -
       dsimp only
       with_reducible repeat' (first | apply dP | apply dX <;> intro _)
       · exact ⟨by simp, by simp⟩
       · refine dZ (d223 l (by omega)) ?_
         rintro ⟨code, b, u⟩ -
         dsimp only
         with_reducible repeat' (first | apply dP | apply dX <;> intro _)
         · exact ⟨by simp, by simp⟩
         · exact ⟨by first | omega | (dsimp only; omega), by first | omega | (dsimp only; omega)⟩
theorem d159 (h : TK T A B) (s : List UInt8) (hs : s.length ≤ 6000000) : Df (C159 (T, A, B, s, ())) (fun y => y.1.length ≤ 200000000000) := by
 unfold C159 F159
 dsimp only
 refine dZ (d192 h s hs) ?_
 rintro ⟨a, b, e, u⟩ ha
 dsimp only at ha ⊢
 with_reducible repeat' (first | apply dP | apply dX <;> intro _)
 · exact (by simp : ([] : List UInt8).length ≤ 200000000000)
 · exact ha.1
theorem d160 (h : TK T A B) (s : List UInt8) (hs : s.length ≤ 6000000) : Df (C160 (T, A, B, s, ())) (fun y => y.1.length ≤ 200000000000) := by
 unfold C160 F160
 dsimp only
 refine dZ (d192 h s hs) ?_
 rintro ⟨a, b, e, u⟩ ha
 dsimp only at ha ⊢
 with_reducible repeat' (first | apply dP | apply dX <;> intro _)
 · exact (by simp : ([] : List UInt8).length ≤ 200000000000)
 · exact ha.2
theorem indexByte_lt (c : UInt8) : ∀ l : List UInt8, Lib.indexByte l c < l.length
 | [] => by simp [Lib.indexByte]
 | b :: l => by
  have := indexByte_lt c l
  simp only [Lib.indexByte, List.length_cons]
  split
  · omega
  · split <;> omega
theorem d162 (s : List UInt8) (c : Int) : Df (C162 (s, c, ())) (fun y => -1 ≤ y.1 ∧ y.1 < s.length) := by
 unfold C162 F162
 dsimp only
 exact dZ (P := fun y => -1 ≤ y.1 ∧ y.1 < s.length) (dP ⟨Lib.indexByte_ge s _, indexByte_lt _ s⟩) fun _ h => dP h
theorem d197_0 (s : List UInt8) (b : Bool) (hb : b = true → 0 < s.length) : Df (C197_c0 (s, [46], 1, b, ())) (fun y => -1 ≤ y.1 ∧ y.1 < s.length) := by
 unfold C197_c0 F197_c0
 dsimp only
 with_reducible repeat' (first | apply dP | apply dX <;> intro _)
 · rename_i h1
   have := hb h1
   exact ⟨by first | omega | (dsimp only; omega), by first | omega | (dsimp only; omega)⟩
 · exact dZ (d162 s _) fun _ h => dP h
 · rename_i h1 h2 h3
   exact absurd (by decide : (0 : Int) < (([46] : List UInt8).length : Int)) h3
 all_goals (exfalso; omega)
theorem d129 (s : List UInt8) (hs : s.length ≤ 1000000000000) : Df (C129 (s, [46], ())) (fun y => y.1.length ≤ s.length ∧ y.2.1.length ≤ s.length ∧ (y.2.2.1 = true → y.2.1.length < s.length)) := by
 unfold C129 F129
 dsimp only
 refine dZ (P := fun y => y.1.length ≤ s.length ∧ y.2.1.length ≤ s.length ∧ (y.2.2.1 = true → y.2.1.length < s.length)) ?_ (fun _ h => dP h)
 unfold C163 F163
 dsimp only
 refine dZ (P := fun y => -1 ≤ y.1 ∧ y.1 < s.length) ?_ ?_
 · unfold C197 F197
   dsimp only
   have e0 : ((([46] : List UInt8).length : Int) == 0) = false := rfl
   rw [e0]
   simp only [cond_false]
   refine dZ (d197_0 s _ fun h => ?_) fun _ h => dP h
   have := eq_of_beq h
   rw [← this]; decide
 rintro ⟨k, u⟩ hk
 dsimp only at hk ⊢
 rw [show (([46] : List UInt8).length : Int) = 1 from rfl, w64s (n := k + 1) (by omega)]
 with_reducible repeat' (first | apply dP | apply dX <;> intro _)
 · refine ⟨?_, ?_, fun _ => ?_⟩
   · simp only [List.length_take]; omega
   · simp only [List.length_drop]; omega
   · simp only [List.length_drop]; omega
 · refine dO ?_; omega
 · refine dO ?_; omega
 · exact ⟨Nat.le_refl _, by simp, fun h => by cases h⟩
theorem parts_total : ∀ (n : Nat) (s : List UInt8), s.length < n → s.length ≤ 1000000000000 → ∃ ps, partsC n s = some ps ∧ ps.length ≤ n ∧ ∀ p ∈ ps, p.length ≤ s.length
 | n + 1, s, hn, hs => by
  obtain ⟨⟨a, b, ok, u⟩, e, h1, h2, h3⟩ := d129 s hs
  dsimp only at h1 h2 h3
  cases ok with
  | true =>
   have h4 := h3 rfl
   obtain ⟨ps, e2, h5, h6⟩ := parts_total n b (by omega) (by omega)
   refine ⟨a :: ps, by simp only [partsC, e, Option.bind_some, cond_true, e2, Option.map_some], by simp only [List.length_cons]; omega, ?_⟩
   intro p hp
   rcases List.mem_cons.1 hp with rfl | hp
   · exact h1
   · have := h6 p hp; omega
  | false =>
   refine ⟨[a], by simp only [partsC, e, Option.bind_some, cond_false], by simp only [List.length_cons, List.length_nil]; omega, ?_⟩
   intro p hp
   rw [List.mem_singleton] at hp
   subst hp; exact h1
end
section
variable {T : List R6} {A : List R4} {B : List R3}
theorem index_fit {s old : List UInt8} {i : Nat} (h : Lib.index s old = i) : i + old.length ≤ s.length := by
 have := Lib.index_room s old (by omega)
 omega
theorem replaceK_le (old new : List UInt8) (hl : new.length ≤ old.length) : ∀ (k : Nat) (s : List UInt8), (Lib.replaceK old new k s).length ≤ s.length
 | 0, s => Nat.le_refl _
 | k + 1, s => by
  by_cases h : Lib.index s old = -1
  · rw [Lib.replaceK, if_pos (by rw [h]; rfl)]; exact Nat.le_refl _
  · obtain ⟨i, hi⟩ : ∃ i : Nat, Lib.index s old = i := ⟨(Lib.index s old).toNat, by have := Lib.index_ge s old; omega⟩
    rw [Lib.replaceK_hit old new k s i hi]
    have h1 := replaceK_le old new hl k (s.drop (i + old.length))
    have h2 := index_fit hi
    simp only [List.length_append, List.length_take, List.length_drop] at h1 ⊢
    omega
theorem replaceAll_le (s old new : List UInt8) (hl : new.length ≤ old.length) : (Lib.replaceAll s old new).length ≤ s.length := by
 unfold Lib.replaceAll Lib.replace
 split
 · exact Nat.le_refl _
 · exact replaceK_le old new hl _ s
theorem labels_total (f : List UInt8) (ok : Bool) (hf : f.length ≤ 5000000) : ∃ ls c, labelsF f ok = some (ls, c) ∧ ls.length ≤ 32 ∧ ∀ p ∈ ls, p.length ≤ 5000000 := by
 unfold labelsF
 cases ok with
 | false => exact ⟨[], 7, rfl, by simp, fun p hp => by cases hp⟩
 | true =>
  cases hfe : f.isEmpty with
  | true => exact ⟨[], 13, rfl, by simp, fun p hp => by cases hp⟩
  | false =>
   simp only [Bool.not_true, cond_false]
   rw [decide_eq_true (by omega)]
   simp only [cond_true]
   have hr := replaceAll_le f [227, 128, 130] [46] (by decide)
   obtain ⟨ps, e, h1, h2⟩ := parts_total (f.length + 2) (Lib.replaceAll f [227, 128, 130] [46]) (by omega) (by omega)
   simp only [e, Option.bind_some]
   rw [decide_eq_true (by omega)]
   simp only [cond_true]
   by_cases h3 : 32 < ps.length
   · rw [decide_eq_true h3]
     exact ⟨[], 2, rfl, by simp, fun p hp => by cases hp⟩
   · rw [decide_eq_false h3]
     exact ⟨ps, 0, rfl, by omega, fun p hp => by have := h2 p hp; omega⟩
theorem lens_snoc (l : List (List UInt8)) (x : List UInt8) : Lib.lens (l ++ [x]) = Lib.lens l + x.length := by simp [Lib.lens]
theorem both_total (f g : List UInt8 → Option (List UInt8 × Int)) (hf : ∀ x : List UInt8, x.length ≤ 5000000 → ∃ y, f x = some y ∧ y.1.length ≤ 200000000000) (hg : ∀ x : List UInt8, x.length ≤ 5000000 → ∃ y, g x = some y ∧ y.1.length ≤ 200000000000) :
 ∀ (ls ps qs : List (List UInt8)) (n : Nat), (∀ p ∈ ls, p.length ≤ 5000000) → ps.length + ls.length ≤ 32 → qs.length + ls.length ≤ 32 → Lib.lens ps ≤ 200000000000 * n → Lib.lens qs ≤ 200000000000 * n → n + ls.length ≤ 32 →
  ∃ r, bothF f g ls ps qs = some r ∧ r.2.1.length ≤ 32 ∧ r.2.2.length ≤ 32 ∧ Lib.lens r.2.1 ≤ 6400000000000 ∧ Lib.lens r.2.2 ≤ 6400000000000
 | [], ps, qs, n, h, h1, h2, h3, h4, h5 => ⟨(0, ps, qs), rfl, by simpa using h1, by simpa using h2, by simp only [List.length_nil] at h5; dsimp only; omega, by simp only [List.length_nil] at h5; dsimp only; omega⟩
 | x :: ls, ps, qs, n, h, h1, h2, h3, h4, h5 => by
  obtain ⟨a, ea, ha⟩ := hf x (h x List.mem_cons_self)
  obtain ⟨b, eb, hb⟩ := hg x (h x List.mem_cons_self)
  simp only [bothF, ea, Option.bind_some]
  simp only [List.length_cons] at h1 h2 h5
  cases hz : (a.2 != 0) with
  | true => exact ⟨(a.2, [], []), rfl, by simp, by simp, by simp [Lib.lens], by simp [Lib.lens]⟩
  | false =>
   simp only [cond_false, eb, Option.bind_some]
   exact both_total f g hf hg ls (ps ++ [a.1]) (qs ++ [b.1]) (n + 1) (fun p hp => h p (List.mem_cons_of_mem _ hp)) (by simp only [List.length_append, List.length_cons, List.length_nil]; omega) (by simp only [List.length_append, List.length_cons, List.length_nil]; omega)
    (by rw [lens_snoc]; omega) (by rw [lens_snoc]; omega) (by omega)
theorem join_total (l : List (List UInt8)) (h1 : l.length ≤ 32) (h2 : Lib.lens l ≤ 6400000000000) : ∃ r, joinF (l, [46], ()) = some (r, ()) := by
 unfold joinF
 have hj : (Lib.join l [46]).length ≤ 140737488355328 := by
  cases l with
  | nil => exact Nat.zero_le _
  | cons x r =>
   rw [Lib.join_length]
   simp only [List.length_cons, List.length_nil] at h1 ⊢
   omega
 dsimp only
 rw [decide_eq_true (by omega), decide_eq_true hj]
 exact ⟨_, rfl⟩
theorem out_total (r : Int × List (List UInt8) × List (List UInt8)) (h1 : r.2.1.length ≤ 32) (h2 : r.2.2.length ≤ 32) (h3 : Lib.lens r.2.1 ≤ 6400000000000) (h4 : Lib.lens r.2.2 ≤ 6400000000000) : ∃ o, outF r = some o := by
 unfold outF
 cases (r.1 != 0) with
 | true => exact ⟨_, rfl⟩
 | false =>
  obtain ⟨a, ha⟩ := join_total r.2.1 h1 h3
  obtain ⟨b, hb⟩ := join_total r.2.2 h2 h4
  simp only [cond_false, ha, Option.bind_some, hb]
  cases decide (253 < a.length) with
  | true => exact ⟨_, rfl⟩
  | false => exact ⟨_, rfl⟩
theorem d124 (h : TK T A B) (s : List UInt8) (hs : s.length ≤ 3000) : ∃ y, C124 (T, A, B, s, ()) = some y := by
 obtain ⟨⟨f, ok, u⟩, e, hf⟩ := d151 h s (by omega)
 dsimp only at hf
 obtain ⟨ls, c, e2, hll, hls⟩ := labels_total f ok (by omega)
 unfold C124
 dsimp only
 simp only [e, Option.bind_some, e2]
 cases (c != 0) with
 | true => exact ⟨_, rfl⟩
 | false =>
  simp only [cond_false]
  rw [decide_eq_true hll]
  obtain ⟨r, er, h1, h2, h3, h4⟩ := both_total (fun x => (C159 (T, A, B, x, ())).map fun r => (r.1, r.2.1)) (fun x => (C160 (T, A, B, x, ())).map fun r => (r.1, r.2.1))
   (fun x hx => by
    obtain ⟨y, e, hy⟩ := d159 h x (by omega)
    exact ⟨(y.1, y.2.1), by simp only [e, Option.map_some], hy⟩)
   (fun x hx => by
    obtain ⟨y, e, hy⟩ := d160 h x (by omega)
    exact ⟨(y.1, y.2.1), by simp only [e, Option.map_some], hy⟩)
   ls [] [] 0 hls (by simpa using hll) (by simpa using hll) (by simp [Lib.lens]) (by simp [Lib.lens]) (by simpa using hll)
  obtain ⟨o, ho⟩ := out_total r h1 h2 h3 h4
  simp only [cond_true, er, Option.bind_some, ho, Option.map_some]
  exact ⟨_, rfl⟩
end
abbrev Bx := List UInt8 × List UInt8
abbrev En := List UInt8 × Bool × List Bx
theorem l31 : ∀ (r pre : List En) (p n N : Nat) (acc : List Bx), pre.length = p → N = p + r.length → r.length < n → N ≤ 100000 → acc.length + (r.flatMap fun x => x.2.2).length ≤ 100000 →
 loopN F31_l0 n (pre ++ r, (N : Int), (p : Int), acc, ()) = some (acc ++ r.flatMap (fun x => x.2.2), ())
 | [], pre, p, n + 1, N, acc, hp, hN, hn, hb, ha => by
  refine loopN_inr ?_
  simp only [F31_l0]
  rw [decide_eq_false (by simp at hN; omega)]
  simp only [cond_false, List.flatMap_nil, List.append_nil]
 | y :: r, pre, p, n + 1, N, acc, hp, hN, hn, hb, ha => by
  simp only [List.length_cons] at hN hn
  simp only [List.flatMap_cons, List.length_append] at ha
  have hlen : (pre ++ y :: r).length = N := by simp [hp]; omega
  rw [loopN_inl (v' := (pre ++ y :: r, (N : Int), ((p + 1 : Nat) : Int), acc ++ y.2.2, ())) (by
   simp only [F31_l0, hlen, Int.toNat_natCast, gd hp]
   rw [decide_eq_true (by omega), decide_eq_true (by omega), decide_eq_true (by omega), wrN p (by omega)]; rfl)]
  rw [shift, l31 r (pre ++ [y]) (p + 1) n N (acc ++ y.2.2) (by simp [hp]) (by omega) (by omega) hb (by simp only [List.length_append]; omega)]
  simp
theorem c31' (L : List En) (hl : L.length ≤ 100000) (h : (L.flatMap fun x => x.2.2).length ≤ 100000) : C31 (L, ()) = some (L.flatMap (fun x => x.2.2), ()) := by
 show F31 C31_l0 _ = _
 have h' : C31_l0 (L, (L.length : Int), 0, [], ()) = _ := l31 L [] 0 big L.length [] rfl (by omega) (by unfold big; omega) hl (by simpa using h)
 simp only [F31, h', Option.bind_some, List.nil_append]
section
variable {T : List R6} {A : List R4} {B : List R3}
theorem d85 (x : Int) : Df (C85 (x, ())) (fun _ => True) := by
 unfold C85 F85
 dsimp only
 with_reducible repeat' (first | apply dP | apply dX <;> intro _)
 all_goals trivial
theorem d156v1 (s : List UInt8) (b : Bool) (hs : s.length ≤ 1000000000000000) : Df (C156v1 (s, b, ())) (fun _ => True) := by
 unfold C156v1 F156v1
 dsimp only
 refine dZ (P := fun _ => True) ?_ (fun z _ => by cases z <;> exact dP trivial)
 refine dL ?I ?m ?h _ ?hv ?hn
 case I => exact (fun v => v.2.1.1 = s ∧ 0 ≤ v.2.1.2)
 case m => exact (fun v => s.length - v.2.1.2.toNat)
 case hv => exact ⟨rfl, Int.le_refl _⟩
 case hn => exact (by first | omega | (dsimp only; omega))
 · rintro ⟨x0, ⟨x1, p⟩, u⟩ hI
   dsimp only at hI
   obtain ⟨rfl, h0⟩ := hI
   unfold F156v1_l0
   dsimp only
   with_reducible repeat' (first | apply dP | apply dX <;> intro _)
   · refine dZ (d85 _) ?_
     rintro ⟨x, u⟩ -
     dsimp only
     have := decR_pos x1 p.toNat
     with_reducible repeat' (first | apply dP | apply dX <;> intro _)
     · trivial
     · exact ⟨⟨rfl, by first | omega | (dsimp only; omega)⟩, by first | omega | (dsimp only; omega)⟩
   · trivial
theorem d84v1 (s : List UInt8) (hs : s.length ≤ 1000000000000000) : Df (C84v1 (s, ())) (fun _ => True) := by
 unfold C84v1 F84v1
 dsimp only
 refine dZ (P := fun _ => True) ?_ (fun z _ => dP trivial)
 unfold C123v1 F123v1
 dsimp only
 exact dZ (d156v1 s true hs) (fun z _ => dP trivial)
theorem d86 (a : List UInt8) : Df (C86 (a, ())) (fun _ => True) := by
 unfold C86 F86
 dsimp only
 refine dZ (P := fun _ => True) ?_ (fun z _ => dP trivial)
 unfold C96 F96
 dsimp only
 exact dZ (d131 a [91]) (fun z _ => dP trivial)
theorem d87 (h : TK T A B) (s : List UInt8) (hs : s.length ≤ 3000) : Df (C87 (T, A, B, s, ())) (fun _ => True) := by
 unfold C87 F87
 dsimp only
 obtain ⟨y, e⟩ := d124 h s hs
 exact dZ (P := fun _ => True) ⟨y, e, trivial⟩ (fun z _ => dP trivial)
theorem d44 (h : TK T A B) (a b : List UInt8) (ha : a.length ≤ 100000) (hb : b.length ≤ 3000) : Df (C44 (T, A, B, a, b, ())) (fun _ => True) := by
 unfold C44 F44
 dsimp only
 refine dZ (d83 a (by omega)) ?_
 rintro ⟨x, y, u⟩ -
 dsimp only
 with_reducible repeat' (first | apply dP | apply dX <;> intro _)
 · trivial
 · trivial
 · trivial
 · refine dZ (d84v1 a (by omega)) ?_
   rintro ⟨x, u⟩ -
   dsimp only
   with_reducible repeat' (first | apply dP | apply dX <;> intro _)
   · trivial
   · refine dZ (d86 b) ?_
     rintro ⟨x, u⟩ -
     dsimp only
     with_reducible repeat' (first | apply dP | apply dX <;> intro _)
     · rw [c11 b]
       simp only [Option.bind_some]
       with_reducible repeat' (first | apply dP | apply dX <;> intro _)
       · trivial
       · trivial
       · trivial
       · trivial
       · refine dO ?_; omega
     · exact dZ (d87 h b hb) (fun z _ => dP trivial)
end
theorem lexs_sz : ∀ (m : Nat) (s : List UInt8) (p : Nat) (l : List Tok), s.length ≤ m → lexs s p = .inl l → szT l ≤ s.length ∧ l.length ≤ s.length
 | _, [], p, l, _, h => by rw [lexs_nil] at h; cases h; exact ⟨Nat.le_refl _, Nat.le_refl _⟩
 | 0, c :: r, p, l, hm, h => by simp at hm
 | m + 1, c :: r, p, l, hm, h => by
  obtain ⟨k, t, u, l', h1, h2, rfl⟩ := lexs_inl h
  have hu := one_used h1
  have ht := one_text_len h1
  obtain ⟨i1, i2⟩ := lexs_sz m ((c :: r).drop u) (p + u) l' (by simp at hm ⊢; omega) h2
  simp only [List.length_drop, List.length_cons, szT] at i1 i2 ⊢
  omega
theorem lexR_sz (s : List UInt8) : szT (lexR s).1 ≤ s.length ∧ (lexR s).1.length ≤ s.length := by
 have nil : szT ([] : List Tok) ≤ s.length ∧ ([] : List Tok).length ≤ s.length := ⟨Nat.zero_le _, Nat.zero_le _⟩
 unfold lexR
 split
 · exact nil
 · cases utf s with
   | some b => exact nil
   | none =>
    cases h : lexs s 0 with
    | inr e => exact nil
    | inl l => exact lexs_sz _ s 0 l (Nat.le_refl _) h
theorem dwn_sz : ∀ (m : Nat) (l : List Tok) (acc : List UInt8), l.length ≤ m → (dwn acc l).1.length ≤ acc.length + szT l + l.length
 | _, [], _, _ => by simp [dwn]
 | _, [_], _, _ => by simp only [dwn]; omega
 | 0, _ :: _ :: _, _, h => by simp at h
 | m + 1, t :: u :: r, acc, h => by
  have := dwn_sz m r (acc ++ ([46] ++ u.2.1)) (by simp at h; omega)
  simp only [List.length_append, List.length_cons, List.length_nil] at this
  simp only [dwn, szT, List.length_cons]
  cases ((t.1 == 2 && t.2.1 == [46]) && u.1 == 0) with
  | true => simp only [cond_true]; omega
  | false => simp only [cond_false]; omega
theorem dot_sz (l : List Tok) : (dot l).1.length ≤ szT l + l.length := by
 cases l with
 | nil => exact Nat.le_refl _
 | cons t r =>
  have := dwn_sz r.length r t.2.1 (Nat.le_refl _)
  simp only [dot, szT, List.length_cons]
  cases (t.1 == 0) with
  | true => simp only [cond_true]; omega
  | false => simp only [cond_false, List.length_nil]; omega
theorem loc_sz (l : List Tok) : (loc l).2.1.length ≤ szT l + l.length := by
 cases l with
 | nil => exact Nat.le_refl _
 | cons t r =>
  have := dot_sz (t :: r)
  simp only [loc, szT, List.length_cons] at this ⊢
  cases (t.1 == 1) with
  | true => simp only [cond_true]; omega
  | false => simpa only [cond_false] using this
theorem dom_sz (l : List Tok) : (dom l).2.1.length ≤ szT l + l.length + 2 := by
 cases l with
 | nil => exact Nat.zero_le _
 | cons t r =>
  have := dot_sz (t :: r)
  simp only [dom, szT, List.length_cons] at this ⊢
  by_cases h5 : t.1 = 5
  · rw [ibT h5]
    simp only [cond_true, src, h5, List.length_append, List.length_cons, List.length_nil]
    simp
    omega
  · rw [ibF h5]
    simp only [cond_false]
    omega
theorem mt_sz (l : List Tok) {r : List UInt8 × List UInt8 × Nat} (h : mt l = some r) : 1 ≤ r.2.2 ∧ r.1.length ≤ szT l + l.length ∧ r.2.1.length ≤ szT l + l.length + 2 := by
 unfold mt at h
 simp only at h
 have b1 := loc_sz (l.drop (skn l))
 have b2 := szT_drop (skn l) l
 rw [List.length_drop] at b1
 cases hl : (loc (l.drop (skn l))).1 with
 | false => simp only [hl, Bool.not_false, cond_true] at h; cases h
 | true =>
  simp only [hl, Bool.not_true, cond_false] at h
  generalize skn l + (loc (l.drop (skn l))).2.2 = n2 at h
  generalize n2 + skn (l.drop n2) = n3 at h
  cases hs : sgn [64] (l.drop n3) with
  | false => simp only [hs, Bool.not_false, cond_true] at h; cases h
  | true =>
   simp only [hs, Bool.not_true, cond_false] at h
   generalize hn5 : n3 + 1 + skn (l.drop (n3 + 1)) = n5 at h
   have b5 := dom_sz (l.drop n5)
   have b6 := szT_drop n5 l
   rw [List.length_drop] at b5
   cases hd : (dom (l.drop n5)).1 with
   | false => simp only [hd, Bool.not_false, cond_true] at h; cases h
   | true =>
    simp only [hd, Bool.not_true, cond_false] at h
    cases h
    simp only
    omega
def OkB (b : Bx) : Prop := b.1.length ≤ 3000 ∧ b.2.length ≤ 3000
section
variable {l : List Tok}
theorem e143 (hz : szT l + l.length ≤ 2900) (x : Int) (h0 : 0 ≤ x) (h1 : x ≤ l.length) :
 Df (C143 (l, x, ())) (fun y => y.2.2.2.1 = l ∧ x ≤ y.2.2.2.2.1 ∧ y.2.2.2.2.1 ≤ l.length ∧ (y.2.2.1 = true → x < y.2.2.2.2.1 ∧ OkB (y.1, y.2.1))) := by
 obtain ⟨p, rfl⟩ := Int.eq_ofNat_of_zero_le h0
 refine ⟨_, c143 l p (by omega) (by omega), ?_⟩
 cases hm : mt (l.drop p) with
 | none => exact ⟨rfl, Int.le_refl _, h1, fun h => by cases h⟩
 | some r =>
  have a1 := mt_le _ hm
  obtain ⟨a2, a3, a4⟩ := mt_sz _ hm
  have a5 := szT_drop p l
  rw [List.length_drop] at a1 a3 a4
  refine ⟨rfl, by first | omega | (dsimp only; omega), by first | omega | (dsimp only; omega), fun _ => ⟨by first | omega | (dsimp only; omega), by first | omega | (dsimp only; omega), by first | omega | (dsimp only; omega)⟩⟩
theorem e144 (hz : szT l + l.length ≤ 2900) (x : Int) (h0 : 0 ≤ x) (h1 : x ≤ l.length) :
 Df (C144 (l, x, ())) (fun y => y.2.2.1 = l ∧ x ≤ y.2.2.2.1 ∧ y.2.2.2.1 ≤ l.length) := by
 obtain ⟨p, rfl⟩ := Int.eq_ofNat_of_zero_le h0
 refine ⟨_, c144 l p (by omega) (by omega), ?_⟩
 have b1 := skn_le (l.drop p)
 have b2 := (phw_sz l.length (l.drop (p + skn (l.drop p)))).2.2
 rw [List.length_drop] at b1 b2
 refine ⟨rfl, ?_, ?_⟩ <;> (simp only [phr]; omega)
theorem e145 (hz : szT l + l.length ≤ 2900) (x : Int) (h0 : 0 ≤ x) (h1 : x ≤ l.length) :
 Df (C145 (l, x, ())) (fun y => y.1 = l ∧ x ≤ y.2.1 ∧ y.2.1 ≤ l.length) := by
 obtain ⟨p, rfl⟩ := Int.eq_ofNat_of_zero_le h0
 refine ⟨_, c145 l p (by omega) (by omega), ?_⟩
 have b1 := skn_le (l.drop p)
 rw [List.length_drop] at b1
 exact ⟨rfl, by first | omega | (dsimp only; omega), by first | omega | (dsimp only; omega)⟩
theorem e68 (hz : szT l + l.length ≤ 2900) (s : List UInt8) (x : Int) (h0 : 0 ≤ x) (h1 : x ≤ l.length) :
 Df (C68 (s, l, x, ())) (fun y => y.2.1 = l ∧ x ≤ y.2.2.1 ∧ y.2.2.1 ≤ l.length ∧ (y.1 = true → x < y.2.2.1)) := by
 obtain ⟨p, rfl⟩ := Int.eq_ofNat_of_zero_le h0
 refine ⟨_, c68 s l p (by omega), ?_⟩
 have hp : isS s l p = true → p < l.length := fun h => by
  unfold isS at h
  cases hl : l[p]? with
  | none => rw [hl] at h; cases h
  | some t => exact (List.getElem?_eq_some_iff.1 hl).1
 cases h : isS s l p with
 | false => exact ⟨rfl, by dsimp only; rw [cond_false]; omega, by dsimp only; rw [cond_false]; omega, fun h => by cases h⟩
 | true =>
  have := hp h
  exact ⟨rfl, by dsimp only; rw [cond_true]; omega, by dsimp only; rw [cond_true]; omega, fun _ => by dsimp only; rw [cond_true]; omega⟩
theorem e107_0 (hz : szT l + l.length ≤ 2900) (nm : List UInt8) (ok : Bool) (x : Int) (a b : List UInt8) (h0 : 0 ≤ x) (h1 : x ≤ l.length) :
 Df (C107_c0 (nm, ok, l, x, [], false, a, b, ())) (fun y => y.1 = ok ∧ y.2.1 = l ∧ x ≤ y.2.2.1 ∧ y.2.2.1 ≤ l.length ∧ y.2.2.2.2.2.1 = [(a, b)]) := by
 unfold C107_c0 F107_c0
 dsimp only
 refine dZ (e145 hz x h0 h1) ?_
 rintro ⟨l', q, u⟩ ⟨rfl, g1, g2⟩
 exact dP ⟨rfl, rfl, g1, g2, rfl⟩
def En1 (l : List Tok) (x : Int) (y : List UInt8 × Bool × List Bx × Bool × List Tok × Int × Unit) : Prop :=
 y.2.2.2.2.1 = l ∧ x ≤ y.2.2.2.2.2.1 ∧ y.2.2.2.2.2.1 ≤ l.length ∧ (y.2.2.2.1 = true → x < y.2.2.2.2.2.1 ∧ x + y.2.2.1.length ≤ y.2.2.2.2.2.1 ∧ ∀ b ∈ y.2.2.1, OkB b)
theorem one_b {a b : List UInt8} (h : OkB (a, b)) : ∀ c ∈ [(a, b)], OkB c := fun c hc => by
 rw [List.mem_singleton] at hc; subst hc; exact h
theorem e107 (hz : szT l + l.length ≤ 2900) (x : Int) (h0 : 0 ≤ x) (h1 : x ≤ l.length) : Df (C107 (l, x, ())) (En1 l x) := by
 unfold C107 F107
 dsimp only
 refine dZ (e143 hz x h0 h1) ?_
 rintro ⟨a, b, ok, l', q, u⟩ ⟨hl, g1, g2, g3⟩
 dsimp only at hl g1 g2 g3 ⊢
 subst hl
 with_reducible repeat' (first | apply dP | apply dX <;> intro _)
 · rename_i hok
   obtain ⟨g4, g5⟩ := g3 hok
   exact ⟨rfl, by first | omega | (dsimp only; omega), by first | omega | (dsimp only; omega), fun _ => ⟨by first | omega | (dsimp only; omega), by simp only [List.length_cons, List.length_nil]; omega, one_b g5⟩⟩
 · refine dZ (e144 hz q (by omega) g2) ?_
   rintro ⟨nm, ok2, l2, q2, u2⟩ ⟨hl, k1, k2⟩
   dsimp only at hl k1 k2 ⊢
   subst hl
   refine dZ (e68 hz [60] q2 (by omega) k2) ?_
   rintro ⟨ok3, l3, q3, u3⟩ ⟨hl, m1, m2, m3⟩
   dsimp only at hl m1 m2 m3 ⊢
   subst hl
   with_reducible repeat' (first | apply dP | apply dX <;> intro _)
   · exact ⟨rfl, by first | omega | (dsimp only; omega), by first | omega | (dsimp only; omega), fun h => by cases h⟩
   · refine dZ (e143 hz q3 (by omega) m2) ?_
     rintro ⟨a, b, ok4, l4, q4, u4⟩ ⟨hl, n1, n2, n3⟩
     dsimp only at hl n1 n2 n3 ⊢
     subst hl
     with_reducible repeat' (first | apply dP | apply dX <;> intro _)
     · rename_i hok4
       obtain ⟨n4, n5⟩ := n3 hok4
       refine dZ (e68 hz [62] q4 (by omega) n2) ?_
       rintro ⟨ok5, l5, q5, u5⟩ ⟨hl, o1, o2, o3⟩
       dsimp only at hl o1 o2 o3 ⊢
       subst hl
       refine dZ (e107_0 hz nm ok5 q5 a b (by omega) o2) ?_
       rintro ⟨r1, r2, r3, r4, r5, r6, r7⟩ ⟨hr1, hr2, p1, p2, hr6⟩
       dsimp only at hr1 hr2 p1 p2 hr6 ⊢
       subst hr2
       subst hr6
       exact dP ⟨rfl, by first | omega | (dsimp only; omega), by first | omega | (dsimp only; omega), fun _ => ⟨by first | omega | (dsimp only; omega), by simp only [List.length_cons, List.length_nil]; omega, one_b n5⟩⟩
     · refine dZ (e107_0 hz nm false q4 a b (by omega) n2) ?_
       rintro ⟨r1, r2, r3, r4, r5, r6, r7⟩ ⟨hr1, hr2, p1, p2, hr6⟩
       dsimp only at hr1 hr2 p1 p2 hr6 ⊢
       subst hr1
       subst hr2
       exact dP ⟨rfl, by first | omega | (dsimp only; omega), by first | omega | (dsimp only; omega), fun h => by cases h⟩
theorem e108_0 (hz : szT l + l.length ≤ 2900) (nm : List UInt8) (more : Bool) (x : Int) (h0 : 0 ≤ x) (h1 : x ≤ l.length) :
 Df (C108_l0 (more, l, x, [], false, nm, true, [], ())) (Sum.elim (fun y => y.1 = l ∧ x ≤ y.2.1 ∧ y.2.1 ≤ l.length ∧ x + y.2.2.2.2.2.2.1.length ≤ y.2.1 ∧ ∀ b ∈ y.2.2.2.2.2.2.1, OkB b) (fun y => y.1 = false ∧ y.2.1 = l ∧ x ≤ y.2.2.1 ∧ y.2.2.1 ≤ l.length)) := by
 refine dL ?I ?m ?h _ ?hv ?hn
 case I => exact (fun v => v.2.1 = l ∧ x ≤ v.2.2.1 ∧ v.2.2.1 ≤ l.length ∧ x + v.2.2.2.2.2.2.2.1.length ≤ v.2.2.1 ∧ ∀ b ∈ v.2.2.2.2.2.2.2.1, OkB b)
 case m => exact (fun v => (l.length - v.2.2.1).toNat)
 case hv => exact ⟨rfl, Int.le_refl _, h1, by simp, by simp⟩
 case hn => exact (by first | omega | (dsimp only; omega))
 rintro ⟨x0, l', q, x3, x4, x5, x6, bs, u⟩ ⟨hl, i1, i2, i3, i4⟩
 dsimp only at hl i1 i2 i3 i4
 subst hl
 unfold F108_l0
 dsimp only
 with_reducible repeat' (first | apply dP | apply dX <;> intro _)
 · refine dZ (e68 hz [44] q (by omega) i2) ?_
   rintro ⟨ok3, l3, q3, u3⟩ ⟨hl, m1, m2, m3⟩
   dsimp only at hl m1 m2 m3 ⊢
   subst hl
   with_reducible repeat' (first | apply dP | apply dX <;> intro _)
   · exact ⟨rfl, rfl, by first | omega | (dsimp only; omega), m2⟩
   · refine dZ (e107 hz q3 (by omega) m2) ?_
     rintro ⟨c1, c2, c3, c4, l4, q4, u4⟩ ⟨hl, n1, n2, n3⟩
     dsimp only at hl n1 n2 n3 ⊢
     subst hl
     with_reducible repeat' (first | apply dP | apply dX <;> intro _)
     · exact ⟨rfl, rfl, by first | omega | (dsimp only; omega), n2⟩
     · rename_i hc _
       obtain ⟨n4, n5, n6⟩ := n3 hc
       refine dZ (e68 hz [59] q4 (by omega) n2) ?_
       rintro ⟨ok5, l5, q5, u5⟩ ⟨hl, o1, o2, o3⟩
       dsimp only at hl o1 o2 o3 ⊢
       subst hl
       exact dP ⟨⟨rfl, by first | omega | (dsimp only; omega), o2, by simp only [List.length_append]; omega, fun b hb => (List.mem_append.1 hb).elim (i4 b) (n6 b)⟩, by first | omega | (dsimp only; omega)⟩
     · rename_i hc _
       obtain ⟨n4, n5, n6⟩ := n3 hc
       refine dO ?_; omega
 · refine dZ (e107 hz q (by omega) i2) ?_
   rintro ⟨c1, c2, c3, c4, l4, q4, u4⟩ ⟨hl, n1, n2, n3⟩
   dsimp only at hl n1 n2 n3 ⊢
   subst hl
   with_reducible repeat' (first | apply dP | apply dX <;> intro _)
   · exact ⟨rfl, rfl, by first | omega | (dsimp only; omega), n2⟩
   · rename_i hc _
     obtain ⟨n4, n5, n6⟩ := n3 hc
     refine dZ (e68 hz [59] q4 (by omega) n2) ?_
     rintro ⟨ok5, l5, q5, u5⟩ ⟨hl, o1, o2, o3⟩
     dsimp only at hl o1 o2 o3 ⊢
     subst hl
     exact dP ⟨⟨rfl, by first | omega | (dsimp only; omega), o2, by simp only [List.length_append]; omega, fun b hb => (List.mem_append.1 hb).elim (i4 b) (n6 b)⟩, by first | omega | (dsimp only; omega)⟩
   · rename_i hc _
     obtain ⟨n4, n5, n6⟩ := n3 hc
     refine dO ?_; omega
 · exact ⟨rfl, i1, i2, i3, i4⟩
theorem e108 (hz : szT l + l.length ≤ 2900) (x : Int) (h0 : 0 ≤ x) (h1 : x ≤ l.length) : Df (C108 (l, x, ())) (En1 l x) := by
 unfold C108 F108
 dsimp only
 refine dZ (e144 hz x h0 h1) ?_
 rintro ⟨nm, ok2, l2, q2, u2⟩ ⟨hl, k1, k2⟩
 dsimp only at hl k1 k2 ⊢
 subst hl
 with_reducible repeat' (first | apply dP | apply dX <;> intro _)
 · exact ⟨rfl, k1, k2, fun h => by cases h⟩
 · refine dZ (e68 hz [58] q2 (by omega) k2) ?_
   rintro ⟨ok3, l3, q3, u3⟩ ⟨hl, m1, m2, m3⟩
   dsimp only at hl m1 m2 m3 ⊢
   subst hl
   with_reducible repeat' (first | apply dP | apply dX <;> intro _)
   · exact ⟨rfl, by first | omega | (dsimp only; omega), m2, fun h => by cases h⟩
   · rename_i hok3
     have m4 := m3 hok3
     refine dZ (e145 hz q3 (by omega) m2) ?_
     rintro ⟨l4, q4, u4⟩ ⟨hl, n1, n2⟩
     dsimp only at hl n1 n2 ⊢
     subst hl
     refine dZ (e68 hz [59] q4 (by omega) n2) ?_
     rintro ⟨ok5, l5, q5, u5⟩ ⟨hl, o1, o2, o3⟩
     dsimp only at hl o1 o2 o3 ⊢
     subst hl
     refine dZ (e108_0 hz nm (!ok5) q5 (by omega) o2) ?_
     intro z hzz
     refine dS hzz ?_ ?_
     · rintro ⟨l6, q6, z3, z4, z5, z6, bs, u6⟩ ⟨hl, p1, p2, p3, p4⟩
       dsimp only at hl p1 p2 p3 p4 ⊢
       subst hl
       refine dZ (e145 hz q6 (by omega) p2) ?_
       rintro ⟨l7, q7, u7⟩ ⟨hl, r1, r2⟩
       dsimp only at hl r1 r2 ⊢
       subst hl
       exact dP ⟨rfl, by first | omega | (dsimp only; omega), r2, fun _ => ⟨by first | omega | (dsimp only; omega), by first | omega | (dsimp only; omega), p4⟩⟩
     · rintro ⟨z1, l6, q6, z4, z5, u6⟩ ⟨hz1, hl, p1, p2⟩
       dsimp only at hz1 hl p1 p2 ⊢
       subst hz1
       subst hl
       exact dP ⟨rfl, by first | omega | (dsimp only; omega), p2, fun h => by cases h⟩
theorem e69 (hz : szT l + l.length ≤ 2900) (x : Int) (h0 : 0 ≤ x) (h1 : x ≤ l.length) : Df (C69 (l, x, ())) (En1 l x) := by
 unfold C69 F69
 dsimp only
 refine dZ (e107 hz x h0 h1) ?_
 rintro ⟨c1, c2, c3, c4, l4, q4, u4⟩ ⟨hl, n1, n2, n3⟩
 dsimp only at hl n1 n2 n3 ⊢
 subst hl
 with_reducible repeat' (first | apply dP | apply dX <;> intro _)
 · rename_i hc
   exact ⟨rfl, n1, n2, fun _ => n3 hc⟩
 · refine dZ (e108 hz x h0 h1) ?_
   rintro ⟨c1, c2, c3, c4, l5, q5, u5⟩ ⟨hl, o1, o2, o3⟩
   dsimp only at hl o1 o2 o3 ⊢
   subst hl
   with_reducible repeat' (first | apply dP | apply dX <;> intro _)
   · rename_i hc
     exact ⟨rfl, o1, o2, fun _ => o3 hc⟩
   · exact ⟨rfl, o1, o2, fun h => by cases h⟩
theorem e30_0 (hz : szT l + l.length ≤ 2900) (A) (B) (C) : Df (C30_l0 (l, true, A, B, C, l, 0, [], ())) (Sum.elim (fun y => y.1 = l ∧ (y.2.1, y.2.2.1, y.2.2.2.1) = (A, B, C) ∧ ((y.2.2.2.2.2.2.1.flatMap fun x => x.2.2).length ≤ 2900 ∧ y.2.2.2.2.2.2.1.length ≤ 2900) ∧ ∀ b ∈ y.2.2.2.2.2.2.1.flatMap fun x => x.2.2, OkB b) (fun _ => True)) := by
 refine dL ?I ?m ?h _ ?hv ?hn
 case I => exact (fun v => v.1 = l ∧ (v.2.2.1, v.2.2.2.1, v.2.2.2.2.1) = (A, B, C) ∧ v.2.2.2.2.2.1 = l ∧ (0 ≤ v.2.2.2.2.2.2.1 ∧ v.2.2.2.2.2.2.1 ≤ l.length ∧ ((v.2.2.2.2.2.2.2.1.flatMap fun x => x.2.2).length ≤ v.2.2.2.2.2.2.1 ∧ v.2.2.2.2.2.2.2.1.length ≤ v.2.2.2.2.2.2.1)) ∧ ∀ b ∈ v.2.2.2.2.2.2.2.1.flatMap fun x => x.2.2, OkB b)
 case m => exact (fun v => (l.length - v.2.2.2.2.2.2.1).toNat)
 case hv => exact ⟨rfl, rfl, rfl, ⟨Int.le_refl _, Int.natCast_nonneg _, by simp, by simp⟩, by simp⟩
 case hn => exact (by first | omega | (dsimp only; omega))
 rintro ⟨l0, more, A', B', C', l', q, acc, u⟩ ⟨hl0, ht, hl, ⟨i1, i2, i3, i4⟩, i5⟩
 dsimp only at hl0 ht hl i1 i2 i3 i4 i5
 subst hl0
 subst hl
 cases ht
 unfold F30_l0
 dsimp only
 with_reducible repeat' (first | apply dP | apply dX <;> intro _)
 · refine dZ (e69 hz q i1 i2) ?_
   rintro ⟨c1, c2, c3, c4, l4, q4, u4⟩ ⟨hl, n1, n2, n3⟩
   dsimp only at hl n1 n2 n3 ⊢
   subst hl
   with_reducible repeat' (first | apply dP | apply dX <;> intro _)
   · trivial
   · rename_i hc _
     obtain ⟨n4, n5, n6⟩ := n3 hc
     refine dZ (e68 hz [44] q4 (by omega) n2) ?_
     rintro ⟨ok5, l5, q5, u5⟩ ⟨hl, o1, o2, o3⟩
     dsimp only at hl o1 o2 o3 ⊢
     subst hl
     refine dP ⟨⟨rfl, rfl, rfl, ⟨by first | omega | (dsimp only; omega), o2, ?_, ?_⟩, ?_⟩, by first | omega | (dsimp only; omega)⟩
     · simp only [List.flatMap_append, List.flatMap_cons, List.flatMap_nil, List.append_nil, List.length_append]; omega
     · simp only [List.length_append, List.length_cons, List.length_nil]; omega
     · intro b hb
       simp only [List.flatMap_append, List.flatMap_cons, List.flatMap_nil, List.append_nil, List.mem_append] at hb
       exact hb.elim (i5 b) (n6 b)
   · rename_i hc hn
     refine dO (hn ?_)
     simp only [List.length_cons, List.length_nil]; omega
 · exact ⟨rfl, rfl, ⟨by first | omega | (dsimp only; omega), by first | omega | (dsimp only; omega)⟩, i5⟩
end
section
variable {T : List R6} {A : List R4} {B : List R3}
theorem e70 (h : TK T A B) (bs : List Bx) (hb : ∀ b ∈ bs, OkB b) : Df (C70 (T, A, B, bs, ())) (fun _ => True) := by
 unfold C70 F70
 dsimp only
 with_reducible repeat' (first | apply dP | apply dX <;> intro _)
 · trivial
 · rename_i hl
   refine dZ (P := fun _ => True) ?_ (fun z _ => by cases z <;> exact dP trivial)
   refine dL ?I ?m ?h _ ?hv ?hn
   case I => exact (fun v => v.1 = bs ∧ v.2.1 = bs.length ∧ 0 ≤ v.2.2.1 ∧ (v.2.2.2.1, v.2.2.2.2.1, v.2.2.2.2.2.1) = (T, A, B))
   case m => exact (fun v => (bs.length - v.2.2.1).toNat)
   case hv => exact ⟨rfl, rfl, Int.le_refl _, rfl⟩
   case hn => exact (by first | omega | (dsimp only; omega))
   rintro ⟨bs', n, k, T', A', B', u⟩ ⟨h1, h2, h3, ht⟩
   dsimp only at h1 h2 h3 ht
   subst h1
   subst h2
   cases ht
   unfold F70_l0
   dsimp only
   with_reducible repeat' (first | apply dP | apply dX <;> intro _)
   · rename_i hk _
     have hg : (bs'.getD k.toNat ([], [])) ∈ bs' := by
      rw [getD_lt (by omega)]; exact List.getElem_mem _
     obtain ⟨q1, q2⟩ := hb _ hg
     refine dZ (d44 h _ _ (by omega) q2) ?_
     rintro ⟨e, u⟩ -
     dsimp only
     with_reducible repeat' (first | apply dP | apply dX <;> intro _)
     · trivial
     · rw [w64s (by omega)]
       exact ⟨⟨rfl, rfl, by first | omega | (dsimp only; omega), rfl⟩, by first | omega | (dsimp only; omega)⟩
   · refine dO ?_; omega
   · trivial
theorem e30 (h : TK T A B) (s : List UInt8) (hs : s.length ≤ 1400) : Df (C30 (T, A, B, s, ())) (fun _ => True) := by
 unfold C30 F30
 dsimp only
 rw [c11 s]
 have hz := lexR_sz s
 simp only [Option.bind_some]
 generalize (lexR s).1 = l at hz ⊢
 with_reducible repeat' (first | apply dP | apply dX <;> intro _)
 · trivial
 · refine dZ (e30_0 (l := l) (by omega) T A B) ?_
   intro z hzz
   refine dS hzz ?_ (fun _ _ => dP trivial)
   rintro ⟨l0, A', B', C', l', q, acc, u⟩ ⟨h1, ht, ⟨h2, h3⟩, h4⟩
   dsimp only at h1 ht h2 h3 h4 ⊢
   cases ht
   with_reducible repeat' (first | apply dP | apply dX <;> intro _)
   · trivial
   · rw [c31' acc (by omega) (Nat.le_trans h2 (by decide))]
     simp only [Option.bind_some]
     refine dZ (e70 h _ h4) ?_
     rintro ⟨e, u⟩ -
     dsimp only
     with_reducible repeat' (first | apply dP | apply dX <;> intro _)
     · trivial
     · trivial
end
def tkB : Bool := match C18 () with
 | some (T, A, B, _) => (decide (T.length ≤ 1000000000000) && T.all fun e => decide (0 ≤ e.2.2.2.1) && decide (e.2.2.2.1 < 8)) && (decide (A.length ≤ 1000000000000) && decide (B.length ≤ 1000000000000))
 | none => false
theorem tkB_k : tkB = true := by kernel_rfl
theorem tk : ∃ T A B, C18 () = some (T, A, B, ()) ∧ TK T A B := by
 have h := tkB_k
 unfold tkB at h
 cases hc : C18 () with
 | none => rw [hc] at h; cases h
 | some y =>
  obtain ⟨T, A, B, u⟩ := y
  rw [hc] at h
  simp only [Bool.and_eq_true, decide_eq_true_eq, List.all_eq_true] at h
  exact ⟨T, A, B, rfl, ⟨h.1.1, h.1.2⟩, h.2.1, h.2.2⟩
theorem head9 : C29 () = some (true, ()) := by kernel_rfl
theorem c70one (T A B) (m : Bx) (e : Int) (h44 : C44 (T, A, B, m.1, m.2, ()) = some (e, ())) : C70 (T, A, B, [m], ()) = some (e, ()) := by
 have hl : C70_l0 ([m], 1, 0, T, A, B, ()) = some (if e = 0 then .inl () else .inr (e, ())) := by
  obtain ⟨n, hn⟩ : ∃ n, big = n + 2 := ⟨big - 2, by unfold big; omega⟩
  show loopN (F70_l0 C44) big _ = _
  rw [hn]
  by_cases he : e = 0
  · subst he
    rw [loopN_inl (v' := ([m], 1, 1, T, A, B, ())) (by simp only [F70_l0]; simp only [List.length_cons, List.length_nil, List.getD_cons_zero, Int.toNat_zero, h44, Option.bind_some]; rfl)]
    exact loopN_inr rfl
  · rw [if_neg he]
    refine loopN_inr ?_
    simp only [F70_l0]
    simp only [List.length_cons, List.length_nil, List.getD_cons_zero, Int.toNat_zero, h44, Option.bind_some, inT he]
    rfl
 show F70 C44 C70_l0 _ = _
 simp only [F70, List.length_cons, List.length_nil]
 rw [decide_eq_false (by omega)]
 have hl' : C70_l0 ([m], ((0 + 1 : Nat) : Int), 0, T, A, B, ()) = _ := hl
 simp only [cond_false, hl', Option.bind_some]
 by_cases he : e = 0
 · rw [if_pos he]; subst he; rfl
 · rw [if_neg he]; rfl
theorem c30one (T A B) (s : List UInt8) (o : Int) (l : List Tok) (hR : lexR s = (l, o, 0)) (hz : szT l + l.length ≤ 2900) (r : List UInt8 × List UInt8 × Nat) (hm : mt l = some r) (hr : r.2.2 = l.length) (e : Int) (h44 : C44 (T, A, B, r.1, r.2.1, ()) = some (e, ())) :
 C30 (T, A, B, s, ()) = some (if e = 0 then ([([], false, [(r.1, r.2.1)])], 0, ()) else ([], e, ())) := by
 have h67 := c11 s
 rw [hR] at h67
 have h143 := c143 l 0 (Nat.zero_le _) (by omega)
 simp only [Int.natCast_zero, List.drop_zero, hm, hr, Nat.zero_add] at h143
 have h107 : C107 (l, 0, ()) = some ([], false, [(r.1, r.2.1)], true, l, (l.length : Int), ()) := by
  show F107 C143 C144 C145 C68 C107_c0 _ = _
  simp only [F107, h143, Option.bind_some, cond_true]
 have h69 : C69 (l, 0, ()) = some ([], false, [(r.1, r.2.1)], true, l, (l.length : Int), ()) := by
  show F69 C107 C108 _ = _
  simp only [F69, h107, Option.bind_some, cond_true]
 have h68 := c68 [44] l l.length (by omega)
 have hs : isS [44] l l.length = false := by unfold isS; rw [List.getElem?_eq_none (Nat.le_refl _)]
 rw [hs] at h68
 simp only [cond_false, Nat.add_zero] at h68
 have hl : C30_l0 (l, true, T, A, B, l, 0, [], ()) = some (.inl (l, T, A, B, l, (l.length : Int), [([], false, [(r.1, r.2.1)])], ())) := by
  obtain ⟨n, hn⟩ : ∃ n, big = n + 2 := ⟨big - 2, by unfold big; omega⟩
  show loopN (F30_l0 C31 C67 C68 C69 C70) big _ = _
  rw [hn]
  rw [loopN_inl (v' := (l, false, T, A, B, l, (l.length : Int), [([], false, [(r.1, r.2.1)])], ())) (by simp only [F30_l0, cond_true, h69, Option.bind_some, Bool.not_true, cond_false, h68]; rfl)]
  exact loopN_inr (by simp only [F30_l0, cond_false])
 have h31 := c31' [([], false, [(r.1, r.2.1)])] (by simp) (by simp)
 simp only [List.flatMap_cons, List.flatMap_nil, List.append_nil] at h31
 have h70 := c70one T A B (r.1, r.2.1) e h44
 show F30 C31 C67 C68 C69 C70 C30_l0 _ = _
 simp only [F30, h67, Option.bind_some, inF (rfl : (0 : Int) = 0), cond_false, hl, Sum.elim_inl, h31, h70]
 rw [decide_eq_false (by omega)]
 simp only [cond_false]
 by_cases he : e = 0
 · subst he; rfl
 · rw [inT he, if_neg he]; rfl
theorem c9law (s : List UInt8) : C9 (s, ()) = some (true, ()) := by
 obtain ⟨T, A, B, h18, hT⟩ := tk
 show F9 C18 C29 C30 C32 C9_c0 _ = _
 simp only [F9, head9, Option.bind_some]
 by_cases hs : (s.length : Int) > 300
 · rw [decide_eq_true hs]; rfl
 rw [decide_eq_false hs]
 simp only [cond_false, h18, Option.bind_some]
 have h67 := c11 s
 have hz := lexR_sz s
 obtain ⟨y, e30, -⟩ := e30 hT s (by omega)
 obtain ⟨y1, y2, u⟩ := y
 have form : C32 (T, A, B, s, ()) = some ([], [], 4, ()) → ((C32 (T, A, B, s, ())).bind fun val_2 => (C30 (T, A, B, s, ())).bind fun val_3 =>
  bif val_2.snd.snd.fst != 0 then bif true then bif val_2.snd.snd.fst == 4 then some (true, ()) else some (val_3.snd.fst == val_2.snd.snd.fst, ()) else some (false, ())
  else (C9_c0 (true, val_3.fst, val_3.snd.fst, val_2.fst, val_2.snd.fst, ())).bind fun val => some (val.fst, ())) = some (true, ()) := fun h => by
  rw [h, e30]; rfl
 generalize hR : lexR s = R at h67 hz
 obtain ⟨l, o, e⟩ := R
 dsimp only at h67 hz
 by_cases he : e = 0
 · subst he
   have h71 := c71 l (by omega)
   cases hm : mt l with
   | none =>
    rw [hm] at h71
    refine form ?_
    show F32 C44 C67 C71 _ = _
    simp only [F32, h67, Option.bind_some, h71]
    rfl
   | some r =>
    rw [hm] at h71
    by_cases hr : r.2.2 = l.length
    · obtain ⟨z1, z2, z3⟩ := mt_sz l hm
      obtain ⟨⟨e', u'⟩, h44, -⟩ := d44 hT r.1 r.2.1 (by omega) (by omega)
      have h30 := c30one T A B s o l hR (by omega) r hm hr e' h44
      have h32 : C32 (T, A, B, s, ()) = some (if e' = 0 then (r.1, r.2.1, 0, ()) else ([], [], e', ())) := by
       show F32 C44 C67 C71 _ = _
       simp only [F32, h67, Option.bind_some, h71, inF (rfl : (0 : Int) = 0), cond_false, Bool.not_true, inF (show ((r.2.2 : Nat) : Int) = (l.length : Int) by rw [hr]), h44]
       by_cases he : e' = 0
       · subst he; rfl
       · rw [inT he, if_neg he]; rfl
      simp only [h32, h30, Option.bind_some]
      by_cases he : e' = 0
      · subst he
        simp only [if_true, inF (rfl : (0 : Int) = 0), cond_false]
        have hc : C9_c0 (true, [([], false, [(r.1, r.2.1)])], 0, r.1, r.2.1, ()) = some (true, ()) := by
         show F9_c0 C18 C29 C30 C32 _ = _
         simp [F9_c0]
        simp only [hc, Option.bind_some]
      · simp only [if_neg he, inT he, cond_true, beq_self_eq_true]
        cases e' == 4 <;> rfl
    · refine form ?_
      show F32 C44 C67 C71 _ = _
      simp only [F32, h67, Option.bind_some, h71, inF (rfl : (0 : Int) = 0), cond_false, Bool.not_true, inT (show ((r.2.2 : Nat) : Int) ≠ (l.length : Int) by omega), cond_true]
 · have h32 : C32 (T, A, B, s, ()) = some ([], [], e, ()) := by
    show F32 C44 C67 C71 _ = _
    simp only [F32, h67, Option.bind_some, inT he, cond_true]
   have h30 : C30 (T, A, B, s, ()) = some ([], e, ()) := by
    show F30 C31 C67 C68 C69 C70 C30_l0 _ = _
    simp only [F30, h67, Option.bind_some, inT he, cond_true]
   simp only [h32, h30, Option.bind_some, inT he, cond_true, beq_self_eq_true]
   cases e == 4 <;> rfl
end Go.Proofs.YtiacnhhmkdkpmaaGreatDoorA.W
namespace Go.Proofs.YtiacnhhmkdkpmaaGreatDoorA.PListOne
open Go Go.Ae Go.Proofs.YtiacnhhmkdkpmaaGreatDoorA.W
theorem pure (x0 : Ty.str.den) (b0 : Bd Ty.str x0) : C9 (x0, ()) = some (true, ()) := c9law x0
end Go.Proofs.YtiacnhhmkdkpmaaGreatDoorA.PListOne
namespace Go.Proofs.YtiacnhhmkdkpmaaGreatDoor
open Go Go.Ae Go.RowKit
theorem glob {W : World} {p : Prop} (hL : p) (hsh : W.ShapedOpen Tryz.prog) : GI W m0 := by
 obtain ⟨m, hm⟩ := Go.Proofs.cell_of_shapedOpen_int (g := 2) (k := .i64) (t := 3) (zero := #[.int .i64 0]) hsh (of_decide_eq_true (by kernel_rfl)) (by kernel_rfl) (by kernel_rfl) (by kernel_rfl) (by kernel_rfl) (by kernel_rfl)
 refine ⟨⟨m, hm⟩, fun b hb => ⟨?_, fun h => h⟩⟩
 simp only [GlobB, List.mem_cons, List.not_mem_nil, or_false] at hb
 subst hb
 exact lt_of_cell hm
end Go.Proofs.YtiacnhhmkdkpmaaGreatDoor
