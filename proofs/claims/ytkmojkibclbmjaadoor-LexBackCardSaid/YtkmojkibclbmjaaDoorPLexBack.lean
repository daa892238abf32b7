/- The plain law: what was cut, told and cut again. -/
import Derived.Test.YtkmojkibclbmjaaDoorPL9
set_option linter.unusedVariables false
set_option linter.unusedSimpArgs false
set_option maxRecDepth 100000
namespace Go.Proofs.YtkmojkibclbmjaaDoor.W
open Go Go.Ae
def isQ (x : Tok) : Bool := x.1 == 1
theorem gdt {α : Type} {pre r : List α} {c d : α} {l : List α} {p : Nat} (hl : l = pre ++ c :: r) (h : pre.length = p) : l.getD p d = c := by subst hl; exact gd h
theorem srcs_cons (x : Tok) (l : List Tok) : srcs (x :: l) = src x.1 x.2.1 ++ srcs l := rfl
theorem srcs_app (a b : List Tok) : srcs (a ++ b) = srcs a ++ srcs b := by simp [srcs]
theorem src_len (k : Int) (t : List UInt8) : (src k t).length ≤ 2 * t.length + 2 := by
  have := esc_len t
  unfold src; split
  · simp; omega
  · split
    · simp; omega
    · split
      · simp; omega
      · omega
theorem srcs_bd : ∀ l : List Tok, (∀ x ∈ l, x.2.1.length ≤ 900) → (srcs l).length ≤ 2000 * l.length
  | [], _ => by simp [srcs]
  | x :: l, h => by
    have h1 := srcs_bd l fun y hy => h y (by simp [hy])
    have h2 := h x (by simp)
    have h3 := src_len x.1 x.2.1
    rw [srcs_cons, List.length_append, List.length_cons]; omega
theorem l40 (s : List UInt8) (l : List Tok) (hl0 : l.length ≤ 1000) (ht : ∀ x ∈ l, x.2.1.length ≤ 900) : ∀ (rest pre : List Tok) (i n : Nat), l = pre ++ rest → pre.length = i → rest.length < n →
    loopN (F4_l0 C9) n (s, true, l, srcs pre, pre.any isQ, (i : Int), ()) = some (s, true, l, srcs l, l.any isQ, ())
  | _, _, _, 0, _, _, hn => by omega
  | [], pre, i, n + 1, hl, hi, hn => by
    refine loopN_inr ?_
    have h1 : l.length = i := by rw [hl]; simp [hi]
    have h2 : pre = l := by rw [hl]; simp
    subst h2
    simp (disch := (first | omega | (simp only [List.length_append, List.length_cons, List.length_nil]; omega))) only [F4_l0, h1, decide_eq_true, decide_eq_false, cond_true, cond_false, Bool.and_self, Bool.true_and, Bool.and_true, Bool.false_and, Bool.and_false, Bool.not_true, Bool.not_false, List.length_append, List.length_cons, List.length_nil, Int.toNat_natCast, ibT, ibF, inT, inF, wrN, gd, dr, Option.bind_some, Sum.elim_inl, Sum.elim_inr, byte_back, of_to]
  | x :: rest, pre, i, n + 1, hl, hi, hn => by
    simp only [List.length_cons] at hn
    have h1 : l.length = i + (rest.length + 1) := by rw [hl]; simp [hi]
    have hg : l.getD i (0, ([], 0)) = x := gdt hl hi
    have hx : x.2.1.length ≤ 900 := ht x (by rw [hl]; simp)
    have h9 := c9 x.1 x.2.1 x.2.2 (by omega)
    have hp := srcs_bd pre fun y hy => ht y (by rw [hl]; simp [hy])
    have hs := src_len x.1 x.2.1
    have hpl : pre.length ≤ 1000 := by omega
    have next : F4_l0 C9 (s, true, l, srcs pre, pre.any isQ, (i : Int), ()) = some (.inl (s, true, l, srcs (pre ++ [x]), (pre ++ [x]).any isQ, ((i + 1 : Nat) : Int), ())) := by
      have e1 : srcs (pre ++ [x]) = srcs pre ++ src x.1 x.2.1 := by rw [srcs_app]; simp [srcs]
      have e2 : (pre ++ [x]).any isQ = (pre.any isQ || (x.1 == 1)) := by simp [isQ]
      rw [e1, e2]
      have hlen : (srcs pre).length + (src x.1 x.2.1).length ≤ 9223372036854775807 := by omega
      cases hq : pre.any isQ with
      | true => simp (disch := (first | omega | (simp only [List.length_append, List.length_cons, List.length_nil]; omega))) only [F4_l0, decide_eq_true, decide_eq_false, cond_true, cond_false, Bool.and_self, Bool.true_or, Int.toNat_natCast, hg, h9, Option.bind_some, wrN]
      | false => simp (disch := (first | omega | (simp only [List.length_append, List.length_cons, List.length_nil]; omega))) only [F4_l0, decide_eq_true, decide_eq_false, cond_true, cond_false, Bool.and_self, Bool.false_or, Int.toNat_natCast, hg, h9, Option.bind_some, wrN]
    rw [loopN_inl next]
    exact l40 s l hl0 ht rest (pre ++ [x]) (i + 1) n (by rw [hl]; simp) (by simp [hi]) (by omega)
theorem same_len : ∀ {a b : List Tok}, sameL a b → a.length = b.length
  | [], [], _ => rfl
  | x :: a, y :: b, h => by simp [same_len h.2.2]
  | [], y :: b, h => h.elim
  | x :: a, [], h => h.elim
theorem bnF {a b : List UInt8} (h : a = b) : (!(a == b)) = false := by subst h; simp
theorem l41 (l m : List Tok) (hl0 : l.length ≤ 1000) (hm0 : m.length ≤ 1000) : ∀ (rest rest' pre pre' : List Tok) (i n : Nat), l = pre ++ rest → m = pre' ++ rest' → pre.length = i → pre'.length = i → sameL rest rest' → rest.length < n →
    loopN F4_l1 n (true, l, m, (i : Int), ()) = some (.inl (true, ()))
  | _, _, _, _, _, 0, _, _, _, _, _, hn => by omega
  | [], _, pre, pre', i, n + 1, hl, hm, hi, hi', hs, hn => by
    refine loopN_inr ?_
    have h1 : l.length = i := by rw [hl]; simp [hi]
    simp (disch := (first | omega | (simp only [List.length_append, List.length_cons, List.length_nil]; omega))) only [F4_l1, h1, decide_eq_true, decide_eq_false, cond_true, cond_false, Bool.and_self, Bool.true_and, Bool.and_true, Bool.false_and, Bool.and_false, Bool.not_true, Bool.not_false, List.length_append, List.length_cons, List.length_nil, Int.toNat_natCast, ibT, ibF, inT, inF, wrN, gd, dr, Option.bind_some, Sum.elim_inl, Sum.elim_inr, byte_back, of_to]
  | x :: rest, [], pre, pre', i, n + 1, hl, hm, hi, hi', hs, hn => hs.elim
  | x :: rest, y :: rest', pre, pre', i, n + 1, hl, hm, hi, hi', hs, hn => by
    simp only [List.length_cons] at hn
    have h1 : l.length = i + (rest.length + 1) := by rw [hl]; simp [hi]
    have h2 : m.length = i + (rest'.length + 1) := by rw [hm]; simp [hi']
    have hg : l.getD i (0, ([], 0)) = x := gdt hl hi
    have hg' : m.getD i (0, ([], 0)) = y := gdt hm hi'
    obtain ⟨s1, s2, s3⟩ := hs
    have next : F4_l1 (true, l, m, (i : Int), ()) = some (.inl (true, l, m, ((i + 1 : Nat) : Int), ())) := by
      have e1 := bnF s2.symm
      simp (disch := (first | omega | (simp only [List.length_append, List.length_cons, List.length_nil]; omega))) only [F4_l1, decide_eq_true, decide_eq_false, cond_true, cond_false, Bool.and_self, Int.toNat_natCast, hg, hg', inF, e1, wrN]
    rw [loopN_inl next]
    exact l41 l m hl0 hm0 rest rest' (pre ++ [x]) (pre' ++ [y]) (i + 1) n (by rw [hl]; simp) (by rw [hm]; simp) (by simp [hi]) (by simp [hi']) s3 (by omega)
theorem lexs_len' : ∀ (m : Nat) (s : List UInt8) (p : Nat) (l : List Tok), s.length ≤ m → lexs s p = .inl l → l.length ≤ s.length
  | _, [], p, l, _, h => by rw [lexs_nil] at h; cases h; simp
  | 0, c :: r, p, l, hm, h => by simp at hm
  | m + 1, c :: r, p, l, hm, h => by
    obtain ⟨k, t, u, l', h1, h2, rfl⟩ := lexs_inl h
    have hu := one_used h1
    have := lexs_len' m _ _ _ (by simp at hm ⊢; omega) h2
    simp only [List.length_drop, List.length_cons] at this ⊢
    omega
end Go.Proofs.YtkmojkibclbmjaaDoor.W
namespace Go.Proofs.YtkmojkibclbmjaaDoor.PLexBack
open Go Go.Ae Go.Proofs.YtkmojkibclbmjaaDoor.W
theorem pure (x0 : Ty.str.den) (b0 : Bd Ty.str x0) : C4 (x0, ()) = some (true, ()) := by
  show F4 C8 C9 C11 C4_l0 C4_l1 ((x0 : List UInt8), ()) = _
  change List UInt8 at x0
  generalize x0 = s
  have h8 : C8 () = some (true, ()) := rfl
  by_cases h : 900 < s.length
  · simp (disch := (first | omega | (simp only [List.length_append, List.length_cons, List.length_nil]; omega))) only [F4, C8, decide_eq_true, decide_eq_false, cond_true, cond_false, Bool.and_self, Bool.true_and, Bool.and_true, Bool.false_and, Bool.and_false, Bool.not_true, Bool.not_false, List.length_append, List.length_cons, List.length_nil, Int.toNat_natCast, ibT, ibF, inT, inF, wrN, gd, dr, Option.bind_some, Sum.elim_inl, Sum.elim_inr, byte_back, of_to]
  · have h11 := c11 s
    have hR : lexR s = end2 (utf s) (lexs s 0) := by unfold lexR; rw [if_neg (by omega)]
    cases hu : utf s with
    | some b =>
      rw [hR, hu] at h11
      simp only [end2] at h11
      simp (disch := (first | omega | (simp only [List.length_append, List.length_cons, List.length_nil]; omega))) only [F4, h8, h11, decide_eq_true, decide_eq_false, cond_true, cond_false, inT, ibT, Option.bind_some, List.length_nil]
    | none =>
      rw [hR, hu] at h11
      cases hl : lexs s 0 with
      | inr x =>
        obtain ⟨b, e⟩ := x
        obtain ⟨g1, g2⟩ := lexs_err _ s 0 b e (Nat.le_refl _) hl
        rw [hl] at h11
        simp only [end2, end1] at h11
        have he0 : (e != 0) = true := by rcases g2 with rfl | rfl <;> rfl
        simp (disch := (first | omega | (simp only [List.length_append, List.length_cons, List.length_nil]; omega))) only [F4, h8, h11, decide_eq_true, decide_eq_false, cond_true, cond_false, he0, ibT, Option.bind_some, List.length_nil]
      | inl l =>
        have hll := lexs_len' _ s 0 l (Nat.le_refl _) hl
        obtain ⟨g1, g2, g3⟩ := srcs_len _ s 0 l (Nat.le_refl _) hl
        rw [hl] at h11
        simp only [end2, end1] at h11
        obtain ⟨_, _, hre⟩ := relex _ s 0 l (Nat.le_refl _) hl
        obtain ⟨m, hm, hsame⟩ := hre 0
        have hv : utf (srcs l) = none := (utf_val (by omega)).2 (val_srcs _ s 0 l (Nat.le_refl _) hl ((utf_val (by omega)).1 hu))
        have hR2 : lexR (srcs l) = (m, 0, 0) := by
          unfold lexR
          rw [if_neg (by omega), hv, hm]; rfl
        have h11' := c11 (srcs l)
        rw [hR2] at h11'
        have hml := same_len hsame
        have h40 := l40 s l (by omega) (fun x hx => by have := g2 x hx; omega) l [] 0 big rfl rfl (by unfold big; omega)
        have h40' : C4_l0 (s, true, l, [], false, 0, ()) = some (s, true, l, srcs l, l.any isQ, ()) := h40
        have h41 := l41 l m (by omega) (by omega) l m [] [] 0 big rfl rfl rfl rfl hsame (by unfold big; omega)
        have h41' : C4_l1 (true, l, m, 0, ()) = some (.inl (true, ())) := h41
        cases hq : l.any isQ with
        | true =>
          rw [hq] at h40'
          simp (disch := (first | omega | (simp only [List.length_append, List.length_cons, List.length_nil]; omega))) only [F4, h8, h11, h11', decide_eq_true, decide_eq_false, cond_true, cond_false, inF, Option.bind_some, h40', h41', Sum.elim_inl, Bool.not_true]
        | false =>
          rw [hq] at h40'
          have hout : srcs l = s := g3 fun x hx hk => by
            have := List.any_eq_false.1 hq x hx
            simp [isQ, hk] at this
          have e1 := bnF hout
          simp (disch := (first | omega | (simp only [List.length_append, List.length_cons, List.length_nil]; omega))) only [F4, h8, h11, h11', decide_eq_true, decide_eq_false, cond_true, cond_false, inF, Option.bind_some, h40', h41', Sum.elim_inl, Bool.not_false, e1]
end Go.Proofs.YtkmojkibclbmjaaDoor.PLexBack
