/- The plain law: notes in one another. -/
import Derived.Test.YtkmojkibclbmjaaDoorPL6
set_option linter.unusedVariables false
set_option linter.unusedSimpArgs false
set_option maxRecDepth 100000
namespace Go.Proofs.YtkmojkibclbmjaaDoor.W
open Go Go.Ae
/-! ### Plain -/
def plainB (s : List UInt8) : Bool := s.all atomB && !(s == [])
theorem l12 (s : List UInt8) : ∀ (r pre : List UInt8) (k n : Nat), s = pre ++ r → pre.length = k → r.length < n → k + r.length ≤ 1000000000000 →
    loopN (F12_l0 C17) n (s, (s.length : Int), (k : Int), ()) = some (bif r.all atomB then .inl (s, ()) else .inr (false, ()))
  | _, _, _, 0, _, _, hn, _ => by omega
  | [], pre, k, n + 1, hs, hk, hn, hb => by
    refine loopN_inr ?_
    have : s.length = k := by rw [hs]; simp [hk]
    simp (disch := (first | omega | (simp only [List.length_append, List.length_cons, List.length_nil]; omega))) only [F12_l0, this, decide_eq_true, decide_eq_false, cond_true, cond_false, Bool.and_self, Bool.true_and, Bool.and_true, Bool.false_and, Bool.and_false, Bool.not_true, Bool.not_false, List.length_append, List.length_cons, List.length_nil, Int.toNat_natCast, ibT, ibF, inT, inF, wrN, gd, dr, Option.bind_some, Sum.elim_inl, Sum.elim_inr, byte_back, of_to, List.all_nil]
  | c :: r, pre, k, n + 1, hs, hk, hn, hb => by
    simp only [List.length_cons] at hn hb
    have hl : s.length = k + (r.length + 1) := by rw [hs]; simp [hk]
    have hg : s.getD k 0 = c := by rw [hs]; exact gd hk
    cases h : atomB c with
    | true =>
      rw [loopN_inl (v' := (s, (s.length : Int), ((k + 1 : Nat) : Int), ())) (by simp (disch := (first | omega | (simp only [List.length_append, List.length_cons, List.length_nil]; omega))) only [F12_l0, hl, hg, decide_eq_true, decide_eq_false, cond_true, cond_false, Bool.and_self, Bool.true_and, Bool.and_true, Bool.false_and, Bool.and_false, Bool.not_true, Bool.not_false, List.length_append, List.length_cons, List.length_nil, Int.toNat_natCast, ibT, ibF, inT, inF, wrN, gd, dr, Option.bind_some, Sum.elim_inl, Sum.elim_inr, byte_back, of_to, c17, h])]
      rw [l12 s r (pre ++ [c]) (k + 1) n (by rw [hs]; simp) (by simp [hk]) (by omega) (by omega)]
      simp [h]
    | false =>
      refine loopN_inr ?_
      simp (disch := (first | omega | (simp only [List.length_append, List.length_cons, List.length_nil]; omega))) only [F12_l0, hl, hg, decide_eq_true, decide_eq_false, cond_true, cond_false, Bool.and_self, Bool.true_and, Bool.and_true, Bool.false_and, Bool.and_false, Bool.not_true, Bool.not_false, List.length_append, List.length_cons, List.length_nil, Int.toNat_natCast, ibT, ibF, inT, inF, wrN, gd, dr, Option.bind_some, Sum.elim_inl, Sum.elim_inr, byte_back, of_to, c17, h, List.all_cons]
theorem c12 (s : List UInt8) (hb : s.length ≤ 1000000000000) : C12 (s, ()) = some (plainB s, ()) := by
  have hl := l12 s s [] 0 big rfl rfl (by unfold big; omega) (by omega)
  have hl' : C12_l0 (s, (s.length : Int), 0, ()) = _ := hl
  show F12 C17 C12_l0 (s, ()) = _
  simp only [F12, hl', Option.bind_some, plainB]
  cases s.all atomB with
  | true => simp only [cond_true, Sum.elim_inl]; cases s == [] <;> rfl
  | false => rfl
/-! ### Where all is ASCII -/
def asciiB (c : UInt8) : Bool := decide (c.toNat < 128)
theorem asc_k : ((List.range 256).all fun n => (fun c : UInt8 => !asciiB c || (decide (leadN c = 0) && decide (lenR (leadV c) = 1))) (UInt8.ofNat n)) = true := by kernel_rfl
theorem ch_asc {c : UInt8} (h : c.toNat < 128) (r : List UInt8) : ch (c :: r) = 1 := by
  have h1 : (!asciiB c || (decide (leadN c = 0) && decide (lenR (leadV c) = 1))) = true := all256 (fun c : UInt8 => !asciiB c || (decide (leadN c = 0) && decide (lenR (leadV c) = 1))) asc_k c
  have h2 : asciiB c = true := by simp [asciiB, h]
  simp only [h2, Bool.not_true, Bool.false_or, Bool.and_eq_true, decide_eq_true_eq] at h1
  simp [ch, h1.1, conts, h1.2]
theorem ut_asc : ∀ (n : Nat) (s : List UInt8) (p : Nat), (∀ c ∈ s, c.toNat < 128) → ut n s p = none
  | 0, _, _, _ => rfl
  | n + 1, [], p, _ => by simp [ut]
  | n + 1, c :: r, p, h => by
    have := ch_asc (h c (by simp)) r
    simp only [ut, this, List.drop_succ_cons, List.drop_zero]
    simp only [reduceCtorEq, if_false, Nat.one_ne_zero]
    exact ut_asc n r (p + 1) fun c hc => h c (by simp [hc])
/-! ### notes -/
def plainK (c : UInt8) : Bool := !atomB c || (mayB c && !decide (c.toNat = 40 ∨ c.toNat = 41 ∨ c.toNat = 92))
theorem plain_k : ((List.range 256).all fun n => plainK (UInt8.ofNat n)) = true := by kernel_rfl
theorem atom_may {c : UInt8} (h : atomB c = true) : mayB c = true ∧ ¬ c.toNat = 40 ∧ ¬ c.toNat = 41 ∧ ¬ c.toNat = 92 := by
  have := all256 plainK plain_k c
  simp only [plainK, h, Bool.not_true, Bool.false_or, Bool.and_eq_true, Bool.not_eq_true', decide_eq_false_iff_not, not_or] at this
  exact ⟨this.1, this.2.1, this.2.2.1, this.2.2.2⟩
theorem push_push (k : Tk) (a b : List UInt8) (n m : Nat) : (k.push b m).push a n = k.push (a ++ b) (n + m) := by
  cases k <;> simp [Tk.push, Nat.add_assoc]
theorem push_nil (k : Tk) : k.push [] 0 = k := by cases k <;> simp [Tk.push]
theorem nt_plain (deep : Nat) (x : List UInt8) : ∀ s : List UInt8, s.all atomB = true → nt deep (s ++ x) = (nt deep x).push s s.length
  | [], _ => (push_nil _).symm
  | c :: s, h => by
    simp only [List.all_cons, Bool.and_eq_true] at h
    obtain ⟨h1, h2, h3, h4⟩ := atom_may h.1
    rw [List.cons_append, nt_m h2 h3 h4, h1, cond_true, nt_plain deep x s h.2, push_push]
    simp [Nat.add_comm]
theorem nt_opens (x : List UInt8) : ∀ (k deep : Nat), deep + k ≤ 32 → nt deep (List.replicate k 40 ++ x) = (nt (deep + k) x).push (List.replicate k 40) k
  | 0, deep, _ => (push_nil _).symm
  | k + 1, deep, h => by
    rw [List.replicate_succ, List.cons_append, nt_o rfl, if_neg (by omega), nt_opens x k (deep + 1) (by omega), push_push]
    rw [show deep + 1 + k = deep + (k + 1) by omega, Nat.add_comm 1 k]; rfl
theorem nt_deep (x : List UInt8) : ∀ (k deep : Nat), deep ≤ 32 → 32 < deep + k → nt deep (List.replicate k 40 ++ x) = .bad (32 - deep) 6
  | 0, deep, h, h' => by omega
  | k + 1, deep, h, h' => by
    rw [List.replicate_succ, List.cons_append, nt_o rfl]
    by_cases hd : deep + 1 > 32
    · rw [if_pos hd, show 32 - deep = 0 by omega]
    · rw [if_neg hd, nt_deep x k (deep + 1) (by omega) (by omega)]
      simp only [Tk.push]; congr 1; omega
theorem nt_closes : ∀ (d : Nat), nt (d + 1) (List.replicate (d + 1) 41) = .ok (List.replicate d 41) (d + 1)
  | 0 => by rw [show List.replicate (0 + 1) (41 : UInt8) = [41] from rfl, nt_c rfl]; rfl
  | d + 1 => by
    rw [List.replicate_succ, nt_c rfl, if_neg (by omega), show d + 1 + 1 - 1 = d + 1 by omega, nt_closes d]
    simp only [Tk.push]
    rw [List.replicate_succ]; simp [Nat.add_comm]
theorem atom_sign_k2 : (atomB 40 || signB 40) = false := by kernel_rfl
theorem one_n (r : List UInt8) : one 40 r = (3, (nt 1 r).up) := by
  have h := atom_sign_k2
  simp only [Bool.or_eq_false_iff] at h
  unfold one
  rw [if_neg (by rw [h.1]; decide), if_neg (by rw [h.2]; decide), if_neg (show ¬ UInt8.toNat 40 = 34 by decide), if_neg (show ¬ UInt8.toNat 40 = 91 by decide), if_pos (show UInt8.toNat 40 = 40 from rfl)]
def nest (n : Nat) (s : List UInt8) : List UInt8 := List.replicate n 40 ++ (s ++ List.replicate n 41)
theorem nest_succ (n : Nat) (s : List UInt8) : [40] ++ nest n s ++ [41] = nest (n + 1) s := by
  simp only [nest]
  rw [List.replicate_succ', ← List.replicate_succ', List.replicate_succ (n := n) (a := (40 : UInt8)), List.replicate_succ' (n := n) (a := (41 : UInt8))]
  simp
theorem nest_len (n : Nat) (s : List UInt8) : (nest n s).length = 2 * n + s.length := by simp [nest]; omega
theorem l60 (N : Nat) (s : List UInt8) (hN : N ≤ 60) (hs : s.length ≤ 100) : ∀ (m k n : Nat), k + m = N → m < n →
    loopN F6_l0 n ((N : Int), s, true, nest k s, (k : Int), ()) = some ((N : Int), s, true, nest N s, ())
  | _, _, 0, _, hn => by omega
  | 0, k, n + 1, hk, hn => by
    have : k = N := by omega
    subst this
    refine loopN_inr ?_
    simp (disch := (first | omega | (simp only [List.length_append, List.length_cons, List.length_nil]; omega))) only [F6_l0, decide_eq_true, decide_eq_false, cond_true, cond_false, Bool.and_self, Bool.true_and, Bool.and_true, Bool.false_and, Bool.and_false, Bool.not_true, Bool.not_false, List.length_append, List.length_cons, List.length_nil, Int.toNat_natCast, ibT, ibF, inT, inF, wrN, gd, dr, Option.bind_some, Sum.elim_inl, Sum.elim_inr, byte_back, of_to]
  | m + 1, k, n + 1, hk, hn => by
    have hl := nest_len k s
    rw [loopN_inl (v' := ((N : Int), s, true, nest (k + 1) s, ((k + 1 : Nat) : Int), ())) (by simp (disch := (first | omega | (simp only [List.length_append, List.length_cons, List.length_nil]; omega))) only [F6_l0, decide_eq_true, decide_eq_false, cond_true, cond_false, Bool.and_self, Bool.true_and, Bool.and_true, Bool.false_and, Bool.and_false, Bool.not_true, Bool.not_false, List.length_append, List.length_cons, List.length_nil, Int.toNat_natCast, ibT, ibF, inT, inF, wrN, gd, dr, Option.bind_some, Sum.elim_inl, Sum.elim_inr, byte_back, of_to, nest_succ])]
    exact l60 N s hN hs m (k + 1) n (by omega) (by omega)
theorem l61 (N : Int) (s t : List UInt8) (l : List Tok) (a e : Int) : ∀ (r pre : List UInt8) (k n : Nat), s = pre ++ r → pre.length = k → r.length < n → k + r.length ≤ 1000000000000 → (∀ c ∈ pre, c.toNat < 128) →
    ∃ j : Nat, loopN F6_l1 n (N, s, true, t, l, a, e, (k : Int), ()) = some (N, s, true, t, l, a, e, (j : Int), ()) ∧ (j < s.length ∨ ∀ c ∈ s, c.toNat < 128)
  | _, _, _, 0, _, _, hn, _, _ => by omega
  | [], pre, k, n + 1, hs, hk, hn, hb, hp => by
    have : s.length = k := by rw [hs]; simp [hk]
    refine ⟨k, loopN_inr ?_, .inr (by rw [hs]; simpa using hp)⟩
    simp (disch := (first | omega | (simp only [List.length_append, List.length_cons, List.length_nil]; omega))) only [F6_l1, this, decide_eq_true, decide_eq_false, cond_true, cond_false, Bool.and_self, Bool.true_and, Bool.and_true, Bool.false_and, Bool.and_false, Bool.not_true, Bool.not_false, List.length_append, List.length_cons, List.length_nil, Int.toNat_natCast, ibT, ibF, inT, inF, wrN, gd, dr, Option.bind_some, Sum.elim_inl, Sum.elim_inr, byte_back, of_to]
  | c :: r, pre, k, n + 1, hs, hk, hn, hb, hp => by
    simp only [List.length_cons] at hn hb
    have hl : s.length = k + (r.length + 1) := by rw [hs]; simp [hk]
    have hg : s.getD k 0 = c := by rw [hs]; exact gd hk
    by_cases h : c.toNat < 128
    · obtain ⟨j, h1, h2⟩ := l61 N s t l a e r (pre ++ [c]) (k + 1) n (by rw [hs]; simp) (by simp [hk]) (by omega) (by omega) (fun x hx => by
        rcases List.mem_append.1 hx with hx | hx
        · exact hp x hx
        · rw [List.mem_singleton.1 hx]; exact h)
      refine ⟨j, ?_, h2⟩
      rw [loopN_inl (v' := (N, s, true, t, l, a, e, ((k + 1 : Nat) : Int), ())) (by simp (disch := (first | omega | (simp only [List.length_append, List.length_cons, List.length_nil]; omega))) only [F6_l1, hl, hg, decide_eq_true, decide_eq_false, cond_true, cond_false, Bool.and_self, Bool.true_and, Bool.and_true, Bool.false_and, Bool.and_false, Bool.not_true, Bool.not_false, List.length_append, List.length_cons, List.length_nil, Int.toNat_natCast, ibT, ibF, inT, inF, wrN, gd, dr, Option.bind_some, Sum.elim_inl, Sum.elim_inr, byte_back, of_to])]
      exact h1
    · refine ⟨k, loopN_inr ?_, .inl (by omega)⟩
      simp (disch := (first | omega | (simp only [List.length_append, List.length_cons, List.length_nil]; omega))) only [F6_l1, hl, hg, decide_eq_true, decide_eq_false, cond_true, cond_false, Bool.and_self, Bool.true_and, Bool.and_true, Bool.false_and, Bool.and_false, Bool.not_true, Bool.not_false, List.length_append, List.length_cons, List.length_nil, Int.toNat_natCast, ibT, ibF, inT, inF, wrN, gd, dr, Option.bind_some, Sum.elim_inl, Sum.elim_inr, byte_back, of_to]
end Go.Proofs.YtkmojkibclbmjaaDoor.W
namespace Go.Proofs.YtkmojkibclbmjaaDoor.PLexDeep
open Go Go.Ae Go.Proofs.YtkmojkibclbmjaaDoor.W
theorem pure (x0 : (Ty.int .i64).den) (b0 : Bd (Ty.int .i64) x0) (x1 : Ty.str.den) (b1 : Bd Ty.str x1) : C6 (x0, x1, ()) = some (true, ()) := by
  show F6 C8 C11 C12 C6_l0 C6_l1 ((x0 : Int), (x1 : List UInt8), ()) = _
  change Int at x0
  change List UInt8 at x1
  generalize x1 = s
  by_cases h1 : x0 < 1
  · simp (disch := (first | omega | (simp only [List.length_append, List.length_cons, List.length_nil]; omega))) only [F6, C8, decide_eq_true, decide_eq_false, cond_true, cond_false, Bool.and_self, Bool.true_and, Bool.and_true, Bool.false_and, Bool.and_false, Bool.not_true, Bool.not_false, List.length_append, List.length_cons, List.length_nil, Int.toNat_natCast, ibT, ibF, inT, inF, wrN, gd, dr, Option.bind_some, Sum.elim_inl, Sum.elim_inr, byte_back, of_to]
  · by_cases h2 : x0 > 60
    · simp (disch := (first | omega | (simp only [List.length_append, List.length_cons, List.length_nil]; omega))) only [F6, C8, decide_eq_true, decide_eq_false, cond_true, cond_false, Bool.and_self, Bool.true_and, Bool.and_true, Bool.false_and, Bool.and_false, Bool.not_true, Bool.not_false, List.length_append, List.length_cons, List.length_nil, Int.toNat_natCast, ibT, ibF, inT, inF, wrN, gd, dr, Option.bind_some, Sum.elim_inl, Sum.elim_inr, byte_back, of_to]
    · by_cases h3 : 100 < s.length
      · simp (disch := (first | omega | (simp only [List.length_append, List.length_cons, List.length_nil]; omega))) only [F6, C8, decide_eq_true, decide_eq_false, cond_true, cond_false, Bool.and_self, Bool.true_and, Bool.and_true, Bool.false_and, Bool.and_false, Bool.not_true, Bool.not_false, List.length_append, List.length_cons, List.length_nil, Int.toNat_natCast, ibT, ibF, inT, inF, wrN, gd, dr, Option.bind_some, Sum.elim_inl, Sum.elim_inr, byte_back, of_to]
      · obtain ⟨N, rfl⟩ : ∃ N : Nat, x0 = N := ⟨x0.toNat, by omega⟩
        have h12 := c12 s (by omega)
        cases hp : plainB s with
        | false => simp (disch := (first | omega | (simp only [List.length_append, List.length_cons, List.length_nil]; omega))) only [F6, C8, decide_eq_true, decide_eq_false, cond_true, cond_false, Bool.and_self, Bool.true_and, Bool.and_true, Bool.false_and, Bool.and_false, Bool.not_true, Bool.not_false, List.length_append, List.length_cons, List.length_nil, Int.toNat_natCast, ibT, ibF, inT, inF, wrN, gd, dr, Option.bind_some, Sum.elim_inl, Sum.elim_inr, byte_back, of_to, h12, hp]
        | true =>
          have h60 := l60 N s (by omega) (by omega) N 0 big (by omega) (by unfold big; omega)
          have h60' : C6_l0 ((N : Int), s, true, s, 0, ()) = some ((N : Int), s, true, nest N s, ()) := by
            show loopN F6_l0 big _ = _
            simpa [nest] using h60
          have h11 := c11 (nest N s)
          obtain ⟨j, h61, hj⟩ := l61 N s (nest N s) (lexR (nest N s)).1 (lexR (nest N s)).2.1 (lexR (nest N s)).2.2 s [] 0 big rfl rfl (by unfold big; omega) (by omega) (by simp)
          have h61' : C6_l1 ((N : Int), s, true, nest N s, (lexR (nest N s)).1, (lexR (nest N s)).2.1, (lexR (nest N s)).2.2, 0, ()) = _ := h61
          simp (disch := (first | omega | (simp only [List.length_append, List.length_cons, List.length_nil]; omega))) only [F6, C8, decide_eq_true, decide_eq_false, cond_true, cond_false, Bool.and_self, Bool.true_and, Bool.and_true, Bool.false_and, Bool.and_false, Bool.not_true, Bool.not_false, List.length_append, List.length_cons, List.length_nil, Int.toNat_natCast, ibT, ibF, inT, inF, wrN, gd, dr, Option.bind_some, Sum.elim_inl, Sum.elim_inr, byte_back, of_to, h12, hp, h60', h11, h61']
          by_cases hjs : j < s.length
          · simp (disch := (first | omega | (simp only [List.length_append, List.length_cons, List.length_nil]; omega))) only [decide_eq_true, decide_eq_false, cond_true, cond_false, Bool.and_self, Bool.true_and, Bool.and_true, Bool.false_and, Bool.and_false, Bool.not_true, Bool.not_false, List.length_append, List.length_cons, List.length_nil, Int.toNat_natCast, ibT, ibF, inT, inF, wrN, gd, dr, Option.bind_some, Sum.elim_inl, Sum.elim_inr, byte_back, of_to]
          · have hasc : ∀ c ∈ s, c.toNat < 128 := by rcases hj with h | h; exact absurd h hjs; exact h
            have hat : s.all atomB = true := by simp only [plainB, Bool.and_eq_true] at hp; exact hp.1
            have hlen := nest_len N s
            have hu : utf (nest N s) = none := ut_asc _ _ _ (by
              intro c hc
              simp only [nest, List.mem_append, List.mem_replicate] at hc
              rcases hc with ⟨_, rfl⟩ | hc | ⟨_, rfl⟩
              · decide
              · exact hasc c hc
              · decide)
            obtain ⟨M, rfl⟩ : ∃ M, N = M + 1 := ⟨N - 1, by omega⟩
            have hR : lexR (nest (M + 1) s) = end1 (lexs (nest (M + 1) s) 0) := by
              unfold lexR
              rw [if_neg (by omega), hu]; rfl
            have hn : nest (M + 1) s = 40 :: (List.replicate M 40 ++ (s ++ List.replicate (M + 1) 41)) := by simp [nest, List.replicate_succ]
            by_cases h32 : M + 1 > 32
            · have ho : one 40 (List.replicate M 40 ++ (s ++ List.replicate (M + 1) 41)) = (3, .bad 32 6) := by
                rw [one_n, nt_deep _ M 1 (by omega) (by omega)]; rfl
              have hR' : lexR (nest (M + 1) s) = ([], 32, 6) := by
                rw [hR, hn, lexs_bad ho]; rfl
              simp (disch := (first | omega | (simp only [List.length_append, List.length_cons, List.length_nil]; omega))) only [decide_eq_true, decide_eq_false, cond_true, cond_false, Bool.and_self, Bool.true_and, Bool.and_true, Bool.false_and, Bool.and_false, Bool.not_true, Bool.not_false, List.length_append, List.length_cons, List.length_nil, Int.toNat_natCast, ibT, ibF, inT, inF, wrN, gd, dr, Option.bind_some, Sum.elim_inl, Sum.elim_inr, byte_back, of_to, hR']
            · have hnt : nt 1 (List.replicate M 40 ++ (s ++ List.replicate (M + 1) 41)) = .ok (List.replicate M 40 ++ (s ++ List.replicate M 41)) (M + (s.length + (M + 1))) := by
                rw [nt_opens _ M 1 (by omega), nt_plain _ _ s hat, Nat.add_comm 1 M, nt_closes M]
                rfl
              have ho : one 40 (List.replicate M 40 ++ (s ++ List.replicate (M + 1) 41)) = (3, .ok (List.replicate M 40 ++ (s ++ List.replicate M 41)) (1 + (M + (s.length + (M + 1))))) := by
                rw [one_n, hnt]; rfl
              have hR' : lexR (nest (M + 1) s) = ([(3, List.replicate M 40 ++ (s ++ List.replicate M 41), 0)], 0, 0) := by
                rw [hR, hn, lexs_ok ho, List.drop_of_length_le (by simp; omega), lexs_nil]; rfl
              have hw : IntKind.i64.wrap (((nest (M + 1) s).length : Int) - 2) = ((2 * M + s.length : Nat) : Int) := by rw [W.wr] <;> omega
              have hlt : (List.replicate M (40 : UInt8) ++ (s ++ List.replicate M 41)).length = 2 * M + s.length := by simp; omega
              simp (disch := (first | omega | (simp only [List.length_append, List.length_cons, List.length_nil]; omega))) only [decide_eq_true, decide_eq_false, cond_true, cond_false, ibT, hR', hw, List.getD_cons_zero, List.length_cons, List.length_nil, hlt]
end Go.Proofs.YtkmojkibclbmjaaDoor.PLexDeep
