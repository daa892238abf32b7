/- Plain facts: bytes, numbers, quotes. -/
import Derived.Test.YtkmojkibclbmjaaDoorW8
import Derived.Test.YtkmojkibclbmjaaDoorAe28
set_option linter.unusedVariables false
set_option linter.unusedSimpArgs false
namespace Go.Proofs.YtkmojkibclbmjaaDoor.W
open Go Go.Ae
theorem wr {n : Int} (h1 : -9223372036854775808 ≤ n) (h2 : n ≤ 9223372036854775807) : IntKind.i64.wrap n = n := by rw [IntKind.wrap_i64]; omega
theorem wrN (n : Nat) (h : n ≤ 9223372036854775806) : IntKind.i64.wrap ((n : Int) + 1) = ((n + 1 : Nat) : Int) := by rw [wr] <;> omega
theorem of_to (b : UInt8) : UInt8.ofNat b.toNat = b := by simp
theorem byte_back (b : UInt8) : UInt8.ofNat ((b.toNat : Int)).toNat = b := by simp
theorem getD_lt {α : Type} {l : List α} {i : Nat} {d : α} (h : i < l.length) : l.getD i d = l[i] := by simp [List.getD_eq_getElem?_getD, List.getElem?_eq_getElem h]
theorem nat_beq (b : UInt8) (n : Nat) : (((b.toNat : Int)) == (n : Int)) = (b.toNat == n) := by
  rw [Bool.eq_iff_iff]; simp; omega
def esc1 (c : UInt8) : List UInt8 := if c.toNat = 34 ∨ c.toNat = 92 then [92, c] else [c]
def esc (s : List UInt8) : List UInt8 := s.flatMap esc1
theorem esc1_len (c : UInt8) : (esc1 c).length ≤ 2 := by unfold esc1; split <;> simp
theorem esc_len : ∀ s : List UInt8, (esc s).length ≤ 2 * s.length
  | [] => by simp [esc]
  | c :: s => by have := esc_len s; have := esc1_len c; simp [esc] at *; omega
theorem esc_append (s t : List UInt8) : esc (s ++ t) = esc s ++ esc t := by simp [esc]
theorem take_succ_get {α : Type} {s : List α} {k : Nat} (h : k < s.length) : s.take (k + 1) = s.take k ++ [s[k]] := by
  rw [List.take_add_one, List.getElem?_eq_getElem h]; rfl
theorem esc_take {s : List UInt8} {k : Nat} (h : k < s.length) : esc (s.take (k + 1)) = esc (s.take k) ++ esc1 s[k] := by
  rw [take_succ_get h, esc_append]; simp [esc]

theorem ibT {a b : Int} (h : a = b) : (a == b) = true := by simp [h]
theorem ibF {a b : Int} (h : a ≠ b) : (a == b) = false := by simp [h]
theorem inT {a b : Int} (h : a ≠ b) : (a != b) = true := by simp [h]
theorem inF {a b : Int} (h : a = b) : (a != b) = false := by simp [h]
theorem u8_eq {a : UInt8} {n : Nat} (h : a.toNat = n) : a = UInt8.ofNat n := by subst h; simp
theorem esc1_q {c : UInt8} (h : c.toNat = 34) : esc1 c = [92] ++ [c] := by simp [esc1, h]
theorem esc1_b {c : UInt8} (h : c.toNat = 92) : esc1 c = [92] ++ [c] := by simp [esc1, h]
theorem esc1_n {c : UInt8} (h : ¬ c.toNat = 34) (h2 : ¬ c.toNat = 92) : esc1 c = [c] := by simp [esc1, h, h2]
theorem r14 (s : List UInt8) (k : Nat) (acc : List UInt8) (h : k < s.length) (hb : s.length ≤ 9223372036854775806) (ha : acc.length + 2 ≤ 140737488355328) :
    F14_l0 (s, (s.length : Int), (k : Int), acc, ()) = some (.inl (s, (s.length : Int), ((k + 1 : Nat) : Int), acc ++ esc1 s[k], ())) := by
  by_cases e1 : s[k].toNat = 34
  · simp (disch := omega) only [F14_l0, decide_eq_true, cond_true, Bool.and_self, List.length_append, List.length_cons, List.length_nil, getD_lt, byte_back, wrN, Int.toNat_natCast, ibT, esc1_q, List.append_assoc, of_to]
  · by_cases e2 : s[k].toNat = 92
    · simp (disch := omega) only [F14_l0, decide_eq_true, cond_true, cond_false, Bool.and_self, List.length_append, List.length_cons, List.length_nil, getD_lt, byte_back, wrN, Int.toNat_natCast, ibT, ibF, esc1_b, List.append_assoc, of_to]
    · simp (disch := omega) only [F14_l0, decide_eq_true, cond_true, cond_false, Bool.and_self, List.length_append, List.length_cons, List.length_nil, getD_lt, byte_back, wrN, Int.toNat_natCast, ibT, ibF, esc1_n, List.append_assoc, of_to]
theorem c14 (s : List UInt8) (hb : s.length ≤ 70368744177663) : C14 (s, ()) = some (esc s, ()) := by
  have key : ∀ (k : Nat) (n : Nat), k ≤ s.length → s.length - k < n → loopN F14_l0 n (s, (s.length : Int), (k : Int), esc (s.take k), ()) = some (esc s, ()) := by
    intro k n
    induction n generalizing k with
    | zero => intro _ h; omega
    | succ n ih =>
      intro hk hn
      by_cases h : k < s.length
      · have hl := esc_len (s.take k)
        rw [loopN_inl (r14 s k _ h (by omega) (by simp only [List.length_take] at hl; omega)), ← esc_take h]
        exact ih (k + 1) (by omega) (by omega)
      · have : k = s.length := by omega
        subst this
        refine loopN_inr ?_
        simp [F14_l0]
  have := key 0 big (by omega) (by unfold big; omega)
  simp only [List.take_zero] at this
  show F14 C14_l0 (s, ()) = _
  simp only [F14, C14_l0]
  rw [show loopN F14_l0 big (s, (s.length : Int), 0, [], ()) = some (esc s, ()) from this]
  rfl

def src (k : Int) (s : List UInt8) : List UInt8 := if k = 1 then [34] ++ esc s ++ [34] else if k = 3 then [40] ++ s ++ [41] else if k = 5 then [91] ++ s ++ [93] else s
theorem c9 (k : Int) (s : List UInt8) (a : Int) (hb : s.length ≤ 3000) : C9 (k, s, a, ()) = some (src k s, ()) := by
  have hl := esc_len s
  show F9 C14 (k, s, a, ()) = _
  by_cases e1 : k = 1
  · simp (disch := omega) only [F9, c14, ibT, cond_true, decide_eq_true, List.length_append, List.length_cons, List.length_nil, Option.bind_some, src, if_pos]
  · by_cases e3 : k = 3
    · simp (disch := omega) only [F9, ibT, ibF, cond_true, cond_false, decide_eq_true, List.length_append, List.length_cons, List.length_nil, Option.bind_some, src, if_pos, if_neg]
    · by_cases e5 : k = 5
      · simp (disch := omega) only [F9, ibT, ibF, cond_true, cond_false, decide_eq_true, List.length_append, List.length_cons, List.length_nil, Option.bind_some, src, if_pos, if_neg]
      · simp (disch := omega) only [F9, ibT, ibF, cond_true, cond_false, src, if_neg]
theorem r10c (s : List UInt8) (k : Nat) (kd a : Int) (acc : List UInt8) (h : k < s.length) (ha : acc.length + 2 ≤ 140737488355328) : C10_c0 ((k : Int), kd, s, a, acc, ()) = some ((k : Int), kd, s, a, acc ++ [s[k]], ()) := by
  simp (disch := omega) only [C10_c0, F10_c0, decide_eq_true, cond_true, Bool.and_self, List.length_append, List.length_cons, List.length_nil, getD_lt, byte_back, Int.toNat_natCast, of_to]
theorem r10 (s : List UInt8) (k : Nat) (kd a : Int) (acc : List UInt8) (h : k < s.length) (hb : s.length ≤ 9223372036854775806) (ha : acc.length + 4 ≤ 140737488355328) :
    F10_l0 C10_c0 ((k : Int), kd, s, a, acc, ()) = some (.inl (((k + 1 : Nat) : Int), kd, s, a, acc ++ esc1 s[k], ())) := by
  by_cases e1 : s[k].toNat = 34
  · simp (disch := (first | omega | (simp only [List.length_append, List.length_cons, List.length_nil]; omega))) only [F10_l0, decide_eq_true, cond_true, Bool.and_self, List.length_append, List.length_cons, List.length_nil, getD_lt, byte_back, wrN, Int.toNat_natCast, ibT, esc1_q, List.append_assoc, of_to, r10c, Option.bind_some]
  · by_cases e2 : s[k].toNat = 92
    · simp (disch := (first | omega | (simp only [List.length_append, List.length_cons, List.length_nil]; omega))) only [F10_l0, decide_eq_true, cond_true, cond_false, Bool.and_self, List.length_append, List.length_cons, List.length_nil, getD_lt, byte_back, wrN, Int.toNat_natCast, ibT, ibF, esc1_b, List.append_assoc, of_to, r10c, Option.bind_some]
    · simp (disch := (first | omega | (simp only [List.length_append, List.length_cons, List.length_nil]; omega))) only [F10_l0, decide_eq_true, cond_true, cond_false, Bool.and_self, List.length_append, List.length_cons, List.length_nil, getD_lt, byte_back, wrN, Int.toNat_natCast, ibT, ibF, esc1_n, List.append_assoc, of_to, r10c, Option.bind_some]
theorem c10l (s : List UInt8) (kd a : Int) (hb : s.length ≤ 3000) : C10_l0 (0, kd, s, a, [34], ()) = some ([34] ++ esc s, ()) := by
  have key : ∀ (k : Nat) (n : Nat), k ≤ s.length → s.length - k < n → loopN (F10_l0 C10_c0) n ((k : Int), kd, s, a, [34] ++ esc (s.take k), ()) = some ([34] ++ esc s, ()) := by
    intro k n
    induction n generalizing k with
    | zero => intro _ h; omega
    | succ n ih =>
      intro hk hn
      by_cases h : k < s.length
      · have hl := esc_len (s.take k)
        rw [loopN_inl (r10 s k kd a _ h (by omega) (by simp only [List.length_take] at hl; simp only [List.length_append, List.length_cons, List.length_nil]; omega)), List.append_assoc, ← esc_take h]
        exact ih (k + 1) (by omega) (by omega)
      · have : k = s.length := by omega
        subst this
        refine loopN_inr ?_
        simp [F10_l0]
  have := key 0 big (by omega) (by unfold big; omega)
  show loopN (F10_l0 C10_c0) big _ = _
  simpa [esc] using this
theorem c10 (k : Int) (s : List UInt8) (a : Int) (hb : s.length ≤ 3000) : C10 (k, s, a, ()) = some (src k s, ()) := by
  have hl := esc_len s
  show F10 C10_l0 (k, s, a, ()) = _
  by_cases e1 : k = 1
  · simp (disch := omega) only [F10, c10l, ibT, ibF, cond_true, cond_false, decide_eq_true, List.length_append, List.length_cons, List.length_nil, Option.bind_some, src, if_pos]
  · by_cases e3 : k = 3
    · simp (disch := omega) only [F10, ibT, ibF, cond_true, cond_false, decide_eq_true, List.length_append, List.length_cons, List.length_nil, Option.bind_some, src, if_pos, if_neg]
    · by_cases e5 : k = 5
      · simp (disch := omega) only [F10, ibT, ibF, cond_true, cond_false, decide_eq_true, List.length_append, List.length_cons, List.length_nil, Option.bind_some, src, if_pos, if_neg]
      · simp (disch := omega) only [F10, ibT, ibF, cond_true, cond_false, src, if_neg]
end Go.Proofs.YtkmojkibclbmjaaDoor.W
