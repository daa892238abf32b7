/- What the lexer's small functions come to. -/
import Derived.Test.YtkmojkibclbmjaaDoorPB
set_option linter.unusedVariables false
set_option linter.unusedSimpArgs false
namespace Go.Proofs.YtkmojkibclbmjaaDoor.W
open Go Go.Ae
theorem all256 (p : UInt8 → Bool) (h : (List.range 256).all (fun n => p (UInt8.ofNat n)) = true) (c : UInt8) : p c = true := by
  have h1 := List.all_eq_true.1 h c.toNat (List.mem_range.2 (by have := c.toNat_lt; omega))
  simpa using h1
def gB (o : Option (Bool × Unit)) : Bool := match o with | some (b, _) => b | none => false
def okB (o : Option (Bool × Unit)) : Bool := match o with | some (_, _) => true | none => false
theorem okB_some {o : Option (Bool × Unit)} (h : okB o = true) : o = some (gB o, ()) := by
  cases o with
  | none => cases h
  | some x => rfl
def atomB (c : UInt8) : Bool := gB (C17 ((c.toNat : Int), ()))
def blankB (c : UInt8) : Bool := gB (C32 ((c.toNat : Int), ()))
def mayB (c : UInt8) : Bool := gB (C31 ((c.toNat : Int), ()))
def signI (c : UInt8) : Int := match C22 ([60, 62, 58, 59, 64, 44, 46], (c.toNat : Int), ()) with | some (i, _) => i | none => 0
def signB (c : UInt8) : Bool := decide (signI c ≥ 0)
theorem c17 (c : UInt8) : C17 ((c.toNat : Int), ()) = some (atomB c, ()) := okB_some (all256 (fun c => okB (C17 ((c.toNat : Int), ()))) (by kernel_rfl) c)
theorem c32 (c : UInt8) : C32 ((c.toNat : Int), ()) = some (blankB c, ()) := okB_some (all256 (fun c => okB (C32 ((c.toNat : Int), ()))) (by kernel_rfl) c)
theorem c31 (c : UInt8) : C31 ((c.toNat : Int), ()) = some (mayB c, ()) := okB_some (all256 (fun c => okB (C31 ((c.toNat : Int), ()))) (by kernel_rfl) c)
theorem c22s (c : UInt8) : C22 ([60, 62, 58, 59, 64, 44, 46], (c.toNat : Int), ()) = some (signI c, ()) := rfl
theorem gd {α : Type} {pre r : List α} {c d : α} {p : Nat} (h : pre.length = p) : (pre ++ c :: r).getD p d = c := by subst h; simp
theorem dr {α : Type} {pre r : List α} {p : Nat} (h : pre.length = p) : List.drop p (pre ++ r) = r := by subst h; simp
theorem shift {α : Type} (pre : List α) (c : α) (r : List α) : pre ++ c :: r = (pre ++ [c]) ++ r := by simp
theorem c27 (k e : Int) (s : List UInt8) (at_ bad err : Int) : C27 (k, e, s, at_, bad, err, ()) = some (s, at_, k, e, ()) := rfl

/-! ### atom -/
def al : List UInt8 → Nat
  | [] => 0
  | c :: r => bif atomB c then al r + 1 else 0
theorem al_le : ∀ r, al r ≤ r.length
  | [] => Nat.le_refl _
  | c :: r => by have := al_le r; simp only [al]; cases atomB c <;> simp; omega
theorem l21 (f bad err : Int) : ∀ (r pre : List UInt8) (p n : Nat), pre.length = p → r.length < n → p + r.length ≤ 140737488355328 →
    loopN (F21_l0 C17) n (f, pre ++ r, (p : Int), bad, err, ()) = some (f, pre ++ r, ((p + al r : Nat) : Int), bad, err, ())
  | [], pre, p, n + 1, hp, hn, hb => by
    refine loopN_inr ?_
    simp (disch := (first | omega | (simp only [List.length_append, List.length_cons, List.length_nil]; omega))) only [F21_l0, decide_eq_true, decide_eq_false, cond_true, cond_false, Bool.and_self, Bool.true_and, Bool.and_true, Bool.false_and, Bool.and_false, Bool.not_true, Bool.not_false, List.length_append, List.length_cons, List.length_nil, Int.toNat_natCast, ibT, ibF, inT, inF, wrN, gd, dr, Option.bind_some, Sum.elim_inl, Sum.elim_inr, byte_back, of_to, al, List.append_nil, Nat.add_zero]
  | c :: r, pre, p, n + 1, hp, hn, hb => by
    simp only [List.length_cons] at hn hb
    cases h : atomB c with
    | true =>
      rw [loopN_inl (v' := (f, pre ++ c :: r, ((p + 1 : Nat) : Int), bad, err, ())) (by simp (disch := (first | omega | (simp only [List.length_append, List.length_cons, List.length_nil]; omega))) only [F21_l0, decide_eq_true, decide_eq_false, cond_true, cond_false, Bool.and_self, Bool.true_and, Bool.and_true, Bool.false_and, Bool.and_false, Bool.not_true, Bool.not_false, List.length_append, List.length_cons, List.length_nil, Int.toNat_natCast, ibT, ibF, inT, inF, wrN, gd, dr, Option.bind_some, Sum.elim_inl, Sum.elim_inr, byte_back, of_to, c17, h])]
      rw [shift, l21 f bad err r (pre ++ [c]) (p + 1) n (by simp [hp]) (by omega) (by omega)]
      simp only [al, h, cond_true, Nat.add_assoc, Nat.add_comm 1]
    | false =>
      refine loopN_inr ?_
      simp (disch := (first | omega | (simp only [List.length_append, List.length_cons, List.length_nil]; omega))) only [F21_l0, decide_eq_true, decide_eq_false, cond_true, cond_false, Bool.and_self, Bool.true_and, Bool.and_true, Bool.false_and, Bool.and_false, Bool.not_true, Bool.not_false, List.length_append, List.length_cons, List.length_nil, Int.toNat_natCast, ibT, ibF, inT, inF, wrN, gd, dr, Option.bind_some, Sum.elim_inl, Sum.elim_inr, byte_back, of_to, c17, h, al, Nat.add_zero]
theorem c21 (pre r : List UInt8) (p : Nat) (bad err : Int) (hp : pre.length = p) (hb : p + r.length ≤ 140737488355328) :
    C21 (pre ++ r, (p : Int), bad, err, ()) = some (r.take (al r), pre ++ r, ((p + al r : Nat) : Int), bad, err, ()) := by
  have := al_le r
  show F21 C17 C21_l0 (pre ++ r, (p : Int), bad, err, ()) = _
  have hl : C21_l0 ((p : Int), pre ++ r, (p : Int), bad, err, ()) = _ := l21 p bad err r pre p big hp (by unfold big; omega) hb
  simp (disch := (first | omega | (simp only [List.length_append, List.length_cons, List.length_nil]; omega))) only [F21, hl, decide_eq_true, decide_eq_false, cond_true, cond_false, Bool.and_self, Bool.true_and, Bool.and_true, Bool.false_and, Bool.and_false, Bool.not_true, Bool.not_false, List.length_append, List.length_cons, List.length_nil, Int.toNat_natCast, ibT, ibF, inT, inF, wrN, gd, dr, Option.bind_some, Sum.elim_inl, Sum.elim_inr, byte_back, of_to]
  rw [show List.drop p (List.take (p + al r) (pre ++ r)) = r.take (al r) by rw [← hp, List.take_append, List.take_of_length_le (by omega), List.drop_append]; simp]

/-! ### white -/
def wl : List UInt8 → Nat
  | [] => 0
  | c :: r => bif blankB c then wl r + 1 else
    match r with
    | b :: d :: r' => bif (c == 13 && b == 10) && blankB d then wl r' + 3 else 0
    | _ => 0
theorem wl_le : ∀ r, wl r ≤ r.length
  | [] => Nat.le_refl _
  | [c] => by simp only [wl]; cases blankB c <;> simp
  | [c, b] => by have := wl_le [b]; simp only [wl] at *; cases blankB c <;> cases blankB b <;> simp
  | c :: b :: d :: r' => by
    have h1 := wl_le (b :: d :: r')
    have h2 := wl_le r'
    rw [wl]
    cases blankB c
    · simp only [cond_false]; cases (c == 13 && b == 10) && blankB d <;> simp; omega
    · simp only [cond_true, List.length_cons] at *; omega
end Go.Proofs.YtkmojkibclbmjaaDoor.W
