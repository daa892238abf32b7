/- Characters as bytes. -/
import Derived.Test.YtaoaagbfjekecaaDoorPS1
set_option linter.unusedVariables false
set_option linter.unusedSimpArgs false
set_option maxRecDepth 100000
namespace Go.Proofs.YtaoaagbfjekecaaDoor.W
open Go Go.Ae Go.Pl
def g1 (o : Option (Int × Int × Unit)) : Int := match o with | some (n, _, _) => n | none => 0
def g2 (o : Option (Int × Int × Unit)) : Int := match o with | some (_, v, _) => v | none => 0
def ok2 (o : Option (Int × Int × Unit)) : Bool := match o with | some _ => true | none => false
theorem ok2_some {o : Option (Int × Int × Unit)} (h : ok2 o = true) : o = some (g1 o, g2 o, ()) := by
  cases o with
  | none => cases h
  | some x => rfl
def leadN (c : UInt8) : Int := g1 (C37 ((c.toNat : Int), ()))
def leadV (c : UInt8) : Int := g2 (C37 ((c.toNat : Int), ()))
theorem c37k : ((List.range 256).all fun n => (fun c : UInt8 => ok2 (C37 ((c.toNat : Int), ()))) (UInt8.ofNat n)) = true := by kernel_rfl
theorem c37 (c : UInt8) : C37 ((c.toNat : Int), ()) = some (leadN c, leadV c, ()) := ok2_some (all256 (fun c => ok2 (C37 ((c.toNat : Int), ()))) c37k c)
def rngB : Int → Bool
  | .ofNat n => Nat.ble n 3
  | .negSucc n => Nat.beq n 0
theorem lead_k : ((List.range 256).all fun n => (fun c : UInt8 => rngB (leadN c)) (UInt8.ofNat n)) = true := by kernel_rfl
theorem lead_rng (c : UInt8) : leadN c = -1 ∨ 0 ≤ leadN c ∧ leadN c ≤ 3 := by
  have h : rngB (leadN c) = true := all256 (fun c => rngB (leadN c)) lead_k c
  generalize leadN c = x at h
  cases x with
  | ofNat n => have := Nat.le_of_ble_eq_true h; right; simp; omega
  | negSucc n => have := Nat.eq_of_beq_eq_true h; subst this; left; rfl
def lenR (v : Int) : Int := match C38 (v, ()) with | some (n, _) => n | none => 0
theorem c38 (v : Int) : C38 (v, ()) = some (lenR v, ()) := by
  have h : ∃ n, C38 (v, ()) = some (n, ()) := by
    show ∃ n, F38 C46 (v, ()) = some (n, ())
    have h29 : ∃ b, C46 (v, ()) = some (b, ()) := by
      simp only [C46, F46]
      cases decide (v ≥ 0) <;> cases decide (v ≤ 1114111) <;> cases decide (v ≥ 55296) <;> exact ⟨_, rfl⟩
    obtain ⟨b, hb⟩ := h29
    simp only [F38, hb, Option.bind_some]
    cases b <;> cases decide (v ≤ 127) <;> cases decide (v ≤ 2047) <;> cases decide (v ≤ 65535) <;> exact ⟨_, rfl⟩
  obtain ⟨n, hn⟩ := h
  rw [lenR, hn]
def contB (c : UInt8) : Bool := !(intBits BinOp.andNot IntKind.u8 (c.toNat : Int) 63 != 128)
def stepV (v : Int) (c : UInt8) : Int := intBits BinOp.or IntKind.i32 (IntKind.i32.wrap (v * 2 ^ min 6 IntKind.i32.bits)) (IntKind.i32.wrap (intBits BinOp.and IntKind.u8 (c.toNat : Int) 63))
def conts : Nat → List UInt8 → Int → Option Int
  | 0, _, v => some v
  | _ + 1, [], _ => none
  | n + 1, c :: r, v => bif contB c then conts n r (stepV v c) else none
/-- How many bytes the first character has; 0: it is none. -/
def ch : List UInt8 → Nat
  | [] => 0
  | c :: r => if leadN c < 0 then 0 else if r.length < (leadN c).toNat then 0 else
    match conts (leadN c).toNat r (leadV c) with
    | none => 0
    | some v => if lenR v = leadN c + 1 then (leadN c).toNat + 1 else 0
theorem ch_le : ∀ s, ch s ≤ s.length
  | [] => Nat.le_refl _
  | c :: r => by
    simp only [ch, List.length_cons]
    split
    · omega
    · split
      · omega
      · split
        · omega
        · split <;> omega
def res0 (s : List UInt8) (n a : Int) (out : List Int) : Option Int → (List UInt8 × Int × Int × Int × List Int × Unit) ⊕ (Int × List Int × Unit)
  | some v => .inl (s, n, v, a, out, ())
  | none => .inr (a, out, ())
theorem lrun0 (a : Nat) (m : Nat) (out : List Int) : ∀ (j : Nat) (r pre : List UInt8) (v : Int) (k n : Nat), pre.length = k → k + j = a + m + 1 → j ≤ r.length → j < n → k + r.length ≤ 140737488355320 → m ≤ 3 →
    loopN F25_l0 n (pre ++ r, (m : Int), v, (a : Int), (k : Int), out, ()) = some (res0 (pre ++ r) m a out (conts j r v))
  | _, _, _, _, _, 0, _, _, _, hn, _, _ => by omega
  | 0, r, pre, v, k, n + 1, hk, hj, hr, hn, hb, hm => by
    refine loopN_inr ?_
    have h : IntKind.i64.wrap ((a : Int) + (m : Int)) = (a : Int) + m := w64 (by omega) (by omega)
    simp (disch := (first | omega | (simp only [List.length_append, List.length_cons, List.length_nil]; omega))) only [F25_l0, h, decide_eq_true, decide_eq_false, cond_true, cond_false, Bool.and_self, Bool.true_and, Bool.and_true, Bool.false_and, Bool.and_false, Bool.not_true, Bool.not_false, List.length_append, List.length_cons, List.length_nil, Int.toNat_natCast, ibT, ibF, inT, inF, wrN, gd, dr, Option.bind_some, Sum.elim_inl, Sum.elim_inr, byte_back, of_to, conts, res0]
  | j + 1, [], pre, v, k, n + 1, hk, hj, hr, hn, hb, hm => by simp at hr
  | j + 1, c :: r, pre, v, k, n + 1, hk, hj, hr, hn, hb, hm => by
    simp only [List.length_cons] at hr hb
    have h : IntKind.i64.wrap ((a : Int) + (m : Int)) = (a : Int) + m := w64 (by omega) (by omega)
    cases hc : contB c with
    | true =>
      have hc' : (intBits BinOp.andNot IntKind.u8 (c.toNat : Int) 63 != 128) = false := by simpa [contB] using hc
      rw [loopN_inl (v' := (pre ++ c :: r, (m : Int), stepV v c, (a : Int), ((k + 1 : Nat) : Int), out, ())) (by
        simp (disch := (first | omega | (simp only [List.length_append, List.length_cons, List.length_nil]; omega))) only [F25_l0, h, decide_eq_true, decide_eq_false, cond_true, cond_false, Bool.and_self, Bool.true_and, Bool.and_true, Bool.false_and, Bool.and_false, Bool.not_true, Bool.not_false, List.length_append, List.length_cons, List.length_nil, Int.toNat_natCast, ibT, ibF, inT, inF, wrN, gd, dr, Option.bind_some, Sum.elim_inl, Sum.elim_inr, byte_back, of_to, hc']
        rfl)]
      rw [shift, lrun0 a m out j r (pre ++ [c]) (stepV v c) (k + 1) n (by simp [hk]) (by omega) (by omega) (by omega) (by omega) hm]
      simp only [conts, hc, cond_true]
    | false =>
      have hc' : (intBits BinOp.andNot IntKind.u8 (c.toNat : Int) 63 != 128) = true := by simpa [contB] using hc
      refine loopN_inr ?_
      simp (disch := (first | omega | (simp only [List.length_append, List.length_cons, List.length_nil]; omega))) only [F25_l0, h, decide_eq_true, decide_eq_false, cond_true, cond_false, Bool.and_self, Bool.true_and, Bool.and_true, Bool.false_and, Bool.and_false, Bool.not_true, Bool.not_false, List.length_append, List.length_cons, List.length_nil, Int.toNat_natCast, ibT, ibF, inT, inF, wrN, gd, dr, Option.bind_some, Sum.elim_inl, Sum.elim_inr, byte_back, of_to, hc', conts, hc, res0]
/-- A text of characters, from a place on: where it is wrong. -/
def ut : Nat → List UInt8 → Nat → Option Nat
  | 0, _, _ => none
  | n + 1, s, p => if s = [] then none else if ch s = 0 then some p else ut n (s.drop (ch s)) (p + ch s)
theorem ut_lt : ∀ (n : Nat) (s : List UInt8) (p b : Nat), ut n s p = some b → p ≤ b ∧ b < p + s.length
  | 0, s, p, b, h => by cases h
  | n + 1, s, p, b, h => by
    unfold ut at h
    split at h
    · cases h
    · rename_i hs
      split at h
      · cases h
        have : 0 < s.length := List.length_pos_iff.2 hs
        omega
      · have := ut_lt n _ _ _ h
        have := ch_le s
        simp only [List.length_drop] at *
        omega
def rrun (out : List Int) : Option Nat → (List Int × Unit) ⊕ (Int × List Int × Unit)
  | none => .inl (out, ())
  | some b => .inr ((b : Int), out, ())
theorem rrun1 (c : UInt8) (r pre : List UInt8) (out : List Int) (p : Nat) (hp : pre.length = p) (hb : p + r.length ≤ 140737488355000) (ho : out.length ≤ 1000000000) :
    F25_l1 C37 C38 C25_l0 (pre ++ c :: r, (p : Int), out, ()) = some (if ch (c :: r) = 0 then .inr (.inr ((p : Int), out, ())) else
      .inl (pre ++ c :: r, ((p + ch (c :: r) : Nat) : Int), out ++ [((conts (leadN c).toNat r (leadV c)).getD 0)], ())) := by
  have hrng := lead_rng c
  by_cases h1 : leadN c < 0
  · have : ch (c :: r) = 0 := by simp [ch, h1]
    rw [if_pos this]
    simp (disch := (first | omega | (simp only [List.length_append, List.length_cons, List.length_nil]; omega))) only [F25_l1, decide_eq_true, decide_eq_false, cond_true, cond_false, Bool.and_self, Bool.true_and, Bool.and_true, Bool.false_and, Bool.and_false, Bool.not_true, Bool.not_false, List.length_append, List.length_cons, List.length_nil, Int.toNat_natCast, ibT, ibF, inT, inF, wrN, gd, dr, Option.bind_some, Sum.elim_inl, Sum.elim_inr, byte_back, of_to, c37]
  · have hw : IntKind.i64.wrap (((pre.length + (r.length + 1) : Nat) : Int) - (p : Int)) = (r.length : Int) + 1 := by rw [w64] <;> omega
    obtain ⟨m, hm⟩ : ∃ m : Nat, leadN c = m := ⟨(leadN c).toNat, by omega⟩
    by_cases h2 : r.length < m
    · have : ch (c :: r) = 0 := by simp [ch, hm, h2]
      rw [if_pos this]
      simp (disch := (first | omega | (simp only [List.length_append, List.length_cons, List.length_nil]; omega))) only [F25_l1, decide_eq_true, decide_eq_false, cond_true, cond_false, Bool.and_self, Bool.true_and, Bool.and_true, Bool.false_and, Bool.and_false, Bool.not_true, Bool.not_false, List.length_append, List.length_cons, List.length_nil, Int.toNat_natCast, ibT, ibF, inT, inF, wrN, gd, dr, Option.bind_some, Sum.elim_inl, Sum.elim_inr, byte_back, of_to, c37, hw, hm]
    · have hl := lrun0 p m out m r (pre ++ [c]) (leadV c) (p + 1) big (by simp [hp]) (by omega) (by omega) (by unfold big; omega) (by omega) (by omega)
      rw [← shift] at hl
      have hl' : C25_l0 (pre ++ c :: r, (m : Int), leadV c, (p : Int), ((p + 1 : Nat) : Int), out, ()) = _ := hl
      cases hc : conts m r (leadV c) with
      | none =>
        have : ch (c :: r) = 0 := by simp [ch, hm, h2, hc]
        rw [if_pos this]
        simp (disch := (first | omega | (simp only [List.length_append, List.length_cons, List.length_nil]; omega))) only [F25_l1, decide_eq_true, decide_eq_false, cond_true, cond_false, Bool.and_self, Bool.true_and, Bool.and_true, Bool.false_and, Bool.and_false, Bool.not_true, Bool.not_false, List.length_append, List.length_cons, List.length_nil, Int.toNat_natCast, ibT, ibF, inT, inF, wrN, gd, dr, Option.bind_some, Sum.elim_inl, Sum.elim_inr, byte_back, of_to, c37, hw, hm, hl', hc, res0]
      | some v =>
        have hw2 : IntKind.i64.wrap ((m : Int) + 1) = (m : Int) + 1 := w64 (by omega) (by omega)
        by_cases h3 : lenR v = m + 1
        · have hch : ch (c :: r) = m + 1 := by simp [ch, hm, h2, hc, h3]
          have hw3 : IntKind.i64.wrap ((p : Int) + ((m : Int) + 1)) = ((p + (m + 1) : Nat) : Int) := by rw [w64] <;> omega
          rw [if_neg (by omega), hch]
          simp (disch := (first | omega | (simp only [List.length_append, List.length_cons, List.length_nil]; omega))) only [F25_l1, hw2, hw3, decide_eq_true, decide_eq_false, cond_true, cond_false, Bool.and_self, List.length_append, List.length_cons, List.length_nil, Int.toNat_natCast, inF, gd, Option.bind_some, Sum.elim_inl, wrN, c37, hw, hm, hl', hc, res0, c38, Option.getD_some]
        · have : ch (c :: r) = 0 := by simp [ch, hm, h2, hc, h3]
          rw [if_pos this]
          simp (disch := (first | omega | (simp only [List.length_append, List.length_cons, List.length_nil]; omega))) only [F25_l1, hw2, decide_eq_true, decide_eq_false, cond_true, cond_false, Bool.and_self, Bool.true_and, Bool.and_true, Bool.false_and, Bool.and_false, Bool.not_true, Bool.not_false, List.length_append, List.length_cons, List.length_nil, Int.toNat_natCast, ibT, ibF, inT, inF, wrN, gd, dr, Option.bind_some, Sum.elim_inl, Sum.elim_inr, byte_back, of_to, c37, hw, hm, hl', hc, res0, c38]
theorem lrun1 : ∀ (m : Nat) (r pre : List UInt8) (out : List Int) (p n : Nat), r.length ≤ m → pre.length = p → r.length < n → p + r.length ≤ 140737488355000 → out.length + r.length ≤ 1000000000 →
    ∃ o, loopN (F25_l1 C37 C38 C25_l0) n (pre ++ r, (p : Int), out, ()) = some (rrun o (ut n r p))
  | _, _, _, _, _, 0, _, _, hn, _, _ => by omega
  | m, [], pre, out, p, n + 1, hm, hp, hn, hb, ho => by
    refine ⟨out, loopN_inr ?_⟩
    simp (disch := (first | omega | (simp only [List.length_append, List.length_cons, List.length_nil]; omega))) only [F25_l1, decide_eq_true, decide_eq_false, cond_true, cond_false, Bool.and_self, Bool.true_and, Bool.and_true, Bool.false_and, Bool.and_false, Bool.not_true, Bool.not_false, List.length_append, List.length_cons, List.length_nil, Int.toNat_natCast, ibT, ibF, inT, inF, wrN, gd, dr, Option.bind_some, Sum.elim_inl, Sum.elim_inr, byte_back, of_to, List.append_nil, ut, if_true, rrun]
  | 0, c :: r, pre, out, p, n + 1, hm, hp, hn, hb, ho => by simp at hm
  | m + 1, c :: r, pre, out, p, n + 1, hm, hp, hn, hb, ho => by
    simp only [List.length_cons] at hm hn hb ho
    have hr := rrun1 c r pre out p hp (by omega) (by omega)
    by_cases h : ch (c :: r) = 0
    · rw [if_pos h] at hr
      refine ⟨out, ?_⟩
      rw [loopN_inr hr]
      simp [ut, h, rrun]
    · rw [if_neg h] at hr
      have hle := ch_le (c :: r)
      simp only [List.length_cons] at hle
      have hsplit : pre ++ c :: r = (pre ++ (c :: r).take (ch (c :: r))) ++ (c :: r).drop (ch (c :: r)) := by rw [List.append_assoc, List.take_append_drop]
      obtain ⟨o, ho'⟩ := lrun1 m ((c :: r).drop (ch (c :: r))) (pre ++ (c :: r).take (ch (c :: r))) (out ++ [((conts (leadN c).toNat r (leadV c)).getD 0)]) (p + ch (c :: r)) n (by simp; omega) (by simp [hp]; omega) (by simp; omega) (by simp; omega) (by simp; omega)
      refine ⟨o, ?_⟩
      rw [loopN_inl hr]
      rw [← hsplit] at ho'
      rw [ho']
      simp [ut, h]
/-- Where a text is no characters. -/
def utf (s : List UInt8) : Option Nat := ut big s 0
theorem c25 (s : List UInt8) (hb : s.length ≤ 1000000) : ∃ o, C25 (s, ()) = some (o, (match utf s with | none => -1 | some b => (b : Int)), ()) := by
  obtain ⟨o, h⟩ := lrun1 s.length s [] [] 0 big (Nat.le_refl _) rfl (by unfold big; omega) (by omega) (by simp; omega)
  have h' : C25_l1 (s, 0, [], ()) = some (rrun o (utf s)) := h
  refine ⟨o, ?_⟩
  have hg : ∀ (b : Int) (o : List Int), C25_g0 (b, o, ()) = some (b, o, ()) := by
    intro b o
    show loopN _ big _ = _
    rw [show big = 999999999999999999999 + 1 from rfl]
    exact loopN_inr rfl
  simp only [C25, F25, h', Option.bind_some]
  cases utf s <;> simp [rrun, hg]
theorem utf_lt {s : List UInt8} {b : Nat} (h : utf s = some b) : b < s.length := by
  have := ut_lt _ _ _ _ h; omega
/-! ### what has no bytes of 80 or more is characters -/
theorem lead_low_k : ((List.range 256).all fun n => (fun c : UInt8 => Nat.ble 128 c.toNat || (match leadN c with | .ofNat 0 => true | _ => false) && (match lenR (leadV c) with | .ofNat 1 => true | _ => false)) (UInt8.ofNat n)) = true := by kernel_rfl
theorem lead_low {c : UInt8} (h : c.toNat < 128) : leadN c = 0 ∧ lenR (leadV c) = 1 := by
  have := all256 (fun c => Nat.ble 128 c.toNat || (match leadN c with | .ofNat 0 => true | _ => false) && (match lenR (leadV c) with | .ofNat 1 => true | _ => false)) lead_low_k c
  have hb : Nat.ble 128 c.toNat = false := by
    cases e : Nat.ble 128 c.toNat with
    | false => rfl
    | true => have := Nat.le_of_ble_eq_true e; omega
  simp only [hb, Bool.false_or, Bool.and_eq_true] at this
  constructor
  · have h1 := this.1
    split at h1
    · assumption
    · cases h1
  · have h1 := this.2
    split at h1
    · assumption
    · cases h1
theorem ch_low {c : UInt8} {r : List UInt8} (h : c.toNat < 128) : ch (c :: r) = 1 := by
  obtain ⟨h1, h2⟩ := lead_low h
  simp [ch, h1, conts, h2]
theorem ut_low : ∀ (n : Nat) (s : List UInt8) (p : Nat), (∀ c ∈ s, c.toNat < 128) → ut n s p = none
  | 0, _, _, _ => rfl
  | n + 1, [], p, _ => by simp [ut]
  | n + 1, c :: r, p, h => by
    unfold ut
    rw [if_neg (by simp), if_neg (by rw [ch_low (h c (List.mem_cons_self ..))]; omega), ch_low (h c (List.mem_cons_self ..))]
    exact ut_low n _ _ fun d hd => h d (List.mem_cons_of_mem _ hd)
theorem utf_low {s : List UInt8} (h : ∀ c ∈ s, c.toNat < 128) : utf s = none := ut_low _ _ _ h
end Go.Proofs.YtaoaagbfjekecaaDoor.W
