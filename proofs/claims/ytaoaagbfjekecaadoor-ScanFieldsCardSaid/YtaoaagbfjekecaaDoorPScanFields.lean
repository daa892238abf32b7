/- The plain law. -/
import Derived.Test.YtaoaagbfjekecaaDoorPScanFolds
set_option linter.unusedVariables false
set_option linter.unusedSimpArgs false
namespace Go.Proofs.YtaoaagbfjekecaaDoor.PScanFields
open Go Go.Ae Go.Pl Go.Proofs.YtaoaagbfjekecaaDoor.W Go.Proofs.YtaoaagbfjekecaaDoor.PScanFolds
def bc (c : UInt8) : Bool := decide ((c.toNat : Int) < 33) || (decide ((c.toNat : Int) > 126) || ((c.toNat : Int) == 58))
theorem good_col {n : Ln} (h : ∀ c ∈ n, bc c = false) : fp (fun c => c == 58) n = n.length := by
  have hle := fp_le (fun c : UInt8 => c == 58) n
  rcases Nat.lt_or_ge (fp (fun c => c == 58) n) n.length with g | g
  · have h1 := fp_at (fun c : UInt8 => c == 58) n g
    have h2 := h _ (List.getElem_mem g)
    rw [beq_iff_eq.1 h1] at h2; cases h2
  · omega
theorem good_sb {n : Ln} (h : ∀ c ∈ n, bc c = false) : n.any sb = false := by
  rw [List.any_eq_false]
  intro c hc
  have := h c hc
  simp only [bc, Bool.or_eq_false_iff, decide_eq_false_iff_not] at this
  simp [sb]; omega
theorem good_blk {n x : Ln} (hn : n ≠ []) (h : ∀ c ∈ n, bc c = false) : blk ((n ++ x).getD 0 0) = false := by
  cases n with
  | nil => exact absurd rfl hn
  | cons c r =>
    have h1 := h c (List.mem_cons_self ..)
    have : ∀ c : UInt8, (!bc c && blk c) = false := fun c => by
      have := all256 (fun c => !(!bc c && blk c)) (by decide +kernel) c
      exact Bool.not_eq_true' _ ▸ this
    have h2 := this c
    rw [h1] at h2
    simpa using h2
theorem good_beg {n x : Ln} (hn : n ≠ []) (h : ∀ c ∈ n, bc c = false) : beg (n ++ 58 :: x) = (plain n, x, true) := by
  simp only [beg, cut_col, good_col h]
  have e1 : (n ++ [58]).take n.length = n := by simp
  have e2 : (n ++ [58]).drop (n.length + 1) = [] := by simp
  rw [e1, e2, good_sb h, beq_eq_false_iff_ne.2 hn]
  rfl
theorem step_pre {f : Fld} {o : Bool} {out : List Fld} (s : Ln) (h : o = true → out ≠ []) : fstep (o, f :: out) s = ((fstep (o, out) s).1, f :: (fstep (o, out) s).2) ∧ ((fstep (o, out) s).1 = true → (fstep (o, out) s).2 ≠ []) := by
  unfold fstep
  cases blk (s.getD 0 0) with
  | true =>
    simp only [cond_true]
    cases o with
    | false => exact ⟨rfl, fun h => by cases h⟩
    | true =>
      have hne := h rfl
      obtain ⟨a, out, rfl⟩ := List.exists_cons_of_ne_nil hne
      simp [addL]
  | false =>
    simp only [cond_false]
    cases (beg s).2.2 <;> simp
theorem fold_pre {f : Fld} : ∀ (l : List Ln) {o : Bool} {out : List Fld}, (o = true → out ≠ []) → (l.foldl fstep (o, f :: out)).2 = f :: (l.foldl fstep (o, out)).2
  | [], _, _, _ => rfl
  | s :: l, o, out, h => by
    obtain ⟨h1, h2⟩ := step_pre (f := f) s h
    simp only [List.foldl_cons, h1]
    exact fold_pre l h2
theorem head {n x : Ln} {l : List Ln} (hn : n ≠ []) (h : ∀ c ∈ n, bc c = false) (hl : ∀ c r l', l = (c :: r) :: l' → blk c = false) :
    fields ((n ++ 58 :: x) :: l) = trimF (plain n, x) :: fields l := by
  have hne : n ++ 58 :: x ≠ [] := by simp
  unfold fields
  rw [hd_cons hne]
  simp only [List.take_succ_cons, List.foldl_cons]
  have e1 : fstep (false, []) (n ++ 58 :: x) = (true, [(plain n, x)]) := by
    simp only [fstep, good_blk hn h, good_beg hn h, cond_false, cond_true, List.nil_append]
  rw [e1]
  have e2 : ∀ (m : List Ln), (∀ c r l', m = (c :: r) :: l' → blk c = false) → (∀ s ∈ m, s ≠ []) → (m.foldl fstep (true, [(plain n, x)])).2 = (plain n, x) :: (m.foldl fstep (false, [])).2 := by
    intro m hm hs
    cases m with
    | nil => rfl
    | cons s m =>
      have hne := hs s (List.mem_cons_self ..)
      obtain ⟨c, r, rfl⟩ := List.exists_cons_of_ne_nil hne
      have hb := hm c r m rfl
      have e3 : fstep (true, [(plain n, x)]) (c :: r) = fstep (false, [(plain n, x)]) (c :: r) := by
        simp only [fstep, List.getD_cons_zero, hb, cond_false]
      simp only [List.foldl_cons]
      rw [e3]
      exact fold_pre (f := (plain n, x)) ((c :: r) :: m) (o := false) (out := []) (fun h => by cases h)
  rw [e2 _ (fun c r l' e => by
    cases l with
    | nil => simp at e
    | cons s l =>
      cases hh : hd (s :: l) with
      | zero => rw [hh] at e; simp at e
      | succ k => rw [hh] at e; simp only [List.take_succ_cons, List.cons.injEq] at e; exact hl c r l (by rw [e.1])) (fun s hs hnil => by
    subst hnil
    obtain ⟨k, hk, he⟩ := List.getElem_of_mem hs
    simp only [List.length_take] at hk
    have := hd_ne (l := l) (k := k) (by omega)
    rw [List.getElem_take] at he
    rw [he] at this; cases this)]
  rfl
/-! ### trims -/
theorem trimR_blank (t : Ln) : Lib.trimS (32 :: t) [32, 9] = Lib.trimS t [32, 9] := by
  unfold Lib.trimS Lib.trimRightS Lib.trimLeftS
  rw [List.reverse_cons, List.dropWhile_append]
  split
  · rename_i h
    have h' : t.reverse.dropWhile (fun x => [32, 9].contains x) = [] := by simpa using h
    rw [h']; rfl
  · rw [List.reverse_append]
    rfl
theorem dw_len {α : Type} (p : α → Bool) (l : List α) : (l.dropWhile p).length ≤ l.length := (List.dropWhile_sublist p).length_le
theorem trim_len (t : Ln) : (Lib.trimS t [32, 9]).length ≤ t.length := by
  unfold Lib.trimS Lib.trimRightS Lib.trimLeftS
  refine Nat.le_trans (dw_len _ _) ?_
  rw [List.length_reverse]
  exact Nat.le_trans (dw_len _ _) (by simp)
/-! ### the program's parts -/
theorem c14 {n : Ln} {l : List Ln} (hn : n.length ≤ 1000) (hl : l.length ≤ 100000) (hb : ∀ s ∈ l, s.length ≤ 1000) {f : Fld} {r : List Fld} (hf : fields l = f :: r) (h1 : f.1 = plain n) : C14 (l, n, ()) = some (f.2, true, ()) := by
  have hlen := fields_len hb
  have hle := hd_le l
  rw [hf] at hlen
  simp only [List.length_cons] at hlen
  have e : C14_l0 (plain n, f :: r, ((r.length + 1 : Nat) : Int), 0, ()) = some (.inr (f.2, true, ())) := by
    show loopN _ big _ = _
    rw [show big = 999999999999999999999 + 1 from rfl]
    refine loopN_inr ?_
    have : (f.1 == plain n) = true := by rw [h1]; simp
    have h0 : ((0 : Int) < ((r.length + 1 : Nat) : Int)) := by omega
    simp (disch := (first | omega | (simp only [List.length_append, List.length_cons, List.length_nil]; omega))) only [F14_l0, decide_eq_true, decide_eq_false, cond_true, cond_false, Bool.and_self, Bool.true_and, Bool.and_true, Bool.false_and, Bool.and_false, Bool.not_true, Bool.not_false, List.length_append, List.length_cons, List.length_nil, Int.toNat_natCast, ibT, ibF, inT, inF, wrN, gd, dr, Option.bind_some, Sum.elim_inl, Sum.elim_inr, byte_back, of_to, List.getD_cons_zero, this, Int.toNat_zero]
  show F14 C12 C13 C14_l0 _ = _
  simp (disch := (first | omega | (simp only [List.length_append, List.length_cons, List.length_nil]; omega))) only [F14, c13, c12, hf, decide_eq_true, decide_eq_false, cond_true, cond_false, Bool.and_self, Bool.true_and, Bool.and_true, Bool.false_and, Bool.and_false, Bool.not_true, Bool.not_false, List.length_append, List.length_cons, List.length_nil, Int.toNat_natCast, ibT, ibF, inT, inF, wrN, gd, dr, Option.bind_some, Sum.elim_inl, Sum.elim_inr, byte_back, of_to, e]
theorem c4l {n : Ln} (l : List Ln) (t : Ln) (hn : n.length ≤ 100) : C4_l0 (l, n, t, true, 0, ()) = some (if fp bc n < n.length then .inr (true, ()) else .inl (l, n, t, true, ())) := by
  have hle := fp_le bc n
  refine loopN_to (fun k => (l, n, t, true, ((k : Nat) : Int), ())) (fp bc n) (fun k hk => ?_) ?_ (by unfold big; omega)
  · have h := fp_lt bc n k hk (by omega)
    simp only [bc, Bool.or_eq_false_iff] at h
    obtain ⟨h1, h2, h3⟩ := h
    simp (disch := (first | omega | (simp only [List.length_append, List.length_cons, List.length_nil]; omega))) only [F4_l0, decide_eq_true, decide_eq_false, cond_true, cond_false, Bool.and_self, Bool.true_and, Bool.and_true, Bool.false_and, Bool.and_false, Bool.not_true, Bool.not_false, List.length_append, List.length_cons, List.length_nil, Int.toNat_natCast, ibT, ibF, inT, inF, wrN, gd, dr, Option.bind_some, Sum.elim_inl, Sum.elim_inr, byte_back, of_to, getD_lt, h1, h2, h3]
  · by_cases h : fp bc n < n.length
    · have h2 := fp_at bc n h
      simp only [bc, Bool.or_eq_true] at h2
      rw [if_pos h]
      simp (disch := (first | omega | (simp only [List.length_append, List.length_cons, List.length_nil]; omega))) only [F4_l0, decide_eq_true, decide_eq_false, cond_true, cond_false, Bool.and_self, Bool.true_and, Bool.and_true, Bool.false_and, Bool.and_false, Bool.not_true, Bool.not_false, List.length_append, List.length_cons, List.length_nil, Int.toNat_natCast, ibT, ibF, inT, inF, wrN, gd, dr, Option.bind_some, Sum.elim_inl, Sum.elim_inr, byte_back, of_to, getD_lt]
      cases h1 : decide (((n[fp bc n].toNat : Nat) : Int) < 33) with
      | true => rfl
      | false =>
        cases h3 : decide (((n[fp bc n].toNat : Nat) : Int) > 126) with
        | true => rfl
        | false =>
          rw [h1, h3] at h2
          simp only [Bool.false_eq_true, false_or] at h2
          rw [h2]; rfl
    · rw [if_neg h]
      simp (disch := (first | omega | (simp only [List.length_append, List.length_cons, List.length_nil]; omega))) only [F4_l0, decide_eq_true, decide_eq_false, cond_true, cond_false, Bool.and_self, Bool.true_and, Bool.and_true, Bool.false_and, Bool.and_false, Bool.not_true, Bool.not_false, List.length_append, List.length_cons, List.length_nil, Int.toNat_natCast, ibT, ibF, inT, inF, wrN, gd, dr, Option.bind_some, Sum.elim_inl, Sum.elim_inr, byte_back, of_to]
theorem blkN {c : UInt8} (h1 : ((c.toNat : Int) == 32) = false) (h2 : ((c.toNat : Int) == 9) = false) : blk c = false := by
  have : ∀ c : UInt8, (!((c.toNat : Int) == 32) && (!((c.toNat : Int) == 9) && blk c)) = false := fun c => by
    have := all256 (fun c => !(!((c.toNat : Int) == 32) && (!((c.toNat : Int) == 9) && blk c))) (by decide +kernel) c
    exact Bool.not_eq_true' _ ▸ this
  have := this c
  rw [h1, h2] at this
  simpa using this
theorem main (l : List Ln) (n t : Ln) (hl : l.length ≤ 140737488355328) : C4 (l, n, t, ()) = some (true, ()) := by
  show F4 C7 C8 C11 C12 C13 C14 C4_l0 _ = _
  simp only [F4, C7, c8 l hl, Option.bind_some]
  cases hfl : few l with
  | false => rfl
  | true =>
  cases h1 : ((n.length : Nat) : Int) == 0 with
  | true => rfl
  | false =>
    have h1' : n ≠ [] := fun h => by subst h; cases h1
    by_cases h2 : ((n.length : Nat) : Int) > 50
    · simp (disch := (first | omega | (simp only [List.length_append, List.length_cons, List.length_nil]; omega))) only [decide_eq_true, decide_eq_false, cond_true, cond_false, Bool.and_self, Bool.true_and, Bool.and_true, Bool.false_and, Bool.and_false, Bool.not_true, Bool.not_false, List.length_append, List.length_cons, List.length_nil, Int.toNat_natCast, ibT, ibF, inT, inF, wrN, gd, dr, Option.bind_some, Sum.elim_inl, Sum.elim_inr, byte_back, of_to]
    by_cases h3 : ((t.length : Nat) : Int) > 100
    · simp (disch := (first | omega | (simp only [List.length_append, List.length_cons, List.length_nil]; omega))) only [decide_eq_true, decide_eq_false, cond_true, cond_false, Bool.and_self, Bool.true_and, Bool.and_true, Bool.false_and, Bool.and_false, Bool.not_true, Bool.not_false, List.length_append, List.length_cons, List.length_nil, Int.toNat_natCast, ibT, ibF, inT, inF, wrN, gd, dr, Option.bind_some, Sum.elim_inl, Sum.elim_inr, byte_back, of_to]
    by_cases h4 : fp bc n < n.length
    · simp (disch := (first | omega | (simp only [List.length_append, List.length_cons, List.length_nil]; omega))) only [decide_eq_true, decide_eq_false, cond_true, cond_false, Bool.and_self, Bool.true_and, Bool.and_true, Bool.false_and, Bool.and_false, Bool.not_true, Bool.not_false, List.length_append, List.length_cons, List.length_nil, Int.toNat_natCast, ibT, ibF, inT, inF, wrN, gd, dr, Option.bind_some, Sum.elim_inl, Sum.elim_inr, byte_back, of_to, c4l l t, if_pos h4]
    have hgood : ∀ c ∈ n, bc c = false := fun c hc => by
      obtain ⟨k, hk, rfl⟩ := List.getElem_of_mem hc
      exact fp_lt bc n k (by omega) hk
    have hlen := few_len hfl
    have key : (∀ c r l', l = (c :: r) :: l' → blk c = false) →
        C12 (l, ()) = some (fields l, ()) ∧ C12 ([n ++ [58, 32] ++ t] ++ l, ()) = some (trimF (plain n, t) :: fields l, ()) ∧
        C14 ([n ++ [58] ++ t] ++ l, n, ()) = some (Lib.trimS t [32, 9], true, ()) ∧ C11 (fields l, fields l, ()) = some (true, ()) ∧ (fields l).length ≤ 60 := by
      intro hb
      have hm : ∀ s ∈ l, s.length ≤ 1000 := fun s hs => by have := few_mem hfl hs; omega
      have g : ∀ x : Ln, x.length ≤ 101 → ∀ s ∈ (n ++ 58 :: x) :: l, s.length ≤ 1000 := by
        intro x hx s hs
        rcases List.mem_cons.1 hs with rfl | hs
        · simp; omega
        · exact hm s hs
      have hle := hd_le l
      have hf := fields_len hm
      refine ⟨c12 (by omega) hm, ?_, ?_, c11 _ (by omega), by omega⟩
      · have := c12 (l := (n ++ 58 :: 32 :: t) :: l) (by simp; omega) (g _ (by simp; omega))
        rw [head h1' hgood hb] at this
        rw [show trimF (plain n, t) = trimF (plain n, 32 :: t) by simp only [trimF, trimR_blank]]
        simpa using this
      · have := c14 (n := n) (l := (n ++ 58 :: t) :: l) (by omega) (by simp; omega) (g _ (by omega)) (head h1' hgood hb) rfl
        simpa [trimF] using this
    have c13n := c13 n (by omega)
    have ht := trim_len t
    have hw : ∀ n : Nat, n ≤ 1000 → decide (n ≤ 140737488355328 / 16) = true := fun n h => by simp; omega
    have done : (∀ c r l', l = (c :: r) :: l' → blk c = false) → True := fun _ => trivial
    simp (disch := (first | omega | (simp only [List.length_append, List.length_cons, List.length_nil]; omega))) only [decide_eq_true, decide_eq_false, cond_true, cond_false, Bool.and_self, Bool.true_and, Bool.and_true, Bool.false_and, Bool.and_false, Bool.not_true, Bool.not_false, List.length_append, List.length_cons, List.length_nil, Int.toNat_natCast, ibT, ibF, inT, inF, wrN, gd, dr, Option.bind_some, Sum.elim_inl, Sum.elim_inr, byte_back, of_to, c4l l t, if_neg h4]
    cases l with
    | nil =>
      obtain ⟨k1, k2, k3, k4, k5⟩ := key (fun c r l' h => by cases h)
      simp only [List.append_nil] at k2 k3
      simp (disch := (first | omega | (simp only [List.length_append, List.length_cons, List.length_nil]; omega))) only [decide_eq_true, decide_eq_false, cond_true, cond_false, Bool.and_self, Bool.true_and, Bool.and_true, Bool.false_and, Bool.and_false, Bool.not_true, Bool.not_false, List.length_append, List.length_cons, List.length_nil, Int.toNat_natCast, ibT, ibF, inT, inF, wrN, gd, dr, Option.bind_some, Sum.elim_inl, Sum.elim_inr, byte_back, of_to, k1, k2, k3, k4, c13n, hw, trimF, List.getD_cons_zero, beq_self_eq_true, List.drop_succ_cons, List.drop_zero, List.append_nil]
    | cons s l =>
      cases s with
      | nil =>
        obtain ⟨k1, k2, k3, k4, k5⟩ := key (fun c r l' h => by cases h)
        simp only [List.length_cons] at hlen
        simp (disch := (first | omega | (simp only [List.length_append, List.length_cons, List.length_nil]; omega))) only [decide_eq_true, decide_eq_false, cond_true, cond_false, Bool.and_self, Bool.true_and, Bool.and_true, Bool.false_and, Bool.and_false, Bool.not_true, Bool.not_false, List.length_append, List.length_cons, List.length_nil, Int.toNat_natCast, ibT, ibF, inT, inF, wrN, gd, dr, Option.bind_some, Sum.elim_inl, Sum.elim_inr, byte_back, of_to, k1, k2, k3, k4, c13n, hw, trimF, List.getD_cons_zero, beq_self_eq_true, List.drop_succ_cons, List.drop_zero]
      | cons c s =>
        simp only [List.length_cons] at hlen
        cases g1 : ((c.toNat : Nat) : Int) == 32 with
        | true => simp (disch := (first | omega | (simp only [List.length_append, List.length_cons, List.length_nil]; omega))) only [decide_eq_true, decide_eq_false, cond_true, cond_false, Bool.and_self, Bool.true_and, Bool.and_true, Bool.false_and, Bool.and_false, Bool.not_true, Bool.not_false, List.length_append, List.length_cons, List.length_nil, Int.toNat_natCast, ibT, ibF, inT, inF, wrN, gd, dr, Option.bind_some, Sum.elim_inl, Sum.elim_inr, byte_back, of_to, List.getD_cons_zero, g1]
        | false =>
          cases g2 : ((c.toNat : Nat) : Int) == 9 with
          | true => simp (disch := (first | omega | (simp only [List.length_append, List.length_cons, List.length_nil]; omega))) only [decide_eq_true, decide_eq_false, cond_true, cond_false, Bool.and_self, Bool.true_and, Bool.and_true, Bool.false_and, Bool.and_false, Bool.not_true, Bool.not_false, List.length_append, List.length_cons, List.length_nil, Int.toNat_natCast, ibT, ibF, inT, inF, wrN, gd, dr, Option.bind_some, Sum.elim_inl, Sum.elim_inr, byte_back, of_to, List.getD_cons_zero, g1, g2]
          | false =>
            obtain ⟨k1, k2, k3, k4, k5⟩ := key (fun c' r l' h => by cases h; exact blkN g1 g2)
            simp (disch := (first | omega | (simp only [List.length_append, List.length_cons, List.length_nil]; omega))) only [decide_eq_true, decide_eq_false, cond_true, cond_false, Bool.and_self, Bool.true_and, Bool.and_true, Bool.false_and, Bool.and_false, Bool.not_true, Bool.not_false, List.length_append, List.length_cons, List.length_nil, Int.toNat_natCast, ibT, ibF, inT, inF, wrN, gd, dr, Option.bind_some, Sum.elim_inl, Sum.elim_inr, byte_back, of_to, k1, k2, k3, k4, c13n, hw, trimF, List.getD_cons_zero, beq_self_eq_true, List.drop_succ_cons, List.drop_zero, g1, g2]
theorem len {x : (Ty.lst .str).den} (b : Bd (Ty.lst .str) x) : List.length (α := List UInt8) x ≤ 140737488355328 := by
  have := b.1; simp only [asL] at this; exact Nat.le_trans this (by decide)
theorem pure (x0 : (Ty.lst .str).den) (b0 : Bd (Ty.lst .str) x0) (x1 : Ty.str.den) (b1 : Bd Ty.str x1) (x2 : Ty.str.den) (b2 : Bd Ty.str x2) : C4 (x0, x1, x2, ()) = some (true, ()) := main x0 x1 x2 (len b0)
end Go.Proofs.YtaoaagbfjekecaaDoor.PScanFields
