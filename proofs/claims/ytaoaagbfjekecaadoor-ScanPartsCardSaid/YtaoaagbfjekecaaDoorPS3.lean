/- What the scanner comes to: fields, flags. -/
import Derived.Test.YtaoaagbfjekecaaDoorPS2
set_option linter.unusedVariables false
set_option linter.unusedSimpArgs false
set_option maxRecDepth 100000
namespace Go.Proofs.YtaoaagbfjekecaaDoor.W
open Go Go.Ae Go.Pl
abbrev Fld := Ln × Ln
def blk (c : UInt8) : Bool := decide (Lib.indexByte [32, 9] c ≥ 0)
def addL (out : List Fld) (s : Ln) : List Fld := out.set (out.length - 1) ((out.getD (out.length - 1) ([], [])).1, (out.getD (out.length - 1) ([], [])).2 ++ s)
def fstep (st : Bool × List Fld) (s : Ln) : Bool × List Fld :=
  bif blk (s.getD 0 0) then (st.1, bif st.1 then addL st.2 s else st.2)
  else ((beg s).2.2, bif (beg s).2.2 then st.2 ++ [((beg s).1, (beg s).2.1)] else st.2)
/-- How great a state may be. -/
def Ok (k : Nat) (st : Bool × List Fld) : Prop := (st.1 = true → st.2 ≠ []) ∧ st.2.length ≤ k ∧ ∀ f ∈ st.2, f.2.length ≤ k * 1000
theorem ok_step {k : Nat} {st : Bool × List Fld} {s : Ln} (h : Ok k st) (hs : s.length ≤ 1000) : Ok (k + 1) (fstep st s) := by
  obtain ⟨h1, h2, h3⟩ := h
  have hc := (cut_len s).2
  unfold fstep
  cases blk (s.getD 0 0) with
  | true =>
    simp only [cond_true]
    cases hb : st.1 with
    | false =>
      refine ⟨fun h => by simp at h, by simp only [cond_false]; omega, fun f hf => ?_⟩
      have := h3 f (by simpa using hf); omega
    | true =>
      have hne := h1 hb
      simp only [cond_true]
      refine ⟨fun _ => ?_, by simp [addL]; omega, fun f hf => ?_⟩
      · simp [addL, hne]
      · simp only [addL] at hf
        rcases List.mem_or_eq_of_mem_set hf with hf | hf
        · have := h3 f hf; omega
        · subst hf
          have hpos : 0 < st.2.length := List.length_pos_iff.2 hne
          have : st.2.length - 1 < st.2.length := by omega
          rw [getD_lt this]
          have := h3 _ (List.getElem_mem this)
          simp only [List.length_append]; omega
  | false =>
    simp only [cond_false]
    cases hb : (beg s).2.2 with
    | false =>
      refine ⟨fun h => by simp at h, by simp only [cond_false]; omega, fun f hf => ?_⟩
      have := h3 f (by simpa using hf); omega
    | true =>
      simp only [cond_true]
      refine ⟨fun _ => by simp, by simp; omega, fun f hf => ?_⟩
      rcases List.mem_append.1 hf with hf | hf
      · have := h3 f hf; omega
      · simp only [List.mem_singleton] at hf
        subst hf
        simp only [beg]; omega
theorem r12 {l : List Ln} {k : Nat} {st : Bool × List Fld} (hk : k < l.length) (hne : (l[k] == []) = false) (hs : l[k].length ≤ 1000) (hn : l.length ≤ 100000) (h : Ok k st) :
    F12_l0 C19 C20 (st.1, l, (l.length : Int), (k : Int), st.2, ()) = some (.inl ((fstep st l[k]).1, l, (l.length : Int), ((k + 1 : Nat) : Int), (fstep st l[k]).2, ())) := by
  obtain ⟨h1, h2, h3⟩ := h
  have hp : 0 < l[k].length := by
    rcases Nat.eq_zero_or_pos l[k].length with h | h
    · rw [List.length_eq_zero_iff.1 h] at hne; cases hne
    · exact h
  have hcb := c19 [32, 9] (List.getD l[k] 0 0)
  cases hb : blk (l[k].getD 0 0) with
  | true =>
    have hb' : decide (Lib.indexByte [32, 9] (List.getD l[k] 0 0) ≥ 0) = true := hb
    cases ho : st.1 with
    | false => simp (disch := (first | omega | (simp only [List.length_append, List.length_cons, List.length_nil]; omega))) only [F12_l0, decide_eq_true, decide_eq_false, cond_true, cond_false, Bool.and_self, Bool.true_and, Bool.and_true, Bool.false_and, Bool.and_false, Bool.not_true, Bool.not_false, List.length_append, List.length_cons, List.length_nil, Int.toNat_natCast, ibT, ibF, inT, inF, wrN, gd, dr, Option.bind_some, Sum.elim_inl, Sum.elim_inr, byte_back, of_to, getD_lt hk, hcb, hb', fstep, hb, ho]
    | true =>
      have hne2 := h1 ho
      have hpos : 0 < st.2.length := List.length_pos_iff.2 hne2
      have hw : IntKind.i64.wrap ((st.2.length : Int) - 1) = ((st.2.length - 1 : Nat) : Int) := by rw [w64] <;> omega
      have hl : st.2.length - 1 < st.2.length := by omega
      have := h3 _ (List.getElem_mem hl)
      have h5 : List.length (st.2.getD (st.2.length - 1) ([], [])).2 + l[k].length ≤ 9223372036854775807 := by rw [getD_lt hl]; omega
      simp (disch := (first | omega | (simp only [List.length_append, List.length_cons, List.length_nil]; omega))) only [F12_l0, decide_eq_true, decide_eq_false, cond_true, cond_false, Bool.and_self, Bool.true_and, Bool.and_true, Bool.false_and, Bool.and_false, Bool.not_true, Bool.not_false, List.length_append, List.length_cons, List.length_nil, Int.toNat_natCast, ibT, ibF, inT, inF, wrN, gd, dr, Option.bind_some, Sum.elim_inl, Sum.elim_inr, byte_back, of_to, getD_lt hk, hcb, hb', fstep, hb, ho, hw, addL, decide_eq_true h5]
  | false =>
    have hb' : decide (Lib.indexByte [32, 9] (List.getD l[k] 0 0) ≥ 0) = false := hb
    cases hg : (beg l[k]).2.2 <;> simp (disch := (first | omega | (simp only [List.length_append, List.length_cons, List.length_nil]; omega))) only [F12_l0, decide_eq_true, decide_eq_false, cond_true, cond_false, Bool.and_self, Bool.true_and, Bool.and_true, Bool.false_and, Bool.and_false, Bool.not_true, Bool.not_false, List.length_append, List.length_cons, List.length_nil, Int.toNat_natCast, ibT, ibF, inT, inF, wrN, gd, dr, Option.bind_some, Sum.elim_inl, Sum.elim_inr, byte_back, of_to, getD_lt hk, hcb, hb', fstep, hb, c20, hg]
def trimF (f : Fld) : Fld := (f.1, Lib.trimS f.2 [32, 9])
def fields (l : List Ln) : List Fld := (((l.take (hd l)).foldl fstep (false, [])).2).map trimF
theorem foldl_take {α β : Type} (f : β → α → β) (b : β) {l : List α} {k : Nat} (h : k < l.length) : (l.take (k + 1)).foldl f b = f ((l.take k).foldl f b) l[k] := by
  rw [take_succ_get h, List.foldl_append]; rfl
theorem ok_fold {l : List Ln} (hb : ∀ s ∈ l, s.length ≤ 1000) : ∀ k, k ≤ l.length → Ok k ((l.take k).foldl fstep (false, []))
  | 0, _ => ⟨fun h => by simp at h, by simp, fun f hf => by simp at hf⟩
  | k + 1, h => by
    rw [foldl_take fstep _ (by omega)]
    exact ok_step (ok_fold hb k (by omega)) (hb _ (List.getElem_mem _))
theorem c12a {l : List Ln} (hn : l.length ≤ 100000) (hb : ∀ s ∈ l, s.length ≤ 1000) (hne : ∀ k (h : k < l.length), (l[k] == []) = false) :
    C12_l0 (false, l, (l.length : Int), 0, [], ()) = some ((l.foldl fstep (false, [])).2, ()) := by
  refine loopN_to (fun k => (((l.take k).foldl fstep (false, [])).1, l, (l.length : Int), ((k : Nat) : Int), ((l.take k).foldl fstep (false, [])).2, ())) l.length (fun k hk => ?_) ?_ (by unfold big; omega)
  · have := r12 hk (hne k hk) (hb _ (List.getElem_mem hk)) hn (ok_fold hb k (by omega))
    simp only [foldl_take fstep _ hk]
    exact this
  · simp (disch := (first | omega | (simp only [List.length_append, List.length_cons, List.length_nil]; omega))) only [F12_l0, decide_eq_true, decide_eq_false, cond_true, cond_false, Bool.and_self, Bool.true_and, Bool.and_true, Bool.false_and, Bool.and_false, Bool.not_true, Bool.not_false, List.length_append, List.length_cons, List.length_nil, Int.toNat_natCast, ibT, ibF, inT, inF, wrN, gd, dr, Option.bind_some, Sum.elim_inl, Sum.elim_inr, byte_back, of_to, List.take_length]
theorem c12b {l : List Fld} (hn : l.length ≤ 100000) (hb : ∀ f ∈ l, f.2.length ≤ 1000000000) : C12_l1 ((l.length : Int), 0, l, ()) = some (l.map trimF, ()) := by
  have key : ∀ (r pre : List Fld) (p n : Nat), pre.length = p → r.length < n → p + r.length ≤ 100000 → (∀ f ∈ r, f.2.length ≤ 1000000000) →
      loopN (F12_l1 C21) n (((p + r.length : Nat) : Int), (p : Int), pre ++ r, ()) = some (pre ++ r.map trimF, ()) := by
    intro r
    induction r with
    | nil =>
      intro pre p n hp hn hb _
      obtain ⟨n, rfl⟩ : ∃ m, n = m + 1 := ⟨n - 1, by simp at hn; omega⟩
      refine loopN_inr ?_
      simp (disch := (first | omega | (simp only [List.length_append, List.length_cons, List.length_nil]; omega))) only [F12_l1, decide_eq_true, decide_eq_false, cond_true, cond_false, Bool.and_self, Bool.true_and, Bool.and_true, Bool.false_and, Bool.and_false, Bool.not_true, Bool.not_false, List.length_append, List.length_cons, List.length_nil, Int.toNat_natCast, ibT, ibF, inT, inF, wrN, gd, dr, Option.bind_some, Sum.elim_inl, Sum.elim_inr, byte_back, of_to, List.map_nil]
    | cons f r ih =>
      intro pre p n hp hn hb hall
      obtain ⟨n, rfl⟩ : ∃ m, n = m + 1 := ⟨n - 1, by simp at hn; omega⟩
      simp only [List.length_cons] at hn hb
      have hf := hall f (List.mem_cons_self ..)
      have hc : C21 (f.2, [32, 9], ()) = some (Lib.trimS f.2 [32, 9], ()) := by
        show (if _ then _ else _) = _
        rw [if_pos ⟨show f.2.length ≤ 9223372036854775807 by omega, by simp, rfl⟩]
      have e : F12_l1 C21 (((p + (r.length + 1) : Nat) : Int), (p : Int), pre ++ f :: r, ()) = some (.inl (((p + (r.length + 1) : Nat) : Int), ((p + 1 : Nat) : Int), (pre ++ [trimF f]) ++ r, ())) := by
        simp (disch := (first | omega | (simp only [List.length_append, List.length_cons, List.length_nil]; omega))) only [F12_l1, decide_eq_true, decide_eq_false, cond_true, cond_false, Bool.and_self, Bool.true_and, Bool.and_true, Bool.false_and, Bool.and_false, Bool.not_true, Bool.not_false, List.length_append, List.length_cons, List.length_nil, Int.toNat_natCast, ibT, ibF, inT, inF, wrN, gd, dr, Option.bind_some, Sum.elim_inl, Sum.elim_inr, byte_back, of_to, hc]
        rw [← hp, set_mid]
        simp [trimF]
      rw [List.length_cons, loopN_inl e]
      have := ih (pre ++ [trimF f]) (p + 1) n (by simp [hp]) (by omega) (by omega) (fun g hg => hall g (List.mem_cons_of_mem _ hg))
      rw [show p + (r.length + 1) = p + 1 + r.length by omega, this]
      simp
  have := key l [] 0 big rfl (by unfold big; omega) (by omega) hb
  show loopN _ _ _ = _
  simpa using this
theorem c12 {l : List Ln} (hn : l.length ≤ 100000) (hb : ∀ s ∈ l, s.length ≤ 1000) : C12 (l, ()) = some (fields l, ()) := by
  have hle := hd_le l
  have h1 := c12a (l := l.take (hd l)) (by simp; omega) (fun s hs => hb s (List.mem_of_mem_take hs)) (fun k h => by
    simp only [List.length_take] at h
    rw [List.getElem_take]
    exact hd_ne (by omega))
  have h2 := ok_fold hb (hd l) hle
  have h3 := c12b (l := ((l.take (hd l)).foldl fstep (false, [])).2) (by have := h2.2.1; omega) (fun f hf => by have := h2.2.2 f hf; have : hd l * 1000 ≤ 100000 * 1000 := Nat.mul_le_mul_right _ (by omega); omega)
  show F12 C9 C12_l0 C12_l1 (l, ()) = _
  simp (disch := (first | omega | (simp only [List.length_append, List.length_cons, List.length_nil]; omega))) only [F12, c9 l (by omega), decide_eq_true, decide_eq_false, cond_true, cond_false, Bool.and_self, Bool.true_and, Bool.and_true, Bool.false_and, Bool.and_false, Bool.not_true, Bool.not_false, List.length_append, List.length_cons, List.length_nil, Int.toNat_natCast, ibT, ibF, inT, inF, wrN, gd, dr, Option.bind_some, Sum.elim_inl, Sum.elim_inr, byte_back, of_to, h1, h3, fields]
theorem fields_len {l : List Ln} (hb : ∀ s ∈ l, s.length ≤ 1000) : (fields l).length ≤ hd l := by
  have := (ok_fold hb (hd l) (hd_le l)).2.1
  simpa [fields] using this
/-! ### flags -/
def rec (f : Fld) : Bool := f.1 == [114, 101, 99, 101, 105, 118, 101, 100]
def hops (l : List Fld) : Nat := l.countP rec
theorem c10l {l : List Fld} (hn : l.length ≤ 100000) (a b c : Bool) (d e : Int) (a' b' c' : Bool) (d' : Int) :
    C10_l0 (l, (l.length : Int), 0, a, b, c, d, e, a', b', c', d', 0, ()) = some (a, b, c, d, e, a', b', c', d', (hops l : Int), ()) := by
  refine loopN_to (fun k => (l, (l.length : Int), ((k : Nat) : Int), a, b, c, d, e, a', b', c', d', ((hops (l.take k) : Nat) : Int), ())) l.length (fun k hk => ?_) ?_ (by unfold big; omega)
  · have hl : hops (l.take k) ≤ k := Nat.le_trans (List.countP_le_length) (by simp; omega)
    have e : hops (l.take (k + 1)) = hops (l.take k) + bif rec l[k] then 1 else 0 := by
      simp only [hops, take_succ_get hk, List.countP_append, List.countP_singleton]
      cases rec l[k] <;> rfl
    simp only [e]
    cases hr : rec l[k] with
    | true =>
      have hr' := hr
      simp only [rec] at hr'
      simp (disch := (first | omega | (simp only [List.length_append, List.length_cons, List.length_nil]; omega))) only [F10_l0, decide_eq_true, decide_eq_false, cond_true, cond_false, Bool.and_self, Bool.true_and, Bool.and_true, Bool.false_and, Bool.and_false, Bool.not_true, Bool.not_false, List.length_append, List.length_cons, List.length_nil, Int.toNat_natCast, ibT, ibF, inT, inF, wrN, gd, dr, Option.bind_some, Sum.elim_inl, Sum.elim_inr, byte_back, of_to, getD_lt hk, hr']
    | false =>
      have hr' := hr
      simp only [rec] at hr'
      simp (disch := (first | omega | (simp only [List.length_append, List.length_cons, List.length_nil]; omega))) only [F10_l0, decide_eq_true, decide_eq_false, cond_true, cond_false, Bool.and_self, Bool.true_and, Bool.and_true, Bool.false_and, Bool.and_false, Bool.not_true, Bool.not_false, List.length_append, List.length_cons, List.length_nil, Int.toNat_natCast, ibT, ibF, inT, inF, wrN, gd, dr, Option.bind_some, Sum.elim_inl, Sum.elim_inr, byte_back, of_to, getD_lt hk, hr', Nat.add_zero]
  · simp (disch := (first | omega | (simp only [List.length_append, List.length_cons, List.length_nil]; omega))) only [F10_l0, decide_eq_true, decide_eq_false, cond_true, cond_false, Bool.and_self, Bool.true_and, Bool.and_true, Bool.false_and, Bool.and_false, Bool.not_true, Bool.not_false, List.length_append, List.length_cons, List.length_nil, Int.toNat_natCast, ibT, ibF, inT, inF, wrN, gd, dr, Option.bind_some, Sum.elim_inl, Sum.elim_inr, byte_back, of_to, List.take_length]
theorem c10 {l : List Ln} (hn : l.length ≤ 100000) (hb : ∀ s ∈ l, s.length ≤ 1000) :
    C10 (l, ()) = some ((l.take (hd l)).any eight, (l.drop (hd l)).any eight, (l.take (hd l)).any brk, (hd l : Int), (hops (fields l) : Int), ()) := by
  have hle := hd_le l
  have hf := fields_len hb
  have ht : ∀ s ∈ l.take (hd l), s.length ≤ 1000 := fun s hs => hb s (List.mem_of_mem_take hs)
  have hdr : ∀ s ∈ l.drop (hd l), s.length ≤ 1000 := fun s hs => hb s (List.mem_of_mem_drop hs)
  have h1 := c16 (l.take (hd l)) (by simp; omega) (fun s hs => by have := ht s hs; omega)
  have h2 := c16 (l.drop (hd l)) (by simp; omega) (fun s hs => by have := hdr s hs; omega)
  have h3 := c16v (l.take (hd l)) (by simp; omega) (fun s hs => by have := ht s hs; omega)
  show F10 C9 C12 C16 C16v1 C10_l0 (l, ()) = _
  simp (disch := (first | omega | (simp only [List.length_append, List.length_cons, List.length_nil]; omega))) only [F10, c9 l (by omega), c12 hn hb, h1, h2, h3, decide_eq_true, decide_eq_false, cond_true, cond_false, Bool.and_self, Bool.true_and, Bool.and_true, Bool.false_and, Bool.and_false, Bool.not_true, Bool.not_false, List.length_append, List.length_cons, List.length_nil, Int.toNat_natCast, ibT, ibF, inT, inF, wrN, gd, dr, Option.bind_some, Sum.elim_inl, Sum.elim_inr, byte_back, of_to, c10l (l := fields l)]
/-! ### rows of fields, and finding one -/
theorem c11 (l : List Fld) (hn : l.length ≤ 100000) : C11 (l, l, ()) = some (true, ()) := by
  have e : C11_l0 (l, l, ((0 : Nat) : Int), ()) = some (.inl ()) := by
    refine loopN_to (fun k => (l, l, ((k : Nat) : Int), ())) l.length (fun k hk => ?_) ?_ (by unfold big; omega)
    · simp (disch := (first | omega | (simp only [List.length_append, List.length_cons, List.length_nil]; omega))) only [F11_l0, decide_eq_true, decide_eq_false, cond_true, cond_false, Bool.and_self, Bool.true_and, Bool.and_true, Bool.false_and, Bool.and_false, Bool.not_true, Bool.not_false, List.length_append, List.length_cons, List.length_nil, Int.toNat_natCast, ibT, ibF, inT, inF, wrN, gd, dr, Option.bind_some, Sum.elim_inl, Sum.elim_inr, byte_back, of_to, beq_self_eq_true]
    · simp (disch := (first | omega | (simp only [List.length_append, List.length_cons, List.length_nil]; omega))) only [F11_l0, decide_eq_true, decide_eq_false, cond_true, cond_false, Bool.and_self, Bool.true_and, Bool.and_true, Bool.false_and, Bool.and_false, Bool.not_true, Bool.not_false, List.length_append, List.length_cons, List.length_nil, Int.toNat_natCast, ibT, ibF, inT, inF, wrN, gd, dr, Option.bind_some, Sum.elim_inl, Sum.elim_inr, byte_back, of_to]
  show F11 C11_l0 _ = _
  simp only [F11]
  rw [show C11_l0 (l, l, 0, ()) = _ from e]
  simp (disch := (first | omega | (simp only [List.length_append, List.length_cons, List.length_nil]; omega))) only [decide_eq_true, decide_eq_false, cond_true, cond_false, Bool.and_self, Bool.true_and, Bool.and_true, Bool.false_and, Bool.and_false, Bool.not_true, Bool.not_false, List.length_append, List.length_cons, List.length_nil, Int.toNat_natCast, ibT, ibF, inT, inF, wrN, gd, dr, Option.bind_some, Sum.elim_inl, Sum.elim_inr, byte_back, of_to]
end Go.Proofs.YtaoaagbfjekecaaDoor.W
