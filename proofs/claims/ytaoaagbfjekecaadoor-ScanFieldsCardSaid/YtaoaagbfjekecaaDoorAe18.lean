/- States; regions in the text's order. -/
import Derived.Test.YtaoaagbfjekecaaDoorAe17
set_option linter.unusedVariables false
set_option linter.unusedSimpArgs false
namespace Go.Ae
open Go.RowKit
variable {P : Program} {Γ : Tys} {K : Calls'} {a : Act} {w : World} {m : Md} {g : List Value} {st : St} {np : Nat}

structure Rep (w : World) (m : Md) (g : List Value) (st : St) (a : Act) : Prop where
  tmps : RepL w m g st.t a.tmps.toList
  dfr : a.defers = []
  obj : RepOb w m g st.o
def Pre (np : Nat) (g g' : List Value) : Prop := ∀ (o : Nat), o < np → ∀ v, g[o]? = some v → g'[o]? = some v
theorem Pre.refl (np : Nat) (g : List Value) : Pre np g g := fun _ _ _ h => h
theorem Pre.trans {g g1 g2 : List Value} (h : Pre np g g1) (k : Pre np g1 g2) : Pre np g g2 := fun o ho v hv => k o ho v (h o ho v hv)
theorem Pre.all {g g' : List Value} (h : ∀ (o : Nat) v, g[o]? = some v → g'[o]? = some v) : Pre np g g' := fun o _ v hv => h o v hv
def AX.out : AX → Exit
  | .normal => .normal | .exit i => .exit i | .goto l => .goto l | .ret => .ret

theorem RepL.set {as : List AV} {vs : List Value} (h : RepL w m g as vs) (d : Nat) {x : AV} {v : Value} (hx : RepV w m g x v) : RepL w m g (as.set d x) (vs.set d v) := by
  refine RepL.of_get (by simp [h.length]) fun i a u h1 h2 => ?_
  rw [List.getElem?_set] at h1 h2
  rw [h.length] at h2
  split at h1
  · rename_i e; subst e
    split at h1
    · rename_i hl
      simp only [hl, if_true] at h2
      cases h1; cases h2; exact hx
    · cases h1
  · rename_i e
    rw [if_neg e] at h2
    obtain ⟨v', h3, h4⟩ := h.get i a h1
    rw [h2] at h3; cases h3; exact h4

theorem Rep.ev (h : Rep w m g st a) (x : Operand) : RepV w m g (st.ev x) (a.eval x) := by
  cases x with
  | tmp t =>
    simp only [St.ev, Act.eval, List.getD_eq_getElem?_getD]
    cases hq : st.t[t]? with
    | none => trivial
    | some q =>
      obtain ⟨v, h1, h2⟩ := h.tmps.get t q hq
      have : a.tmps[t]? = some v := by simpa using h1
      simp only [Option.getD_some, Array.getD_eq_getD_getElem?, this]
      exact h2
  | const v => exact ofConst_rep v
  | func f => exact ⟨#[], #[], rfl, rfl, rfl⟩
  | global g => trivial

theorem Rep.put (h : Rep w m g st a) {w' : World} {m' : Md} {g' : List Value} {d : Option Tmp} {x : AV} {v : Value} {o : Store} (hs : Stp w m w' m') (hg : ∀ (o : Nat) v, g[o]? = some v → g'[o]? = some v) (hx : RepV w' m' g' x v) (ho : RepOb w' m' g' o) :
    Rep w' m' g' ⟨st.put d x, o⟩ (a.put d v) := by
  have ht := h.tmps.mono hs hg
  cases d with
  | none => exact ⟨ht, h.dfr, ho⟩
  | some d => exact ⟨by simpa [St.put, Act.put] using ht.set d hx, by simpa [Act.put] using h.dfr, ho⟩

theorem Rep.get (h : Rep w m g st a) {t : Nat} {x : AV} (ht : st.t[t]? = some x) : ∃ v, a.tmps[t]? = some v ∧ RepV w m g x v := by
  obtain ⟨v, h1, h2⟩ := h.tmps.get t x ht
  exact ⟨v, by simpa using h1, h2⟩

theorem set_same {α : Type} {l : List α} {i : Nat} {x : α} (h : l[i]? = some x) : l.set i x = l := by
  apply List.ext_getElem?; intro j
  rw [List.getElem?_set]
  split
  · rename_i e; subst e
    rw [if_pos (List.getElem?_eq_some_iff.1 h).1, h]
  · rfl

theorem aops_sound (hΓ : GOk P Γ) (hK : KOk P K) {R : Type} {κ : St → Option R} {r : R} {ops : Array Oper} {Q : Exit → Act → World → Prop} : ∀ (rest : List Oper) (k : Nat) (st : St) (a : Act) (w : World) (m : Md) (g : List Value),
    (∀ j, rest[j]? = ops[k + j]?) → Rep w m g st a → aops Γ K ops rest st κ = some r →
    (∀ st' a' w' m' g', κ st' = some r → Rep w' m' g' st' a' → Stp w m w' m' → (∀ (o : Nat) v, g[o]? = some v → g'[o]? = some v) → Q .normal a' w') → wpOps P ops Q (List.range' k rest.length) a w
  | [], k, st, a, w, m, g, _, hr, h, hQ => hQ st a w m g h hr (Stp.refl _ hr.obj.nm) fun _ _ h => h
  | o :: rest, k, st, a, w, m, g, hops, hr, h, hQ => by
    have ho : ops[k]? = some o := by simpa using (hops 0).symm
    have hops' : ∀ j, rest[j]? = ops[k + 1 + j]? := fun j => by
      have := hops (j + 1)
      rw [List.getElem?_cons_succ] at this
      rw [this]; congr 1; omega
    have go : ∀ (st' : St) (a' : Act) (w' : World) (m' : Md) (g' : List Value), aops Γ K ops rest st' κ = some r → Rep w' m' g' st' a' → Stp w m w' m' → (∀ (o : Nat) v, g[o]? = some v → g'[o]? = some v) → wpOps P ops Q (List.range' (k + 1) rest.length) a' w' :=
      fun st' a' w' m' g' h1 h2 h3 h4 => aops_sound hΓ hK rest (k + 1) st' a' w' m' g' hops' h2 h1 fun st2 a2 w2 m2 g2 k1 k2 k3 k4 => hQ st2 a2 w2 m2 g2 k1 k2 (h3.trans k3) fun o v hv => k4 o v (h4 o v hv)
    have run : ∀ st, Rep w m g st a → opF Γ K st.ev st.o st.o.length o.op (fun v ws => aops Γ K ops rest ⟨st.put o.dst v, wr st.o ws⟩ κ) = some r → o.wp P a w (wpOps P ops Q (List.range' (k + 1) rest.length)) Q := by
      intro st hr h
      have hp := opF_sound (P := P) (o := o) (a := a) hΓ hK hr.obj hr.ev h
      exact hp _ Q fun v w' m' g' av ws hZ h1 h2 h3 h4 => go _ _ _ _ _ hZ (hr.put h4 h3 h1 h2) h4 h3
    have skip : ∀ st, Rep w m g st a → aops Γ K ops rest ⟨st.put o.dst (.tuple []), st.o⟩ κ = some r → wpOps P ops Q (List.range' (k + 1) rest.length) (a.put o.dst undef) w := by
      intro st hr h
      exact go _ _ _ _ _ h (hr.put (Stp.refl _ hr.obj.nm) (fun _ _ h => h) ⟨#[], rfl, rfl⟩ hr.obj) (Stp.refl _ hr.obj.nm) fun _ _ h => h
    rw [List.length_cons, List.range'_succ]
    simp only [wpOps, ho]
    simp only [aops] at h
    cases hg : o.guard with
    | none =>
      rw [hg] at h
      simp only [Region.wanted, hg, if_true]
      exact .inl (run st hr h)
    | some jw =>
      obtain ⟨j, want⟩ := jw
      rw [hg] at h
      simp only at h
      split at h <;> try (cases h; done)
      rename_i d hd
      split at h <;> try (cases h; done)
      · rename_i b hb
        obtain ⟨v, hv, hvb⟩ := hr.get hb
        have hv' : v = .bool b := hvb
        subst hv'
        have hy : yielded ops a.tmps j = some b := by simp [yielded, hd, hv]
        simp only [Region.wanted, hg, hy]
        rcases cond_some h with ⟨rfl, h⟩ | ⟨rfl, h⟩
        · rw [set_same hb] at h
          cases want
          · simp only [show (some true == some false) = false from rfl, Bool.false_eq_true, if_false]
            exact skip st hr h
          · simp only [show (some true == some true) = true from rfl, if_true]
            exact .inl (run st hr h)
        · rw [set_same hb] at h
          cases want
          · simp only [show (some false == some false) = true from rfl, if_true]
            exact .inl (run st hr h)
          · simp only [show (some false == some true) = false from rfl, Bool.false_eq_true, if_false]
            exact skip st hr h
      · rename_i hb
        obtain ⟨v, hv, arr, hva, hvb⟩ := hr.get hb
        subst hva
        have hy : yielded ops a.tmps j = none := by simp [yielded, hd, hv]
        simp only [Region.wanted, hg, hy, show (none == some want) = false from rfl, Bool.false_eq_true, if_false]
        exact skip st hr h

end Go.Ae
