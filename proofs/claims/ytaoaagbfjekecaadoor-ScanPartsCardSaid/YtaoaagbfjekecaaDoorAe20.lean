/- Regions that draw their order. -/
import Derived.Test.YtaoaagbfjekecaaDoorAe19
set_option linter.unusedVariables false
set_option linter.unusedSimpArgs false
namespace Go.Ae
open Go.RowKit
variable {P : Program} {Γ : Tys} {K : Calls'} {a : Act} {w : World} {m : Md} {g : List Value} {ob : Store} {st : St} {L : Nat} {ops : Array Oper}

theorem memN_iff {n : Nat} : ∀ {l : List Nat}, memN n l = true ↔ n ∈ l
  | [] => by simp [memN]
  | x :: r => by
    simp only [memN, List.mem_cons]
    split
    · rename_i h; have := Nat.eq_of_beq_eq_true h; simp [this]
    · rename_i h
      have : x ≠ n := fun e => by subst e; simp at h
      rw [memN_iff (l := r)]
      exact ⟨.inr, fun h => h.elim (fun e => absurd e.symm this) id⟩
theorem allN_iff {f : Nat → Bool} : ∀ {l : List Nat}, allN f l = true ↔ ∀ x ∈ l, f x = true
  | [] => by simp [allN]
  | x :: r => by
    simp only [allN, List.forall_mem_cons]
    split
    · rename_i h; rw [allN_iff (l := r)]; simp [h]
    · rename_i h; simp [h]
theorem apartN_iff {xs ys : List Nat} (h : apartN xs ys = true) : ∀ x ∈ xs, x ∉ ys := fun x hx hy => by
  have := allN_iff.1 h x hx
  rw [memN_iff.2 hy] at this; cases this
theorem mem_addN {n : Nat} : ∀ {xs l : List Nat}, n ∈ addN xs l ↔ n ∈ xs ∨ n ∈ l
  | [], l => by simp [addN]
  | x :: r, l => by
    simp only [addN]
    split
    · rename_i h
      have hx := memN_iff.1 h
      rw [mem_addN, List.mem_cons]
      exact ⟨fun h => h.elim (fun h => .inl (.inr h)) .inr, fun h => h.elim (fun h => h.elim (fun e => .inr (e ▸ hx)) .inl) .inr⟩
    · rw [mem_addN, List.mem_cons, List.mem_cons]
      exact ⟨fun h => h.elim (fun h => .inl (.inr h)) fun h => h.elim (fun h => .inl (.inl h)) .inr, fun h => h.elim (fun h => h.elim (fun h => .inr (.inl h)) .inl) fun h => .inr (.inr h)⟩

/-! ### The steps as functions -/
def effD (Γ : Tys) (K : Calls') (L : Nat) (ops : Array Oper) (x : Inf) (t : Nat → AV) (mob : Store) : Option (AV × List (Nat × List AV)) :=
  match ops[x.k]? with
  | none => none
  | some o =>
    let run := (opF Γ K (evF t) mob L o.op fun av ws => some (av, ws)).bind fun p => cond (okW x p.2) (some (p.1.ren (slotF L x.b), newsF (slotF L x.b) x.b p.2)) none
    match o.guard with
    | none => run
    | some (j, want) => match (ops[j]?).bind (·.dst) with
      | some d => match memN d x.us with
        | true => match t d with
          | .bool b => match b == want with | true => run | false => some (.tuple [], [])
          | .tuple [] => some (.tuple [], [])
          | _ => none
        | false => none
      | none => none
def Inf.dst (ops : Array Oper) (x : Inf) : Option Tmp := (ops[x.k]?).bind (·.dst)
def stepD (Γ : Tys) (K : Calls') (L : Nat) (ops : Array Oper) (x : Inf) (st : St) : Option St :=
  (effD Γ K L ops x (tmF x.us st.t) (maskF x.fp 0 st.o)).map fun e => ⟨st.put (x.dst ops) e.1, setAll st.o e.2⟩
def runD (Γ : Tys) (K : Calls') (L : Nat) (ops : Array Oper) : List Inf → St → Option St
  | [], st => some st
  | x :: r, st => (stepD Γ K L ops x st).bind (runD Γ K L ops r)

theorem newsF_mem {ρ : Nat → Nat} : ∀ (ws : List Wr) (b : Nat) (p : Nat × List AV), p ∈ newsF ρ b ws → p.1 ∈ wrsOf ws ∨ (b ≤ p.1 ∧ p.1 < b + newsN ws)
  | [], b, p, h => by cases h
  | .obj o cs :: r, b, p, h => by
    simp only [newsF, List.mem_cons] at h
    simp only [wrsOf, newsN]
    rcases h with rfl | h
    · exact .inl (mem_addN.2 (.inl (by simp)))
    · exact (newsF_mem r b p h).imp (fun h => mem_addN.2 (.inr h)) id
  | .new cs :: r, b, p, h => by
    simp only [newsF, List.mem_cons] at h
    simp only [wrsOf, newsN]
    rcases h with rfl | h
    · exact .inr ⟨Nat.le_refl _, by simp⟩
    · rcases newsF_mem r (b + 1) p h with h | h
      · exact .inl h
      · exact .inr ⟨by omega, by omega⟩
theorem okW_spec {x : Inf} {ws : List Wr} (h : okW x ws = true) : newsN ws ≤ x.n ∧ (∀ o ∈ wrsOf ws, o ∈ x.wrs) ∧ (∀ o ∈ x.wrs, o ∈ x.fp) ∧ ∀ o ∈ x.fp, o < x.b := by
  simp only [okW, Bool.and_eq_true] at h
  obtain ⟨⟨h1, h2⟩, h3, h4⟩ := h
  exact ⟨Nat.le_of_ble_eq_true h1, fun o ho => memN_iff.1 (allN_iff.1 h2 o ho), fun o ho => memN_iff.1 (allN_iff.1 h3 o ho), fun o ho => by simpa using allN_iff.1 h4 o ho⟩
theorem effD_ws {x : Inf} {t : Nat → AV} {mob : Store} {e : AV × List (Nat × List AV)} (h : effD Γ K L ops x t mob = some e) : ∀ p ∈ e.2, p.1 ∈ x.ws := by
  have run : ∀ o : Oper, ((opF Γ K (evF t) mob L o.op fun av ws => some (av, ws)).bind fun p => cond (okW x p.2) (some (p.1.ren (slotF L x.b), newsF (slotF L x.b) x.b p.2)) none) = some e → ∀ p ∈ e.2, p.1 ∈ x.ws := by
    intro o h
    obtain ⟨p, _, h⟩ := Option.bind_eq_some_iff.1 h
    cases hk : okW x p.2 with
    | false => rw [hk] at h; cases h
    | true =>
      rw [hk] at h
      cases h
      obtain ⟨h1, h2, _⟩ := okW_spec hk
      intro q hq
      rcases newsF_mem _ _ _ hq with h | ⟨h3, h4⟩
      · exact List.mem_append.2 (.inl (h2 _ h))
      · exact List.mem_append.2 (.inr (List.mem_range'_1.2 ⟨h3, by omega⟩))
  unfold effD at h
  split at h
  · cases h
  · rename_i o _
    simp only at h
    split at h
    · exact run o h
    · split at h
      · split at h
        · split at h
          · split at h
            · exact run o h
            · cases h; intro p hp; cases hp
          · cases h; intro p hp; cases hp
          · cases h
        · cases h
      · cases h

theorem tmF_put {us : List Nat} {l : List AV} {d : Nat} {v : AV} (h : d ∉ us) : tmF us (l.set d v) = tmF us l := by
  funext i
  simp only [tmF]
  split
  · rename_i hi
    have : d ≠ i := fun e => h (e ▸ memN_iff.1 hi)
    simp [List.getD_eq_getElem?_getD, List.getElem?_set_ne this]
  · rfl
theorem maskF_len {fp : List Nat} : ∀ (ob : Store) (i : Nat), (maskF fp i ob).length = ob.length
  | [], i => rfl
  | c :: r, i => by simp [maskF, maskF_len r]
theorem maskF_get {fp : List Nat} : ∀ (ob : Store) (i j : Nat), (maskF fp i ob)[j]? = (ob[j]?).map fun cs => match memN (i + j) fp with | true => cs | false => []
  | [], i, j => by simp [maskF]
  | c :: r, i, 0 => by simp only [maskF, List.getElem?_cons_zero, Nat.add_zero, Option.map_some]; cases memN i fp <;> rfl
  | c :: r, i, j + 1 => by simp only [maskF, List.getElem?_cons_succ]; rw [maskF_get r (i + 1) j, show i + 1 + j = i + (j + 1) by omega]
theorem maskF_set {fp : List Nat} {ob : Store} {o : Nat} {cs : List AV} (h : o ∉ fp) : maskF fp 0 (ob.set o cs) = maskF fp 0 ob := by
  apply List.ext_getElem?; intro j
  rw [maskF_get, maskF_get, List.getElem?_set]
  by_cases e : o = j
  · subst e
    have hm : memN (0 + o) fp = false := by rw [Nat.zero_add]; cases hb : memN o fp; rfl; exact absurd (memN_iff.1 hb) h
    rw [hm, if_pos rfl]
    by_cases hl : o < ob.length
    · rw [if_pos hl, List.getElem?_eq_getElem hl]; rfl
    · rw [if_neg hl, List.getElem?_eq_none (by omega)]
  · rw [if_neg e]
theorem maskF_setAll {fp : List Nat} : ∀ (e : List (Nat × List AV)) (ob : Store), (∀ p ∈ e, p.1 ∉ fp) → maskF fp 0 (setAll ob e) = maskF fp 0 ob
  | [], ob, _ => rfl
  | p :: e, ob, h => by
    simp only [setAll]
    rw [maskF_setAll e _ fun q hq => h q (List.mem_cons_of_mem _ hq), maskF_set (h p (by simp))]
theorem setAll_set : ∀ (e : List (Nat × List AV)) (ob : Store) (o : Nat) (cs : List AV), (∀ p ∈ e, p.1 ≠ o) → setAll (ob.set o cs) e = (setAll ob e).set o cs
  | [], ob, o, cs, _ => rfl
  | p :: e, ob, o, cs, h => by
    simp only [setAll]
    rw [List.set_comm _ _ (h p (by simp)).symm, setAll_set e _ o cs fun q hq => h q (List.mem_cons_of_mem _ hq)]
theorem setAll_comm : ∀ (e e' : List (Nat × List AV)) (ob : Store), (∀ p ∈ e, ∀ q ∈ e', p.1 ≠ q.1) → setAll (setAll ob e) e' = setAll (setAll ob e') e
  | [], e', ob, _ => rfl
  | p :: e, e', ob, h => by
    simp only [setAll]
    rw [setAll_comm e e' _ fun q hq => h q (List.mem_cons_of_mem _ hq), setAll_set e' ob p.1 p.2 fun q hq => (h p (by simp) q hq).symm]
theorem setAll_len : ∀ (e : List (Nat × List AV)) (ob : Store), (setAll ob e).length = ob.length
  | [], _ => rfl
  | p :: e, ob => by simp [setAll, setAll_len e]

theorem indep_spec {x y : Inf} (h : indepD ops x y = true) :
    (∀ d, x.dst ops = some d → d ∉ y.us ∧ y.dst ops ≠ some d) ∧ (∀ d, y.dst ops = some d → d ∉ x.us) ∧ (∀ o ∈ x.ws, o ∉ y.fp) ∧ (∀ o ∈ y.ws, o ∉ x.fp) ∧ ∀ o ∈ x.ws, o ∉ y.ws := by
  unfold indepD at h
  simp only [Bool.and_eq_true] at h
  obtain ⟨⟨h1, h2⟩, ⟨h3, h4⟩, h5⟩ := h
  refine ⟨fun d hd => ?_, fun d hd => ?_, apartN_iff h3, apartN_iff h4, apartN_iff h5⟩
  · rw [show (ops[x.k]?).bind (·.dst) = some d from hd] at h1
    simp only [Bool.and_eq_true, Bool.not_eq_true'] at h1
    refine ⟨fun hm => by rw [memN_iff.2 hm] at h1; exact absurd h1.1 (by simp), fun he => ?_⟩
    rw [show (ops[y.k]?).bind (·.dst) = some d from he] at h1
    simp at h1
  · rw [show (ops[y.k]?).bind (·.dst) = some d from hd] at h2
    simp only [Bool.not_eq_true'] at h2
    exact fun hm => by rw [memN_iff.2 hm] at h2; cases h2

theorem exch {x y : Inf} (h : indepD ops x y = true) {s1 s2 : St} (h1 : stepD Γ K L ops x st = some s1) (h2 : stepD Γ K L ops y s1 = some s2) : ∃ s1', stepD Γ K L ops y st = some s1' ∧ stepD Γ K L ops x s1' = some s2 := by
  obtain ⟨i1, i2, i3, i4, i5⟩ := indep_spec h
  unfold stepD at h1 h2
  obtain ⟨e, he, rfl⟩ := Option.map_eq_some_iff.1 h1
  obtain ⟨e', he', rfl⟩ := Option.map_eq_some_iff.1 h2
  have w1 := effD_ws he
  have w2 := effD_ws he'
  have t1 : tmF y.us (st.put (x.dst ops) e.1) = tmF y.us st.t := by
    cases hd : x.dst ops with
    | none => rfl
    | some d => exact tmF_put (i1 d hd).1
  have t2 : ∀ q, tmF x.us (St.put st (y.dst ops) q) = tmF x.us st.t := by
    intro q
    cases hd : y.dst ops with
    | none => rfl
    | some d => exact tmF_put (i2 d hd)
  have o1 : maskF y.fp 0 (setAll st.o e.2) = maskF y.fp 0 st.o := maskF_setAll _ _ fun p hp => i3 _ (w1 p hp)
  simp only [t1, o1] at he'
  refine ⟨⟨st.put (y.dst ops) e'.1, setAll st.o e'.2⟩, ?_, ?_⟩
  · unfold stepD; rw [he']; rfl
  · unfold stepD
    have o2 : maskF x.fp 0 (setAll st.o e'.2) = maskF x.fp 0 st.o := maskF_setAll _ _ fun p hp => i4 _ (w2 p hp)
    simp only [t2, o2, he, Option.map_some, Option.some.injEq, St.mk.injEq]
    refine ⟨?_, setAll_comm _ _ _ fun p hp q hq hpq => i5 q.1 (w1 q hq) (hpq ▸ w2 p hp)⟩
    simp only [St.put]
    cases hx : x.dst ops with
    | none => cases hy : y.dst ops <;> rfl
    | some d =>
      cases hy : y.dst ops with
      | none => rfl
      | some d' => exact List.set_comm _ _ fun e => (i1 d hx).2 (by rw [hy, e])
theorem runD_perm {x : Inf} : ∀ (r1 r2 : List Inf) (st s : St), (∀ y ∈ r1, indepD ops y x = true) → runD Γ K L ops (r1 ++ x :: r2) st = some s → runD Γ K L ops (x :: (r1 ++ r2)) st = some s
  | [], r2, st, s, _, h => h
  | y :: r1, r2, st, s, hi, h => by
    simp only [List.cons_append, runD] at h
    obtain ⟨s1, h1, h2⟩ := Option.bind_eq_some_iff.1 h
    have h3 := runD_perm r1 r2 s1 s (fun z hz => hi z (List.mem_cons_of_mem _ hz)) h2
    simp only [runD] at h3
    obtain ⟨s2, h4, h5⟩ := Option.bind_eq_some_iff.1 h3
    obtain ⟨s1', h6, h7⟩ := exch (hi y (by simp)) h1 h4
    simp only [runD, List.cons_append, h6, Option.bind_some, h7]
    exact h5
end Go.Ae
