/- Pieces of code. -/
import Derived.Test.YtaoaagbfjekecaaDoorAe22
import Derived.ScopeJumps
import Derived.Deep.LoopGhost
set_option linter.unusedVariables false
set_option linter.unusedSimpArgs false
namespace Go.Ae
open Go.RowKit
variable {P : Program} {Γ : Tys} {K : Calls'} {a : Act} {w : World} {m : Md} {g : List Value} {st : St} {np : Nat}

/-! ### Scopes -/
def ScopeFrom (P : Program) (c : Code) (l : Nat) (Q : Exit → Act → World → Prop) (a : Act) (w : World) : Prop :=
  ∃ rest, findLabel c l = some rest ∧ ∀ (b : Frame) (k : List Item) (cs : List Frame), ∃ e a' w', Q e a' w' ∧ Arrives P (lone (b.at a (.code rest :: .inScope c :: k)) cs w) b k cs e a' w'
def jumps (P : Program) (c : Code) (Q : Exit → Act → World → Prop) : Exit → Act → World → Prop
  | .goto l, a, w => ScopeFrom P c l Q a w
  | e, a, w => Q e a w
theorem scope_key {c x : Code} {Q : Exit → Act → World → Prop} (h : x.wp P (jumps P c Q) a w) (b : Frame) (k : List Item) (cs : List Frame) :
    ∃ e a' w', Q e a' w' ∧ Arrives P (lone (b.at a (.code x :: .inScope c :: k)) cs w) b k cs e a' w' := by
  obtain ⟨e, a₁, w₁, hq, harr⟩ := h b (.inScope c :: k) cs
  cases e with
  | normal => exact ⟨.normal, a₁, w₁, hq, Steps.trans harr (.one step_inScope)⟩
  | exit id => exact ⟨.exit id, a₁, w₁, hq, fun k' hk => harr k' (by simp [exitTo, hk])⟩
  | goto l' =>
    obtain ⟨rest, hf, hall⟩ := hq
    obtain ⟨e₂, a₂, w₂, hq₂, harr₂⟩ := hall b k cs
    have hg : gotoIn l' (.inScope c :: k) = some (.code rest :: .inScope c :: k) := by simp [gotoIn, hf]
    exact ⟨e₂, a₂, w₂, hq₂, .of_steps (harr _ hg) harr₂⟩
  | ret => exact ⟨_, a₁, w₁, hq, harr⟩
  | panic ch => exact ⟨_, a₁, w₁, hq, harr⟩
  | outgrown => exact ⟨_, a₁, w₁, hq, harr⟩
theorem wp_scope_from {c : Code} {Q : Exit → Act → World → Prop} (h : c.wp P (jumps P c Q) a w) : (Code.scope c).wp P Q a w := by
  intro b k cs
  obtain ⟨e, a', w', h1, h2⟩ := scope_key h b k cs
  exact ⟨e, a', w', h1, .of_steps (.one step_scope) h2⟩
theorem ScopeFrom.of {c rest : Code} {l : Nat} {Q : Exit → Act → World → Prop} (hf : findLabel c l = some rest) (h : rest.wp P (jumps P c Q) a w) : ScopeFrom P c l Q a w := ⟨rest, hf, scope_key h⟩

/-! ### Fragments -/
def FragOk (P : Program) (np : Nat) (run : (Exit → Act → World → Prop) → Act → World → Prop) (e : LEnt) : Prop :=
  ∀ (w : World) (m : Md) (g : List Value) (v : HS e.ins) (a : Act) (y : OTy e.outs) (Q : Exit → Act → World → Prop), Rep w m g ⟨(em id e.ins v).1, (em id e.ins v).2⟩ a → e.fn v = some y →
    (∀ ax l u a' w' m' g', OSel e.outs y ax l u → Rep w' m' g' ⟨(em id l u).1, (em id l u).2⟩ a' → Stp w m w' m' → Pre np g g' → Q ax.out a' w') → run Q a w
def AnnOk (P : Program) (np : Nat) : Code → Ann → Prop
  | .seq a b, n => AnnOk P np a n.l ∧ AnnOk P np b n.r ∧ ∀ e, n.cuts = some e → FragOk P np (fun Q a w => b.wp P Q a w) e
  | .cond _ x y, n => AnnOk P np x n.l ∧ AnnOk P np y n.r
  | .block _ c, n => AnnOk P np c n.l
  | .loop c, n => ∀ e, n = .loop e → FragOk P np (fun Q a w => (Code.loop c).wp P Q a w) e
  | .scope c, n => AnnOk P np c n.l ∧ ∀ l e, Ann.find l n.labels = some e → FragOk P np (ScopeFrom P c l) e
  | _, _ => True

theorem ms0_get (o : Nat) (h : o < np) : (ms0 np).m[o]? = some (some o) := by simp [ms0, h]
theorem ms0_pd : Pd (ms0 np) := by
  intro i j o h1 h2
  simp only [ms0, List.getElem?_map, Option.map_eq_some_iff, Option.some.injEq] at h1 h2
  obtain ⟨x, h1, rfl⟩ := h1
  obtain ⟨y, h2, rfl⟩ := h2
  have e1 := (List.getElem?_eq_some_iff.1 h1).2
  have e2 := (List.getElem?_eq_some_iff.1 h2).2
  simp at e1 e2; omega
theorem rep_forget (h : Rep w m g st a) {l : List Sh} {v : HS l} {ms : MS} (hm : mt st.o l st.t 0 (ms0 np) = some (v, ms)) : ∃ m1 g1, Rep w m1 g1 ⟨(em id l v).1, (em id l v).2⟩ a ∧ Stp w m w m1 ∧ Pre np g g1 := by
  obtain ⟨m1, s1, r1, r2, _, _, _, _, _, _, _, ext, _⟩ := forget h.obj hm ms0_pd rfl h.tmps
  exact ⟨m1, gOf g ms, ⟨r2, h.dfr, r1⟩, s1, fun o ho v hv => gOf_some (ext.get (ms0_get o ho)) hv⟩

theorem runL_sound {R : Type} {κ : AX → St → Option R} {r : R} {e : LEnt} {run : (Exit → Act → World → Prop) → Act → World → Prop} (hf : FragOk P np run e) (h : Rep w m g st a) (hr : runL np e st κ = some r) {Q : Exit → Act → World → Prop}
    (hQ : ∀ ax st' a' w' m' g', κ ax st' = some r → Rep w' m' g' st' a' → Stp w m w' m' → Pre np g g' → Q ax.out a' w') : run Q a w := by
  unfold runL at hr
  split at hr <;> try (cases hr; done)
  rename_i v ms hm
  obtain ⟨y, hy, hr⟩ := Option.bind_eq_some_iff.1 hr
  obtain ⟨m1, g1, r1, s1, p1⟩ := rep_forget h hm
  refine hf w m1 g1 v a y Q r1 hy fun ax l u a' w' m' g' hs hr' hst hpre => ?_
  rw [hs.2] at hr
  exact hQ ax _ a' w' m' g' hr hr' (s1.trans hst) (p1.trans hpre)

theorem aev_sound (hm : P.follows .mixedOrders = true) (hΓ : GOk P Γ) (hK : KOk P K) {R : Type} {r : R} : ∀ (c : Code) (n : Ann) (st : St) (κ : AX → St → Option R) (a : Act) (w : World) (m : Md) (g : List Value) (Q : Exit → Act → World → Prop),
    AnnOk P np c n → Rep w m g st a → aev Γ K np c n st κ = some r →
    (∀ ax st' a' w' m' g', κ ax st' = some r → Rep w' m' g' st' a' → Stp w m w' m' → Pre np g g' → Q ax.out a' w') → c.wp P Q a w := by
  intro c
  induction c with
  | skip => intro n st κ a w m g Q _ hr h hQ; exact wp_skip (hQ .normal st a w m g h hr (Stp.refl _ hr.obj.nm) (Pre.refl _ _))
  | label l => intro n st κ a w m g Q _ hr h hQ; exact wp_label (hQ .normal st a w m g h hr (Stp.refl _ hr.obj.nm) (Pre.refl _ _))
  | exit i => intro n st κ a w m g Q _ hr h hQ; exact wp_exit (hQ (.exit i) st a w m g h hr (Stp.refl _ hr.obj.nm) (Pre.refl _ _))
  | goto i => intro n st κ a w m g Q _ hr h hQ; exact wp_goto (hQ (.goto i) st a w m g h hr (Stp.refl _ hr.obj.nm) (Pre.refl _ _))
  | ret => intro n st κ a w m g Q _ hr h hQ; exact wp_ret (hQ .ret st a w m g h hr (Stp.refl _ hr.obj.nm) (Pre.refl _ _))
  | refuse => intro n st κ a w m g Q _ hr h hQ; cases h
  | rangeFunc => intro n st κ a w m g Q _ hr h hQ; cases h
  | region id ops d =>
    intro n st κ a w m g Q _ hr h hQ
    cases d with
    | true =>
      have h' : dregion Γ K ops st (κ .normal) = some r := h
      exact dregion_sound hm hΓ hK hr h' fun st' a' w' m' g' k1 k2 k3 k4 => hQ .normal st' a' w' m' g' k1 k2 k3 (Pre.all k4)
    | false =>
      have h' : aops Γ K ops ops.toList st (κ .normal) = some r := h
      refine wp_region ?_
      have := aops_sound (Q := Q) hΓ hK ops.toList 0 st a w m g (fun j => by simp) hr h' fun st' a' w' m' g' k1 k2 k3 k4 => hQ .normal st' a' w' m' g' k1 k2 k3 (Pre.all k4)
      rw [List.range_eq_range']
      simpa using this
  | seq x y ihx ihy =>
    intro n st κ a w m g Q hn hr h hQ
    refine wp_seq (ihx n.l st _ a w m g _ hn.1 hr h fun ax st' a' w' m' g' k1 k2 k3 k4 => ?_)
    cases ax with
    | normal =>
      simp only at k1
      split at k1
      · rename_i e he
        exact runL_sound (run := fun Q a w => y.wp P Q a w) (hn.2.2 e he) k2 k1 fun ax st2 a2 w2 m2 g2 p1 p2 p3 p4 => hQ ax st2 a2 w2 m2 g2 p1 p2 (k3.trans p3) (k4.trans p4)
      · exact ihy n.r st' κ a' w' m' g' Q hn.2.1 k2 k1 fun ax st2 a2 w2 m2 g2 p1 p2 p3 p4 => hQ ax st2 a2 w2 m2 g2 p1 p2 (k3.trans p3) (k4.trans p4)
    | exit i => exact hQ (.exit i) st' a' w' m' g' k1 k2 k3 k4
    | goto i => exact hQ (.goto i) st' a' w' m' g' k1 k2 k3 k4
    | ret => exact hQ .ret st' a' w' m' g' k1 k2 k3 k4
  | cond c x y ihx ihy =>
    intro n st κ a w m g Q hn hr h hQ
    simp only [aev] at h
    split at h
    · rename_i t
      split at h <;> try (cases h; done)
      rename_i b hb
      obtain ⟨v, hv, hvb⟩ := hr.get hb
      have hv' : v = .bool b := hvb
      subst hv'
      have hc : a.eval (.tmp t) = .bool b := by simp [Act.eval, Array.getD_eq_getD_getElem?, hv]
      rcases cond_some h with ⟨rfl, h⟩ | ⟨rfl, h⟩
      · rw [set_same hb] at h
        exact wp_cond_true hc (ihx n.l st κ a w m g Q hn.1 hr h hQ)
      · rw [set_same hb] at h
        exact wp_cond_false hc (ihy n.r st κ a w m g Q hn.2 hr h hQ)
    · rename_i b
      rcases cond_some h with ⟨rfl, h⟩ | ⟨rfl, h⟩
      · exact wp_cond_true rfl (ihx n.l st κ a w m g Q hn.1 hr h hQ)
      · exact wp_cond_false rfl (ihy n.r st κ a w m g Q hn.2 hr h hQ)
    · cases h
  | block i c ih =>
    intro n st κ a w m g Q hn hr h hQ
    refine wp_block (ih n.l st _ a w m g _ hn hr h fun ax st' a' w' m' g' k1 k2 k3 k4 => ?_)
    cases ax with
    | normal => exact hQ .normal st' a' w' m' g' k1 k2 k3 k4
    | exit j =>
      simp only at k1
      show Exit.inBlock i Q (.exit j) a' w'
      simp only [Exit.inBlock]
      split
      · rename_i e; rw [if_pos e] at k1; exact hQ .normal st' a' w' m' g' k1 k2 k3 k4
      · rename_i e; rw [if_neg e] at k1; exact hQ (.exit j) st' a' w' m' g' k1 k2 k3 k4
    | goto j => exact hQ (.goto j) st' a' w' m' g' k1 k2 k3 k4
    | ret => exact hQ .ret st' a' w' m' g' k1 k2 k3 k4
  | loop c ih =>
    intro n st κ a w m g Q hn hr h hQ
    simp only [aev] at h
    split at h <;> try (cases h; done)
    rename_i e
    exact runL_sound (run := fun Q a w => (Code.loop c).wp P Q a w) (hn e rfl) hr h hQ
  | scope c ih =>
    intro n st κ a w m g Q hn hr h hQ
    refine wp_scope_from (ih n.l st _ a w m g _ hn.1 hr h fun ax st' a' w' m' g' k1 k2 k3 k4 => ?_)
    cases ax with
    | normal => exact hQ .normal st' a' w' m' g' k1 k2 k3 k4
    | exit j => exact hQ (.exit j) st' a' w' m' g' k1 k2 k3 k4
    | goto j =>
      simp only at k1
      split at k1 <;> try (cases k1; done)
      rename_i e he
      exact runL_sound (run := ScopeFrom P c j) (hn.2 j e he) k2 k1 fun ax st2 a2 w2 m2 g2 p1 p2 p3 p4 => hQ ax st2 a2 w2 m2 g2 p1 p2 (k3.trans p3) (k4.trans p4)
    | ret => exact hQ .ret st' a' w' m' g' k1 k2 k3 k4
end Go.Ae
