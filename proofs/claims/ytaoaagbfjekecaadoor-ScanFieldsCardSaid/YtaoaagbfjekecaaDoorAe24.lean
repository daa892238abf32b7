/- Loops, labels, functions. -/
import Derived.Test.YtaoaagbfjekecaaDoorAe23
set_option linter.unusedVariables false
set_option linter.unusedSimpArgs false
namespace Go.Ae
open Go.RowKit
variable {P : Program} {Γ : Tys} {K : Calls'} {a : Act} {w : World} {m : Md} {g : List Value} {st : St} {np : Nat}

theorem oout_sound (hr : Rep w m g st a) : ∀ (os : Outs) (ax : AX) (y : OTy os), oout np os ax st = some y → ∃ l u m1 g1, OSel os y ax l u ∧ Rep w m1 g1 ⟨(em id l u).1, (em id l u).2⟩ a ∧ Stp w m w m1 ∧ Pre np g g1
  | [], ax, y, h => by cases h
  | [l], ax, y, h => by
    simp only [oout] at h
    split at h <;> try (cases h; done)
    rename_i e
    split at h <;> try (cases h; done)
    rename_i x ms hm
    have e2 := Option.some.inj h
    subst e2
    obtain ⟨m1, g1, r1, r2, r3⟩ := rep_forget hr hm
    exact ⟨l.2, x, m1, g1, ⟨by rw [← e]; simp, fun R k => by rw [← e]; rfl⟩, r1, r2, r3⟩
  | l :: l' :: r, ax, y, h => by
    simp only [oout] at h
    split at h
    · rename_i x ms hm
      split at hm
      · rename_i e
        cases h
        obtain ⟨m1, g1, r1, r2, r3⟩ := rep_forget hr hm
        exact ⟨l.2, x, m1, g1, ⟨by rw [← e]; simp, fun R k => by rw [← e]; rfl⟩, r1, r2, r3⟩
      · cases hm
    · split at h <;> try (cases h; done)
      rename_i z hz
      cases h
      obtain ⟨l2, u, m1, g1, h1, h2⟩ := oout_sound hr (l' :: r) ax z hz
      exact ⟨l2, u, m1, g1, ⟨List.mem_cons_of_mem _ h1.1, fun R k => h1.2 R k⟩, h2⟩

theorem loopN_succ {α β : Type} {F : α → Option (α ⊕ β)} {n : Nat} {v : α} {y : β} (h : loopN F n v = some y) : ∃ k z, n = k + 1 ∧ F v = some z ∧ (match z with | .inl x => loopN F k x = some y | .inr y' => y' = y) := by
  cases n with
  | zero => cases h
  | succ k =>
    obtain ⟨z, h1, h2⟩ := Option.bind_eq_some_iff.1 h
    refine ⟨k, z, rfl, h1, ?_⟩
    cases z with
    | inl x => exact h2
    | inr y' => exact Option.some.inj h2

/-- A loop, out of its round. -/
theorem frag_loop (hm : P.follows .mixedOrders = true) (hΓ : GOk P Γ) (hK : KOk P K) {c : Code} {n : Ann} {ins : List Sh} {os : Outs} {F : HS ins → Option (HS ins ⊕ OTy os)} (fuel : HS ins → Nat) (hn : AnnOk P np c n)
    (h : ∀ v, aev Γ K np c n ⟨(em id ins v).1, (em id ins v).2⟩ (around np ins os) = F v) : FragOk P np (fun Q a w => (Code.loop c).wp P Q a w) ⟨ins, os, fun v => loopN F (fuel v) v⟩ := by
  intro w m g v a y Q hr hy hQ
  refine wp_loop_ghost (fun k a' w' => ∃ v' m' g', Rep w' m' g' ⟨(em id ins v').1, (em id ins v').2⟩ a' ∧ loopN F k v' = some y ∧ Stp w m w' m' ∧ Pre np g g') (fuel v) ⟨v, m, g, hr, hy, Stp.refl _ hr.obj.nm, Pre.refl _ _⟩ ?_
  rintro k a' w' ⟨v', m', g', hr', hy', hst, hpre⟩
  obtain ⟨k', z, rfl, hF, hz⟩ := loopN_succ hy'
  refine aev_sound (np := np) hm hΓ hK c n _ _ a' w' m' g' _ hn hr' ((h v').trans hF) fun ax st2 a2 w2 m2 g2 p1 p2 p3 p4 => ?_
  have out : ∀ (hax : ax ≠ .normal), oout np os ax st2 = some y → Q ax.out a2 w2 := by
    intro _ ho
    obtain ⟨l, u, m3, g3, q1, q2, q3, q4⟩ := oout_sound p2 os ax y ho
    exact hQ ax l u a2 w2 m3 g3 q1 q2 (hst.trans (p3.trans q3)) (hpre.trans (p4.trans q4))
  have out' : ∀ y', oout np os ax st2 = some y' → (Sum.inr y' : HS ins ⊕ OTy os) = z → oout np os ax st2 = some y := by
    intro y' h1 h2
    subst h2
    rw [h1, show y' = y from hz]
  cases ax with
  | normal =>
    simp only [around] at p1
    split at p1 <;> try (cases p1; done)
    rename_i x ms hm
    cases p1
    obtain ⟨m3, g3, q2, q3, q4⟩ := rep_forget p2 hm
    exact ⟨k', Nat.lt_succ_self _, x, m3, g3, q2, hz, hst.trans (p3.trans q3), hpre.trans (p4.trans q4)⟩
  | exit i =>
    simp only [around] at p1
    split at p1 <;> try (cases p1; done)
    rename_i y' ho
    exact out (by simp) (out' y' ho (Option.some.inj p1))
  | goto i =>
    simp only [around] at p1
    split at p1 <;> try (cases p1; done)
    rename_i y' ho
    exact out (by simp) (out' y' ho (Option.some.inj p1))
  | ret =>
    simp only [around] at p1
    split at p1 <;> try (cases p1; done)
    rename_i y' ho
    exact out (by simp) (out' y' ho (Option.some.inj p1))

/-- A piece of code told by itself. -/

theorem frag_code (hm : P.follows .mixedOrders = true) (hΓ : GOk P Γ) (hK : KOk P K) {c : Code} {n : Ann} {ins : List Sh} {os : Outs} {F : HS ins → Option (OTy os)} (hn : AnnOk P np c n)
    (h : ∀ v, aev Γ K np c n ⟨(em id ins v).1, (em id ins v).2⟩ (oout np os) = F v) : FragOk P np (fun Q a w => c.wp P Q a w) ⟨ins, os, F⟩ := by
  intro w m g v a y Q hr hy hQ
  refine aev_sound (np := np) hm hΓ hK c n _ _ a w m g _ hn hr ((h v).trans hy) fun ax st2 a2 w2 m2 g2 p1 p2 p3 p4 => ?_
  obtain ⟨l, u, m3, g3, q1, q2, q3, q4⟩ := oout_sound p2 os ax y p1
  exact hQ ax l u a2 w2 m3 g3 q1 q2 (p3.trans q3) (p4.trans q4)

/-- What stands behind a label, the other labels told. -/
def aroundL (np l : Nat) (ls : List (Nat × LEnt)) (ins : List Sh) (os : Outs) (ax : AX) (st : St) : Option (HS ins ⊕ OTy os) := match ax with
  | .goto l' => match Nat.beq l' l with
    | true => match mt st.o ins st.t 0 (ms0 np) with
      | some (x, _) => some (.inl x)
      | none => none
    | false => match Ann.find l' ls with
      | some e => runL np e st fun ax st => match oout np os ax st with
        | some y => some (.inr y)
        | none => none
      | none => none
  | ax => match oout np os ax st with
    | some y => some (.inr y)
    | none => none
theorem frag_label (hm : P.follows .mixedOrders = true) (hΓ : GOk P Γ) (hK : KOk P K) {c rest : Code} {l : Nat} {ls : List (Nat × LEnt)} {n : Ann} {ins : List Sh} {os : Outs} {F : HS ins → Option (HS ins ⊕ OTy os)} (fuel : HS ins → Nat) (hl : findLabel c l = some rest) (hn : AnnOk P np rest n)
    (hls : ∀ l' e, Ann.find l' ls = some e → FragOk P np (ScopeFrom P c l') e)
    (h : ∀ v, aev Γ K np rest n ⟨(em id ins v).1, (em id ins v).2⟩ (aroundL np l ls ins os) = F v) : FragOk P np (ScopeFrom P c l) ⟨ins, os, fun v => loopN F (fuel v) v⟩ := by
  intro w m g v a y Q hr hy hQ
  simp only at hy
  generalize fuel v = k at hy
  have key : ∀ (k : Nat) (v : HS ins) (a' : Act) (w' : World) (m' : Md) (g' : List Value), Rep w' m' g' ⟨(em id ins v).1, (em id ins v).2⟩ a' → loopN F k v = some y → Stp w m w' m' → Pre np g g' → ScopeFrom P c l Q a' w' := by
    intro k
    induction k with
    | zero => intro v a' w' m' g' _ h; cases h
    | succ k ih =>
      intro v a' w' m' g' hr' hy' hst hpre
      obtain ⟨k', z, he, hF, hz⟩ := loopN_succ hy'
      cases he
      refine ScopeFrom.of hl (aev_sound (np := np) hm hΓ hK rest n _ _ a' w' m' g' _ hn hr' ((h v).trans hF) fun ax st2 a2 w2 m2 g2 p1 p2 p3 p4 => ?_)
      have out : oout np os ax st2 = some y → Q ax.out a2 w2 := by
        intro ho
        obtain ⟨l, u, m3, g3, q1, q2, q3, q4⟩ := oout_sound p2 os ax y ho
        exact hQ ax l u a2 w2 m3 g3 q1 q2 (hst.trans (p3.trans q3)) (hpre.trans (p4.trans q4))
      have out' : ∀ y', oout np os ax st2 = some y' → (Sum.inr y' : HS ins ⊕ OTy os) = z → oout np os ax st2 = some y := by
        intro y' h1 h2
        subst h2
        rw [h1, show y' = y from hz]
      cases ax with
      | goto l' =>
        simp only [aroundL] at p1
        split at p1
        · rename_i hb
          have : l' = l := Nat.eq_of_beq_eq_true hb
          subst this
          split at p1 <;> try (cases p1; done)
          rename_i x ms hm
          cases p1
          obtain ⟨m3, g3, q2, q3, q4⟩ := rep_forget p2 hm
          exact ih x a2 w2 m3 g3 q2 hz (hst.trans (p3.trans q3)) (hpre.trans (p4.trans q4))
        · split at p1 <;> try (cases p1; done)
          rename_i e he
          refine runL_sound (run := ScopeFrom P c l') (hls l' e he) p2 p1 fun ax st3 a3 w3 m3 g3 t1 t2 t3 t4 => ?_
          split at t1 <;> try (cases t1; done)
          rename_i y' ho
          have e1 : y' = y := by
            cases Option.some.inj t1; exact hz
          subst e1
          obtain ⟨l, u, m4, g4, q1, q2, q3, q4⟩ := oout_sound t2 os ax y' ho
          exact hQ ax l u a3 w3 m4 g4 q1 q2 (hst.trans (p3.trans (t3.trans q3))) (hpre.trans (p4.trans (t4.trans q4)))
      | normal =>
        simp only [aroundL] at p1
        split at p1 <;> try (cases p1; done)
        rename_i y' ho
        exact out (out' y' ho (Option.some.inj p1))
      | exit i =>
        simp only [aroundL] at p1
        split at p1 <;> try (cases p1; done)
        rename_i y' ho
        exact out (out' y' ho (Option.some.inj p1))
      | ret =>
        simp only [aroundL] at p1
        split at p1 <;> try (cases p1; done)
        rename_i y' ho
        exact out (out' y' ho (Option.some.inj p1))
  exact key k v a w m g hr hy (Stp.refl _ hr.obj.nm) (Pre.refl _ _)

/-! ### Functions -/
def resSem (tmps : Array Value) : ResultVar → Sem Value
  | .tmp t => pure (tmps.getD t undef)
  | .cell b t => do loadVar t (← asAddr (tmps.getD b undef))
theorem aresult_sound (hΓ : GOk P Γ) (hr : Rep w m g st a) {x : ResultVar} {av : AV} (h : aresult Γ st x = some av) :
    ∃ v, (resSem a.tmps x).run P w = .ok v w ∧ RepV w m g av v := by
  cases x with
  | tmp t =>
    obtain ⟨v, h1, h2⟩ := hr.get (show st.t[t]? = some av from h)
    exact ⟨v, by simp [resSem, Array.getD_eq_getD_getElem?, h1], h2⟩
  | cell b t =>
    simp only [aresult] at h
    split at h <;> try (cases h; done)
    rename_i o off ti hb ht
    split at h <;> try (cases h; done)
    rename_i cs hsi ho
    have hp := h
    obtain ⟨v, h1, bb, h2, h3⟩ := hr.get hb
    subst h3
    have key : ∃ u, (loadVar t ⟨bb, off, none⟩).run P w = .ok u w ∧ RepV w m g av u := by
      rcases box_of_ptr (off := off) hr.obj h2 ho hsi with rfl | ⟨ty, arr, k1, k2, _⟩
      · have := run_loadPart (w := w) (m := m) (g := g) hΓ ht hp (b := bb) (x := 0) (vs := []) rfl (fun i u hu => by simp at hu)
        simpa using this
      · have := run_loadPart hΓ ht hp (b := bb) (x := 0) k2 (fun i u hu => by rw [Nat.zero_add, cell_of_row w bb i arr ty (0, 0) k1]; simpa using hu)
        simpa using this
    obtain ⟨u, h4, h5⟩ := key
    exact ⟨u, by simp [resSem, Array.getD_eq_getD_getElem?, h1, asAddr, h4], h5⟩

theorem aresults_list (hΓ : GOk P Γ) (hr : Rep w m g st a) : ∀ (rs : List ResultVar) (avs : List AV), rs.mapM (aresult Γ st) = some avs →
    ∃ vs, (rs.mapM (resSem a.tmps)).run P w = .ok vs w ∧ RepL w m g avs vs
  | [], avs, h => by
    simp at h; subst h
    exact ⟨[], rfl, rfl⟩
  | x :: rs, avs, h => by
    simp only [List.mapM_cons, Option.bind_eq_bind, Option.pure_def] at h
    obtain ⟨av, h1, h2⟩ := Option.bind_eq_some_iff.1 h
    obtain ⟨avs', h3, h4⟩ := Option.bind_eq_some_iff.1 h2
    cases h4
    obtain ⟨v, k1, k2⟩ := aresult_sound hΓ hr h1
    obtain ⟨vs, k3, k4⟩ := aresults_list hΓ hr rs avs' h3
    refine ⟨v :: vs, ?_, .cons k2 k4⟩
    rw [List.mapM_cons]
    simp only [Sem.run_bind, k1, Result.andThen_ok, k3]
    rfl

theorem aresults_sound (hΓ : GOk P Γ) (hr : Rep w m g st a) {fn : Func} {av : AV} (h : aresults Γ st fn.results.toList = some av) : ∃ v, (results fn a.tmps).run P w = .ok v w ∧ RepV w m g av v := by
  have hm : ∀ vs, (fn.results.toList.mapM (resSem a.tmps)).run P w = .ok vs w → (results fn a.tmps).run P w = .ok (if h : vs.toArray.size = 1 then vs.toArray[0] else .tuple vs.toArray) w := by
    intro vs hv
    have e : results fn a.tmps = (do let vs ← fn.results.mapM (resSem a.tmps); pure (if h : vs.size = 1 then vs[0] else .tuple vs)) := rfl
    rw [e, ← Array.toArray_toList (xs := fn.results), List.mapM_toArray]
    simp only [Sem.run_bind, Sem.run_map, hv, Result.andThen_ok, Sem.run_pure]
  unfold aresults at h
  split at h
  · rename_i x hx
    obtain ⟨v, k1, k2⟩ := aresult_sound hΓ hr h
    have := hm [v] (by rw [hx]; simp only [List.mapM_cons, List.mapM_nil, Sem.run_bind, k1, Result.andThen_ok]; rfl)
    exact ⟨v, this, k2⟩
  · rename_i hne
    obtain ⟨avs, h1, rfl⟩ := Option.map_eq_some_iff.1 h
    obtain ⟨vs, k1, k2⟩ := aresults_list hΓ hr _ _ h1
    have hl : avs.length = fn.results.toList.length := by
      have := hm vs k1
      have hlen : ∀ (l : List ResultVar) (r : List AV), l.mapM (aresult Γ st) = some r → r.length = l.length := by
        intro l
        induction l with
        | nil => intro r h; simp at h; subst h; rfl
        | cons x l ih =>
          intro r h
          simp only [List.mapM_cons, Option.bind_eq_bind, Option.pure_def] at h
          obtain ⟨y, _, h⟩ := Option.bind_eq_some_iff.1 h
          obtain ⟨ys, h3, h⟩ := Option.bind_eq_some_iff.1 h
          cases h
          simp [ih ys h3]
      exact hlen _ _ h1
    have hn1 : ¬ vs.toArray.size = 1 := by
      intro h1
      rw [List.size_toArray, k2.length, hl] at h1
      match hq : fn.results.toList with
      | [x] => exact hne x hq
      | [] => rw [hq] at h1; simp at h1
      | _ :: _ :: _ => rw [hq] at h1; simp at h1
    refine ⟨_, hm vs k1, ?_⟩
    rw [dif_neg hn1]
    exact ⟨vs.toArray, rfl, k2⟩

theorem ofin_sound {av : AV} {v : Value} {ob : Store} (hob : RepOb w m g ob) (hv : RepV w m g av v) : ∀ (os : Outs) (y : OTy os), ofin np os av ob = some y →
    ∃ ax l u m1 g1, OSel os y ax l u ∧ Stp w m w m1 ∧ RepOb w m1 g1 (em id l u).2 ∧ Pre np g g1 ∧ RepL w m1 g1 (em id l u).1 [v]
  | [], y, h => by cases h
  | [l], y, h => by
    simp only [ofin] at h
    split at h <;> try (cases h; done)
    rename_i x ms hm
    have e2 := Option.some.inj h
    subst e2
    obtain ⟨m1, s1, r1, r2, _, _, _, _, _, _, _, ext, _⟩ := forget hob hm ms0_pd rfl (RepL.cons hv .nil)
    exact ⟨l.1, l.2, x, m1, gOf g ms, ⟨by simp, fun R k => rfl⟩, s1, r1, fun o ho v hv => gOf_some (ext.get (ms0_get o ho)) hv, r2⟩
  | l :: l' :: r, y, h => by
    simp only [ofin] at h
    split at h
    · rename_i x ms hm
      cases h
      obtain ⟨m1, s1, r1, r2, _, _, _, _, _, _, _, ext, _⟩ := forget hob hm ms0_pd rfl (RepL.cons hv .nil)
      exact ⟨l.1, l.2, x, m1, gOf g ms, ⟨by simp, fun R k => rfl⟩, s1, r1, fun o ho v hv => gOf_some (ext.get (ms0_get o ho)) hv, r2⟩
    · split at h <;> try (cases h; done)
      rename_i z hz
      cases h
      obtain ⟨ax, l2, u, m1, g1, h1, h2⟩ := ofin_sound hob hv (l' :: r) z hz
      exact ⟨ax, l2, u, m1, g1, ⟨List.mem_cons_of_mem _ h1.1, fun R k => h1.2 R k⟩, h2⟩

theorem fn_ok (hm : P.follows .mixedOrders = true) (hΓ : GOk P Γ) (hK : KOk P K) {f : FuncId} {fn : Func} {c : Code} {n : Ann} {e : FEnt} (hf : P.funcs[f]? = some fn) (hb : fn.body = some c) (hname : fn.name ≠ "runtime.NumGoroutine") (hn : AnnOk P np c n)
    (hnp : ∀ v, (em id e.ins v).2.length ≤ np)
    (h : ∀ v, afun Γ K np fn.ntmps fn.results.toList c n (em id e.ins v).1 (em id e.ins v).2 (ofin np e.outs) = e.fn v) : FnOk P f e := by
  intro w m g v args y hob hargs hy
  refine .inr ⟨by simp [callFunc, hf, hb, hname], calls_of_wp hf hb ?_⟩
  have hk := (h v).trans hy
  unfold afun at hk
  have hr : Rep w m g ⟨(em id e.ins v).1 ++ List.replicate (fn.ntmps - (em id e.ins v).1.length) (.tuple []), (em id e.ins v).2⟩ { tmps := args ++ Array.replicate (fn.ntmps - args.size) undef, defers := [] } := by
    refine ⟨?_, rfl, hob⟩
    have hl : args.size = (em id e.ins v).1.length := by simpa using hargs.length
    rw [hl]
    have hu : ∀ k, RepL w m g (List.replicate k (.tuple [])) (List.replicate k undef) := by
      intro k; induction k with
      | zero => exact .nil
      | succ k ih => exact .cons ⟨#[], rfl, rfl⟩ ih
    simpa using hargs.append (hu (fn.ntmps - (em id e.ins v).1.length))
  refine aev_sound (np := np) hm hΓ hK c n _ _ _ w m g _ hn hr hk fun ax st' a' w' m' g' k1 k2 k3 k4 => ?_
  have fin : (match aresults Γ st' fn.results.toList with | some av => ofin np e.outs av st'.o | none => none) = some y → a'.defers = [] ∧ ∃ r, (results fn a'.tmps).run P w' = .ok r w' ∧
      ∃ r', Ending.returned r = .returned r' ∧ ∃ ax l u m' g', OSel e.outs y ax l u ∧ Stp w m w' m' ∧ RepOb w' m' g' (em id l u).2 ∧ (∀ (o : Nat) v, g[o]? = some v → g'[o]? = some v) ∧ RepL w' m' g' (em id l u).1 [r'] := by
    intro k1
    split at k1 <;> try (cases k1; done)
    rename_i av hav
    obtain ⟨r, h1, h2⟩ := aresults_sound hΓ k2 hav
    obtain ⟨ax, l, u, m1, g1, q1, q2, q3, q4, q5⟩ := ofin_sound k2.obj h2 e.outs y k1
    refine ⟨k2.dfr, r, h1, r, rfl, ax, l, u, m1, g1, q1, k3.trans q2, q3, fun o v' ho => ?_, q5⟩
    have hlt : o < np := Nat.lt_of_lt_of_le (by rw [← hob.len]; exact (List.getElem?_eq_some_iff.1 ho).1) (hnp v)
    exact q4 o hlt v' (k4 o hlt v' ho)
  cases ax with
  | normal => exact fin k1
  | ret => exact fin k1
  | exit i => cases k1
  | goto i => cases k1
end Go.Ae
