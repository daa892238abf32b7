/- Calls. -/
import Derived.Test.YtaoaagbfjekecaaDoorAe13
import Derived.Test.YtaoaagbfjekecaaDoorAe8
import Derived.Calls
set_option linter.unusedVariables false
set_option linter.unusedSimpArgs false
namespace Go.Ae
open Go.RowKit

/-- A call that comes back. -/
def CallOK (P : Program) (f : FuncId) (args : Array Value) (w : World) (R : Value → World → Prop) : Prop :=
  (∃ v w', (callFunc f args).run P w = .ok (.value v) w' ∧ R v w') ∨
  ((callFunc f args).run P w = .ok (.enter f args) w ∧ Calls P f args w fun e w' => ∃ v, e = .returned v ∧ R v w')
/-- Which of the shapes it is. -/
def OSel (os : Outs) (y : OTy os) (ax : AX) (l : List Sh) (u : HS l) : Prop := (ax, l) ∈ os ∧ ∀ (R : Type) (k : AX → (l : List Sh) → HS l → Option R), ocase os y k = k ax l u
theorem osel_some : ∀ (os : Outs) (y : OTy os), ∃ ax l u, OSel os y ax l u
  | [], y => nomatch y
  | [l], y => ⟨l.1, l.2, y, by simp, fun _ _ => rfl⟩
  | l :: l' :: r, .inl y => ⟨l.1, l.2, y, by simp, fun _ _ => rfl⟩
  | l :: l' :: r, .inr y => let ⟨ax, l, u, h, k⟩ := osel_some (l' :: r) y; ⟨ax, l, u, List.mem_cons_of_mem _ h, fun R q => k R q⟩
def FnOk (P : Program) (f : FuncId) (e : FEnt) : Prop :=
  ∀ (w : World) (m : Md) (g : List Value) (v : HS e.ins) (args : Array Value) (y : OTy e.outs), RepOb w m g (em id e.ins v).2 → RepL w m g (em id e.ins v).1 args.toList → e.fn v = some y →
    CallOK P f args w fun r w' => ∃ ax l u m' g', OSel e.outs y ax l u ∧ Stp w m w' m' ∧ RepOb w' m' g' (em id l u).2 ∧ (∀ (o : Nat) v, g[o]? = some v → g'[o]? = some v) ∧ RepL w' m' g' (em id l u).1 [r]
def KOk (P : Program) (K : Calls') : Prop := ∀ f e, e ∈ K f → FnOk P f e
theorem pickE_mem {ob : Store} {args : List AV} {e : FEnt} : ∀ {l : List FEnt}, pickE ob args l = some e → e ∈ l
  | [], h => by cases h
  | [e'], h => by simp only [pickE, Option.some.injEq] at h; simp [h]
  | e' :: e'' :: es, h => by
    simp only [pickE] at h
    split at h
    · cases h; simp
    · exact List.mem_cons_of_mem _ (pickE_mem h)

theorem frees_spec {ob : Store} : ∀ (cs : List AV) (ob1 : Store), ob1.length = ob.length →
    (wr ob1 (frees ob cs)).length = ob.length ∧
    (∀ (o : Nat), AV.row o ∉ cs → (wr ob1 (frees ob cs))[o]? = ob1[o]?) ∧
    (∀ (o : Nat) e T l, ob[o]? = some [.rowc e T l] → (AV.row o ∈ cs ∨ ob1[o]? = some [.frow T l]) → (wr ob1 (frees ob cs))[o]? = some [.frow T l])
  | [], ob1, h => ⟨h, fun _ _ => rfl, fun o e T l _ h => h.elim (fun h => by cases h) fun h => h⟩
  | c :: cs, ob1, h => by
    by_cases hc : ∃ o e T l, c = .row o ∧ ob[o]? = some [.rowc e T l]
    · obtain ⟨o, e, T, l, rfl, ho⟩ := hc
      have hfr : frees ob (.row o :: cs) = .obj o [.frow T l] :: frees ob cs := by simp [frees, ho]
      rw [hfr]
      have hlt : o < ob1.length := by rw [h]; exact (List.getElem?_eq_some_iff.1 ho).1
      obtain ⟨i1, i2, i3⟩ := frees_spec cs (ob1.set o [.frow T l]) (by simpa using h)
      simp only [wr]
      refine ⟨i1, fun o' ho' => ?_, fun o' e' T' l' h1 h2 => ?_⟩
      · simp only [List.mem_cons, not_or, AV.row.injEq] at ho'
        rw [i2 o' ho'.2, List.getElem?_set_ne (fun e => ho'.1 e.symm)]
      · refine i3 o' e' T' l' h1 ?_
        by_cases e : o = o'
        · subst e
          rw [ho] at h1; cases h1
          exact .inr (List.getElem?_set_self hlt)
        · rw [List.getElem?_set_ne e]
          rcases h2 with h2 | h2
          · rcases List.mem_cons.1 h2 with h2 | h2
            · cases h2; exact absurd rfl e
            · exact .inl h2
          · exact .inr h2
    · have hfr : frees ob (c :: cs) = frees ob cs := by
        cases c <;> simp only [frees]
        rename_i o
        split
        · rename_i e T l ho; exact absurd ⟨o, e, T, l, rfl, ho⟩ hc
        · rfl
      rw [hfr]
      obtain ⟨i1, i2, i3⟩ := frees_spec cs ob1 h
      refine ⟨i1, fun o' ho' => i2 o' fun h => ho' (List.mem_cons_of_mem _ h), fun o' e' T' l' h1 h2 => i3 o' e' T' l' h1 ?_⟩
      rcases h2 with h2 | h2
      · rcases List.mem_cons.1 h2 with h2 | h2
        · exact absurd ⟨o', e', T', l', h2.symm, h1⟩ hc
        · exact .inl h2
      · exact .inr h2

theorem nodup_of {ms : MS} (h : Pd ms) (hs : ∀ x ∈ ms.m, ∃ o, x = some o) : ms.m.Nodup := by
  rw [List.Nodup, List.pairwise_iff_getElem]
  intro i j hi hj hij e
  obtain ⟨o, ho⟩ := hs _ (List.getElem_mem hi)
  have := h i j o (by rw [List.getElem?_eq_getElem hi, ho]) (by rw [List.getElem?_eq_getElem hj, ← e, ho])
  omega

variable {P : Program} {Γ : Tys} {o : Oper} {a : Act} {w : World} {m : Md} {g : List Value} {ob : Store}

/-- The caller's world behind a call. -/
theorem call_back (hob : RepOb w m g ob) {ins : List Sh} {avs : List AV} {vs : List Value} {v : HS ins} {ms : MS} (hmt : mt ob ins avs 0 ⟨[], []⟩ = some (v, ms)) (hin : ms.m.all (inside ob.length) = true) (hr : RepL w m g avs vs) :
    ∃ (m1 : Md), RepOb w m1 (gOf g ms) (em id ins v).2 ∧ RepL w m1 (gOf g ms) (em id ins v).1 vs ∧
      ∀ (outs : List Sh) (w2 : World) (m2 : Md) (g2 : List Value) (y : HS outs) (r : Value) (x : AV), Stp w m1 w2 m2 → RepOb w2 m2 g2 (em id outs y).2 → (∀ (o : Nat) v, (gOf g ms)[o]? = some v → g2[o]? = some v) → RepL w2 m2 g2 (em id outs y).1 [r] →
        (em (back ms.m ob.length) outs y).1 = [x] → ms.m.length ≤ (em (back ms.m ob.length) outs y).2.length →
        ∃ m3 g3, RepV w2 m3 g3 x r ∧ RepOb w2 m3 g3 (wr ob ((if outs.any Sh.isLst then frees ob (ms.fz.map AV.row) else []) ++ merge ms.m (em (back ms.m ob.length) outs y).2)) ∧ (∀ (o : Nat) v, g[o]? = some v → g3[o]? = some v) ∧ Stp w m w2 m3 := by
  obtain ⟨m1, s1, r1, r2, n1, a1, f1, mu1, fz1, pd1, pf1, _, len1⟩ := forget hob hmt (fun i j o h => by simp at h) rfl hr
  refine ⟨m1, r1, r2, fun outs w2 m2 g2 y r x hs hob2 hg2 hr2 hx hle => ?_⟩
  have hsome : ∀ q ∈ ms.m, ∃ o, q = some o ∧ o < ob.length := by
    intro q hq
    have := List.all_eq_true.1 hin q hq
    cases q with
    | none => cases this
    | some o => exact ⟨o, rfl, by simpa [inside] using this⟩
  have hget : ∀ k, k < ms.m.length → ∃ o, ms.m[k]? = some (some o) ∧ o < ob.length := by
    intro k hk
    obtain ⟨o, h1, h2⟩ := hsome _ (List.getElem_mem hk)
    exact ⟨o, by rw [List.getElem?_eq_getElem hk, h1], h2⟩
  have hnd := nodup_of pd1 (fun q hq => let ⟨o, h, _⟩ := hsome q hq; ⟨o, h⟩)
  generalize hρ : back ms.m ob.length = ρ at hx hle ⊢
  have hFn : ∀ b, FzB g ms b → m.n b ∧ ¬ m1.n b := by
    rintro b ⟨o, ho, u, h1, h2⟩
    obtain ⟨e, T, l', h3⟩ := pf1 o ho
    refine ⟨hob.sub b ⟨o, u, _, h1, h3, h2⟩, fun h => ?_⟩
    obtain ⟨k, o', gi, cs, k1, k2, k3, k4⟩ := mu1 b ((n1 b).1 h)
    have hne : o ≠ o' := by rintro rfl; exact fz1 o ho (List.mem_of_getElem? k1)
    exact hob.sep o o' u gi _ cs b hne h1 h3 k2 k3 h2 k4
  have hm1n : ∀ b, m1.n b → m.n b := by
    intro b h
    obtain ⟨k, o', gi, cs, k1, k2, k3, k4⟩ := mu1 b ((n1 b).1 h)
    exact hob.sub b ⟨o', gi, cs, k2, k3, k4⟩
  have hgl : g.length = ob.length := hob.len
  have hg2l : g2.length = (em id outs y).2.length := hob2.len
  let g3 := g ++ g2.drop ms.m.length
  have hg3 : ∀ (o : Nat) v, g[o]? = some v → g3[o]? = some v := fun o v ho => by
    show (g ++ _)[o]? = _
    rw [List.getElem?_append_left (List.getElem?_eq_some_iff.1 ho).1]; exact ho
  have hρ1 : ∀ (k o : Nat), ms.m[k]? = some (some o) → ρ k = o := fun k o h => by rw [← hρ, back, h]
  have hρ2 : ∀ k, ms.m.length ≤ k → ρ k = ob.length + (k - ms.m.length) := fun k h => by rw [← hρ, back, List.getElem?_eq_none h]
  have hgk : ∀ (k o : Nat), ms.m[k]? = some (some o) → o < ob.length → g2[k]? = some (g.getD o undef) ∧ g[o]? = some (g.getD o undef) := by
    intro k o h1 h2
    have h3 : g[o]? = some (g.getD o undef) := by rw [List.getD_eq_getElem?_getD, List.getElem?_eq_getElem (by omega)]; rfl
    exact ⟨hg2 k _ (gOf_some h1 h3), h3⟩
  have hρg : ∀ (i : Nat) u, g2[i]? = some u → g3[ρ i]? = some u := by
    intro i u hu
    rcases Nat.lt_or_ge i ms.m.length with hlt | hge
    · obtain ⟨o, h1, h2⟩ := hget i hlt
      obtain ⟨h3, h4⟩ := hgk i o h1 h2
      rw [hu] at h3
      rw [hρ1 i o h1]
      exact hg3 o u (by rw [h4, ← h3])
    · rw [hρ2 i hge]
      show (g ++ _)[_]? = _
      rw [List.getElem?_append_right (by omega), List.getElem?_drop, show ms.m.length + (ob.length + (i - ms.m.length) - g.length) = i by omega]
      exact hu
  obtain ⟨e1, e2, e3, e4⟩ := em_ren (w := w2) (m := m2) (m' := mdF m m1 m2 (FzB g ms) (outs.any Sh.isLst = false)) hρg outs y (fun h b hb => hb.elim (fun h => h) fun h' => by rw [h] at h'; cases h'.2)
  have hst := frame_stp hob hm1n a1 hFn hs (c := outs.any Sh.isLst = false)
  -- the store behind the call
  have hfree : ∃ ob', wr ob ((if outs.any Sh.isLst then frees ob (ms.fz.map AV.row) else []) ++ merge ms.m (em ρ outs y).2) = wr ob' (merge ms.m (em ρ outs y).2) ∧ ob'.length = ob.length ∧
      (∀ (i : Nat), i ∉ ms.fz → ob'[i]? = ob[i]?) ∧ ∀ (i : Nat) e T l, i ∈ ms.fz → ob[i]? = some [.rowc e T l] → (outs.any Sh.isLst = true ∧ ob'[i]? = some [.frow T l]) ∨ (outs.any Sh.isLst = false ∧ ob'[i]? = ob[i]?) := by
    cases hc : outs.any Sh.isLst with
    | false => exact ⟨ob, by simp, rfl, fun _ _ => rfl, fun _ _ _ _ _ _ => .inr ⟨rfl, rfl⟩⟩
    | true =>
      obtain ⟨i1, i2, i3⟩ := frees_spec (ob := ob) (ms.fz.map AV.row) ob rfl
      exact ⟨_, by rw [wr_append]; rfl, i1, fun i hi => i2 i (by simpa using hi), fun i e T l hi ho => .inl ⟨rfl, i3 i e T l ho (.inl (by simpa using hi))⟩⟩
  obtain ⟨ob', hw, hl', hun, hfz⟩ := hfree
  rw [hw]
  obtain ⟨q1, q2, q3, q4⟩ := merge_spec ms.m (em ρ outs y).2 ob' (fun q hq => let ⟨o, h1, h2⟩ := hsome q hq; ⟨o, h1, by omega⟩) hle hnd
  refine ⟨mdF m m1 m2 (FzB g ms) (outs.any Sh.isLst = false), g3, ?_, ?_, hg3, hst⟩
  · obtain ⟨r', t, h1, h2, _⟩ := hx ▸ e1 _ hr2
    cases h1; exact h2
  · have hlen3 : g3.length = (wr ob' (merge ms.m (em ρ outs y).2)).length := by
      rw [q1]; show (g ++ _).length = _
      rw [List.length_append, List.length_drop, hg2l, ← e3]; omega
    refine frame (J := fun i j => i = ρ j) hob hm1n a1 hFn hs hob2 (fun o v h _ => hg3 o v h) hlen3 (fun i i' j h1 h2 => h1.trans h2.symm) fun i gi cs hgi hcs => ?_
    have new : ∀ j, i = ρ j → (em ρ outs y).2[j]? = some cs → g2[j]? = some gi → (∃ (j : Nat) (cs2 : List AV), i = ρ j ∧ g2[j]? = some gi ∧ (em id outs y).2[j]? = some cs2 ∧ blk gi cs = blk gi cs2 ∧ (RepO w2 m2 g2 gi cs2 → RepO w2 (mdF m m1 m2 (FzB g ms) (outs.any Sh.isLst = false)) g3 gi cs)) := by
      intro j hj h1 h2
      obtain ⟨cs2, k1, k2, k3⟩ := e4 j cs h1
      exact ⟨j, cs2, hj, h2, k1, k2 gi, k3 gi⟩
    rcases Nat.lt_or_ge i ob.length with hlt | hge
    · have hgi' : g[i]? = some gi := by
        rw [show g3[i]? = g[i]? from List.getElem?_append_left (by omega)] at hgi; exact hgi
      by_cases hm : some i ∈ ms.m
      · obtain ⟨k, hk⟩ := List.getElem?_of_mem hm
        obtain ⟨h3, h4⟩ := hgk k i hk hlt
        rw [q2 k i hk] at hcs
        exact .inl (new k (hρ1 k i hk).symm hcs (by rw [h3, ← h4, hgi']))
      · rw [q3 i (by omega) hm] at hcs
        have notm1 : ∀ cs', ob[i]? = some cs' → ∀ b, blk gi cs' = some b → ¬ m1.n b := by
          intro cs' ho b hb hn
          obtain ⟨k, o', gi', cs'', k1, k2, k3, k4⟩ := mu1 b ((n1 b).1 hn)
          have hne : i ≠ o' := by rintro rfl; exact hm (List.mem_of_getElem? k1)
          exact hob.sep i o' gi gi' cs' cs'' b hne hgi' ho k2 k3 hb k4
        by_cases hf : i ∈ ms.fz
        · obtain ⟨e, T, l', ho⟩ := pf1 i hf
          rcases hfz i e T l' hf ho with ⟨c1, c2⟩ | ⟨c1, c2⟩
          · rw [c2] at hcs
            cases hcs
            refine .inr (.inr ⟨rfl, fun _ => ⟨(fun e T l he => by cases he), (fun T' l'' he => ?_), (fun hb => by simp [isBox] at hb), (fun _ _ he => by cases he)⟩⟩)
            cases he
            obtain ⟨xs, p1, p2⟩ := (hob.obj i gi _ hgi' ho).rowc _ _ _ rfl
            have h1 : RepT w m1 (.lst T) l' [gi] := own_repT p1 (p2.mono s1) fun b hb hm1b => ((a1 b).1 hm1b).2 ⟨i, hf, gi, hgi', hb⟩
            exact RepT.less (m := m2) (m' := mdF m m1 m2 (FzB g ms) (outs.any Sh.isLst = false)) (fun b hb => Or.elim hb (fun h => h) fun h => by rw [c1] at h; cases h.2) (h1.mono hs)
          · rw [c2] at hcs
            exact .inr (.inl ⟨hgi', hcs, fun b hb => ⟨notm1 cs hcs b hb, fun _ => c1⟩⟩)
        · rw [hun i hf] at hcs
          refine .inr (.inl ⟨hgi', hcs, fun b hb => ⟨notm1 cs hcs b hb, ?_⟩⟩)
          rintro ⟨o', ho', u, h1, h2⟩
          obtain ⟨e, T, l', h3⟩ := pf1 o' ho'
          have hne : i ≠ o' := by rintro rfl; exact hf ho'
          exact (hob.sep i o' gi u cs _ b hne hgi' hcs h1 h3 hb h2).elim
    · obtain ⟨k, rfl⟩ : ∃ k, i = ob'.length + k := ⟨i - ob'.length, by omega⟩
      rw [q4 k] at hcs
      refine .inl (new (ms.m.length + k) ?_ hcs ?_)
      · rw [hρ2 _ (by omega)]; omega
      · rw [← hgi]
        show _ = (g ++ _)[_]?
        rw [List.getElem?_append_right (by omega), List.getElem?_drop]
        congr 1; omega

theorem op_call {K : Calls'} (hK : KOk P K) (hob : RepOb w m g ob) {R : Type} {c : Call} {fo : Operand} {f : FuncId} {first captured : List AV} {ρ : Operand → AV} {e : FEnt} {κ : AV → List Wr → Option R} {r : R}
    (hop : o.op = .call c) (hc : c.callee = .value fo) (hf : RepV w m g (.func (.func f) first captured) (a.eval fo)) (hargs : ∀ x, RepV w m g (ρ x) (a.eval x)) (he : e ∈ K f)
    (h : callF e ob (first ++ c.args.toList.map ρ ++ captured) κ = some r) : Post P o a w m g ob fun v ws => κ v ws = some r := by
  unfold callF at h
  split at h <;> try (cases h; done)
  rename_i v ms hmt
  split at h <;> try (cases h; done)
  rename_i hin
  obtain ⟨y, hy, h⟩ := Option.bind_eq_some_iff.1 h
  obtain ⟨fs, cs, hfv, hfs, hcs⟩ := hf
  have hL : ∀ l : List Operand, RepL w m g (l.map ρ) (l.map a.eval) := by
    intro l; induction l with
    | nil => exact .nil
    | cons x l ih => exact .cons (hargs x) ih
  have hall : RepL w m g (first ++ c.args.toList.map ρ ++ captured) ((fs ++ c.args.map a.eval ++ cs).toList) := by
    simpa using ((hfs.append (hL c.args.toList)).append hcs)
  obtain ⟨m1, r1, r2, hback⟩ := call_back hob hmt hin hall
  have hrun : (execOp a.eval o).run P w = (callFunc f (fs ++ c.args.map a.eval ++ cs)).run P w := by
    simp [execOp, hop, resolve, hc, hfv, Deferred.ofValue, invoke]
  intro next Q hk
  unfold Oper.wp
  rw [hrun]
  have fin : ∀ ax l u, OSel e.outs y ax l u → ∃ x, (em (back ms.m ob.length) l u).1 = [x] ∧ ms.m.length ≤ (em (back ms.m ob.length) l u).2.length ∧
      κ x ((if l.any Sh.isLst then frees ob (ms.fz.map AV.row) else []) ++ merge ms.m (em (back ms.m ob.length) l u).2) = some r := by
    intro ax l u hsel
    rw [hsel.2] at h
    split at h <;> try (cases h; done)
    rename_i x hx
    split at h <;> try (cases h; done)
    rename_i hle
    exact ⟨x, hx, hle, h⟩
  rcases hK f e he w m1 (gOf g ms) v (fs ++ c.args.map a.eval ++ cs) y r1 r2 hy with ⟨r', w', h1, ax, l, u, m2, g2, hsel, s2, o2, p2, l2⟩ | ⟨h1, h2⟩
  · rw [h1]
    obtain ⟨x, hx, hle, h⟩ := fin ax l u hsel
    obtain ⟨m3, g3, t1, t2, t3, t4⟩ := hback l w' m2 g2 u r' x s2 o2 p2 l2 hx hle
    exact hk r' w' m3 g3 x _ h t1 t2 t3 t4
  · rw [h1, Oper.upon_enter]
    refine h2.mono fun en w' ⟨r', he', ax, l, u, m2, g2, hsel, s2, o2, p2, l2⟩ => ?_
    subst he'
    obtain ⟨x, hx, hle, h⟩ := fin ax l u hsel
    obtain ⟨m3, g3, t1, t2, t3, t4⟩ := hback l w' m2 g2 u r' x s2 o2 p2 l2 hx hle
    exact hk r' w' m3 g3 x _ h t1 t2 t3 t4
end Go.Ae
