/- Regions that draw their order: every order. -/
import Derived.Test.YtaoaagbfjekecaaDoorAe21
set_option linter.unusedVariables false
set_option linter.unusedSimpArgs false
namespace Go.Ae
open Go.RowKit
variable {P : Program} {Γ : Tys} {K : Calls'} {a : Act} {w : World} {m : Md} {g : List Value} {ob : Store} {st : St} {L : Nat} {ops : Array Oper}

theorem tmF_some {us : List Nat} {t : List AV} {d : Nat} {b : AV} (hd : memN d us = true) (hb : tmF us t d = b) (hne : b ≠ .top) : t[d]? = some b := by
  unfold tmF at hb
  rw [hd] at hb
  simp only [List.getD_eq_getElem?_getD] at hb
  cases hq : t[d]? with
  | none => rw [hq] at hb; exact absurd hb.symm hne
  | some q => rw [hq] at hb; simp only [Option.getD_some] at hb; rw [hb]

theorem step_wp (hΓ : GOk P Γ) (hK : KOk P K) {x : Inf} {st' : St} (hst : stepD Γ K L ops x st = some st') (hxL : x.b + x.n ≤ L)
    (hr : Rep w m g st a) (hlen : st.o.length = L) (hslot : ∀ q, q < x.n → g[x.b + q]? = some undef) {next : Act → World → Prop} {Q : Exit → Act → World → Prop}
    (hnext : ∀ a' w' m' g', Rep w' m' g' st' a' → Stp w m w' m' → (∀ (i : Nat) v, g[i]? = some v → ¬ (x.b ≤ i ∧ i < x.b + x.n) → g'[i]? = some v) → next a' w') : wpOp P ops Q x.k next a w := by
  unfold stepD at hst
  obtain ⟨e, he, rfl⟩ := Option.map_eq_some_iff.1 hst
  unfold effD at he
  split at he
  · cases he
  · rename_i o ho
    have hdst : x.dst ops = o.dst := by simp [Inf.dst, ho]
    unfold wpOp
    simp only [ho]
    have run : ((opF Γ K (evF (tmF x.us st.t)) (maskF x.fp 0 st.o) L o.op fun av ws => some (av, ws)).bind fun p => cond (okW x p.2) (some (p.1.ren (slotF L x.b), newsF (slotF L x.b) x.b p.2)) none) = some e → o.wp P a w next Q := by
      intro h
      obtain ⟨p, hp, h⟩ := Option.bind_eq_some_iff.1 h
      cases hk : okW x p.2 with
      | false => rw [hk] at h; cases h
      | true =>
        rw [hk] at h
        cases h
        refine step_run hΓ hK hp hk hxL hr hlen hslot fun a' w' m' g' k1 k2 k3 => hnext a' w' m' g' ?_ k2 k3
        rw [hdst]; exact k1
    have skip : (AV.tuple [], ([] : List (Nat × List AV))) = e → next (a.put o.dst undef) w := by
      rintro rfl
      refine hnext _ w m g ?_ (Stp.refl _ hr.obj.nm) fun _ _ h _ => h
      rw [hdst]
      exact hr.put (Stp.refl _ hr.obj.nm) (fun _ _ h => h) ⟨#[], rfl, rfl⟩ hr.obj
    simp only at he
    split at he
    · rename_i hg
      simp only [Region.wanted, hg, if_true]
      exact .inl (run he)
    · rename_i j want hg
      split at he
      · rename_i d hd
        split at he
        · rename_i hmem
          split at he
          · rename_i b hb
            have hb' := tmF_some hmem hb (by simp)
            obtain ⟨v, hv, hvb⟩ := hr.get hb'
            have hv' : v = .bool b := hvb
            subst hv'
            have hy : yielded ops a.tmps j = some b := by simp [yielded, hd, hv]
            simp only [Region.wanted, hg, hy]
            split at he
            · rename_i hbw
              have hbw' : b = want := by simpa using hbw
              subst hbw'
              simp only [show (some b == some b) = true by simp, if_true]
              exact .inl (run he)
            · rename_i hbw
              have hbw' : b ≠ want := by simpa using hbw
              simp only [show (some b == some want) = false by simpa using hbw', Bool.false_eq_true, if_false]
              exact skip (Option.some.inj he)
          · rename_i hb
            have hb' := tmF_some hmem hb (by simp)
            obtain ⟨v, hv, arr, hva, hvb⟩ := hr.get hb'
            subst hva
            have hy : yielded ops a.tmps j = none := by simp [yielded, hd, hv]
            simp only [Region.wanted, hg, hy, show (none == some want) = false from rfl, Bool.false_eq_true, if_false]
            exact skip (Option.some.inj he)
          · cases he
        · cases he
      · cases he

/-- What the evaluator found out, walking in the text's order. -/
structure Found (K : Calls') (ops : Array Oper) (L k b : Nat) (rest : List Oper) (l : List Inf) : Prop where
  len : l.length = rest.length
  num : ∀ (j : Nat) x, l[j]? = some x → x.k = k + j
  lo : ∀ x ∈ l, b ≤ x.b ∧ x.b + x.n ≤ b + slotsAll K rest
  sep : l.Pairwise fun x y => x.b + x.n ≤ y.b
  back : ∀ x ∈ l, ∃ o, ops[x.k]? = some o ∧ ∀ e ∈ o.after, Region.binds .any e = true → e.on < x.k

theorem dops_run {R : Type} {κ : St → Option R} {r : R} : ∀ (rest : List Oper) (k b : Nat) (acc : List Inf) (st : St), (∀ j, rest[j]? = ops[k + j]?) → dops Γ K L ops rest k b acc st κ = some r →
    ∃ l s, Found K ops L k b rest l ∧ runD Γ K L ops l st = some s ∧ κ s = some r ∧ indepAll ops (l.reverse ++ acc) = true
  | [], k, b, acc, st, _, h => by
    simp only [dops] at h
    rcases cond_some h with ⟨h1, h2⟩ | ⟨_, h2⟩
    · exact ⟨[], st, ⟨rfl, (fun j x h => by simp at h), (fun x h => by cases h), .nil, (fun x h => by cases h)⟩, rfl, h2, by simpa using h1⟩
    · cases h2
  | o :: rest, k, b, acc, st, hops, h => by
    have ho : ops[k]? = some o := by simpa using (hops 0).symm
    have hops' : ∀ j, rest[j]? = ops[k + 1 + j]? := fun j => by
      have := hops (j + 1)
      rw [List.getElem?_cons_succ] at this
      rw [this]; congr 1; omega
    have done : ∀ (x : Inf) (st' : St), x.k = k → x.b = b → x.n = nslots K o.op → (∀ e ∈ o.after, Region.binds .any e = true → e.on < k) → stepD Γ K L ops x st = some st' → dops Γ K L ops rest (k + 1) (b + nslots K o.op) (x :: acc) st' κ = some r →
        ∃ l s, Found K ops L k b (o :: rest) l ∧ runD Γ K L ops l st = some s ∧ κ s = some r ∧ indepAll ops (l.reverse ++ acc) = true := by
      intro x st' hk hb hn hback hs hd
      obtain ⟨l, s, f, h1, h2, h3⟩ := dops_run rest (k + 1) (b + nslots K o.op) (x :: acc) st' hops' hd
      refine ⟨x :: l, s, ⟨by simp [f.len], fun j y hj => ?_, fun y hy => ?_, ?_, fun y hy => ?_⟩, by simp only [runD, hs, Option.bind_some]; exact h1, h2, by simpa using h3⟩
      · cases j with
        | zero => simp only [List.getElem?_cons_zero, Option.some.injEq] at hj; subst hj; omega
        | succ j => have := f.num j y (by simpa using hj); omega
      · simp only [slotsAll]
        rcases List.mem_cons.1 hy with rfl | hy
        · omega
        · have := f.lo y hy; omega
      · exact List.Pairwise.cons (fun y hy => by have := f.lo y hy; omega) f.sep
      · rcases List.mem_cons.1 hy with rfl | hy
        · exact ⟨o, by rw [hk]; exact ho, fun e he hbe => by rw [hk]; exact hback e he hbe⟩
        · exact f.back y hy
    simp only [dops] at h
    obtain ⟨hb, h⟩ := chk_some h
    have hback : ∀ e ∈ o.after, Region.binds .any e = true → e.on < k := fun e he hbe => by
      have := List.all_eq_true.1 hb e (by simpa using he)
      rw [hbe] at this
      simpa using this
    generalize hfp : closeO st.o 3 (addN (o.op.operands.toList.flatMap fun x => (evF (tmF (o.looksAt ops) st.t) x).objs 4) []) = fp at h
    have run : (opF Γ K (evF (tmF (o.looksAt ops) st.t)) (maskF fp 0 st.o) L o.op fun av ws =>
        cond (okW ⟨k, o.looksAt ops, fp, wrsOf ws, b, nslots K o.op⟩ ws) (dops Γ K L ops rest (k + 1) (b + nslots K o.op) (⟨k, o.looksAt ops, fp, wrsOf ws, b, nslots K o.op⟩ :: acc) ⟨st.put o.dst (av.ren (slotF L b)), setAll st.o (newsF (slotF L b) b ws)⟩ κ) none) = some r →
        (∀ x : Inf, x.k = k → x.us = o.looksAt ops → ∀ q, ((opF Γ K (evF (tmF x.us st.t)) (maskF x.fp 0 st.o) L o.op fun av ws => some (av, ws)).bind fun p => cond (okW x p.2) (some (p.1.ren (slotF L x.b), newsF (slotF L x.b) x.b p.2)) none) = some q →
          effD Γ K L ops x (tmF x.us st.t) (maskF x.fp 0 st.o) = some q) →
        ∃ l s, Found K ops L k b (o :: rest) l ∧ runD Γ K L ops l st = some s ∧ κ s = some r ∧ indepAll ops (l.reverse ++ acc) = true := by
      intro h heff
      obtain ⟨av, ws, h1, h2⟩ := opF_nat o.op _ _ _ h
      obtain ⟨hk, h2⟩ := chk_some h2
      refine done ⟨k, o.looksAt ops, fp, wrsOf ws, b, nslots K o.op⟩ _ rfl rfl rfl hback ?_ h2
      unfold stepD
      rw [heff _ rfl rfl (av.ren (slotF L b), newsF (slotF L b) b ws) (by
        refine (congrArg (fun z => Option.bind z _) (h1 _ fun av ws => some (av, ws))).trans ?_
        simp only [Option.bind_some]; rw [hk]; rfl)]
      simp [Inf.dst, ho]
    have skip : dops Γ K L ops rest (k + 1) (b + nslots K o.op) (⟨k, o.looksAt ops, fp, [], b, nslots K o.op⟩ :: acc) ⟨st.put o.dst (.tuple []), st.o⟩ κ = some r →
        (∀ x : Inf, x.k = k → x.us = o.looksAt ops → effD Γ K L ops x (tmF x.us st.t) (maskF x.fp 0 st.o) = some (.tuple [], [])) →
        ∃ l s, Found K ops L k b (o :: rest) l ∧ runD Γ K L ops l st = some s ∧ κ s = some r ∧ indepAll ops (l.reverse ++ acc) = true := by
      intro h heff
      refine done ⟨k, o.looksAt ops, fp, [], b, nslots K o.op⟩ _ rfl rfl rfl hback ?_ h
      unfold stepD
      rw [heff _ rfl rfl]
      simp [Inf.dst, ho, setAll]
    cases hg : o.guard with
    | none =>
      rw [hg] at h
      exact run h fun x hk hu q hq => by
        unfold effD
        rw [hk, ho]
        simp only [hg]
        exact hq
    | some jw =>
      obtain ⟨j, want⟩ := jw
      rw [hg] at h
      simp only at h
      split at h <;> try (cases h; done)
      rename_i d hd
      split at h <;> try (cases h; done)
      rename_i hmem
      split at h <;> try (cases h; done)
      · rename_i bb hbb
        have htm : ∀ x : Inf, x.us = o.looksAt ops → tmF x.us st.t d = .bool bb := fun x hx => by
          rw [hx]; unfold tmF; rw [hmem]; simp [List.getD_eq_getElem?_getD, hbb]
        have effRun : bb = want → ∀ x : Inf, x.k = k → x.us = o.looksAt ops → ∀ q, ((opF Γ K (evF (tmF x.us st.t)) (maskF x.fp 0 st.o) L o.op fun av ws => some (av, ws)).bind fun p => cond (okW x p.2) (some (p.1.ren (slotF L x.b), newsF (slotF L x.b) x.b p.2)) none) = some q →
            effD Γ K L ops x (tmF x.us st.t) (maskF x.fp 0 st.o) = some q := fun e x hk hu q hq => by
          unfold effD
          rw [hk, ho]
          simp only [hg, hd, hu, hmem]
          rw [← hu, htm x hu, e]
          simp only [show (want == want) = true by simp]
          exact hq
        have effSkip : bb ≠ want → ∀ x : Inf, x.k = k → x.us = o.looksAt ops → effD Γ K L ops x (tmF x.us st.t) (maskF x.fp 0 st.o) = some (.tuple [], []) := fun e x hk hu => by
          unfold effD
          rw [hk, ho]
          simp only [hg, hd, hu, hmem]
          rw [← hu, htm x hu]
          simp only [show (bb == want) = false by simpa using e]
        rcases cond_some h with ⟨rfl, h⟩ | ⟨rfl, h⟩
        · rw [set_same hbb] at h
          cases want
          · exact skip h (effSkip (by simp))
          · exact run h (effRun rfl)
        · rw [set_same hbb] at h
          cases want
          · exact run h (effRun rfl)
          · exact skip h (effSkip (by simp))
      · rename_i hbb
        refine skip h fun x hk hu => ?_
        unfold effD
        rw [hk, ho]
        simp only [hg, hd, hu, hmem]
        have : tmF (o.looksAt ops) st.t d = .tuple [] := by unfold tmF; rw [hmem]; simp [List.getD_eq_getElem?_getD, hbb]
        rw [this]

theorem reach_listed {listed : Array Bool} (hcl : ∀ i o, listed.getD i false = true → ops[i]? = some o → ∀ e ∈ o.after, Region.binds .any e = true → listed.getD e.on false = true) {k : Nat} :
    ∀ (n j : Nat), reachD ops n k j = true → (∀ o, ops[j]? = some o → ∀ e ∈ o.after, Region.binds .any e = true → listed.getD e.on false = true) → listed.getD k false = true
  | 0, j, h, _ => by cases h
  | n + 1, j, h, hj => by
    simp only [reachD] at h
    split at h
    · rename_i o ho
      obtain ⟨e, he, h⟩ := List.any_eq_true.1 h
      simp only [Bool.and_eq_true, Bool.or_eq_true] at h
      have hl := hj o ho e (by simpa using he) h.1
      rcases h.2 with h2 | h2
      · rw [← Nat.eq_of_beq_eq_true h2]; exact hl
      · exact reach_listed hcl n e.on h2 fun o' ho' => hcl e.on o' hl ho'
    · cases h

theorem any_sound (hΓ : GOk P Γ) (hK : KOk P K) {Q : Exit → Act → World → Prop} {sf : St} : ∀ (fuel : Nat) (rest : List Inf) (listed : Array Bool) (st : St) (a : Act) (w : World) (m : Md) (g : List Value),
    rest.length ≤ fuel → listed.size = ops.size → (∀ i, i < ops.size → (listed.getD i true = false ↔ ∃ x ∈ rest, x.k = i)) → rest.Pairwise (fun x y => x.k < y.k) → rest.Pairwise (fun x y => x.b + x.n ≤ y.b) →
    (∀ x ∈ rest, x.b + x.n ≤ L ∧ ∃ o, ops[x.k]? = some o ∧ ∀ e ∈ o.after, Region.binds .any e = true → e.on < x.k) → (∀ x ∈ rest, ∀ y ∈ rest, x.k < y.k → (indepD ops x y || (reachD ops 1 x.k y.k || reachD ops 3 x.k y.k)) = true) →
    (∀ i o, listed.getD i false = true → ops[i]? = some o → ∀ e ∈ o.after, Region.binds .any e = true → listed.getD e.on false = true) →
    runD Γ K L ops rest st = some sf → Rep w m g st a → st.o.length = L → (∀ x ∈ rest, ∀ q, q < x.n → g[x.b + q]? = some undef) →
    (∀ a' w' m' g', Rep w' m' g' sf a' → Stp w m w' m' → (∀ (i : Nat) v, g[i]? = some v → (∀ x ∈ rest, ¬ (x.b ≤ i ∧ i < x.b + x.n)) → g'[i]? = some v) → Q .normal a' w') → wpAny P .any ops Q fuel listed a w := by
  intro fuel
  induction fuel with
  | zero =>
    intro rest listed st a w m g hf hsz hl _ _ _ _ _ hrun hr _ _ hQ
    have hnil : rest = [] := List.eq_nil_of_length_eq_zero (by omega)
    subst hnil
    refine ⟨?_, ?_⟩
    · apply List.eq_nil_iff_forall_not_mem.2
      intro i hi
      obtain ⟨h1, o, h2, _⟩ := mem_ready.1 hi
      obtain ⟨x, hx, _⟩ := (hl i (Array.getElem?_eq_some_iff.1 h2).1).1 h1
      cases hx
    · simp only [runD, Option.some.injEq] at hrun
      subst hrun
      exact hQ a w m g hr (Stp.refl _ hr.obj.nm) fun _ _ h _ => h
  | succ fuel ih =>
    intro rest listed st a w m g hf hsz hl hk hb hx hind hcl hrun hr hlen hslot hQ
    have huns : ∀ x ∈ rest, listed.getD x.k true = false := fun x hxm => by
      obtain ⟨o, ho, _⟩ := (hx x hxm).2
      exact (hl x.k (Array.getElem?_eq_some_iff.1 ho).1).2 ⟨x, hxm, rfl⟩
    refine ⟨fun hnone => ?_, fun i hi => ?_⟩
    · cases rest with
      | nil =>
        simp only [runD, Option.some.injEq] at hrun
        subst hrun
        exact hQ a w m g hr (Stp.refl _ hr.obj.nm) fun _ _ h _ => h
      | cons x r =>
        exfalso
        obtain ⟨o, ho, hback⟩ := (hx x (by simp)).2
        have : x.k ∈ Region.ready .any ops listed := by
          refine mem_ready.2 ⟨huns x (by simp), o, ho, fun e he hbe => ?_⟩
          have hlt := hback e he hbe
          have hsize := (Array.getElem?_eq_some_iff.1 ho).1
          have hnot : ¬ ∃ y ∈ x :: r, y.k = e.on := by
            rintro ⟨y, hy, he'⟩
            rcases List.mem_cons.1 hy with rfl | hy
            · omega
            · have := (List.pairwise_cons.1 hk).1 y hy; omega
          have h1 : ¬ listed.getD e.on true = false := fun h => hnot ((hl e.on (by omega)).1 h)
          have hlt2 : e.on < listed.size := by omega
          simp only [Array.getD_eq_getD_getElem?, Array.getElem?_eq_getElem hlt2, Option.getD_some] at h1 ⊢
          simpa using h1
        rw [hnone] at this
        cases this
    · obtain ⟨h1, oi, h2, h3⟩ := mem_ready.1 hi
      obtain ⟨x, hxm, hxk⟩ := (hl i (Array.getElem?_eq_some_iff.1 h2).1).1 h1
      subst hxk
      obtain ⟨r1, r2, hre⟩ := List.append_of_mem hxm
      subst hre
      have hkk := List.pairwise_append.1 hk
      have hbb := List.pairwise_append.1 hb
      have hk2 := List.pairwise_cons.1 hkk.2.1
      have hb2 := List.pairwise_cons.1 hbb.2.1
      have hperm := runD_perm r1 r2 st sf (fun y hy => by
        have hlt := hkk.2.2 y hy x (by simp)
        have := hind y (by simp [hy]) x (by simp) hlt
        simp only [Bool.or_eq_true] at this
        rcases this with h | h
        · exact h
        · exfalso
          have hlist : listed.getD y.k false = true := by
            rcases h with h | h
            · exact reach_listed hcl 1 x.k h fun o ho => by rw [h2] at ho; cases ho; exact h3
            · exact reach_listed hcl 3 x.k h fun o ho => by rw [h2] at ho; cases ho; exact h3
          have hun := huns y (by simp [hy])
          simp only [Array.getD_eq_getD_getElem?] at hlist hun
          cases hq : listed[y.k]? <;> rw [hq] at hlist hun <;> simp at hlist hun
          rw [hlist] at hun; cases hun) hrun
      simp only [runD] at hperm
      obtain ⟨s1, hs1, hrun'⟩ := Option.bind_eq_some_iff.1 hperm
      refine step_wp hΓ hK hs1 (hx x (by simp)).1 hr hlen (hslot x (by simp)) fun a' w' m' g' k1 k2 k3 => ?_
      have hmem : ∀ y, y ∈ r1 ++ r2 → y ∈ r1 ++ x :: r2 := fun y hy => by
        rcases List.mem_append.1 hy with h | h
        · simp [h]
        · simp [h]
      have hdisj : ∀ y ∈ r1 ++ r2, ∀ i, y.b ≤ i ∧ i < y.b + y.n → ¬ (x.b ≤ i ∧ i < x.b + x.n) := fun y hy i h h' => by
        rcases List.mem_append.1 hy with hy | hy
        · have := hbb.2.2 y hy x (by simp); omega
        · have := hb2.1 y hy; omega
      refine ih (r1 ++ r2) (listed.setIfInBounds x.k true) s1 a' w' m' g' (by simp at hf ⊢; omega) (by simpa using hsz) (fun i hi => ?_) ?_ ?_ (fun y hy => hx y (hmem y hy)) (fun y hy z hz => hind y (hmem y hy) z (hmem z hz)) (fun i o hi ho e he hbe => ?_) hrun' k1 ?_ (fun y hy q hq => ?_) fun a2 w2 m2 g2 p1 p2 p3 => ?_
      · by_cases e : x.k = i
        · subst e
          have hlt : x.k < listed.size := by omega
          refine ⟨fun h => by simp [hlt] at h, ?_⟩
          rintro ⟨y, hy, he⟩
          exfalso
          rcases List.mem_append.1 hy with hy | hy
          · have := hkk.2.2 y hy x (by simp); omega
          · have := hk2.1 y hy; omega
        · rw [getD_set_ne true e, hl i hi]
          refine ⟨?_, fun ⟨y, hy, he⟩ => ⟨y, hmem y hy, he⟩⟩
          rintro ⟨y, hy, he⟩
          rcases List.mem_append.1 hy with hy | hy
          · exact ⟨y, by simp [hy], he⟩
          · rcases List.mem_cons.1 hy with rfl | hy
            · exact absurd he e
            · exact ⟨y, by simp [hy], he⟩
      · exact List.pairwise_append.2 ⟨hkk.1, hk2.2, fun y hy z hz => hkk.2.2 y hy z (by simp [hz])⟩
      · exact List.pairwise_append.2 ⟨hbb.1, hb2.2, fun y hy z hz => hbb.2.2 y hy z (by simp [hz])⟩
      · by_cases e' : x.k = i
        · subst e'
          rw [h2] at ho; cases ho
          exact getD_set_true (h3 e he hbe)
        · have hi' : listed.getD i false = true := by
            rw [show (listed.setIfInBounds x.k true).getD i false = listed.getD i false by simp [Array.getElem?_setIfInBounds_ne e']] at hi
            exact hi
          exact getD_set_true (hcl i o hi' ho e he hbe)
      · have hh := hs1
        unfold stepD at hh
        obtain ⟨e, _, rfl⟩ := Option.map_eq_some_iff.1 hh
        show (setAll _ _).length = _
        rw [setAll_len]; exact hlen
      · exact k3 _ _ (hslot y (hmem y hy) q hq) (hdisj y hy _ ⟨by omega, by omega⟩)
      · exact hQ a2 w2 m2 g2 p1 (k2.trans p2) fun i v hv hni => p3 i v (k3 i v hv (hni x (by simp))) fun y hy => hni y (hmem y hy)

theorem rep_ext (hr : Rep w m g st a) (n : Nat) : Rep w m (g ++ List.replicate n undef) ⟨st.t, st.o ++ List.replicate n []⟩ a := by
  have hg : ∀ (o : Nat) v, g[o]? = some v → (g ++ List.replicate n undef)[o]? = some v := fun o v h => by
    rw [List.getElem?_append_left (List.getElem?_eq_some_iff.1 h).1]; exact h
  have hget : ∀ (i : Nat) gi cs, (g ++ List.replicate n undef)[i]? = some gi → (st.o ++ List.replicate n [])[i]? = some cs → (g[i]? = some gi ∧ st.o[i]? = some cs) ∨ cs = [] := by
    intro i gi cs h1 h2
    rcases Nat.lt_or_ge i st.o.length with hi | hi
    · rw [List.getElem?_append_left (by rw [hr.obj.len]; exact hi)] at h1
      rw [List.getElem?_append_left hi] at h2
      exact .inl ⟨h1, h2⟩
    · rw [List.getElem?_append_right hi, List.getElem?_replicate] at h2
      split at h2
      · exact .inr (Option.some.inj h2).symm
      · cases h2
  refine ⟨hr.tmps.mono (Stp.refl _ hr.obj.nm) hg, hr.dfr, ⟨by simp [hr.obj.len], ?_, hr.obj.nm, hr.obj.lt, fun i gi cs h1 h2 => ?_, fun i j gi gj ci cj b hij h1 h2 h3 h4 h5 h6 => ?_⟩⟩
  · rintro b ⟨i, gi, cs, h1, h2, h3⟩
    rcases hget i gi cs h1 h2 with ⟨k1, k2⟩ | rfl
    · exact hr.obj.sub b ⟨i, gi, cs, k1, k2, h3⟩
    · simp [blk] at h3
  · rcases hget i gi cs h1 h2 with ⟨k1, k2⟩ | rfl
    · exact (hr.obj.obj i gi cs k1 k2).mono (Stp.refl _ hr.obj.nm) hg fun _ _ => rfl
    · exact RepO.dead ..
  · rcases hget i gi ci h1 h2 with ⟨k1, k2⟩ | rfl
    · rcases hget j gj cj h3 h4 with ⟨q1, q2⟩ | rfl
      · exact hr.obj.sep i j gi gj ci cj b hij k1 k2 q1 q2 h5 h6
      · simp [blk] at h6
    · simp [blk] at h5
theorem rep_drawn (hr : Rep w m g st a) : Rep { w with drawn := w.drawn + 1 } m g st a ∧ Stp w m { w with drawn := w.drawn + 1 } m := by
  have hs : Stp w m { w with drawn := w.drawn + 1 } m := ⟨rfl, rfl, rfl, Nat.le_refl _, hr.obj.nm, fun _ _ _ => rfl, fun _ _ h => h, fun _ _ h => h, fun _ _ h _ => h⟩
  exact ⟨⟨hr.tmps.mono hs fun _ _ h => h, hr.dfr, ⟨hr.obj.len, hr.obj.sub, hr.obj.nm, hr.obj.lt, fun i gi cs h1 h2 => (hr.obj.obj i gi cs h1 h2).mono hs (fun _ _ h => h) fun _ _ => rfl, hr.obj.sep⟩⟩, hs⟩

theorem dregion_sound (hm : P.follows .mixedOrders = true) (hΓ : GOk P Γ) (hK : KOk P K) {R : Type} {κ : St → Option R} {r : R} {id : Nat} (hr : Rep w m g st a) (h : dregion Γ K ops st κ = some r) {Q : Exit → Act → World → Prop}
    (hQ : ∀ st' a' w' m' g', κ st' = some r → Rep w' m' g' st' a' → Stp w m w' m' → (∀ (o : Nat) v, g[o]? = some v → g'[o]? = some v) → Q .normal a' w') : (Code.region id ops true).wp P Q a w := by
  unfold dregion at h
  generalize hn : slotsAll K ops.toList = n at h
  obtain ⟨l, s, f, h1, h2, h3⟩ := dops_run ops.toList 0 st.o.length [] _ (fun j => by simp) h
  have hl : l.length = ops.size := by rw [f.len]; simp
  obtain ⟨hr1, hs1⟩ := rep_drawn hr
  have hr2 := rep_ext hr1 n
  have hnum : ∀ (j : Nat) x, l[j]? = some x → x.k = j := fun j x hj => by have := f.num j x hj; omega
  refine wp_region_any hm (any_sound (L := st.o.length + n) hΓ hK ops.size l _ _ a _ m _ (by omega) (by simp) (fun i hi => ?_) ?_ f.sep (fun x hx => ⟨by have := (f.lo x hx).2; omega, f.back x hx⟩) (fun x hx y hy hlt => ?_) (fun i o hi ho => ?_) h1 hr2 (by simp) (fun x hx q hq => ?_) fun a' w' m' g' k1 k2 k3 => ?_)
  · refine ⟨fun _ => ?_, fun _ => by simp [hi]⟩
    have hlt : i < l.length := by omega
    exact ⟨l[i], List.getElem_mem hlt, hnum i _ (List.getElem?_eq_getElem hlt)⟩
  · rw [List.pairwise_iff_getElem]
    intro i j hi hj hij
    rw [hnum i _ (List.getElem?_eq_getElem hi), hnum j _ (List.getElem?_eq_getElem hj)]; exact hij
  · unfold indepAll at h3
    have := List.all_eq_true.1 (List.all_eq_true.1 h3 x (by simpa using hx)) y (by simpa using hy)
    rw [show Nat.blt x.k y.k = true by simpa using hlt] at this
    simpa using this
  · exfalso
    have hlt := (Array.getElem?_eq_some_iff.1 ho).1
    simp [hlt] at hi
  · have hlo := f.lo x hx
    rw [List.getElem?_append_right (by rw [hr.obj.len]; omega), List.getElem?_replicate, if_pos (by rw [hr.obj.len]; omega)]
  · refine hQ s a' w' m' g' h2 k1 (hs1.trans k2) fun o v ho => ?_
    have hlt := (List.getElem?_eq_some_iff.1 ho).1
    rw [hr.obj.len] at hlt
    exact k3 o v (by rw [List.getElem?_append_left (by rw [hr.obj.len]; exact hlt)]; exact ho) fun x hx => by have := (f.lo x hx).1; omega
end Go.Ae
