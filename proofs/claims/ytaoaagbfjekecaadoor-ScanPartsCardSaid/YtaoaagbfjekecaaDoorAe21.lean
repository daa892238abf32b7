/- Regions that draw their order: the machine's steps. -/
import Derived.Test.YtaoaagbfjekecaaDoorAe20
set_option linter.unusedVariables false
set_option linter.unusedSimpArgs false
namespace Go.Ae
open Go.RowKit
variable {P : Program} {Γ : Tys} {K : Calls'} {a : Act} {w : World} {m : Md} {g : List Value} {ob : Store} {st : St} {L : Nat} {ops : Array Oper}

mutual
theorem RepV.ren {w : World} {m m' : Md} {g g' : List Value} {ρ : Nat → Nat} (hg : ∀ (o : Nat) v, g[o]? = some v → v ≠ undef → g'[ρ o]? = some v) (hm : ∀ b, m' b → m b) :
    ∀ (a : AV) (v : Value), RepV w m g a v → RepV w m' g' (a.ren ρ) v
  | .top, _, _ => trivial
  | .int _ _, _, h => h
  | .bool _, _, h => h
  | .str _, _, h => h
  | .lst T _, _, h => RepT.less (T := .lst T) hm h
  | .row _, _, h => ⟨hg _ _ h.1 (by obtain ⟨_, ao, n, c, rfl⟩ := h; simp [undef]), h.2⟩
  | .rowc _ _ _, _, h => h
  | .frow _ _, _, h => h
  | .siter _ _, _, h => h
  | .nils, _, h => h
  | .ptr _ _, _, ⟨b, h1, h2⟩ => ⟨b, hg _ _ h1 (by simp [undef]), h2⟩
  | .nilp, _, h => h
  | .elt _ _ _, _, ⟨b, o, us, h1, h2, h3, h4, h5⟩ => ⟨b, o, us, h1, h2.less hm, h3, fun h' => h4 (hm b h'), h5⟩
  | .rel _ _ _ _, _, ⟨b, n, c, h1, h2⟩ => ⟨b, n, c, hg _ _ h1 (by simp [undef]), h2⟩
  | .func _ f c, _, ⟨fs, cs, h1, h2, h3⟩ => ⟨fs, cs, h1, RepL.ren hg hm f _ h2, RepL.ren hg hm c _ h3⟩
  | .nilf, _, h => h
  | .iface _ a, _, ⟨u, h1, h2⟩ => ⟨u, h1, RepV.ren hg hm a u h2⟩
  | .nili, _, h => h
  | .agg cs, _, ⟨a, h1, h2⟩ => ⟨a, h1, RepL.ren hg hm cs _ h2⟩
  | .tuple vs, _, ⟨a, h1, h2⟩ => ⟨a, h1, RepL.ren hg hm vs _ h2⟩
theorem RepL.ren {w : World} {m m' : Md} {g g' : List Value} {ρ : Nat → Nat} (hg : ∀ (o : Nat) v, g[o]? = some v → v ≠ undef → g'[ρ o]? = some v) (hm : ∀ b, m' b → m b) :
    ∀ (as : List AV) (vs : List Value), RepL w m g as vs → RepL w m' g' (renL ρ as) vs
  | [], _, h => h
  | a :: as, _, ⟨v, r, h1, h2, h3⟩ => ⟨v, r, h1, RepV.ren hg hm a v h2, RepL.ren hg hm as r h3⟩
end
mutual
theorem ren_id {w : World} {m : Md} {g : List Value} {ρ : Nat → Nat} (hρ : ∀ o, o < g.length → ρ o = o) : ∀ (a : AV) (v : Value), RepV w m g a v → a.ren ρ = a
  | .top, _, _ => rfl
  | .int _ _, _, h => rfl
  | .bool _, _, h => rfl
  | .str _, _, h => rfl
  | .lst T _, _, h => rfl
  | .row o, _, h => by simp only [AV.ren]; rw [hρ o (List.getElem?_eq_some_iff.1 h.1).1]
  | .rowc _ _ _, _, h => rfl
  | .frow _ _, _, h => rfl
  | .siter _ _, _, h => rfl
  | .nils, _, h => rfl
  | .ptr o _, _, ⟨b, h1, h2⟩ => by simp only [AV.ren]; rw [hρ o (List.getElem?_eq_some_iff.1 h1).1]
  | .nilp, _, h => rfl
  | .elt _ _ _, _, _ => rfl
  | .rel o _ _ _, _, ⟨b, n, c, h1, h2⟩ => by simp only [AV.ren]; rw [hρ o (List.getElem?_eq_some_iff.1 h1).1]
  | .func _ f c, _, ⟨fs, cs, h1, h2, h3⟩ => by simp only [AV.ren]; rw [renL_id hρ f _ h2, renL_id hρ c _ h3]
  | .nilf, _, h => rfl
  | .iface _ a, _, ⟨u, h1, h2⟩ => by simp only [AV.ren]; rw [ren_id hρ a u h2]
  | .nili, _, h => rfl
  | .agg cs, _, ⟨a, h1, h2⟩ => by simp only [AV.ren]; rw [renL_id hρ cs _ h2]
  | .tuple vs, _, ⟨a, h1, h2⟩ => by simp only [AV.ren]; rw [renL_id hρ vs _ h2]
theorem renL_id {w : World} {m : Md} {g : List Value} {ρ : Nat → Nat} (hρ : ∀ o, o < g.length → ρ o = o) : ∀ (as : List AV) (vs : List Value), RepL w m g as vs → renL ρ as = as
  | [], _, h => rfl
  | a :: as, _, ⟨v, r, h1, h2, h3⟩ => by simp only [renL]; rw [ren_id hρ a v h2, renL_id hρ as r h3]
end
theorem renL_len (ρ : Nat → Nat) : ∀ as : List AV, (renL ρ as).length = as.length
  | [] => rfl
  | a :: as => by simp [renL, renL_len ρ as]
theorem isBox_two (x y : AV) (z : List AV) : isBox (x :: y :: z) = true := by unfold isBox; split <;> simp_all
theorem renL_shape (ρ : Nat → Nat) (cs : List AV) : (∃ e T l, cs = [.rowc e T l] ∧ renL ρ cs = [.rowc e T l]) ∨ (∃ T l, cs = [.frow T l] ∧ renL ρ cs = [.frow T l]) ∨ (cs = [] ∧ renL ρ cs = []) ∨ (isBox cs = true ∧ isBox (renL ρ cs) = true) ∨ ∃ s p, cs = [.siter s p] ∧ renL ρ cs = [.siter s p] := by
  match cs with
  | [] => exact .inr (.inr (.inl ⟨rfl, rfl⟩))
  | [.rowc e T l] => exact .inl ⟨e, T, l, rfl, rfl⟩
  | [.frow T l] => exact .inr (.inl ⟨T, l, rfl, rfl⟩)
  | a :: b :: r => exact .inr (.inr (.inr (.inl ⟨isBox_two .., isBox_two ..⟩)))
  | [a] => cases a <;> first | exact .inl ⟨_, _, _, rfl, rfl⟩ | exact .inr (.inl ⟨_, _, rfl, rfl⟩) | exact .inr (.inr (.inr (.inl ⟨rfl, rfl⟩))) | exact .inr (.inr (.inr (.inr ⟨_, _, rfl, rfl⟩)))
theorem blk_box {gi : Value} {cs : List AV} (h : isBox cs = true) : blk gi cs = (match gi with | .pointer (some a) => some a.block | _ => none) := by
  unfold blk
  split
  · simp [isBox] at h
  · simp [isBox] at h
  · simp [isBox] at h
  · cases gi <;> try rfl
theorem blk_ren {ρ : Nat → Nat} {gi : Value} {cs : List AV} : blk gi (renL ρ cs) = blk gi cs := by
  rcases renL_shape ρ cs with ⟨e, T, l, h1, h2⟩ | ⟨T, l, h1, h2⟩ | ⟨h1, h2⟩ | ⟨h1, h2⟩ | ⟨s, p, h1, h2⟩
  · rw [h2, h1]
  · rw [h2, h1]
  · rw [h2, h1]
  · rw [blk_box h1, blk_box h2]
  · rw [h2, h1]
theorem RepE.less {m m' : Md} (hm : ∀ b, m' b → m b) {T : Ty} {l : List T.den} {xs : List Value} (h : RepE w m T l xs) : RepE w m' T l xs := fun j x hj => (h j x hj).less hm
theorem RepO.ren {w : World} {m m' : Md} {g g' : List Value} {ρ : Nat → Nat} (hg : ∀ (o : Nat) v, g[o]? = some v → v ≠ undef → g'[ρ o]? = some v) (hm : ∀ b, m' b → m b) {gi : Value} {cs : List AV} (h : RepO w m g gi cs) : RepO w m' g' gi (renL ρ cs) := by
  rcases renL_shape ρ cs with ⟨e, T, l, h1, h2⟩ | ⟨T, l, h1, h2⟩ | ⟨h1, h2⟩ | ⟨h1, h2⟩ | ⟨s, p, h1, h2⟩
  · rw [h2]
    refine ⟨fun e' T' l' he => ?_, (fun T l he => by cases he), (fun h => by simp [isBox] at h), (fun _ _ he => by cases he)⟩
    cases he
    obtain ⟨xs, k1, k2⟩ := h.rowc _ _ _ h1
    exact ⟨xs, k1, k2.less hm⟩
  · rw [h2]
    refine ⟨(fun e' T' l' he => by cases he), (fun T' l' he => ?_), (fun h => by simp [isBox] at h), (fun _ _ he => by cases he)⟩
    cases he
    exact RepT.less (T := .lst T) hm (h.frow _ _ h1)
  · rw [h2]; exact RepO.dead ..
  · obtain ⟨b, ty, arr, k1, k2, k3⟩ := h.box h1
    have hr := RepL.ren hg hm _ _ k3
    exact ⟨(fun e T l he => by rw [he] at h2; simp [isBox] at h2), (fun T l he => by rw [he] at h2; simp [isBox] at h2), (fun _ => ⟨b, ty, arr, k1, k2, hr⟩), fun s p he => by rw [he] at h2; simp [isBox] at h2⟩
  · obtain ⟨b, k1, k2⟩ := h.iter s p h1
    rw [h2]
    exact ⟨(fun _ _ _ he => by cases he), (fun _ _ he => by cases he), (fun h => by simp [isBox] at h), fun s' p' he => by cases he; exact ⟨b, k1, k2⟩⟩

/-- Some objects alone. -/
theorem RepOb.mask (hob : RepOb w m g ob) (fp : List Nat) : RepOb w ⟨fun b => Mu g (maskF fp 0 ob) b, m.a⟩ g (maskF fp 0 ob) ∧ (∀ b, Mu g (maskF fp 0 ob) b → Mu g ob b) := by
  have hget : ∀ (i : Nat) cs, (maskF fp 0 ob)[i]? = some cs → (ob[i]? = some cs ∧ i ∈ fp) ∨ cs = [] := by
    intro i cs h
    rw [maskF_get, Option.map_eq_some_iff] at h
    obtain ⟨c, h1, h2⟩ := h
    cases hm : memN (0 + i) fp with
    | false => rw [hm] at h2; exact .inr h2.symm
    | true =>
      rw [hm] at h2
      rw [Nat.zero_add] at hm
      exact .inl ⟨by rw [h1]; exact congrArg some h2, memN_iff.1 hm⟩
  have hmu : ∀ b, Mu g (maskF fp 0 ob) b → Mu g ob b := by
    rintro b ⟨i, gi, cs, h1, h2, h3⟩
    rcases hget i cs h2 with ⟨h4, _⟩ | rfl
    · exact ⟨i, gi, cs, h1, h4, h3⟩
    · simp [blk] at h3
  refine ⟨⟨by rw [maskF_len]; exact hob.len, fun b h => h, fun b h => hob.nm b (hob.sub b (hmu b h)), hob.lt, fun i gi cs h1 h2 => ?_, fun i j gi gj ci cj b hij h1 h2 h3 h4 h5 h6 => ?_⟩, hmu⟩
  · rcases hget i cs h2 with ⟨h4, _⟩ | rfl
    · exact (hob.obj i gi cs h1 h4).mono (Stp.less w hob.nm (fun b h => h) (fun b h => hob.sub b (hmu b h)) fun b h _ => h) (fun _ _ h => h) fun _ _ => rfl
    · exact RepO.dead ..
  · rcases hget i ci h2 with ⟨k1, _⟩ | rfl
    · rcases hget j cj h4 with ⟨k2, _⟩ | rfl
      · exact hob.sep i j gi gj ci cj b hij h1 k1 h3 k2 h5 h6
      · simp [blk] at h6
    · simp [blk] at h5

/-- The two stores behind the writes. -/
theorem link {ob0 : Store} {fp : List Nat} {b0 : Nat} (hfp : ∀ o ∈ fp, o < b0) : ∀ (ws : List Wr) (ob mob : Store) (q : Nat), ob.length = L → mob.length = L + q → b0 + q + newsN ws ≤ L → (∀ o ∈ wrsOf ws, o ∈ fp) →
    (∀ i, i < L → (b0 ≤ i ∧ i < b0 + q → ob[i]? = (mob[L + (i - b0)]?).map (renL (slotF L b0))) ∧ (i ∈ fp → ob[i]? = (mob[i]?).map (renL (slotF L b0))) ∧ (i ∉ fp → ¬ (b0 ≤ i ∧ i < b0 + q) → ob[i]? = ob0[i]?)) →
    (setAll ob (newsF (slotF L b0) (b0 + q) ws)).length = L ∧ (wr mob ws).length = L + (q + newsN ws) ∧
    (∀ i, i < L → (b0 ≤ i ∧ i < b0 + (q + newsN ws) → (setAll ob (newsF (slotF L b0) (b0 + q) ws))[i]? = ((wr mob ws)[L + (i - b0)]?).map (renL (slotF L b0))) ∧ (i ∈ fp → (setAll ob (newsF (slotF L b0) (b0 + q) ws))[i]? = ((wr mob ws)[i]?).map (renL (slotF L b0))) ∧
      (i ∉ fp → ¬ (b0 ≤ i ∧ i < b0 + (q + newsN ws)) → (setAll ob (newsF (slotF L b0) (b0 + q) ws))[i]? = ob0[i]?))
  | [], ob, mob, q, h1, h2, h3, h4, h => ⟨h1, h2, h⟩
  | .obj o cs :: r, ob, mob, q, h1, h2, h3, h4, h => by
    have hofp : o ∈ fp := h4 o (mem_addN.2 (.inl (by simp)))
    have hob := hfp o hofp
    simp only [newsF, setAll, wr, newsN] at h3 ⊢
    refine link hfp r (ob.set o (renL (slotF L b0) cs)) (mob.set o cs) q (by simpa using h1) (by simpa using h2) h3 (fun o' ho' => h4 o' (mem_addN.2 (.inr ho'))) fun i hi => ⟨fun hb => ?_, fun hb => ?_, fun hb hb' => ?_⟩
    · rw [List.getElem?_set_ne (by omega), List.getElem?_set_ne (by omega)]; exact (h i hi).1 hb
    · by_cases e : o = i
      · subst e
        rw [List.getElem?_set_self (by omega), List.getElem?_set_self (by omega)]; rfl
      · rw [List.getElem?_set_ne e, List.getElem?_set_ne e]; exact (h i hi).2.1 hb
    · have hne : o ≠ i := fun e => hb (by rw [← e]; exact hofp)
      rw [List.getElem?_set_ne hne]; exact (h i hi).2.2 hb hb'
  | .new cs :: r, ob, mob, q, h1, h2, h3, h4, h => by
    simp only [newsF, setAll, wr, newsN] at h3 ⊢
    have hl : ∀ i, i < L → (b0 ≤ i ∧ i < b0 + (q + 1) → (ob.set (b0 + q) (renL (slotF L b0) cs))[i]? = ((mob ++ [cs])[L + (i - b0)]?).map (renL (slotF L b0))) ∧
        (i ∈ fp → (ob.set (b0 + q) (renL (slotF L b0) cs))[i]? = ((mob ++ [cs])[i]?).map (renL (slotF L b0))) ∧ (i ∉ fp → ¬ (b0 ≤ i ∧ i < b0 + (q + 1)) → (ob.set (b0 + q) (renL (slotF L b0) cs))[i]? = ob0[i]?) := by
      refine fun i hi => ⟨fun hb => ?_, fun hb => ?_, fun hb hb' => ?_⟩
      · by_cases e : b0 + q = i
        · subst e
          rw [List.getElem?_set_self (by omega), show L + (b0 + q - b0) = mob.length by omega]
          simp
        · rw [List.getElem?_set_ne e, List.getElem?_append_left (by omega)]; exact (h i hi).1 ⟨hb.1, by omega⟩
      · have := hfp i hb
        rw [List.getElem?_set_ne (by omega), List.getElem?_append_left (by omega)]; exact (h i hi).2.1 hb
      · rw [List.getElem?_set_ne (by omega)]; exact (h i hi).2.2 hb (by omega)
    have := link hfp r (ob.set (b0 + q) (renL (slotF L b0) cs)) (mob ++ [cs]) (q + 1) (by simpa using h1) (by simp [h2]; omega) (by omega) h4 hl
    rw [show b0 + (q + 1) = b0 + q + 1 by omega] at this
    rw [show q + (newsN r + 1) = q + 1 + newsN r by omega]
    exact this

theorem slotF_lt {L b i : Nat} (h : i < L) : slotF L b i = i := by unfold slotF; rw [show Nat.blt i L = true by simpa using h]
theorem slotF_ge {L b q : Nat} : slotF L b (L + q) = b + q := by unfold slotF; rw [show Nat.blt (L + q) L = false by rw [Bool.eq_false_iff]; intro h; have := Nat.le_of_ble_eq_true h; omega]; show b + (L + q - L) = b + q; omega
theorem evF_rep (hr : Rep w m g st a) {m1 : Md} (hs : Stp w m w m1) (us : List Nat) (y : Operand) : RepV w m1 g (evF (tmF us st.t) y) (a.eval y) := by
  have h := (hr.ev y).mono hs (fun _ _ h => h)
  cases y with
  | tmp t =>
    simp only [evF, tmF]
    split
    · exact h
    · trivial
  | const v => exact h
  | func f => exact h
  | global g => trivial

theorem step_run (hΓ : GOk P Γ) (hK : KOk P K) {x : Inf} {o : Oper} {av : AV} {ws : List Wr} (hn : opF Γ K (evF (tmF x.us st.t)) (maskF x.fp 0 st.o) L o.op (fun av ws => some (av, ws)) = some (av, ws)) (hk : okW x ws = true) (hxL : x.b + x.n ≤ L)
    (hr : Rep w m g st a) (hlen : st.o.length = L) (hslot : ∀ q, q < x.n → g[x.b + q]? = some undef) {next : Act → World → Prop} {Q : Exit → Act → World → Prop}
    (hnext : ∀ a' w' m' g', Rep w' m' g' ⟨st.put o.dst (av.ren (slotF L x.b)), setAll st.o (newsF (slotF L x.b) x.b ws)⟩ a' → Stp w m w' m' → (∀ (i : Nat) v, g[i]? = some v → ¬ (x.b ≤ i ∧ i < x.b + x.n) → g'[i]? = some v) → next a' w') : o.wp P a w next Q := by
  obtain ⟨k1, k2, k3, k4⟩ := okW_spec hk
  obtain ⟨hmask, hmu⟩ := hr.obj.mask x.fp
  have hgl : g.length = L := hr.obj.len.trans hlen
  have hs1 : Stp w m w ⟨fun b => Mu g (maskF x.fp 0 st.o) b, m.a⟩ := Stp.less w hr.obj.nm (fun b h => h) (fun b h => hr.obj.sub b (hmu b h)) fun b h _ => h
  have hmlen : (maskF x.fp 0 st.o).length = L := (maskF_len _ _).trans hlen
  have hp := opF_sound (P := P) (o := o) (a := a) hΓ hK hmask (evF_rep hr hs1 x.us) (by rw [hmlen]; exact hn)
  refine hp next Q fun v w' m' g' av' ws' hZ h1 h2 h3 h4 => ?_
  obtain ⟨e1, e2⟩ := Prod.mk.inj (Option.some.inj hZ)
  replace e1 := e1.symm
  replace e2 := e2.symm
  subst e1
  subst e2
  have hfpL : ∀ o ∈ x.fp, o < x.b := k4
  have hinit : ∀ i, i < L → (x.b ≤ i ∧ i < x.b + 0 → st.o[i]? = ((maskF x.fp 0 st.o)[L + (i - x.b)]?).map (renL (slotF L x.b))) ∧ (i ∈ x.fp → st.o[i]? = ((maskF x.fp 0 st.o)[i]?).map (renL (slotF L x.b))) ∧ (i ∉ x.fp → ¬ (x.b ≤ i ∧ i < x.b + 0) → st.o[i]? = st.o[i]?) := by
    refine fun i hi => ⟨fun h => by omega, fun h => ?_, fun _ _ => rfl⟩
    have hob : st.o[i]? = some st.o[i] := List.getElem?_eq_getElem (by omega)
    have hgi : g[i]? = some g[i] := List.getElem?_eq_getElem (by omega)
    have hm : (maskF x.fp 0 st.o)[i]? = some st.o[i] := by rw [maskF_get, hob]; simp only [Option.map_some, Nat.zero_add]; rw [memN_iff.2 h]
    rw [hm, Option.map_some, hob]
    congr 1
    rcases renL_shape (slotF L x.b) st.o[i] with ⟨e, T, l, e1, e2⟩ | ⟨T, l, e1, e2⟩ | ⟨e1, e2⟩ | ⟨e1, _⟩ | ⟨s, p, e1, e2⟩
    · rw [e2, e1]
    · rw [e2, e1]
    · rw [e2, e1]
    · obtain ⟨b, ty, arr, p1, p2, p3⟩ := (hr.obj.obj i _ _ hgi hob).box e1
      exact (renL_id (fun o ho => slotF_lt (by omega)) _ _ p3).symm
    · rw [e2, e1]
  obtain ⟨l1, l2, l3⟩ := link (L := L) (ob0 := st.o) (fp := x.fp) (b0 := x.b) hfpL ws st.o (maskF x.fp 0 st.o) 0 hlen (by omega) (by omega) (fun o ho => k3 o (k2 o ho)) hinit
  simp only [Nat.zero_add, Nat.add_zero] at l1 l2 l3
  generalize hn' : newsN ws = n' at *
  have hg'l : g'.length = L + n' := h2.len.trans l2
  let g3 : List Value := (List.range L).map fun i => if x.b ≤ i ∧ i < x.b + n' then g'.getD (L + (i - x.b)) undef else g.getD i undef
  have hg3 : ∀ (i : Nat), i < L → g3[i]? = some (if x.b ≤ i ∧ i < x.b + n' then g'.getD (L + (i - x.b)) undef else g.getD i undef) := fun i hi => by simp [g3, hi]
  have hgd : ∀ (i : Nat) v, g[i]? = some v → g.getD i undef = v := fun i v h => by rw [List.getD_eq_getElem?_getD, h]; rfl
  have hgd' : ∀ (i : Nat) v, g'[i]? = some v → g'.getD i undef = v := fun i v h => by rw [List.getD_eq_getElem?_getD, h]; rfl
  have hkeep : ∀ (i : Nat) v, g[i]? = some v → ¬ (x.b ≤ i ∧ i < x.b + n') → g3[i]? = some v := fun i v h hni => by
    have hi : i < L := by rw [← hgl]; exact (List.getElem?_eq_some_iff.1 h).1
    rw [hg3 i hi, if_neg hni, hgd i v h]
  have hgW : ∀ (i : Nat) v, g[i]? = some v → v ≠ undef → g3[i]? = some v := fun i v h hv => hkeep i v h fun hc => by
    have := hslot (i - x.b) (by omega)
    rw [show x.b + (i - x.b) = i by omega, h] at this
    exact hv (Option.some.inj this)
  have hgR : ∀ (i : Nat) v, g'[i]? = some v → v ≠ undef → g3[slotF L x.b i]? = some v := fun i v h hv => by
    rcases Nat.lt_or_ge i L with hi | hi
    · rw [slotF_lt hi]
      have hgi : g[i]? = some g[i] := List.getElem?_eq_getElem (by omega)
      have := h3 i _ hgi
      rw [h] at this
      exact hgW i v (by rw [hgi, this]) hv
    · obtain ⟨q, rfl⟩ : ∃ q, i = L + q := ⟨i - L, by omega⟩
      have hq : q < n' := by have := (List.getElem?_eq_some_iff.1 h).1; omega
      rw [slotF_ge, hg3 _ (by omega), if_pos (by omega), show L + (x.b + q - x.b) = L + q by omega, hgd' _ _ h]
  have ha : ∀ b, (⟨fun b => Mu g (maskF x.fp 0 st.o) b, m.a⟩ : Md) b ↔ m b ∧ ¬ (fun _ : Nat => False) b := fun b => ⟨fun h => ⟨h, id⟩, fun h => h.1⟩
  have hn1 : ∀ b, (⟨fun b => Mu g (maskF x.fp 0 st.o) b, m.a⟩ : Md).n b → m.n b := fun b h => hr.obj.sub b (hmu b h)
  have hF : ∀ b, (fun _ : Nat => False) b → m.n b ∧ ¬ (⟨fun b => Mu g (maskF x.fp 0 st.o) b, m.a⟩ : Md).n b := fun b h => h.elim
  have hst := frame_stp (c := False) hr.obj hn1 ha hF h4
  have hless : ∀ b, (mdF m ⟨fun b => Mu g (maskF x.fp 0 st.o) b, m.a⟩ m' (fun _ => False) False) b → m' b := fun b h => Or.elim h id fun h => h.1.elim
  have hobj : RepOb w' (mdF m ⟨fun b => Mu g (maskF x.fp 0 st.o) b, m.a⟩ m' (fun _ => False) False) g3 (setAll st.o (newsF (slotF L x.b) x.b ws)) := by
    refine frame (J := fun i j => i < L ∧ ((x.b ≤ i ∧ i < x.b + n' ∧ j = L + (i - x.b)) ∨ (¬ (x.b ≤ i ∧ i < x.b + n') ∧ j = i))) hr.obj hn1 ha hF h4 h2 hgW (by simp [g3, l1]) (fun i i' j h h' => by omega) fun i gi cs hgi hcs => ?_
    have hi : i < L := by rw [← l1]; exact (List.getElem?_eq_some_iff.1 hcs).1
    obtain ⟨t1, t2, t3⟩ := l3 i hi
    by_cases hs : x.b ≤ i ∧ i < x.b + n'
    · left
      rw [hg3 i hi, if_pos hs] at hgi
      rw [t1 hs] at hcs
      obtain ⟨cs2, c1, rfl⟩ := Option.map_eq_some_iff.1 hcs
      have hgg : g'[L + (i - x.b)]? = some gi := by
        rw [← hgi, List.getD_eq_getElem?_getD, List.getElem?_eq_getElem (by omega)]; rfl
      exact ⟨L + (i - x.b), cs2, ⟨hi, .inl ⟨hs.1, hs.2, rfl⟩⟩, hgg, c1, blk_ren, fun h => h.ren hgR hless⟩
    · have hgi0 : g[i]? = some gi := by
        rw [hg3 i hi, if_neg hs] at hgi
        rw [← hgi, List.getD_eq_getElem?_getD, List.getElem?_eq_getElem (by omega)]; rfl
      by_cases hf : i ∈ x.fp
      · left
        rw [t2 hf] at hcs
        obtain ⟨cs2, c1, rfl⟩ := Option.map_eq_some_iff.1 hcs
        exact ⟨i, cs2, ⟨hi, .inr ⟨hs, rfl⟩⟩, h3 i gi hgi0, c1, blk_ren, fun h => h.ren hgR hless⟩
      · right; left
        rw [t3 hf hs] at hcs
        refine ⟨hgi0, hcs, fun b hb => ⟨?_, fun h => h.elim⟩⟩
        rintro ⟨j, gj, cj, q1, q2, q3⟩
        rw [maskF_get, Option.map_eq_some_iff] at q2
        obtain ⟨c, q4, q5⟩ := q2
        rw [Nat.zero_add] at q5
        cases hm : memN j x.fp with
        | false => rw [hm] at q5; subst q5; simp [blk] at q3
        | true =>
          rw [hm] at q5
          have q6 : c = cj := q5
          subst q6
          have hne : i ≠ j := fun e => hf (by rw [e]; exact memN_iff.1 hm)
          exact hr.obj.sep i j gi gj cs c b hne hgi0 hcs q1 q4 hb q3
  refine hnext _ w' _ g3 ?_ hst fun i v h hni => hkeep i v h fun hc => hni ⟨hc.1, by omega⟩
  have hav := RepV.ren hgR hless av v h1
  have htm := RepL.monoW hst hgW _ _ hr.tmps
  cases hd : o.dst with
  | none => exact ⟨by simpa [St.put, Act.put] using htm, hr.dfr, hobj⟩
  | some d => exact ⟨by simpa [St.put, Act.put] using htm.set d hav, by simpa [Act.put] using hr.dfr, hobj⟩
end Go.Ae
