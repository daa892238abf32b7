/- A piece of the run that sees a part of the store alone. -/
import Derived.Test.YtaoaagbfjekecaaDoorAe12
set_option linter.unusedVariables false
set_option linter.unusedSimpArgs false
namespace Go.Ae
open Go.RowKit

mutual
theorem RepV.monoW {w w' : World} {m m' : Md} {g g' : List Value} (hs : Stp w m w' m') (hg : ∀ (o : Nat) v, g[o]? = some v → v ≠ undef → g'[o]? = some v) :
    ∀ (a : AV) (v : Value), RepV w m g a v → RepV w' m' g' a v
  | .top, _, _ => trivial
  | .int _ _, _, h => h
  | .bool _, _, h => h
  | .str _, _, h => h
  | .lst _ _, _, h => RepT.mono (T := .lst _) hs h
  | .row _, _, h => ⟨hg _ _ h.1 (by obtain ⟨_, ao, n, c, rfl⟩ := h; simp [undef]), h.2⟩
  | .rowc _ _ _, _, h => h
  | .frow _ _, _, h => h
  | .siter _ _, _, h => h
  | .nils, _, h => h
  | .ptr _ _, _, ⟨b, h1, h2⟩ => ⟨b, hg _ _ h1 (by simp [undef]), h2⟩
  | .nilp, _, h => h
  | .elt _ _ _, _, ⟨b, o, us, h1, h2, h3, h4, h5⟩ => ⟨b, o, us, h1, h2.mono hs, Nat.lt_of_lt_of_le h3 hs.size, fun h' => h4 (hs.mutb b h3 h'), fun i u hu => (hs.cell (a := ⟨b, _, none⟩) h3 h4).trans (h5 i u hu)⟩
  | .rel _ _ _ _, _, ⟨b, n, c, h1, h2⟩ => ⟨b, n, c, hg _ _ h1 (by simp [undef]), h2⟩
  | .func _ f c, _, ⟨fs, cs, h1, h2, h3⟩ => ⟨fs, cs, h1, RepL.monoW hs hg f _ h2, RepL.monoW hs hg c _ h3⟩
  | .nilf, _, h => h
  | .iface _ a, _, ⟨u, h1, h2⟩ => ⟨u, h1, RepV.monoW hs hg a u h2⟩
  | .nili, _, h => h
  | .agg cs, _, ⟨a, h1, h2⟩ => ⟨a, h1, RepL.monoW hs hg cs _ h2⟩
  | .tuple vs, _, ⟨a, h1, h2⟩ => ⟨a, h1, RepL.monoW hs hg vs _ h2⟩
theorem RepL.monoW {w w' : World} {m m' : Md} {g g' : List Value} (hs : Stp w m w' m') (hg : ∀ (o : Nat) v, g[o]? = some v → v ≠ undef → g'[o]? = some v) :
    ∀ (as : List AV) (vs : List Value), RepL w m g as vs → RepL w' m' g' as vs
  | [], _, h => h
  | a :: as, _, ⟨v, r, h1, h2, h3⟩ => ⟨v, r, h1, RepV.monoW hs hg a v h2, RepL.monoW hs hg as r h3⟩
end
theorem RepO.monoW {w w' : World} {m m' : Md} {g g' : List Value} {gi : Value} {cs : List AV} (h : RepO w m g gi cs) (hs : Stp w m w' m') (hg : ∀ (o : Nat) v, g[o]? = some v → v ≠ undef → g'[o]? = some v)
    (hb : ∀ b, blk gi cs = some b → w'.heap[b]? = w.heap[b]?) : RepO w' m' g' gi cs := by
  refine ⟨fun e T l he => ?_, fun T l he => (h.frow T l he).mono hs, fun hbx => ?_, fun s p he => ?_⟩
  · obtain ⟨xs, h1, h2⟩ := h.rowc e T l he
    subst he
    exact ⟨xs, own_of_block h1 fun b hbb => hb b hbb, h2.mono hs⟩
  · obtain ⟨b, ty, arr, h1, h2, h3⟩ := h.box hbx
    exact ⟨b, ty, arr, h1, (hb b (box_blk hbx h1)).trans h2, h3.monoW hs hg _ _⟩
  · obtain ⟨b, h1, h2⟩ := h.iter s p he
    subst he h1
    exact ⟨b, rfl, (hb b rfl).trans h2⟩

def mdF (m m1 m2 : Md) (F : Nat → Prop) (c : Prop) : Md := ⟨fun b => m2.n b ∨ (m.n b ∧ ¬ m1.n b ∧ (F b → c)), fun b => m2.a b ∨ (F b ∧ c)⟩

theorem frame_stp {w w2 : World} {m m1 m2 : Md} {g : List Value} {ob : Store} {F : Nat → Prop} {c : Prop} (hob : RepOb w m g ob)
    (hn : ∀ b, m1.n b → m.n b) (ha : ∀ b, m1 b ↔ m b ∧ ¬ F b) (hF : ∀ b, F b → m.n b ∧ ¬ m1.n b) (hs : Stp w m1 w2 m2) : Stp w m w2 (mdF m m1 m2 F c) :=
  ⟨hs.os, hs.tape, hs.output, hs.size, hob.nm, fun b hb h => hs.keep b hb fun h' => h (hn b h'),
   fun b hb h => h.elim (fun h => ((ha b).1 (hs.mutb b hb h)).1) fun h => hob.nm b (hF b h.1).1,
   fun b hb h => h.elim (fun h => hn b (hs.mutn b hb h)) fun h => h.1,
   fun b hb h h' => .inl (hs.stay b hb ((ha b).2 ⟨h, fun hf => h' (hF b hf).1⟩) fun h1 => h' (hn b h1))⟩

theorem frame {w w2 : World} {m m1 m2 : Md} {g g2 g3 : List Value} {ob ob2 ob3 : Store} {F : Nat → Prop} {c : Prop} {J : Nat → Nat → Prop} (hob : RepOb w m g ob)
    (hn : ∀ b, m1.n b → m.n b) (ha : ∀ b, m1 b ↔ m b ∧ ¬ F b) (hF : ∀ b, F b → m.n b ∧ ¬ m1.n b) (hs : Stp w m1 w2 m2) (h2 : RepOb w2 m2 g2 ob2)
    (hg : ∀ (o : Nat) v, g[o]? = some v → v ≠ undef → g3[o]? = some v) (hl : g3.length = ob3.length) (hJ : ∀ i i' j, J i j → J i' j → i = i')
    (hi : ∀ (i : Nat) gi cs, g3[i]? = some gi → ob3[i]? = some cs →
      (∃ (j : Nat) (cs2 : List AV), J i j ∧ g2[j]? = some gi ∧ ob2[j]? = some cs2 ∧ blk gi cs = blk gi cs2 ∧ (RepO w2 m2 g2 gi cs2 → RepO w2 (mdF m m1 m2 F c) g3 gi cs)) ∨
      (g[i]? = some gi ∧ ob[i]? = some cs ∧ ∀ b, blk gi cs = some b → ¬ m1.n b ∧ (F b → c)) ∨
      (blk gi cs = none ∧ (Stp w m w2 (mdF m m1 m2 F c) → RepO w2 (mdF m m1 m2 F c) g3 gi cs))) :
    RepOb w2 (mdF m m1 m2 F c) g3 ob3 := by
  have hst : Stp w m w2 (mdF m m1 m2 F c) := frame_stp hob hn ha hF hs
  have hold : ∀ (i : Nat) gi cs b, g[i]? = some gi → ob[i]? = some cs → blk gi cs = some b → m.n b := fun i gi cs b h1 h2 h3 => hob.sub b ⟨i, gi, cs, h1, h2, h3⟩
  refine ⟨hl, ?_, ?_, ?_, ?_, ?_⟩
  · rintro b ⟨i, gi, cs, h1, h3, h4⟩
    rcases hi i gi cs h1 h3 with ⟨j, cs2, _, k1, k2, k3, _⟩ | ⟨k1, k2, k3⟩ | ⟨k1, _⟩
    · exact .inl (h2.sub b ⟨j, gi, cs2, k1, k2, k3 ▸ h4⟩)
    · exact .inr ⟨hold i gi cs b k1 k2 h4, k3 b h4⟩
    · rw [k1] at h4; cases h4
  · rintro b (h | ⟨h, h', hc⟩)
    · exact .inl (h2.nm b h)
    · by_cases hf : F b
      · exact .inr ⟨hf, hc hf⟩
      · exact .inl (hs.stay b (hob.lt b (hob.nm b h)) ((ha b).2 ⟨hob.nm b h, hf⟩) h')
  · rintro b (h | ⟨h, hc⟩)
    · exact h2.lt b h
    · exact Nat.lt_of_lt_of_le (hob.lt b (hob.nm b (hF b h).1)) hs.size
  · intro i gi cs h1 h3
    rcases hi i gi cs h1 h3 with ⟨j, cs2, _, k1, k2, _, k4⟩ | ⟨k1, k2, k3⟩ | ⟨_, k2⟩
    · exact k4 (h2.obj j gi cs2 k1 k2)
    · exact (hob.obj i gi cs k1 k2).monoW hst hg fun b hb => hs.keep b ((hob.obj i gi cs k1 k2).blk_lt hb) (k3 b hb).1
    · exact k2 hst
  · have mix : ∀ {b j : Nat} {gj : Value} {cs2 : List AV} {i : Nat} {gi : Value} {cs : List AV}, g2[j]? = some gj → ob2[j]? = some cs2 → blk gj cs2 = some b → g[i]? = some gi → ob[i]? = some cs → blk gi cs = some b → ¬ m1.n b → False := by
      intro b j gj cs2 i gi cs q1 q2 q3 q4 q5 q6 q7
      exact q7 (hs.mutn b ((hob.obj i gi cs q4 q5).blk_lt q6) (h2.sub b ⟨j, gj, cs2, q1, q2, q3⟩))
    intro i j gi gj ci cj b hij h1 h3 h4 h5 h6 h7
    rcases hi i gi ci h1 h3 with ⟨i', c1, j1, k1, k2, k3, _⟩ | ⟨k1, k2, k3⟩ | ⟨k1, _⟩
    · rcases hi j gj cj h4 h5 with ⟨j', c2, j2, p1, p2, p3, _⟩ | ⟨p1, p2, p3⟩ | ⟨p1, _⟩
      · refine h2.sep i' j' gi gj c1 c2 b ?_ k1 k2 p1 p2 (k3 ▸ h6) (p3 ▸ h7)
        rintro rfl
        exact hij (hJ i j i' j1 j2)
      · exact mix k1 k2 (k3 ▸ h6) p1 p2 h7 (p3 b h7).1
      · rw [p1] at h7; cases h7
    · rcases hi j gj cj h4 h5 with ⟨j', c2, j2, p1, p2, p3, _⟩ | ⟨p1, p2, p3⟩ | ⟨p1, _⟩
      · exact mix p1 p2 (p3 ▸ h7) k1 k2 h6 (k3 b h6).1
      · exact hob.sep i j gi gj ci cj b hij k1 k2 p1 p2 h6 h7
      · rw [p1] at h7; cases h7
    · rw [k1] at h6; cases h6

/-! The places of the merged store. -/
theorem merge_new : ∀ (st : Store) (ob : Store), wr ob (merge [] st) = ob ++ st
  | [], ob => by simp [merge, wr]
  | cs :: st, ob => by simp [merge, wr, merge_new st]
theorem merge_spec : ∀ (m : List (Option Nat)) (st ob : Store), (∀ o ∈ m, ∃ i, o = some i ∧ i < ob.length) → m.length ≤ st.length → m.Nodup →
    (wr ob (merge m st)).length = ob.length + (st.length - m.length) ∧
    (∀ (k o : Nat), m[k]? = some (some o) → (wr ob (merge m st))[o]? = st[k]?) ∧
    (∀ (o : Nat), o < ob.length → some o ∉ m → (wr ob (merge m st))[o]? = ob[o]?) ∧
    (∀ (k : Nat), (wr ob (merge m st))[ob.length + k]? = st[m.length + k]?)
  | [], st, ob, _, _, _ => by
    rw [merge_new]
    refine ⟨by simp, fun k o h => by simp at h, fun o h _ => by rw [List.getElem?_append_left h], fun k => ?_⟩
    rw [List.getElem?_append_right (by omega)]; simp
  | none :: m, st, ob, h, _, _ => by obtain ⟨i, hi, _⟩ := h none (by simp); cases hi
  | some o :: m, [], ob, _, h, _ => by simp at h
  | some o :: m, cs :: st, ob, hm, hl, hd => by
    obtain ⟨hno, hd'⟩ := List.nodup_cons.1 hd
    have hlt : o < ob.length := by obtain ⟨i, hi, h⟩ := hm (some o) (by simp); cases hi; exact h
    have ih := merge_spec m st (ob.set o cs) (fun x hx => by simpa using hm x (List.mem_cons_of_mem _ hx)) (by simpa using hl) hd'
    simp only [List.length_set] at ih
    obtain ⟨i1, i2, i3, i4⟩ := ih
    simp only [merge, wr, List.length_cons]
    refine ⟨by rw [i1]; omega, fun k o' hk => ?_, fun o' h1 h2 => ?_, fun k => ?_⟩
    · cases k with
      | zero =>
        simp only [List.getElem?_cons_zero, Option.some.injEq] at hk
        subst hk
        rw [i3 o hlt hno, List.getElem?_set_self hlt]; rfl
      | succ k => rw [i2 k o' (by simpa using hk)]; rfl
    · simp only [List.mem_cons, not_or, Option.some.injEq] at h2
      rw [i3 o' h1 h2.2, List.getElem?_set_ne (fun e => h2.1 e.symm)]
    · rw [i4 k, show m.length + 1 + k = (m.length + k) + 1 by omega]; rfl
end Go.Ae
