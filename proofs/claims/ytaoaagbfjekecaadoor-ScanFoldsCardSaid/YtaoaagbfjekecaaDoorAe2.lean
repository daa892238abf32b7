/- What abstract values stand for in a world. -/
import Derived.Test.YtaoaagbfjekecaaDoorAe1
set_option linter.unusedVariables false
set_option linter.unusedSimpArgs false
namespace Go.Ae
open Go.RowKit
/-- Bytes are bytes. -/
def Rng (k : IntKind) (n : Int) : Prop := k = .u8 → 0 ≤ n ∧ n ≤ 255
theorem inR_iff (k : IntKind) (n : Int) (h : inR k n = true) : Rng k n := by
  rintro rfl; simpa [inR] using h
theorem Rng.wrap (k : IntKind) (n : Int) : Rng k (k.wrap n) := by
  rintro rfl
  simp [IntKind.wrap, IntKind.signed, IntKind.bits]; omega
theorem Rng.of_ne {k : IntKind} {n : Int} (h : k ≠ .u8) : Rng k n := fun e => absurd e h
theorem Rng.byte (c : UInt8) : Rng .u8 (c.toNat : Int) := fun _ => by have := c.toNat_lt; omega

/-- Which blocks may be written ('n'), and which no slice that stays may lie in ('a'). -/
structure Md where
  n : Nat → Prop
  a : Nat → Prop
instance : CoeFun Md (fun _ => Nat → Prop) := ⟨Md.a⟩
def asL {t : Ty} (l : (Ty.lst t).den) : List t.den := l
/-- A plain datum in memory: what its cells hold; nothing of it lies in a block that may be written. -/
def RepT (w : World) (m : Md) : (T : Ty) → T.den → List Value → Prop
  | .int k, n, vs => vs = [.int k n] ∧ Rng k n
  | .byte, c, vs => vs = [.int .u8 ((c : UInt8).toNat : Int)]
  | .bool, b, vs => vs = [.bool b]
  | .str, s, vs => vs = [.string ⟨⟨s⟩⟩]
  | .lst t, l, vs => ∃ ao cap, vs = [.slice ao (asL l).length cap] ∧ (asL l).length ≤ cap ∧ cap ≤ 9223372036854775807 ∧ (ao = none → cap = 0) ∧
      ∀ (j : Nat) (x : t.den), (asL l)[j]? = some x → ∃ b o us, ao = some ⟨b, o, none⟩ ∧ RepT w m t x us ∧ us.length = t.size ∧ b < w.heap.size ∧ ¬ m b ∧
        ∀ i u, us[i]? = some u → w.cell? ⟨b, o + j * t.size + i, none⟩ = some u
  | .pair a b, x, vs => ∃ v1 v2, vs = v1 ++ v2 ∧ RepT w m a (x : a.den × b.den).1 v1 ∧ RepT w m b (x : a.den × b.den).2 v2
  | .unit, _, vs => vs = []

theorem RepT.length {w : World} {m : Md} : ∀ {T : Ty} {x : T.den} {vs : List Value}, RepT w m T x vs → vs.length = T.size := by
  intro T
  induction T with
  | int k => intro x vs h; rw [h.1]; rfl
  | byte => intro x vs h; rw [show vs = _ from h]; rfl
  | bool => intro x vs h; rw [show vs = _ from h]; rfl
  | str => intro x vs h; rw [show vs = _ from h]; rfl
  | lst t _ => intro x vs h; obtain ⟨ao, cap, rfl, _⟩ := h; rfl
  | pair a b iha ihb => intro x vs h; obtain ⟨v1, v2, rfl, h1, h2⟩ := h; simp [Ty.size, iha h1, ihb h2]
  | unit => intro x vs h; rw [show vs = _ from h]; rfl

/-- From one world to a later one: what may not be written stays; what may be written is new, or was so before. -/
structure Stp (w : World) (m : Md) (w' : World) (m' : Md) : Prop where
  os : w'.os = w.os
  tape : w'.tape = w.tape
  output : w'.output = w.output
  size : w.heap.size ≤ w'.heap.size
  nm : ∀ b, m.n b → m.a b
  keep : ∀ b, b < w.heap.size → ¬ m.n b → w'.heap[b]? = w.heap[b]?
  mutb : ∀ b, b < w.heap.size → m' b → m b
  mutn : ∀ b, b < w.heap.size → m'.n b → m.n b
  stay : ∀ b, b < w.heap.size → m b → ¬ m.n b → m' b
theorem Stp.refl (w : World) {m : Md} (h : ∀ b, m.n b → m.a b) : Stp w m w m := ⟨rfl, rfl, rfl, Nat.le_refl _, h, fun _ _ _ => rfl, fun _ _ h => h, fun _ _ h => h, fun _ _ h _ => h⟩
theorem Stp.trans {w w1 w2 : World} {m m1 m2 : Md} (h : Stp w m w1 m1) (k : Stp w1 m1 w2 m2) : Stp w m w2 m2 :=
  ⟨k.os.trans h.os, k.tape.trans h.tape, k.output.trans h.output, Nat.le_trans h.size k.size, h.nm,
   fun b hb hm => (k.keep b (Nat.lt_of_lt_of_le hb h.size) (fun h1 => hm (h.mutn b hb h1))).trans (h.keep b hb hm),
   fun b hb h2 => h.mutb b hb (k.mutb b (Nat.lt_of_lt_of_le hb h.size) h2),
   fun b hb h2 => h.mutn b hb (k.mutn b (Nat.lt_of_lt_of_le hb h.size) h2),
   fun b hb h1 h2 => k.stay b (Nat.lt_of_lt_of_le hb h.size) (h.stay b hb h1 h2) fun h3 => h2 (h.mutn b hb h3)⟩
theorem Stp.less (w : World) {m m' : Md} (hn : ∀ b, m.n b → m.a b) (h : ∀ b, m' b → m b) (h2 : ∀ b, m'.n b → m.n b) (h3 : ∀ b, m b → ¬ m.n b → m' b) : Stp w m w m' := ⟨rfl, rfl, rfl, Nat.le_refl _, hn, fun _ _ _ => rfl, fun b _ => h b, fun b _ => h2 b, fun b _ => h3 b⟩
theorem Stp.cell {w w' : World} {m m' : Md} (h : Stp w m w' m') {a : Addr} (hb : a.block < w.heap.size) (hm : ¬ m a.block) : w'.cell? a = w.cell? a :=
  World.cell?_of_block (h.keep _ hb fun h' => hm (h.nm _ h'))

theorem RepT.mono {w w' : World} {m m' : Md} (hs : Stp w m w' m') : ∀ {T : Ty} {x : T.den} {vs : List Value}, RepT w m T x vs → RepT w' m' T x vs := by
  intro T
  induction T with
  | int k => exact fun h => h
  | byte => exact fun h => h
  | bool => exact fun h => h
  | str => exact fun h => h
  | lst t ih =>
    rintro x vs ⟨ao, cap, rfl, h1, h2, h0, h⟩
    refine ⟨ao, cap, rfl, h1, h2, h0, fun j y hy => ?_⟩
    obtain ⟨b, o, us, rfl, hr, hl, hb, hm, hc⟩ := h j y hy
    exact ⟨b, o, us, rfl, ih hr, hl, Nat.lt_of_lt_of_le hb hs.size, fun h' => hm (hs.mutb b hb h'), fun i u hu => (hs.cell (a := ⟨b, _, none⟩) hb hm).trans (hc i u hu)⟩
  | pair a b iha ihb => rintro x vs ⟨v1, v2, rfl, h1, h2⟩; exact ⟨v1, v2, rfl, iha h1, ihb h2⟩
  | unit => exact fun h => h

mutual
def RepV (w : World) (m : Md) (g : List Value) : AV → Value → Prop
  | .top, _ => True
  | .int k n, v => v = .int k n ∧ Rng k n
  | .bool b, v => v = .bool b
  | .str s, v => v = .string ⟨⟨s⟩⟩
  | .lst T l, v => RepT w m (.lst T) l [v]
  | .row o, v => g[o]? = some v ∧ ∃ ao n c, v = .slice ao n c
  | .rowc _ _ _, _ | .frow _ _, _ | .siter _ _, _ => False
  | .nils, v => v = .slice none 0 0
  | .ptr o off, v => ∃ b, g[o]? = some (.pointer (some ⟨b, 0, none⟩)) ∧ v = .pointer (some ⟨b, off, none⟩)
  | .nilp, v => v = .pointer none
  | .elt T x off, v => ∃ b o us, v = .pointer (some ⟨b, o + off, none⟩) ∧ RepT w m T x us ∧ b < w.heap.size ∧ ¬ m b ∧ ∀ i u, us[i]? = some u → w.cell? ⟨b, o + i, none⟩ = some u
  | .rel o sz i off, v => ∃ b n c, g[o]? = some (.slice (some ⟨b, 0, none⟩) n c) ∧ i < n ∧ v = .pointer (some ⟨b, i * sz + off, none⟩)
  | .func fn f c, v => ∃ fs cs, v = .func fn fs cs ∧ RepL w m g f fs.toList ∧ RepL w m g c cs.toList
  | .nilf, v => v = .nilFunc
  | .iface t a, v => ∃ u, v = .iface t u ∧ RepV w m g a u
  | .nili, v => v = .nilIface
  | .agg cs, v => ∃ a, v = .agg a ∧ RepL w m g cs a.toList
  | .tuple vs, v => ∃ a, v = .tuple a ∧ RepL w m g vs a.toList
def RepL (w : World) (m : Md) (g : List Value) : List AV → List Value → Prop
  | [], vs => vs = []
  | a :: as, vs => ∃ v r, vs = v :: r ∧ RepV w m g a v ∧ RepL w m g as r
end

mutual
theorem RepV.mono {w w' : World} {m m' : Md} {g g' : List Value} (hs : Stp w m w' m') (hg : ∀ (o : Nat) v, g[o]? = some v → g'[o]? = some v) :
    ∀ (a : AV) (v : Value), RepV w m g a v → RepV w' m' g' a v
  | .top, _, _ => trivial
  | .int _ _, _, h => h
  | .bool _, _, h => h
  | .str _, _, h => h
  | .lst _ _, _, h => RepT.mono (T := .lst _) hs h
  | .row _, _, h => ⟨hg _ _ h.1, h.2⟩
  | .rowc _ _ _, _, h => h
  | .frow _ _, _, h => h
  | .siter _ _, _, h => h
  | .nils, _, h => h
  | .ptr _ _, _, ⟨b, h1, h2⟩ => ⟨b, hg _ _ h1, h2⟩
  | .nilp, _, h => h
  | .elt _ _ _, _, ⟨b, o, us, h1, h2, h3, h4, h5⟩ => ⟨b, o, us, h1, h2.mono hs, Nat.lt_of_lt_of_le h3 hs.size, fun h' => h4 (hs.mutb b h3 h'), fun i u hu => (hs.cell (a := ⟨b, _, none⟩) h3 h4).trans (h5 i u hu)⟩
  | .rel _ _ _ _, _, ⟨b, n, c, h1, h2⟩ => ⟨b, n, c, hg _ _ h1, h2⟩
  | .func _ f c, _, ⟨fs, cs, h1, h2, h3⟩ => ⟨fs, cs, h1, RepL.mono hs hg f _ h2, RepL.mono hs hg c _ h3⟩
  | .nilf, _, h => h
  | .iface _ a, _, ⟨u, h1, h2⟩ => ⟨u, h1, RepV.mono hs hg a u h2⟩
  | .nili, _, h => h
  | .agg cs, _, ⟨a, h1, h2⟩ => ⟨a, h1, RepL.mono hs hg cs _ h2⟩
  | .tuple vs, _, ⟨a, h1, h2⟩ => ⟨a, h1, RepL.mono hs hg vs _ h2⟩
theorem RepL.mono {w w' : World} {m m' : Md} {g g' : List Value} (hs : Stp w m w' m') (hg : ∀ (o : Nat) v, g[o]? = some v → g'[o]? = some v) :
    ∀ (as : List AV) (vs : List Value), RepL w m g as vs → RepL w' m' g' as vs
  | [], _, h => h
  | a :: as, _, ⟨v, r, h1, h2, h3⟩ => ⟨v, r, h1, RepV.mono hs hg a v h2, RepL.mono hs hg as r h3⟩
end

theorem RepL.nil {w : World} {m : Md} {g : List Value} : RepL w m g [] [] := rfl
theorem RepL.cons {w : World} {m : Md} {g : List Value} {a : AV} {v : Value} {as : List AV} {vs : List Value} (h : RepV w m g a v) (k : RepL w m g as vs) : RepL w m g (a :: as) (v :: vs) := ⟨v, vs, rfl, h, k⟩
theorem RepL.append {w : World} {m : Md} {g : List Value} : ∀ {as bs : List AV} {vs us : List Value}, RepL w m g as vs → RepL w m g bs us → RepL w m g (as ++ bs) (vs ++ us)
  | [], _, _, _, h, k => by rw [show _ = [] from h]; exact k
  | _ :: _, _, _, _, ⟨v, r, h1, h2, h3⟩, k => by subst h1; exact ⟨v, _, rfl, h2, h3.append k⟩
theorem RepL.split {w : World} {m : Md} {g : List Value} : ∀ {as bs : List AV} {vs : List Value}, RepL w m g (as ++ bs) vs → ∃ v1 v2, vs = v1 ++ v2 ∧ RepL w m g as v1 ∧ RepL w m g bs v2
  | [], _, vs, h => ⟨[], vs, rfl, rfl, h⟩
  | _ :: _, _, _, ⟨v, r, h1, h2, h3⟩ => by
    obtain ⟨v1, v2, rfl, k1, k2⟩ := h3.split
    exact ⟨v :: v1, v2, h1, ⟨v, v1, rfl, h2, k1⟩, k2⟩
theorem RepL.length {w : World} {m : Md} {g : List Value} : ∀ {as : List AV} {vs : List Value}, RepL w m g as vs → vs.length = as.length
  | [], _, h => by rw [show _ = [] from h]; rfl
  | _ :: _, _, ⟨v, r, h1, _, h3⟩ => by subst h1; simp [h3.length]
theorem RepL.get {w : World} {m : Md} {g : List Value} : ∀ {as : List AV} {vs : List Value}, RepL w m g as vs → ∀ (i : Nat) a, as[i]? = some a → ∃ v, vs[i]? = some v ∧ RepV w m g a v
  | [], _, _, _, _, h => by simp at h
  | _ :: _, _, ⟨v, r, h1, h2, _⟩, 0, a, h => by subst h1; simp at h; subst h; exact ⟨v, rfl, h2⟩
  | _ :: _, _, ⟨v, r, h1, _, h3⟩, i + 1, a, h => by subst h1; simpa using h3.get i a (by simpa using h)
theorem RepL.of_get {w : World} {m : Md} {g : List Value} : ∀ {as : List AV} {vs : List Value}, as.length = vs.length → (∀ (i : Nat) a v, as[i]? = some a → vs[i]? = some v → RepV w m g a v) → RepL w m g as vs
  | [], [], _, _ => rfl
  | a :: as, v :: vs, hl, h => ⟨v, vs, rfl, h 0 a v rfl rfl, RepL.of_get (by simpa using hl) fun i a v h1 h2 => h (i + 1) a v (by simpa using h1) (by simpa using h2)⟩
  | [], _ :: _, hl, _ => by simp at hl
  | _ :: _, [], hl, _ => by simp at hl
theorem RepL.take {w : World} {m : Md} {g : List Value} {as : List AV} {vs : List Value} (h : RepL w m g as vs) (n : Nat) : RepL w m g (as.take n) (vs.take n) := by
  refine RepL.of_get (by simp [h.length]) fun i a v h1 h2 => ?_
  rw [List.getElem?_take] at h1 h2
  split at h1
  · rename_i hi
    rw [if_pos hi] at h2
    obtain ⟨v', h3, h4⟩ := h.get i a h1
    rw [h2] at h3; cases h3; exact h4
  · cases h1
theorem RepL.drop {w : World} {m : Md} {g : List Value} {as : List AV} {vs : List Value} (h : RepL w m g as vs) (n : Nat) : RepL w m g (as.drop n) (vs.drop n) := by
  refine RepL.of_get (by simp [h.length]) fun i a v h1 h2 => ?_
  rw [List.getElem?_drop] at h1 h2
  obtain ⟨v', h3, h4⟩ := h.get _ a h1
  rw [h2] at h3; cases h3; exact h4

theorem repT_leaves {w : World} {m : Md} {g : List Value} : ∀ {T : Ty} {x : T.den} {vs : List Value}, RepT w m T x vs → RepL w m g (T.leaves x) vs := by
  intro T
  induction T with
  | int k => rintro x vs ⟨rfl, h⟩; exact .cons ⟨rfl, h⟩ .nil
  | byte =>
    intro x vs h; rw [show vs = _ from h]
    exact .cons ⟨rfl, Rng.byte _⟩ .nil
  | bool => intro x vs h; rw [show vs = _ from h]; exact .cons rfl .nil
  | str => intro x vs h; rw [show vs = _ from h]; exact .cons rfl .nil
  | lst t _ => intro x vs h; have h' := h; obtain ⟨ao, cap, rfl, _⟩ := h; exact .cons h' .nil
  | pair a b iha ihb => rintro x vs ⟨v1, v2, rfl, h1, h2⟩; exact (iha h1).append (ihb h2)
  | unit => intro x vs h; rw [show vs = _ from h]; exact .nil

theorem castT_some {T T' : Ty} {x : T.den} {y : T'.den} (h : castT T T' x = some y) : ∃ e : T = T', e ▸ x = y := by
  unfold castT at h
  split at h
  · rename_i e; exact ⟨e, by simpa using h⟩
  · cases h
theorem castL_some {T T' : Ty} {x : List T.den} {y : List T'.den} (h : castL T T' x = some y) : ∃ e : T = T', e ▸ x = y := by
  unfold castL at h
  split at h
  · rename_i e; exact ⟨e, by simpa using h⟩
  · cases h

theorem repT_parse {w : World} {m : Md} {g : List Value} : ∀ {T : Ty} {as : List AV} {vs : List Value} {x : T.den} {r : List AV}, RepL w m g as vs → T.parse as = some (x, r) →
    ∃ v1 v2, vs = v1 ++ v2 ∧ RepT w m T x v1 ∧ RepL w m g r v2 := by
  intro T
  induction T with
  | int k =>
    intro as vs x r h hp
    cases as with
    | nil => simp [Ty.parse] at hp
    | cons a as =>
      obtain ⟨v, q, rfl, h1, h2⟩ := h
      cases a <;> simp only [Ty.parse, reduceCtorEq] at hp
      rename_i k' n
      split at hp
      · rename_i e; subst e
        simp only [Option.some.injEq, Prod.mk.injEq] at hp
        obtain ⟨rfl, rfl⟩ := hp
        exact ⟨[v], q, rfl, ⟨by rw [h1.1], h1.2⟩, h2⟩
      · cases hp
  | byte =>
    intro as vs x r h hp
    cases as with
    | nil => simp [Ty.parse] at hp
    | cons a as =>
      obtain ⟨v, q, rfl, h1, h2⟩ := h
      cases a <;> try (simp only [Ty.parse, reduceCtorEq] at hp)
      rename_i k' n
      cases k' <;> simp only [Ty.parse, reduceCtorEq, Option.some.injEq, Prod.mk.injEq] at hp
      obtain ⟨rfl, rfl⟩ := hp
      refine ⟨[v], q, rfl, ?_, h2⟩
      obtain ⟨rfl, hr⟩ := h1
      replace hr := hr rfl
      show _ = _
      congr 2
      have : n.toNat < 256 := by omega
      simp [UInt8.toNat_ofNat', Nat.mod_eq_of_lt this]
      omega
  | bool =>
    intro as vs x r h hp
    cases as with
    | nil => simp [Ty.parse] at hp
    | cons a as =>
      obtain ⟨v, q, rfl, h1, h2⟩ := h
      cases a <;> simp only [Ty.parse, reduceCtorEq, Option.some.injEq, Prod.mk.injEq] at hp
      obtain ⟨rfl, rfl⟩ := hp
      exact ⟨[v], q, rfl, by rw [show v = _ from h1]; rfl, h2⟩
  | str =>
    intro as vs x r h hp
    cases as with
    | nil => simp [Ty.parse] at hp
    | cons a as =>
      obtain ⟨v, q, rfl, h1, h2⟩ := h
      cases a <;> simp only [Ty.parse, reduceCtorEq, Option.some.injEq, Prod.mk.injEq] at hp
      obtain ⟨rfl, rfl⟩ := hp
      exact ⟨[v], q, rfl, by rw [show v = _ from h1]; rfl, h2⟩
  | lst t _ =>
    intro as vs x r h hp
    cases as with
    | nil => simp [Ty.parse] at hp
    | cons a as =>
      obtain ⟨v, q, rfl, h1, h2⟩ := h
      cases a <;> simp only [Ty.parse, reduceCtorEq] at hp
      case lst T l =>
        obtain ⟨y, hy, e⟩ := Option.map_eq_some_iff.1 hp
        obtain ⟨rfl, rfl⟩ := Prod.mk.inj e
        obtain ⟨rfl, rfl⟩ := castL_some hy
        exact ⟨[v], q, rfl, h1, h2⟩
      case nils =>
        simp only [Option.some.injEq, Prod.mk.injEq] at hp
        obtain ⟨rfl, rfl⟩ := hp
        refine ⟨[v], q, rfl, ⟨none, 0, by rw [show v = _ from h1]; rfl, Nat.le_refl _, by omega, fun _ => rfl, fun j x hx => ?_⟩, h2⟩
        exact absurd (show ([] : List t.den)[j]? = some x from hx) (by simp)
  | pair a b iha ihb =>
    intro as vs x r h hp
    rw [show (Ty.pair a b).parse as = (match a.parse as with | some (x, r) => (match b.parse r with | some (y, r) => some ((x, y), r) | none => none) | none => none) by cases as <;> rfl] at hp
    split at hp
    · rename_i y q hq
      split at hp
      · rename_i z q' hq'
        simp only [Option.some.injEq, Prod.mk.injEq] at hp
        obtain ⟨rfl, rfl⟩ := hp
        obtain ⟨v1, v2, rfl, k1, k2⟩ := iha h hq
        obtain ⟨v3, v4, rfl, k3, k4⟩ := ihb k2 hq'
        exact ⟨v1 ++ v3, v4, by simp, ⟨v1, v3, rfl, k1, k3⟩, k4⟩
      · cases hp
    · cases hp
  | unit =>
    intro as vs x r h hp
    rw [show Ty.unit.parse as = some ((), as) by cases as <;> rfl] at hp
    obtain ⟨_, rfl⟩ := Prod.mk.inj (Option.some.inj hp)
    exact ⟨[], vs, rfl, rfl, h⟩
end Go.Ae
