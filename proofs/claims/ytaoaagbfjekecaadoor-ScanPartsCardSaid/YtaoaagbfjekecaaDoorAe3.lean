/- The store of abstract objects: what it stands for, and how it changes. -/
import Derived.Test.YtaoaagbfjekecaaDoorAe2
import Derived.Lib.AppendStr
import Derived.Lib.ConvBytes
set_option linter.unusedVariables false
set_option linter.unusedSimpArgs false
namespace Go.Ae
open Go.RowKit

def blk (gi : Value) : List AV → Option Nat
  | [.rowc _ _ _] => gi.ownBlock
  | [.frow _ _] => none
  | [] => none
  | _ => match gi with | .pointer (some a) => some a.block | _ => none
def isBox : List AV → Bool
  | [.rowc _ _ _] => false
  | [.frow _ _] => false
  | [.siter _ _] => false
  | [] => false
  | _ => true
def Mu (g : List Value) (ob : Store) (b : Nat) : Prop := ∃ (i : Nat) (gi : Value) (cs : List AV), g[i]? = some gi ∧ ob[i]? = some cs ∧ blk gi cs = some b
/-- The cells of a list of data. -/
def RepE (w : World) (m : Md) (T : Ty) (l : List T.den) (xs : List Value) : Prop :=
  ∀ (j : Nat) (x : T.den), l[j]? = some x → RepT w m T x ((xs.drop (j * T.size)).take T.size)
theorem RepE.mono {w w' : World} {m m' : Md} (hs : Stp w m w' m') {T : Ty} {l : List T.den} {xs : List Value} (h : RepE w m T l xs) : RepE w' m' T l xs :=
  fun j x hj => (h j x hj).mono hs
structure RepO (w : World) (m : Md) (g : List Value) (gi : Value) (cs : List AV) : Prop where
  rowc : ∀ e T l, cs = [.rowc e T l] → ∃ xs, w.ownsRow 0 e T.size gi l.length xs ∧ RepE w m T l xs
  frow : ∀ T l, cs = [.frow T l] → RepT w m (.lst T) l [gi]
  box : isBox cs = true → ∃ b ty arr, gi = .pointer (some ⟨b, 0, none⟩) ∧ w.heap[b]? = some (.cells arr ty (0, 0)) ∧ RepL w m g cs arr.toList
  iter : ∀ s p, cs = [.siter s p] → ∃ b, gi = .pointer (some ⟨b, 0, none⟩) ∧ w.heap[b]? = some (.stringIter ⟨⟨s⟩⟩ p)
structure RepOb (w : World) (m : Md) (g : List Value) (ob : Store) : Prop where
  len : g.length = ob.length
  sub : ∀ b, Mu g ob b → m.n b
  nm : ∀ b, m.n b → m.a b
  lt : ∀ b, m b → b < w.heap.size
  obj : ∀ (i : Nat) gi cs, g[i]? = some gi → ob[i]? = some cs → RepO w m g gi cs
  sep : ∀ (i j : Nat) gi gj ci cj b, i ≠ j → g[i]? = some gi → ob[i]? = some ci → g[j]? = some gj → ob[j]? = some cj → blk gi ci = some b → blk gj cj ≠ some b

theorem own_of_block {w w' : World} {e : TypeId} {size n : Nat} {v : Value} {xs : List Value} (h : w.ownsRow 0 e size v n xs) (hb : ∀ b, v.ownBlock = some b → w'.heap[b]? = w.heap[b]?) : w'.ownsRow 0 e size v n xs := by
  refine ⟨h.1, ?_⟩
  rcases h.2 with h | ⟨g, cap, cur, rfl, h1, h2, h3⟩
  · exact .inl h
  · exact .inr ⟨g, cap, cur, rfl, h1, (hb g rfl).trans h2, h3⟩
theorem box_blk {gi : Value} {cs : List AV} {b : Nat} (h : isBox cs = true) (hg : gi = .pointer (some ⟨b, 0, none⟩)) : blk gi cs = some b := by
  subst hg
  unfold isBox at h
  unfold blk
  split at h <;> simp_all
theorem RepO.mono {w w' : World} {m m' : Md} {g g' : List Value} {gi : Value} {cs : List AV} (h : RepO w m g gi cs) (hs : Stp w m w' m') (hg : ∀ (o : Nat) v, g[o]? = some v → g'[o]? = some v)
    (hb : ∀ b, blk gi cs = some b → w'.heap[b]? = w.heap[b]?) : RepO w' m' g' gi cs := by
  refine ⟨fun e T l he => ?_, fun T l he => (h.frow T l he).mono hs, fun hbx => ?_, fun s p he => ?_⟩
  · obtain ⟨xs, h1, h2⟩ := h.rowc e T l he
    subst he
    exact ⟨xs, own_of_block h1 fun b hbb => hb b hbb, h2.mono hs⟩
  · obtain ⟨b, ty, arr, h1, h2, h3⟩ := h.box hbx
    exact ⟨b, ty, arr, h1, (hb b (box_blk hbx h1)).trans h2, h3.mono hs hg⟩
  · obtain ⟨b, h1, h2⟩ := h.iter s p he
    subst he h1
    exact ⟨b, rfl, (hb b rfl).trans h2⟩
theorem not_rowc {w : World} {m : Md} {g : List Value} {e : TypeId} {T : Ty} {l : List T.den} {vs : List Value} (h : RepL w m g [.rowc e T l] vs) : False := by
  obtain ⟨v, r, _, h1, _⟩ := h; exact h1
theorem not_frow {w : World} {m : Md} {g : List Value} {T : Ty} {l : List T.den} {vs : List Value} (h : RepL w m g [.frow T l] vs) : False := by
  obtain ⟨v, r, _, h1, _⟩ := h; exact h1
theorem not_siter {w : World} {m : Md} {g : List Value} {s : List UInt8} {p : Nat} {vs : List Value} (h : RepL w m g [.siter s p] vs) : False := by
  obtain ⟨v, r, _, h1, _⟩ := h; exact h1
theorem isBox_of_rep {w : World} {m : Md} {g : List Value} {cs : List AV} {vs : List Value} (h : RepL w m g cs vs) (hn : cs ≠ []) : isBox cs = true := by
  unfold isBox
  split
  · exact (not_rowc h).elim
  · exact (not_frow h).elim
  · exact (not_siter h).elim
  · exact absurd rfl hn
  · rfl
theorem RepO.dead (w : World) (m : Md) (g : List Value) (gi : Value) : RepO w m g gi [] :=
  ⟨(fun _ _ _ h => by cases h), (fun _ _ h => by cases h), (fun h => by cases h), (fun _ _ h => by cases h)⟩

/-- A block that may be written was there. -/
theorem RepO.blk_lt {w : World} {m : Md} {g : List Value} {gi : Value} {cs : List AV} (h : RepO w m g gi cs) {b : Nat} (hb : blk gi cs = some b) : b < w.heap.size := by
  by_cases hx : isBox cs = true
  · obtain ⟨b', ty, arr, h1, h2, _⟩ := h.box hx
    rw [box_blk hx h1] at hb
    cases hb
    exact (Array.getElem?_eq_some_iff.1 h2).1
  · unfold isBox at hx
    split at hx
    · obtain ⟨xs, h1, _⟩ := h.rowc _ _ _ rfl
      exact (h1.lt b hb).2
    · simp [blk] at hb
    · obtain ⟨b', h1, h2⟩ := h.iter _ _ rfl
      subst h1
      simp only [blk, Option.some.injEq] at hb
      subst hb
      exact (Array.getElem?_eq_some_iff.1 h2).1
    · simp [blk] at hb
    · exact absurd rfl hx
theorem RepOb.mu_lt {w : World} {m : Md} {g : List Value} {ob : Store} (h : RepOb w m g ob) {b : Nat} (hb : Mu g ob b) : b < w.heap.size := by
  obtain ⟨i, gi, cs, h1, h2, h3⟩ := hb
  exact (h.obj i gi cs h1 h2).blk_lt h3
theorem set_get {α : Type} {l : List α} {o i : Nat} {x y : α} (h : (l.set o x)[i]? = some y) : (i = o ∧ y = x ∧ o < l.length) ∨ (i ≠ o ∧ l[i]? = some y) := by
  rw [List.getElem?_set] at h
  by_cases e : o = i
  · subst e
    by_cases hl : o < l.length
    · simp [hl] at h; exact .inl ⟨rfl, h.symm, hl⟩
    · simp [hl] at h
  · rw [if_neg e] at h; exact .inr ⟨fun h => e h.symm, h⟩
theorem app_get {α : Type} {l : List α} {i : Nat} {x y : α} (h : (l ++ [x])[i]? = some y) : (i = l.length ∧ y = x) ∨ (i < l.length ∧ l[i]? = some y) := by
  rcases Nat.lt_or_ge i l.length with hi | hi
  · rw [List.getElem?_append_left hi] at h; exact .inr ⟨hi, h⟩
  · rw [List.getElem?_append_right hi] at h
    rcases Nat.eq_zero_or_pos (i - l.length) with e | e
    · rw [e] at h; simp at h; exact .inl ⟨by omega, h.symm⟩
    · rw [List.getElem?_eq_none (by simp; omega)] at h; cases h

/-- The store, changed at one object, its block no greater; the world changed at that block alone. -/
theorem RepOb.set {w w' : World} {m : Md} {g : List Value} {ob : Store} (h : RepOb w m g ob) {o : Nat} {gi : Value} {cs cs' : List AV} (hgo : g[o]? = some gi) (hob : ob[o]? = some cs)
    (hle : ∀ b, blk gi cs' = some b → blk gi cs = some b) (hos : w'.os = w.os) (ht : w'.tape = w.tape) (hou : w'.output = w.output) (hsz : w.heap.size ≤ w'.heap.size)
    (hk : ∀ b, b < w.heap.size → blk gi cs ≠ some b → w'.heap[b]? = w.heap[b]?) (hn : Stp w m w' m → RepO w' m g gi cs') :
    RepOb w' m g (ob.set o cs') ∧ Stp w m w' m := by
  have hst : Stp w m w' m := ⟨hos, ht, hou, hsz, h.nm, fun b hb hm => hk b hb fun e => hm (h.sub b ⟨o, gi, cs, hgo, hob, e⟩), fun b _ hb => hb, fun b _ hb => hb, fun b _ hb _ => hb⟩
  have hl : ∀ (i : Nat) gi' c1 b, g[i]? = some gi' → (ob.set o cs')[i]? = some c1 → blk gi' c1 = some b → ∃ c2, ob[i]? = some c2 ∧ blk gi' c2 = some b := by
    intro i gi' c1 b h1 h2 h3
    rcases set_get h2 with ⟨rfl, rfl, _⟩ | ⟨_, h4⟩
    · rw [hgo] at h1; cases h1; exact ⟨cs, hob, hle b h3⟩
    · exact ⟨c1, h4, h3⟩
  refine ⟨⟨by simpa using h.len, ?_, h.nm, fun b hb => Nat.lt_of_lt_of_le (h.lt b hb) hsz, fun i gi' cs1 h1 h2 => ?_, fun i j gi1 gj ci cj b hij h1 h2 h3 h4 h5 h6 => ?_⟩, hst⟩
  · rintro b ⟨i, gi', c1, h1, h2, h3⟩
    obtain ⟨c2, h4, h5⟩ := hl i gi' c1 b h1 h2 h3
    exact h.sub b ⟨i, gi', c2, h1, h4, h5⟩
  · rcases set_get h2 with ⟨rfl, rfl, _⟩ | ⟨hne, h4⟩
    · rw [hgo] at h1; cases h1; exact hn hst
    · exact (h.obj i gi' cs1 h1 h4).mono hst (fun _ _ h => h) fun b hb => hk b ((h.obj i gi' cs1 h1 h4).blk_lt hb) fun e => h.sep o i gi gi' cs cs1 b (Ne.symm hne) hgo hob h1 h4 e hb
  · obtain ⟨c2, k1, k2⟩ := hl i gi1 ci b h1 h2 h5
    obtain ⟨c3, k3, k4⟩ := hl j gj cj b h3 h4 h6
    exact h.sep i j gi1 gj c2 c3 b hij h1 k1 h3 k3 k2 k4

theorem RepOb.kill {w : World} {m : Md} {g : List Value} {ob : Store} (h : RepOb w m g ob) (o : Nat) : RepOb w m g (ob.set o []) := by
  rcases Nat.lt_or_ge o ob.length with hlt | hge
  · exact (h.set (cs' := []) (List.getElem?_eq_getElem (by rw [h.len]; exact hlt)) (List.getElem?_eq_getElem hlt) (fun b hb => by simp [blk] at hb) rfl rfl rfl (Nat.le_refl _) (fun _ _ _ => rfl) fun _ => RepO.dead ..).1
  · rw [List.set_eq_of_length_le hge]; exact h

theorem own_cells {w : World} {e : TypeId} {size n : Nat} {v : Value} {xs : List Value} (h : w.ownsRow 0 e size v n xs) :
    ∃ ao cap, v = .slice ao n cap ∧ n ≤ cap ∧ cap ≤ 9223372036854775807 ∧ (ao = none → cap = 0) ∧ (0 < n → ∃ b, ao = some ⟨b, 0, none⟩ ∧ v.ownBlock = some b) ∧
      ∀ b, ao = some ⟨b, 0, none⟩ → v.ownBlock = some b ∧ b < w.heap.size ∧ ∀ (i : Nat) u, xs[i]? = some u → w.cell? ⟨b, i, none⟩ = some u := by
  rcases h.2 with ⟨rfl, rfl⟩ | ⟨g, cap, cur, rfl, _, h2, h3, h4, h5, h6⟩
  · exact ⟨none, 0, rfl, Nat.le_refl _, by omega, (fun _ => rfl), (fun h => by omega), (fun b hb => by cases hb)⟩
  · refine ⟨_, cap, rfl, h3, by simp only [maxLen] at h4; omega, (fun h => by cases h), fun _ => ⟨g, rfl, rfl⟩, fun b hb => ?_⟩
    cases hb
    refine ⟨rfl, (Array.getElem?_eq_some_iff.1 h2).1, fun i u hu => ?_⟩
    have := h.cells (g := g) rfl i u hu
    rwa [show (⟨g, 0, none⟩ : Addr).add i = ⟨g, i, none⟩ by unfold Addr.add; split <;> simp_all] at this

/-- What a row holds, as a slice that nobody writes (its block is not among those that may be written). -/
theorem own_repT {w : World} {m : Md} {e : TypeId} {T : Ty} {v : Value} {l : List T.den} {xs : List Value} (h : w.ownsRow 0 e T.size v l.length xs) (hE : RepE w m T l xs) (hm : ∀ b, v.ownBlock = some b → ¬ m b) :
    RepT w m (.lst T) l [v] := by
  obtain ⟨ao, cap, rfl, h1, h2, h0, h3, h4⟩ := own_cells h
  refine ⟨ao, cap, rfl, h1, h2, h0, fun j x hj => ?_⟩
  have hlt : j < l.length := (List.getElem?_eq_some_iff.1 (show l[j]? = some x from hj)).1
  obtain ⟨b, rfl, hb⟩ := h3 (by omega)
  obtain ⟨_, h5, h6⟩ := h4 b rfl
  have hr := hE j x hj
  refine ⟨b, 0, _, rfl, hr, hr.length, h5, hm b hb, fun i u hu => ?_⟩
  rw [List.getElem?_take] at hu
  split at hu
  · rw [List.getElem?_drop] at hu
    rw [Nat.zero_add]
    exact h6 _ u hu
  · cases hu

theorem RepOb.less {w : World} {m m' : Md} {g : List Value} {ob : Store} (h : RepOb w m g ob) (hs : ∀ b, Mu g ob b → m'.n b) (hm : ∀ b, m' b → m b) (hn : ∀ b, m'.n b → m.n b) (hnm : ∀ b, m'.n b → m' b) (hst : ∀ b, m b → ¬ m.n b → m' b) : RepOb w m' g ob :=
  ⟨h.len, hs, hnm, fun b hb => h.lt b (hm b hb), fun i gi cs h1 h2 => (h.obj i gi cs h1 h2).mono (Stp.less w h.nm hm hn hst) (fun _ _ h => h) fun _ _ => rfl, h.sep⟩
theorem RepOb.freeze {w : World} {m : Md} {g : List Value} {ob : Store} (h : RepOb w m g ob) {o : Nat} {e : TypeId} {T : Ty} {l : List T.den} (hob : ob[o]? = some [.rowc e T l]) :
    ∃ m' : Md, (∀ b, m' b → m b) ∧ (∀ b, m'.n b → m.n b) ∧ (∀ b, m b → ¬ m.n b → m' b) ∧ RepOb w m' g (ob.set o [.frow T l]) := by
  have hlt : o < ob.length := (List.getElem?_eq_some_iff.1 hob).1
  have hgo : g[o]? = some (g[o]'(by rw [h.len]; exact hlt)) := List.getElem?_eq_getElem (by rw [h.len]; exact hlt)
  generalize g[o]'(by rw [h.len]; exact hlt) = gi at hgo
  have hd : ∀ b, gi.ownBlock = some b → ¬ Mu g (ob.set o []) b := by
    rintro b hb ⟨i, gi', cs, k1, k2, k3⟩
    rcases set_get k2 with ⟨rfl, rfl, _⟩ | ⟨hne, h4⟩
    · simp [blk] at k3
    · exact h.sep o i gi gi' _ cs b (Ne.symm hne) hgo hob k1 h4 hb k3
  have hsty : ∀ b, m b → ¬ m.n b → m b ∧ gi.ownBlock ≠ some b := fun b h1 h2 => ⟨h1, fun e => h2 (h.sub b ⟨o, gi, _, hgo, hob, e⟩)⟩
  refine ⟨⟨fun b => m.n b ∧ gi.ownBlock ≠ some b, fun b => m b ∧ gi.ownBlock ≠ some b⟩, fun b hb => hb.1, fun b hb => hb.1, hsty, ?_⟩
  have h1 := (h.kill o).less (m' := ⟨fun b => m.n b ∧ gi.ownBlock ≠ some b, fun b => m b ∧ gi.ownBlock ≠ some b⟩) (fun b hb => ⟨(h.kill o).sub b hb, fun e => hd b e hb⟩) (fun b hb => hb.1) (fun b hb => hb.1) (fun b hb => ⟨h.nm b hb.1, hb.2⟩) hsty
  have hob1 : (ob.set o [])[o]? = some [] := by rw [List.getElem?_set, if_pos rfl, if_pos hlt]
  have h2 := (h1.set (cs' := [.frow T l]) hgo hob1 (fun b hb => by simp [blk] at hb) rfl rfl rfl (Nat.le_refl _) (fun _ _ _ => rfl) fun hst => ⟨(fun _ _ _ h => by cases h), fun T' l' he => ?_, (fun h => by simp [isBox] at h), (fun _ _ h => by cases h)⟩).1
  · rwa [List.set_set] at h2
  · cases he
    obtain ⟨xs, h1, h2⟩ := (h.obj o _ _ hgo hob).rowc e T l rfl
    exact own_repT h1 (h2.mono (Stp.less (m' := ⟨fun b => m.n b ∧ gi.ownBlock ≠ some b, fun b => m b ∧ gi.ownBlock ≠ some b⟩) w h.nm (fun b hb => hb.1) (fun b hb => hb.1) hsty)) fun b hb hmu => hmu.2 hb

/-- The rows among some values, frozen one behind the other. -/
def Fz (ob ob' : Store) : Prop := ob'.length = ob.length ∧ ∀ (o : Nat), ob'[o]? = ob[o]? ∨ ∃ e T l, ob[o]? = some [.rowc e T l] ∧ ob'[o]? = some [.frow T l]
theorem Fz.refl (ob : Store) : Fz ob ob := ⟨rfl, fun _ => .inl rfl⟩
theorem frees_sound {w : World} {g : List Value} {ob : Store} : ∀ (cs : List AV) (m : Md) (ob1 : Store), RepOb w m g ob1 → Fz ob ob1 →
    ∃ m' : Md, (∀ b, m' b → m b) ∧ (∀ b, m'.n b → m.n b) ∧ (∀ b, m b → ¬ m.n b → m' b) ∧ RepOb w m' g (wr ob1 (frees ob cs)) ∧ Fz ob (wr ob1 (frees ob cs)) ∧
    (∀ (o : Nat) T l, ob1[o]? = some [.frow T l] → (wr ob1 (frees ob cs))[o]? = some [.frow T l]) ∧
    ∀ (o : Nat) e T l, AV.row o ∈ cs → ob[o]? = some [.rowc e T l] → (wr ob1 (frees ob cs))[o]? = some [.frow T l]
  | [], m, ob1, h, hf => ⟨m, fun _ h => h, fun _ h => h, fun _ h _ => h, h, hf, fun _ _ _ h => h, fun _ _ _ _ h => by cases h⟩
  | c :: cs, m, ob1, h, hf => by
    by_cases hc : ∃ o e T l, c = .row o ∧ ob[o]? = some [.rowc e T l]
    · obtain ⟨o, e, T, l, rfl, ho⟩ := hc
      have hfr : frees ob (.row o :: cs) = .obj o [.frow T l] :: frees ob cs := by simp [frees, ho]
      rw [hfr]
      simp only [wr]
      have key : ∃ m' : Md, (∀ b, m' b → m b) ∧ (∀ b, m'.n b → m.n b) ∧ (∀ b, m b → ¬ m.n b → m' b) ∧ RepOb w m' g (ob1.set o [.frow T l]) := by
        rcases hf.2 o with h1 | ⟨e', T', l', h1, h2⟩
        · exact h.freeze (h1.trans ho)
        · rw [ho] at h1; cases h1
          have : ob1.set o [.frow T l] = ob1 := by
            apply List.ext_getElem?; intro i
            rw [List.getElem?_set]
            split
            · rename_i e; subst e
              rw [h2]; simp [(List.getElem?_eq_some_iff.1 h2).1]
            · rfl
          rw [this]; exact ⟨m, fun _ h => h, fun _ h => h, fun _ h _ => h, h⟩
      have hlt1 : o < ob1.length := by rw [hf.1]; exact (List.getElem?_eq_some_iff.1 ho).1
      have hf2 : Fz ob (ob1.set o [.frow T l]) := by
        refine ⟨by simpa using hf.1, fun i => ?_⟩
        by_cases e' : o = i
        · subst e'
          exact .inr ⟨e, T, l, ho, by rw [List.getElem?_set, if_pos rfl, if_pos hlt1]⟩
        · rw [List.getElem?_set, if_neg e']; exact hf.2 i
      obtain ⟨m1, hm1, hn1, hs1, key⟩ := key
      obtain ⟨m2, hm2, hn2, hs2, r1, r4, r5, r6⟩ := frees_sound cs m1 _ key hf2
      refine ⟨m2, fun b hb => hm1 b (hm2 b hb), fun b hb => hn1 b (hn2 b hb), fun b h1 h2 => hs2 b (hs1 b h1 h2) fun h3 => h2 (hn1 b h3), r1, r4, fun o' T' l' h' => ?_, fun o' e' T' l' hmm h' => ?_⟩
      · refine r5 o' T' l' ?_
        by_cases e' : o = o'
        · subst e'
          rcases hf.2 o with h1 | ⟨e', T'', l'', h1, h2⟩
          · rw [h1, ho] at h'; cases h'
          · rw [ho] at h1; cases h1
            rw [h2] at h'; cases h'
            rw [List.getElem?_set, if_pos rfl, if_pos hlt1]
        · rw [List.getElem?_set, if_neg e']; exact h'
      · rcases List.mem_cons.1 hmm with he | hmm
        · cases he
          rw [ho] at h'; cases h'
          exact r5 o T l (by rw [List.getElem?_set, if_pos rfl, if_pos hlt1])
        · exact r6 o' e' T' l' hmm h'
    · have hfr : frees ob (c :: cs) = frees ob cs := by
        cases c <;> simp only [frees]
        rename_i o
        split
        · rename_i e T l ho; exact absurd ⟨o, e, T, l, rfl, ho⟩ hc
        · rfl
      rw [hfr]
      obtain ⟨m2, hm2, hn2, hs2, r1, r4, r5, r6⟩ := frees_sound cs m ob1 h hf
      refine ⟨m2, hm2, hn2, hs2, r1, r4, r5, fun o' e' T' l' hmm h' => ?_⟩
      rcases List.mem_cons.1 hmm with he | hmm
      · exact absurd ⟨o', e', T', l', he.symm, h'⟩ hc
      · exact r6 o' e' T' l' hmm h'

/-- What is seen of a value as data, once its row is frozen. -/
theorem view_sound {w : World} {m : Md} {g : List Value} {ob ob' : Store} {a : AV} {v : Value} (h' : RepOb w m g ob') (hf : Fz ob ob') (hr : RepV w m g a v)
    (hz : ∀ (o : Nat) e T l, a = .row o → ob[o]? = some [.rowc e T l] → ob'[o]? = some [.frow T l]) : RepV w m g (view ob a) v := by
  cases a <;> try exact hr
  rename_i o
  have : ∀ T l, ob'[o]? = some [.frow T l] → RepV w m g (.lst T l) v := fun T l ho => by
    obtain ⟨hg, _⟩ := hr
    exact (h'.obj o v _ hg ho).frow T l rfl
  simp only [view]
  split
  · rename_i e T l ho; exact this T l (hz o e T l rfl ho)
  · rename_i T l ho
    rcases hf.2 o with h1 | ⟨e, T', l', h1, h2⟩
    · exact this T l (h1.trans ho)
    · rw [ho] at h1; cases h1
  · trivial
theorem viewL_sound {w : World} {m : Md} {g : List Value} {ob ob' : Store} (h' : RepOb w m g ob') (hf : Fz ob ob') : ∀ {cs : List AV} {vs : List Value}, RepL w m g cs vs →
    (∀ (o : Nat) e T l, AV.row o ∈ cs → ob[o]? = some [.rowc e T l] → ob'[o]? = some [.frow T l]) → RepL w m g (cs.map (view ob)) vs
  | [], _, h, _ => h
  | c :: cs, _, ⟨v, r, h1, h2, h3⟩, hz => ⟨v, r, h1, view_sound h' hf h2 fun o e T l he ho => hz o e T l (he ▸ List.mem_cons_self) ho, viewL_sound h' hf h3 fun o e T l hm ho => hz o e T l (List.mem_cons_of_mem _ hm) ho⟩

def Md.plus (m : Md) (x : Option Nat) : Md := ⟨fun b => m.n b ∨ x = some b, fun b => m b ∨ x = some b⟩
/-- A new object behind the others. -/
theorem RepOb.add {w w' : World} {m : Md} {g : List Value} {ob : Store} (h : RepOb w m g ob) (gi : Value) (cs : List AV) (hos : w'.os = w.os) (ht : w'.tape = w.tape) (hou : w'.output = w.output) (hsz : w.heap.size ≤ w'.heap.size)
    (hk : ∀ b, b < w.heap.size → ¬ m.n b ∨ Mu g ob b → w'.heap[b]? = w.heap[b]?) (hfree : ∀ b, blk gi cs = some b → b < w.heap.size → m.n b ∧ ¬ Mu g ob b)
    (hn : Stp w m w' (m.plus (blk gi cs)) → RepO w' (m.plus (blk gi cs)) (g ++ [gi]) gi cs) :
    RepOb w' (m.plus (blk gi cs)) (g ++ [gi]) (ob ++ [cs]) ∧ Stp w m w' (m.plus (blk gi cs)) ∧ (∀ (o : Nat) v, g[o]? = some v → (g ++ [gi])[o]? = some v) := by
  have hgg : ∀ (o : Nat) v, g[o]? = some v → (g ++ [gi])[o]? = some v := fun o v ho => by
    rw [List.getElem?_append_left (List.getElem?_eq_some_iff.1 ho).1]; exact ho
  have hst : Stp w m w' (m.plus (blk gi cs)) :=
    ⟨hos, ht, hou, hsz, h.nm, fun b hb hm => hk b hb (.inl hm), fun b hb hb' => hb'.elim id fun e => h.nm b (hfree b e hb).1, fun b hb hb' => hb'.elim id fun e => (hfree b e hb).1, fun b _ h1 _ => .inl h1⟩
  have hlt : ∀ i gi' cs' b, g[i]? = some gi' → ob[i]? = some cs' → blk gi' cs' = some b → blk gi cs ≠ some b := fun i gi' cs' b h1 h2 h3 h4 =>
    (hfree b h4 ((h.obj i gi' cs' h1 h2).blk_lt h3)).2 ⟨i, gi', cs', h1, h2, h3⟩
  refine ⟨⟨by simp [h.len], ?_, fun b hb => hb.elim (fun hb => .inl (h.nm b hb)) .inr, fun b hb => hb.elim (fun hb => Nat.lt_of_lt_of_le (h.lt b hb) hsz) fun e => (hn hst).blk_lt e, fun i gi' cs' h1 h2 => ?_, fun i j gi1 gj ci cj b hij h1 h2 h3 h4 h5 h6 => ?_⟩, hst, hgg⟩
  · rintro b ⟨i, gi', c1, h1, h2, h3⟩
    rcases app_get h1 with ⟨e1, rfl⟩ | ⟨l1, k1⟩
    · rcases app_get h2 with ⟨_, rfl⟩ | ⟨l2, _⟩
      · exact .inr h3
      · rw [e1, h.len] at l2; omega
    · rcases app_get h2 with ⟨e2, _⟩ | ⟨_, k2⟩
      · rw [e2, ← h.len] at l1; omega
      · exact .inl (h.sub b ⟨i, gi', c1, k1, k2, h3⟩)
  · rcases app_get h1 with ⟨e1, rfl⟩ | ⟨l1, k1⟩
    · rcases app_get h2 with ⟨_, rfl⟩ | ⟨l2, _⟩
      · exact hn hst
      · rw [e1, h.len] at l2; omega
    · rcases app_get h2 with ⟨e2, _⟩ | ⟨_, k2⟩
      · rw [e2, ← h.len] at l1; omega
      · exact (h.obj i gi' cs' k1 k2).mono hst hgg fun b hb => hk b ((h.obj i gi' cs' k1 k2).blk_lt hb) (.inr ⟨i, gi', cs', k1, k2, hb⟩)
  · rcases app_get h1 with ⟨e1, rfl⟩ | ⟨l1, k1⟩ <;> rcases app_get h2 with ⟨e2, rfl⟩ | ⟨l2, k2⟩ <;> (try (rw [← h.len] at *; omega)) <;>
      rcases app_get h3 with ⟨e3, rfl⟩ | ⟨l3, k3⟩ <;> rcases app_get h4 with ⟨e4, rfl⟩ | ⟨l4, k4⟩ <;> (try (rw [← h.len] at *; omega))
    · exact hlt j gj cj b k3 k4 h6 h5
    · exact hlt i gi1 ci b k1 k2 h5 h6
    · exact h.sep i j gi1 gj ci cj b hij k1 k2 k3 k4 h5 h6
end Go.Ae
