/- A state forgets what a shape does not name. -/
import Derived.Test.YtaoaagbfjekecaaDoorAe10
set_option linter.unusedVariables false
set_option linter.unusedSimpArgs false
namespace Go.Ae
open Go.RowKit
variable {w : World} {m : Md} {g : List Value} {ob : Store}

def Pd (ms : MS) : Prop := ∀ (i j o : Nat), ms.m[i]? = some (some o) → ms.m[j]? = some (some o) → i = j
def Pf (ob : Store) (ms : MS) : Prop := ∀ o ∈ ms.fz, ∃ e T l, ob[o]? = some [.rowc e T l]
def Bk (ob : Store) (msf : MS) (k : Nat) (cs' : List AV) : Prop :=
  (∃ o cs, msf.m[k]? = some (some o) ∧ ob[o]? = some cs ∧ ∀ gi b, blk gi cs' = some b → blk gi cs = some b) ∨ (∃ e T, msf.m[k]? = some none ∧ cs' = [.rowc e T []]) ∨ cs' = []
def MtM (ob : Store) (i : Nat) (ms msf : MS) (x : List AV × Store) : Prop :=
  Ext ms msf ∧ (Pd ms → Pd msf) ∧ (Pf ob ms → Pf ob msf) ∧ ∀ (j : Nat) cs', x.2[j]? = some cs' → Bk ob msf (i + j) cs'
theorem MtM.of {i : Nat} {ms ms1 msf : MS} {x y : List AV × Store} (h : MtM ob i ms1 msf x) (he : Ext ms ms1) (h1 : Pd ms → Pd ms1) (h2 : Pf ob ms → Pf ob ms1) (hxy : y.2 = x.2) : MtM ob i ms msf y :=
  ⟨he.trans h.1, fun k => h.2.1 (h1 k), fun k => h.2.2.1 (h2 k), by rw [hxy]; exact h.2.2.2⟩
theorem see_pd {ms ms' : MS} {i : Nat} {o : Option Nat} (h : see ms i o = some ms') : (Pd ms → Pd ms') ∧ ms'.fz = ms.fz := by
  unfold see at h
  split at h
  · split at h
    · split at h
      · cases h; exact ⟨id, rfl⟩
      · cases h
    · cases h
  · split at h
    · split at h
      · rename_i a
        split at h
        · cases h
        · rename_i hc
          cases h
          refine ⟨fun hp p q r h1 h2 => ?_, rfl⟩
          have hnm : some a ∉ ms.m := by simpa using hc
          rcases app_get h1 with ⟨e1, k1⟩ | ⟨l1, k1⟩ <;> rcases app_get h2 with ⟨e2, k2⟩ | ⟨l2, k2⟩
          · omega
          · rw [k1] at k2; exact absurd (List.mem_of_getElem? k2) hnm
          · rw [k2] at k1; exact absurd (List.mem_of_getElem? k1) hnm
          · exact hp p q r k1 k2
      · cases h
        refine ⟨fun hp p q r h1 h2 => ?_, rfl⟩
        rcases app_get h1 with ⟨e1, k1⟩ | ⟨l1, k1⟩ <;> rcases app_get h2 with ⟨e2, k2⟩ | ⟨l2, k2⟩
        · omega
        · cases k1
        · cases k2
        · exact hp p q r k1 k2
    · cases h
theorem froze_pd (a : AV) (ms : MS) : (Pd ms → Pd (froze ob a ms)) ∧ (Pf ob ms → Pf ob (froze ob a ms)) := by
  unfold froze
  split
  · split
    · rename_i o _ e T l ho
      exact ⟨fun h => h, fun h o' ho' => by
        rcases List.mem_cons.1 ho' with rfl | h1
        · exact ⟨e, T, l, ho⟩
        · exact h o' h1⟩
    · exact ⟨id, id⟩
  · exact ⟨id, id⟩
theorem em_cell (ρ : Nat → Nat) : ∀ (l : List Sh) (v : HS l), (em ρ l v).1.all AV.cell = true := by
  intro l
  induction l with
  | nil => intro v; rfl
  | cons s r ih =>
    have tk : ∀ (x : List AV) n, x.all AV.cell = true → (x.drop n).all AV.cell = true := by
      intro x n h; rw [List.all_eq_true] at h ⊢; exact fun z hz => h z (List.mem_of_mem_drop hz)
    intro v
    cases s <;> simp only [em, List.all_cons, AV.cell, Bool.true_and, List.all_nil] <;> first | exact ih _ | exact tk _ _ (ih _) | skip
    case iface t =>
      have := ih v
      split
      · rename_i a q hq; rw [hq] at this; simp only [List.all_cons, Bool.and_eq_true] at this; simp [AV.cell, this.2]
      · rfl
theorem blk_cell {gi : Value} {cs : List AV} {b : Nat} (h : cs.all AV.cell = true) (hb : blk gi cs = some b) : cs ≠ [] ∧ ∃ a, gi = .pointer (some a) ∧ a.block = b := by
  unfold blk at hb
  split at hb
  · simp [AV.cell] at h
  · simp [AV.cell] at h
  · cases hb
  · rename_i hne
    refine ⟨hne, ?_⟩
    split at hb
    · rename_i a; exact ⟨a, rfl, by simpa using hb⟩
    · cases hb
theorem blk_of_cell {a : Addr} {cs : List AV} (h : cs.all AV.cell = true) (hn : cs ≠ []) : blk (.pointer (some a)) cs = some a.block := by
  unfold blk
  split
  · simp [AV.cell] at h
  · simp [AV.cell] at h
  · exact absurd rfl hn
  · rfl

set_option maxHeartbeats 4000000 in
theorem mt_more : ∀ (l : List Sh) (avs : List AV) (i : Nat) (ms : MS) (v : HS l) (msf : MS), mt ob l avs i ms = some (v, msf) → MtM ob i ms msf (em id l v) := by
  intro l
  induction l with
  | nil =>
    intro avs i ms v msf h
    rw [mt_nil] at h
    split at h
    · split at h
      · simp only [Option.some.injEq, Prod.mk.injEq] at h
        obtain ⟨_, rfl⟩ := h
        exact ⟨Ext.refl _, id, id, fun j gi h => by simp [em] at h⟩
      · cases h
    · cases h
  | cons s r ih =>
    intro avs i ms v msf h
    cases s with
    | top =>
      change HS r at v
      replace h := mt_top _ _ _ _ _ h
      split at h
      · exact (ih _ _ _ _ _ h).of (Ext.refl _) id id rfl
      · cases h
    | int k =>
      rw [mt_int] at h
      split at h
      · split at h
        · obtain ⟨v', ms', h1, h2⟩ := hs_cons h
          cases h2
          exact (ih _ _ _ _ _ h1).of (Ext.refl _) id id rfl
        · cases h
      · cases h
    | cint k c =>
      change HS r at v
      replace h := mt_cint _ _ _ _ _ _ _ h
      split at h
      · split at h
        · exact (ih _ _ _ _ _ h).of (Ext.refl _) id id rfl
        · cases h
      · cases h
    | bool =>
      rw [mt_bool] at h
      split at h
      · obtain ⟨v', ms', h1, h2⟩ := hs_cons h
        cases h2
        exact (ih _ _ _ _ _ h1).of (Ext.refl _) id id rfl
      · cases h
    | cbool c =>
      change HS r at v
      replace h := mt_cbool _ _ _ _ _ _ h
      split at h
      · split at h
        · exact (ih _ _ _ _ _ h).of (Ext.refl _) id id rfl
        · cases h
      · cases h
    | str =>
      rw [mt_str] at h
      split at h
      · obtain ⟨v', ms', h1, h2⟩ := hs_cons h
        cases h2
        exact (ih _ _ _ _ _ h1).of (Ext.refl _) id id rfl
      · cases h
    | lst T =>
      rw [mt_lst] at h
      split at h
      · obtain ⟨v', ms', h1, h2⟩ := hs_cons h
        cases h2
        exact (ih _ _ _ _ _ h1).of (Ext.refl _) id id rfl
      · rename_i a avs _
        split at h
        · split at h
          · obtain ⟨v', ms', h1, h2⟩ := hs_cons h
            cases h2
            exact (ih _ _ _ _ _ h1).of (froze_ext a ms) (froze_pd a ms).1 (froze_pd a ms).2 rfl
          · cases h
        · cases h
      · cases h
    | row j =>
      change HS r at v
      replace h := mt_row _ _ _ _ _ _ h
      split at h
      · split at h
        · rename_i hsee
          exact (ih _ _ _ _ _ h).of (see_spec hsee).1 (see_pd hsee).1 (fun k => by unfold Pf; rw [(see_pd hsee).2]; exact k) rfl
        · cases h
      · split at h
        · rename_i hsee
          exact (ih _ _ _ _ _ h).of (see_spec hsee).1 (see_pd hsee).1 (fun k => by unfold Pf; rw [(see_pd hsee).2]; exact k) rfl
        · cases h
      · cases h
    | ptr j off =>
      change HS r at v
      replace h := mt_ptr _ _ _ _ _ _ _ h
      split at h
      · split at h
        · split at h
          · rename_i hsee
            exact (ih _ _ _ _ _ h).of (see_spec hsee).1 (see_pd hsee).1 (fun k => by unfold Pf; rw [(see_pd hsee).2]; exact k) rfl
          · cases h
        · cases h
      · cases h
    | nilp =>
      change HS r at v
      replace h := mt_nilp _ _ _ _ _ h
      split at h
      · exact (ih _ _ _ _ _ h).of (Ext.refl _) id id rfl
      · cases h
    | nils =>
      change HS r at v
      replace h := mt_nils _ _ _ _ _ h
      split at h
      · exact (ih _ _ _ _ _ h).of (Ext.refl _) id id rfl
      · cases h
    | nilf =>
      change HS r at v
      replace h := mt_nilf _ _ _ _ _ h
      split at h
      · exact (ih _ _ _ _ _ h).of (Ext.refl _) id id rfl
      · cases h
    | nili =>
      change HS r at v
      replace h := mt_nili _ _ _ _ _ h
      split at h
      · exact (ih _ _ _ _ _ h).of (Ext.refl _) id id rfl
      · cases h
    | agg n =>
      change HS r at v
      replace h := mt_agg _ _ _ _ _ _ h
      split at h
      · split at h
        · exact (ih _ _ _ _ _ h).of (Ext.refl _) id id rfl
        · cases h
      · cases h
    | tuple n =>
      change HS r at v
      replace h := mt_tuple _ _ _ _ _ _ h
      split at h
      · split at h
        · exact (ih _ _ _ _ _ h).of (Ext.refl _) id id rfl
        · cases h
      · cases h
    | func fn nf nc =>
      change HS r at v
      replace h := mt_func _ _ _ _ _ _ _ _ h
      split at h
      · split at h
        · exact (ih _ _ _ _ _ h).of (Ext.refl _) id id rfl
        · cases h
      · cases h
    | iface t =>
      change HS r at v
      replace h := mt_iface _ _ _ _ _ _ h
      split at h
      · split at h
        · exact (ih _ _ _ _ _ h).of (Ext.refl _) id id rfl
        · cases h
      · cases h
    | obox n =>
      change HS r at v
      replace h := mt_obox _ _ _ _ _ _ h
      split at h
      · rename_i o hm
        split at h
        · rename_i cs ho
          split at h
          · rename_i hcond
            obtain ⟨hl, hn0, hcell⟩ := hcond
            obtain ⟨h1, h2, h3, h4⟩ := ih _ _ _ _ _ h
            refine ⟨h1, h2, h3, fun j cs' hj => ?_⟩
            cases j with
            | succ j => rw [show i + (j + 1) = i + 1 + j by omega]; exact h4 j cs' (by simpa [em] using hj)
            | zero =>
              simp only [em, List.getElem?_cons_zero, Option.some.injEq] at hj
              subst hj
              refine .inl ⟨o, cs, h1.get hm, ho, fun gi b hb => ?_⟩
              obtain ⟨_, a, rfl, hab⟩ := blk_cell (em_cell id r v) hb
              rw [blk_of_cell hcell (by rintro rfl; simp at hl; omega), hab]
          · cases h
        · cases h
      · cases h
    | orow e T =>
      rw [mt_orow] at h
      split at h
      · rename_i o hm
        split at h
        · rename_i e' T' l' ho
          split at h
          · cases h
          · split at h
            · obtain ⟨v', ms', q1, q2⟩ := hs_cons h
              cases q2
              obtain ⟨h1, h2, h3, h4⟩ := ih _ _ _ _ _ q1
              refine ⟨h1, h2, h3, fun j cs' hj => ?_⟩
              cases j with
              | succ j => rw [show i + (j + 1) = i + 1 + j by omega]; exact h4 j cs' (by simpa [em] using hj)
              | zero =>
                simp only [em, List.getElem?_cons_zero, Option.some.injEq] at hj
                subst hj
                exact .inl ⟨o, _, h1.get hm, ho, fun gi b hb => hb⟩
            · cases h
        · cases h
      · rename_i hm
        obtain ⟨v', ms', q1, q2⟩ := hs_cons h
        cases q2
        obtain ⟨h1, h2, h3, h4⟩ := ih _ _ _ _ _ q1
        refine ⟨h1, h2, h3, fun j cs' hj => ?_⟩
        cases j with
        | succ j => rw [show i + (j + 1) = i + 1 + j by omega]; exact h4 j cs' (by simpa [em] using hj)
        | zero =>
          simp only [em, List.getElem?_cons_zero, Option.some.injEq] at hj
          subst hj
          exact .inr (.inl ⟨e, T, h1.get hm, rfl⟩)
      · cases h
    | oiter =>
      rw [mt_oiter] at h
      split at h
      · rename_i o hm
        split at h
        · rename_i s p ho
          obtain ⟨v', ms', q1, q2⟩ := hs_cons h
          cases q2
          obtain ⟨h1, h2, h3, h4⟩ := ih _ _ _ _ _ q1
          refine ⟨h1, h2, h3, fun j cs' hj => ?_⟩
          cases j with
          | succ j => rw [show i + (j + 1) = i + 1 + j by omega]; exact h4 j cs' (by simpa [em] using hj)
          | zero =>
            simp only [em, List.getElem?_cons_zero, Option.some.injEq, Int.toNat_natCast] at hj
            subst hj
            exact .inl ⟨o, _, h1.get hm, ho, fun gi b hb => hb⟩
        · cases h
      · cases h
    | odead =>
      change HS r at v
      replace h := mt_odead _ _ _ _ _ h
      split at h
      · split at h
        · obtain ⟨h1, h2, h3, h4⟩ := ih _ _ _ _ _ h
          refine ⟨h1, h2, h3, fun j cs' hj => ?_⟩
          cases j with
          | succ j => rw [show i + (j + 1) = i + 1 + j by omega]; exact h4 j cs' (by simpa [em] using hj)
          | zero =>
            simp only [em, List.getElem?_cons_zero, Option.some.injEq] at hj
            subst hj
            exact .inr (.inr rfl)
        · cases h
      · cases h

/-- The blocks of the slices that were told as ones that nobody writes. -/
def FzB (g : List Value) (ms : MS) (b : Nat) : Prop := ∃ o ∈ ms.fz, ∃ v, g[o]? = some v ∧ v.ownBlock = some b

/-- A state, told by a shape: in the same world, fewer blocks that may be written. -/
theorem forget (hob : RepOb w m g ob) {l : List Sh} {avs : List AV} {vs : List Value} {ms0 ms : MS} {v : HS l} (h : mt ob l avs 0 ms0 = some (v, ms)) (hp : Pd ms0) (hf : ms0.fz = []) (hr : RepL w m g avs vs) :
    ∃ m1 : Md, Stp w m w m1 ∧ RepOb w m1 (gOf g ms) (em id l v).2 ∧ RepL w m1 (gOf g ms) (em id l v).1 vs ∧ (∀ b, m1.n b ↔ Mu (gOf g ms) (em id l v).2 b) ∧ (∀ b, m1 b ↔ m b ∧ ¬ FzB g ms b) ∧ (∀ b, FzB g ms b → m.n b) ∧
      (∀ b, Mu (gOf g ms) (em id l v).2 b → ∃ (k o : Nat) (gi : Value) (cs : List AV), ms.m[k]? = some (some o) ∧ g[o]? = some gi ∧ ob[o]? = some cs ∧ blk gi cs = some b) ∧ (∀ o ∈ ms.fz, some o ∉ ms.m) ∧ Pd ms ∧ Pf ob ms ∧ Ext ms0 ms ∧ (em id l v).2.length = ms.m.length := by
  obtain ⟨x1, x2, x3, x4⟩ := mt_more l avs 0 ms0 v ms h
  have hpd := x2 hp
  have hpf := x3 (fun o ho => by rw [hf] at ho; cases ho)
  -- a kept object's block is one of the old store's, of a kept object
  have hmu : ∀ (k : Nat) gi cs' b, (gOf g ms)[k]? = some gi → (em id l v).2[k]? = some cs' → blk gi cs' = some b → ∃ (o : Nat) (cs : List AV), ms.m[k]? = some (some o) ∧ g[o]? = some gi ∧ ob[o]? = some cs ∧ blk gi cs = some b := by
    intro k gi cs' b h1 h2 h3
    have hbk := x4 k cs' h2
    rw [Nat.zero_add] at hbk
    rcases hbk with ⟨o, cs, k1, k2, k3⟩ | ⟨e, T, k1, k2⟩ | rfl
    · have hlt : o < g.length := by rw [hob.len]; exact (List.getElem?_eq_some_iff.1 k2).1
      have hgo : g[o]? = some g[o] := List.getElem?_eq_getElem hlt
      have := gOf_some k1 hgo
      rw [h1] at this
      cases this
      exact ⟨o, cs, k1, hgo, k2, k3 _ _ h3⟩
    · rw [gOf_none k1] at h1
      cases h1
      subst k2
      simp [blk, Value.ownBlock] at h3
    · simp [blk] at h3
  have hfzn : ∀ b, FzB g ms b → m.n b := by
    rintro b ⟨o, ho, u, h1, h2⟩
    obtain ⟨e, T, l', h3⟩ := hpf o ho
    exact hob.sub b ⟨o, u, _, h1, h3, h2⟩
  have hs1 : Stp w m w ⟨fun b => Mu (gOf g ms) (em id l v).2 b, fun b => m b ∧ ¬ FzB g ms b⟩ := Stp.less w hob.nm (fun b hb => hb.1) (fun b hb => by
    obtain ⟨k, gi, cs', h1, h2, h3⟩ := hb
    obtain ⟨o, cs, k1, k2, k3, k4⟩ := hmu k gi cs' b h1 h2 h3
    exact hob.sub b ⟨o, gi, cs, k2, k3, k4⟩) (fun b h1 h2 => ⟨h1, fun h3 => h2 (hfzn b h3)⟩)
  obtain ⟨y1, y2, y3, y4⟩ := mt_sound hob hs1 l avs 0 ms0 v ms h
  obtain ⟨z1, z2⟩ := y4 fun o ho u b hu hb hm => hm.2 ⟨o, ho, u, hu, hb⟩
  have hnf : ∀ b, Mu (gOf g ms) (em id l v).2 b → m b ∧ ¬ FzB g ms b := by
    rintro b ⟨k, gi, cs', h1, h2, h3⟩
    obtain ⟨o, cs, k1, k2, k3, k4⟩ := hmu k gi cs' b h1 h2 h3
    refine ⟨hob.nm b (hob.sub b ⟨o, gi, cs, k2, k3, k4⟩), ?_⟩
    rintro ⟨o', ho', u, q1, q2⟩
    obtain ⟨e, T, l', q3⟩ := hpf o' ho'
    have hne : o ≠ o' := by
      rintro rfl
      exact y3 o ho' (List.mem_of_getElem? k1)
    exact hob.sep o o' gi u cs _ b hne k2 k3 q1 q3 k4 q2
  refine ⟨_, hs1, ⟨?_, fun b hb => hb, hnf, fun b hb => hob.lt b hb.1, fun i gi cs h1 h2 => z2 i gi cs (by simpa using h1) h2, ?_⟩, z1 vs hr, fun b => Iff.rfl, fun b => Iff.rfl, hfzn, ?_, y3, hpd, hpf, x1, by omega⟩
  · rw [gOf, List.length_map]; omega
  · intro i j gi gj ci cj b hij h1 h2 h3 h4 h5 h6
    obtain ⟨o1, c1, p1, p2, p3, p4⟩ := hmu i gi ci b h1 h2 h5
    obtain ⟨o2, c2, q1, q2, q3, q4⟩ := hmu j gj cj b h3 h4 h6
    have hne : o1 ≠ o2 := by
      rintro rfl
      exact hij (hpd i j o1 p1 q1)
    exact hob.sep o1 o2 gi gj c1 c2 b hne p2 p3 q2 q3 p4 q4
  · rintro b ⟨k, gi, cs', h1, h2, h3⟩
    obtain ⟨o, cs, k1, k2, k3, k4⟩ := hmu k gi cs' b h1 h2 h3
    exact ⟨k, o, gi, cs, k1, k2, k3, k4⟩
end Go.Ae
