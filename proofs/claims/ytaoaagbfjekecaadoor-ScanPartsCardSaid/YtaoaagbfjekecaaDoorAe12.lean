/- Calls. -/
import Derived.Test.YtaoaagbfjekecaaDoorAe11
set_option linter.unusedVariables false
set_option linter.unusedSimpArgs false
namespace Go.Ae
open Go.RowKit

theorem RepT.less {w : World} {m m' : Md} (h : ∀ b, m' b → m b) : ∀ {T : Ty} {x : T.den} {vs : List Value}, RepT w m T x vs → RepT w m' T x vs := by
  intro T
  induction T with
  | int k => exact fun h => h
  | byte => exact fun h => h
  | bool => exact fun h => h
  | str => exact fun h => h
  | lst t ih =>
    rintro x vs ⟨ao, cap, rfl, h1, h2, h0, hh⟩
    refine ⟨ao, cap, rfl, h1, h2, h0, fun j y hy => ?_⟩
    obtain ⟨b, o, us, rfl, hr, hl, hb, hm, hc⟩ := hh j y hy
    exact ⟨b, o, us, rfl, ih hr, hl, hb, fun h' => hm (h b h'), hc⟩
  | pair a b iha ihb => rintro x vs ⟨v1, v2, rfl, h1, h2⟩; exact ⟨v1, v2, rfl, iha h1, ihb h2⟩
  | unit => exact fun h => h
theorem RepT.noLst {w : World} {m m' : Md} : ∀ {T : Ty} {x : T.den} {vs : List Value}, T.hasLst = false → RepT w m T x vs → RepT w m' T x vs := by
  intro T
  induction T with
  | int k => exact fun _ h => h
  | byte => exact fun _ h => h
  | bool => exact fun _ h => h
  | str => exact fun _ h => h
  | lst t ih => intro x vs h; simp [Ty.hasLst] at h
  | pair a b iha ihb =>
    rintro x vs h ⟨v1, v2, rfl, h1, h2⟩
    simp only [Ty.hasLst, Bool.or_eq_false_iff] at h
    exact ⟨v1, v2, rfl, iha h.1 h1, ihb h.2 h2⟩
  | unit => exact fun _ h => h

theorem blk_cells {gi : Value} {cs : List AV} (h : cs.all AV.cell = true) (hn : cs ≠ []) : blk gi cs = (match gi with | .pointer (some a) => some a.block | _ => none) := by
  unfold blk; split
  · simp [AV.cell] at h
  · simp [AV.cell] at h
  · exact absurd rfl hn
  · rfl
theorem blk_len {gi : Value} {cs cs' : List AV} (h : cs.all AV.cell = true) (h' : cs'.all AV.cell = true) (hl : cs'.length = cs.length) : blk gi cs' = blk gi cs := by
  by_cases hn : cs = []
  · subst hn
    have : cs' = [] := List.eq_nil_of_length_eq_zero hl
    subst this; rfl
  · have hn' : cs' ≠ [] := by rintro rfl; exact hn (List.eq_nil_of_length_eq_zero hl.symm)
    rw [blk_cells h hn, blk_cells h' hn']

theorem take_drop_len {n : Nat} {l x : List AV} (hx : x.length = l.length) : x.take (l.take n).length = x.take n ∧ x.drop (l.take n).length = x.drop n := by
  rw [List.length_take]
  rcases Nat.le_total n l.length with h | h
  · rw [Nat.min_eq_left h]; exact ⟨rfl, rfl⟩
  · rw [Nat.min_eq_right h, ← hx]
    exact ⟨by rw [List.take_length, List.take_of_length_le (by omega)], by rw [List.drop_length, List.drop_eq_nil_of_le (by omega)]⟩
theorem ren_split {w : World} {m' : Md} {g' : List Value} {n : Nat} {l l' : List AV} {v1 v2 : List Value} (hl : l'.length = l.length) (hk : RepL w m' g' l' (v1 ++ v2)) (h1 : v1.length = (l.take n).length) :
    RepL w m' g' (l'.take n) v1 ∧ RepL w m' g' (l'.drop n) v2 := by
  obtain ⟨e1, e2⟩ := take_drop_len (n := n) hl
  have t1 := hk.take (l.take n).length
  have t2 := hk.drop (l.take n).length
  rw [e1, ← h1, List.take_left] at t1
  rw [e2, ← h1, List.drop_left] at t2
  exact ⟨t1, t2⟩

/-- The same shapes and data, the objects numbered otherwise. -/
theorem em_ren {w : World} {m m' : Md} {g g' : List Value} {ρ : Nat → Nat} (hρ : ∀ (i : Nat) u, g[i]? = some u → g'[ρ i]? = some u) :
    ∀ (l : List Sh) (v : HS l), (l.any Sh.isLst = true → ∀ b, m' b → m b) →
    (∀ vs, RepL w m g (em id l v).1 vs → RepL w m' g' (em ρ l v).1 vs) ∧ (em ρ l v).1.length = (em id l v).1.length ∧ (em ρ l v).2.length = (em id l v).2.length ∧
      ∀ (j : Nat) cs', (em ρ l v).2[j]? = some cs' → ∃ cs, (em id l v).2[j]? = some cs ∧ (∀ gi, blk gi cs' = blk gi cs) ∧ ∀ gi, RepO w m g gi cs → RepO w m' g' gi cs' := by
  intro l
  induction l with
  | nil => intro v _; exact ⟨fun vs h => h, rfl, rfl, fun j cs' h => by simp [em] at h⟩
  | cons s r ih =>
    intro v hm
    have hmr : r.any Sh.isLst = true → ∀ b, m' b → m b := fun h => hm (by simp [h])
    have leaf : ∀ (v : HS r) (a b : AV), (∀ u, RepV w m g a u → RepV w m' g' b u) → (∀ vs, RepL w m g (a :: (em id r v).1) vs → RepL w m' g' (b :: (em ρ r v).1) vs) ∧ (b :: (em ρ r v).1).length = (a :: (em id r v).1).length := by
      intro v a b hab
      obtain ⟨h1, h2, _⟩ := ih v hmr
      exact ⟨fun vs ⟨u, q, e, k1, k2⟩ => ⟨u, q, e, hab u k1, h1 q k2⟩, by simp [h2]⟩
    cases s with
    | top => obtain ⟨h1, h2, h3, h4⟩ := ih v hmr; obtain ⟨k1, k2⟩ := leaf v .top .top (fun _ h => h); exact ⟨k1, k2, h3, h4⟩
    | int k => obtain ⟨h1, h2, h3, h4⟩ := ih _ hmr; obtain ⟨k1, k2⟩ := leaf _ (.int k _) (.int k _) (fun _ h => h); exact ⟨k1, k2, h3, h4⟩
    | cint k c => obtain ⟨h1, h2, h3, h4⟩ := ih v hmr; obtain ⟨k1, k2⟩ := leaf v (.int k c) (.int k c) (fun _ h => h); exact ⟨k1, k2, h3, h4⟩
    | bool => obtain ⟨h1, h2, h3, h4⟩ := ih _ hmr; obtain ⟨k1, k2⟩ := leaf _ (.bool _) (.bool _) (fun _ h => h); exact ⟨k1, k2, h3, h4⟩
    | cbool c => obtain ⟨h1, h2, h3, h4⟩ := ih v hmr; obtain ⟨k1, k2⟩ := leaf v (.bool c) (.bool c) (fun _ h => h); exact ⟨k1, k2, h3, h4⟩
    | str => obtain ⟨h1, h2, h3, h4⟩ := ih _ hmr; obtain ⟨k1, k2⟩ := leaf _ (.str _) (.str _) (fun _ h => h); exact ⟨k1, k2, h3, h4⟩
    | lst T =>
      obtain ⟨h1, h2, h3, h4⟩ := ih _ hmr
      obtain ⟨k1, k2⟩ := leaf _ (.lst T _) (.lst T _) (fun u h => RepT.less (T := .lst T) (hm (by simp [Sh.isLst])) h)
      exact ⟨k1, k2, h3, h4⟩
    | row i => obtain ⟨h1, h2, h3, h4⟩ := ih v hmr; obtain ⟨k1, k2⟩ := leaf v (.row i) (.row (ρ i)) (fun _ h => ⟨hρ _ _ h.1, h.2⟩); exact ⟨k1, k2, h3, h4⟩
    | ptr i off => obtain ⟨h1, h2, h3, h4⟩ := ih v hmr; obtain ⟨k1, k2⟩ := leaf v (.ptr i off) (.ptr (ρ i) off) (fun _ ⟨b, p, q⟩ => ⟨b, hρ _ _ p, q⟩); exact ⟨k1, k2, h3, h4⟩
    | nilp => obtain ⟨h1, h2, h3, h4⟩ := ih v hmr; obtain ⟨k1, k2⟩ := leaf v .nilp .nilp (fun _ h => h); exact ⟨k1, k2, h3, h4⟩
    | nils => obtain ⟨h1, h2, h3, h4⟩ := ih v hmr; obtain ⟨k1, k2⟩ := leaf v .nils .nils (fun _ h => h); exact ⟨k1, k2, h3, h4⟩
    | nilf => obtain ⟨h1, h2, h3, h4⟩ := ih v hmr; obtain ⟨k1, k2⟩ := leaf v .nilf .nilf (fun _ h => h); exact ⟨k1, k2, h3, h4⟩
    | nili => obtain ⟨h1, h2, h3, h4⟩ := ih v hmr; obtain ⟨k1, k2⟩ := leaf v .nili .nili (fun _ h => h); exact ⟨k1, k2, h3, h4⟩
    | agg n =>
      obtain ⟨h1, h2, h3, h4⟩ := ih v hmr
      refine ⟨?_, by simp [em, h2], h3, h4⟩
      rintro vs ⟨u, q, rfl, ⟨arr, rfl, k1⟩, k2⟩
      have hk := k1.append k2
      rw [List.take_append_drop] at hk
      obtain ⟨t1, t2⟩ := ren_split h2 (h1 _ hk) k1.length
      exact ⟨_, q, rfl, ⟨arr, rfl, t1⟩, t2⟩
    | tuple n =>
      obtain ⟨h1, h2, h3, h4⟩ := ih v hmr
      refine ⟨?_, by simp [em, h2], h3, h4⟩
      rintro vs ⟨u, q, rfl, ⟨arr, rfl, k1⟩, k2⟩
      have hk := k1.append k2
      rw [List.take_append_drop] at hk
      obtain ⟨t1, t2⟩ := ren_split h2 (h1 _ hk) k1.length
      exact ⟨_, q, rfl, ⟨arr, rfl, t1⟩, t2⟩
    | func fn nf nc =>
      obtain ⟨h1, h2, h3, h4⟩ := ih v hmr
      refine ⟨?_, by simp [em, h2], h3, h4⟩
      rintro vs ⟨u, q, rfl, ⟨fs, cs, rfl, k1, k1'⟩, k2⟩
      rw [← List.drop_drop] at k2
      have hk' := k1'.append k2
      rw [List.take_append_drop] at hk'
      have hk := k1.append hk'
      rw [List.take_append_drop] at hk
      obtain ⟨t1, t2⟩ := ren_split h2 (h1 _ hk) k1.length
      have hd : ((em ρ r v).1.drop nf).length = ((em id r v).1.drop nf).length := by simp [h2]
      obtain ⟨t3, t4⟩ := ren_split hd t2 k1'.length
      rw [List.drop_drop] at t4
      exact ⟨_, q, rfl, ⟨fs, cs, rfl, t1, t3⟩, t4⟩
    | iface t =>
      obtain ⟨h1, h2, h3, h4⟩ := ih v hmr
      refine ⟨?_, ?_, h3, h4⟩
      · intro vs hv
        simp only [em] at hv ⊢
        cases hq : (em id r v).1 with
        | nil =>
          rw [hq] at hv h2
          rw [List.eq_nil_of_length_eq_zero h2]; exact hv
        | cons a1 q1 =>
          cases hq' : (em ρ r v).1 with
          | nil => rw [hq, hq'] at h2; simp at h2
          | cons a2 q2 =>
            rw [hq] at hv h1
            rw [hq'] at h1
            obtain ⟨u, q, rfl, ⟨u', rfl, k1⟩, k2⟩ := hv
            obtain ⟨u2, q', e, k3, k4⟩ := h1 (u' :: q) ⟨u', q, rfl, k1, k2⟩
            cases e
            exact ⟨_, _, rfl, ⟨_, rfl, k3⟩, k4⟩
      · simp only [em]
        cases hq : (em id r v).1 <;> cases hq' : (em ρ r v).1 <;> rw [hq, hq'] at h2 <;> simp at h2 ⊢
        exact h2
    | obox n =>
      obtain ⟨h1, h2, h3, h4⟩ := ih v hmr
      refine ⟨fun vs h => h, rfl, by simp [em, h3], fun j cs' hj => ?_⟩
      cases j with
      | succ j => simpa [em] using h4 j cs' (by simpa [em] using hj)
      | zero =>
        simp only [em, List.getElem?_cons_zero, Option.some.injEq] at hj
        subst hj
        refine ⟨(em id r v).1, by simp [em], fun gi => blk_len (em_cell id r v) (em_cell ρ r v) h2, fun gi hro => ?_⟩
        by_cases hn : (em id r v).1 = []
        · rw [hn] at h2
          rw [List.eq_nil_of_length_eq_zero h2]; exact RepO.dead ..
        · have hbx : isBox (em id r v).1 = true := by
            have hc := em_cell id r v
            unfold isBox; split <;> simp_all [AV.cell]
          obtain ⟨b, ty, arr, p1, p2, p3⟩ := hro.box hbx
          have hr := h1 _ p3
          exact ⟨(fun e T l he => by rw [he] at hr; exact (not_rowc hr).elim), (fun T l he => by rw [he] at hr; exact (not_frow hr).elim), (fun _ => ⟨b, ty, arr, p1, p2, hr⟩), fun s p he => by rw [he] at hr; exact (not_siter hr).elim⟩
    | orow e T =>
      obtain ⟨h1, h2, h3, h4⟩ := ih (show List T.den × HS r from v).2 hmr
      refine ⟨fun vs h => h, rfl, by simp only [em, List.length_cons]; exact congrArg (· + 1) h3, fun j cs' hj => ?_⟩
      cases j with
      | succ j => simpa [em] using h4 j cs' (by simpa [em] using hj)
      | zero =>
        simp only [em, List.getElem?_cons_zero, Option.some.injEq] at hj
        subst hj
        refine ⟨[.rowc e T _], rfl, fun gi => rfl, fun gi hro => ⟨fun e' T' l' he => ?_, (fun T l he => by cases he), (fun h => by simp [isBox] at h), (fun _ _ he => by cases he)⟩⟩
        cases he
        obtain ⟨xs, p1, p2⟩ := hro.rowc _ _ _ rfl
        refine ⟨xs, p1, fun j x hj => ?_⟩
        cases hT : T.hasLst with
        | false => exact RepT.noLst hT (p2 j x hj)
        | true => exact RepT.less (hm (by simp [Sh.isLst, hT])) (p2 j x hj)
    | oiter =>
      obtain ⟨h1, h2, h3, h4⟩ := ih (show (List UInt8 × Int) × HS r from v).2 hmr
      refine ⟨fun vs h => h, rfl, by simp only [em, List.length_cons]; exact congrArg (· + 1) h3, fun j cs' hj => ?_⟩
      cases j with
      | succ j => simpa [em] using h4 j cs' (by simpa [em] using hj)
      | zero =>
        simp only [em, List.getElem?_cons_zero, Option.some.injEq] at hj
        subst hj
        refine ⟨[.siter _ _], rfl, fun gi => rfl, fun gi hro => ⟨(fun _ _ _ he => by cases he), (fun _ _ he => by cases he), (fun h => by simp [isBox] at h), fun s p he => ?_⟩⟩
        cases he
        exact hro.iter _ _ rfl
    | odead =>
      obtain ⟨h1, h2, h3, h4⟩ := ih v hmr
      refine ⟨fun vs h => h, rfl, by simp [em, h3], fun j cs' hj => ?_⟩
      cases j with
      | succ j => simpa [em] using h4 j cs' (by simpa [em] using hj)
      | zero =>
        simp only [em, List.getElem?_cons_zero, Option.some.injEq] at hj
        subst hj
        exact ⟨[], by simp [em], fun gi => rfl, fun gi _ => RepO.dead ..⟩
end Go.Ae
