/- Append. -/
import Derived.Test.YtaoaagbfjekecaaDoorAe8
set_option linter.unusedVariables false
set_option linter.unusedSimpArgs false
namespace Go.Ae
open Go.RowKit Go.Lib
variable {P : Program} {Γ : Tys} {o : Oper} {a : Act} {w : World} {m : Md} {g : List Value} {ob : Store} {Z : AV → List Wr → Prop}

theorem leaves_leaf : ∀ (T : Ty) (x : T.den), (T.leaves x).all AV.leaf = true
  | .int _, _ => rfl | .byte, _ => rfl | .bool, _ => rfl | .str, _ => rfl | .lst _, _ => rfl | .unit, _ => rfl
  | .pair a b, x => by simp only [Ty.leaves, List.all_append, Bool.and_eq_true]; exact ⟨leaves_leaf a _, leaves_leaf b _⟩
theorem repT_one {T : Ty} {x : T.den} {us : List Value} (h : RepT w m T x us) : ∀ u ∈ us, u.oneCell' = true := leafL_one (repT_leaves (g := []) h) (leaves_leaf T x)

theorem flat_aux {T : Ty} {b q : Nat} : ∀ (l : List T.den) (k : Nat), (∀ (j : Nat) x, l[j]? = some x → ∃ us, RepT w m T x us ∧ us.length = T.size ∧ ∀ (i : Nat) u, us[i]? = some u → w.cell? ⟨b, q + (k + j) * T.size + i, none⟩ = some u) →
    ∃ xs, xs.length = l.length * T.size ∧ RepE w m T l xs ∧ (∀ (i : Nat) u, xs[i]? = some u → w.cell? ⟨b, q + k * T.size + i, none⟩ = some u) ∧ ∀ u ∈ xs, u.oneCell' = true
  | [], k, _ => ⟨[], by simp, fun j x h => by simp at h, fun i u h => by simp at h, fun u h => by cases h⟩
  | x :: l, k, h => by
    obtain ⟨us, h1, h2, h3⟩ := h 0 x rfl
    obtain ⟨xs, h4, h5, h6, h7⟩ := flat_aux l (k + 1) fun j y hj => by
      obtain ⟨us, k1, k2, k3⟩ := h (j + 1) y (by simpa using hj)
      exact ⟨us, k1, k2, fun i u hu => by have := k3 i u hu; rwa [show k + (j + 1) = k + 1 + j by omega] at this⟩
    refine ⟨us ++ xs, by simp [h2, h4, Nat.add_mul]; omega, fun j y hj => ?_, fun i u hu => ?_, fun u hu => ?_⟩
    · cases j with
      | zero =>
        simp at hj; subst hj
        simp only [Nat.zero_mul, List.drop_zero]
        rw [← h2, List.take_left]; exact h1
      | succ j =>
        have := h5 j y (by simpa using hj)
        rw [show (j + 1) * T.size = us.length + j * T.size by rw [h2, Nat.add_mul]; omega, ← List.drop_drop, List.drop_left]
        exact this
    · rcases Nat.lt_or_ge i us.length with hi | hi
      · rw [List.getElem?_append_left hi] at hu
        simpa using h3 i u hu
      · rw [List.getElem?_append_right hi] at hu
        have := h6 _ u hu
        rw [h2] at this hi
        rwa [show q + (k + 1) * T.size + (i - T.size) = q + k * T.size + i by rw [Nat.add_mul]; omega] at this
    · rcases List.mem_append.1 hu with hu | hu
      · exact repT_one h1 u hu
      · exact h7 u hu

theorem RepE.append {T : Ty} {l l' : List T.den} {xs ys : List Value} (h : RepE w m T l xs) (h' : RepE w m T l' ys) (hl : xs.length = l.length * T.size) : RepE w m T (l ++ l') (xs ++ ys) := by
  intro j x hj
  rcases Nat.lt_or_ge j l.length with hlt | hge
  · rw [List.getElem?_append_left hlt] at hj
    have h1 : (j + 1) * T.size ≤ l.length * T.size := Nat.mul_le_mul_right _ hlt
    rw [Nat.add_mul, Nat.one_mul] at h1
    rw [List.drop_append_of_le_length (by omega), List.take_append_of_le_length (by rw [List.length_drop]; omega)]
    exact h j x hj
  · rw [List.getElem?_append_right hge] at hj
    have := h' _ x hj
    rw [show j * T.size = xs.length + (j - l.length) * T.size by rw [hl, ← Nat.add_mul]; congr 1; omega, ← List.drop_drop, List.drop_left]
    exact this

theorem byte_zero (hΓ : GOk P Γ) {e : TypeId} {ei : TI} (he : Γ e = some ei) (hz : ei.zero = [.int .u8 0]) (hs : ei.size = 1) (hb : ei.bytes = 1) (hd : ei.d = .int .u8) :
    ∃ info, P.info? e = some info ∧ info.zero = some (.int .u8 0) ∧ info.size = 1 ∧ info.bytes = 1 := by
  obtain ⟨info, desc, z, h1, h2, h3, h4, h5, h6, h7, h8⟩ := (hΓ e ei he).i
  refine ⟨info, h1, ?_, by rw [h3, hs], by rw [h4, hb]⟩
  have h9 := h7 default ⟨fun _ => True, fun _ => True⟩ []
  rw [hz] at h9
  obtain ⟨v, r, k1, k2, k3⟩ := h9
  have k3' : r = [] := k3
  subst k3'
  have hna := h8 (by simp [TI.isAgg, hd])
  have hv : z.cells.toList = [.int .u8 0] := by rw [k1, k2.1]
  cases z <;> simp [Value.cells] at hv <;> first | exact absurd rfl (hna _) | (rw [h5]; simp_all)

theorem lim_bytes {n k b : Nat} (h : n ≤ k / b) : n * b ≤ k := by
  rcases Nat.eq_zero_or_pos b with rfl | hb
  · simp
  · exact (Nat.le_div_iff_mul_le hb).1 h
theorem lim_len {n b : Nat} (h : n ≤ 140737488355328 / b) : n ≤ 140737488355328 := Nat.le_trans h (Nat.div_le_self _ _)
theorem zero_size (hΓ : GOk P Γ) {e : TypeId} {ei : TI} (he : Γ e = some ei) : ∃ info z, P.info? e = some info ∧ info.size = ei.size ∧ info.bytes = ei.bytes ∧ info.zero = some z ∧ z.cells.size = ei.zero.length := by
  obtain ⟨info, z, i1, i2, i3, i4, i5⟩ := hΓ.info he
  exact ⟨info, z, i1, i2, i3, i4, by rw [← (i5 default ⟨fun _ => True, fun _ => True⟩ []).length]; simp⟩

/-- What append comes to, the block of its result told. -/
theorem run_append_slice (hΓ : GOk P Γ) {t e ty : TypeId} {ei : TI} {T : Ty} {v vx : Value} {n : Nat} {xs : List Value} {mm : List T.den} (ht : tdOf Γ t = .slice e) (he : Γ e = some ei) (hsz : ei.size = T.size) (h0 : 0 < T.size) (hz0 : ei.zero.length = T.size)
    (hown : w.ownsRow 0 e T.size v n xs) (hsrc : RepT w m (.lst T) mm [vx]) (hlim : n + mm.length ≤ 140737488355328 / ei.bytes) :
    ∃ v' w' news, (Builtin.append_ #[t, t] ty #[v, vx]).run P w = .ok v' w' ∧ w'.ownsRow 0 e T.size v' (n + mm.length) (xs ++ news) ∧ news.length = mm.length * T.size ∧ RepE w m T mm news ∧ w.grownBy w' v.ownBlock ∧
      ∀ b, v'.ownBlock = some b → v.ownBlock = some b ∨ b = w.heap.size := by
  obtain ⟨info, z, i1, i2, i3, i4, i5⟩ := zero_size hΓ he
  have hbytes : (n + mm.length) * info.bytes ≤ 140737488355328 := by rw [i3]; exact lim_bytes hlim
  have hll := lim_len hlim
  have hu := hΓ.slice ht
  have hsi : info.size = T.size := i2.trans hsz
  obtain ⟨ao, cap, hv, k1, k2, k3, k4⟩ := hsrc
  have hv' : vx = .slice ao mm.length cap := (List.cons.inj hv).1
  subst hv'
  -- the source's cells, at some address
  have src : (ao = none ∧ mm = [] ∧ cap = 0) ∨ ∃ ad news, ao = some ad ∧ news.length = mm.length * T.size ∧ RepE w m T mm news ∧ (∀ (j : Nat) u, news[j]? = some u → w.cell? (ad.add j) = some u) ∧ ∀ u ∈ news, u.oneCell' = true := by
    cases ao with
    | none =>
      have hc := k3 rfl
      exact .inl ⟨rfl, List.eq_nil_of_length_eq_zero (by have : mm.length ≤ cap := k1; omega), hc⟩
    | some ad =>
      right
      cases hmm : mm with
      | nil => exact ⟨ad, [], rfl, by simp, fun j x h => by simp at h, fun j u h => by simp at h, fun u h => by cases h⟩
      | cons x l =>
        obtain ⟨b, q, us, e1, _⟩ := k4 0 x (by rw [hmm]; rfl)
        cases e1
        obtain ⟨news, f1, f2, f3, f4⟩ := flat_aux (m := m) (w := w) (b := b) (q := q) mm 0 fun j y hj => by
          obtain ⟨b', q', us, e1, e2, e3, _, _, e4⟩ := k4 j y hj
          cases e1
          exact ⟨us, e2, e3, fun i u hu => by simpa using e4 i u hu⟩
        rw [← hmm]
        exact ⟨_, news, rfl, f1, f2, fun j u hu => by rw [lit_add]; simpa using f3 j u hu, f4⟩
  rcases src with ⟨rfl, rfl, rfl⟩ | ⟨ad, news, rfl, f1, f2, f3, f4⟩
  · have := run_append_owned_none (P := P) (w := w) 0 t ty e info T.size hu i1 v n xs hown
    exact ⟨v, w, [], this, by simpa using hown, by simp, fun j x h => by simp at h, ⟨rfl, rfl, rfl, Nat.le_refl _, fun _ _ _ => rfl⟩, fun b hb => .inl hb⟩
  · obtain ⟨v', w', hr, r1, r2, r3⟩ := run_append_own (P := P) w 0 t ty e info z T.size info.bytes hu i1 i4 hsi rfl (by rw [i5, hz0]) h0 v n xs hown ad mm.length cap news f1 f3 f4 (by simp only [maxLen]; omega) hbytes (Nat.zero_le _)
    refine ⟨v', w', news, hr, r1, f1, f2, r2, fun b hb => ?_⟩
    rcases hown.2 with ⟨rfl, rfl⟩ | ⟨gb, cp, cur, rfl, _, g1, g2, g3, g4, g5⟩
    · rcases Nat.eq_zero_or_pos mm.length with hm | hm
      · have := (r3.2 ⟨rfl, hm⟩)
        rw [this] at hb; simp [Value.ownBlock] at hb
      · have h2 := run_append_nil (P := P) w t ty e info z hu i1 i4 ad mm.length cap news (by rw [hsi]; exact f1) f3 hm (by omega) (by simp only [Nat.zero_add] at hbytes; omega)
        rw [hr] at h2
        cases h2
        right; simpa [Value.ownBlock] using hb.symm
    · by_cases hroom : n + mm.length ≤ cp
      · have h2 := run_append_room (P := P) w t ty e info hu i1 gb n cp cur g1 ad mm.length cap news (by rw [hsi]; exact f1) f3 f4 hroom (by rw [f1, hsi, g4, ← Nat.add_mul]; exact Nat.mul_le_mul_right _ hroom)
        rw [hr] at h2
        cases h2
        exact .inl hb
      · have holds : ∀ (j : Nat) u, xs[j]? = some u → w.cell? ((⟨gb, 0, none⟩ : Addr).add j) = some u := hown.cells (g := gb) rfl
        have h2 := run_append_grow (P := P) w t ty e info z hu i1 i4 ⟨gb, 0, none⟩ n cp xs (by rw [hsi]; exact hown.1) holds ad mm.length cap news (by rw [hsi]; exact f1) f3 (by omega) (by omega) (growslice_fits (by omega) hbytes)
        rw [hr] at h2
        cases h2
        right; simpa [Value.ownBlock] using hb.symm

theorem strCells_rep (c : List UInt8) : RepE w m .byte c (strCells ⟨⟨c⟩⟩) := by
  intro j x hj
  show _ = _
  have hj' : c[j]? = some x := hj
  have hlt : j < c.length := (List.getElem?_eq_some_iff.1 hj').1
  simp only [strCells, Ty.size, Nat.mul_one]
  have hx : c[j] = x := (List.getElem?_eq_some_iff.1 hj').2
  rw [List.drop_eq_getElem_cons (by simpa using hlt)]
  simp [hx]

theorem run_append_str (hΓ : GOk P Γ) {t u e ty : TypeId} {ei : TI} {v : Value} {n : Nat} {xs : List Value} {c : List UInt8} (ht : tdOf Γ t = .slice e) (hus : tdOf Γ u = .str) (he : Γ e = some ei) (hd : ei.d = .int .u8) (hz : ei.zero = [.int .u8 0]) (hs : ei.size = 1) (hb1 : ei.bytes = 1)
    (hown : w.ownsRow 0 e 1 v n xs) (hlim : n + c.length ≤ 140737488355328 / ei.bytes) :
    ∃ v' w', (Builtin.append_ #[t, u] ty #[v, .string ⟨⟨c⟩⟩]).run P w = .ok v' w' ∧ w'.ownsRow 0 e 1 v' (n + c.length) (xs ++ strCells ⟨⟨c⟩⟩) ∧ w.grownBy w' v.ownBlock ∧
      ∀ b, v'.ownBlock = some b → v.ownBlock = some b ∨ b = w.heap.size := by
  obtain ⟨info, i1, i2, i3, i4⟩ := byte_zero hΓ he hz hs hb1 hd
  have hll := lim_len hlim
  have hu := hΓ.slice ht
  have hsz : (⟨⟨c⟩⟩ : ByteArray).size = c.length := rfl
  obtain ⟨v', w', hr, r1, r2, r3⟩ := run_append_own_string (P := P) (w := w) 0 t u ty e info hu (hΓ.strT hus) i1 i2 i3 i4 v n xs hown ⟨⟨c⟩⟩ (by rw [hsz]; simp only [maxLen]; omega) (by rw [hsz]; omega) (Nat.zero_le _)
  rw [hsz] at r1 r3
  refine ⟨v', w', hr, r1, r2, fun b hb => ?_⟩
  rcases hown.2 with ⟨rfl, rfl⟩ | ⟨gb, cp, cur, rfl, _, g1, g2, g3, g4, g5⟩
  · rcases Nat.eq_zero_or_pos c.length with hm | hm
    · have := (r3.2 ⟨rfl, hm⟩)
      rw [this] at hb; simp [Value.ownBlock] at hb
    · have h2 := run_append_nil_string (P := P) w t u ty e info _ hu (hΓ.strT hus) i1 i2 ⟨⟨c⟩⟩ (by rw [hsz]; omega) (by rw [hsz]; omega) (by rw [hsz, i4]; omega)
      rw [hr] at h2
      cases h2
      right; simpa [Value.ownBlock] using hb.symm
  · by_cases hroom : n + c.length ≤ cp
    · have h2 := run_append_room_string (P := P) (w := w) t u ty e info hu (hΓ.strT hus) i1 i3 gb n cp cur g1 ⟨⟨c⟩⟩ (by rw [hsz]; exact hroom) (by rw [hsz, g4]; omega)
      rw [hr] at h2
      cases h2
      exact .inl hb
    · have holds : ∀ (j : Nat) u, xs[j]? = some u → w.cell? ((⟨gb, 0, none⟩ : Addr).add j) = some u := hown.cells (g := gb) rfl
      have h2 := run_append_grow_string (P := P) (w := w) t u ty e info _ hu (hΓ.strT hus) i1 i2 ⟨gb, 0, none⟩ n cp xs (by rw [i3]; exact hown.1) holds ⟨⟨c⟩⟩ (by rw [hsz]; omega) (by rw [hsz]; omega) (growslice_fits (by rw [hsz]; omega) (by rw [hsz, i4]; omega))
      rw [hr] at h2
      cases h2
      right; simpa [Value.ownBlock] using hb.symm

/-- The store behind an append. -/
theorem append_store {w' : World} (hob : RepOb w m g ob) {e : TypeId} {T : Ty} {v v' : Value} {l mm : List T.den} {xs news : List Value} (hE : RepE w m T l xs) (hE' : RepE w m T mm news) (hown : w.ownsRow 0 e T.size v l.length xs)
    (hown' : w'.ownsRow 0 e T.size v' (l.length + mm.length) (xs ++ news)) (hg : w.grownBy w' v.ownBlock) (hb : ∀ b, v'.ownBlock = some b → v.ownBlock = some b ∨ b = w.heap.size) {kill : List Wr}
    (hk : (kill = [] ∧ v.ownBlock = none) ∨ ∃ q, kill = [.obj q []] ∧ g[q]? = some v ∧ ob[q]? = some [.rowc e T l]) :
    ∃ m', RepOb w' m' (g ++ [v']) (wr ob (kill ++ [.new [.rowc e T (l ++ mm)]])) ∧ Stp w m w' m' ∧ (∀ (o : Nat) u, g[o]? = some u → (g ++ [v'])[o]? = some u) ∧ (wr ob (kill ++ [.new [.rowc e T (l ++ mm)]])).length = ob.length + 1 := by
  have h1 : RepOb w m g (wr ob kill) := by
    rcases hk with ⟨rfl, _⟩ | ⟨q, rfl, _⟩
    · exact hob
    · exact hob.kill q
  have hlen : (wr ob kill).length = ob.length := by rcases hk with ⟨rfl, _⟩ | ⟨q, rfl, _⟩ <;> simp [wr]
  have hno : ∀ b, v.ownBlock = some b → m.n b ∧ ¬ Mu g (wr ob kill) b := by
    intro b hvb
    rcases hk with ⟨_, hn⟩ | ⟨q, rfl, hq, ho⟩
    · rw [hn] at hvb; cases hvb
    · refine ⟨hob.sub b ⟨q, v, _, hq, ho, hvb⟩, ?_⟩
      rintro ⟨i, gi, cs, k1, k2, k3⟩
      simp only [wr] at k2
      rcases set_get k2 with ⟨rfl, rfl, _⟩ | ⟨hne, h4⟩
      · simp [blk] at k3
      · exact hob.sep q i v gi _ cs b (Ne.symm hne) hq ho k1 h4 hvb k3
  have hblk : ∀ b, blk v' [.rowc e T (l ++ mm)] = some b → v'.ownBlock = some b := fun b h => h
  obtain ⟨r1, r2, r3⟩ := h1.add (w' := w') v' [.rowc e T (l ++ mm)] hg.os hg.tape hg.output hg.size
    (fun b hlt hmm => hg.block b hlt fun e1 => by
      obtain ⟨n1, n2⟩ := hno b e1.symm
      rcases hmm with h | h
      · exact h n1
      · exact n2 h)
    (fun b hbb hlt => by
      rcases hb b (hblk b hbb) with h | h
      · exact hno b h
      · omega)
    (fun hs => ⟨fun e' T' l' he => by
      cases he
      exact ⟨xs ++ news, by rw [List.length_append]; exact hown', (hE.append hE' hown.1).mono hs⟩, (fun T' l' he => by cases he), (fun h => by simp [isBox] at h), (fun _ _ he => by cases he)⟩)
  exact ⟨_, by rw [wr_append]; simpa [wr] using r1, r2, r3, by rw [wr_append]; simp [wr, hlen]⟩
end Go.Ae
