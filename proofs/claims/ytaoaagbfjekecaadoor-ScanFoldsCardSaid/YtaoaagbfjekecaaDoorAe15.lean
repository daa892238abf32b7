/- The operations that make slices and structures, and stores into a slice of the store. -/
import Derived.Test.YtaoaagbfjekecaaDoorAe14
import Derived.Test.YtaoaagbfjekecaaDoorAe9
import Derived.Test.YtaoaagbfjekecaaDoorAe7
import Derived.Laws.Tables
set_option linter.unusedVariables false
set_option linter.unusedSimpArgs false
namespace Go.Ae
open Go.RowKit Go.Lib
variable {P : Program} {Γ : Tys} {o : Oper} {a : Act} {w : World} {m : Md} {g : List Value} {ob : Store} {Z : AV → List Wr → Prop}

theorem fold_put (xs : List Value) : ∀ (us : Array Value) (off k : Nat), off + k + xs.length ≤ us.size →
    ((xs.zipIdx k).foldl (fun cs (p : Value × Nat) => cs.setIfInBounds (off + p.2) p.1) us).toList = us.toList.take (off + k) ++ xs ++ us.toList.drop (off + k + xs.length) := by
  induction xs with
  | nil => intro us off k h; simp
  | cons x xs ih =>
    intro us off k h
    simp only [List.length_cons] at h
    rw [List.zipIdx_cons, List.foldl_cons, ih _ _ _ (by simp; omega)]
    have hlt : off + k < us.toList.length := by simp; omega
    apply List.ext_getElem?
    intro i
    simp only [Array.toList_setIfInBounds, List.length_cons, List.getElem?_append, List.length_append, List.length_take, List.length_set, List.getElem?_take, List.getElem?_set, List.getElem?_drop, Array.length_toList, List.getElem?_cons]
    have h1 : min (off + (k + 1)) us.size = off + k + 1 := by omega
    have h2 : min (off + k) us.size = off + k := by omega
    rw [h1, h2]
    rcases Nat.lt_trichotomy i (off + k) with hi | hi | hi
    · repeat (first | rw [if_pos (by omega)] | rw [if_neg (by omega)])
    · subst hi
      simp [show off + k < us.size by simpa using hlt]
      intro h; omega
    · by_cases h3 : i < off + k + 1 + xs.length
      · rw [if_pos (by omega), if_neg (by omega), if_pos (by omega), if_neg (by omega), if_neg (by omega)]
        congr 1
      · rw [if_neg (by omega), if_neg (by omega), if_neg (by omega)]
        congr 1; omega

def RepP (w : World) (m : Md) (g : List Value) : List (Nat × AV) → List (Nat × Value) → Prop
  | [], ps => ps = []
  | p :: as, ps => ∃ v r, ps = (p.1, v) :: r ∧ RepV w m g p.2 v ∧ RepP w m g as r
theorem fill_rep {place : Nat → Option (Nat × Nat)} : ∀ (pa : List (Nat × AV)) (pv : List (Nat × Value)) (cs : List AV) (us : Array Value) (cs' : List AV), RepP w m g pa pv → RepL w m g cs us.toList → fillF place cs pa = some cs' →
    ∃ us', Instr.fill place us pv = some us' ∧ RepL w m g cs' us'.toList
  | [], pv, cs, us, cs', hp, h, hf => by
    rw [show pv = [] from hp]
    simp only [fillF, Option.some.injEq] at hf
    subst hf
    exact ⟨us, rfl, h⟩
  | (i, av) :: pa, _, cs, us, cs', ⟨v, r, rfl, h1, h2⟩, h, hf => by
    simp only [fillF] at hf
    split at hf
    · rename_i off size hpl
      split at hf
      · rename_i hc
        obtain ⟨hc1, hc2⟩ := hc
        split at hf
        · rename_i cs1 hput
          have hcv := cells_rep h1 hc2
          obtain ⟨hfit, hrep⟩ := put_rep hput h hcv
          have hsz : v.cells.size = size := by rw [← hc1, ← hcv.length]; simp
          have hfit' : off + v.cells.size ≤ us.size := by simpa using hfit
          have hf2 := fold_put v.cells.toList us off 0 (by simpa using hfit)
          simp only [Nat.add_zero] at hf2
          simp only [Instr.fill, hpl]
          rw [if_neg (by simp [hsz]; omega)]
          refine fill_rep pa r cs1 _ cs' h2 ?_ hf
          rw [← Array.foldl_toList, Array.toList_zipIdx]
          rw [← hf2] at hrep; exact hrep
        · cases hf
      · cases hf
    · cases hf

theorem places_mapM (hΓ : GOk P Γ) : ∀ (fields : List Field) (pl : List (Nat × Nat)), placesF Γ (fields.map fun f => (f.offset, f.type)) = some pl → fields.mapM (fun f => (P.info? f.type).map fun i => (f.offset, i.size)) = some pl
  | [], pl, h => by simpa [placesF] using h
  | f :: fs, pl, h => by
    simp only [List.map_cons, placesF] at h
    split at h
    · rename_i ti l hti hl
      obtain ⟨info, z, h1, h2, _⟩ := hΓ.info hti
      have ih := places_mapM hΓ fs l hl
      cases h
      simp [List.mapM_cons, h1, h2, ih]
    · cases h

theorem op_build (hΓ : GOk P Γ) (hob : RepOb w m g ob) {t : TypeId} {ps : Array (Nat × Operand)} {ti : TI} {fs : List (Nat × TypeId)} {pl : List (Nat × Nat)} {cs : List AV} {ρ : Operand → AV} (hop : o.op = .build t ps) (ht : Γ t = some ti) (hd : ti.d = .struct fs)
    (hpl : placesF Γ fs = some pl) (hρ : ∀ x, RepV w m g (ρ x) (a.eval x)) (hf : fillF (fun i => pl[i]?) ti.zero (ps.toList.map fun p => (p.1, ρ p.2)) = some cs) (hZ : Z (.agg cs) []) : Post P o a w m g ob Z := by
  obtain ⟨info, z, h1, h2, h3, h4, h5⟩ := hΓ.info ht
  obtain ⟨fields, hu, hfs⟩ := hΓ.structT (t := t) (fs := fs) (by rw [tdOf_some ht, hd])
  have hP : ∀ l : List (Nat × Operand), RepP w m g (l.map fun p => (p.1, ρ p.2)) (l.map fun p => (p.1, a.eval p.2)) := by
    intro l; induction l with
    | nil => rfl
    | cons p l ih => exact ⟨_, _, rfl, hρ p.2, ih⟩
  obtain ⟨us, k1, k2⟩ := fill_rep _ _ _ _ _ (hP ps.toList) (h5 w m g) hf
  have hb : P.built t (ps.map fun p => (p.1, a.eval p.2)).toList = some us := by
    have := places_mapM hΓ fields.toList pl (by rw [← hpl, ← hfs])
    simp only [Program.built, h1, hu, h4, this]
    simpa using k1
  refine Post.quiet hob (v := .agg us) ?_ hZ ⟨us, rfl, k2⟩
  have := run_build w t (ps.map fun p => (p.1, a.eval p.2)) us hb
  simp [execOp, hop, this]

theorem flat_get (z : List AV) (h0 : 0 < z.length) : ∀ (n k : Nat), (List.replicate n z).flatten[k]? = if k < n * z.length then z[k % z.length]? else none
  | 0, k => by simp
  | n + 1, k => by
    rw [List.replicate_succ, List.flatten_cons, List.getElem?_append]
    split
    · rename_i h
      rw [if_pos (by rw [Nat.succ_mul]; omega), Nat.mod_eq_of_lt h]
    · rename_i h
      rw [flat_get z h0 n, Nat.succ_mul, ← Nat.mod_eq_sub_mod (by omega)]
      congr 1
      simp only [eq_iff_iff]; omega

theorem parseN_rep {T : Ty} : ∀ (n : Nat) (as : List AV) (vs : List Value) (l : List T.den), RepL w m g as vs → parseN T n as = some l → l.length = n ∧ vs.length = n * T.size ∧ RepE w m T l vs
  | 0, [], vs, l, h, hp => by
    simp only [parseN, Option.some.injEq] at hp
    subst hp
    rw [show vs = [] from h]
    exact ⟨rfl, by simp, fun j x hj => by simp at hj⟩
  | 0, _ :: _, vs, l, h, hp => by simp [parseN] at hp
  | n + 1, as, vs, l, h, hp => by
    simp only [parseN] at hp
    split at hp
    · rename_i x r hx
      split at hp
      · rename_i l' hl
        cases hp
        obtain ⟨v1, v2, rfl, h1, h2⟩ := repT_parse h hx
        obtain ⟨i1, i2, i3⟩ := parseN_rep n r v2 l' h2 hl
        refine ⟨by simp [i1], by rw [List.length_append, h1.length, i2, Nat.succ_mul]; omega, fun j y hj => ?_⟩
        cases j with
        | zero =>
          simp only [List.getElem?_cons_zero, Option.some.injEq] at hj
          subst hj
          rw [Nat.zero_mul, List.drop_zero, ← h1.length, List.take_left]; exact h1
        | succ j =>
          have := i3 j y (by simpa using hj)
          rwa [Nat.succ_mul, Nat.add_comm, ← List.drop_drop, show (v1 ++ v2).drop T.size = v2 by rw [← h1.length, List.drop_left]]
      · cases hp
    · cases hp

theorem op_buildSlice (hΓ : GOk P Γ) (hob : RepOb w m g ob) {t e : TypeId} {n : Nat} {ps : Array (Nat × Operand)} {ei : TI} {T : Ty} {cs : List AV} {l : List T.den} {ρ : Operand → AV} (hop : o.op = .buildSlice t n ps) (ht : tdOf Γ t = .slice e) (he : Γ e = some ei)
    (hsz : ei.size = T.size) (h0 : T.size ≠ 0) (hn : ¬ 65536 < n * T.size) (hz : ei.zero.length = T.size) (hρ : ∀ x, RepV w m g (ρ x) (a.eval x))
    (hf : fillF (fun i => some (i * T.size, T.size)) (List.replicate n ei.zero).flatten (ps.toList.map fun p => (p.1, ρ p.2)) = some cs) (hp : parseN T n (cs.map (view ob)) = some l)
    (hZ : Z (.row ob.length) (frees ob cs ++ [.new [.rowc e T l]])) : Post P o a w m g ob Z := by
  obtain ⟨info, z, h1, h2, h3, h4, h5⟩ := hΓ.info he
  have hu := hΓ.slice ht
  have hP : ∀ l : List (Nat × Operand), RepP w m g (l.map fun p => (p.1, ρ p.2)) (l.map fun p => (p.1, a.eval p.2)) := by
    intro l; induction l with
    | nil => rfl
    | cons p l ih => exact ⟨_, _, rfl, hρ p.2, ih⟩
  have hzc : z.cells.size = T.size := by rw [← hz, ← (h5 w m g).length]; simp
  have hstart : RepL w m g (List.replicate n ei.zero).flatten ((Array.range (n * T.size)).map fun k => z.cells[k % z.cells.size]!).toList := by
    refine RepL.of_get (by simp [hz]) fun i x v k1 k2 => ?_
    rw [flat_get _ (by omega), hz] at k1
    split at k1
    · rename_i hi
      obtain ⟨u, k3, k4⟩ := (h5 w m g).get _ _ k1
      have hm : i % T.size < z.cells.size := by rw [hzc]; exact Nat.mod_lt _ (by omega)
      simp only [Array.toList_map, List.getElem?_map, Array.toList_range, List.getElem?_range hi, Option.map_some, Option.some.injEq] at k2
      rw [hzc, getElem!_pos z.cells _ hm] at k2
      have : z.cells.toList[i % T.size]? = some z.cells[i % T.size] := by simp [hm]
      rw [k3] at this
      cases this; subst k2; exact k4
    · cases k1
  obtain ⟨us, k1, k2⟩ := fill_rep _ _ _ _ _ (hP ps.toList) hstart hf
  obtain ⟨m1, p1, p2, p3, r1, r2, r3, r4⟩ := frees_sound cs m ob hob (Fz.refl ob)
  have hsl : Stp w m w m1 := Stp.less w hob.nm p1 p2 p3
  have hv := viewL_sound r1 r2 (k2.mono hsl (fun _ _ h => h)) fun o' e' T' l' hm ho => r4 o' e' T' l' hm ho
  obtain ⟨i1, i2, i3⟩ := parseN_rep n _ _ l hv hp
  have hus : us.size = n * T.size := by simpa using i2
  have hrun : (execOp a.eval o).run P w = .ok (.value (.slice (some ⟨w.heap.size, 0, none⟩) n n)) (w.alloc (.cells us e)) := by
    have hsi : info.size = T.size := h2.trans hsz
    by_cases hn0 : n * T.size = 0
    · have hn1 : n = 0 := by rcases Nat.mul_eq_zero.1 hn0 with h | h; exact h; exact absurd h h0
      subst hn1
      rw [Nat.zero_mul, show Array.range 0 = #[] from rfl, Array.map_empty] at k1
      simp [execOp, hop, Instr.buildSlice, run_underlying hu, run_size h1, hsi, k1, newRow, show Array.range 0 = #[] from rfl, Array.map_empty]
    · have hgt : ¬ 2 ^ 24 < n * T.size := by omega
      have hgt' : ¬ 16777216 < n * T.size := by omega
      simp [execOp, hop, Instr.buildSlice, run_underlying hu, run_size h1, hsi, hn0, hgt', zeroValue, run_info h1, h4, k1, newRow]
  have hlm : n ≤ maxLen := by
    have : n ≤ n * T.size := Nat.le_mul_of_pos_right _ (by omega)
    simp only [maxLen]; omega
  obtain ⟨q1, q2, q3⟩ := r1.add (w' := w.alloc (.cells us e)) (.slice (some ⟨w.heap.size, 0, none⟩) n n) [.rowc e T l] rfl rfl rfl (by simp) (fun b hb _ => Below.heap_alloc _ _ _ hb)
    (fun b hb hlt => by simp [blk, Value.ownBlock] at hb; omega)
    (fun hs => ⟨fun e' T' l' he' => by
      cases he'
      refine ⟨us.toList, ⟨by rw [i1]; simpa using hus, .inr ⟨w.heap.size, n, us, by rw [i1], Nat.zero_le _, heap_alloc_new _ _, by rw [i1]; exact Nat.le_refl _, hlm, hus, ?_⟩⟩, i3.mono hs⟩
      rw [i1, ← hus, show us.size = us.toList.length by simp, List.take_length], (fun T' l' he => by cases he), (fun h => by simp [isBox] at h), (fun _ _ he => by cases he)⟩)
  have hlen : (wr ob (frees ob cs)).length = ob.length := r2.1
  refine Post.val (av := .row ob.length) hrun hZ ⟨?_, _, _, _, rfl⟩ (by rw [wr_append]; exact q1) q3 (hsl.trans q2)
  rw [← hob.len]; simp

theorem made_get (z : Array Value) (n k : Nat) (h0 : 0 < z.size) (hk : k < n) : (madeCells z n).toList[k]? = z.toList[k % z.size]? := by
  have hm : k % z.size < z.size := Nat.mod_lt _ h0
  simp only [madeCells, Array.toList_map, List.getElem?_map, Array.toList_range, List.getElem?_range hk, Option.map_some]
  rw [getElem!_pos z _ hm]; simp [hm]
theorem op_makeSlice (hΓ : GOk P Γ) (hob : RepOb w m g ob) {t e : TypeId} {x y : Operand} {k k' : IntKind} {n : Int} {ei : TI} {T : Ty} {z0 : T.den} {zs : List T.den} (hop : o.op = .makeSlice t x y) (ht : tdOf Γ t = .slice e) (he : Γ e = some ei)
    (hp : parseN T 1 ei.zero = some (z0 :: zs)) (hsz : ei.size = T.size) (h0 : T.size ≠ 0) (hz : ei.zero.length = T.size) (hx : RepV w m g (.int k n) (a.eval x)) (hy : RepV w m g (.int k' n) (a.eval y))
    (hn0 : 0 ≤ n) (hb : (ei.bytes : Int) * n ≤ 281474976710656) (hm : n ≤ 140737488355328) (hZ : Z (.row ob.length) [.new [.rowc e T (List.replicate n.toNat z0)]]) : Post P o a w m g ob Z := by
  obtain ⟨info, z, h1, h2, h3, h4, h5⟩ := hΓ.info he
  have hu := hΓ.slice ht
  have ex : a.eval x = .int k n := hx.1
  have ey : a.eval y = .int k' n := hy.1
  have hzc : z.cells.size = T.size := by rw [← hz, ← (h5 w m g).length]; simp
  obtain ⟨N, rfl⟩ : ∃ N : Nat, n = (N : Int) := ⟨n.toNat, by omega⟩
  have hrun : (execOp a.eval o).run P w = .ok (.value (.slice (some ⟨w.heap.size, 0, none⟩) N N)) (w.alloc (.cells (madeCells z.cells (N * T.size)) e)) := by
    have := run_make (P := P) w t e info z hu h1 h4 k k' N N (by omega) (Int.le_refl _) (by rw [h3]; exact hb) (by omega)
    simp only [Int.toNat_natCast, h2.trans hsz] at this
    simp [execOp, hop, ex, ey, this]
  obtain ⟨i1, i2, i3⟩ := parseN_rep (w := w) (m := m) (g := g) 1 _ _ _ (h5 w m g) hp
  have hz1 : RepT w m T z0 z.cells.toList := by
    have := i3 0 z0 rfl
    rw [Nat.zero_mul, List.drop_zero, List.take_of_length_le (by simp [hzc])] at this
    exact this
  have hE : RepE w m T (List.replicate N z0) (madeCells z.cells (N * T.size)).toList := by
    intro j u hj
    rw [List.getElem?_replicate] at hj
    split at hj <;> try (cases hj; done)
    rename_i hjN
    cases hj
    have hlt : (j + 1) * T.size ≤ N * T.size := Nat.mul_le_mul_right _ hjN
    rw [Nat.succ_mul] at hlt
    have : ((madeCells z.cells (N * T.size)).toList.drop (j * T.size)).take T.size = z.cells.toList := by
      apply List.ext_getElem?; intro i
      rw [List.getElem?_take]
      split
      · rename_i hi
        rw [List.getElem?_drop, made_get _ _ _ (by omega) (by omega), hzc, Nat.mul_comm j, Nat.mul_add_mod, Nat.mod_eq_of_lt hi]
      · rw [List.getElem?_eq_none (by simp [hzc]; omega)]
    rw [this]; exact hz1
  have hlm : N ≤ maxLen := by simp only [maxLen]; omega
  obtain ⟨q1, q2, q3⟩ := hob.add (w' := w.alloc (.cells (madeCells z.cells (N * T.size)) e)) (.slice (some ⟨w.heap.size, 0, none⟩) N N) [.rowc e T (List.replicate N z0)] rfl rfl rfl (by simp) (fun b hb _ => Below.heap_alloc _ _ _ hb)
    (fun b hb hlt => by simp [blk, Value.ownBlock] at hb; omega)
    (fun hs => ⟨fun e' T' l' he' => by
      cases he'
      refine ⟨(madeCells z.cells (N * T.size)).toList, ⟨by simp [size_madeCells], .inr ⟨w.heap.size, N, _, by simp, Nat.zero_le _, heap_alloc_new _ _, by simp, hlm, by simp [size_madeCells], ?_⟩⟩, hE.mono hs⟩
      rw [List.length_replicate, List.take_of_length_le (by simp [size_madeCells])], (fun T' l' he => by cases he), (fun h => by simp [isBox] at h), (fun _ _ he => by cases he)⟩)
  rw [Int.toNat_natCast] at hZ
  refine Post.val (av := .row ob.length) hrun hZ ⟨?_, _, _, _, rfl⟩ q1 q3 q2
  rw [← hob.len]; simp

theorem op_max (hob : RepOb w m g ob) {x y : Operand} {k : IntKind} {p q : Int} {c : Call} (hop : o.op = .call c) (hc : c.callee = .builtin .max) (ha : c.args.toList = [x, y]) (h1 : RepV w m g (.int k p) (a.eval x)) (h2 : RepV w m g (.int k q) (a.eval y))
    (hZ : Z (.int k (if q > p then q else p)) []) : Post P o a w m g ob Z := by
  have hargs : (c.args.map a.eval).toList = [.int k p, .int k q] := by rw [Array.toList_map, ha]; simp [h1.1, h2.1]
  refine Post.quiet hob (v := .int k (if q > p then q else p)) ?_ hZ ⟨rfl, by split; exact h2.2; exact h1.2⟩
  rw [Array.toList_map] at hargs
  simp [execOp, hop, hc, resolve, invoke, builtin, Builtin.max_, hargs, Builtin.max2]
theorem op_min (hob : RepOb w m g ob) {x y : Operand} {k : IntKind} {p q : Int} {c : Call} (hop : o.op = .call c) (hc : c.callee = .builtin .min) (ha : c.args.toList = [x, y]) (h1 : RepV w m g (.int k p) (a.eval x)) (h2 : RepV w m g (.int k q) (a.eval y))
    (hZ : Z (.int k (if q < p then q else p)) []) : Post P o a w m g ob Z := by
  have hargs : (c.args.map a.eval).toList = [.int k p, .int k q] := by rw [Array.toList_map, ha]; simp [h1.1, h2.1]
  refine Post.quiet hob (v := .int k (if q < p then q else p)) ?_ hZ ⟨rfl, by split; exact h2.2; exact h1.2⟩
  rw [Array.toList_map] at hargs
  simp [execOp, hop, hc, resolve, invoke, builtin, Builtin.min_, hargs, Builtin.min2]
end Go.Ae
