/- Operations that read and write memory. -/
import Derived.Test.YtaoaagbfjekecaaDoorAe4
set_option linter.unusedVariables false
set_option linter.unusedSimpArgs false
namespace Go.Ae
open Go.RowKit
variable {P : Program} {Γ : Tys} {o : Oper} {a : Act} {w : World} {m : Md} {g : List Value} {ob : Store} {Z : AV → List Wr → Prop}

theorem lit_add (b x i : Nat) : (⟨b, x, none⟩ : Addr).add i = ⟨b, x + i, none⟩ := by
  unfold Addr.add; split <;> simp_all

theorem part_some {ti : TI} {cs : List AV} {off : Nat} {v : AV} (h : part ti cs off = some v) :
    ((cs.drop off).take ti.size).length = ti.size ∧ ((ti.isAgg = true ∧ v = .agg ((cs.drop off).take ti.size)) ∨ (ti.isAgg = false ∧ (cs.drop off).take ti.size = [v])) := by
  unfold part at h
  simp only at h
  split at h
  · rename_i hl
    refine ⟨hl, ?_⟩
    split at h
    · rename_i hi; exact .inl ⟨hi, by simpa using h.symm⟩
    · rename_i hi
      split at h
      · rename_i x hx; cases h; exact .inr ⟨by simpa using hi, hx⟩
      · cases h
  · cases h

/-- A variable is read. -/
theorem run_loadPart (hΓ : GOk P Γ) {t : TypeId} {ti : TI} (ht : Γ t = some ti) {cs : List AV} {off : Nat} {v : AV} (hp : part ti cs off = some v) {b x : Nat} {vs : List Value}
    (hr : RepL w m g cs vs) (hc : ∀ (i : Nat) u, vs[i]? = some u → w.cell? ⟨b, x + i, none⟩ = some u) :
    ∃ u, (loadVar t ⟨b, x + off, none⟩).run P w = .ok u w ∧ RepV w m g v u := by
  obtain ⟨hl, hv⟩ := part_some hp
  have hr2 := (hr.drop off).take ti.size
  have hl2 : ((vs.drop off).take ti.size).length = ti.size := by rw [hr2.length, hl]
  obtain ⟨info, z, h1, h2, _⟩ := hΓ.info ht
  have hcell : ∀ (j : Nat) u, ((vs.drop off).take ti.size)[j]? = some u → w.cell? ((⟨b, x + off, none⟩ : Addr).add j) = some u := by
    intro j u hu
    rw [List.getElem?_take] at hu
    split at hu
    · rw [List.getElem?_drop] at hu
      rw [lit_add, Nat.add_assoc]; exact hc _ u hu
    · cases hu
  rcases hv with ⟨hi, rfl⟩ | ⟨hi, hs⟩
  · refine ⟨.agg ((vs.drop off).take ti.size).toArray, ?_, _, rfl, by simpa using hr2⟩
    have hld := run_loadCells_list (P := P) w ⟨b, x + off, none⟩ _ hcell
    rw [hl2] at hld
    unfold loadVar
    simp only [Sem.run_bind, run_isAgg hΓ ht, Result.andThen_ok, hi, if_true, run_size h1, h2, hld, Sem.run_pure, Sem.run_map]
  · rw [hs] at hr2
    obtain ⟨u, r, h3, h4, h5⟩ := hr2
    have hr0 : r = [] := h5
    subst hr0
    refine ⟨u, ?_, h4⟩
    have hz : (⟨b, x + off, none⟩ : Addr).add 0 = ⟨b, x + off, none⟩ := by simp [Addr.add]
    have := hcell 0 u (by rw [h3]; rfl)
    rw [hz] at this
    unfold loadVar
    simp only [Sem.run_bind, run_isAgg hΓ ht, Result.andThen_ok, hi, Bool.false_eq_true, if_false, run_load, this]

theorem box_of_ptr (hob : RepOb w m g ob) {i off b : Nat} {cs : List AV} (hg : g[i]? = some (.pointer (some ⟨b, 0, none⟩))) (ho : ob[i]? = some cs) (hsi : ∀ s p, cs = [.siter s p] → False) :
    cs = [] ∨ ∃ ty arr, w.heap[b]? = some (.cells arr ty (0, 0)) ∧ RepL w m g cs arr.toList ∧ isBox cs = true := by
  have h := hob.obj i _ cs hg ho
  by_cases hx : isBox cs = true
  · obtain ⟨b', ty, arr, h1, h2, h3⟩ := h.box hx
    simp only [Value.pointer.injEq, Option.some.injEq, Addr.mk.injEq, and_true] at h1
    subst h1
    exact .inr ⟨ty, arr, h2, h3, hx⟩
  · refine .inl ?_
    unfold isBox at hx
    split at hx
    · obtain ⟨xs, h1, _⟩ := h.rowc _ _ _ rfl
      obtain ⟨ao, cap, he, _⟩ := own_cells h1
      cases he
    · obtain ⟨ao, cap, he, _⟩ := h.frow _ _ rfl
      cases he
    · exact (hsi _ _ rfl).elim
    · rfl
    · exact absurd rfl hx

theorem op_load_ptr (hΓ : GOk P Γ) (hob : RepOb w m g ob) {t : TypeId} {ti : TI} {x : Operand} {i off : Nat} {cs : List AV} {v : AV} (hop : o.op = .load t x) (ht : Γ t = some ti) (h : RepV w m g (.ptr i off) (a.eval x)) (ho : ob[i]? = some cs) (hsi : ∀ s p, cs = [.siter s p] → False)
    (hp : part ti cs off = some v) (hZ : Z v []) : Post P o a w m g ob Z := by
  obtain ⟨b, h1, h2⟩ := h
  have key : ∃ u, (loadVar t ⟨b, off, none⟩).run P w = .ok u w ∧ RepV w m g v u := by
    rcases box_of_ptr (off := off) hob h1 ho hsi with rfl | ⟨ty, arr, k1, k2, _⟩
    · have := run_loadPart (w := w) (m := m) (g := g) hΓ ht hp (b := b) (x := 0) (vs := []) rfl (fun i u hu => by simp at hu)
      simpa using this
    · have := run_loadPart hΓ ht hp (b := b) (x := 0) k2 (fun i u hu => by rw [Nat.zero_add, cell_of_row w b i arr ty (0, 0) k1]; simpa using hu)
      simpa using this
  obtain ⟨u, h3, h4⟩ := key
  exact Post.quiet hob (v := u) (by simp [execOp, hop, h2, Instr.loadAt, Instr.sureAddr, h3]) hZ h4
theorem op_load_elt (hΓ : GOk P Γ) (hob : RepOb w m g ob) {t : TypeId} {ti : TI} {x : Operand} {T : Ty} {y : T.den} {off : Nat} {v : AV} (hop : o.op = .load t x) (ht : Γ t = some ti) (h : RepV w m g (.elt T y off) (a.eval x))
    (hp : part ti (T.leaves y) off = some v) (hZ : Z v []) : Post P o a w m g ob Z := by
  obtain ⟨b, q, us, h1, h2, h3, h4, h5⟩ := h
  obtain ⟨u, h6, h7⟩ := run_loadPart hΓ ht hp (b := b) (x := q) (repT_leaves (g := g) h2) h5
  exact Post.quiet hob (v := u) (by simp [execOp, hop, h1, Instr.loadAt, Instr.sureAddr, h6]) hZ h7

/-- An element of a row, where it lies. -/
theorem row_elem (hob : RepOb w m g ob) {i j n b c : Nat} {e : TypeId} {T : Ty} {l : List T.den} (hg : g[i]? = some (.slice (some ⟨b, 0, none⟩) n c)) (ho : ob[i]? = some [.rowc e T l]) (hj : j < n) :
    ∃ xs cur, n = l.length ∧ w.heap[b]? = some (.cells cur e (0, 0)) ∧ cur.size = c * T.size ∧ n ≤ c ∧ c ≤ maxLen ∧ cur.toList.take (n * T.size) = xs ∧ xs.length = n * T.size ∧ RepE w m T l xs ∧
      RepT w m T (l.getD j T.dflt) ((xs.drop (j * T.size)).take T.size) ∧ ∀ (k : Nat) u, ((xs.drop (j * T.size)).take T.size)[k]? = some u → w.cell? ⟨b, j * T.size + k, none⟩ = some u := by
  obtain ⟨xs, h1, h2⟩ := (hob.obj i _ _ hg ho).rowc e T l rfl
  have h1' := h1
  rcases h1'.2 with ⟨he, _⟩ | ⟨g', cap, cur, he, _, k2, k3, k4, k5, k6⟩
  · cases he
  · cases he
    have hgd : l[j]? = some (l.getD j T.dflt) := by rw [List.getD_eq_getElem?_getD, List.getElem?_eq_getElem hj]; rfl
    refine ⟨xs, cur, rfl, k2, k5, k3, k4, k6, h1.1, h2, h2 j _ hgd, fun k u hu => ?_⟩
    rw [List.getElem?_take] at hu
    split at hu
    · rw [List.getElem?_drop] at hu
      obtain ⟨ao, cap', he', _, _, _, _, h8⟩ := own_cells h1
      cases he'
      exact (h8 _ rfl).2.2 _ u hu
    · cases hu

theorem op_load_rel (hΓ : GOk P Γ) (hob : RepOb w m g ob) {t : TypeId} {ti : TI} {x : Operand} {i j off : Nat} {e : TypeId} {T : Ty} {l : List T.den} {v : AV} (hop : o.op = .load t x) (ht : Γ t = some ti)
    (h : RepV w m g (.rel i T.size j off) (a.eval x)) (ho : ob[i]? = some [.rowc e T l]) (hp : part ti (T.leaves (l.getD j T.dflt)) off = some v) (hZ : Z v []) : Post P o a w m g ob Z := by
  obtain ⟨b, n, c, h1, h2, h3⟩ := h
  obtain ⟨xs, cur, _, _, _, _, _, _, _, _, h5, h6⟩ := row_elem hob h1 ho h2
  obtain ⟨u, h7, h8⟩ := run_loadPart hΓ ht hp (b := b) (x := j * T.size) (repT_leaves (g := g) h5) h6
  exact Post.quiet hob (v := u) (by simp [execOp, hop, h3, Instr.loadAt, Instr.sureAddr, h7]) hZ h8

theorem put_some {cs vs r : List AV} {off : Nat} (h : put cs off vs = some r) : off + vs.length ≤ cs.length ∧ r = cs.take off ++ vs ++ cs.drop (off + vs.length) := by
  unfold put at h
  split at h
  · rename_i hl; exact ⟨hl, by simpa using h.symm⟩
  · cases h
theorem put_rep {cs vs r : List AV} {us xs : List Value} {off : Nat} (h : put cs off vs = some r) (h1 : RepL w m g cs us) (h2 : RepL w m g vs xs) :
    off + xs.length ≤ us.length ∧ RepL w m g r (us.take off ++ xs ++ us.drop (off + xs.length)) := by
  obtain ⟨hl, rfl⟩ := put_some h
  rw [← h1.length, ← h2.length] at hl
  refine ⟨hl, ?_⟩
  rw [← h2.length]
  exact ((h1.take off).append h2).append (h1.drop _)

theorem op_store_ptr (hΓ : GOk P Γ) (hob : RepOb w m g ob) {t : TypeId} {ti : TI} {x y : Operand} {i off : Nat} {cs cs' : List AV} {v : AV} (hop : o.op = .store t x y) (ht : Γ t = some ti) (h : RepV w m g (.ptr i off) (a.eval x)) (ho : ob[i]? = some cs) (hsi : ∀ s p, cs = [.siter s p] → False)
    (hv : RepV w m g v (a.eval y)) (hl : v.cells.length = ti.size) (hlf : v.cells.all AV.leaf = true) (hp : put cs off v.cells = some cs') (hZ : Z (.tuple []) [.obj i cs']) : Post P o a w m g ob Z := by
  obtain ⟨b, h1, h2⟩ := h
  obtain ⟨info, z, k1, k2, _⟩ := hΓ.info ht
  have hc := cells_rep hv hlf
  have hcs : (a.eval y).cells.size = info.size := by rw [k2, ← hl, ← hc.length]; simp
  rcases box_of_ptr (off := off) hob h1 ho hsi with rfl | ⟨ty, arr, k3, k4, k6⟩
  · obtain ⟨hlen, rfl⟩ := put_some hp
    have h0 : v.cells = [] := by simp at hlen; exact hlen.2
    have hr : (execOp a.eval o).run P w = .ok .skip w := by
      have e0 : (a.eval y).cells.toList = [] := by rw [h0] at hc; exact hc
      have hsz : info.size = 0 := by rw [k2, ← hl, h0]; rfl
      have e1 : (a.eval y).cells = #[] := by simpa using e0
      simp [execOp, hop, h2, Instr.storeAt, Instr.sureAddr, storeVar, run_size k1, hcs, e1, hsz, storeCells]
    refine Post.skip hr hZ ?_ (fun _ _ h => h) (Stp.refl _ hob.nm)
    have : ob.set i (([] : List AV).take off ++ v.cells ++ ([] : List AV).drop (off + v.cells.length)) = ob := by
      apply List.ext_getElem?; intro q
      rw [List.getElem?_set]
      split
      · rename_i e; subst e
        rw [h0, ho, if_pos (List.getElem?_eq_some_iff.1 ho).1]; simp
      · rfl
    simp only [wr]
    rw [this]; exact hob
  · obtain ⟨hfit, hrep⟩ := put_rep hp k4 hc
    have hst := run_storeCells_at P b off ty (a.eval y).cells.toList 0 arr w k3 (by simpa using hfit) (leafL_one hc hlf)
    have hr : (execOp a.eval o).run P w = .ok .skip (w.setRow b (arr.toList.take off ++ (a.eval y).cells.toList ++ arr.toList.drop (off + (a.eval y).cells.toList.length)).toArray) := by
      simp only [Nat.add_zero] at hst
      simp [execOp, hop, h2, Instr.storeAt, Instr.sureAddr, storeVar, run_size k1, hcs, hst]
    have hbx : isBox cs' = true ∨ cs' = [] := by
      by_cases hn : cs' = []
      · exact .inr hn
      · exact .inl (isBox_of_rep hrep hn)
    have hblk := box_blk k6 rfl (b := b)
    obtain ⟨r1, r2⟩ := hob.set (w' := w.setRow b (arr.toList.take off ++ (a.eval y).cells.toList ++ arr.toList.drop (off + (a.eval y).cells.toList.length)).toArray) (cs' := cs') h1 ho
      (fun b' hb' => by
        rw [hblk]
        rcases hbx with hbx | rfl
        · rw [box_blk hbx rfl] at hb'; exact hb'
        · simp [blk] at hb')
      rfl rfl rfl (by simp [World.setRow]) (fun b' _ hne => setRow_other w b b' _ fun e => hne (by rw [e]; exact hblk))
      (fun hs => ⟨(fun e T l he => by subst he; exact (not_rowc hrep).elim), (fun T l he => by subst he; exact (not_frow hrep).elim), fun _ => ⟨b, ty, _, rfl, setRow_heap w b arr _ ty (0, 0) k3, by simpa using hrep.mono hs (fun _ _ h => h)⟩, (fun s p he => by subst he; exact (not_siter hrep).elim)⟩)
    exact Post.skip hr hZ r1 (fun _ _ h => h) r2
end Go.Ae
