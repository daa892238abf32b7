/- Stores into a slice of the store; append; every operation. -/
import Derived.Test.YtaoaagbfjekecaaDoorAe15
import Derived.Laws.RangeString
set_option linter.unusedVariables false
set_option linter.unusedSimpArgs false
namespace Go.Ae
open Go.RowKit Go.Lib
variable {P : Program} {Γ : Tys} {o : Oper} {a : Act} {w : World} {m : Md} {g : List Value} {ob : Store} {Z : AV → List Wr → Prop}

def upd (l : List Value) (p : Nat) (vc : List Value) : List Value := l.take p ++ vc ++ l.drop (p + vc.length)
theorem upd_len {l : List Value} {p : Nat} {vc : List Value} (h : p + vc.length ≤ l.length) : (upd l p vc).length = l.length := by
  simp [upd]; omega
theorem upd_get {l : List Value} {p : Nat} {vc : List Value} (h : p + vc.length ≤ l.length) (k : Nat) : (upd l p vc)[k]? = if p ≤ k ∧ k < p + vc.length then vc[k - p]? else l[k]? := by
  have h1 : min p l.length = p := by omega
  simp only [upd, List.getElem?_append, List.length_append, List.length_take, List.getElem?_take, List.getElem?_drop, h1]
  by_cases hk : k < p
  · rw [if_pos (by omega), if_pos hk, if_pos hk, if_neg (by omega)]
  · by_cases hk2 : k < p + vc.length
    · rw [if_pos hk2, if_neg hk, if_pos (by omega)]
    · rw [if_neg hk2, if_neg (by omega)]; congr 1; omega
theorem upd_take {l : List Value} {p n : Nat} {vc : List Value} (h : p + vc.length ≤ n) (hn : n ≤ l.length) : (upd l p vc).take n = upd (l.take n) p vc := by
  apply List.ext_getElem?; intro k
  rw [List.getElem?_take, upd_get (by omega), upd_get (by simp; omega), List.getElem?_take]
  by_cases hk : k < n
  · simp [hk]
  · rw [if_neg hk, if_neg (by omega), if_neg hk]
theorem upd_other {l : List Value} {i j s off : Nat} {vc : List Value} (hne : j ≠ i) (hoff : off + vc.length ≤ s) (h : i * s + off + vc.length ≤ l.length) :
    ((upd l (i * s + off) vc).drop (j * s)).take s = (l.drop (j * s)).take s := by
  apply List.ext_getElem?; intro k
  simp only [List.getElem?_take, List.getElem?_drop]
  split
  · rename_i hk
    rw [upd_get h, if_neg]
    rintro ⟨h1, h2⟩
    rcases Nat.lt_or_gt_of_ne hne with h3 | h3
    · have : (j + 1) * s ≤ i * s := Nat.mul_le_mul_right s h3
      rw [Nat.succ_mul] at this; omega
    · have : (i + 1) * s ≤ j * s := Nat.mul_le_mul_right s h3
      rw [Nat.succ_mul] at this; omega
  · rfl
theorem upd_self {l : List Value} {i s off : Nat} {vc : List Value} (hoff : off + vc.length ≤ s) (h : (i + 1) * s ≤ l.length) :
    ((upd l (i * s + off) vc).drop (i * s)).take s = upd ((l.drop (i * s)).take s) off vc := by
  rw [Nat.succ_mul] at h
  apply List.ext_getElem?; intro k
  rw [upd_get (by simp; omega)]
  simp only [List.getElem?_take, List.getElem?_drop]
  by_cases hk : k < s
  · rw [if_pos hk, if_pos hk, upd_get (by omega)]
    by_cases h1 : off ≤ k ∧ k < off + vc.length
    · rw [if_pos (by omega), if_pos h1]; congr 1; omega
    · rw [if_neg (by omega), if_neg h1]
  · rw [if_neg hk, if_neg hk, if_neg (by omega)]

theorem op_store_rel (hΓ : GOk P Γ) (hob : RepOb w m g ob) {t : TypeId} {ti : TI} {x y : Operand} {i j off : Nat} {e : TypeId} {T : Ty} {l : List T.den} {v : AV} {vs : List AV} {d : T.den} (hop : o.op = .store t x y) (ht : Γ t = some ti)
    (h : RepV w m g (.rel i T.size j off) (a.eval x)) (ho : ob[i]? = some [.rowc e T l]) (hv : RepV w m g v (a.eval y)) (hl : v.cells.length = ti.size) (hlf : v.cells.all AV.leaf = true) (hr : v.cells.any (AV.isRow i) = false)
    (hp : put (T.leaves (l.getD j T.dflt)) off (v.cells.map (view ob)) = some vs) (hpa : T.parse vs = some (d, [])) (hZ : Z (.tuple []) (frees ob v.cells ++ [.obj i [.rowc e T (l.set j d)]])) : Post P o a w m g ob Z := by
  obtain ⟨b, n, c, h1, h2, h3⟩ := h
  obtain ⟨info, z, k1, k2, _⟩ := hΓ.info ht
  have hc := cells_rep hv hlf
  have hcs : (a.eval y).cells.size = info.size := by rw [k2, ← hl, ← hc.length]; simp
  obtain ⟨m1, p1, p2, p3, r1, r2, r3, r4⟩ := frees_sound v.cells m ob hob (Fz.refl ob)
  have hni : AV.row i ∉ v.cells := by
    intro hm
    have := List.any_eq_false.1 hr _ hm
    simp [AV.isRow] at this
  have ho1 : (wr ob (frees ob v.cells))[i]? = some [.rowc e T l] := by
    rw [(frees_spec v.cells ob rfl).2.1 i hni]; exact ho
  have hsl : Stp w m w m1 := Stp.less w hob.nm p1 p2 p3
  have hview := viewL_sound r1 r2 (hc.mono hsl (fun _ _ h => h)) fun o' e' T' l' hm ho => r4 o' e' T' l' hm ho
  obtain ⟨xs, cur, q1, q2, q3, q4, q5, q6, q7, q8, q9, q10⟩ := row_elem r1 h1 ho1 h2
  obtain ⟨hfit, hrep⟩ := put_rep hp (repT_leaves (g := g) q9) hview
  obtain ⟨v1, v2, he, ht1, ht2⟩ := repT_parse hrep hpa
  rw [show v2 = [] from ht2, List.append_nil] at he
  have hseg : ((xs.drop (j * T.size)).take T.size).length = T.size := by
    rw [List.length_take, List.length_drop, q7]
    have : (j + 1) * T.size ≤ n * T.size := Nat.mul_le_mul_right _ h2
    rw [Nat.succ_mul] at this; omega
  rw [hseg] at hfit
  have hjn : (j + 1) * T.size ≤ n * T.size := Nat.mul_le_mul_right _ h2
  have hjn' := hjn
  rw [Nat.succ_mul] at hjn'
  have hnc : n * T.size ≤ c * T.size := Nat.mul_le_mul_right _ q4
  have hcl : cur.toList.length = c * T.size := by simpa using q3
  have hst := run_storeCells_at P b (j * T.size + off) e (a.eval y).cells.toList 0 cur w q2 (by rw [← Array.length_toList] ; omega) (leafL_one hc hlf)
  simp only [Nat.add_zero] at hst
  have hrun : (execOp a.eval o).run P w = .ok .skip (w.setRow b (upd cur.toList (j * T.size + off) (a.eval y).cells.toList).toArray) := by
    simp [execOp, hop, h3, Instr.storeAt, Instr.sureAddr, storeVar, run_size k1, hcs, hst, upd]
  have hcur : ((upd cur.toList (j * T.size + off) (a.eval y).cells.toList).toArray).toList.take (n * T.size) = upd xs (j * T.size + off) (a.eval y).cells.toList := by
    show (upd _ _ _).take _ = _
    rw [upd_take (by omega) (by omega), q6]
  obtain ⟨s1, s2⟩ := r1.set (w' := w.setRow b (upd cur.toList (j * T.size + off) (a.eval y).cells.toList).toArray) (cs' := [.rowc e T (l.set j d)]) h1 ho1 (fun b' hb' => hb') rfl rfl rfl (by simp [World.setRow])
    (fun b' _ hne => setRow_other w b b' _ fun e => hne (by rw [e]; rfl))
    (fun hs => ⟨fun e' T' l' he' => by
      cases he'
      refine ⟨upd xs (j * T.size + off) (a.eval y).cells.toList, ⟨?_, .inr ⟨b, c, _, ?_, Nat.zero_le _, setRow_heap w b cur _ e (0, 0) q2, ?_, q5, ?_, ?_⟩⟩, fun k x hk => ?_⟩
      · rw [upd_len (by omega), q7, List.length_set, q1]
      · rw [List.length_set, q1]
      · rw [List.length_set, ← q1]; exact q4
      · simp only [List.size_toArray]; rw [upd_len (by omega)]; exact hcl
      · rw [List.length_set, ← q1]; exact hcur
      · by_cases hkj : k = j
        · subst hkj
          rw [upd_self (by omega) (by omega)]
          rw [List.getElem?_set_self (by omega)] at hk
          cases hk
          exact RepT.mono hs (by rw [show upd _ _ _ = v1 from he]; exact ht1)
        · rw [List.getElem?_set_ne (fun e => hkj e.symm)] at hk
          rw [upd_other hkj (by omega) (by omega)]
          exact (q8 k x hk).mono hs, (fun T' l' he => by cases he), (fun h => by simp [isBox] at h), (fun _ _ he => by cases he)⟩)
  exact Post.skip hrun hZ (by rw [wr_append]; exact s1) (fun _ _ h => h) (hsl.trans s2)

theorem src_rep (hob : RepOb w m g ob) {x : AV} {v : Value} {T : Ty} {l : List T.den} (h : RepV w m g x v) (hx : asRow ob x = some ⟨T, l⟩) (hm : (T.hasLst && isMut ob x) = false) :
    ∃ m0 : Md, RepT w m0 (.lst T) l [v] ∧ ∀ y vs, RepT w m0 T y vs → RepT w m T y vs := by
  unfold asRow at hx
  split at hx
  · cases hx; exact ⟨m, h, fun _ _ h => h⟩
  · rename_i q
    split at hx
    · rename_i e T' l' ho
      cases hx
      have hT : T.hasLst = false := by simpa [isMut, ho] using hm
      obtain ⟨xs, h4, h5⟩ := (hob.obj q _ _ h.1 ho).rowc _ _ _ rfl
      exact ⟨⟨fun _ => False, fun _ => False⟩, own_repT h4 (fun j y hj => (h5 j y hj).noLst hT) fun _ _ h => h, fun _ _ h => h.noLst hT⟩
    · rename_i T' l' ho
      cases hx
      exact ⟨m, (hob.obj q _ _ h.1 ho).frow _ _ rfl, fun _ _ h => h⟩
    · cases hx
  · cases hx

theorem append_sound {R : Type} (hΓ : GOk P Γ) (hob : RepOb w m g ob) {κ : AV → List Wr → Option R} {r : R} {t u e : TypeId} {ei : TI} {T : Ty} {s x : Operand} {ax : AV} {l : List T.den} {kill : List Wr} {xs : List Value}
    (hop : o.op = .call { callee := .builtin .append, args := #[s, x], argTypes := #[t, u] }) (ht : tdOf Γ t = .slice e) (he : Γ e = some ei) (hsz : ei.size = T.size) (h0 : 0 < T.size) (hz : ei.zero.length = T.size)
    (hown : w.ownsRow 0 e T.size (a.eval s) l.length xs) (hE : RepE w m T l xs) (hk : (kill = [] ∧ (a.eval s).ownBlock = none) ∨ ∃ q, kill = [.obj q []] ∧ g[q]? = some (a.eval s) ∧ ob[q]? = some [.rowc e T l])
    (hx : RepV w m g ax (a.eval x)) (h : appendG Γ ob ob.length t u e ei T ax l kill κ = some r) : Post P o a w m g ob fun v ws => κ v ws = some r := by
  have done : ∀ (mm : List T.den) (v' : Value) (w' : World) (news : List Value), (Builtin.append_ #[t, u] o.type #[a.eval s, a.eval x]).run P w = .ok v' w' → w'.ownsRow 0 e T.size v' (l.length + mm.length) (xs ++ news) → RepE w m T mm news → w.grownBy w' (a.eval s).ownBlock →
      (∀ b, v'.ownBlock = some b → (a.eval s).ownBlock = some b ∨ b = w.heap.size) → κ (.row ob.length) (kill ++ [.new [.rowc e T (l ++ mm)]]) = some r → Post P o a w m g ob fun v ws => κ v ws = some r := by
    intro mm v' w' news hr ho' hE' hg hb hκ
    obtain ⟨m', k1, k2, k3, k4⟩ := append_store hob hE hE' hown ho' hg hb hk
    have hsl : ∃ ao n c, v' = .slice ao n c := by
      obtain ⟨ao, cap, e1, _⟩ := own_cells ho'
      exact ⟨_, _, _, e1⟩
    refine Post.val (v := v') (w' := w') (m' := m') (g' := g ++ [v']) (av := .row ob.length) ?_ hκ ⟨by rw [← hob.len]; simp, hsl⟩ k1 k3 k2
    simp [execOp, hop, resolve, invoke, builtin, hr]
  unfold appendG at h
  split at h
  · rename_i c
    split at h
    · rename_i z hu hd hzz
      split at h
      · rename_i hc
        obtain ⟨rfl, hs1, hb1⟩ := hc
        split at h
        · rename_i mm hcast
          obtain ⟨rfl, hmm⟩ := castL_some hcast
          obtain ⟨hlim, h⟩ := chk_some h
          have hmm' : mm = c := hmm.symm
          subst hmm'
          have hx' : a.eval x = .string ⟨⟨mm⟩⟩ := hx
          obtain ⟨v', w', k1, k2, k3, k4⟩ := run_append_str (w := w) (ty := o.type) hΓ ht hu he hd hzz hs1 hb1 hown (of_decide_eq_true hlim)
          rw [← hx'] at k1
          exact done mm v' w' _ k1 k2 (strCells_rep mm) k3 k4 h
        · cases h
      · cases h
    · cases h
  · split at h
    · rename_i hut
      subst hut
      obtain ⟨hlim, h⟩ := chk_some h
      have hx' : a.eval x = .slice none 0 0 := hx
      have hrep : RepT w m (.lst T) ([] : List T.den) [a.eval x] := by rw [hx']; exact ⟨none, 0, rfl, Nat.le_refl _, by omega, fun _ => rfl, fun j x hx => absurd (show ([] : List T.den)[j]? = some x from hx) (by simp)⟩
      obtain ⟨v', w', news, k1, k2, k3, k4, k5, k6⟩ := run_append_slice (w := w) (ty := o.type) hΓ ht he hsz h0 hz hown hrep (by simpa using hlim)
      exact done [] v' w' news k1 k2 k4 k5 k6 h
    · cases h
  · split at h
    · rename_i hc
      obtain ⟨hut, hmut⟩ := hc
      subst hut
      split at h
      · rename_i T' mm hrow
        split at h
        · rename_i mm' hcast
          obtain ⟨rfl, hmm⟩ := castL_some hcast
          have hmm' : mm' = mm := hmm.symm
          subst hmm'
          obtain ⟨hlim, h⟩ := chk_some h
          obtain ⟨m0, k1, k2⟩ := src_rep hob hx hrow hmut
          obtain ⟨v', w', news, p1, p2, p3, p4, p5, p6⟩ := run_append_slice (w := w) (ty := o.type) hΓ ht he hsz h0 hz hown k1 (by simpa using hlim)
          exact done mm' v' w' news p1 p2 (fun j y hj => k2 _ _ (p4 j y hj)) p5 p6 h
        · cases h
      · cases h
    · cases h

theorem op_append {R : Type} (hΓ : GOk P Γ) (hob : RepOb w m g ob) {κ : AV → List Wr → Option R} {r : R} {t u : TypeId} {s x : Operand} {as ax : AV}
    (hop : o.op = .call { callee := .builtin .append, args := #[s, x], argTypes := #[t, u] }) (hs : RepV w m g as (a.eval s)) (hx : RepV w m g ax (a.eval x)) (h : appendF Γ ob ob.length t u as ax κ = some r) : Post P o a w m g ob fun v ws => κ v ws = some r := by
  unfold appendF at h
  split at h <;> try (cases h; done)
  rename_i e ht
  split at h <;> try (cases h; done)
  rename_i ei he
  split at h <;> try (cases h; done)
  rename_i T hT
  split at h
  · cases h
  · rename_i hc
    simp only [not_or, ne_eq, Classical.not_not] at hc
    obtain ⟨hsz, h0, hz⟩ := hc
    split at h
    · have hs' : a.eval s = .slice none 0 0 := hs
      refine append_sound (l := ([] : List T.den)) (kill := []) (xs := []) hΓ hob hop ht he hsz (by omega) hz (by rw [hs']; exact ⟨by simp, .inl ⟨rfl, rfl⟩⟩) (fun j x hx => by simp at hx) (.inl ⟨rfl, by rw [hs']; rfl⟩) hx h
    · rename_i q
      split at h
      · rename_i e' T' l' ho
        split at h
        · rename_i ee
          subst ee
          split at h
          · rename_i l hcast
            obtain ⟨rfl, hll⟩ := castL_some hcast
            have hll' : l = l' := hll.symm
            subst hll'
            obtain ⟨xs, k1, k2⟩ := (hob.obj q _ _ hs.1 ho).rowc _ _ _ rfl
            exact append_sound hΓ hob hop ht he hsz (by omega) hz k1 k2 (.inr ⟨q, rfl, hs.1, ho⟩) hx h
          · cases h
        · cases h
      · cases h
    · cases h

theorem arr_one {α β : Type} {xs : Array α} {f : α → β} {y : β} (h : xs.toList.map f = [y]) : ∃ x, xs = #[x] ∧ f x = y := by
  obtain ⟨l⟩ := xs
  cases l with
  | nil => simp at h
  | cons x l => cases l <;> simp at h; exact ⟨x, rfl, h⟩
theorem arr_two {α β : Type} {xs : Array α} {f : α → β} {y z : β} (h : xs.toList.map f = [y, z]) : ∃ x x', xs = #[x, x'] ∧ f x = y ∧ f x' = z := by
  obtain ⟨l⟩ := xs
  cases l with
  | nil => simp at h
  | cons x l => cases l with
    | nil => simp at h
    | cons x' l => cases l <;> simp at h; exact ⟨x, x', rfl, h.1, h.2⟩

theorem op_builtin {R : Type} (hΓ : GOk P Γ) (hob : RepOb w m g ob) {κ : AV → List Wr → Option R} {r : R} {c : Call} {b : Builtin} {ρ : Operand → AV} (hop : o.op = .call c) (hc : c.callee = .builtin b) (hρ : ∀ x, RepV w m g (ρ x) (a.eval x))
    (h : builtinF Γ ob ob.length b c.argTypes.toList (c.args.toList.map ρ) κ = some r) : Post P o a w m g ob fun v ws => κ v ws = some r := by
  obtain ⟨callee, args, ats⟩ := c
  simp only at hc h
  subst hc
  generalize hl : args.toList.map ρ = as at h
  generalize hts : ats.toList = ts at h
  unfold builtinF at h
  split at h
  · rename_i x t
    obtain ⟨xo, rfl, hxo⟩ := arr_one hl
    obtain ⟨l⟩ := ats
    simp only at hts
    subst hts
    have hx := hρ xo
    rw [hxo] at hx
    split at h
    · rename_i s ht
      exact op_len_str hob hop (hΓ.strT ht) hx h
    · rename_i e ht
      exact op_len_slice hob (v := undef) (n := 0) (cap := 0) hop (hΓ.slice ht) hx h
    · rename_i e ht _
      split at h
      · rename_i T l hrow
        obtain ⟨ao, cap, h1, _⟩ := asRow_rep hob hx hrow
        exact op_len_slice hob (v := undef) hop (hΓ.slice ht) h1 h
      · cases h
    · cases h
  · rename_i s x t u
    obtain ⟨so, xo, rfl, hso, hxo⟩ := arr_two hl
    obtain ⟨l⟩ := ats
    simp only at hts
    subst hts
    exact op_append hΓ hob hop (hso ▸ hρ so) (hxo ▸ hρ xo) h
  · rename_i k x k' y
    obtain ⟨xo, yo, rfl, hxo, hyo⟩ := arr_two hl
    split at h
    · rename_i hk
      subst hk
      exact op_max hob hop rfl rfl (hxo ▸ hρ xo) (hyo ▸ hρ yo) h
    · cases h
  · rename_i k x k' y
    obtain ⟨xo, yo, rfl, hxo, hyo⟩ := arr_two hl
    split at h
    · rename_i hk
      subst hk
      exact op_min hob hop rfl rfl (hxo ▸ hρ xo) (hyo ▸ hρ yo) h
    · cases h
  · cases h
/-! ### Ranges over strings -/
theorem op_range (hΓ : GOk P Γ) (hob : RepOb w m g ob) {t : TypeId} {x : Operand} {s : List UInt8} (hop : o.op = .range t x) (ht : tdOf Γ t = .str) (h : RepV w m g (.str s) (a.eval x)) (hZ : Z (.ptr ob.length 0) [.new [.siter s 0]]) : Post P o a w m g ob Z := by
  obtain ⟨desc, hu, hd⟩ := hΓ.td (t := t) rfl (by rw [ht]; simp)
  rw [ht] at hd
  have hd' : desc = .string := by simpa only [DOk] using hd
  subst hd'
  have h' : a.eval x = .string ⟨⟨s⟩⟩ := h
  have hrun : (execOp a.eval o).run P w = .ok (.value (.pointer (some ⟨w.heap.size, 0, none⟩))) (w.alloc (.stringIter ⟨⟨s⟩⟩ 0)) := by
    have this : (Instr.range t (.string ⟨⟨s⟩⟩)).run P w = .ok (.pointer (some ⟨w.heap.size, 0, none⟩)) (w.alloc (.stringIter ⟨⟨s⟩⟩ 0)) := run_range_string (P := P) w t ⟨⟨s⟩⟩ hu
    simp [execOp, hop, h', this]
  obtain ⟨q1, q2, q3⟩ := hob.add (w' := w.alloc (.stringIter ⟨⟨s⟩⟩ 0)) (.pointer (some ⟨w.heap.size, 0, none⟩)) [.siter s 0] rfl rfl rfl (by simp) (fun b hb _ => Below.heap_alloc _ _ _ hb)
    (fun b hb hlt => by simp [blk] at hb; omega)
    (fun hs => ⟨(fun _ _ _ he => by cases he), (fun _ _ he => by cases he), (fun h => by simp [isBox] at h), fun s' p' he => by cases he; exact ⟨w.heap.size, rfl, heap_alloc_new _ _⟩⟩)
  refine Post.val (av := .ptr ob.length 0) hrun hZ ⟨w.heap.size, ?_, rfl⟩ q1 q3 q2
  rw [← hob.len]; simp
theorem run_next_iter {w : World} {b p : Nat} {s : List UInt8} {ty : TypeId} (hh : w.heap[b]? = some (.stringIter ⟨⟨s⟩⟩ p)) (hp : p < s.length) :
    (Instr.next (.pointer (some ⟨b, 0, none⟩)) true ty).run P w = .ok (.tuple #[.bool true, .int .i64 (p : Int), .int .i32 ((decR s p).1 : Int)]) { w with heap := w.heap.setIfInBounds b (.stringIter ⟨⟨s⟩⟩ (p + (decR s p).2)) } := by
  have hsz : p < (⟨⟨s⟩⟩ : ByteArray).size := hp
  have hlt : b < w.heap.size := (Array.getElem?_eq_some_iff.1 hh).1
  have hm : w.heap[b]'hlt = .stringIter ⟨⟨s⟩⟩ p := (Array.getElem?_eq_some_iff.1 hh).2
  unfold Instr.next decR
  simp only [getObj, setObj, Sem.run_bind, Sem.run, hh, Result.andThen, hsz, if_true]
  simp [goInt, Sem.run, hlt]
theorem op_next (hob : RepOb w m g ob) {x : Operand} {i p : Nat} {s : List UInt8} (hop : o.op = .next x true) (h : RepV w m g (.ptr i 0) (a.eval x)) (ho : ob[i]? = some [.siter s p])
    (hZ1 : p < s.length → Z (.tuple [.bool true, .int .i64 (p : Int), .int .i32 ((decR s p).1 : Int)]) [.obj i [.siter s (p + (decR s p).2)]]) (hZ2 : ¬ p < s.length → Z (.tuple [.bool false]) []) : Post P o a w m g ob Z := by
  obtain ⟨b, h1, h2⟩ := h
  obtain ⟨b', e, hh⟩ := (hob.obj i _ _ h1 ho).iter _ _ rfl
  simp only [Value.pointer.injEq, Option.some.injEq, Addr.mk.injEq, and_true] at e
  subst e
  have hsz : (⟨⟨s⟩⟩ : ByteArray).size = s.length := rfl
  by_cases hp : p < s.length
  · have hlt : b < w.heap.size := (Array.getElem?_eq_some_iff.1 hh).1
    have hrun : (execOp a.eval o).run P w = .ok (.value (.tuple #[.bool true, .int .i64 (p : Int), .int .i32 ((decR s p).1 : Int)])) { w with heap := w.heap.setIfInBounds b (.stringIter ⟨⟨s⟩⟩ (p + (decR s p).2)) } := by
      have := run_next_iter (P := P) (ty := o.type) hh hp
      simp [execOp, hop, h2, this]
    obtain ⟨r1, r2⟩ := hob.set (w' := { w with heap := w.heap.setIfInBounds b (.stringIter ⟨⟨s⟩⟩ (p + (decR s p).2)) }) (cs' := [.siter s (p + (decR s p).2)]) h1 ho (fun _ h => h) rfl rfl rfl (by simp)
      (fun b2 _ hne => by
        have : b2 ≠ b := fun e => hne (by rw [e]; rfl)
        show (w.heap.setIfInBounds b _)[b2]? = _
        rw [Array.getElem?_setIfInBounds_ne (Ne.symm this)])
      (fun hs => ⟨(fun _ _ _ he => by cases he), (fun _ _ he => by cases he), (fun h => by simp [isBox] at h), fun s' p' he => by
        cases he
        refine ⟨b, rfl, ?_⟩
        show (w.heap.setIfInBounds b _)[b]? = _
        simp [hlt]⟩)
    exact Post.val (av := .tuple [.bool true, .int .i64 (p : Int), .int .i32 ((decR s p).1 : Int)]) hrun (hZ1 hp) ⟨_, rfl, .cons rfl (.cons ⟨rfl, fun h => by cases h⟩ (.cons ⟨rfl, fun h => by cases h⟩ .nil))⟩ r1 (fun _ _ h => h) r2
  · refine Post.quiet hob (v := .tuple #[.bool false]) ?_ (hZ2 hp) ⟨_, rfl, .cons rfl .nil⟩
    simp [execOp, hop, h2, Instr.next, getObj, Sem.run_bind, Sem.run, hh, Result.andThen, hsz, hp]
end Go.Ae
