/- Parts of slices, conversions, append. -/
import Derived.Test.YtaoaagbfjekecaaDoorAe7
set_option linter.unusedVariables false
set_option linter.unusedSimpArgs false
namespace Go.Ae
open Go.RowKit
variable {P : Program} {Γ : Tys} {o : Oper} {a : Act} {w : World} {m : Md} {g : List Value} {ob : Store} {Z : AV → List Wr → Prop}

theorem wr_append (ob : Store) : ∀ (x y : List Wr), wr ob (x ++ y) = wr (wr ob x) y
  | [], _ => rfl
  | .obj o cs :: x, y => wr_append (ob.set o cs) x y
  | .new cs :: x, y => wr_append (ob ++ [cs]) x y

/-- A part of a slice that nobody writes. -/
theorem repT_cut {T : Ty} {l : List T.den} {ao : Option Addr} {n cap lo hi : Nat} (h : RepT w m (.lst T) l [.slice ao n cap]) (h1 : lo ≤ hi) (h2 : hi ≤ l.length) :
    RepT w m (.lst T) ((l.take hi).drop lo) [.slice (if cap = lo then ao else ao.map (·.add (lo * T.size))) (hi - lo) (cap - lo)] := by
  obtain ⟨ao', cap', he, h3, h4, h0, h5⟩ := h
  simp only [List.cons.injEq, Value.slice.injEq, and_true] at he
  obtain ⟨rfl, rfl, rfl⟩ := he
  have h3' : l.length ≤ cap := h3
  have hlen : (asL (t := T) ((l.take hi).drop lo)).length = hi - lo := by
    show ((l.take hi).drop lo).length = hi - lo
    rw [List.length_drop, List.length_take]; omega
  refine ⟨_, cap - lo, by rw [hlen], by rw [hlen]; omega, by omega, ?_, fun j x hj => ?_⟩
  · intro hn
    split at hn
    · have := h0 hn; omega
    · have := h0 (by simpa using hn); omega
  · have hj' : ((l.take hi).drop lo)[j]? = some x := hj
    rw [List.getElem?_drop, List.getElem?_take] at hj'
    split at hj'
    · rename_i hlt
      obtain ⟨b, q, us, rfl, k1, k2, k3, k4, k5⟩ := h5 (lo + j) x hj'
      have hne : ¬ cap = lo := by omega
      rw [if_neg hne]
      refine ⟨b, q + lo * T.size, us, by simp [lit_add], k1, k2, k3, k4, fun i u hu => ?_⟩
      have := k5 i u hu
      rwa [Nat.add_mul, ← Nat.add_assoc] at this
    · cases hj'

theorem asRow_view {x : AV} {T : Ty} {l : List T.den} (h : asRow ob x = some ⟨T, l⟩) : view ob x = .lst T l := by
  unfold asRow at h; unfold view
  split at h
  · cases h; rfl
  · split at h <;> cases h <;> rename_i h <;> simp [h]
  · cases h

theorem cut_some {α R : Type} {l : List α} {lo hi : Option Int} {κ : List α → Option R} {r : R} (h : cut l lo hi κ = some r) :
    ∃ a b : Nat, a ≤ b ∧ b ≤ l.length ∧ κ ((l.take b).drop a) = some r ∧ (lo = none ∧ a = 0 ∨ lo = some (a : Int)) ∧ (hi = none ∧ b = l.length ∨ hi = some (b : Int)) := by
  unfold cut at h
  split at h
  · exact ⟨0, l.length, Nat.zero_le _, Nat.le_refl _, by simpa using h, .inl ⟨rfl, rfl⟩, .inl ⟨rfl, rfl⟩⟩
  · rename_i x
    obtain ⟨hb, h⟩ := chk_some h
    simp only [Bool.and_eq_true, decide_eq_true_eq] at hb
    exact ⟨x.toNat, l.length, by omega, Nat.le_refl _, by simpa using h, .inr (by rw [Int.toNat_of_nonneg hb.1]), .inl ⟨rfl, rfl⟩⟩
  · rename_i x
    obtain ⟨hb, h⟩ := chk_some h
    simp only [Bool.and_eq_true, decide_eq_true_eq] at hb
    exact ⟨0, x.toNat, by omega, by omega, by simpa using h, .inl ⟨rfl, rfl⟩, .inr (by rw [Int.toNat_of_nonneg hb.1])⟩
  · rename_i x y
    obtain ⟨hb, h⟩ := chk_some h
    obtain ⟨hc, h⟩ := chk_some h
    simp only [Bool.and_eq_true, decide_eq_true_eq] at hb hc
    exact ⟨y.toNat, x.toNat, by omega, by omega, h, .inr (by rw [Int.toNat_of_nonneg hc.1]), .inr (by rw [Int.toNat_of_nonneg hb.1])⟩

theorem run_bounds (isSlice : Bool) (len cap lo hi : Nat) (vlo vhi : Option Value) (h1 : lo ≤ hi) (h2 : hi ≤ cap) (h3 : len ≤ cap) (hlo : vlo = none ∧ lo = 0 ∨ ∃ k, vlo = some (.int k lo)) (hhi : vhi = none ∧ hi = len ∨ ∃ k, vhi = some (.int k hi)) :
    (Instr.sliceBounds isSlice len cap vlo vhi none).run P w = .ok (lo, hi, cap) w := by
  have hb : ∀ (k : IntKind) (x y : Nat) (c : BoundsCode), x ≤ y → (Instr.sliceBound (.int k x) y c).run P w = .ok x w := by
    intro k x y c hxy
    have : (x : Int) ≤ (y : Int) := by omega
    simp [Instr.sliceBound, asIntOf, this]
  rcases hlo with ⟨rfl, rfl⟩ | ⟨k, rfl⟩ <;> rcases hhi with ⟨rfl, rfl⟩ | ⟨k', rfl⟩ <;> simp [Instr.sliceBounds, hb, h1, h2]

theorem ints_of {ρ : Operand → AV} {x : Option Operand} {r : Option Int} (hρ : ∀ x, RepV w m g (ρ x) (a.eval x)) (h : ofIntO (x.map ρ) = some r) :
    (r = none ∧ x = none) ∨ ∃ y k n, x = some y ∧ r = some n ∧ a.eval y = .int k n := by
  cases x with
  | none => simp [ofIntO] at h; exact .inl ⟨h.symm, rfl⟩
  | some y =>
    right
    simp only [Option.map_some, ofIntO] at h
    split at h
    · rename_i he; cases he
    · rename_i k n he
      have := hρ y
      rw [Option.some.inj he] at this
      cases h
      exact ⟨y, k, n, rfl, rfl, this.1⟩
    · cases h

theorem bnds_of {ρ : Operand → AV} (hρ : ∀ x, RepV w m g (ρ x) (a.eval x)) {x : Option Operand} {r : Option Int} {n d : Nat} (h : ofIntO (x.map ρ) = some r) (hr : r = none ∧ n = d ∨ r = some (n : Int)) :
    x.map a.eval = none ∧ n = d ∨ ∃ k, x.map a.eval = some (.int k n) := by
  rcases ints_of hρ h with ⟨rfl, rfl⟩ | ⟨y, k, q, rfl, rfl, h3⟩
  · rcases hr with ⟨_, rfl⟩ | hr
    · exact .inl ⟨rfl, rfl⟩
    · cases hr
  · rcases hr with ⟨hr, _⟩ | hr
    · cases hr
    · cases hr; exact .inr ⟨k, by simp [h3]⟩

theorem extract_mk (s : List UInt8) (lo hi : Nat) : (⟨⟨s⟩⟩ : ByteArray).extract lo hi = ⟨⟨(s.take hi).drop lo⟩⟩ := by
  apply ByteArray.ext
  rw [ByteArray.data_extract]
  simp
  rw [List.drop_take]

theorem op_slice (hΓ : GOk P Γ) (hob : RepOb w m g ob) {ρ : Operand → AV} (hρ : ∀ x, RepV w m g (ρ x) (a.eval x)) {t : TypeId} {x : Operand} {lo hi : Option Operand} {K : Calls'} {R : Type} {κ : AV → List Wr → Option R} {r : R}
    (hop : o.op = .slice t x lo hi none) (h : opF Γ K ρ ob ob.length (.slice t x lo hi none) κ = some r) (hZ : ∀ av ws, κ av ws = some r → Z av ws) : Post P o a w m g ob Z := by
  simp only [opF] at h
  split at h
  · rename_i lo' hi' _ hlo hhi
    have hx := hρ x
    split at h
    · rename_i htd
      split at h
      · rename_i s hxs
        rw [hxs] at hx
        have hst := hΓ.strT htd
        obtain ⟨p, q, h1, h2, h3, h4, h5⟩ := cut_some h
        refine Post.quiet hob (v := .string ⟨⟨(s.take q).drop p⟩⟩) ?_ (hZ _ _ h3) rfl
        have hsz : (⟨⟨s⟩⟩ : ByteArray).size = s.length := rfl
        have hb := run_bounds (P := P) (w := w) false s.length s.length p q (lo.map a.eval) (hi.map a.eval) h1 h2 (Nat.le_refl _) (bnds_of hρ hlo h4) (bnds_of hρ hhi h5)
        simp [execOp, hop, show a.eval x = .string ⟨⟨s⟩⟩ from hx, Instr.sliceAt, Instr.slice, run_underlying hst, hsz, hb, extract_mk]
      · cases h
    · rename_i e htd
      have hst := hΓ.slice htd
      split at h
      · rename_i hxs
        rw [hxs] at hx
        split at h
        · rename_i ei hei
          obtain ⟨p, q, h1, h2, h3, h4, h5⟩ := cut_some h
          have hq : q = 0 := by simpa using h2
          have hp : p = 0 := by omega
          subst hq hp
          refine Post.quiet hob (v := .slice none 0 0) ?_ (hZ _ _ h3) rfl
          have hb := run_bounds (P := P) (w := w) true 0 0 0 0 (lo.map a.eval) (hi.map a.eval) h1 (Nat.le_refl _) (Nat.le_refl _) (bnds_of hρ hlo h4) (bnds_of hρ hhi h5)
          obtain ⟨info, z, i1, i2, _⟩ := hΓ.info hei
          simp [execOp, hop, show a.eval x = .slice none 0 0 from hx, Instr.sliceAt, Instr.slice, run_underlying hst, hb, run_size i1]
        · cases h
      · split at h
        · rename_i ei T l hei hrow
          split at h
          · rename_i hsz
            obtain ⟨p, q, h1, h2, h3, h4, h5⟩ := cut_some h
            obtain ⟨m', hm', hn', hst', r1, r2, r3, r4⟩ := frees_sound [ρ x] m ob hob (Fz.refl ob)
            have hs := Stp.less w hob.nm hm' hn' hst'
            have hv := view_sound (a := ρ x) r1 r2 (hx.mono hs (fun _ _ h => h)) (fun o' e' T' l' he ho => r4 o' e' T' l' (by rw [he]; exact List.mem_singleton_self _) ho)
            rw [asRow_view hrow] at hv
            have hv' := hv
            obtain ⟨ao, cap, he, k1, k2, k3, k4⟩ := hv'
            have hev : a.eval x = .slice ao l.length cap := by simpa [asL] using he
            rw [hev] at hv
            obtain ⟨info, z, i1, i2, _⟩ := hΓ.info hei
            have hb := run_bounds (P := P) (w := w) true l.length cap p q (lo.map a.eval) (hi.map a.eval) h1 (Nat.le_trans h2 k1) k1 (bnds_of hρ hlo h4) (bnds_of hρ hhi h5)
            refine Post.val (v := .slice (if cap = p then ao else ao.map (·.add (p * T.size))) (q - p) (cap - p)) ?_ (hZ _ _ h3) (repT_cut hv h1 h2) r1 (fun _ _ h => h) hs
            simp [execOp, hop, hev, Instr.sliceAt, Instr.slice, run_underlying hst, hb, run_size i1, i2, ← hsz]
          · cases h
        · cases h
    · cases h
  · cases h
theorem foldl_push : ∀ (l : List UInt8) (r : List UInt8), (l.map fun c => (c.toNat : Int)).foldl (fun (b : ByteArray) n => b.push (UInt8.ofNat n.toNat)) ⟨⟨r⟩⟩ = ⟨⟨r ++ l⟩⟩
  | [], r => by simp
  | c :: l, r => by
    have : (⟨⟨r⟩⟩ : ByteArray).push (UInt8.ofNat ((c.toNat : Int)).toNat) = ⟨⟨r ++ [c]⟩⟩ := by
      simp [ByteArray.push]
    simp only [List.map_cons, List.foldl_cons, this]
    rw [foldl_push l (r ++ [c])]
    simp

theorem bytes_string (hΓ : GOk P Γ) {s d e : TypeId} (h1 : tdOf Γ s = .slice e) (h2 : tdOf Γ d = .str) (h4 : tdOf Γ e = .int .u8) {l : List UInt8} {v : Value} (hv : RepT w m (.lst .byte) l [v]) : (convert s d v).run P w = .ok (.string ⟨⟨l⟩⟩) w := by
  obtain ⟨ao, cap, he, k1, k2, k3, k4⟩ := hv
  have hev : v = .slice ao l.length cap := (List.cons.inj he).1
  subst hev
  cases ao with
  | none =>
    have hc0 := k3 rfl
    have hl0 : l = [] := List.eq_nil_of_length_eq_zero (by have : l.length ≤ cap := k1; omega)
    subst hl0
    simp [convert, run_underlying (hΓ.slice h1), run_underlying (hΓ.strT h2), run_underlying (hΓ.intT h4), Conv.bytesToString]
    rfl
  | some ad =>
    have hld : (loadCells ad l.length).run P w = .ok ((l.map fun c => (c.toNat : Int)).map (Value.int .u8)).toArray w := by
      have := run_loadCells_list (P := P) w ad ((l.map fun c => (c.toNat : Int)).map (Value.int .u8)) (fun j v hv => by
        rw [List.getElem?_map, List.getElem?_map] at hv
        obtain ⟨n, hn, rfl⟩ := Option.map_eq_some_iff.1 hv
        obtain ⟨c, hc, rfl⟩ := Option.map_eq_some_iff.1 hn
        obtain ⟨b, q, us, e1, e2, _, _, _, e3⟩ := k4 j c hc
        cases e1
        have e2' : us = [.int .u8 (c.toNat : Int)] := e2
        have := e3 0 _ (by rw [e2']; rfl)
        rw [lit_add]
        simpa [Ty.size] using this)
      simpa using this
    have hr := run_bytesToString (P := P) w ad l.length cap (l.map fun c => (c.toNat : Int)) hld
    have hf := foldl_push l []
    simp only [List.nil_append] at hf
    rw [show ByteArray.empty = (⟨⟨[]⟩⟩ : ByteArray) from rfl, hf] at hr
    simp [run_convert_bytes_string w s d e _ _ _ (hΓ.slice h1) (hΓ.intT h4) (hΓ.strT h2), hr]

theorem op_convert (hΓ : GOk P Γ) (hob : RepOb w m g ob) {ρ : Operand → AV} (hρ : ∀ x, RepV w m g (ρ x) (a.eval x)) {s d : TypeId} {x : Operand} {K : Calls'} {R : Type} {κ : AV → List Wr → Option R} {r : R}
    (hop : o.op = .convert s d x) (h : opF Γ K ρ ob ob.length (.convert s d x) κ = some r) (hZ : ∀ av ws, κ av ws = some r → Z av ws) : Post P o a w m g ob Z := by
  simp only [opF] at h
  have hx := hρ x
  split at h
  · rename_i k0 k k1 n h1 h2 h3
    rw [h3] at hx
    refine Post.quiet hob (v := .int k (k.wrap n)) ?_ (hZ _ _ h) ⟨rfl, Rng.wrap _ _⟩
    simp [execOp, hop, hx.1, convert, run_underlying (hΓ.intT h1), run_underlying (hΓ.intT h2), Conv.intToInt]
  · rename_i q h1 h2 h3
    rw [h3] at hx
    refine Post.quiet hob (v := .string ⟨⟨q⟩⟩) ?_ (hZ _ _ h) rfl
    simp [execOp, hop, show a.eval x = _ from hx, convert, run_underlying (hΓ.strT h1), run_underlying (hΓ.strT h2)]
  · rename_i e c h1 h2 h3
    rw [h3] at hx
    split at h
    · rename_i h4
      obtain ⟨hcl, h⟩ := chk_some h
      have hcl' : c.length ≤ 9223372036854775807 := by simpa using hcl
      have hr := Lib.run_convert_string_bytes (P := P) w s d e ⟨⟨c⟩⟩ (hΓ.strT h1) (hΓ.slice h2) (hΓ.intT h4)
      have hsz : (⟨⟨c⟩⟩ : ByteArray).size = c.length := rfl
      have hmm : ∀ b, m b → b < w.heap.size := hob.lt
      have hst : Stp w m (Lib.bytesWorld w e ⟨⟨c⟩⟩) m := ⟨rfl, rfl, rfl, by rw [Lib.bytesWorld_size]; omega, hob.nm, fun b hb _ => Lib.bytesWorld_at_old w e _ b hb, fun _ _ h => h, fun _ _ h => h, fun _ _ h _ => h⟩
      refine Post.val (v := .slice (some ⟨w.heap.size, 0, none⟩) c.length (grownCap w c.length 0 e)) (ws := []) (by simp [execOp, hop, show a.eval x = _ from hx, hr, hsz]) (hZ _ _ h) ?_ ?_ (fun _ _ h => h) hst
      · have hge := grownCap_ge w c.length 0 e
        have hle := grownCap_le_maxLen w c.length 0 e (by simp only [maxLen]; omega)
        refine ⟨_, _, rfl, hge, by simp only [maxLen] at hle; omega, (fun h => by cases h), fun j y hj => ?_⟩
        have hj' : c[j]? = some y := hj
        have hlt : j < c.length := (List.getElem?_eq_some_iff.1 hj').1
        refine ⟨w.heap.size, 0, [.int .u8 ((y : UInt8).toNat : Int)], rfl, rfl, rfl, by rw [Lib.bytesWorld_size]; omega, fun hb => by have := hmm _ hb; omega, fun i u hu => ?_⟩
        have hi : i = 0 := by
          have := (List.getElem?_eq_some_iff.1 hu).1
          simp at this; exact this
        subst hi
        have hcc := Lib.bytesWorld_cell w e ⟨⟨c⟩⟩ j (by rw [hsz]; exact hlt)
        have hu' : u = .int .u8 ((y : UInt8).toNat : Int) := by simpa using hu.symm
        rw [hu']
        have hg : c.getD j 0 = y := by rw [List.getD_eq_getElem?_getD, hj']; rfl
        simp only [Ty.size, Nat.mul_one, Nat.zero_add, Nat.add_zero]
        rw [hcc]
        show some (Value.int .u8 ((c.getD j 0).toNat : Int)) = _
        rw [hg]
      · exact ⟨hob.len, hob.sub, hob.nm, fun b hb => by rw [Lib.bytesWorld_size]; have := hmm b hb; omega, fun i gi cs k1 k2 => (hob.obj i gi cs k1 k2).mono hst (fun _ _ h => h) fun b hb => Lib.bytesWorld_at_old w e _ b ((hob.obj i gi cs k1 k2).blk_lt hb), hob.sep⟩
    · cases h
  · rename_i _ _ e h1 h2
    split at h
    · rename_i h4
      split at h
      · rename_i h3
        rw [h3] at hx
        refine Post.quiet hob (v := .string ⟨⟨[]⟩⟩) ?_ (hZ _ _ h) rfl
        simp [execOp, hop, show a.eval x = _ from hx, convert, run_underlying (hΓ.slice h1), run_underlying (hΓ.strT h2), run_underlying (hΓ.intT h4), Conv.bytesToString]
        rfl
      · split at h
        · rename_i T l hrow
          split at h
          · rename_i c hc
            obtain ⟨rfl, rfl⟩ := castL_some hc
            obtain ⟨m', hm', hn', hst', r1, r2, r3, r4⟩ := frees_sound [ρ x] m ob hob (Fz.refl ob)
            have hs := Stp.less w hob.nm hm' hn' hst'
            have hv := view_sound (a := ρ x) r1 r2 (hx.mono hs (fun _ _ h => h)) (fun o' e' T' l' he ho => r4 o' e' T' l' (by rw [he]; exact List.mem_singleton_self _) ho)
            rw [asRow_view hrow] at hv
            have hr := bytes_string (P := P) hΓ h1 h2 h4 hv
            exact Post.quiet hob (v := .string ⟨⟨l⟩⟩) (by simp [execOp, hop, hr]) (hZ _ _ h) rfl
          · cases h
        · cases h
    · cases h
  · cases h
end Go.Ae
