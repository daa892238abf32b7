/- Comparison, arithmetic, conversions, parts of slices, append. -/
import Derived.Test.YtaoaagbfjekecaaDoorAe6
set_option linter.unusedVariables false
set_option linter.unusedSimpArgs false
namespace Go.Ae
open Go.RowKit
variable {P : Program} {Γ : Tys} {o : Oper} {a : Act} {w : World} {m : Md} {g : List Value} {ob : Store} {Z : AV → List Wr → Prop}

theorem toList_mk (s : List UInt8) : (⟨⟨s⟩⟩ : ByteArray).toList = s := by rw [ByteArray.toList_eq]
theorem beq_mk (s t : List UInt8) : ((⟨⟨s⟩⟩ : ByteArray) == ⟨⟨t⟩⟩) = (s == t) := by rw [beq_toListBytes, toList_mk, toList_mk]

theorem eqFs_sound (hΓ : GOk P Γ) (d : Nat) (rec : TypeId → AV → AV → Option Bool)
    (hrec : ∀ t x y b u v, rec t x y = some b → RepV w m g x u → RepV w m g y v → (Op.equalIn d t u v).run P w = .ok b w) {xs ys : List AV} {us vs : Array Value} (hx : RepL w m g xs us.toList) (hy : RepL w m g ys vs.toList) :
    ∀ (fields : List Field) (b : Bool), (∀ f ∈ fields, f.name ≠ "_") → eqFs part rec Γ xs ys (fields.map fun f => (f.offset, f.type)) = some b → (Op.eqFields d us vs fields).run P w = .ok b w
  | [], b, _, h => by simp [eqFs] at h; subst h; simp [Op.eqFields]
  | f :: fs, b, hn, h => by
    simp only [List.map_cons, eqFs] at h
    split at h
    · rename_i ti hti
      split at h
      · rename_i x y hpx hpy
        split at h
        · rename_i a1 b1 ha hb
          cases h
          obtain ⟨u, h1, h2⟩ := run_part hΓ hti hpx hx
          obtain ⟨v, h3, h4⟩ := run_part hΓ hti hpy hy
          have h5 := hrec _ _ _ _ _ _ ha h2 h4
          have ih := eqFs_sound hΓ d rec hrec hx hy fs b1 (fun f hf => hn f (List.mem_cons_of_mem _ hf)) hb
          have hne : f.name ≠ "_" := hn f List.mem_cons_self
          simp only [Op.eqFields, if_pos hne, Sem.run_bind, h1, Result.andThen_ok, h3, h5]
          cases a1
          · simp
          · simpa using ih
        · cases h
      · cases h
    · cases h

theorem eqT_sound (hΓ : GOk P Γ) : ∀ (n : Nat) (d : Nat) (t : TypeId) (x y : AV) (b : Bool) (u v : Value), n ≤ d → eqT Γ n t x y = some b → RepV w m g x u → RepV w m g y v → (Op.equalIn d t u v).run P w = .ok b w
  | 0, _, _, _, _, _, _, _, _, h, _, _ => by simp [eqT] at h
  | n + 1, 0, _, _, _, _, _, _, hd, _, _, _ => by omega
  | n + 1, d + 1, t, x, y, b, u, v, hd, h, hx, hy => by
    simp only [eqT] at h
    split at h
    · rename_i ti hti
      split at h
      · rename_i k0 k a0 k' b0 hd0
        split at h
        · rename_i e; subst e; cases h
          rw [hx.1, hy.1]
          exact run_equalIn_int w d t k k0 a0 b0 (hΓ.intT ((tdOf_some hti).trans hd0))
        · cases h
      · rename_i a0 b0 hd0; cases h
        rw [show u = _ from hx, show v = _ from hy]
        exact run_equalIn_bool' w d t a0 b0 (hΓ.boolT ((tdOf_some hti).trans hd0))
      · rename_i a0 b0 hd0; cases h
        rw [show u = _ from hx, show v = _ from hy]
        have := run_equalIn_string (P := P) w d t ⟨⟨a0⟩⟩ ⟨⟨b0⟩⟩ (hΓ.strT ((tdOf_some hti).trans hd0))
        rwa [toList_mk, toList_mk] at this
      · rename_i fs xs ys hd0
        split at h
        · rename_i hc
          obtain ⟨us, rfl, h1⟩ := hx
          obtain ⟨vs, rfl, h2⟩ := hy
          obtain ⟨fields, h3, h4⟩ := hΓ.structT ((tdOf_some hti).trans hd0)
          obtain ⟨h5, h6, h7⟩ := (hΓ t ti hti).cmp hc
          have hfo : P.fieldsOf t = fields := by unfold Program.fieldsOf; rw [h3]
          rw [run_equalIn_struct w d t us vs (by rw [hfo]; exact h3) h5, hfo]
          subst h4
          exact eqFs_sound hΓ d (eqT Γ n) (fun t x y b u v he hu hv => eqT_sound hΓ n d t x y b u v (by omega) he hu hv) h1 h2 fields.toList b (h7 fields h3) h
        · cases h
      · cases h
    · cases h

theorem bytesLess_mk (s t : List UInt8) : Op.bytesLess (⟨⟨s⟩⟩ : ByteArray).toList (⟨⟨t⟩⟩ : ByteArray).toList = Op.bytesLess s t := by rw [toList_mk, toList_mk]

theorem rng_shr {k : IntKind} {x : Int} (h : Rng k x) (n : Nat) : Rng k (x.fdiv (2 ^ n)) := by
  intro e
  obtain ⟨h1, h2⟩ := h e
  have hp : (0 : Int) < 2 ^ n := Int.pow_pos (by omega)
  rw [Int.fdiv_eq_ediv_of_nonneg _ (Int.le_of_lt hp)]
  refine ⟨Int.ediv_nonneg h1 (Int.le_of_lt hp), ?_⟩
  have := Int.ediv_le_self (2 ^ n : Int) h1
  omega
theorem rng_rem {k : IntKind} {x y : Int} (h : Rng k x) : Rng k (x.tmod y) := by
  intro e
  obtain ⟨h1, h2⟩ := h e
  refine ⟨Int.tmod_nonneg y h1, ?_⟩
  have h3 := Int.natAbs_tmod x y
  have h4 := Nat.mod_le x.natAbs y.natAbs
  omega

theorem op_bin (hΓ : GOk P Γ) (hob : RepOb w m g ob) {op : BinOp} {t u : TypeId} {x y : Operand} {ax ay : AV} {R : Type} {κ : AV → Option R} {r : R} (hop : o.op = .binOp op t x y u) (hx : RepV w m g ax (a.eval x)) (hy : RepV w m g ay (a.eval y))
    (h : binF Γ op t ax ay κ = some r) (hZ : ∀ v, κ v = some r → Z v []) : Post P o a w m g ob Z := by
  have key : ∀ (v : Value) (av : AV), (eqGuard op t x y (a.eval x) (a.eval y)).run P w = .ok () w → (binOp op t (a.eval x) (a.eval y)).run P w = .ok v w → RepV w m g av v → κ av = some r → Post P o a w m g ob Z := by
    intro v av h1 h2 h3 h4
    exact Post.quiet hob (v := v) (by simp [execOp, hop, h1, h2]) (hZ av h4) h3
  have keyI : ∀ {kk : IntKind} {nn : Int}, κ (.int kk nn) = some r → Rng kk nn → (eqGuard op t x y (a.eval x) (a.eval y)).run P w = .ok () w → (binOp op t (a.eval x) (a.eval y)).run P w = .ok (.int kk nn) w → Post P o a w m g ob Z :=
    fun h4 h3 h1 h2 => key _ (.int _ _) h1 h2 ⟨rfl, h3⟩ h4
  have keyB : ∀ {b : Bool}, κ (.bool b) = some r → (eqGuard op t x y (a.eval x) (a.eval y)).run P w = .ok () w → (binOp op t (a.eval x) (a.eval y)).run P w = .ok (.bool b) w → Post P o a w m g ob Z :=
    fun h4 h1 h2 => key _ (.bool _) h1 h2 rfl h4
  unfold binF at h
  split at h
  · rename_i k n k' n'
    obtain ⟨ex, hn⟩ := hx
    obtain ⟨ey, hn'⟩ := hy
    have hg : ∀ op, (eqGuard op t x y (.int k n) (.int k' n')).run P w = .ok () w := by intro op; cases op <;> simp [eqGuard]
    split at h
    · obtain ⟨hb, h⟩ := chk_some h
      have : ¬ n' < 0 := by simpa using hb
      exact keyI h (Rng.wrap _ _) (by rw [ex, ey]; exact hg _) (by rw [ex, ey]; simp [binOp, Op.shift, this])
    · obtain ⟨hb, h⟩ := chk_some h
      have : ¬ n' < 0 := by simpa using hb
      exact keyI h (rng_shr hn _) (by rw [ex, ey]; exact hg _) (by rw [ex, ey]; simp [binOp, Op.shift, this])
    · rename_i op hne1 hne2
      split at h
      · rename_i e; subst e
        split at h <;> (try (cases h; done))
        · exact keyI h (Rng.wrap _ _) (by rw [ex, ey]; exact hg _) (by rw [ex, ey]; simp [binOp, Op.intArith])
        · exact keyI h (Rng.wrap _ _) (by rw [ex, ey]; exact hg _) (by rw [ex, ey]; simp [binOp, Op.intArith])
        · exact keyI h (Rng.wrap _ _) (by rw [ex, ey]; exact hg _) (by rw [ex, ey]; simp [binOp, Op.intArith])
        · obtain ⟨hb, h⟩ := chk_some h
          have : n' ≠ 0 := by simpa using hb
          exact keyI h (Rng.wrap _ _) (by rw [ex, ey]; exact hg _) (by rw [ex, ey]; simp [binOp, Op.intDiv, this])
        · obtain ⟨hb, h⟩ := chk_some h
          have : n' ≠ 0 := by simpa using hb
          exact keyI h (rng_rem hn) (by rw [ex, ey]; exact hg _) (by rw [ex, ey]; simp [binOp, Op.intDiv, this])
        · exact keyB h (by rw [ex, ey]; exact hg _) (by rw [ex, ey]; simp [binOp, Op.intCmp])
        · exact keyB h (by rw [ex, ey]; exact hg _) (by rw [ex, ey]; simp [binOp, Op.intCmp])
        · exact keyB h (by rw [ex, ey]; exact hg _) (by rw [ex, ey]; simp [binOp, Op.intCmp])
        · exact keyB h (by rw [ex, ey]; exact hg _) (by rw [ex, ey]; simp [binOp, Op.intCmp])
        · exact keyB h (by rw [ex, ey]; exact hg _) (by rw [ex, ey]; simp [binOp, Op.intCmp])
        · exact keyB h (by rw [ex, ey]; exact hg _) (by rw [ex, ey]; simp [binOp, Op.intCmp])
        · exact keyI h (Rng.wrap _ _) (by rw [ex, ey]; exact hg _) (by rw [ex, ey]; simp [binOp, Op.intBits, intBits])
        · exact keyI h (Rng.wrap _ _) (by rw [ex, ey]; exact hg _) (by rw [ex, ey]; simp [binOp, Op.intBits, intBits])
        · exact keyI h (Rng.wrap _ _) (by rw [ex, ey]; exact hg _) (by rw [ex, ey]; simp [binOp, Op.intBits, intBits])
        · exact keyI h (Rng.wrap _ _) (by rw [ex, ey]; exact hg _) (by rw [ex, ey]; simp [binOp, Op.intBits, intBits])
      · cases h
  · rename_i p q
    have ex : a.eval x = .bool p := hx
    have ey : a.eval y = .bool q := hy
    have hg : ∀ op, (eqGuard op t x y (.bool p) (.bool q)).run P w = .ok () w := by intro op; cases op <;> simp [eqGuard]
    split at h
    · rename_i ht
      have hb := hΓ.boolT ht
      split at h
      · exact keyB h (by rw [ex, ey]; exact hg _) (by rw [ex, ey]; exact run_eql_bool w t p q hb)
      · exact keyB h (by rw [ex, ey]; exact hg _) (by rw [ex, ey]; exact run_neq_bool w t p q hb)
      · cases h
    · cases h
  · rename_i s q
    have ex : a.eval x = .string ⟨⟨s⟩⟩ := hx
    have ey : a.eval y = .string ⟨⟨q⟩⟩ := hy
    have hg : ∀ op, (eqGuard op t x y (.string ⟨⟨s⟩⟩) (.string ⟨⟨q⟩⟩)).run P w = .ok () w := by intro op; cases op <;> simp [eqGuard]
    have z1 : (⟨⟨s⟩⟩ : ByteArray).size = s.length := rfl
    have z2 : (⟨⟨q⟩⟩ : ByteArray).size = q.length := rfl
    split at h <;> (try (cases h; done))
    · obtain ⟨hb, h⟩ := chk_some h
      refine key (.string ⟨⟨s ++ q⟩⟩) (.str (s ++ q)) (by rw [ex, ey]; exact hg _) ?_ rfl h
      have : ¬ (9223372036854775807 < (s.length : Int) + (q.length : Int)) := by simp at hb; omega
      rw [ex, ey]
      simp [binOp, Op.stringOp, z1, z2, IntKind.max, IntKind.signed, IntKind.bits, this]
      rfl
    · exact keyB h (by rw [ex, ey]; exact hg _) (by rw [ex, ey]; simp [binOp, Op.stringOp, toList_mk])
    · exact keyB h (by rw [ex, ey]; exact hg _) (by rw [ex, ey]; simp [binOp, Op.stringOp, toList_mk])
    · exact keyB h (by rw [ex, ey]; exact hg _) (by rw [ex, ey]; simp [binOp, Op.stringOp, toList_mk])
    · exact keyB h (by rw [ex, ey]; exact hg _) (by rw [ex, ey]; simp [binOp, Op.stringOp, toList_mk, leB])
    · exact keyB h (by rw [ex, ey]; exact hg _) (by rw [ex, ey]; simp [binOp, Op.stringOp, toList_mk, leB])
    · exact keyB h (by rw [ex, ey]; exact hg _) (by rw [ex, ey]; simp [binOp, Op.stringOp, toList_mk])
  · rename_i xs ys
    have hx' := hx
    have hy' := hy
    obtain ⟨us, ex, h1⟩ := hx'
    obtain ⟨vs, ey, h2⟩ := hy'
    split at h
    · rename_i b hb
      have he := eqT_sound hΓ 9 10000 t _ _ b _ _ (by omega) hb hx hy
      have hgd : ∀ op, (eqGuard op t x y (a.eval x) (a.eval y)).run P w = .ok () w := by
        intro op
        simp only [eqT] at hb
        split at hb
        · rename_i ti hti
          split at hb <;> (try (cases hb; done)) <;> rename_i heq1 heq2 <;> (try (cases heq1; done))
          split at hb
          · rename_i hc
            rw [ex, ey]; exact run_eqGuard_agg w op t x y us vs ((hΓ t ti hti).cmp hc).2.1
          · cases hb
        · cases hb
      split at h
      · refine keyB h (hgd _) ?_
        rw [ex, ey] at he ⊢
        rw [run_eql_struct, he]; rfl
      · refine keyB h (hgd _) ?_
        rw [ex, ey] at he ⊢
        rw [run_neq_struct, he]; rfl
      · cases h
    · cases h
  · cases h
theorem bin_eq {t : TypeId} {v1 v2 : Value} {b : Bool} (h : (Op.equalIn (9999 + 1) t v1 v2).run P w = .ok b w) (h1 : binOp .eql t v1 v2 = (do pure (.bool (← Op.equal t v1 v2)))) (h2 : binOp .neq t v1 v2 = (do pure (.bool (!(← Op.equal t v1 v2))))) :
    (binOp .eql t v1 v2).run P w = .ok (.bool b) w ∧ (binOp .neq t v1 v2).run P w = .ok (.bool (!b)) w := by
  have h' : (Op.equal t v1 v2).run P w = .ok b w := h
  rw [h1, h2]
  simp only [Sem.run_bind, h', Result.andThen, Sem.run_pure]
  exact ⟨trivial, trivial⟩
theorem eqn_i1 {t : TypeId} {ms : Array (String × TypeId)} (hu : P.underlying t = some (.interface ms)) (d : Nat) (tx : TypeId) (v : Value) : (Op.equalIn (d + 1) t (.iface tx v) .nilIface).run P w = .ok false w := by simp [Op.equalIn, run_underlying hu]
theorem eqn_i2 {t : TypeId} {ms : Array (String × TypeId)} (hu : P.underlying t = some (.interface ms)) (d : Nat) (tx : TypeId) (v : Value) : (Op.equalIn (d + 1) t .nilIface (.iface tx v)).run P w = .ok false w := by simp [Op.equalIn, run_underlying hu]
theorem eqn_i3 {t : TypeId} {ms : Array (String × TypeId)} (hu : P.underlying t = some (.interface ms)) (d : Nat) : (Op.equalIn (d + 1) t .nilIface .nilIface).run P w = .ok true w := by simp [Op.equalIn, run_underlying hu]
theorem eqn_p1 {t e : TypeId} (hu : P.underlying t = some (.pointer e)) (d : Nat) : (Op.equalIn (d + 1) t (.pointer none) (.pointer none)).run P w = .ok true w := by simp [Op.equalIn, run_underlying hu]
theorem eqn_p2 {t e : TypeId} (hu : P.underlying t = some (.pointer e)) (d : Nat) (q : Addr) : (Op.equalIn (d + 1) t (.pointer (some q)) (.pointer none)).run P w = .ok false w := by simp [Op.equalIn, run_underlying hu]
theorem eqn_p3 {t e : TypeId} (hu : P.underlying t = some (.pointer e)) (d : Nat) (q : Addr) : (Op.equalIn (d + 1) t (.pointer none) (.pointer (some q))).run P w = .ok false w := by simp [Op.equalIn, run_underlying hu]
theorem eqn_f1 {t : TypeId} {p1 p2 : Array TypeId} {p3 : Bool} (hu : P.underlying t = some (.func p1 p2 p3)) (d : Nat) : (Op.equalIn (d + 1) t .nilFunc .nilFunc).run P w = .ok true w := by simp [Op.equalIn, run_underlying hu]
theorem eqn_f2 {t : TypeId} {p1 p2 : Array TypeId} {p3 : Bool} (hu : P.underlying t = some (.func p1 p2 p3)) (d : Nat) (f : Fn) (a b : Array Value) : (Op.equalIn (d + 1) t (.func f a b) .nilFunc).run P w = .ok false w := by simp [Op.equalIn, run_underlying hu]
theorem eqn_f3 {t : TypeId} {p1 p2 : Array TypeId} {p3 : Bool} (hu : P.underlying t = some (.func p1 p2 p3)) (d : Nat) (f : Fn) (a b : Array Value) : (Op.equalIn (d + 1) t .nilFunc (.func f a b)).run P w = .ok false w := by simp [Op.equalIn, run_underlying hu]
theorem op_nil (hΓ : GOk P Γ) (hob : RepOb w m g ob) {op : BinOp} {t u : TypeId} {x y : Operand} {ax ay : AV} {b : Bool} (hop : o.op = .binOp op t x y u) (hb : nilEq Γ t x y ax ay = some b) (hx : RepV w m g ax (a.eval x)) (hy : RepV w m g ay (a.eval y))
    (ho : op = .eql ∧ Z (.bool b) [] ∨ op = .neq ∧ Z (.bool (!b)) []) : Post P o a w m g ob Z := by
  have key : ∀ (v1 v2 : Value), a.eval x = v1 → a.eval y = v2 → (∀ op, (eqGuard op t x y v1 v2).run P w = .ok () w) → ((binOp .eql t v1 v2).run P w = .ok (.bool b) w ∧ (binOp .neq t v1 v2).run P w = .ok (.bool (!b)) w) → Post P o a w m g ob Z := by
    intro v1 v2 h1 h2 h3 h45
    obtain ⟨h4, h5⟩ := h45
    rcases ho with ⟨rfl, hz⟩ | ⟨rfl, hz⟩
    · exact Post.quiet hob (v := .bool b) (by simp [execOp, hop, h1, h2, h3, h4]) hz rfl
    · exact Post.quiet hob (v := .bool (!b)) (by simp [execOp, hop, h1, h2, h3, h5]) hz rfl
  unfold nilEq at hb
  split at hb
  · rename_i ht
    obtain ⟨desc, hu, ms, rfl⟩ := hΓ.td ht (by simp)
    split at hb <;> try (cases hb; done)
    · cases hb
      obtain ⟨u, e1, _⟩ := hx
      have e2 : a.eval y = .nilIface := hy
      exact key _ _ e1 e2 (by intro op; cases op <;> simp [eqGuard]) (bin_eq (eqn_i1 hu _ _ _) rfl rfl)
    · cases hb
      obtain ⟨u, e2, _⟩ := hy
      have e1 : a.eval x = .nilIface := hx
      exact key _ _ e1 e2 (by intro op; cases op <;> simp [eqGuard]) (bin_eq (eqn_i2 hu _ _ _) rfl rfl)
    · split at hb
      · rename_i hl
        cases hb
        have e1 : a.eval x = .nilIface := hx
        have e2 : a.eval y = .nilIface := hy
        have hl' : (∃ c, x = .const c) ∨ ∃ c, y = .const c := by
          simp only [Bool.or_eq_true] at hl
          rcases hl with hl | hl
          · cases x <;> simp [litO] at hl; exact .inl ⟨_, rfl⟩
          · cases y <;> simp [litO] at hl; exact .inr ⟨_, rfl⟩
        exact key _ _ e1 e2 (by intro op; rcases hl' with ⟨c, rfl⟩ | ⟨c, rfl⟩ <;> cases op <;> simp [eqGuard]) (bin_eq (eqn_i3 hu _) rfl rfl)
      · cases hb
  · rename_i e ht
    obtain ⟨desc, hu, hd⟩ := hΓ.td ht (by simp)
    have hd' : desc = .pointer e := hd
    subst hd'
    split at hb <;> try (cases hb; done)
    · cases hb
      have e1 : a.eval x = .pointer none := hx
      have e2 : a.eval y = .pointer none := hy
      exact key _ _ e1 e2 (by intro op; cases op <;> simp [eqGuard]) (bin_eq (eqn_p1 hu _) rfl rfl)
    · cases hb
      obtain ⟨b, _, e1⟩ := hx
      have e2 : a.eval y = .pointer none := hy
      exact key _ _ e1 e2 (by intro op; cases op <;> simp [eqGuard]) (bin_eq (eqn_p2 hu _ _) rfl rfl)
    · cases hb
      obtain ⟨b, _, e2⟩ := hy
      have e1 : a.eval x = .pointer none := hx
      exact key _ _ e1 e2 (by intro op; cases op <;> simp [eqGuard]) (bin_eq (eqn_p3 hu _ _) rfl rfl)
    · cases hb
      obtain ⟨b, q, us, e1, _⟩ := hx
      have e2 : a.eval y = .pointer none := hy
      exact key _ _ e1 e2 (by intro op; cases op <;> simp [eqGuard]) (bin_eq (eqn_p2 hu _ _) rfl rfl)
    · cases hb
      obtain ⟨b, n, c, _, _, e1⟩ := hx
      have e2 : a.eval y = .pointer none := hy
      exact key _ _ e1 e2 (by intro op; cases op <;> simp [eqGuard]) (bin_eq (eqn_p2 hu _ _) rfl rfl)
  · rename_i ht
    obtain ⟨desc, hu, p1, p2, p3, rfl⟩ := hΓ.td ht (by simp)
    split at hb <;> try (cases hb; done)
    · cases hb
      have e1 : a.eval x = .nilFunc := hx
      have e2 : a.eval y = .nilFunc := hy
      exact key _ _ e1 e2 (by intro op; cases op <;> simp [eqGuard]) (bin_eq (eqn_f1 hu _) rfl rfl)
    · cases hb
      obtain ⟨fs, cs, e1, _⟩ := hx
      have e2 : a.eval y = .nilFunc := hy
      exact key _ _ e1 e2 (by intro op; cases op <;> simp [eqGuard]) (bin_eq (eqn_f2 hu _ _ _ _) rfl rfl)
    · cases hb
      obtain ⟨fs, cs, e2, _⟩ := hy
      have e1 : a.eval x = .nilFunc := hx
      exact key _ _ e1 e2 (by intro op; cases op <;> simp [eqGuard]) (bin_eq (eqn_f3 hu _ _ _ _) rfl rfl)
  · cases hb
end Go.Ae
