/- The texts of the proof, one behind the other: PPN, WC, WD, PCapsPlain, PGlob. -/
import Derived.Test.YtiacnhhmkdkpmaaGreatDoorAMo5
import Derived.Test.YtiacnhhmkdkpmaaGreatDoorRows
import Derived.Test.YtiacnhhmkdkpmaaGreatDoorProg
import Derived.Test.YtiacnhhmkdkpmaaGreatDoorAMo2
import Derived.MakeChecks
set_option linter.unusedVariables false
set_option linter.unusedSimpArgs false
set_option maxRecDepth 100000
namespace Go.Proofs.YtiacnhhmkdkpmaaGreatDoorA.W
open Go Go.Ae
def lowb (b : UInt8) : UInt8 := UInt8.ofNat (((C64 ((b.toNat : Int), ())).getD (0, ())).1.toNat)
theorem low_k : ((List.range 256).all fun n => (C64 (((UInt8.ofNat n).toNat : Int), ())).isSome) = true := by kernel_rfl
theorem p64 (b : UInt8) : ∃ v : Int, C64 ((b.toNat : Int), ()) = some (v, ()) ∧ UInt8.ofNat v.toNat = lowb b := by
 have h := List.all_eq_true.1 low_k b.toNat (by simp only [List.mem_range]; exact b.toNat_lt)
 simp only [UInt8.ofNat_toNat] at h
 obtain ⟨⟨v, u⟩, hv⟩ := Option.isSome_iff_exists.1 h
 exact ⟨v, hv, by unfold lowb; rw [hv]; rfl⟩
theorem pl63 : ∀ (r pre : List UInt8) (p n : Nat) (acc : List UInt8), pre.length = p → acc.length = p → r.length < n → p + r.length ≤ 1000000 →
 loopN (F63_l0 C64) n (pre ++ r, ((p + r.length : Nat) : Int), (p : Int), acc, ()) = some (acc ++ r.map lowb, ())
 | [], pre, p, n + 1, acc, hp, ha, hn, hb => by
  refine loopN_inr ?_
  simp only [F63_l0, List.length_nil, Nat.add_zero]
  rw [decide_eq_false (by omega)]
  simp only [cond_false, List.map_nil, List.append_nil]
 | c :: r, pre, p, n + 1, acc, hp, ha, hn, hb => by
  simp only [List.length_cons] at hn hb
  obtain ⟨v, hv, hl⟩ := p64 c
  have hlen : (pre ++ c :: r).length = p + r.length + 1 := by simp [hp]; omega
  rw [loopN_inl (v' := (pre ++ c :: r, ((p + (r.length + 1) : Nat) : Int), ((p + 1 : Nat) : Int), acc ++ [lowb c], ())) ?_]
  · have ih := pl63 r (pre ++ [c]) (p + 1) n (acc ++ [lowb c]) (by simp [hp]) (by simp [ha]) (by omega) (by omega)
    rw [show p + (r.length + 1) = p + 1 + r.length by omega, show pre ++ c :: r = (pre ++ [c]) ++ r by simp, ih]
    simp
  · simp only [F63_l0, List.length_cons]
    rw [decide_eq_true (by omega), decide_eq_true (by omega), decide_eq_true (by omega)]
    simp only [Bool.and_self, cond_true, Int.toNat_natCast]
    rw [show (pre ++ c :: r).getD p 0 = c by subst hp; simp]
    simp only [hv, Option.bind_some, hl, wrN p (by omega)]
    rw [decide_eq_true (by simp only [List.length_cons, List.length_nil]; omega)]
    rfl
theorem p25 (l : List UInt8) (h : l.length ≤ 1000000) : C25 (l, ()) = some (l.map lowb, ()) := by
 have hl : C63_l0 (l, (l.length : Int), 0, [], ()) = some (l.map lowb, ()) := by
  have h := pl63 l [] 0 big [] rfl rfl (by unfold big; omega) (by omega)
  rw [Nat.zero_add] at h
  exact h
 have h63 : C63 (l, ()) = some (l.map lowb, ()) := by
  show F63 C64 C63_l0 _ = _
  simp only [F63, hl, Option.bind_some]
 show F25 C63 _ = _
 simp only [F25, h63, Option.bind_some]
 rw [decide_eq_true (by omega)]
 rfl
section
variable {T : List R6} {A : List R4} {B : List R3}
end
theorem d195 (s : List UInt8) : Df (C195 (s, [46], ())) (fun y => -1 ≤ y.1 ∧ y.1 < s.length) := by
 unfold C195 F195
 dsimp only
 refine dZ (P := fun y => -1 ≤ y.1 ∧ y.1 < s.length) ?_ fun _ h => dP h
 unfold C197 F197
 dsimp only
 have e0 : ((([46] : List UInt8).length : Int) == 0) = false := rfl
 rw [e0]
 simp only [cond_false]
 refine dZ (d197_0 s _ fun h => ?_) fun _ h => dP h
 have := eq_of_beq h
 rw [← this]; decide
theorem d194 (s : List UInt8) : Df (C194 (s, [46], ())) (fun y => 0 ≤ y.1 ∧ y.1 ≤ s.length) := by
 refine ⟨((Lib.countByte s 46 : Nat), ()), rfl, Int.natCast_nonneg _, ?_⟩
 have : Lib.countByte s 46 ≤ s.length := List.count_le_length
 dsimp only
 omega
theorem d161_l (L n : Nat) (hn : 1 ≤ n) (hL : L ≤ 1000000000000) (hnL : n ≤ 1000000000000) (s : List UInt8) (hs : s.length ≤ L) (rows : List (List UInt8)) (hr : rows.length = n) (ha : ∀ r ∈ rows, r.length ≤ L) :
 Df (C161_l0 (s, [46], 0, (n : Int) - 1, 0, rows, ())) (fun y => y.1.length ≤ L ∧ 0 ≤ y.2.1 ∧ y.2.1 < n ∧ y.2.2.1.length = n ∧ ∀ r ∈ y.2.2.1, r.length ≤ L) := by
 refine dL ?I ?m ?h _ ?hv ?hn
 case I => exact (fun v => (v.2.1, v.2.2.1, v.2.2.2.1) = ([46], 0, (n : Int) - 1) ∧ v.1.length ≤ L ∧ 0 ≤ v.2.2.2.2.1 ∧ v.2.2.2.2.1 < n ∧ v.2.2.2.2.2.1.length = n ∧ ∀ r ∈ v.2.2.2.2.2.1, r.length ≤ L)
 case m => exact (fun v => (n - v.2.2.2.2.1).toNat)
 case hv => exact ⟨rfl, hs, Int.le_refl _, by first | omega | (dsimp only; omega), hr, ha⟩
 case hn => exact (by first | omega | (dsimp only; omega))
 rintro ⟨s', x1, x2, x3, i, rows, u⟩ ⟨e, i1, i2, i3, i4, i5⟩
 dsimp only at e i1 i2 i3 i4 i5
 cases e
 unfold F161_l0
 dsimp only
 with_reducible repeat' (first | apply dP | apply dX <;> intro _)
 · refine dZ (d195 s') ?_
   rintro ⟨m, u⟩ ⟨h1, h2⟩
   dsimp only at h1 h2 ⊢
   rw [w64s (n := m + 0) (by omega), w64s (n := m + (([46] : List UInt8).length : Int)) (by simp only [List.length_cons, List.length_nil]; omega)]
   with_reducible repeat' (first | apply dP | apply dX <;> intro _)
   · exact ⟨i1, i2, i3, i4, i5⟩
   · rw [w64s (by omega)]
     refine ⟨⟨rfl, by simp only [List.length_drop]; omega, by first | omega | (dsimp only; omega), by first | omega | (dsimp only; omega), by simp only [List.length_set]; omega, fun r hr => ?_⟩, by first | omega | (dsimp only; omega)⟩
     dsimp only at hr
     rcases List.mem_or_eq_of_mem_set hr with h | h
     · exact i5 r h
     · subst h; simp only [List.length_take]; omega
   · refine dO ?_; rename_i hc; simp only [List.length_cons, List.length_nil] at hc; omega
   · refine dO ?_; omega
   · refine dO ?_; omega
 · exact ⟨i1, i2, i3, i4, i5⟩
theorem d161 (s : List UInt8) (hs : s.length ≤ 1000000000) : Df (C161 (s, [46], 0, -1, ())) (fun y => y.1.length ≤ s.length + 1 ∧ ∀ p ∈ y.1, p.length ≤ s.length) := by
 unfold C161 F161
 dsimp only
 rw [show ((-1 : Int) == 0) = false from rfl, show (([46] : List UInt8) == []) = false from rfl, show decide ((-1 : Int) < 0) = true from rfl]
 simp only [cond_false, cond_true]
 refine dZ (d194 s) ?_
 rintro ⟨c, u⟩ ⟨h1, h2⟩
 dsimp only at h1 h2 ⊢
 rw [w64s (n := c + 1) (by omega)]
 refine dZ (P := fun y => y.1.length ≤ s.length + 1 ∧ ∀ p ∈ y.1, p.length ≤ s.length) ?_ fun _ h => dP h
 unfold C161_c0 F161_c0
 dsimp only
 rw [w64s (n := (s.length : Int) + 1) (by omega)]
 obtain ⟨n, rfl⟩ : ∃ n : Nat, c = (n : Int) := ⟨c.toNat, by omega⟩
 have hif : (if (s.length : Int) + 1 < (n : Int) + 1 then (s.length : Int) + 1 else (n : Int) + 1) = ((n + 1 : Nat) : Int) := by rw [if_neg (by omega)]; omega
 simp only [hif]
 have hc : (decide (0 ≤ ((n + 1 : Nat) : Int)) && (decide True && (decide ((16 : Int) * ((n + 1 : Nat) : Int) ≤ 281474976710656) && decide (((n + 1 : Nat) : Int) ≤ 140737488355328)))) = true := by
  simp only [Bool.and_eq_true, decide_eq_true_eq]
  exact ⟨by omega, trivial, by omega, by omega⟩
 have hc' : (decide (0 ≤ ((n + 1 : Nat) : Int)) && (decide True && (decide (((16 : Nat) : Int) * ((n + 1 : Nat) : Int) ≤ 281474976710656) && decide (((n + 1 : Nat) : Int) ≤ 140737488355328)))) = true := hc
 first | rw [hc] | rw [hc']
 simp only [cond_true, Int.toNat_natCast]
 rw [w64s (n := ((n + 1 : Nat) : Int) - 1) (by omega)]
 refine dZ (d161_l s.length (n + 1) (by omega) (by omega) (by omega) s (Nat.le_refl _) (List.replicate (n + 1) []) (by simp) (fun r hr => by rw [(List.mem_replicate.1 hr).2]; exact Nat.zero_le _)) ?_
 rintro ⟨s', i, rows, u⟩ ⟨j1, j2, j3, j4, j5⟩
 dsimp only at j1 j2 j3 j4 j5 ⊢
 rw [w64s (n := i + 1) (by omega)]
 with_reducible repeat' (first | apply dP | apply dX <;> intro _)
 · refine ⟨?_, fun p hp => ?_⟩
   · simp only [List.length_take, List.length_set]; omega
   · rcases List.mem_or_eq_of_mem_set (List.mem_of_mem_take hp) with h | h
     · exact j5 p h
     · subst h; exact j1
 · refine dO ?_; rename_i hc; simp only [List.length_set] at hc; omega
 · refine dO ?_; omega
theorem d47 (s : List UInt8) (hs : s.length ≤ 1000000000) : Df (C47 (s, ())) (fun _ => True) := by
 unfold C47 F47
 dsimp only
 refine dZ (P := fun _ => True) ?_ (fun z _ => by cases z <;> exact dP trivial)
 refine dL ?I ?m ?h _ ?hv ?hn
 case I => exact (fun v => v.1 = s ∧ v.2.1 = s.length ∧ 0 ≤ v.2.2.1)
 case m => exact (fun v => (s.length - v.2.2.1).toNat)
 case hv => exact ⟨rfl, rfl, Int.le_refl _⟩
 case hn => exact (by first | omega | (dsimp only; omega))
 rintro ⟨s', n, k, u⟩ ⟨h1, h2, h3⟩
 dsimp only at h1 h2 h3
 subst h1
 subst h2
 unfold F47_l0
 dsimp only
 with_reducible repeat' (first | apply dP | apply dX <;> intro _)
 · rw [c17]
   simp only [Option.bind_some]
   with_reducible repeat' (first | apply dP | apply dX <;> intro _)
   · trivial
   · rw [w64s (by omega)]
     exact ⟨⟨rfl, rfl, by first | omega | (dsimp only; omega)⟩, by first | omega | (dsimp only; omega)⟩
 · refine dO ?_; omega
 · trivial
theorem d88 (s : List UInt8) (hs : s.length ≤ 1000000000) : Df (C88 (s, ())) (fun _ => True) := by
 unfold C88 F88
 dsimp only
 refine dZ (P := fun y => y.1.length ≤ s.length + 1 ∧ ∀ p ∈ y.1, p.length ≤ s.length) ?_ ?_
 · unfold C125 F125
   dsimp only
   exact dZ (d161 s hs) fun _ h => dP h
 rintro ⟨ps, u⟩ ⟨g1, g2⟩
 dsimp only at g1 g2 ⊢
 refine dZ (P := fun _ => True) ?_ (fun z _ => by cases z <;> exact dP trivial)
 refine dL ?I ?m ?h _ ?hv ?hn
 case I => exact (fun v => v.1 = ps ∧ v.2.1 = ps.length ∧ 0 ≤ v.2.2.1)
 case m => exact (fun v => (ps.length - v.2.2.1).toNat)
 case hv => exact ⟨rfl, rfl, Int.le_refl _⟩
 case hn => exact (by first | omega | (dsimp only; omega))
 rintro ⟨s', n, k, u⟩ ⟨h1, h2, h3⟩
 dsimp only at h1 h2 h3
 subst h1
 subst h2
 unfold F88_l0
 dsimp only
 with_reducible repeat' (first | apply dP | apply dX <;> intro _)
 · have hg : (s'.getD k.toNat []) ∈ s' := by rw [getD_lt (by omega)]; exact List.getElem_mem _
   have := g2 _ hg
   refine dZ (d47 _ (by omega)) ?_
   rintro ⟨b, u⟩ -
   dsimp only
   with_reducible repeat' (first | apply dP | apply dX <;> intro _)
   · trivial
   · rw [w64s (by omega)]
     exact ⟨⟨rfl, rfl, by first | omega | (dsimp only; omega)⟩, by first | omega | (dsimp only; omega)⟩
 · refine dO ?_; omega
 · trivial
theorem d45 (a b : List UInt8) (ha : a.length ≤ 1000) (hb : b.length ≤ 1000) : Df (C45 (a, b, ())) (fun y => y.1 ≠ [] ∧ y.1.length ≤ 2 * a.length + b.length + 3) := by
 unfold C45 F45
 dsimp only
 refine dZ (d88 a (by omega)) ?_
 rintro ⟨w, u⟩ -
 dsimp only
 have he := esc_len a
 have hq : (src 1 a).length = (esc a).length + 2 := by simp [src]
 with_reducible repeat' (first | apply dP | apply dX <;> intro _)
 · rw [c9 1 a 0 (by omega)]
   simp only [Option.bind_some]
   with_reducible repeat' (first | apply dP | apply dX <;> intro _)
   · exact ⟨by simp, by simp only [List.length_append, List.length_cons, List.length_nil]; omega⟩
   all_goals (refine dO ?_; rename_i hc; simp only [List.length_append, List.length_cons, List.length_nil] at hc; omega)
 · exact ⟨by simp, by simp only [List.length_append, List.length_cons, List.length_nil]; omega⟩
 all_goals (refine dO ?_; rename_i hc; simp only [List.length_append, List.length_cons, List.length_nil] at hc; omega)
theorem d59 (n : Bool) (a b : List UInt8) (ha : a.length ≤ 1000) : Df (C59 (n, a, b, ())) (fun y => y.1 = true → n = false ∧ a ≠ []) := by
 unfold C59 F59
 dsimp only
 with_reducible repeat' (first | apply dP | apply dX <;> intro _)
 · rename_i hn _
   rw [p25 a (by omega)]
   refine dP fun h => ⟨hn, ?_⟩
   rintro rfl
   cases h
 · intro h; cases h
 · intro h; cases h
theorem d22 (n : Bool) (a b : List UInt8) (ha : a.length ≤ 1000) (hb : b.length ≤ 1000) : Df (C22 (n, a, b, ())) (fun y => (n = true → y.1 = [60, 62]) ∧ (n = false → ∃ x, x ≠ [] ∧ y.1 = [60] ++ x ++ [62]) ∧ y.1.length ≤ 2 * a.length + b.length + 5) := by
 unfold C22 F22
 dsimp only
 with_reducible repeat' (first | apply dP | apply dX <;> intro _)
 · rename_i hn
   exact ⟨fun _ => rfl, fun h => (by rw [hn] at h; cases h), by simp only [List.length_cons, List.length_nil]; omega⟩
 · rename_i hn
   refine dZ (d59 n a b ha) ?_
   rintro ⟨m, u⟩ hm
   dsimp only at hm ⊢
   with_reducible repeat' (first | apply dP | apply dX <;> intro _)
   · rename_i h1 _ _
     exact ⟨fun h => (by rw [hn] at h; cases h), fun _ => ⟨a, (hm h1).2, rfl⟩, by simp only [List.length_append, List.length_cons, List.length_nil]; omega⟩
   · refine dO ?_; rename_i hc; simp only [List.length_append, List.length_cons, List.length_nil] at hc; omega
   · refine dO ?_; rename_i hc; simp only [List.length_append, List.length_cons, List.length_nil] at hc; omega
   · refine dZ (d45 a b ha hb) ?_
     rintro ⟨x, u⟩ ⟨k1, k2⟩
     dsimp only at k1 k2 ⊢
     with_reducible repeat' (first | apply dP | apply dX <;> intro _)
     · exact ⟨fun h => (by rw [hn] at h; cases h), fun _ => ⟨x, k1, rfl⟩, by simp only [List.length_append, List.length_cons, List.length_nil]; omega⟩
     all_goals (refine dO ?_; rename_i hc; simp only [List.length_append, List.length_cons, List.length_nil] at hc; omega)
section
variable {T : List R6} {A : List R4} {B : List R3}
theorem d20 (h : TK T A B) (a b : List UInt8) (ha : a.length ≤ 1000) (hb : b.length ≤ 1000) : Df (C20 (T, A, B, false, a, b, ())) (fun _ => True) := by
 unfold C20 F20
 dsimp only
 refine dZ (P := fun y => ∀ z, y = .inr z → z = (T, A, B, false, a, b, ())) ?_ ?_
 · unfold C20_c0 F20_c0
   dsimp only
   refine dZ (d59 false a b ha) ?_
   rintro ⟨m, u⟩ -
   dsimp only
   with_reducible repeat' (first | apply dP | apply dX <;> intro _)
   · intro z hz; cases hz
   · intro z hz; cases hz; rfl
 intro z hz
 cases z with
 | inl z => exact dP trivial
 | inr z =>
  have e := hz _ rfl
  subst e
  exact dZ (d44 h a b (by omega) (by omega)) fun _ _ => dP trivial
end
section
variable {T : List R6} {A : List R4} {B : List R3}
end
def Li284 : List Sh := [.str, .str, .int .i64, .int .i64, .iface 238, .int .i64]
def Lo285 : Outs := [(.ret, [.iface 239, .top])]
def Li286 : List Sh := [.agg 2, .int .i64, .lst .str]
def Li287 : List Sh := (tp 3 (List.cons (.row 0) (tp 6 (List.cons (.lst .str) (List.cons (.int .i64) (List.cons (.int .i64) (tp 19 (List.cons (.orow 9 .str) []))))))))
def Lo288 : Outs := [((.exit 0), (tp 3 (List.cons (.row 0) (tp 28 (List.cons (.orow 9 .str) [])))))]
def Li289 : List Sh := (List.cons (.lst .str) (List.cons (.str) (tp 5 (List.cons (.int .i64) (List.cons (.int .i64) (tp 10 []))))))
def Lo290 : Outs := [((.exit 0), (tp 19 [])), (.ret, (tp 4 (List.cons (.int .i64) (tp 14 []))))]
def Li291 : List Sh := (List.cons (.str) (List.cons (.top) (List.cons (.top) (List.cons (.int .i32) (List.cons (.int .i64) (List.cons (.bool) (tp 88 [])))))))
def Lo292 : Outs := [((.exit 0), (tp 3 (List.cons (.int .i32) (tp 90 [])))), (.ret, (List.cons (.top) (List.cons (.top) (List.cons (.bool) (tp 91 [])))))]
def Lo293 : Outs := [(.ret, (List.cons (.top) (List.cons (.top) (List.cons (.bool) (tp 91 [])))))]
def Li294 : List Sh := (List.cons (.str) (List.cons (.top) (List.cons (.top) (List.cons (.int .i32) (List.cons (.int .i64) (tp 89 []))))))
def Li295 : List Sh := [.str, .int .i64, .int .i64]
def Lo296 : Outs := [(.ret, [.tuple 2, .int .u64, .iface 238, .int .i64]), (.ret, [.tuple 2, .int .u64, .nili])]
def Li297 : List Sh := (List.cons (.str) (List.cons (.top) (List.cons (.int .i64) (tp 5 (List.cons (.bool) (List.cons (.str) (tp 54 (List.cons (.bool) (tp 107 [])))))))))
def Lo298 : Outs := [(.normal, (List.cons (.str) (List.cons (.int .i64) (List.cons (.int .i64) (tp 5 (List.cons (.bool) (List.cons (.str) (tp 162 []))))))))]
def Li299 : List Sh := (List.cons (.str) (List.cons (.top) (List.cons (.int .i64) (tp 5 (List.cons (.bool) (List.cons (.str) (tp 42 (List.cons (.bool) (tp 119 [])))))))))
def Li300 : List Sh := (List.cons (.str) (List.cons (.top) (List.cons (.int .i64) (tp 5 (List.cons (.bool) (List.cons (.str) (tp 30 (List.cons (.bool) (tp 131 [])))))))))
def Li301 : List Sh := (List.cons (.str) (List.cons (.int .i64) (List.cons (.int .i64) (tp 5 (List.cons (.bool) (List.cons (.str) (tp 15 (List.cons (.bool) (tp 146 [])))))))))
def Lo302 : Outs := [(.normal, (List.cons (.str) (List.cons (.int .i64) (List.cons (.int .i64) (tp 5 (List.cons (.bool) (List.cons (.str) (tp 162 [])))))))), (.ret, (tp 6 (List.cons (.int .u64) (List.cons (.iface 238) (List.cons (.int .i64) (tp 164 []))))))]
def Li303 : List Sh := (List.cons (.top) (List.cons (.int .i64) (tp 6 (List.cons (.bool) (List.cons (.str) (List.cons (.int .u64) (List.cons (.int .u64) (List.cons (.bool) (List.cons (.int .u64) (List.cons (.top) (List.cons (.int .u8) (tp 83 (List.cons (.lst .byte) (List.cons (.int .i64) (List.cons (.int .i64) (tp 19 (List.cons (.bool) (tp 50 []))))))))))))))))))
def Lo304 : Outs := [(.normal, (List.cons (.top) (List.cons (.int .i64) (tp 6 (List.cons (.bool) (List.cons (.str) (List.cons (.int .u64) (List.cons (.int .u64) (List.cons (.bool) (List.cons (.int .u64) (List.cons (.top) (List.cons (.top) (List.cons (.int .u8) (tp 82 (List.cons (.lst .byte) (List.cons (.int .i64) (List.cons (.int .i64) (tp 70 [])))))))))))))))))), (.ret, (tp 6 (List.cons (.int .u64) (List.cons (.iface 238) (List.cons (.int .i64) (tp 164 []))))))]
def Li305 : List Sh := (List.cons (.top) (List.cons (.int .i64) (tp 6 (List.cons (.bool) (List.cons (.str) (List.cons (.int .u64) (List.cons (.int .u64) (List.cons (.bool) (List.cons (.int .u64) (List.cons (.top) (List.cons (.int .u8) (tp 83 (List.cons (.lst .byte) (List.cons (.int .i64) (List.cons (.int .i64) (tp 10 (List.cons (.bool) (tp 59 []))))))))))))))))))
def Li306 : List Sh := (List.cons (.top) (List.cons (.int .i64) (tp 6 (List.cons (.bool) (List.cons (.str) (List.cons (.int .u64) (List.cons (.int .u64) (List.cons (.bool) (List.cons (.int .u64) (List.cons (.top) (List.cons (.int .u8) (tp 83 (List.cons (.lst .byte) (List.cons (.int .i64) (List.cons (.int .i64) (tp 4 (List.cons (.bool) (tp 65 []))))))))))))))))))
def Lo307 : Outs := [((.exit 4), (List.cons (.top) (List.cons (.int .i64) (tp 6 (List.cons (.bool) (List.cons (.str) (List.cons (.int .u64) (List.cons (.int .u64) (List.cons (.bool) (List.cons (.int .u64) (tp 85 (List.cons (.lst .byte) (List.cons (.int .i64) (List.cons (.int .i64) (tp 70 []))))))))))))))), (.normal, (List.cons (.top) (List.cons (.int .i64) (tp 6 (List.cons (.bool) (List.cons (.str) (List.cons (.int .u64) (List.cons (.int .u64) (List.cons (.bool) (List.cons (.int .u64) (List.cons (.top) (List.cons (.top) (List.cons (.int .u8) (tp 82 (List.cons (.lst .byte) (List.cons (.int .i64) (List.cons (.int .i64) (tp 70 [])))))))))))))))))), (.ret, (tp 6 (List.cons (.int .u64) (List.cons (.iface 238) (List.cons (.int .i64) (tp 164 []))))))]
def Li308 : List Sh := (List.cons (.top) (List.cons (.int .i64) (tp 6 (List.cons (.bool) (List.cons (.str) (List.cons (.int .u64) (List.cons (.int .u64) (List.cons (.bool) (List.cons (.int .u64) (tp 85 (List.cons (.lst .byte) (List.cons (.int .i64) (List.cons (.int .i64) (tp 70 []))))))))))))))
def Lo309 : Outs := [((.exit 3), (tp 9 (List.cons (.str) (List.cons (.top) (List.cons (.top) (List.cons (.bool) (List.cons (.int .u64) (tp 158 [])))))))), (.ret, (tp 6 (List.cons (.int .u64) (List.cons (.iface 238) (List.cons (.int .i64) (tp 164 []))))))]
def Li310 : List Sh := (List.cons (.str) (List.cons (.int .i64) (List.cons (.int .i64) (tp 5 (List.cons (.bool) (List.cons (.str) (List.cons (.int .u64) (tp 161 []))))))))
def Lo311 : Outs := [(.ret, (tp 6 (List.cons (.int .u64) (List.cons (.iface 238) (List.cons (.int .i64) (tp 164 [])))))), (.ret, (tp 6 (List.cons (.int .u64) (List.cons (.nili) (tp 164 [])))))]
def Li312 : List Sh := (List.cons (.str) (List.cons (.int .i64) (List.cons (.int .i64) (tp 5 (List.cons (.bool) (List.cons (.str) (tp 162 [])))))))
def Lo313 : Outs := [(.ret, [.tuple 2, .int .u64, .iface 239, .top]), (.ret, [.tuple 2, .int .u64, .nili])]
def Lo314 : Outs := [(.ret, [.agg 3, .bool, .bool, .int .i64])]
def Lo315 : Outs := [(.ret, [.agg 3, .bool, .str, .str])]
def Lo316 : Outs := [(.ret, [.agg 10, .int .i64, .bool, .str, .str, .bool, .str, .str, .bool, .bool, .int .i64])]
def Li317 : List Sh := [.agg 3, .bool, .bool, .int .i64, .bool]
def Li318 : List Sh := [.agg 9, .bool, .str, .str, .bool, .str, .str, .bool, .bool, .int .i64]
def Li319 : List Sh := [.ptr 0 0, .ptr 1 0, .ptr 2 0, .obox 5, .lst YqA, .lst YqB, .lst YqC, .opq 0, .opq 1, .obox 9, .bool, .str, .str, .bool, .str, .str, .bool, .bool, .int .i64, .obox 10, .int .i64, .bool, .str, .str, .bool, .str, .str, .bool, .bool, .int .i64]
def Lo320 : Outs := [(.ret, [.bool, .obox 5, .lst YqA, .lst YqB, .lst YqC, .opq 0, .opq 1, .obox 9, .bool, .str, .str, .bool, .str, .str, .bool, .bool, .int .i64, .obox 10, .int .i64, .bool, .str, .str, .bool, .str, .str, .bool, .bool, .int .i64])]
def Li321 : List Sh := [.agg 5, .lst YqA, .lst YqB, .lst YqC, .opq 0, .opq 1, .agg 3, .bool, .bool, .int .i64, .agg 9, .bool, .str, .str, .bool, .str, .str, .bool, .bool, .int .i64]
def Li322 : List Sh := (tp 5 (List.cons (.ptr 0 0) (List.cons (.ptr 1 0) (List.cons (.ptr 2 0) (tp 51 (List.cons (.bool) (tp 21 (List.cons (.obox 9) (List.cons (.bool) (List.cons (.str) (List.cons (.str) (List.cons (.bool) (List.cons (.str) (List.cons (.str) (List.cons (.bool) (List.cons (.bool) (List.cons (.int .i64) (List.cons (.obox 10) (List.cons (.int .i64) (List.cons (.bool) (List.cons (.str) (List.cons (.str) (List.cons (.bool) (List.cons (.str) (List.cons (.str) (List.cons (.bool) (List.cons (.bool) (List.cons (.int .i64) (List.cons (.obox 10) (List.cons (.int .i64) (List.cons (.bool) (List.cons (.str) (List.cons (.str) (List.cons (.bool) (List.cons (.str) (List.cons (.str) (List.cons (.bool) (List.cons (.bool) (List.cons (.int .i64) [])))))))))))))))))))))))))))))))))))))))
def Lo323 : Outs := [(.ret, (tp 6 (List.cons (.ptr 0 0) (tp 74 (List.cons (.obox 10) (List.cons (.int .i64) (List.cons (.bool) (List.cons (.str) (List.cons (.str) (List.cons (.bool) (List.cons (.str) (List.cons (.str) (List.cons (.bool) (List.cons (.bool) (List.cons (.int .i64) []))))))))))))))), (.normal, (tp 6 (List.cons (.ptr 0 0) (List.cons (.ptr 1 0) (tp 73 (List.cons (.obox 10) (List.cons (.int .i64) (List.cons (.bool) (List.cons (.str) (List.cons (.str) (List.cons (.bool) (List.cons (.str) (List.cons (.str) (List.cons (.bool) (List.cons (.bool) (List.cons (.int .i64) (List.cons (.obox 10) (List.cons (.int .i64) (List.cons (.bool) (List.cons (.str) (List.cons (.str) (List.cons (.bool) (List.cons (.str) (List.cons (.str) (List.cons (.bool) (List.cons (.bool) (List.cons (.int .i64) [])))))))))))))))))))))))))))]
def Li324 : List Sh := (tp 4 (List.cons (.ptr 0 0) (List.cons (.ptr 1 0) (List.cons (.ptr 2 0) (List.cons (.ptr 3 0) (List.cons (.func (.func 51) 0 3) (List.cons (.ptr 4 0) (List.cons (.ptr 1 0) (List.cons (.ptr 3 0) (tp 24 (List.cons (.bool) (tp 47 (List.cons (.obox 3) (List.cons (.bool) (List.cons (.bool) (List.cons (.int .i64) (List.cons (.obox 9) (List.cons (.bool) (List.cons (.str) (List.cons (.str) (List.cons (.bool) (List.cons (.str) (List.cons (.str) (List.cons (.bool) (List.cons (.bool) (List.cons (.int .i64) (List.cons (.obox 10) (List.cons (.int .i64) (List.cons (.bool) (List.cons (.str) (List.cons (.str) (List.cons (.bool) (List.cons (.str) (List.cons (.str) (List.cons (.bool) (List.cons (.bool) (List.cons (.int .i64) (List.cons (.obox 10) (List.cons (.int .i64) (List.cons (.bool) (List.cons (.str) (List.cons (.str) (List.cons (.bool) (List.cons (.str) (List.cons (.str) (List.cons (.bool) (List.cons (.bool) (List.cons (.int .i64) (List.cons (.obox 5) (List.cons (.lst YqA) (List.cons (.lst YqB) (List.cons (.lst YqC) (List.cons (.opq 0) (List.cons (.opq 1) []))))))))))))))))))))))))))))))))))))))))))))))))))))))
def Li325 : List Sh := (tp 4 (List.cons (.ptr 0 0) (List.cons (.ptr 1 0) (List.cons (.ptr 2 0) (List.cons (.ptr 3 0) (List.cons (.func (.func 51) 0 3) (List.cons (.ptr 4 0) (List.cons (.ptr 1 0) (List.cons (.ptr 3 0) (tp 12 (List.cons (.bool) (tp 59 (List.cons (.obox 3) (List.cons (.bool) (List.cons (.bool) (List.cons (.int .i64) (List.cons (.obox 9) (List.cons (.bool) (List.cons (.str) (List.cons (.str) (List.cons (.bool) (List.cons (.str) (List.cons (.str) (List.cons (.bool) (List.cons (.bool) (List.cons (.int .i64) (List.cons (.obox 10) (List.cons (.int .i64) (List.cons (.bool) (List.cons (.str) (List.cons (.str) (List.cons (.bool) (List.cons (.str) (List.cons (.str) (List.cons (.bool) (List.cons (.bool) (List.cons (.int .i64) (List.cons (.obox 10) (List.cons (.int .i64) (List.cons (.bool) (List.cons (.str) (List.cons (.str) (List.cons (.bool) (List.cons (.str) (List.cons (.str) (List.cons (.bool) (List.cons (.bool) (List.cons (.int .i64) (List.cons (.obox 5) (List.cons (.lst YqA) (List.cons (.lst YqB) (List.cons (.lst YqC) (List.cons (.opq 0) (List.cons (.opq 1) []))))))))))))))))))))))))))))))))))))))))))))))))))))))
def Li326 : List Sh := (tp 3 (List.cons (.ptr 0 0) (List.cons (.ptr 1 0) (List.cons (.ptr 2 0) (List.cons (.ptr 3 0) (List.cons (.ptr 4 0) (tp 73 (List.cons (.obox 5) (List.cons (.lst YqA) (List.cons (.lst YqB) (List.cons (.lst YqC) (List.cons (.opq 0) (List.cons (.opq 1) (List.cons (.obox 3) (List.cons (.bool) (List.cons (.bool) (List.cons (.int .i64) (List.cons (.obox 9) (List.cons (.bool) (List.cons (.str) (List.cons (.str) (List.cons (.bool) (List.cons (.str) (List.cons (.str) (List.cons (.bool) (List.cons (.bool) (List.cons (.int .i64) (List.cons (.obox 10) (List.cons (.int .i64) (List.cons (.bool) (List.cons (.str) (List.cons (.str) (List.cons (.bool) (List.cons (.str) (List.cons (.str) (List.cons (.bool) (List.cons (.bool) (List.cons (.int .i64) (List.cons (.obox 10) (List.cons (.int .i64) (List.cons (.bool) (List.cons (.str) (List.cons (.str) (List.cons (.bool) (List.cons (.str) (List.cons (.str) (List.cons (.bool) (List.cons (.bool) (List.cons (.int .i64) [])))))))))))))))))))))))))))))))))))))))))))))))))
def Lo327 : Outs := [(.ret, (tp 6 (List.cons (.ptr 0 0) (tp 74 (List.cons (.obox 10) (List.cons (.int .i64) (List.cons (.bool) (List.cons (.str) (List.cons (.str) (List.cons (.bool) (List.cons (.str) (List.cons (.str) (List.cons (.bool) (List.cons (.bool) (List.cons (.int .i64) [])))))))))))))))]
abbrev T165 := LqS × LqS × Int × Int × Int × Unit → Option (Unit)
def E165 (f : T165) : FEnt := ⟨Li284, Lo285, f⟩
def C165 : T165 := fun _ => none
theorem ok165 : FO 165 (E165 C165) := by
 intro w m g v args y hob hargs hy
 cases hy
abbrev T128 := Int × Unit → Option (Bool × Unit)
def E128 (f : T128) : FEnt := ⟨Li121, Lo29, f⟩
def F128 : T128 := fun (x0, _) =>
 bif decide (x0 ≥ 200) then some (decide (x0 ≤ 599), ()) else some (false, ())
def C128 : T128 := F128
theorem ok128 : FO 128 (E128 C128) := zq0 Li121 Lo29 KqZ F128 kn Tryz.func128
abbrev T91 := Int × Unit → Option (Int × Unit)
def E91 (f : T91) : FEnt := ⟨Li121, Lo10, f⟩
def K91 (f128 : T128) := lk [(128, E128 f128)]
def F91 (f128 : T128) : T91 := fun (x0, _) =>
 (f128 (x0, ())).bind fun v =>
 bif !v.1 then some (0, ()) else some (IntKind.i64.wrap (x0.tdiv 100), ())
def C91 : T91 := F91 C128
theorem ok91 : FO 91 (E91 C91) := zq1 Li121 Lo10 K91 F91 C128 (kc ok128 kn) Tryz.func91
abbrev T92_l0 := List (LqS) × Int × Int × List (LqS) × Unit → Option (List (LqS) × Unit)
def E92_l0 (f : T92_l0) : LEnt := ⟨Li287, Lo288, f⟩
abbrev T92 := Int × List (LqS) × Unit → Option (List (LqS) × Unit)
def E92 (f : T92) : FEnt := ⟨Li286, Lo254, f⟩
def K92 (f129 : T129) (f25 : T25) := lk [(129, E129 f129), (25, E25 f25)]
theorem kok92 : KOk Tryz.prog (K92 C129 C25) := (kc ok129 (kc ok25 kn))
def F92_l0 (f129 : T129) (f25 : T25) : LpF (List (LqS) × Int × Int × List (LqS) × Unit) (List (LqS) × Unit) := fun (x0, x1, x2, x3, _) =>
 bif decide (x2 < x1) then
 bif decide (0 ≤ x2) && decide (x2 < (↑x0.length : Int)) then
 bif decide (x2 > 0) then
 (f129 (x0.getD x2.toNat [], [32], ())).bind fun v =>
 (f25 (v.1, ())).bind fun v =>
 bif decide (x3.length + [v.1].length ≤ 140737488355328 / 16) then
 some (Sum.inl (x0, x1, IntKind.i64.wrap (x2 + 1), x3 ++ [v.1], ()))
 else none
 else some (Sum.inl (x0, x1, IntKind.i64.wrap (x2 + 1), x3, ()))
 else none
 else some (Sum.inr (x3, ()))
def C92_l0 : T92_l0 := loopN (F92_l0 C129 C25) big
theorem k92_l0 : LpOk 0 (subc (code Tryz.f92) [1, 1, 0, 1, 0, 0]) (E92_l0 C92_l0) := zl2 Li287 Lo288 K92 F92_l0 C129 C25 kok92
def N92 (f92_l0 : T92_l0) : Ann := (.seq .nil (.seq .nil (.seq (.seq .nil (.blk (.loop (E92_l0 f92_l0)))) .nil)))
def F92 (f129 : T129) (f25 : T25) (f92_l0 : T92_l0) : T92 := fun (x0, x1, _) =>
 (f92_l0 (x1, (↑x1.length : Int), 0, [], ())).bind fun v => some (v.1, ())
def C92 : T92 := F92 C129 C25 C92_l0
theorem ok92 : FO 92 (E92 C92) := zq2_1 Li286 Lo254 K92 N92 F92 C129 C25 C92_l0 kok92 Tryz.func92 (And.intro k92_l0 trivial)
abbrev T94_l0 := List (LqS) × LqS × Int × Int × Unit → Option (Unit ⊕ (Int × Unit))
def E94_l0 (f : T94_l0) : LEnt := ⟨Li289, Lo290, f⟩
abbrev T94 := List (LqS) × LqS × Unit → Option (Int × Unit)
def E94 (f : T94) : FEnt := ⟨Li15, Lo10, f⟩
def F94_l0 : LpF (List (LqS) × LqS × Int × Int × Unit) (Unit ⊕ (Int × Unit)) := fun (x0, x1, x2, x3, _) =>
 bif decide (x3 < x2) then
 bif decide (0 ≤ x3) && decide (x3 < (↑x0.length : Int)) then
 bif x1 == x0.getD x3.toNat [] then some (Sum.inr (Sum.inr (x3, ())))
 else some (Sum.inl (x0, x1, x2, IntKind.i64.wrap (x3 + 1), ()))
 else none
 else some (Sum.inr (Sum.inl ()))
def C94_l0 : T94_l0 := loopN (F94_l0) big
theorem k94_l0 : LpOk 0 (subc (code Tryz.f94) [1, 0, 1, 0, 0]) (E94_l0 C94_l0) := zl0 Li289 Lo290 KqZ F94_l0 kn
def N94 (f94_l0 : T94_l0) : Ann := (.seq .nil (.seq (.seq .nil (.blk (.loop (E94_l0 f94_l0)))) .nil))
def F94 (f94_l0 : T94_l0) : T94 := fun (x0, x1, _) =>
 (f94_l0 (x0, x1, (↑x0.length : Int), 0, ())).bind fun v =>
 Sum.elim (fun v => some (-1, ())) (fun v => some (v.1, ())) v
def C94 : T94 := F94 C94_l0
theorem ok94 : FO 94 (E94 C94) := zq0_1 Li15 Lo10 KqZ N94 F94 C94_l0 kn Tryz.func94 (And.intro k94_l0 trivial)
abbrev T93 := List (LqS) × LqS × Unit → Option (Bool × Unit)
def E93 (f : T93) : FEnt := ⟨Li15, Lo29, f⟩
def K93 (f94 : T94) := lk [(94, E94 f94)]
def F93 (f94 : T94) : T93 := fun (x0, x1, _) =>
 (f94 (x0, x1, ())).bind fun v => some (decide (v.1 ≥ 0), ())
def C93 : T93 := F93 C94
theorem ok93 : FO 93 (E93 C93) := zq1 Li15 Lo29 K93 F93 C94 (kc ok94 kn) Tryz.func93
abbrev T198 := Int × Unit → Option (Int × Unit)
def E198 (f : T198) : FEnt := ⟨Li23, Lo271, f⟩
def F198 : T198 := fun (x0, _) =>
 some (intBits BinOp.or IntKind.u8 x0 32, ())
def C198 : T198 := F198
theorem ok198 : FO 198 (E198 C198) := zq0 Li23 Lo271 KqZ F198 kn Tryz.func198
abbrev T199_l0 := LqS × Int × Int × Bool × Unit → Option ((Int × Unit) ⊕ (Bool × Unit))
def E199_l0 (f : T199_l0) : LEnt := ⟨Li291, Lo292, f⟩
abbrev T199_c0 := LqS × Int × Int × Bool × Unit → Option (Bool × Unit)
def E199_c0 (f : T199_c0) : LEnt := ⟨Li291, Lo293, f⟩
abbrev T199_c1 := LqS × Int × Int × Unit → Option (Bool × Unit)
def E199_c1 (f : T199_c1) : LEnt := ⟨Li294, Lo293, f⟩
abbrev T199 := LqS × Unit → Option (Bool × Unit)
def E199 (f : T199) : FEnt := ⟨Li30, Lo29, f⟩
def K199 (f198 : T198) := lk [(198, E198 f198)]
theorem kok199 : KOk Tryz.prog (K199 C198) := (kc ok198 kn)
def F199_l0 (f198 : T198) : LpF (LqS × Int × Int × Bool × Unit) ((Int × Unit) ⊕ (Bool × Unit)) := fun (x0, x1, x2, x3, _) =>
 bif decide (x2 < (↑x0.length : Int)) then
 bif decide (0 ≤ x2) && decide (x2 < (↑x0.length : Int)) then
 bif decide (48 ≤ (↑(x0.getD x2.toNat 0).toNat : Int)) then
 bif decide (0 ≤ x2) && decide (x2 < (↑x0.length : Int)) then
 bif decide ((↑(x0.getD x2.toNat 0).toNat : Int) ≤ 57) then
 some (Sum.inl (x0, 48, IntKind.i64.wrap (x2 + 1), x3, ()))
 else
 bif x3 then
 bif decide (0 ≤ x2) && decide (x2 < (↑x0.length : Int)) then
 (f198 ((↑(x0.getD x2.toNat 0).toNat : Int), ())).bind fun v =>
 bif decide (97 ≤ v.1) then
 bif decide (0 ≤ x2) && decide (x2 < (↑x0.length : Int)) then
 (f198 ((↑(x0.getD x2.toNat 0).toNat : Int), ())).bind fun v =>
 bif decide (v.1 ≤ 102) then some (Sum.inl (x0, 48, IntKind.i64.wrap (x2 + 1), x3, ()))
 else
 bif decide (0 ≤ x2) && decide (x2 < (↑x0.length : Int)) then
 bif (↑(x0.getD x2.toNat 0).toNat : Int) == 95 then
 bif x1 != 48 then some (Sum.inr (Sum.inr (false, ())))
 else some (Sum.inl (x0, 95, IntKind.i64.wrap (x2 + 1), x3, ()))
 else
 bif x1 == 95 then some (Sum.inr (Sum.inr (false, ())))
 else some (Sum.inl (x0, 33, IntKind.i64.wrap (x2 + 1), x3, ()))
 else none
 else none
 else
 bif decide (0 ≤ x2) && decide (x2 < (↑x0.length : Int)) then
 bif (↑(x0.getD x2.toNat 0).toNat : Int) == 95 then
 bif x1 != 48 then some (Sum.inr (Sum.inr (false, ())))
 else some (Sum.inl (x0, 95, IntKind.i64.wrap (x2 + 1), x3, ()))
 else
 bif x1 == 95 then some (Sum.inr (Sum.inr (false, ())))
 else some (Sum.inl (x0, 33, IntKind.i64.wrap (x2 + 1), x3, ()))
 else none
 else none
 else
 bif decide (0 ≤ x2) && decide (x2 < (↑x0.length : Int)) then
 bif (↑(x0.getD x2.toNat 0).toNat : Int) == 95 then
 bif x1 != 48 then some (Sum.inr (Sum.inr (false, ())))
 else some (Sum.inl (x0, 95, IntKind.i64.wrap (x2 + 1), x3, ()))
 else
 bif x1 == 95 then some (Sum.inr (Sum.inr (false, ())))
 else some (Sum.inl (x0, 33, IntKind.i64.wrap (x2 + 1), x3, ()))
 else none
 else none
 else
 bif x3 then
 bif decide (0 ≤ x2) && decide (x2 < (↑x0.length : Int)) then
 (f198 ((↑(x0.getD x2.toNat 0).toNat : Int), ())).bind fun v =>
 bif decide (97 ≤ v.1) then
 bif decide (0 ≤ x2) && decide (x2 < (↑x0.length : Int)) then
 (f198 ((↑(x0.getD x2.toNat 0).toNat : Int), ())).bind fun v =>
 bif decide (v.1 ≤ 102) then some (Sum.inl (x0, 48, IntKind.i64.wrap (x2 + 1), x3, ()))
 else
 bif decide (0 ≤ x2) && decide (x2 < (↑x0.length : Int)) then
 bif (↑(x0.getD x2.toNat 0).toNat : Int) == 95 then
 bif x1 != 48 then some (Sum.inr (Sum.inr (false, ())))
 else some (Sum.inl (x0, 95, IntKind.i64.wrap (x2 + 1), x3, ()))
 else
 bif x1 == 95 then some (Sum.inr (Sum.inr (false, ())))
 else some (Sum.inl (x0, 33, IntKind.i64.wrap (x2 + 1), x3, ()))
 else none
 else none
 else
 bif decide (0 ≤ x2) && decide (x2 < (↑x0.length : Int)) then
 bif (↑(x0.getD x2.toNat 0).toNat : Int) == 95 then
 bif x1 != 48 then some (Sum.inr (Sum.inr (false, ())))
 else some (Sum.inl (x0, 95, IntKind.i64.wrap (x2 + 1), x3, ()))
 else
 bif x1 == 95 then some (Sum.inr (Sum.inr (false, ())))
 else some (Sum.inl (x0, 33, IntKind.i64.wrap (x2 + 1), x3, ()))
 else none
 else none
 else
 bif decide (0 ≤ x2) && decide (x2 < (↑x0.length : Int)) then
 bif (↑(x0.getD x2.toNat 0).toNat : Int) == 95 then
 bif x1 != 48 then some (Sum.inr (Sum.inr (false, ())))
 else some (Sum.inl (x0, 95, IntKind.i64.wrap (x2 + 1), x3, ()))
 else
 bif x1 == 95 then some (Sum.inr (Sum.inr (false, ())))
 else some (Sum.inl (x0, 33, IntKind.i64.wrap (x2 + 1), x3, ()))
 else none
 else none
 else some (Sum.inr (Sum.inl (x1, ())))
def C199_l0 : T199_l0 := loopN (F199_l0 C198) big
theorem k199_l0 : LpOk 0 (subc (code Tryz.f199) [1, 1, 1, 1, 1, 1, 0, 0, 0]) (E199_l0 C199_l0) := zl1 Li291 Lo292 K199 F199_l0 C198 kok199
def N199_c0 (f199_l0 : T199_l0) : Ann := (.seq (.blk (.loop (E199_l0 f199_l0))) .nil)
def F199_c0 (f198 : T198) (f199_l0 : T199_l0) : T199_c0 := fun (x0, x1, x2, x3, _) =>
 (f199_l0 (x0, x1, x2, x3, ())).bind fun v =>
 Sum.elim (fun v => some (bif v.1 == 95 then false else true, ()))
 (fun v => some (v.1, ())) v
theorem h199_c0 (f198 : T198) (f199_l0 : T199_l0) : AqC (K199 f198) 0 (subc (code Tryz.f199) [1, 1, 1, 1, 1, 1]) (N199_c0 f199_l0) Li291 Lo293 (F199_c0 f198 f199_l0) := fun v => by kernel_rfl
def C199_c0 : T199_c0 := F199_c0 C198 C199_l0
theorem k199_c0 : CdOk 0 (subc (code Tryz.f199) [1, 1, 1, 1, 1, 1]) (E199_c0 C199_c0) :=
 frd kok199 (And.intro k199_l0 trivial) (h199_c0 C198 C199_l0)
def N199_c1 (f199_c0 : T199_c0) : Ann := (.seq .nil (.cut .nil (E199_c0 f199_c0)))
def F199_c1 (f198 : T198) (f199_c0 : T199_c0) : T199_c1 := fun (x0, x1, x2, _) =>
 bif decide ((↑x0.length : Int) ≥ 2) then
 bif decide (0 < (↑x0.length : Int)) then
 bif (↑(x0.getD 0 0).toNat : Int) == 48 then
 bif decide (1 < (↑x0.length : Int)) then
 (f198 ((↑(x0.getD 1 0).toNat : Int), ())).bind fun v =>
 bif v.1 == 98 then
 bif decide (1 < (↑x0.length : Int)) then
 (f198 ((↑(x0.getD 1 0).toNat : Int), ())).bind fun v =>
 (f199_c0 (x0, 48, 2, v.1 == 120, ())).bind fun v => some (v.1, ())
 else none
 else
 bif decide (1 < (↑x0.length : Int)) then
 (f198 ((↑(x0.getD 1 0).toNat : Int), ())).bind fun v =>
 bif v.1 == 111 then
 bif decide (1 < (↑x0.length : Int)) then
 (f198 ((↑(x0.getD 1 0).toNat : Int), ())).bind fun v =>
 (f199_c0 (x0, 48, 2, v.1 == 120, ())).bind fun v => some (v.1, ())
 else none
 else
 bif decide (1 < (↑x0.length : Int)) then
 (f198 ((↑(x0.getD 1 0).toNat : Int), ())).bind fun v =>
 bif v.1 == 120 then
 bif decide (1 < (↑x0.length : Int)) then
 (f198 ((↑(x0.getD 1 0).toNat : Int), ())).bind fun v =>
 (f199_c0 (x0, 48, 2, v.1 == 120, ())).bind fun v => some (v.1, ())
 else none
 else (f199_c0 (x0, x1, x2, false, ())).bind fun v => some (v.1, ())
 else none
 else none
 else none
 else (f199_c0 (x0, x1, x2, false, ())).bind fun v => some (v.1, ())
 else none
 else (f199_c0 (x0, x1, x2, false, ())).bind fun v => some (v.1, ())
theorem h199_c1 (f198 : T198) (f199_c0 : T199_c0) : AqC (K199 f198) 0 (subc (code Tryz.f199) [1, 1, 1, 1]) (N199_c1 f199_c0) Li294 Lo293 (F199_c1 f198 f199_c0) := fun v => by kernel_rfl
def C199_c1 : T199_c1 := F199_c1 C198 C199_c0
theorem k199_c1 : CdOk 0 (subc (code Tryz.f199) [1, 1, 1, 1]) (E199_c1 C199_c1) :=
 frd kok199 (And.intro k199_c0 trivial) (h199_c1 C198 C199_c0)
def N199 (f199_c1 : T199_c1) : Ann := (.seq .nil (.seq .nil (.seq .nil (.cut .nil (E199_c1 f199_c1)))))
def F199 (f198 : T198) (f199_c1 : T199_c1) : T199 := fun (x0, _) =>
 bif decide ((↑x0.length : Int) ≥ 1) then
 bif decide (0 < (↑x0.length : Int)) then
 bif (↑(x0.getD 0 0).toNat : Int) == 45 then
 bif decide (1 ≤ (↑x0.length : Int)) then
 (f199_c1 (List.drop 1 x0, 94, 0, ())).bind fun v => some (v.1, ())
 else none
 else
 bif decide (0 < (↑x0.length : Int)) then
 bif (↑(x0.getD 0 0).toNat : Int) == 43 then
 bif decide (1 ≤ (↑x0.length : Int)) then
 (f199_c1 (List.drop 1 x0, 94, 0, ())).bind fun v => some (v.1, ())
 else none
 else (f199_c1 (x0, 94, 0, ())).bind fun v => some (v.1, ())
 else none
 else none
 else (f199_c1 (x0, 94, 0, ())).bind fun v => some (v.1, ())
def C199 : T199 := F199 C198 C199_c1
theorem ok199 : FO 199 (E199 C199) := zq1_1 Li30 Lo29 K199 N199 F199 C198 C199_c1 kok199 Tryz.func199 (And.intro k199_c1 trivial)
abbrev T164_c0 := LqS × Int × Bool × LqS × Bool × Unit → Option (LqS × Int × Int × Bool × LqS × Unit)
def E164_c0 (f : T164_c0) : LEnt := ⟨Li297, Lo298, f⟩
abbrev T164_c1 := LqS × Int × Bool × LqS × Bool × Unit → Option (LqS × Int × Int × Bool × LqS × Unit)
def E164_c1 (f : T164_c1) : LEnt := ⟨Li299, Lo298, f⟩
abbrev T164_c2 := LqS × Int × Bool × LqS × Bool × Unit → Option (LqS × Int × Int × Bool × LqS × Unit)
def E164_c2 (f : T164_c2) : LEnt := ⟨Li300, Lo298, f⟩
abbrev T164_c3 := LqS × Int × Int × Bool × LqS × Bool × Unit → Option ((LqS × Int × Int × Bool × LqS × Unit) ⊕ (Int × Int × Unit))
def E164_c3 (f : T164_c3) : LEnt := ⟨Li301, Lo302, f⟩
abbrev T164_c4 := Int × Bool × LqS × Int × Int × Bool × Int × Int × LqS × Int × Int × Bool × Unit → Option ((Int × Bool × LqS × Int × Int × Bool × Int × Int × LqS × Int × Int × Unit) ⊕ (Int × Int × Unit))
def E164_c4 (f : T164_c4) : LEnt := ⟨Li303, Lo304, f⟩
abbrev T164_c5 := Int × Bool × LqS × Int × Int × Bool × Int × Int × LqS × Int × Int × Bool × Unit → Option ((Int × Bool × LqS × Int × Int × Bool × Int × Int × LqS × Int × Int × Unit) ⊕ (Int × Int × Unit))
def E164_c5 (f : T164_c5) : LEnt := ⟨Li305, Lo304, f⟩
abbrev T164_c6 := Int × Bool × LqS × Int × Int × Bool × Int × Int × LqS × Int × Int × Bool × Unit → Option ((Int × Bool × LqS × Int × Int × Bool × Int × LqS × Int × Int × Unit) ⊕ (Int × Bool × LqS × Int × Int × Bool × Int × Int × LqS × Int × Int × Unit) ⊕ (Int × Int × Unit))
def E164_c6 (f : T164_c6) : LEnt := ⟨Li306, Lo307, f⟩
abbrev T164_l0 := Int × Bool × LqS × Int × Int × Bool × Int × LqS × Int × Int × Unit → Option ((LqS × Bool × Int × Unit) ⊕ (Int × Int × Unit))
def E164_l0 (f : T164_l0) : LEnt := ⟨Li308, Lo309, f⟩
abbrev T164_c7 := LqS × Int × Int × Bool × LqS × Int × Unit → Option ((Int × Int × Unit) ⊕ (Int × Unit))
def E164_c7 (f : T164_c7) : LEnt := ⟨Li310, Lo311, f⟩
abbrev T164_c8 := LqS × Int × Int × Bool × LqS × Unit → Option ((Int × Int × Unit) ⊕ (Int × Unit))
def E164_c8 (f : T164_c8) : LEnt := ⟨Li312, Lo311, f⟩
abbrev T164 := LqS × Int × Int × Unit → Option ((Int × Int × Unit) ⊕ (Int × Unit))
def E164 (f : T164) : FEnt := ⟨Li295, Lo296, f⟩
def K164 (f198 : T198) (f199 : T199) := lk [(198, E198 f198), (199, E199 f199)]
theorem kok164 : KOk Tryz.prog (K164 C198 C199) := (kc ok198 (kc ok199 kn))
def F164_c0 (f198 : T198) (f199 : T199) : T164_c0 := fun (x0, x1, x2, x3, x4, _) =>
 bif x4 then
 bif decide (2 ≤ (↑x0.length : Int)) then
 some (List.drop 2 x0, 16, x1, x2, x3, ())
 else none
 else
 bif decide (1 ≤ (↑x0.length : Int)) then
 some (List.drop 1 x0, 8, x1, x2, x3, ())
 else none
def C164_c0 : T164_c0 := F164_c0 C198 C199
theorem k164_c0 : CdOk 0 (subc (code Tryz.f164) [1, 1, 1, 1, 0, 0, 1, 1, 1, 0, 1, 1, 0, 0, 1, 1, 1, 1, 1]) (E164_c0 C164_c0) := zc2 Li297 Lo298 K164 F164_c0 C198 C199 kok164
def N164_c1 (f164_c0 : T164_c0) : Ann := (.cond .nil (.cut .nil (E164_c0 f164_c0)))
def F164_c1 (f198 : T198) (f199 : T199) (f164_c0 : T164_c0) : T164_c1 := fun (x0, x1, x2, x3, x4, _) =>
 bif x4 then
 bif decide (2 ≤ (↑x0.length : Int)) then
 some (List.drop 2 x0, 8, x1, x2, x3, ())
 else none
 else
 bif decide ((↑x0.length : Int) ≥ 3) then
 bif decide (1 < (↑x0.length : Int)) then
 (f198 ((↑(x0.getD 1 0).toNat : Int), ())).bind fun v =>
 (f164_c0 (x0, x1, x2, x3, v.1 == 120, ())).bind fun v =>
 some (v.1, v.2.1, v.2.2.1, v.2.2.2.1, v.2.2.2.2.1, ())
 else none
 else
 (f164_c0 (x0, x1, x2, x3, false, ())).bind fun v =>
 some (v.1, v.2.1, v.2.2.1, v.2.2.2.1, v.2.2.2.2.1, ())
def C164_c1 : T164_c1 := F164_c1 C198 C199 C164_c0
theorem k164_c1 : CdOk 0 (subc (code Tryz.f164) [1, 1, 1, 1, 0, 0, 1, 1, 1, 0, 1, 1, 0, 0, 1, 1, 1]) (E164_c1 C164_c1) := zc2_1 Li299 Lo298 K164 N164_c1 F164_c1 C198 C199 C164_c0 kok164 (And.intro k164_c0 trivial)
def N164_c2 (f164_c1 : T164_c1) : Ann := (.cond .nil (.cut .nil (E164_c1 f164_c1)))
def F164_c2 (f198 : T198) (f199 : T199) (f164_c1 : T164_c1) : T164_c2 := fun (x0, x1, x2, x3, x4, _) =>
 bif x4 then
 bif decide (2 ≤ (↑x0.length : Int)) then
 some (List.drop 2 x0, 2, x1, x2, x3, ())
 else none
 else
 bif decide ((↑x0.length : Int) ≥ 3) then
 bif decide (1 < (↑x0.length : Int)) then
 (f198 ((↑(x0.getD 1 0).toNat : Int), ())).bind fun v =>
 (f164_c1 (x0, x1, x2, x3, v.1 == 111, ())).bind fun v =>
 some (v.1, v.2.1, v.2.2.1, v.2.2.2.1, v.2.2.2.2.1, ())
 else none
 else
 (f164_c1 (x0, x1, x2, x3, false, ())).bind fun v =>
 some (v.1, v.2.1, v.2.2.1, v.2.2.2.1, v.2.2.2.2.1, ())
def C164_c2 : T164_c2 := F164_c2 C198 C199 C164_c1
theorem k164_c2 : CdOk 0 (subc (code Tryz.f164) [1, 1, 1, 1, 0, 0, 1, 1, 1, 0, 1, 1, 0, 0, 1]) (E164_c2 C164_c2) := zc2_1 Li300 Lo298 K164 N164_c2 F164_c2 C198 C199 C164_c1 kok164 (And.intro k164_c1 trivial)
def N164_c3 (f164_c2 : T164_c2) : Ann := (.cond .nil (.seq .nil (.cond (.seq .nil (.seq .nil (.cond (.blk (.cut .nil (E164_c2 f164_c2))) .nil))) .nil)))
def F164_c3 (f198 : T198) (f199 : T199) (f164_c2 : T164_c2) : T164_c3 := fun (x0, x1, x2, x3, x4, x5, _) =>
 bif x5 then some (Sum.inl (x0, x1, x2, x3, x4, ()))
 else
 bif x1 == 0 then
 bif decide (0 < (↑x0.length : Int)) then
 bif (↑(x0.getD 0 0).toNat : Int) == 48 then
 bif decide ((↑x0.length : Int) ≥ 3) then
 bif decide (1 < (↑x0.length : Int)) then
 (f198 ((↑(x0.getD 1 0).toNat : Int), ())).bind fun v =>
 (f164_c2 (x0, x2, x3, x4, v.1 == 98, ())).bind fun v =>
 some
 (Sum.inl
 (v.1, v.2.1, v.2.2.1, v.2.2.2.1, v.2.2.2.2.1, ()))
 else none
 else
 (f164_c2 (x0, x2, x3, x4, false, ())).bind fun v =>
 some
 (Sum.inl
 (v.1, v.2.1, v.2.2.1, v.2.2.2.1, v.2.2.2.2.1, ()))
 else some (Sum.inl (x0, 10, x2, x3, x4, ()))
 else none
 else some (Sum.inr (0, 3, ()))
def C164_c3 : T164_c3 := F164_c3 C198 C199 C164_c2
theorem k164_c3 : CdOk 0 (subc (code Tryz.f164) [1, 1, 1, 1, 0, 0, 1]) (E164_c3 C164_c3) := zc2_1 Li301 Lo302 K164 N164_c3 F164_c3 C198 C199 C164_c2 kok164 (And.intro k164_c2 trivial)
def F164_c4 (f198 : T198) (f199 : T199) : T164_c4 := fun (x0, x1, x2, x3, x4, x5, x6, x7, x8, x9, x10, x11, _) =>
 bif x11 then
 (f198 (x7, ())).bind fun v =>
 some
 (Sum.inl
 (x0, x1, x2, x3, x4, x5, x6, IntKind.u8.wrap (IntKind.u8.wrap (v.1 - 97) + 10), x8, x9, x10, ()))
 else some (Sum.inr (0, 2, ()))
def C164_c4 : T164_c4 := F164_c4 C198 C199
theorem k164_c4 : CdOk 0 (subc (code Tryz.f164) [1, 1, 1, 1, 1, 1, 1, 1, 1, 1, 1, 0, 1, 0, 0, 1, 1, 0, 0, 1, 1, 0, 0, 1, 1, 1, 1, 1]) (E164_c4 C164_c4) := zc2 Li303 Lo304 K164 F164_c4 C198 C199 kok164
def N164_c5 (f164_c4 : T164_c4) : Ann := (.cond .nil (.cut .nil (E164_c4 f164_c4)))
def F164_c5 (f198 : T198) (f199 : T199) (f164_c4 : T164_c4) : T164_c5 := fun (x0, x1, x2, x3, x4, x5, x6, x7, x8, x9, x10, x11, _) =>
 bif x11 then some (Sum.inl (x0, x1, x2, x3, x4, x5, x6, IntKind.u8.wrap (x7 - 48), x8, x9, x10, ()))
 else
 (f198 (x7, ())).bind fun v =>
 bif decide (97 ≤ v.1) then
 (f198 (x7, ())).bind fun v =>
 (f164_c4 (x0, x1, x2, x3, x4, x5, x6, x7, x8, x9, x10, decide (v.1 ≤ 122), ())).bind fun v =>
 Sum.elim
 (fun v =>
 some
 (Sum.inl
 (v.1, v.2.1, v.2.2.1, v.2.2.2.1, v.2.2.2.2.1,
 v.2.2.2.2.2.1, v.2.2.2.2.2.2.1, v.2.2.2.2.2.2.2.1,
 v.2.2.2.2.2.2.2.2.1, v.2.2.2.2.2.2.2.2.2.1,
 v.2.2.2.2.2.2.2.2.2.2.1, ())))
 (fun v => some (Sum.inr (v.1, v.2.1, ()))) v
 else
 (f164_c4 (x0, x1, x2, x3, x4, x5, x6, x7, x8, x9, x10, false, ())).bind fun v =>
 Sum.elim
 (fun v =>
 some
 (Sum.inl
 (v.1, v.2.1, v.2.2.1, v.2.2.2.1, v.2.2.2.2.1,
 v.2.2.2.2.2.1, v.2.2.2.2.2.2.1, v.2.2.2.2.2.2.2.1,
 v.2.2.2.2.2.2.2.2.1, v.2.2.2.2.2.2.2.2.2.1,
 v.2.2.2.2.2.2.2.2.2.2.1, ())))
 (fun v => some (Sum.inr (v.1, v.2.1, ()))) v
def C164_c5 : T164_c5 := F164_c5 C198 C199 C164_c4
theorem k164_c5 : CdOk 0 (subc (code Tryz.f164) [1, 1, 1, 1, 1, 1, 1, 1, 1, 1, 1, 0, 1, 0, 0, 1, 1, 0, 0, 1, 1, 0, 0, 1, 1, 1]) (E164_c5 C164_c5) := zc2_1 Li305 Lo304 K164 N164_c5 F164_c5 C198 C199 C164_c4 kok164 (And.intro k164_c4 trivial)
def N164_c6 (f164_c5 : T164_c5) : Ann := (.cond .nil (.cut .nil (E164_c5 f164_c5)))
def F164_c6 (f198 : T198) (f199 : T199) (f164_c5 : T164_c5) : T164_c6 := fun (x0, x1, x2, x3, x4, x5, x6, x7, x8, x9, x10, x11, _) =>
 bif x11 then some (Sum.inl (x0, x1, x2, x3, x4, true, x6, x8, x9, x10, ()))
 else
 bif decide (48 ≤ x7) then
 (f164_c5 (x0, x1, x2, x3, x4, x5, x6, x7, x8, x9, x10, decide (x7 ≤ 57), ())).bind fun v =>
 Sum.elim
 (fun v =>
 some
 (Sum.inr
 (Sum.inl
 (v.1, v.2.1, v.2.2.1, v.2.2.2.1, v.2.2.2.2.1,
 v.2.2.2.2.2.1, v.2.2.2.2.2.2.1, v.2.2.2.2.2.2.2.1,
 v.2.2.2.2.2.2.2.2.1, v.2.2.2.2.2.2.2.2.2.1,
 v.2.2.2.2.2.2.2.2.2.2.1, ()))))
 (fun v => some (Sum.inr (Sum.inr (v.1, v.2.1, ())))) v
 else
 (f164_c5 (x0, x1, x2, x3, x4, x5, x6, x7, x8, x9, x10, false, ())).bind fun v =>
 Sum.elim
 (fun v =>
 some
 (Sum.inr
 (Sum.inl
 (v.1, v.2.1, v.2.2.1, v.2.2.2.1, v.2.2.2.2.1,
 v.2.2.2.2.2.1, v.2.2.2.2.2.2.1, v.2.2.2.2.2.2.2.1,
 v.2.2.2.2.2.2.2.2.1, v.2.2.2.2.2.2.2.2.2.1,
 v.2.2.2.2.2.2.2.2.2.2.1, ()))))
 (fun v => some (Sum.inr (Sum.inr (v.1, v.2.1, ())))) v
def C164_c6 : T164_c6 := F164_c6 C198 C199 C164_c5
theorem k164_c6 : CdOk 0 (subc (code Tryz.f164) [1, 1, 1, 1, 1, 1, 1, 1, 1, 1, 1, 0, 1, 0, 0, 1, 1, 0, 0, 1, 1, 0, 0, 1]) (E164_c6 C164_c6) := zc2_1 Li306 Lo307 K164 N164_c6 F164_c6 C198 C199 C164_c5 kok164 (And.intro k164_c5 trivial)
def N164_l0 (f164_c6 : T164_c6) : Ann := (.seq .nil (.seq .nil (.seq (.blk (.seq .nil (.seq .nil (.seq (.blk (.cut .nil (E164_c6 f164_c6))) .nil)))) .nil)))
def F164_l0 (f198 : T198) (f199 : T199) (f164_c6 : T164_c6) : LpF (Int × Bool × LqS × Int × Int × Bool × Int × LqS × Int × Int × Unit) ((LqS × Bool × Int × Unit) ⊕ (Int × Int × Unit)) := fun (x0, x1, x2, x3, x4, x5, x6, x7, x8, x9, _) =>
 bif decide (x9 < x8) then
 bif decide (0 ≤ x9) && decide (x9 < (↑x7.length : Int)) then
 bif (↑(UInt8.toNat (x7.getD x9.toNat 0)) : Int) == 95 then
 (f164_c6
 (x0, x1, x2, x3, x4, x5, x6, (↑(UInt8.toNat (x7.getD x9.toNat 0)) : Int), x7, x8, x9, x1,
 ())).bind
 fun v =>
 Sum.elim
 (fun v =>
 some
 (Sum.inl
 (v.1, v.2.1, v.2.2.1, v.2.2.2.1, v.2.2.2.2.1,
 v.2.2.2.2.2.1, v.2.2.2.2.2.2.1, v.2.2.2.2.2.2.2.1,
 v.2.2.2.2.2.2.2.2.1,
 IntKind.i64.wrap (v.2.2.2.2.2.2.2.2.2.1 + 1), ())))
 (fun v =>
 Sum.elim
 (fun v =>
 bif decide (v.2.2.2.2.2.2.2.1 ≥ IntKind.u8.wrap v.1) then
 some (Sum.inr (Sum.inr (0, 2, ())))
 else
 bif decide (v.2.2.2.2.2.2.1 ≥ v.2.2.2.1) then
 some (Sum.inr (Sum.inr (v.2.2.2.2.1, 1, ())))
 else
 bif
 decide
 (IntKind.u64.wrap
 (IntKind.u64.wrap (v.2.2.2.2.2.2.1 * IntKind.u64.wrap v.1) +
 IntKind.u64.wrap v.2.2.2.2.2.2.2.1) <
 IntKind.u64.wrap (v.2.2.2.2.2.2.1 * IntKind.u64.wrap v.1)) then
 some (Sum.inr (Sum.inr (v.2.2.2.2.1, 1, ())))
 else
 bif
 decide
 (IntKind.u64.wrap
 (IntKind.u64.wrap (v.2.2.2.2.2.2.1 * IntKind.u64.wrap v.1) +
 IntKind.u64.wrap v.2.2.2.2.2.2.2.1) >
 v.2.2.2.2.1) then
 some (Sum.inr (Sum.inr (v.2.2.2.2.1, 1, ())))
 else
 some
 (Sum.inl
 (v.1, v.2.1, v.2.2.1, v.2.2.2.1, v.2.2.2.2.1,
 v.2.2.2.2.2.1,
 IntKind.u64.wrap
 (IntKind.u64.wrap (v.2.2.2.2.2.2.1 * IntKind.u64.wrap v.1) +
 IntKind.u64.wrap v.2.2.2.2.2.2.2.1),
 v.2.2.2.2.2.2.2.2.1, v.2.2.2.2.2.2.2.2.2.1,
 IntKind.i64.wrap (v.2.2.2.2.2.2.2.2.2.2.1 + 1), ())))
 (fun v => some (Sum.inr (Sum.inr (v.1, v.2.1, ())))) v)
 v
 else
 (f164_c6
 (x0, x1, x2, x3, x4, x5, x6, (↑(UInt8.toNat (x7.getD x9.toNat 0)) : Int), x7, x8, x9, false,
 ())).bind
 fun v =>
 Sum.elim
 (fun v =>
 some
 (Sum.inl
 (v.1, v.2.1, v.2.2.1, v.2.2.2.1, v.2.2.2.2.1,
 v.2.2.2.2.2.1, v.2.2.2.2.2.2.1, v.2.2.2.2.2.2.2.1,
 v.2.2.2.2.2.2.2.2.1,
 IntKind.i64.wrap (v.2.2.2.2.2.2.2.2.2.1 + 1), ())))
 (fun v =>
 Sum.elim
 (fun v =>
 bif decide (v.2.2.2.2.2.2.2.1 ≥ IntKind.u8.wrap v.1) then
 some (Sum.inr (Sum.inr (0, 2, ())))
 else
 bif decide (v.2.2.2.2.2.2.1 ≥ v.2.2.2.1) then
 some (Sum.inr (Sum.inr (v.2.2.2.2.1, 1, ())))
 else
 bif
 decide
 (IntKind.u64.wrap
 (IntKind.u64.wrap (v.2.2.2.2.2.2.1 * IntKind.u64.wrap v.1) +
 IntKind.u64.wrap v.2.2.2.2.2.2.2.1) <
 IntKind.u64.wrap (v.2.2.2.2.2.2.1 * IntKind.u64.wrap v.1)) then
 some (Sum.inr (Sum.inr (v.2.2.2.2.1, 1, ())))
 else
 bif
 decide
 (IntKind.u64.wrap
 (IntKind.u64.wrap (v.2.2.2.2.2.2.1 * IntKind.u64.wrap v.1) +
 IntKind.u64.wrap v.2.2.2.2.2.2.2.1) >
 v.2.2.2.2.1) then
 some (Sum.inr (Sum.inr (v.2.2.2.2.1, 1, ())))
 else
 some
 (Sum.inl
 (v.1, v.2.1, v.2.2.1, v.2.2.2.1, v.2.2.2.2.1,
 v.2.2.2.2.2.1,
 IntKind.u64.wrap
 (IntKind.u64.wrap (v.2.2.2.2.2.2.1 * IntKind.u64.wrap v.1) +
 IntKind.u64.wrap v.2.2.2.2.2.2.2.1),
 v.2.2.2.2.2.2.2.2.1, v.2.2.2.2.2.2.2.2.2.1,
 IntKind.i64.wrap (v.2.2.2.2.2.2.2.2.2.2.1 + 1), ())))
 (fun v => some (Sum.inr (Sum.inr (v.1, v.2.1, ())))) v)
 v
 else none
 else some (Sum.inr (Sum.inl (x2, x5, x6, ())))
def C164_l0 : T164_l0 := loopN (F164_l0 C198 C199 C164_c6) big
theorem k164_l0 : LpOk 0 (subc (code Tryz.f164) [1, 1, 1, 1, 1, 1, 1, 1, 1, 1, 1, 0, 1, 0, 0]) (E164_l0 C164_l0) := zl2_1 Li308 Lo309 K164 N164_l0 F164_l0 C198 C199 C164_c6 kok164 (And.intro k164_c6 trivial)
def N164_c7 (f164_l0 : T164_l0) : Ann := (.seq .nil (.seq .nil (.seq .nil (.seq (.seq .nil (.blk (.loop (E164_l0 f164_l0)))) .nil))))
def F164_c7 (f198 : T198) (f199 : T199) (f164_l0 : T164_l0) : T164_c7 := fun (x0, x1, x2, x3, x4, x5, _) =>
 bif decide (0 ≤ IntKind.u64.wrap x2) then
 bif decide (x0.length ≤ 9223372036854775807) then
 (f164_l0
 (x1, x3, x4, x5,
 IntKind.u64.wrap (IntKind.u64.wrap (1 * 2 ^ min (IntKind.u64.wrap x2).toNat IntKind.u64.bits) - 1), false,
 0, x0, (↑x0.length : Int), 0, ())).bind
 fun v =>
 Sum.elim
 (fun v =>
 bif v.2.1 then
 (f199 (v.1, ())).bind fun v1 =>
 bif !v1.1 then some (Sum.inl (0, 2, ())) else some (Sum.inr (v.2.2.1, ()))
 else some (Sum.inr (v.2.2.1, ())))
 (fun v => some (Sum.inl (v.1, v.2.1, ()))) v
 else none
 else none
def C164_c7 : T164_c7 := F164_c7 C198 C199 C164_l0
theorem k164_c7 : CdOk 0 (subc (code Tryz.f164) [1, 1, 1, 1, 1, 1, 1, 1]) (E164_c7 C164_c7) := zc2_1 Li310 Lo311 K164 N164_c7 F164_c7 C198 C199 C164_l0 kok164 (And.intro k164_l0 trivial)
def N164_c8 (f164_c7 : T164_c7) : Ann := (.seq .nil (.cut .nil (E164_c7 f164_c7)))
def F164_c8 (f198 : T198) (f199 : T199) (f164_c7 : T164_c7) : T164_c8 := fun (x0, x1, x2, x3, x4, _) =>
 bif x1 == 10 then
 (f164_c7 (x0, x1, x2, x3, x4, 1844674407370955162, ())).bind fun v =>
 Sum.elim (fun v => some (Sum.inl (v.1, v.2.1, ())))
 (fun v => some (Sum.inr (v.1, ()))) v
 else
 bif x1 == 16 then
 (f164_c7 (x0, x1, x2, x3, x4, 1152921504606846976, ())).bind fun v =>
 Sum.elim (fun v => some (Sum.inl (v.1, v.2.1, ())))
 (fun v => some (Sum.inr (v.1, ()))) v
 else
 bif IntKind.u64.wrap x1 != 0 then
 (f164_c7
 (x0, x1, x2, x3, x4,
 IntKind.u64.wrap (IntKind.u64.wrap (Int.tdiv 18446744073709551615 (IntKind.u64.wrap x1)) + 1), ())).bind
 fun v =>
 Sum.elim (fun v => some (Sum.inl (v.1, v.2.1, ())))
 (fun v => some (Sum.inr (v.1, ()))) v
 else none
def C164_c8 : T164_c8 := F164_c8 C198 C199 C164_c7
theorem k164_c8 : CdOk 0 (subc (code Tryz.f164) [1, 1, 1, 1, 1, 1]) (E164_c8 C164_c8) := zc2_1 Li312 Lo311 K164 N164_c8 F164_c8 C198 C199 C164_c7 kok164 (And.intro k164_c7 trivial)
def N164 (f164_c3 : T164_c3) (f164_c8 : T164_c8) : Ann := (.seq .nil (.seq .nil (.seq .nil (.seq .nil (.seq (.blk (.cut .nil (E164_c3 f164_c3))) (.cut .nil (E164_c8 f164_c8)))))))
def F164 (f198 : T198) (f199 : T199) (f164_c3 : T164_c3) (f164_c8 : T164_c8) : T164 := fun (x0, x1, x2, _) =>
 bif x0 == [] then some (Sum.inl (0, 2, ()))
 else
 bif decide (2 ≤ x1) then
 (f164_c3 (x0, x1, x2, x1 == 0, x0, decide (x1 ≤ 36), ())).bind fun v =>
 Sum.elim
 (fun v =>
 bif v.2.2.1 == 0 then
 (f164_c8 (v.1, v.2.1, 64, v.2.2.2.1, v.2.2.2.2.1, ())).bind fun v =>
 Sum.elim (fun v => some (Sum.inl (v.1, v.2.1, ())))
 (fun v => some (Sum.inr (v.1, ()))) v
 else
 bif decide (v.2.2.1 < 0) then some (Sum.inl (0, 4, ()))
 else
 bif decide (v.2.2.1 > 64) then some (Sum.inl (0, 4, ()))
 else
 (f164_c8 (v.1, v.2.1, v.2.2.1, v.2.2.2.1, v.2.2.2.2.1, ())).bind
 fun v =>
 Sum.elim (fun v => some (Sum.inl (v.1, v.2.1, ())))
 (fun v => some (Sum.inr (v.1, ()))) v)
 (fun v => some (Sum.inl (v.1, v.2.1, ()))) v
 else
 (f164_c3 (x0, x1, x2, x1 == 0, x0, false, ())).bind fun v =>
 Sum.elim
 (fun v =>
 bif v.2.2.1 == 0 then
 (f164_c8 (v.1, v.2.1, 64, v.2.2.2.1, v.2.2.2.2.1, ())).bind fun v =>
 Sum.elim (fun v => some (Sum.inl (v.1, v.2.1, ())))
 (fun v => some (Sum.inr (v.1, ()))) v
 else
 bif decide (v.2.2.1 < 0) then some (Sum.inl (0, 4, ()))
 else
 bif decide (v.2.2.1 > 64) then some (Sum.inl (0, 4, ()))
 else
 (f164_c8 (v.1, v.2.1, v.2.2.1, v.2.2.2.1, v.2.2.2.2.1, ())).bind
 fun v =>
 Sum.elim (fun v => some (Sum.inl (v.1, v.2.1, ())))
 (fun v => some (Sum.inr (v.1, ()))) v)
 (fun v => some (Sum.inl (v.1, v.2.1, ()))) v
theorem h164 (f198 : T198) (f199 : T199) (f164_c3 : T164_c3) (f164_c8 : T164_c8) : AqF (K164 f198 f199) 0 Tryz.f164 (N164 f164_c3 f164_c8) Li295 Lo296 (F164 f198 f199 f164_c3 f164_c8) := fun v => by kernel_rfl
def C164 : T164 := F164 C198 C199 C164_c3 C164_c8
theorem ok164 : FO 164 (E164 C164) :=
 qo kok164 Tryz.func164 (And.intro k164_c3 (And.intro k164_c8 trivial)) (h164 C198 C199 C164_c3 C164_c8)
abbrev T130 := LqS × Int × Int × Unit → Option ((Int × Unit) ⊕ (Int × Unit))
def E130 (f : T130) : FEnt := ⟨Li295, Lo313, f⟩
def K130 (f164 : T164) (f165 : T165) := lk [(164, E164 f164), (165, E165 f165)]
def F130 (f164 : T164) (f165 : T165) : T130 := fun (x0, x1, x2, _) =>
 (f164 (x0, x1, x2, ())).bind fun v =>
 Sum.elim
 (fun v =>
 (f165 ([80, 97, 114, 115, 101, 85, 105, 110, 116], x0, x1, x2, v.2.1, ())).bind fun v1 =>
 some (Sum.inl (v.1, ())))
 (fun v => some (Sum.inr (v.1, ()))) v
def C130 : T130 := F130 C164 C165
theorem ok130 : FO 130 (E130 C130) := zq2 Li295 Lo313 K130 F130 C164 C165 (kc ok164 (kc ok165 kn)) Tryz.func130
abbrev T95 := LqS × Unit → Option (Int × Unit)
def E95 (f : T95) : FEnt := ⟨Li30, Lo10, f⟩
def K95 (f129 : T129) (f130 : T130) := lk [(129, E129 f129), (130, E130 f130)]
def F95 (f129 : T129) (f130 : T130) : T95 := fun (x0, _) =>
 (f129 (x0, [32], ())).bind fun v =>
 (f130 (v.2.1, 10, 31, ())).bind fun v1 =>
 Sum.elim (fun v => some (0, ()))
 (fun v2 =>
 bif decide ((↑(List.length v.2.1) : Int) > 9) then some (0, ())
 else some (IntKind.i64.wrap v2.1, ()))
 v1
def C95 : T95 := F95 C129 C130
theorem ok95 : FO 95 (E95 C95) := zq2 Li30 Lo10 K95 F95 C129 C130 (kc ok129 (kc ok130 kn)) Tryz.func95
abbrev T48 := Int × List (LqS) × Unit → Option (Bool × Bool × Int × Unit)
def E48 (f : T48) : FEnt := ⟨Li286, Lo314, f⟩
def K48 (f91 : T91) (f92 : T92) (f93 : T93) (f94 : T94) (f95 : T95) := lk [(91, E91 f91), (92, E92 f92), (93, E93 f93), (94, E94 f94), (95, E95 f95)]
def F48 (f91 : T91) (f92 : T92) (f93 : T93) (f94 : T94) (f95 : T95) : T48 := fun (x0, x1, _) =>
 (f91 (x0, ())).bind fun v =>
 bif v.1 != 2 then some (false, false, 0, ())
 else
 (f92 (x0, x1, ())).bind fun v =>
 (f93 (v.1, [115, 109, 116, 112, 117, 116, 102, 56], ())).bind fun v1 =>
 (f93 (v.1, [56, 98, 105, 116, 109, 105, 109, 101], ())).bind fun v2 =>
 (f94 (v.1, [115, 105, 122, 101], ())).bind fun v =>
 bif decide (v.1 ≥ 0) then
 bif
 decide (0 ≤ IntKind.i64.wrap (v.1 + 1)) &&
 decide (IntKind.i64.wrap (v.1 + 1) < (↑x1.length : Int)) then
 (f95 (x1.getD (IntKind.i64.wrap (v.1 + 1)).toNat [], ())).bind fun v =>
 some (v1.1, v2.1, v.1, ())
 else none
 else some (v1.1, v2.1, 0, ())
theorem h48 (f91 : T91) (f92 : T92) (f93 : T93) (f94 : T94) (f95 : T95) : AqF (K48 f91 f92 f93 f94 f95) 0 Tryz.f48 .nil Li286 Lo314 (F48 f91 f92 f93 f94 f95) := fun v => by kernel_rfl
def C48 : T48 := F48 C91 C92 C93 C94 C95
theorem ok48 : FO 48 (E48 C48) :=
 q0 (kc ok91 (kc ok92 (kc ok93 (kc ok94 (kc ok95 kn))))) Tryz.func48 (h48 C91 C92 C93 C94 C95)
abbrev T49 := LqS × LqS × Unit → Option (Bool × LqS × LqS × Unit)
def E49 (f : T49) : FEnt := ⟨Li114, Lo315, f⟩
def F49 : T49 := fun (x0, x1, _) =>
 some (false, x0, x1, ())
def C49 : T49 := F49
theorem ok49 : FO 49 (E49 C49) := zq0 Li114 Lo315 KqZ F49 kn Tryz.func49
abbrev T52 := Int × Unit → Option (Int × Bool × LqS × LqS × Bool × LqS × LqS × Bool × Bool × Int × Unit)
def E52 (f : T52) : FEnt := ⟨Li121, Lo316, f⟩
def F52 : T52 := fun (x0, _) =>
 some (2, false, [], [], false, [], [], false, false, x0, ())
def C52 : T52 := F52
theorem ok52 : FO 52 (E52 C52) := zq0 Li121 Lo316 KqZ F52 kn Tryz.func52
abbrev T50 := Bool × Bool × Int × Bool × Unit → Option (Bool × Unit)
def E50 (f : T50) : FEnt := ⟨Li317, Lo29, f⟩
def F50 : T50 := fun (x0, x1, x2, x3, _) =>
 bif x0 then some (true, ()) else bif x1 then some (x3, ()) else some (false, ())
def C50 : T50 := F50
theorem ok50 : FO 50 (E50 C50) := zq0 Li317 Lo29 KqZ F50 kn Tryz.func50
abbrev T58 := Bool × LqS × LqS × Unit → Option (Bool × Unit)
def E58 (f : T58) : FEnt := ⟨Li276, Lo29, f⟩
def K58 (f21 : T21) (f96 : T96) := lk [(21, E21 f21), (96, E96 f96)]
def F58 (f21 : T21) (f96 : T96) : T58 := fun (x0, x1, x2, _) =>
 (f21 (x1, ())).bind fun v =>
 bif decide (v.1 ≥ 0) then some (true, ())
 else
 (f96 (x2, [91], ())).bind fun v =>
 bif v.1 then (f21 (x2, ())).bind fun v => some (decide (v.1 ≥ 0), ())
 else some (false, ())
def C58 : T58 := F58 C21 C96
theorem ok58 : FO 58 (E58 C58) := zq2 Li276 Lo29 K58 F58 C21 C96 (kc ok21 (kc ok96 kn)) Tryz.func58
abbrev T19 := Bool × LqS × LqS × Bool × LqS × LqS × Bool × Bool × Int × Unit → Option (Bool × Unit)
def E19 (f : T19) : FEnt := ⟨Li318, Lo29, f⟩
def K19 (f58 : T58) := lk [(58, E58 f58)]
def F19 (f58 : T58) : T19 := fun (x0, x1, x2, x3, x4, x5, x6, x7, x8, _) =>
 bif x6 then some (true, ())
 else
 (f58 (x0, x1, x2, ())).bind fun v =>
 bif v.1 then some (true, ()) else (f58 (x3, x4, x5, ())).bind fun v => some (v.1, ())
def C19 : T19 := F19 C58
theorem ok19 : FO 19 (E19 C19) := zq1 Li318 Lo29 K19 F19 C58 (kc ok58 kn) Tryz.func19
abbrev T53 := Bool × LqS × LqS × Unit → Option (Bool × Unit)
def E53 (f : T53) : FEnt := ⟨Li276, Lo29, f⟩
def K53 (f21 : T21) := lk [(21, E21 f21)]
def F53 (f21 : T21) : T53 := fun (x0, x1, x2, _) =>
 bif decide (x1.length + x2.length ≤ 9223372036854775807) then
 (f21 (x1 ++ x2, ())).bind fun v => some (decide (v.1 ≥ 0), ())
 else none
def C53 : T53 := F53 C21
theorem ok53 : FO 53 (E53 C53) := zq1 Li276 Lo29 K53 F53 C21 (kc ok21 kn) Tryz.func53
abbrev T51 := LqA × LqB × LqC × Bool × LqS × LqS × Bool × LqS × LqS × Bool × Bool × Int × Int × Bool × LqS × LqS × Bool × LqS × LqS × Bool × Bool × Int × Unit → Option (Bool × LqA × LqB × LqC × Bool × LqS × LqS × Bool × LqS × LqS × Bool × Bool × Int × Int × Bool × LqS × LqS × Bool × LqS × LqS × Bool × Bool × Int × Unit)
def E51 (f : T51) : FEnt := ⟨Li319, Lo320, f⟩
def K51 (f39 : T39) := lk [(39, E39 f39)]
def F51 (f39 : T39) : T51 := fun (x0, x1, x2, x3, x4, x5, x6, x7, x8, x9, x10, x11, x12, x13, x14, x15, x16, x17, x18, x19, x20, x21, _) =>
 (f39 (x0, x1, x2, x3, x4, x5, ())).bind fun v =>
 (f39 (x0, x1, x2, x6, x7, x8, ())).bind fun v1 =>
 bif v.2.2.2.1 == 0 then
 some
 (v1.2.2.2.1 == 0, x0, x1, x2, x3, x4, x5, x6, x7, x8, x9, x10, x11, x12, v.1, v.2.1,
 v.2.2.1, v1.1, v1.2.1, v1.2.2.1, x19, x20, x21, ())
 else
 some
 (false, x0, x1, x2, x3, x4, x5, x6, x7, x8, x9, x10, x11, x12, v.1, v.2.1, v.2.2.1, v1.1,
 v1.2.1, v1.2.2.1, x19, x20, x21, ())
theorem h51 (f39 : T39) : AqF (K51 f39) 3 Tryz.f51 .nil Li319 Lo320 (F51 f39) := fun v => by kernel_rfl
def C51 : T51 := F51 C39
theorem ok51 : FO 51 (E51 C51) :=
 q0 (kc ok39 kn) Tryz.func51 (h51 C39)
abbrev T17_c0 := Bool × Bool × LqS × LqS × Bool × LqS × LqS × Bool × Bool × Int × Int × Bool × LqS × LqS × Bool × LqS × LqS × Bool × Bool × Int × Int × Bool × LqS × LqS × Bool × LqS × LqS × Bool × Bool × Int × Unit → Option ((Int × Bool × LqS × LqS × Bool × LqS × LqS × Bool × Bool × Int × Unit) ⊕ (Int × Bool × LqS × LqS × Bool × LqS × LqS × Bool × Bool × Int × Int × Bool × LqS × LqS × Bool × LqS × LqS × Bool × Bool × Int × Unit))
def E17_c0 (f : T17_c0) : LEnt := ⟨Li322, Lo323, f⟩
abbrev T17_c1 := Bool × Bool × Bool × Int × Bool × LqS × LqS × Bool × LqS × LqS × Bool × Bool × Int × Int × Bool × LqS × LqS × Bool × LqS × LqS × Bool × Bool × Int × Int × Bool × LqS × LqS × Bool × LqS × LqS × Bool × Bool × Int × LqA × LqB × LqC × Unit → Option ((Int × Bool × LqS × LqS × Bool × LqS × LqS × Bool × Bool × Int × Unit) ⊕ (Int × Bool × LqS × LqS × Bool × LqS × LqS × Bool × Bool × Int × Int × Bool × LqS × LqS × Bool × LqS × LqS × Bool × Bool × Int × Unit))
def E17_c1 (f : T17_c1) : LEnt := ⟨Li324, Lo323, f⟩
abbrev T17_c2 := Bool × Bool × Bool × Int × Bool × LqS × LqS × Bool × LqS × LqS × Bool × Bool × Int × Int × Bool × LqS × LqS × Bool × LqS × LqS × Bool × Bool × Int × Int × Bool × LqS × LqS × Bool × LqS × LqS × Bool × Bool × Int × LqA × LqB × LqC × Unit → Option ((Int × Bool × LqS × LqS × Bool × LqS × LqS × Bool × Bool × Int × Unit) ⊕ (Int × Bool × LqS × LqS × Bool × LqS × LqS × Bool × Bool × Int × Int × Bool × LqS × LqS × Bool × LqS × LqS × Bool × Bool × Int × Unit))
def E17_c2 (f : T17_c2) : LEnt := ⟨Li325, Lo323, f⟩
abbrev T17_c3 := LqA × LqB × LqC × Bool × Bool × Int × Bool × LqS × LqS × Bool × LqS × LqS × Bool × Bool × Int × Int × Bool × LqS × LqS × Bool × LqS × LqS × Bool × Bool × Int × Int × Bool × LqS × LqS × Bool × LqS × LqS × Bool × Bool × Int × Unit → Option (Int × Bool × LqS × LqS × Bool × LqS × LqS × Bool × Bool × Int × Unit)
def E17_c3 (f : T17_c3) : LEnt := ⟨Li326, Lo327, f⟩
abbrev T17 := LqA × LqB × LqC × Bool × Bool × Int × Bool × LqS × LqS × Bool × LqS × LqS × Bool × Bool × Int × Unit → Option (Int × Bool × LqS × LqS × Bool × LqS × LqS × Bool × Bool × Int × Unit)
def E17 (f : T17) : FEnt := ⟨Li321, Lo316, f⟩
def K17 (f19 : T19) (f50 : T50) (f51 : T51) (f52 : T52) (f53 : T53) := lk [(19, E19 f19), (50, E50 f50), (51, E51 f51), (52, E52 f52), (53, E53 f53)]
theorem kok17 : KOk Tryz.prog (K17 C19 C50 C51 C52 C53) := (kc ok19 (kc ok50 (kc ok51 (kc ok52 (kc ok53 kn)))))
def F17_c0 (f19 : T19) (f50 : T50) (f51 : T51) (f52 : T52) (f53 : T53) : T17_c0 := fun (x0, x1, x2, x3, x4, x5, x6, x7, x8, x9, x10, x11, x12, x13, x14, x15, x16, x17, x18, x19, x20, x21, x22, x23, x24, x25, x26, x27, x28, x29, _) =>
 bif x0 then
 (f52 (567, ())).bind fun v =>
 some
 (Sum.inl
 (v.1, v.2.1, v.2.2.1, v.2.2.2.1, v.2.2.2.2.1,
 v.2.2.2.2.2.1, v.2.2.2.2.2.2.1, v.2.2.2.2.2.2.2.1,
 v.2.2.2.2.2.2.2.2.1, v.2.2.2.2.2.2.2.2.2.1, ()))
 else
 bif !(x21 == x1 && (x22 == x2 && (x23 == x3 && true) && true)) then
 some
 (Sum.inr
 (x10, x11, x12, x13, x14, x15, x16, x17, x18, x19, 1, x21, x22, x23, x24, x25, x26, x27, x28, x29, ()))
 else
 bif !(x24 == x4 && (x25 == x5 && (x26 == x6 && true) && true)) then
 some
 (Sum.inr
 (x10, x11, x12, x13, x14, x15, x16, x17, x18, x19, 1, x21, x22, x23, x24, x25, x26, x27, x28, x29,
 ()))
 else
 some
 (Sum.inr
 (x10, x11, x12, x13, x14, x15, x16, x17, x18, x19, x20, x21, x22, x23, x24, x25, x26, x27, x28, x29,
 ()))
theorem h17_c0 (f19 : T19) (f50 : T50) (f51 : T51) (f52 : T52) (f53 : T53) : AqC (K17 f19 f50 f51 f52 f53) 0 (subc (code Tryz.f17) [1, 1, 1, 0, 0, 1, 1, 1, 1, 1, 1, 1]) .nil Li322 Lo323 (F17_c0 f19 f50 f51 f52 f53) := fun v => by kernel_rfl
def C17_c0 : T17_c0 := F17_c0 C19 C50 C51 C52 C53
theorem k17_c0 : CdOk 0 (subc (code Tryz.f17) [1, 1, 1, 0, 0, 1, 1, 1, 1, 1, 1, 1]) (E17_c0 C17_c0) :=
 frc kok17 (h17_c0 C19 C50 C51 C52 C53)
def N17_c1 (f17_c0 : T17_c0) : Ann := (.cond .nil (.seq .nil (.cond .nil (.cut .nil (E17_c0 f17_c0)))))
def F17_c1 (f19 : T19) (f50 : T50) (f51 : T51) (f52 : T52) (f53 : T53) (f17_c0 : T17_c0) : T17_c1 := fun (x0, x1, x2, x3, x4, x5, x6, x7, x8, x9, x10, x11, x12, x13, x14, x15, x16, x17, x18, x19, x20, x21, x22, x23, x24, x25, x26, x27, x28, x29, x30, x31, x32, x33, x34, x35, _) =>
 bif x0 then
 (f52 (563, ())).bind fun v =>
 some
 (Sum.inl
 (v.1, v.2.1, v.2.2.1, v.2.2.2.1, v.2.2.2.2.1,
 v.2.2.2.2.2.1, v.2.2.2.2.2.2.1, v.2.2.2.2.2.2.2.1,
 v.2.2.2.2.2.2.2.2.1, v.2.2.2.2.2.2.2.2.2.1, ()))
 else
 bif x1 then
 (f19 (x4, x5, x6, x7, x8, x9, x10, x11, x12, ())).bind fun v =>
 bif v.1 then some (Sum.inl (x23, x24, x25, x26, x27, x28, x29, true, x31, x32, ()))
 else
 (f53 (x4, x5, x6, ())).bind fun v =>
 bif v.1 then some (Sum.inl (x23, x24, x25, x26, x27, x28, x29, true, x31, x32, ()))
 else
 (f53 (x7, x8, x9, ())).bind fun v =>
 some (Sum.inl (x23, x24, x25, x26, x27, x28, x29, v.1, x31, x32, ()))
 else
 (f19 (x4, x5, x6, x7, x8, x9, x10, x11, x12, ())).bind fun v =>
 bif v.1 then
 (f17_c0
 (true, x4, x5, x6, x7, x8, x9, x10, x11, x12, x13, x14, x15, x16, x17, x18, x19, x20, x21, x22, x23, x24,
 x25, x26, x27, x28, x29, x30, x31, x32, ())).bind
 fun v =>
 Sum.elim
 (fun v =>
 some
 (Sum.inl
 (v.1, v.2.1, v.2.2.1, v.2.2.2.1, v.2.2.2.2.1,
 v.2.2.2.2.2.1, v.2.2.2.2.2.2.1, v.2.2.2.2.2.2.2.1,
 v.2.2.2.2.2.2.2.2.1, v.2.2.2.2.2.2.2.2.2.1, ())))
 (fun v =>
 some
 (Sum.inr
 (v.1, v.2.1, v.2.2.1, v.2.2.2.1, v.2.2.2.2.1,
 v.2.2.2.2.2.1, v.2.2.2.2.2.2.1, v.2.2.2.2.2.2.2.1,
 v.2.2.2.2.2.2.2.2.1, v.2.2.2.2.2.2.2.2.2.1,
 v.2.2.2.2.2.2.2.2.2.2.1,
 v.2.2.2.2.2.2.2.2.2.2.2.1,
 v.2.2.2.2.2.2.2.2.2.2.2.2.1,
 v.2.2.2.2.2.2.2.2.2.2.2.2.2.1,
 v.2.2.2.2.2.2.2.2.2.2.2.2.2.2.1,
 v.2.2.2.2.2.2.2.2.2.2.2.2.2.2.2.1,
 v.2.2.2.2.2.2.2.2.2.2.2.2.2.2.2.2.1,
 v.2.2.2.2.2.2.2.2.2.2.2.2.2.2.2.2.2.1,
 v.2.2.2.2.2.2.2.2.2.2.2.2.2.2.2.2.2.2.1,
 v.2.2.2.2.2.2.2.2.2.2.2.2.2.2.2.2.2.2.2.1, ())))
 v
 else
 (f51
 (x33, x34, x35, x4, x5, x6, x7, x8, x9, x10, x11, x12, x23, x24, x25, x26, x27, x28, x29, x30, x31, x32,
 ())).bind
 fun v =>
 (f17_c0
 (!v.1, v.2.2.2.2.1, v.2.2.2.2.2.1, v.2.2.2.2.2.2.1,
 v.2.2.2.2.2.2.2.1, v.2.2.2.2.2.2.2.2.1,
 v.2.2.2.2.2.2.2.2.2.1, v.2.2.2.2.2.2.2.2.2.2.1,
 v.2.2.2.2.2.2.2.2.2.2.2.1,
 v.2.2.2.2.2.2.2.2.2.2.2.2.1, x13, x14, x15, x16, x17, x18, x19, x20, x21,
 x22, v.2.2.2.2.2.2.2.2.2.2.2.2.2.1,
 v.2.2.2.2.2.2.2.2.2.2.2.2.2.2.1,
 v.2.2.2.2.2.2.2.2.2.2.2.2.2.2.2.1,
 v.2.2.2.2.2.2.2.2.2.2.2.2.2.2.2.2.1,
 v.2.2.2.2.2.2.2.2.2.2.2.2.2.2.2.2.2.1,
 v.2.2.2.2.2.2.2.2.2.2.2.2.2.2.2.2.2.2.1,
 v.2.2.2.2.2.2.2.2.2.2.2.2.2.2.2.2.2.2.2.1,
 v.2.2.2.2.2.2.2.2.2.2.2.2.2.2.2.2.2.2.2.2.1,
 v.2.2.2.2.2.2.2.2.2.2.2.2.2.2.2.2.2.2.2.2.2.1,
 v.2.2.2.2.2.2.2.2.2.2.2.2.2.2.2.2.2.2.2.2.2.2.1,
 ())).bind
 fun v =>
 Sum.elim
 (fun v =>
 some
 (Sum.inl
 (v.1, v.2.1, v.2.2.1, v.2.2.2.1, v.2.2.2.2.1,
 v.2.2.2.2.2.1, v.2.2.2.2.2.2.1, v.2.2.2.2.2.2.2.1,
 v.2.2.2.2.2.2.2.2.1, v.2.2.2.2.2.2.2.2.2.1,
 ())))
 (fun v =>
 some
 (Sum.inr
 (v.1, v.2.1, v.2.2.1, v.2.2.2.1, v.2.2.2.2.1,
 v.2.2.2.2.2.1, v.2.2.2.2.2.2.1, v.2.2.2.2.2.2.2.1,
 v.2.2.2.2.2.2.2.2.1, v.2.2.2.2.2.2.2.2.2.1,
 v.2.2.2.2.2.2.2.2.2.2.1,
 v.2.2.2.2.2.2.2.2.2.2.2.1,
 v.2.2.2.2.2.2.2.2.2.2.2.2.1,
 v.2.2.2.2.2.2.2.2.2.2.2.2.2.1,
 v.2.2.2.2.2.2.2.2.2.2.2.2.2.2.1,
 v.2.2.2.2.2.2.2.2.2.2.2.2.2.2.2.1,
 v.2.2.2.2.2.2.2.2.2.2.2.2.2.2.2.2.1,
 v.2.2.2.2.2.2.2.2.2.2.2.2.2.2.2.2.2.1,
 v.2.2.2.2.2.2.2.2.2.2.2.2.2.2.2.2.2.2.1,
 v.2.2.2.2.2.2.2.2.2.2.2.2.2.2.2.2.2.2.2.1, ())))
 v
theorem h17_c1 (f19 : T19) (f50 : T50) (f51 : T51) (f52 : T52) (f53 : T53) (f17_c0 : T17_c0) : AqC (K17 f19 f50 f51 f52 f53) 0 (subc (code Tryz.f17) [1, 1, 1, 0, 0, 1, 1, 1]) (N17_c1 f17_c0) Li324 Lo323 (F17_c1 f19 f50 f51 f52 f53 f17_c0) := fun v => by kernel_rfl
def C17_c1 : T17_c1 := F17_c1 C19 C50 C51 C52 C53 C17_c0
theorem k17_c1 : CdOk 0 (subc (code Tryz.f17) [1, 1, 1, 0, 0, 1, 1, 1]) (E17_c1 C17_c1) :=
 frd kok17 (And.intro k17_c0 trivial) (h17_c1 C19 C50 C51 C52 C53 C17_c0)
def N17_c2 (f17_c1 : T17_c1) : Ann := (.cond .nil (.cut .nil (E17_c1 f17_c1)))
def F17_c2 (f19 : T19) (f50 : T50) (f51 : T51) (f52 : T52) (f53 : T53) (f17_c1 : T17_c1) : T17_c2 := fun (x0, x1, x2, x3, x4, x5, x6, x7, x8, x9, x10, x11, x12, x13, x14, x15, x16, x17, x18, x19, x20, x21, x22, x23, x24, x25, x26, x27, x28, x29, x30, x31, x32, x33, x34, x35, _) =>
 bif x0 then
 (f52 (534, ())).bind fun v =>
 some
 (Sum.inl
 (v.1, v.2.1, v.2.2.1, v.2.2.2.1, v.2.2.2.2.1,
 v.2.2.2.2.2.1, v.2.2.2.2.2.2.1, v.2.2.2.2.2.2.2.1,
 v.2.2.2.2.2.2.2.2.1, v.2.2.2.2.2.2.2.2.2.1, ()))
 else
 bif x11 then
 (f50 (x1, x2, x3, true, ())).bind fun v =>
 (f17_c1
 (!v.1, x1, x2, x3, x4, x5, x6, x7, x8, x9, x10, x11, x12, x13, x14, x15, x16, x17, x18, x19, x20, x21,
 x22, x23, x24, x25, x26, x27, x28, x29, x30, x31, x32, x33, x34, x35, ())).bind
 fun v =>
 Sum.elim
 (fun v =>
 some
 (Sum.inl
 (v.1, v.2.1, v.2.2.1, v.2.2.2.1, v.2.2.2.2.1,
 v.2.2.2.2.2.1, v.2.2.2.2.2.2.1, v.2.2.2.2.2.2.2.1,
 v.2.2.2.2.2.2.2.2.1, v.2.2.2.2.2.2.2.2.2.1, ())))
 (fun v =>
 some
 (Sum.inr
 (v.1, v.2.1, v.2.2.1, v.2.2.2.1, v.2.2.2.2.1,
 v.2.2.2.2.2.1, v.2.2.2.2.2.2.1, v.2.2.2.2.2.2.2.1,
 v.2.2.2.2.2.2.2.2.1, v.2.2.2.2.2.2.2.2.2.1,
 v.2.2.2.2.2.2.2.2.2.2.1, v.2.2.2.2.2.2.2.2.2.2.2.1,
 v.2.2.2.2.2.2.2.2.2.2.2.2.1,
 v.2.2.2.2.2.2.2.2.2.2.2.2.2.1,
 v.2.2.2.2.2.2.2.2.2.2.2.2.2.2.1,
 v.2.2.2.2.2.2.2.2.2.2.2.2.2.2.2.1,
 v.2.2.2.2.2.2.2.2.2.2.2.2.2.2.2.2.1,
 v.2.2.2.2.2.2.2.2.2.2.2.2.2.2.2.2.2.1,
 v.2.2.2.2.2.2.2.2.2.2.2.2.2.2.2.2.2.2.1,
 v.2.2.2.2.2.2.2.2.2.2.2.2.2.2.2.2.2.2.2.1, ())))
 v
 else
 (f17_c1
 (false, x1, x2, x3, x4, x5, x6, x7, x8, x9, x10, x11, x12, x13, x14, x15, x16, x17, x18, x19, x20, x21, x22,
 x23, x24, x25, x26, x27, x28, x29, x30, x31, x32, x33, x34, x35, ())).bind
 fun v =>
 Sum.elim
 (fun v =>
 some
 (Sum.inl
 (v.1, v.2.1, v.2.2.1, v.2.2.2.1, v.2.2.2.2.1,
 v.2.2.2.2.2.1, v.2.2.2.2.2.2.1, v.2.2.2.2.2.2.2.1,
 v.2.2.2.2.2.2.2.2.1, v.2.2.2.2.2.2.2.2.2.1, ())))
 (fun v =>
 some
 (Sum.inr
 (v.1, v.2.1, v.2.2.1, v.2.2.2.1, v.2.2.2.2.1,
 v.2.2.2.2.2.1, v.2.2.2.2.2.2.1, v.2.2.2.2.2.2.2.1,
 v.2.2.2.2.2.2.2.2.1, v.2.2.2.2.2.2.2.2.2.1,
 v.2.2.2.2.2.2.2.2.2.2.1, v.2.2.2.2.2.2.2.2.2.2.2.1,
 v.2.2.2.2.2.2.2.2.2.2.2.2.1,
 v.2.2.2.2.2.2.2.2.2.2.2.2.2.1,
 v.2.2.2.2.2.2.2.2.2.2.2.2.2.2.1,
 v.2.2.2.2.2.2.2.2.2.2.2.2.2.2.2.1,
 v.2.2.2.2.2.2.2.2.2.2.2.2.2.2.2.2.1,
 v.2.2.2.2.2.2.2.2.2.2.2.2.2.2.2.2.2.1,
 v.2.2.2.2.2.2.2.2.2.2.2.2.2.2.2.2.2.2.1,
 v.2.2.2.2.2.2.2.2.2.2.2.2.2.2.2.2.2.2.2.1, ())))
 v
theorem h17_c2 (f19 : T19) (f50 : T50) (f51 : T51) (f52 : T52) (f53 : T53) (f17_c1 : T17_c1) : AqC (K17 f19 f50 f51 f52 f53) 0 (subc (code Tryz.f17) [1, 1, 1, 0, 0, 1]) (N17_c2 f17_c1) Li325 Lo323 (F17_c2 f19 f50 f51 f52 f53 f17_c1) := fun v => by kernel_rfl
def C17_c2 : T17_c2 := F17_c2 C19 C50 C51 C52 C53 C17_c1
theorem k17_c2 : CdOk 0 (subc (code Tryz.f17) [1, 1, 1, 0, 0, 1]) (E17_c2 C17_c2) :=
 frd kok17 (And.intro k17_c1 trivial) (h17_c2 C19 C50 C51 C52 C53 C17_c1)
def N17_c3 (f17_c2 : T17_c2) : Ann := (.seq .nil (.seq (.blk (.cut .nil (E17_c2 f17_c2))) .nil))
def F17_c3 (f19 : T19) (f50 : T50) (f51 : T51) (f52 : T52) (f53 : T53) (f17_c2 : T17_c2) : T17_c3 := fun (x0, x1, x2, x3, x4, x5, x6, x7, x8, x9, x10, x11, x12, x13, x14, x15, x16, x17, x18, x19, x20, x21, x22, x23, x24, x25, x26, x27, x28, x29, x30, x31, x32, x33, x34, _) =>
 bif decide (x5 > 0) then
 (f17_c2
 (decide (x14 > x5), x3, x4, x5, x6, x7, x8, x9, x10, x11, x12, x13, x14, x15, x16, x17, x18, x19, x20, x21, x22,
 x23, x24, x25, x26, x27, x28, x29, x30, x31, x32, x33, x34, x0, x1, x2, ())).bind
 fun v =>
 Sum.elim
 (fun v =>
 some
 (v.1, v.2.1, v.2.2.1, v.2.2.2.1, v.2.2.2.2.1,
 v.2.2.2.2.2.1, v.2.2.2.2.2.2.1, v.2.2.2.2.2.2.2.1,
 v.2.2.2.2.2.2.2.2.1, v.2.2.2.2.2.2.2.2.2.1, ()))
 (fun v =>
 some
 (v.2.2.2.2.2.2.2.2.2.2.1, v.2.2.2.2.2.2.2.2.2.2.2.1,
 v.2.2.2.2.2.2.2.2.2.2.2.2.1,
 v.2.2.2.2.2.2.2.2.2.2.2.2.2.1,
 v.2.2.2.2.2.2.2.2.2.2.2.2.2.2.1,
 v.2.2.2.2.2.2.2.2.2.2.2.2.2.2.2.1,
 v.2.2.2.2.2.2.2.2.2.2.2.2.2.2.2.2.1,
 v.2.2.2.2.2.2.2.2.2.2.2.2.2.2.2.2.2.1,
 v.2.2.2.2.2.2.2.2.2.2.2.2.2.2.2.2.2.2.1,
 v.2.2.2.2.2.2.2.2.2.2.2.2.2.2.2.2.2.2.2.1, ()))
 v
 else
 (f17_c2
 (false, x3, x4, x5, x6, x7, x8, x9, x10, x11, x12, x13, x14, x15, x16, x17, x18, x19, x20, x21, x22, x23, x24,
 x25, x26, x27, x28, x29, x30, x31, x32, x33, x34, x0, x1, x2, ())).bind
 fun v =>
 Sum.elim
 (fun v =>
 some
 (v.1, v.2.1, v.2.2.1, v.2.2.2.1, v.2.2.2.2.1,
 v.2.2.2.2.2.1, v.2.2.2.2.2.2.1, v.2.2.2.2.2.2.2.1,
 v.2.2.2.2.2.2.2.2.1, v.2.2.2.2.2.2.2.2.2.1, ()))
 (fun v =>
 some
 (v.2.2.2.2.2.2.2.2.2.2.1, v.2.2.2.2.2.2.2.2.2.2.2.1,
 v.2.2.2.2.2.2.2.2.2.2.2.2.1,
 v.2.2.2.2.2.2.2.2.2.2.2.2.2.1,
 v.2.2.2.2.2.2.2.2.2.2.2.2.2.2.1,
 v.2.2.2.2.2.2.2.2.2.2.2.2.2.2.2.1,
 v.2.2.2.2.2.2.2.2.2.2.2.2.2.2.2.2.1,
 v.2.2.2.2.2.2.2.2.2.2.2.2.2.2.2.2.2.1,
 v.2.2.2.2.2.2.2.2.2.2.2.2.2.2.2.2.2.2.1,
 v.2.2.2.2.2.2.2.2.2.2.2.2.2.2.2.2.2.2.2.1, ()))
 v
theorem h17_c3 (f19 : T19) (f50 : T50) (f51 : T51) (f52 : T52) (f53 : T53) (f17_c2 : T17_c2) : AqC (K17 f19 f50 f51 f52 f53) 0 (subc (code Tryz.f17) [1, 1]) (N17_c3 f17_c2) Li326 Lo327 (F17_c3 f19 f50 f51 f52 f53 f17_c2) := fun v => by kernel_rfl
def C17_c3 : T17_c3 := F17_c3 C19 C50 C51 C52 C53 C17_c2
theorem k17_c3 : CdOk 0 (subc (code Tryz.f17) [1, 1]) (E17_c3 C17_c3) :=
 frd kok17 (And.intro k17_c2 trivial) (h17_c3 C19 C50 C51 C52 C53 C17_c2)
def N17 (f17_c3 : T17_c3) : Ann := (.seq .nil (.cut .nil (E17_c3 f17_c3)))
def F17 (f19 : T19) (f50 : T50) (f51 : T51) (f52 : T52) (f53 : T53) (f17_c3 : T17_c3) : T17 := fun (x0, x1, x2, x3, x4, x5, x6, x7, x8, x9, x10, x11, x12, x13, x14, _) =>
 bif x13 then
 (f17_c3
 (x0, x1, x2, x3, x4, x5, x6, x7, x8, x9, x10, x11, x12, x13, x14, 0, false, [], [], false, [], [], false, false,
 0, 0, x6, x7, x8, x9, x10, x11, false, x4, 0, ())).bind
 fun v =>
 some
 (v.1, v.2.1, v.2.2.1, v.2.2.2.1, v.2.2.2.2.1, v.2.2.2.2.2.1,
 v.2.2.2.2.2.2.1, v.2.2.2.2.2.2.2.1, v.2.2.2.2.2.2.2.2.1,
 v.2.2.2.2.2.2.2.2.2.1, ())
 else
 (f17_c3
 (x0, x1, x2, x3, x4, x5, x6, x7, x8, x9, x10, x11, x12, x13, x14, 0, false, [], [], false, [], [], false, false,
 0, 0, x6, x7, x8, x9, x10, x11, false, false, 0, ())).bind
 fun v =>
 some
 (v.1, v.2.1, v.2.2.1, v.2.2.2.1, v.2.2.2.2.1, v.2.2.2.2.2.1,
 v.2.2.2.2.2.2.1, v.2.2.2.2.2.2.2.1, v.2.2.2.2.2.2.2.2.1,
 v.2.2.2.2.2.2.2.2.2.1, ())
theorem h17 (f19 : T19) (f50 : T50) (f51 : T51) (f52 : T52) (f53 : T53) (f17_c3 : T17_c3) : AqF (K17 f19 f50 f51 f52 f53) 0 Tryz.f17 (N17 f17_c3) Li321 Lo316 (F17 f19 f50 f51 f52 f53 f17_c3) := fun v => by kernel_rfl
def C17 : T17 := F17 C19 C50 C51 C52 C53 C17_c3
theorem ok17 : FO 17 (E17 C17) :=
 qo kok17 Tryz.func17 (And.intro k17_c3 trivial) (h17 C19 C50 C51 C52 C53 C17_c3)
abbrev T15 := Unit → Option (Bool × Unit)
def E15 (f : T15) : FEnt := ⟨Li7, Lo29, f⟩
def K15 (f17 : T17) (f18 : T18) (f19 : T19) (f48 : T48) (f49 : T49) (f50 : T50) := lk [(17, E17 f17), (18, E18 f18), (19, E19 f19), (48, E48 f48), (49, E49 f49), (50, E50 f50)]
def C15 : T15 := fun _ => some (true, ())
theorem h15 : afun Γ (K15 C17 C18 C19 C48 C49 C50) 0 Tryz.f15.ntmps Tryz.f15.results.toList (code Tryz.f15) .nil (em id Li7 ()).1 (em id Li7 ()).2 (ofin 0 Lo29) = some (true, ()) := by kernel_rfl
theorem ok15 : FO 15 (E15 C15) :=
 q0 (kc ok17 (kc ok18 (kc ok19 (kc ok48 (kc ok49 (kc ok50 kn)))))) Tryz.func15 (fun v => h15)
abbrev T16 := Bool × LqS × LqS × Bool × LqS × LqS × Bool × Bool × Int × Unit → Option (Bool × Unit)
def E16 (f : T16) : FEnt := ⟨Li318, Lo29, f⟩
def K16 (f38 : T38) := lk [(38, E38 f38)]
def F16 (f38 : T38) : T16 := fun (x0, x1, x2, x3, x4, x5, x6, x7, x8, _) =>
 (f38 (x1, x2, ())).bind fun v =>
 (f38 (x4, x5, ())).bind fun v1 => bif v.1 then some (v1.1, ()) else some (false, ())
def C16 : T16 := F16 C38
theorem ok16 : FO 16 (E16 C16) := zq1 Li318 Lo29 K16 F16 C38 (kc ok38 kn) Tryz.func16
def Li328 : List Sh := [.agg 3, .bool, .bool, .int .i64, .agg 9, .bool, .str, .str, .bool, .str, .str, .bool, .bool, .int .i64]
def Li329 : List Sh := (List.cons (.top) (List.cons (.top) (List.cons (.ptr 0 0) (List.cons (.ptr 1 0) (List.cons (.top) (List.cons (.bool) (List.cons (.top) (List.cons (.ptr 2 0) (tp 72 (List.cons (.obox 3) (List.cons (.bool) (List.cons (.bool) (List.cons (.int .i64) (List.cons (.obox 9) (List.cons (.bool) (List.cons (.str) (List.cons (.str) (List.cons (.bool) (List.cons (.str) (List.cons (.str) (List.cons (.bool) (List.cons (.bool) (List.cons (.int .i64) (List.cons (.obox 5) (List.cons (.lst YqA) (List.cons (.lst YqB) (List.cons (.lst YqC) (List.cons (.opq 0) (List.cons (.opq 1) [])))))))))))))))))))))))))))))
def Lo330 : Outs := [(.ret, (tp 4 (List.cons (.bool) (tp 75 []))))]
abbrev T4_c0 := Bool × Bool × Bool × Int × Bool × LqS × LqS × Bool × LqS × LqS × Bool × Bool × Int × LqA × LqB × LqC × Unit → Option (Bool × Unit)
def E4_c0 (f : T4_c0) : LEnt := ⟨Li329, Lo330, f⟩
abbrev T4 := Bool × Bool × Int × Bool × LqS × LqS × Bool × LqS × LqS × Bool × Bool × Int × Unit → Option (Bool × Unit)
def E4 (f : T4) : FEnt := ⟨Li328, Lo29, f⟩
def K4 (f15 : T15) (f16 : T16) (f17 : T17) (f18 : T18) (f19 : T19) (f20 : T20) (f21 : T21) (f22 : T22) := lk [(15, E15 f15), (16, E16 f16), (17, E17 f17), (18, E18 f18), (19, E19 f19), (20, E20 f20), (21, E21 f21), (22, E22 f22)]
theorem kok4 : KOk Tryz.prog (K4 C15 C16 C17 C18 C19 C20 C21 C22) := (kc ok15 (kc ok16 (kc ok17 (kc ok18 (kc ok19 (kc ok20 (kc ok21 (kc ok22 kn))))))))
def F4_c0 (f15 : T15) (f16 : T16) (f17 : T17) (f18 : T18) (f19 : T19) (f20 : T20) (f21 : T21) (f22 : T22) : T4_c0 := fun (x0, x1, x2, x3, x4, x5, x6, x7, x8, x9, x10, x11, x12, x13, x14, x15, _) =>
 (f22 (x4, x5, x6, ())).bind fun v =>
 (f21 (v.1, ())).bind fun v =>
 bif decide (v.1 ≥ 0) then some (x0, ())
 else
 (f22 (x7, x8, x9, ())).bind fun v =>
 (f21 (v.1, ())).bind fun v =>
 bif decide (v.1 ≥ 0) then some (x0, ())
 else
 bif x0 then
 (f17 (x13, x14, x15, x1, x2, x3, x4, x5, x6, x7, x8, x9, x10, x11, x12, ())).bind fun v =>
 bif
 v.1 == 0 &&
 (v.2.1 == x4 && (v.2.2.1 == x5 && (v.2.2.2.1 == x6 && true) && true) &&
 (v.2.2.2.2.1 == x7 &&
 (v.2.2.2.2.2.1 == x8 && (v.2.2.2.2.2.2.1 == x9 && true) &&
 true) &&
 (v.2.2.2.2.2.2.2.1 == false &&
 (v.2.2.2.2.2.2.2.2.1 == false &&
 (v.2.2.2.2.2.2.2.2.2.1 == 0 && true))))) then
 (f19 (x4, x5, x6, x7, x8, x9, x10, x11, x12, ())).bind fun v =>
 some (bif v.1 then false else true, ())
 else some (false, ())
 else some (false, ())
theorem h4_c0 (f15 : T15) (f16 : T16) (f17 : T17) (f18 : T18) (f19 : T19) (f20 : T20) (f21 : T21) (f22 : T22) : AqC (K4 f15 f16 f17 f18 f19 f20 f21 f22) 0 (subc (code Tryz.f4) [1, 1, 1, 1, 1]) .nil Li329 Lo330 (F4_c0 f15 f16 f17 f18 f19 f20 f21 f22) := fun v => by kernel_rfl
def C4_c0 : T4_c0 := F4_c0 C15 C16 C17 C18 C19 C20 C21 C22
theorem k4_c0 : CdOk 0 (subc (code Tryz.f4) [1, 1, 1, 1, 1]) (E4_c0 C4_c0) :=
 frc kok4 (h4_c0 C15 C16 C17 C18 C19 C20 C21 C22)
def N4 (f4_c0 : T4_c0) : Ann := (.seq .nil (.seq .nil (.seq .nil (.seq .nil (.cut .nil (E4_c0 f4_c0))))))
def F4 (f15 : T15) (f16 : T16) (f17 : T17) (f18 : T18) (f19 : T19) (f20 : T20) (f21 : T21) (f22 : T22) (f4_c0 : T4_c0) : T4 := fun (x0, x1, x2, x3, x4, x5, x6, x7, x8, x9, x10, x11, _) =>
 (f15 ()).bind fun v =>
 (f16 (x3, x4, x5, x6, x7, x8, x9, x10, x11, ())).bind fun v1 =>
 (f18 ()).bind fun v2 =>
 bif !v1.1 then some (v.1, ())
 else
 (f20 (v2.1, v2.2.1, v2.2.2.1, x3, x4, x5, ())).bind fun v3 =>
 bif v3.1 != 0 then some (v.1, ())
 else
 (f20 (v2.1, v2.2.1, v2.2.2.1, x6, x7, x8, ())).bind fun v4 =>
 bif v4.1 != 0 then some (v.1, ())
 else
 bif x9 then some (v.1, ())
 else
 bif x10 then some (v.1, ())
 else
 bif decide (x2 > 0) then
 bif decide (x2 < x11) then some (v.1, ())
 else
 (f4_c0
 (v.1, x0, x1, x2, x3, x4, x5, x6, x7, x8, x9, x10, x11, v2.1, v2.2.1,
 v2.2.2.1, ())).bind
 fun v => some (v.1, ())
 else
 (f4_c0
 (v.1, x0, x1, x2, x3, x4, x5, x6, x7, x8, x9, x10, x11, v2.1, v2.2.1,
 v2.2.2.1, ())).bind
 fun v => some (v.1, ())
theorem h4 (f15 : T15) (f16 : T16) (f17 : T17) (f18 : T18) (f19 : T19) (f20 : T20) (f21 : T21) (f22 : T22) (f4_c0 : T4_c0) : AqF (K4 f15 f16 f17 f18 f19 f20 f21 f22) 0 Tryz.f4 (N4 f4_c0) Li328 Lo29 (F4 f15 f16 f17 f18 f19 f20 f21 f22 f4_c0) := fun v => by kernel_rfl
def C4 : T4 := F4 C15 C16 C17 C18 C19 C20 C21 C22 C4_c0
theorem ok4 : FO 4 (E4 C4) :=
 qo kok4 Tryz.func4 (And.intro k4_c0 trivial) (h4 C15 C16 C17 C18 C19 C20 C21 C22 C4_c0)
def tkB : Bool := match C18 () with
 | some (T, A, B, _) => (decide (T.length ≤ 1000000000000) && T.all fun e => decide (0 ≤ e.2.2.2.1) && decide (e.2.2.2.1 < 8)) && (decide (A.length ≤ 1000000000000) && decide (B.length ≤ 1000000000000))
 | none => false
theorem tkB_k : tkB = true := by kernel_rfl
theorem tk : ∃ T A B, C18 () = some (T, A, B, ()) ∧ TK T A B := by
 have h := tkB_k
 unfold tkB at h
 cases hc : C18 () with
 | none => rw [hc] at h; cases h
 | some y =>
  obtain ⟨T, A, B, u⟩ := y
  rw [hc] at h
  simp only [Bool.and_eq_true, decide_eq_true_eq, List.all_eq_true] at h
  exact ⟨T, A, B, rfl, ⟨h.1.1, h.1.2⟩, h.2.1, h.2.2⟩
def Asc (s : List UInt8) : Prop := ∀ c ∈ s, c.toNat < 128
theorem Asc.app {a b : List UInt8} (ha : Asc a) (hb : Asc b) : Asc (a ++ b) := fun c hc => (List.mem_append.1 hc).elim (ha c) (hb c)
theorem c21a (s : List UInt8) (hs : s.length ≤ 1000000) (ha : Asc s) : C21 (s, ()) = some (-1, ()) := by
 suffices h : Df (C21 (s, ())) (fun y => y = (-1, ())) by
  obtain ⟨y, e, rfl⟩ := h
  exact e
 unfold C21 F21
 dsimp only
 refine dZ (P := fun z => z = .inl ()) ?_ ?_
 · refine dL ?I ?m ?h _ ?hv ?hn
   case I => exact (fun v => v.1 = s ∧ v.2.1 = s.length ∧ 0 ≤ v.2.2.1)
   case m => exact (fun v => (s.length - v.2.2.1).toNat)
   case hv => exact ⟨rfl, rfl, Int.le_refl _⟩
   case hn => exact (by first | omega | (dsimp only; omega))
   rintro ⟨s', n, k, u⟩ ⟨h1, h2, h3⟩
   dsimp only at h1 h2 h3
   subst h1
   subst h2
   unfold F21_l0
   dsimp only
   with_reducible repeat' (first | apply dP | apply dX <;> intro _)
   · rename_i hc
     have hg : (s'.getD k.toNat 0) ∈ s' := by rw [getD_lt (by omega)]; exact List.getElem_mem _
     have := ha _ hg
     exfalso; omega
   · rw [w64s (by omega)]
     exact ⟨⟨rfl, rfl, by first | omega | (dsimp only; omega)⟩, by first | omega | (dsimp only; omega)⟩
   · refine dO ?_; omega
   · rfl
 · rintro z rfl
   exact dP rfl
theorem esc_mem {c : UInt8} {s : List UInt8} (h : c ∈ s) : c ∈ esc s := by
 refine List.mem_flatMap.2 ⟨c, h, ?_⟩
 unfold esc1
 split <;> simp
theorem d22a (a b : List UInt8) (ha : a.length ≤ 1000) (hb : b.length ≤ 1000) : Df (C22 (false, a, b, ())) (fun y => Asc y.1 → Asc a ∧ Asc b) := by
 unfold C22 F22
 dsimp only
 simp only [cond_false]
 refine dZ (P := fun y => y.1 = true → b = []) ?_ ?_
 · unfold C59 F59
   dsimp only
   with_reducible repeat' (first | apply dP | apply dX <;> intro _)
   · rename_i hb0
     rw [p25 a (by omega)]
     exact dP fun _ => eq_of_beq hb0
   all_goals (intro h; cases h)
 rintro ⟨m, u⟩ hm
 dsimp only at hm ⊢
 with_reducible repeat' (first | apply dP | apply dX <;> intro _)
 · rename_i h1 _ _
   intro h
   have := hm h1
   subst this
   exact ⟨fun c hc => h c (by simp [hc]), fun c hc => by cases hc⟩
 · refine dO ?_; rename_i hc; simp only [List.length_append, List.length_cons, List.length_nil] at hc; omega
 · refine dO ?_; rename_i hc; simp only [List.length_append, List.length_cons, List.length_nil] at hc; omega
 · refine dZ (P := fun y => y.1.length ≤ 2 * a.length + b.length + 3 ∧ (Asc y.1 → Asc a ∧ Asc b)) ?_ ?_
   · unfold C45 F45
     dsimp only
     refine dZ (d88 a (by omega)) ?_
     rintro ⟨w, u⟩ -
     dsimp only
     have he := esc_len a
     have hq : (src 1 a).length = (esc a).length + 2 := by simp [src]
     with_reducible repeat' (first | apply dP | apply dX <;> intro _)
     · rw [c9 1 a 0 (by omega)]
       simp only [Option.bind_some]
       with_reducible repeat' (first | apply dP | apply dX <;> intro _)
       · refine ⟨by simp only [List.length_append, List.length_cons, List.length_nil]; omega, fun h => ⟨fun c hc => h c ?_, fun c hc => h c ?_⟩⟩
         · simp [src, esc_mem hc]
         · simp [hc]
       all_goals (refine dO ?_; rename_i hc; simp only [List.length_append, List.length_cons, List.length_nil] at hc; omega)
     · refine ⟨by simp only [List.length_append, List.length_cons, List.length_nil]; omega, fun h => ⟨fun c hc => h c ?_, fun c hc => h c ?_⟩⟩
       · simp [hc]
       · simp [hc]
     all_goals (refine dO ?_; rename_i hc; simp only [List.length_append, List.length_cons, List.length_nil] at hc; omega)
   rintro ⟨x, u⟩ ⟨k1, k2⟩
   dsimp only at k1 k2 ⊢
   with_reducible repeat' (first | apply dP | apply dX <;> intro _)
   · intro h
     exact k2 fun c hc => h c (by simp [hc])
   all_goals (refine dO ?_; rename_i hc; simp only [List.length_append, List.length_cons, List.length_nil] at hc; omega)
section
variable {T : List R6} {A : List R4} {B : List R3}
theorem c58a (n : Bool) (a b : List UInt8) (la : a.length ≤ 1000) (lb : b.length ≤ 1000) (ha : Asc a) (hb : Asc b) : C58 (n, a, b, ()) = some (false, ()) := by
 suffices h : Df (C58 (n, a, b, ())) (fun y => y = (false, ())) by
  obtain ⟨y, e, rfl⟩ := h
  exact e
 unfold C58 F58
 dsimp only
 rw [c21a a (by omega) ha]
 simp only [Option.bind_some]
 rw [show decide ((-1 : Int) ≥ 0) = false from rfl]
 simp only [cond_false]
 refine dZ (P := fun _ => True) ?_ ?_
 · unfold C96 F96
   dsimp only
   exact dZ (d131 b [91]) (fun z _ => dP trivial)
 rintro ⟨o, u⟩ -
 dsimp only
 with_reducible repeat' (first | apply dP | apply dX <;> intro _)
 · rw [c21a b (by omega) hb]; exact dP rfl
 · rfl
theorem c53a (n : Bool) (a b : List UInt8) (la : a.length ≤ 1000) (lb : b.length ≤ 1000) (ha : Asc a) (hb : Asc b) : C53 (n, a, b, ()) = some (false, ()) := by
 show F53 C21 _ = _
 simp only [F53, c21a (a ++ b) (by simp only [List.length_append]; omega) (ha.app hb), Option.bind_some]
 rw [decide_eq_true (by omega)]
 rfl
theorem c87r (h : TK T A B) (a b : List UInt8) (la : a.length ≤ 1000) (lb : b.length ≤ 1000) (h44 : C44 (T, A, B, a, b, ()) = some (0, ())) (h86 : C86 (b, ()) = some (false, ())) : ∃ d, C87 (T, A, B, b, ()) = some (d, 0, ()) := by
 obtain ⟨⟨v1, v2, u⟩, e83, -⟩ := d83 a (by omega)
 obtain ⟨⟨w, u'⟩, e84, -⟩ := d84v1 a (by omega)
 obtain ⟨⟨d, e, u''⟩, e87, -⟩ := d87 h b (by omega)
 have hf : F44 C67 C83 C84v1 C86 C87 (T, A, B, a, b, ()) = some (0, ()) := h44
 simp only [F44, e83, e84, h86, e87, Option.bind_some, cond_false] at hf
 refine ⟨d, ?_⟩
 rw [e87]
 cases h1 : (a == []) with
 | true => rw [h1] at hf; cases hf
 | false =>
  rw [h1] at hf
  simp only [cond_false] at hf
  cases h2 : decide ((a.length : Int) > 64) with
  | true => rw [h2] at hf; cases hf
  | false =>
   rw [h2] at hf
   simp only [cond_false] at hf
   cases h3 : decide (v2 ≥ 0) with
   | true => rw [h3] at hf; cases hf
   | false =>
    rw [h3] at hf
    simp only [cond_false] at hf
    cases w with
    | true => cases hf
    | false =>
     simp only [cond_false, Option.some.injEq, Prod.mk.injEq, and_true] at hf
     rw [hf]
theorem c20n (n : Bool) (a b : List UInt8) (ha : a.length ≤ 1000) (h : C20 (T, A, B, n, a, b, ()) = some (0, ())) :
 (n = true ∧ a = [] ∧ b = []) ∨ (n = false ∧ ((∃ u, C59 (false, a, b, ()) = some (true, u)) ∨ ∃ u, C59 (false, a, b, ()) = some (false, u) ∧ C44 (T, A, B, a, b, ()) = some (0, ()))) := by
 cases n with
 | true =>
  have r1 : C20 (T, A, B, true, a, b, ()) = some ((if (a == [] && (b == [] && true)) = true then 0 else 1), ()) := by
   show F20 C44 C59 C20_c0 _ = _
   simp only [F20, cond_true]
   cases hab : (a == [] && (b == [] && true)) with
   | true => rfl
   | false => rfl
  rw [r1] at h
  cases hab : (a == [] && (b == [] && true)) with
  | true =>
   simp only [Bool.and_eq_true, and_true, beq_iff_eq] at hab
   exact .inl ⟨rfl, hab.1, hab.2⟩
  | false => rw [hab] at h; cases h
 | false =>
  refine .inr ⟨rfl, ?_⟩
  obtain ⟨⟨m, u⟩, e59, -⟩ := d59 false a b ha
  cases m with
  | true => exact .inl ⟨u, e59⟩
  | false =>
   refine .inr ⟨u, e59, ?_⟩
   have hf : F20 C44 C59 C20_c0 (T, A, B, false, a, b, ()) = some (0, ()) := h
   have hc : C20_c0 (false, T, A, B, false, a, b, ()) = some (.inr (T, A, B, false, a, b, ())) := by
    show F20_c0 C44 C59 _ = _
    simp only [F20_c0, cond_false, e59, Option.bind_some]
   simp only [F20, cond_false, hc, Option.bind_some, Sum.elim_inr] at hf
   cases h44 : C44 (T, A, B, a, b, ()) with
   | none => rw [h44] at hf; cases hf
   | some y => rw [h44] at hf; exact hf
theorem c39a (h : TK T A B) (n : Bool) (a b : List UInt8) (la : a.length ≤ 1000) (lb : b.length ≤ 1000) (h20 : C20 (T, A, B, n, a, b, ()) = some (0, ())) (ha : Asc a) (hb : Asc b) : C39 (T, A, B, n, a, b, ()) = some (n, a, b, 0, ()) := by
 show F39 C59 C78 _ = _
 rcases c20n n a b la h20 with ⟨rfl, -, -⟩ | ⟨rfl, ⟨u, e59⟩ | ⟨u, e59, h44⟩⟩
 · rfl
 · simp only [F39, cond_false, e59, Option.bind_some, cond_true]
 · simp only [F39, cond_false, e59, Option.bind_some]
   have h78 : C78 (T, A, B, a, b, ()) = some (a, b, 0, ()) := by
    obtain ⟨⟨o, u⟩, e86, -⟩ := d86 b
    show F78 C118 C21 C86 C78_c0 _ = _
    have r : decide ((-1 : Int) ≥ 0) = false := rfl
    cases o with
    | true =>
     have hc : C78_c0 (false, T, A, B, a, b, [], [], ()) = some (.inl (0, a, b, ())) := by
      show F78_c0 C118 C21 C86 _ = _
      simp only [F78_c0, cond_false, e86, Option.bind_some, cond_true]
     simp only [F78, c21a a (by omega) ha, c21a b (by omega) hb, Option.bind_some, r, cond_false, e86, cond_true, hc, Sum.elim_inl]
    | false =>
     have hc : C78_c0 (false, T, A, B, a, b, [], [], ()) = some (.inr (T, A, B, a, b, [], [], ())) := by
      show F78_c0 C118 C21 C86 _ = _
      simp only [F78_c0, cond_false, e86, Option.bind_some]
     obtain ⟨d, e87⟩ := c87r h a b la lb h44 e86
     have h118 : C118 (T, A, B, b, ()) = some (b, 0, ()) := by
      show F118 C21 C87 _ = _
      simp only [F118, e87, Option.bind_some, c21a b (by omega) hb]
      rfl
     simp only [F78, c21a a (by omega) ha, Option.bind_some, r, cond_false, e86, hc, Sum.elim_inr, h118]
     rfl
   simp only [h78, Option.bind_some]
   rfl
end
theorem right_asc {T : List R6} {A : List R4} {B : List R3} (n : Bool) (a b y : List UInt8) (la : a.length ≤ 1000) (lb : b.length ≤ 1000) (h20 : C20 (T, A, B, n, a, b, ()) = some (0, ())) (h22 : C22 (n, a, b, ()) = some (y, ())) (hy : Asc y) : Asc a ∧ Asc b := by
 rcases c20n n a b la h20 with ⟨rfl, rfl, rfl⟩ | ⟨rfl, -⟩
 · exact ⟨fun c hc => (by cases hc), fun c hc => (by cases hc)⟩
 · obtain ⟨z, e, hz⟩ := d22a a b la lb
   rw [h22] at e
   cases e
   exact hz hy
theorem c38o (a b : List UInt8) : ∃ f, C38 (a, b, ()) = some (f, ()) ∧ (f = true → a.length ≤ 1000 ∧ b.length ≤ 1000) := by
 show ∃ f, F38 (a, b, ()) = some (f, ()) ∧ _
 simp only [F38]
 by_cases h : (a.length : Int) ≤ 150
 · rw [decide_eq_true h]
   exact ⟨_, rfl, fun hf => ⟨by omega, by have := of_decide_eq_true hf; omega⟩⟩
 · rw [decide_eq_false h]
   exact ⟨_, rfl, fun hf => by cases hf⟩
theorem c4law (x0 x1 : Bool) (x2 : Int) (x3 : Bool) (x4 x5 : List UInt8) (x6 : Bool) (x7 x8 : List UInt8) (x9 x10 : Bool) (x11 : Int) : C4 (x0, x1, x2, x3, x4, x5, x6, x7, x8, x9, x10, x11, ()) = some (true, ()) := by
 show F4 C15 C16 C17 C18 C19 C20 C21 C22 C4_c0 _ = _
 have h15 : C15 () = some (true, ()) := rfl
 obtain ⟨fa, hfa, ba⟩ := c38o x4 x5
 obtain ⟨fb, hfb, bb⟩ := c38o x7 x8
 have h16 : C16 (x3, x4, x5, x6, x7, x8, x9, x10, x11, ()) = some (fa && fb, ()) := by
  show F16 C38 _ = _
  simp only [F16, hfa, hfb, Option.bind_some]
  cases fa <;> rfl
 obtain ⟨T, A, B, h18, hT⟩ := tk
 simp only [F4, h15, Option.bind_some, h16, h18]
 cases hff : (fa && fb) with
 | false => rfl
 | true =>
  obtain ⟨rfl, rfl⟩ : fa = true ∧ fb = true := by simpa using hff
  obtain ⟨l4, l5⟩ := ba rfl
  obtain ⟨l7, l8⟩ := bb rfl
  have t20 : ∀ n a b, a.length ≤ 1000 → b.length ≤ 1000 → ∃ e, C20 (T, A, B, n, a, b, ()) = some (e, ()) := fun n a b la lb => by
   cases n with
   | false =>
    obtain ⟨⟨e, u⟩, he, -⟩ := d20 hT a b la lb
    exact ⟨e, he⟩
   | true =>
    refine ⟨(if (a == [] && (b == [] && true)) = true then 0 else 1), ?_⟩
    show F20 C44 C59 C20_c0 _ = _
    simp only [F20, cond_true]
    cases hab : (a == [] && (b == [] && true)) with
    | true => rfl
    | false => rfl
  obtain ⟨e1, h1⟩ := t20 x3 x4 x5 l4 l5
  obtain ⟨e2, h2⟩ := t20 x6 x7 x8 l7 l8
  simp only [Bool.not_true, cond_false, h1, Option.bind_some]
  by_cases z1 : e1 = 0
  · subst z1
    rw [inF (rfl : (0 : Int) = 0)]
    simp only [cond_false, h2, Option.bind_some]
    by_cases z2 : e2 = 0
    · subst z2
      rw [inF (rfl : (0 : Int) = 0)]
      simp only [cond_false]
      cases x9 with
      | true => rfl
      | false =>
       cases x10 with
       | true => rfl
       | false =>
        simp only [cond_false]
        have main : ¬ (x2 > 0 ∧ x2 < x11) → C4_c0 (true, x0, x1, x2, x3, x4, x5, x6, x7, x8, false, false, x11, T, A, B, ()) = some (true, ()) := fun hs => by
         obtain ⟨⟨y1, u1⟩, k1, -, -, m1⟩ := d22 x3 x4 x5 l4 l5
         obtain ⟨⟨y2, u2⟩, k2, -, -, m2⟩ := d22 x6 x7 x8 l7 l8
         dsimp only at m1 m2
         obtain ⟨⟨p1, v1⟩, j1, -, n1⟩ := d21 y1 (by omega)
         obtain ⟨⟨p2, v2⟩, j2, -, n2⟩ := d21 y2 (by omega)
         dsimp only at n1 n2
         show F4_c0 C15 C16 C17 C18 C19 C20 C21 C22 _ = _
         simp only [F4_c0, k1, Option.bind_some, j1]
         by_cases q1 : p1 ≥ 0
         · rw [decide_eq_true q1]; rfl
         rw [decide_eq_false q1]
         simp only [cond_false, k2, Option.bind_some, j2]
         by_cases q2 : p2 ≥ 0
         · rw [decide_eq_true q2]; rfl
         rw [decide_eq_false q2]
         simp only [cond_false, cond_true]
         obtain ⟨a4, a5⟩ := right_asc x3 x4 x5 y1 l4 l5 h1 k1 (n1 (by omega))
         obtain ⟨a7, a8⟩ := right_asc x6 x7 x8 y2 l7 l8 h2 k2 (n2 (by omega))
         have h58 := c58a x3 x4 x5 l4 l5 a4 a5
         have h58' := c58a x6 x7 x8 l7 l8 a7 a8
         have h19 : C19 (x3, x4, x5, x6, x7, x8, false, false, x11, ()) = some (false, ()) := by
          show F19 C58 _ = _
          simp only [F19, cond_false, h58, Option.bind_some, h58']
         have h53 := c53a x3 x4 x5 l4 l5 a4 a5
         have h53' := c53a x6 x7 x8 l7 l8 a7 a8
         have h39 := c39a hT x3 x4 x5 l4 l5 h1 a4 a5
         have h39' := c39a hT x6 x7 x8 l7 l8 h2 a7 a8
         have c17 : C17 (T, A, B, x0, x1, x2, x3, x4, x5, x6, x7, x8, false, false, x11, ()) = some (0, x3, x4, x5, x6, x7, x8, false, false, 0, ()) := by
          have c1 : ∀ z, C17_c1 (false, x0, x1, x2, x3, x4, x5, x6, x7, x8, false, false, x11, 0, false, [], [], false, [], [], false, false, 0, 0, x3, x4, x5, x6, x7, x8, false, false, 0, T, A, B, ()) = z → z = some (.inl (0, x3, x4, x5, x6, x7, x8, false, false, 0, ())) ∨ z = some (.inr (0, false, [], [], false, [], [], false, false, 0, 0, x3, x4, x5, x6, x7, x8, false, false, 0, ())) := fun z hz => by
           subst hz
           show F17_c1 C19 C50 C51 C52 C53 C17_c0 _ = _ ∨ F17_c1 C19 C50 C51 C52 C53 C17_c0 _ = _
           cases x0 with
           | true => exact .inl (by simp only [F17_c1, cond_false, cond_true, h19, Option.bind_some, h53, h53'])
           | false =>
            have h51 : C51 (T, A, B, x3, x4, x5, x6, x7, x8, false, false, x11, 0, x3, x4, x5, x6, x7, x8, false, false, 0, ()) = some (true, T, A, B, x3, x4, x5, x6, x7, x8, false, false, x11, 0, x3, x4, x5, x6, x7, x8, false, false, 0, ()) := by
             show F51 C39 _ = _
             simp only [F51, h39, h39', Option.bind_some]
             rfl
            have h0 : C17_c0 (false, x3, x4, x5, x6, x7, x8, false, false, x11, 0, false, [], [], false, [], [], false, false, 0, 0, x3, x4, x5, x6, x7, x8, false, false, 0, ()) = some (.inr (0, false, [], [], false, [], [], false, false, 0, 0, x3, x4, x5, x6, x7, x8, false, false, 0, ())) := by
             show F17_c0 C19 C50 C51 C52 C53 _ = _
             simp only [F17_c0, cond_false, beq_self_eq_true, Bool.and_self, Bool.and_true, Bool.not_true]
            exact .inr (by simp only [F17_c1, cond_false, h19, Option.bind_some, h51, Bool.not_true, h0, Sum.elim_inr])
          have c2 : C17_c2 (false, x0, x1, x2, x3, x4, x5, x6, x7, x8, false, false, x11, 0, false, [], [], false, [], [], false, false, 0, 0, x3, x4, x5, x6, x7, x8, false, false, 0, T, A, B, ()) = C17_c1 (false, x0, x1, x2, x3, x4, x5, x6, x7, x8, false, false, x11, 0, false, [], [], false, [], [], false, false, 0, 0, x3, x4, x5, x6, x7, x8, false, false, 0, T, A, B, ()) := by
           show F17_c2 C19 C50 C51 C52 C53 C17_c1 _ = _
           simp only [F17_c2, cond_false]
           rcases c1 _ rfl with h | h <;> rw [h] <;> rfl
          have c3 : C17_c3 (T, A, B, x0, x1, x2, x3, x4, x5, x6, x7, x8, false, false, x11, 0, false, [], [], false, [], [], false, false, 0, 0, x3, x4, x5, x6, x7, x8, false, false, 0, ()) = some (0, x3, x4, x5, x6, x7, x8, false, false, 0, ()) := by
           show F17_c3 C19 C50 C51 C52 C53 C17_c2 _ = _
           simp only [F17_c3]
           by_cases g : x2 > 0
           · rw [decide_eq_true g, decide_eq_false (show ¬ x11 > x2 by omega)]
             simp only [cond_true, c2]
             rcases c1 _ rfl with h | h <;> rw [h] <;> rfl
           · rw [decide_eq_false g]
             simp only [cond_false, c2]
             rcases c1 _ rfl with h | h <;> rw [h] <;> rfl
          show F17 C19 C50 C51 C52 C53 C17_c3 _ = _
          simp only [F17, cond_false, c3, Option.bind_some]
         simp only [c17, Option.bind_some, beq_self_eq_true, Bool.and_self, Bool.and_true, cond_true, h19, cond_false]
        by_cases g1 : x2 > 0
        · rw [decide_eq_true g1]
          by_cases g2 : x2 < x11
          · rw [decide_eq_true g2]; rfl
          · rw [decide_eq_false g2]
            simp only [cond_true, cond_false, main (fun h => g2 h.2), Option.bind_some]
        · rw [decide_eq_false g1]
          simp only [cond_false, main (fun h => g1 h.1), Option.bind_some]
    · rw [inT z2]; rfl
  · rw [inT z1]; rfl
end Go.Proofs.YtiacnhhmkdkpmaaGreatDoorA.W
namespace Go.Proofs.YtiacnhhmkdkpmaaGreatDoorA.PCapsPlain
open Go Go.Ae Go.Proofs.YtiacnhhmkdkpmaaGreatDoorA.W
theorem pure (x0 : (Ty.pair .bool (.pair .bool (.int .i64))).den) (b0 : Bd (Ty.pair .bool (.pair .bool (.int .i64))) x0) (x1 : (Ty.pair (.pair .bool (.pair .str .str)) (.pair (.pair .bool (.pair .str .str)) (.pair .bool (.pair .bool (.int .i64))))).den) (b1 : Bd (Ty.pair (.pair .bool (.pair .str .str)) (.pair (.pair .bool (.pair .str .str)) (.pair .bool (.pair .bool (.int .i64))))) x1) :
 C4 (x0.1, x0.2.1, x0.2.2, x1.1.1, x1.1.2.1, x1.1.2.2, x1.2.1.1, x1.2.1.2.1, x1.2.1.2.2, x1.2.2.1, x1.2.2.2.1, x1.2.2.2.2, ()) = some (true, ()) := c4law _ _ _ _ _ _ _ _ _ _ _ _
end Go.Proofs.YtiacnhhmkdkpmaaGreatDoorA.PCapsPlain
namespace Go.Proofs.YtiacnhhmkdkpmaaGreatDoor
open Go Go.Ae Go.RowKit
theorem glob {W : World} {p : Prop} (hL : p) (hsh : W.ShapedOpen Tryz.prog) : GI W m0 := by
 obtain ⟨m, hm⟩ := Go.Proofs.cell_of_shapedOpen_int (g := 2) (k := .i64) (t := 3) (zero := #[.int .i64 0]) hsh (of_decide_eq_true (by kernel_rfl)) (by kernel_rfl) (by kernel_rfl) (by kernel_rfl) (by kernel_rfl) (by kernel_rfl)
 refine ⟨⟨m, hm⟩, fun b hb => ⟨?_, fun h => h⟩⟩
 simp only [GlobB, List.mem_cons, List.not_mem_nil, or_false] at hb
 subst hb
 exact lt_of_cell hm
end Go.Proofs.YtiacnhhmkdkpmaaGreatDoor
