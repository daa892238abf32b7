/- Plain facts for the laws: numbers, bytes, loops that count up. -/
import Derived.Test.YtaoaagbfjekecaaDoorAe28
set_option linter.unusedVariables false
set_option linter.unusedSimpArgs false
namespace Go.Pl
open Go Go.Ae
theorem w64 {n : Int} (h1 : -9223372036854775808 ≤ n) (h2 : n ≤ 9223372036854775807) : IntKind.i64.wrap n = n := by rw [IntKind.wrap_i64]; omega
theorem wrN (n : Nat) (h : n ≤ 9223372036854775806) : IntKind.i64.wrap ((n : Int) + 1) = ((n + 1 : Nat) : Int) := by rw [w64] <;> omega
theorem of_to (b : UInt8) : UInt8.ofNat b.toNat = b := by simp
theorem byte_back (b : UInt8) : UInt8.ofNat ((b.toNat : Int)).toNat = b := by simp
theorem getD_lt {α : Type} {l : List α} {i : Nat} {d : α} (h : i < l.length) : l.getD i d = l[i] := by simp [List.getD_eq_getElem?_getD, List.getElem?_eq_getElem h]
theorem ibT {a b : Int} (h : a = b) : (a == b) = true := by simp [h]
theorem ibF {a b : Int} (h : a ≠ b) : (a == b) = false := by simp [h]
theorem inT {a b : Int} (h : a ≠ b) : (a != b) = true := by simp [h]
theorem inF {a b : Int} (h : a = b) : (a != b) = false := by simp [h]
theorem u8_eq {a : UInt8} {n : Nat} (h : a.toNat = n) : a = UInt8.ofNat n := by subst h; simp
theorem all256 (p : UInt8 → Bool) (h : (List.range 256).all (fun n => p (UInt8.ofNat n)) = true) (c : UInt8) : p c = true := by
  have h1 := List.all_eq_true.1 h c.toNat (List.mem_range.2 (by have := c.toNat_lt; omega))
  simpa using h1
def gB (o : Option (Bool × Unit)) : Bool := match o with | some (b, _) => b | none => false
def okB (o : Option (Bool × Unit)) : Bool := match o with | some (_, _) => true | none => false
theorem okB_some {o : Option (Bool × Unit)} (h : okB o = true) : o = some (gB o, ()) := by
  cases o with
  | none => cases h
  | some x => rfl
def gI (o : Option (Int × Unit)) : Int := match o with | some (b, _) => b | none => 0
def okI (o : Option (Int × Unit)) : Bool := match o with | some (_, _) => true | none => false
theorem okI_some {o : Option (Int × Unit)} (h : okI o = true) : o = some (gI o, ()) := by
  cases o with
  | none => cases h
  | some x => rfl
theorem gd {α : Type} {pre r : List α} {c d : α} {p : Nat} (h : pre.length = p) : (pre ++ c :: r).getD p d = c := by subst h; simp
theorem dr {α : Type} {pre r : List α} {p : Nat} (h : pre.length = p) : List.drop p (pre ++ r) = r := by subst h; simp
theorem shift {α : Type} (pre : List α) (c : α) (r : List α) : pre ++ c :: r = (pre ++ [c]) ++ r := by simp
theorem take_succ_get {α : Type} {s : List α} {k : Nat} (h : k < s.length) : s.take (k + 1) = s.take k ++ [s[k]] := by
  rw [List.take_add_one, List.getElem?_eq_getElem h]; rfl
theorem set_mid {α : Type} (pre r : List α) (c d : α) : (pre ++ c :: r).set pre.length d = pre ++ d :: r := by
  induction pre with
  | nil => rfl
  | cons a pre ih => simp [ih]
/-- A loop that counts up: its states, one behind the other, and its end. -/
theorem loopN_up {α β : Type} {F : α → Option (α ⊕ β)} (st : Nat → α) {y : β} : ∀ (k m n : Nat), (∀ j, m ≤ j → j < m + k → F (st j) = some (.inl (st (j + 1)))) → F (st (m + k)) = some (.inr y) → k < n → loopN F n (st m) = some y
  | _, _, 0, _, _, hn => by omega
  | 0, m, n + 1, _, he, _ => loopN_inr he
  | k + 1, m, n + 1, hs, he, hn => by
    rw [loopN_inl (hs m (by omega) (by omega))]
    refine loopN_up st k (m + 1) n (fun j h1 h2 => hs j (by omega) (by omega)) ?_ (by omega)
    rw [show m + 1 + k = m + (k + 1) by omega]; exact he
theorem loopN_to {α β : Type} {F : α → Option (α ⊕ β)} (st : Nat → α) (k : Nat) {y : β} (hs : ∀ j, j < k → F (st j) = some (.inl (st (j + 1)))) (he : F (st k) = some (.inr y)) (hn : k < big) : loopN F big (st 0) = some y :=
  loopN_up st k 0 big (fun j _ h => hs j (by omega)) (by simpa using he) hn
/-- The first place that a test picks; or the length. -/
def fp {α : Type} (p : α → Bool) : List α → Nat
  | [] => 0
  | c :: r => bif p c then 0 else fp p r + 1
theorem fp_le {α : Type} (p : α → Bool) : ∀ l : List α, fp p l ≤ l.length
  | [] => Nat.le_refl _
  | c :: r => by have := fp_le p r; simp only [fp]; cases p c <;> simp; omega
theorem fp_lt {α : Type} (p : α → Bool) : ∀ (l : List α) (k : Nat) (h : k < fp p l) (h2 : k < l.length), p l[k] = false
  | [], k, h, h2 => by simp at h2
  | c :: r, k, h, h2 => by
    simp only [fp] at h
    cases hc : p c with
    | true => rw [hc] at h; simp at h
    | false =>
      rw [hc] at h
      cases k with
      | zero => exact hc
      | succ k => exact fp_lt p r k (by simpa using h) (by simpa using h2)
theorem fp_at {α : Type} (p : α → Bool) : ∀ (l : List α) (h : fp p l < l.length), p l[fp p l] = true
  | [], h => by simp at h
  | c :: r, h => by
    simp only [fp] at h ⊢
    by_cases hc : p c = true
    · simp [hc]
    · simp only [Bool.not_eq_true] at hc
      simp only [hc, cond_false, List.length_cons] at h ⊢
      simpa using fp_at p r (by omega)
theorem fp_any {α : Type} (p : α → Bool) : ∀ l : List α, l.any p = decide (fp p l < l.length)
  | [] => rfl
  | c :: r => by
    simp only [List.any_cons, fp, fp_any p r]
    by_cases hc : p c = true <;> simp [hc]
theorem fp_of {α : Type} (p : α → Bool) {l : List α} {k : Nat} (h1 : ∀ j (h : j < l.length), j < k → p l[j] = false) (h2 : ∃ h : k < l.length, p l[k] = true) : fp p l = k := by
  obtain ⟨h, h2⟩ := h2
  rcases Nat.lt_trichotomy (fp p l) k with g | g | g
  · have := fp_at p l (by omega)
    rw [h1 _ (by omega) g] at this; cases this
  · exact g
  · rw [fp_lt p l k g h] at h2; cases h2
/-- What a search's loop comes to: a place, or none. -/
def fnd {α : Type} (p : α → Bool) (l : List α) : Int := if fp p l < l.length then (fp p l : Int) else -1
theorem fnd_any {α : Type} (p : α → Bool) (l : List α) : decide (fnd p l ≥ 0) = l.any p := by
  rw [fp_any]; unfold fnd; split <;> simp <;> omega
theorem decR_pos (s : List UInt8) (p : Nat) : 1 ≤ (decR s p).2 := by
  simp only [decR, Utf8.decode]
  repeat' split
  all_goals simp_all
theorem decR_low {s : List UInt8} {p : Nat} (h : p < s.length) (hc : s[p].toNat < 128) : decR s p = (s[p].toNat, 1) := by
  have e : ((⟨⟨s⟩⟩ : ByteArray).get! (p + 0)) = s[p] := by
    show (⟨s⟩ : Array UInt8)[p + 0]! = _
    rw [Nat.add_zero, getElem!_pos _ _ (by simpa using h)]
    simp
  simp only [decR, Utf8.decode, e]
  rw [if_pos hc]
theorem decR_high {s : List UInt8} {p : Nat} (h : p < s.length) (hc : 128 ≤ s[p].toNat) : 128 ≤ (decR s p).1 := by
  have e : ((⟨⟨s⟩⟩ : ByteArray).get! (p + 0)) = s[p] := by
    show (⟨s⟩ : Array UInt8)[p + 0]! = _
    rw [Nat.add_zero, getElem!_pos _ _ (by simpa using h)]
    simp
  simp only [decR, Utf8.decode, e]
  rw [if_neg (by omega)]
  repeat' split
  all_goals simp_all [Utf8.runeError]
  all_goals omega
end Go.Pl
