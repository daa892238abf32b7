/- Functions of the library, by their contracts. -/
import Derived.Test.YtaoaagbfjekecaaDoorAe28
import Derived.Lib.Bytealg
import Derived.Laws.Externs
set_option linter.unusedVariables false
namespace Go.Ae
open Go.RowKit
variable {P : Program} {f : FuncId}
theorem stp_below {w w' : World} {m : Md} (h : Below w.heap.size w w') (hn : ∀ b, m.n b → m.a b) : Stp w m w' m :=
  ⟨h.os, h.tape, h.output, h.size, hn, fun b hb _ => h.block b hb, fun _ _ h => h, fun _ _ h => h, fun _ _ h _ => h⟩
theorem repOb_nil {w w' : World} {m : Md} {g : List Value} (hob : RepOb w m g []) (hs : w.heap.size ≤ w'.heap.size) : RepOb w' m g [] :=
  ⟨hob.len, hob.sub, hob.nm, fun b hb => Nat.lt_of_lt_of_le (hob.lt b hb) hs, fun i gi cs h1 h2 => by simp at h2, fun i j gi gj ci cj b _ h1 h2 => by simp at h2⟩
/-- Of a string and a byte: a number; it has no text. -/
theorem ext_sbi {F : List UInt8 × Int × Unit → Option (Int × Unit)} {G : List UInt8 → Int → Int} (hF : ∀ s c, F (s, c, ()) = some (G s c, ()))
    (hrun : ∀ (s : List UInt8) (c : Int) (w : World), (callFunc f #[.string ⟨⟨s⟩⟩, .int .u8 c]).run P w = .ok (.value (.int .i64 (G s c))) w) :
    FnOk P f ⟨[.str, .int .u8], [(.ret, [.int .i64])], F⟩ := by
  intro w m g v args y hob hargs hy
  obtain ⟨s, c, u⟩ := v
  obtain ⟨v1, r1, h1, h2, h3⟩ := hargs
  obtain ⟨v2, r2, rfl, h5, h6⟩ := h3
  have h2' : v1 = .string ⟨⟨s⟩⟩ := h2
  have h5' : v2 = .int .u8 c := h5.1
  have h6' : r2 = [] := h6
  subst h2' h5' h6'
  have ha : args = #[.string ⟨⟨s⟩⟩, .int .u8 c] := by cases args; simpa using h1
  subst ha
  refine .inl ⟨_, w, hrun s c w, ?_⟩
  have hy' : y = (G s c, ()) := by
    have h : F (s, c, ()) = some y := hy
    have h' := (hF s c).symm.trans h
    exact (Option.some.inj h').symm
  subst hy'
  exact ⟨.ret, [.int .i64], (G s c, ()), m, g, ⟨by simp, fun R k => rfl⟩, Stp.refl _ hob.nm, hob, fun _ _ h => h, ⟨_, [], rfl, ⟨rfl, fun h => by cases h⟩, rfl⟩⟩
/-- Of two strings: a string, by a contract. -/
theorem lib_sss {fn : Func} (hf : P.funcs[f]? = some fn) (hb : fn.body.isSome = true) (hname : (fn.name == "runtime.NumGoroutine") = false) {F : List UInt8 × List UInt8 × Unit → Option (List UInt8 × Unit)}
    (h : ∀ (s t : List UInt8) (y : List UInt8), F (s, t, ()) = some (y, ()) → ∀ w, Calls P f #[.string ⟨⟨s⟩⟩, .string ⟨⟨t⟩⟩] w fun e w' => e = .returned (.string ⟨⟨y⟩⟩) ∧ Below w.heap.size w w') :
    FnOk P f ⟨[.str, .str], [(.ret, [.str])], F⟩ := by
  intro w m g v args y hob hargs hy
  obtain ⟨s, t, u⟩ := v
  obtain ⟨v1, r1, h1, h2, h3⟩ := hargs
  obtain ⟨v2, r2, rfl, h5, h6⟩ := h3
  have h2' : v1 = .string ⟨⟨s⟩⟩ := h2
  have h5' : v2 = .string ⟨⟨t⟩⟩ := h5
  have h6' : r2 = [] := h6
  subst h2' h5' h6'
  have ha : args = #[.string ⟨⟨s⟩⟩, .string ⟨⟨t⟩⟩] := by cases args; simpa using h1
  subst ha
  obtain ⟨c, hc⟩ := Option.isSome_iff_exists.1 hb
  have hn : fn.name ≠ "runtime.NumGoroutine" := by simpa using hname
  refine .inr ⟨by simp [callFunc, hf, hc, hn], ?_⟩
  obtain ⟨y, u'⟩ := y
  have hy' : F (s, t, ()) = some (y, ()) := hy
  refine (h s t y hy' w).mono fun e w' ⟨he, hbl⟩ => ⟨_, he, ?_⟩
  exact ⟨.ret, [.str], (y, ()), m, g, ⟨by simp, fun R k => rfl⟩, stp_below hbl hob.nm, repOb_nil hob hbl.size, fun _ _ h => h, ⟨_, [], rfl, rfl, rfl⟩⟩
end Go.Ae
