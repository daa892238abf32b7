/- The functions that have no text. -/
import Derived.Test.YtkmojkibclbmjaaDoorW0
import Derived.Lib.Bytealg
import Derived.Laws.Externs
set_option linter.unusedVariables false
namespace Go.Proofs.YtkmojkibclbmjaaDoor.W
open Go Go.Ae
def C36 (v : List UInt8 × Int × Unit) : Option (Int × Unit) := some (Lib.indexByte v.1 v.2.1.toNat.toUInt8, ())
def C39 (v : List UInt8 × Int × Unit) : Option (Int × Unit) := some ((Lib.countByte v.1 v.2.1.toNat.toUInt8 : Nat), ())
theorem ext_ok {P : Program} {f : FuncId} {ins : List Sh} {F : List UInt8 × Int × Unit → Option (Int × Unit)} {G : List UInt8 → Int → Int} (hins : ins = [.str, .int .u8]) (hF : ∀ s c, F (s, c, ()) = some (G s c, ()))
    (hrun : ∀ (s : List UInt8) (c : Int) (w : World), (callFunc f #[.string ⟨⟨s⟩⟩, .int .u8 c]).run P w = .ok (.value (.int .i64 (G s c))) w) :
    FnOk P f ⟨[.str, .int .u8], [(.ret, [.int .i64])], F⟩ := by
  intro w m g v args y hob hargs hy
  obtain ⟨s, c, u⟩ := v
  obtain ⟨v1, r1, h1, h2, h3⟩ := hargs
  obtain ⟨v2, r2, rfl, h5, h6⟩ := h3
  have h2' : v1 = .string ⟨⟨s⟩⟩ := h2
  have h5' : v2 = .int .u8 c := h5.1
  have h6' : r2 = [] := h6
  subst h2' h5' h6'
  have ha : args = #[.string ⟨⟨s⟩⟩, .int .u8 c] := by cases args; simpa using h1
  subst ha
  refine .inl ⟨_, w, hrun s c w, ?_⟩
  have hy' : y = (G s c, ()) := by
    have h : F (s, c, ()) = some y := hy
    have h' := (hF s c).symm.trans h
    exact (Option.some.inj h').symm
  subst hy'
  exact ⟨.ret, [.int .i64], (G s c, ()), m, g, ⟨by simp, fun R k => rfl⟩, Stp.refl _ hob.nm, hob, fun _ _ h => h, ⟨_, [], rfl, ⟨rfl, fun h => by cases h⟩, rfl⟩⟩
theorem ok36 : FnOk Tryd.prog 36 ⟨f36_ins, f36_outs, C36⟩ := ext_ok (ins := f36_ins) rfl (fun _ _ => rfl) fun s c w => by
  rw [run_callFunc_extern Tryd.func36 (by kernel_rfl) (by kernel_rfl) (by kernel_rfl) (e := Extern.BytealgIndexByte.indexByte) (by kernel_rfl), Lib.run_indexByteString]
  rfl
theorem ok39 : FnOk Tryd.prog 39 ⟨f39_ins, f39_outs, C39⟩ := ext_ok (ins := f39_ins) rfl (fun _ _ => rfl) fun s c w => by
  rw [run_callFunc_extern Tryd.func39 (by kernel_rfl) (by kernel_rfl) (by kernel_rfl) (e := Extern.BytealgCount.count) (by kernel_rfl), Lib.run_countString]
  rfl
end Go.Proofs.YtkmojkibclbmjaaDoor.W
