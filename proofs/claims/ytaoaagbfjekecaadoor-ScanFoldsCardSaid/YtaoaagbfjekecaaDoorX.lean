/- The functions that have no text; strings.Trim by its contract. -/
import Derived.Test.YtaoaagbfjekecaaDoorW0
import Derived.Test.YtaoaagbfjekecaaDoorAe29
import Derived.Test.YtaoaagbfjekecaaDoorShelf
set_option linter.unusedVariables false
namespace Go.Proofs.YtaoaagbfjekecaaDoor.W
open Go Go.Ae
def C39 (v : List UInt8 × Int × Unit) : Option (Int × Unit) := some (Lib.indexByte v.1 v.2.1.toNat.toUInt8, ())
theorem ok39 : FnOk Tryd.prog 39 ⟨f39_ins, f39_outs, C39⟩ := ext_sbi (fun _ _ => rfl) fun s c w => by
  rw [run_callFunc_extern Tryd.func39 (by kernel_rfl) (by kernel_rfl) (by kernel_rfl) (e := Extern.BytealgIndexByte.indexByte) (by kernel_rfl), Lib.run_indexByteString]
  rfl
def C21 (v : List UInt8 × List UInt8 × Unit) : Option (List UInt8 × Unit) :=
  if v.1.length ≤ 9223372036854775807 ∧ v.2.1.length < 4294967281 ∧ v.2.1.all (fun b => decide (b.toNat < 128)) = true then some (Lib.trimS v.1 v.2.1, ()) else none
theorem info59 : (Tryd.prog.info? 59).map (fun i => (i.zero, i.size)) = some (some (.agg (Array.replicate 256 (.bool false))), 256) := by kernel_rfl
theorem ok21 : FnOk Tryd.prog 21 ⟨f21_ins, f21_outs, C21⟩ := lib_sss Tryd.func21 (by kernel_rfl) (by kernel_rfl) fun s t y h w => by
  simp only [C21] at h
  split at h
  · rename_i hc
    obtain ⟨h1, h2, h3⟩ := hc
    simp only [Option.some.injEq, Prod.mk.injEq, and_true] at h
    subst h
    exact Any.strings_Trim_laid Tryd.lays160 info59 ⟨⟨s⟩⟩ ⟨⟨t⟩⟩ w h1 h2 (ascii_of_all h3)
  · cases h
end Go.Proofs.YtaoaagbfjekecaaDoor.W
