/- The plain law: what tells a token's text, and the document's answer, come to the same. -/
import Derived.Test.YtkmojkibclbmjaaDoorPB
set_option linter.unusedVariables false
namespace Go.Proofs.YtkmojkibclbmjaaDoor.PLexSource
open Go Go.Ae Go.Proofs.YtkmojkibclbmjaaDoor.W
theorem pure (x0 : (Ty.pair (.int .i64) (.pair .str (.int .i64))).den) (b0 : Bd (Ty.pair (.int .i64) (.pair .str (.int .i64))) x0) : C3 (x0.1, x0.2.1, x0.2.2, ()) = some (true, ()) := by
  obtain ⟨k, s, a⟩ := x0
  show F3 C8 C9 C10 ((k : Int), (s : List UInt8), (a : Int), ()) = _
  by_cases h : (s : List UInt8).length ≤ 3000
  · simp (disch := omega) only [F3, C8, Option.bind_some, cond_true, decide_eq_false, cond_false, c9 k s a h, c10 k s a h]
    simp
  · simp (disch := omega) only [F3, C8, Option.bind_some, cond_true, decide_eq_true]
end Go.Proofs.YtkmojkibclbmjaaDoor.PLexSource
