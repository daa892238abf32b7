/- The law LexQuotes of pillarbox/pillarboxlaw12.LexQuotes: for every input that its types allow the call comes to its end, answers true, and leaves what it was given as it was. The package's listed variables read as the program's text lays them (the card ties them). -/
import Derived.Test.YtkmojkibclbmjaaDoorRows
import Derived.Test.YtkmojkibclbmjaaDoorCards
import Derived.Test.YtkmojkibclbmjaaDoorTie
import Derived.Test.YtkmojkibclbmjaaDoorPLexQuotes
import Derived.Test.YtkmojkibclbmjaaDoorAe28
import Derived.ProofKit
import Derived.OpenShut
import Derived.LaidMore
import Derived.Lay
import Derived.SevenTiedAt
import Derived.Stop.Joined
import Derived.ShutString
import Derived.ChangeOld
namespace Go.Proofs.YtkmojkibclbmjaaDoor.lexQuotes
open Go Go.Ae Go.ChangeShapes Go.WideShapes Go.ChangeAt Go.RowKit
set_option linter.unusedVariables false
theorem own : ownKnob Tryd.prog.godebug = none := by kernel_rfl
theorem laidOut : laidOutB Tryd.prog = true := by kernel_rfl
set_option maxRecDepth 100000 in
theorem lifted (os : Os) (started : os.Started) (H : Type) (enc : TypeId × Value → H) :
    ReturnsInHanded {} Tryd.checked os 7 .any (fun w args => (Rows.lexQuotesSpec.pre enc Tryd.prog Tryd.f7 Rows.lexQuotesRow.domain false w args ∧ laidMetH Tryd.prog Rows.lexQuotesRow.laid w) ∧ sizedMet enc Tryd.prog Tryd.f7 (OpenSpec.ofChange Rows.lexQuotesSpec) false w args)
      (Rows.lexQuotesSpec.post enc Tryd.prog Tryd.f7 false true false false) := by
  refine returnsInHanded_of_change_and (C := Tryd.checked) (X := fun w _ => laidMetH Tryd.prog Rows.lexQuotesRow.laid w) (fun _ _ _ hh h => h.of_heap hh) own started (by kernel_rfl) Tryd.func7
    (ChangeSpec.witness_shaped (enc := enc) (C := Tryd.checked) (os := os) (X := fun w _ => laidMetH Tryd.prog Rows.lexQuotesRow.laid w) false (World.laidAll Tryd.prog os Rows.lexQuotesRow.laid) #[.string ByteArray.empty] 8 (World.laidAll_os _ _ _)
      (World.shaped_of_ZipB (by kernel_rfl) (by kernel_rfl)) (by kernel_rfl) (by kernel_rfl) (by kernel_rfl)
      (by rw [MakeChecks.laidMetH_plain _ _ _ (by kernel_rfl)]; exact laidMet_laidAll _ (by kernel_rfl) (by kernel_rfl))) ?_
  intro W base args ds gs before hval0 hW hcnd hsz0 hL _
  have hsz : (DataW.weightsEach Tryd.prog (Tryd.f7.params.toList ++ Rows.lexQuotesSpec.plain.varTypes Tryd.prog) (ds ++ gs)).all (· ≤ reachBytes) = true := hsz0
  have hval : ∀ (j : Nat) t v, Tryd.f7.params[j]? = some t → args[j]? = some v → Value.okWide Tryd.prog W .any base t v := hval0
  have hW' := hW
  obtain ⟨p, q, hA0, hV, rfl, hfz, hnd⟩ := hW
  have hA : DataW.TrodAll enc Tryd.prog W 0 (fun _ => true) true Tryd.f7.params.toList args.toList ds p := hA0
  rw [Tryd.params7] at hA hval hsz
  obtain ⟨v0, vs0, d0, ds0, p0, q0, hargs, rfl, rfl, h0, r0⟩ := trodAll_cons hA
  obtain ⟨rfl, rfl, rfl⟩ := trodAll_nil r0
  obtain rfl : args = #[v0] := by cases args; simp_all
  obtain ⟨rfl, rfl⟩ := trodVars_none hV
  obtain ⟨x0, e0, b0⟩ := open_one (n := 12) (T := Ty.str) (by kernel_rfl) (by kernel_rfl) (hval 0 9 v0 rfl rfl) h0 (arg_weights hsz 0 rfl rfl)
  have lt0 : ∀ x ∈ p0, x.block < W.heap.size := by obtain ⟨m, hm⟩ := h0; exact DataW.trod_lt m _ _ _ hm
  refine (law_walk _root_.Go.Proofs.YtkmojkibclbmjaaDoor.W.ok7 Tryd.func7 (by kernel_rfl) (by kernel_rfl) (v := (x0, ())) rfl rfl e0 (PLexQuotes.pure x0 b0)).mono fun e W' ⟨he, bel⟩ => ?_
  subst he
  exact ⟨_, rfl, _, _, _, [], _, [], hW', trodAll_mk1 (shut_bool Tryd.underlying4 _), (trodAll_cons_mk (Below.trod laidOut (by kernel_rfl) (of_decide_eq_true (by kernel_rfl)) h0 bel lt0) trodAll_mk0), rfl, bel.frame _, fun h => by cases h⟩
theorem over : Rows.lexQuotesRow.holds Tryd.pinned (OpenSpec.ofChange Rows.lexQuotesSpec) :=
  OpenClaim.holds_of_wide 7 Tryd.f7 rfl rfl rfl rfl rfl rfl rfl ⟨rfl, rfl, rfl, rfl, rfl⟩ rfl rfl rfl rfl rfl (by kernel_rfl) Tryd.func7 (by kernel_rfl)
    (of_decide_eq_true (by kernel_rfl)) (by unfold Func.isWrapper; first | (rw [if_pos (by decide +kernel)]; kernel_rfl) | (rw [if_neg (by decide +kernel)]; exact ⟨rfl, rfl⟩))
    (fun os started H enc _ => lifted os started H enc)
theorem proved : Rows.LexQuotesSaid := over
theorem card : Rows.LexQuotesCardSaid :=
  Claim7.holds_tied_plain_at .later [] [.data, .pinned] true (true, "967646422551548850596a871ff10dcd0d1d0ba17b11e890a1bc5988d1dc28d4") false proved (fun _ h => by cases h) (by kernel_rfl) (fun _ h => by cases h) lexQuotes_row_tie rfl ⟨rfl, rfl⟩ (by kernel_rfl) rfl
    (fun f fn hf hfn => by
      obtain rfl : f = 7 := Option.some.inj ((show Tryd.prog.funcNamed "pillarbox/pillarboxlaw12.LexQuotes" = some 7 by kernel_rfl).symm.trans hf) |>.symm
      obtain rfl : fn = Tryd.f7 := (Option.some.inj (Tryd.func7.symm.trans hfn)).symm
      exact ⟨by kernel_rfl, fun j t ht => by
        rw [Tryd.params7] at ht
        have hm : t ∈ [9] := by simpa using Array.mem_of_getElem? ht
        have hall : ([9].all fun u => !Tryd.prog.wantsStandIn u) = true := by kernel_rfl
        exact (show Tryd.prog.wantsStandIn t = false by simpa using List.all_eq_true.1 hall t hm)⟩)
    (by kernel_rfl)
end Go.Proofs.YtkmojkibclbmjaaDoor.lexQuotes
namespace Go.Proofs.YtkmojkibclbmjaaDoor
theorem lexQuotes_holds : Rows.LexQuotesCardSaid := lexQuotes.card
#print axioms lexQuotes_holds
end Go.Proofs.YtkmojkibclbmjaaDoor
