/- The texts of the proof, one behind the other: LListOne. -/
import Derived.Test.YtiacnhhmkdkpmaaGreatDoorRows
import Derived.Test.YtiacnhhmkdkpmaaGreatDoorCards
import Derived.Test.YtiacnhhmkdkpmaaGreatDoorTie
import Derived.Test.YtiacnhhmkdkpmaaGreatDoorAMy6
import Derived.Test.YtiacnhhmkdkpmaaGreatDoorAMy2
import Derived.ProofKit
import Derived.OpenShut
import Derived.LaidMore
import Derived.Lay
import Derived.SevenTiedAt
import Derived.Stop.Joined
import Derived.ShutString
import Derived.ChangeOld
namespace Go.Proofs.YtiacnhhmkdkpmaaGreatDoor.listOne
open Go Go.Ae Go.ChangeShapes Go.WideShapes Go.ChangeAt Go.RowKit
set_option linter.unusedVariables false
set_option maxRecDepth 100000
theorem own : ownKnob Tryz.prog.godebug = none := by kernel_rfl
theorem laidOut : laidOutB Tryz.prog = true := by kernel_rfl
theorem lifted (os : Os) (started : os.Started) (H : Type) (enc : TypeId × Value → H) :
 ReturnsInHanded {} Tryz.checked os 9 .any (fun w args => (Rows.listOneSpec.pre enc Tryz.prog Tryz.f9 Rows.listOneRow.domain false w args ∧ laidMetH Tryz.prog Rows.listOneRow.laid w) ∧ sizedMet enc Tryz.prog Tryz.f9 (OpenSpec.ofChange Rows.listOneSpec) false w args)
  (Rows.listOneSpec.post enc Tryz.prog Tryz.f9 false true false false) := by
 refine returns_shaped (C := Tryz.checked) (X := fun w _ => laidMetH Tryz.prog Rows.listOneRow.laid w) (fun _ _ _ hh h => h.of_heap hh) own started (by kernel_rfl) Tryz.func9
  (ChangeSpec.witness_shaped (enc := enc) (C := Tryz.checked) (os := os) (X := fun w _ => laidMetH Tryz.prog Rows.listOneRow.laid w) false (World.laidAll Tryz.prog os Rows.listOneRow.laid) #[.string ByteArray.empty] 8 (World.laidAll_os _ _ _)
   (World.shaped_of_ZipB (by kernel_rfl) (by kernel_rfl)) (by kernel_rfl) (by kernel_rfl) (by kernel_rfl)
   (by rw [MakeChecks.laidMetH_plain _ _ _ (by kernel_rfl)]; exact laidMet_laidAll _ (by kernel_rfl) (by kernel_rfl))) ?_
 intro W base args ds gs before hval0 hW hcnd hsz0 hL hsh
 have hsz : (DataW.weightsEach Tryz.prog (Tryz.f9.params.toList ++ Rows.listOneSpec.plain.varTypes Tryz.prog) (ds ++ gs)).all (· ≤ reachBytes) = true := hsz0
 have hval : ∀ (j : Nat) t v, Tryz.f9.params[j]? = some t → args[j]? = some v → Value.okWide Tryz.prog W .any base t v := hval0
 have hW' := hW
 obtain ⟨p, q, hA0, hV, rfl, hfz, hnd⟩ := hW
 have hA : DataW.TrodAll enc Tryz.prog W 0 (fun _ => true) true Tryz.f9.params.toList args.toList ds p := hA0
 rw [Tryz.params9] at hA hval hsz
 obtain ⟨v0, vs0, d0, ds0, p0, q0, hargs, rfl, rfl, h0, r0⟩ := trodAll_cons hA
 obtain ⟨rfl, rfl, rfl⟩ := trodAll_nil r0
 obtain rfl : args = #[v0] := by cases args; simp_all
 obtain ⟨rfl, rfl⟩ := trodVars_none hV
 obtain ⟨x0, e0, b0⟩ := open_one (n := 12) (T := Ty.str) (by kernel_rfl) (by kernel_rfl) (hval 0 9 v0 rfl rfl) h0 (arg_weights hsz 0 rfl rfl)
 have lt0 : ∀ x ∈ p0, x.block < W.heap.size := by obtain ⟨m, hm⟩ := h0; exact DataW.trod_lt m _ _ _ hm
 refine (law_walk _root_.Go.Proofs.YtiacnhhmkdkpmaaGreatDoorA.W.ok9 Tryz.func9 (by kernel_rfl) (by kernel_rfl) (v := (x0, ())) (_root_.Go.Proofs.YtiacnhhmkdkpmaaGreatDoor.glob hL hsh) rfl rfl e0 (_root_.Go.Proofs.YtiacnhhmkdkpmaaGreatDoorA.PListOne.pure x0 b0)).mono fun e W' ⟨he, bel⟩ => ?_
 subst he
 exact ⟨_, rfl, _, _, _, [], _, [], hW', trodAll_mk1 (shut_bool Tryz.underlying4 _), (trodAll_cons_mk (Below.trod laidOut (by kernel_rfl) (of_decide_eq_true (by kernel_rfl)) h0 bel lt0) trodAll_mk0), rfl, bel.frame _, fun h => by cases h⟩
theorem j1 : Rows.listOneRow.wf (OpenSpec.ofChange Rows.listOneSpec) = true := by kernel_rfl
theorem j3 : mapsRowed Tryz.prog = true := by kernel_rfl
theorem j4 : Tryz.f9.params.all (Tryz.prog.readableRec ·) = true := by kernel_rfl
theorem j5 : namedTie Tryz.prog Rows.listOneRow.named Rows.listOneSpec.vars = true := by kernel_rfl
theorem j6 : ((Rows.listOneRow.stops == []) && (Tryz.prog.stops == []) && (Rows.listOneRow.knobs == []) && (Tryz.prog.stopKnobs == [])) = true := by kernel_rfl
theorem j7 : (Rows.listOneRow.inPlace == Tryz.prog.inPlace 9) = true := by kernel_rfl
theorem j8 : (Rows.listOneRow.unfollowed == Tryz.prog.unfollowed 9) = true := by kernel_rfl
theorem j9 : (Rows.listOneRow.recurses == Tryz.prog.recurses 9) = true := by kernel_rfl
theorem j10 : (Rows.listOneRow.named == Tryz.prog.varsNamed 9) = true := by kernel_rfl
theorem j11 : ((Rows.listOneRow.maps == (Tryz.f9.params.toList ++ Rows.listOneSpec.plain.varTypes Tryz.prog).any (Tryz.prog.mapsRec ·)) && (Rows.listOneRow.ifaces == (Tryz.f9.params.toList ++ Rows.listOneSpec.plain.varTypes Tryz.prog).any (Tryz.prog.ifacesRec ·)) && (Rows.listOneRow.mapsOut == Tryz.prog.mapsAmong Tryz.f9.resultTypes.toList)) = true := by kernel_rfl
theorem j12 : ((Rows.listOneRow.loops == (Tryz.f9.params.toList ++ Rows.listOneSpec.plain.varTypes Tryz.prog).any (Tryz.prog.loopsFrom ·)) && (Rows.listOneRow.wideKeys == (Tryz.f9.params.toList ++ Rows.listOneSpec.plain.varTypes Tryz.prog ++ Tryz.f9.resultTypes.toList).any (Tryz.prog.wideKeysFrom ·))) = true := by kernel_rfl
theorem j13 : Rows.listOneSpec.vars.all (Tryz.prog.varReadable ·) = true := by kernel_rfl
theorem j14 : Tryz.f9.resultTypes.all (fun t => Tryz.prog.readableRec t && decide (t < Tryz.prog.types.size)) = true := by kernel_rfl
theorem j15 : ((Rows.listOneRow.ifacesOut == Tryz.f9.resultTypes.toList.any (Tryz.prog.ifacesRec ·)) && (Rows.listOneRow.loopsOut == Tryz.f9.resultTypes.toList.any (Tryz.prog.loopsFrom ·))) = true := by kernel_rfl
theorem j16 : (Rows.listOneRow.plainKeys == Tryz.prog.plainKeys) = true := by kernel_rfl
theorem j17 : Rows.listOneRow.shortTexts.isNone = true := by kernel_rfl
theorem j18 : Tryz.prog.stopsHeard = true := by kernel_rfl
theorem j19 : Tryz.prog.mayEnter = true := by kernel_rfl
theorem j20 : (Rows.listOneRow.lifted == Tryz.prog.liftsFinal) = true := by kernel_rfl
theorem j21 : (Tryz.prog.make == some Rows.listOneRow.make) = true := by kernel_rfl
theorem j22 : ((Rows.listOneRow.kinds == (if Rows.listOneRow.domain.isEmpty then [] else Tryz.f9.params.toList.map fun t => match Tryz.prog.underlying t with | some (.int k) => some k | _ => none)) && (Rows.listOneRow.pinned == Rows.listOneRow.pinnedBy)) = true := by kernel_rfl
theorem j23 : ((Rows.listOneRow.veiled == (Tryz.f9.params.toList ++ Rows.listOneSpec.plain.varTypes Tryz.prog ++ Tryz.f9.resultTypes.toList).any (Tryz.prog.veiledRec ·)) && Rows.listOneRow.veiledFits Tryz.prog Tryz.f9.params.toList (Tryz.f9.params.toList ++ Rows.listOneSpec.plain.varTypes Tryz.prog ++ Tryz.f9.resultTypes.toList)) = true := by kernel_rfl
theorem closed : joinedFacts Tryz.prog 9 Tryz.f9 Rows.listOneSpec Rows.listOneRow = true := by
 have h6 := j6
 have h11 := j11
 have h12 := j12
 have h15 := j15
 have h22 := j22
 have h23 := j23
 simp only [Bool.and_eq_true] at h6 h11 h12 h15 h22 h23
 simp only [joinedFacts, Bool.and_eq_true]
 exact ⟨⟨⟨⟨⟨⟨⟨⟨⟨⟨⟨⟨⟨⟨⟨⟨⟨⟨⟨⟨⟨⟨⟨⟨⟨⟨⟨⟨⟨⟨⟨j1, laidOut⟩, j3⟩, j4⟩, j5⟩, h6.1.1.1⟩, h6.1.1.2⟩, h6.1.2⟩, h6.2⟩, j7⟩, j8⟩, j9⟩, j10⟩, h11.1.1⟩, h11.1.2⟩, h11.2⟩, h12.1⟩, h12.2⟩, j13⟩, j14⟩, h15.1⟩, h15.2⟩, j16⟩, j17⟩, j18⟩, j19⟩, j20⟩, j21⟩, h22.1⟩, h22.2⟩, h23.1⟩, h23.2⟩
theorem named9 : Tryz.prog.funcNamed "pillarbox/pillarboxlaw15.ListOne" = some 9 := by kernel_rfl
theorem inst9 : Tryz.f9.isInstance Tryz.prog Rows.listOneRow.origin Rows.listOneRow.targs := of_decide_eq_true (by kernel_rfl)
theorem wrap9 : Tryz.f9.isWrapper Tryz.prog Rows.listOneRow.wrapper Rows.listOneRow.mainSum := by unfold Func.isWrapper; first | (rw [if_pos (by decide +kernel)]; kernel_rfl) | (rw [if_neg (by decide +kernel)]; exact ⟨rfl, rfl⟩)
theorem over : Rows.listOneRow.holds Tryz.pinned (OpenSpec.ofChange Rows.listOneSpec) :=
 OpenClaim.holds_of_wide 9 Tryz.f9 rfl rfl rfl rfl rfl rfl rfl ⟨rfl, rfl, rfl, rfl, rfl⟩ rfl rfl rfl rfl rfl named9 Tryz.func9 closed inst9 wrap9
  (fun os started H enc _ => lifted os started H enc)
theorem proved : Rows.ListOneSaid := over
theorem byText : Rows.listOneRow.wfByText (OpenSpec.ofChange Rows.listOneSpec) = true := by kernel_rfl
theorem mainIs : Tryz.pinned.checked.prog.mainIs = some (((true, "d62e62e7bdf5716e18d58b225d1286ccd436add8243e8f668950fdf7e381a657") : Bool × String).1, ((true, "d62e62e7bdf5716e18d58b225d1286ccd436add8243e8f668950fdf7e381a657") : Bool × String).2.toList) := by kernel_rfl
theorem looks : true = Tryz.prog.looks [] := by kernel_rfl
theorem goes : false = Rows.listOneRow.goesBy Tryz.prog := by kernel_rfl
theorem stand : ([9].all fun u => !Tryz.prog.wantsStandIn u) = true := by kernel_rfl
theorem card : Rows.ListOneCardSaid :=
 Claim7.holds_tied_plain_at .later [] [.data, .pinned] true (true, "d62e62e7bdf5716e18d58b225d1286ccd436add8243e8f668950fdf7e381a657") true proved (fun _ h => by cases h) byText (fun _ h => by cases h) listOne_row_tie rfl ⟨rfl, rfl⟩ mainIs rfl
  (fun f fn hf hfn => by
   obtain rfl : f = 9 := Option.some.inj (named9.symm.trans hf) |>.symm
   obtain rfl : fn = Tryz.f9 := (Option.some.inj (Tryz.func9.symm.trans hfn)).symm
   exact ⟨looks, fun j t ht => by
    rw [Tryz.params9] at ht
    have hm : t ∈ [9] := by simpa using Array.mem_of_getElem? ht
    exact (show Tryz.prog.wantsStandIn t = false by simpa using List.all_eq_true.1 stand t hm)⟩)
  goes
end Go.Proofs.YtiacnhhmkdkpmaaGreatDoor.listOne
namespace Go.Proofs.YtiacnhhmkdkpmaaGreatDoor
theorem listOne_holds : Rows.ListOneCardSaid := listOne.card
#print axioms listOne_holds
end Go.Proofs.YtiacnhhmkdkpmaaGreatDoor
