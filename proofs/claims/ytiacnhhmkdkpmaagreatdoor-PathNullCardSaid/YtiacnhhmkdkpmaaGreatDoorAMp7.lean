/- The texts of the proof, one behind the other: LPathNull. -/
import Derived.Test.YtiacnhhmkdkpmaaGreatDoorRows
import Derived.Test.YtiacnhhmkdkpmaaGreatDoorCards
import Derived.Test.YtiacnhhmkdkpmaaGreatDoorTie
import Derived.Test.YtiacnhhmkdkpmaaGreatDoorAMp6
import Derived.Test.YtiacnhhmkdkpmaaGreatDoorAMp2
import Derived.ProofKit
import Derived.OpenShut
import Derived.LaidMore
import Derived.Lay
import Derived.SevenTiedAt
import Derived.Stop.Joined
import Derived.ShutString
import Derived.ChangeOld
namespace Go.Proofs.YtiacnhhmkdkpmaaGreatDoor.pathNull
open Go Go.Ae Go.ChangeShapes Go.WideShapes Go.ChangeAt Go.RowKit
set_option linter.unusedVariables false
set_option maxRecDepth 100000
theorem own : ownKnob Tryz.prog.godebug = none := by kernel_rfl
theorem laidOut : laidOutB Tryz.prog = true := by kernel_rfl
theorem lifted (os : Os) (started : os.Started) (H : Type) (enc : TypeId × Value → H) :
 ReturnsInHanded {} Tryz.checked os 11 .any (fun w args => (Rows.pathNullSpec.pre enc Tryz.prog Tryz.f11 Rows.pathNullRow.domain false w args ∧ laidMetH Tryz.prog Rows.pathNullRow.laid w) ∧ sizedMet enc Tryz.prog Tryz.f11 (OpenSpec.ofChange Rows.pathNullSpec) false w args)
  (Rows.pathNullSpec.post enc Tryz.prog Tryz.f11 false true false false) := by
 refine returns_shaped (C := Tryz.checked) (X := fun w _ => laidMetH Tryz.prog Rows.pathNullRow.laid w) (fun _ _ _ hh h => h.of_heap hh) own started (by kernel_rfl) Tryz.func11
  (ChangeSpec.witness_shaped (enc := enc) (C := Tryz.checked) (os := os) (X := fun w _ => laidMetH Tryz.prog Rows.pathNullRow.laid w) false (World.laidAll Tryz.prog os Rows.pathNullRow.laid) #[.agg #[.bool false, .string ByteArray.empty, .string ByteArray.empty]] 8 (World.laidAll_os _ _ _)
   (World.shaped_of_ZipB (by kernel_rfl) (by kernel_rfl)) (by kernel_rfl) (by kernel_rfl) (by kernel_rfl)
   (by rw [MakeChecks.laidMetH_plain _ _ _ (by kernel_rfl)]; exact laidMet_laidAll _ (by kernel_rfl) (by kernel_rfl))) ?_
 intro W base args ds gs before hval0 hW hcnd hsz0 hL hsh
 have hsz : (DataW.weightsEach Tryz.prog (Tryz.f11.params.toList ++ Rows.pathNullSpec.plain.varTypes Tryz.prog) (ds ++ gs)).all (· ≤ reachBytes) = true := hsz0
 have hval : ∀ (j : Nat) t v, Tryz.f11.params[j]? = some t → args[j]? = some v → Value.okWide Tryz.prog W .any base t v := hval0
 have hW' := hW
 obtain ⟨p, q, hA0, hV, rfl, hfz, hnd⟩ := hW
 have hA : DataW.TrodAll enc Tryz.prog W 0 (fun _ => true) true Tryz.f11.params.toList args.toList ds p := hA0
 rw [Tryz.params11] at hA hval hsz
 obtain ⟨v0, vs0, d0, ds0, p0, q0, hargs, rfl, rfl, h0, r0⟩ := trodAll_cons hA
 obtain ⟨rfl, rfl, rfl⟩ := trodAll_nil r0
 obtain rfl : args = #[v0] := by cases args; simp_all
 obtain ⟨rfl, rfl⟩ := trodVars_none hV
 obtain ⟨x0, e0, b0⟩ := open_agg (n := 12) (T := (Ty.pair .bool (.pair .str .str))) (by kernel_rfl) (by kernel_rfl) (hval 0 25 v0 rfl rfl) h0 (arg_weights hsz 0 rfl rfl)
 have lt0 : ∀ x ∈ p0, x.block < W.heap.size := by obtain ⟨m, hm⟩ := h0; exact DataW.trod_lt m _ _ _ hm
 refine (law_walk _root_.Go.Proofs.YtiacnhhmkdkpmaaGreatDoorA.W.ok11 Tryz.func11 (by kernel_rfl) (by kernel_rfl) (v := (x0.1, x0.2.1, x0.2.2, ())) (_root_.Go.Proofs.YtiacnhhmkdkpmaaGreatDoor.glob hL hsh) rfl rfl e0 (_root_.Go.Proofs.YtiacnhhmkdkpmaaGreatDoorA.PPathNull.pure x0 b0)).mono fun e W' ⟨he, bel⟩ => ?_
 subst he
 exact ⟨_, rfl, _, _, _, [], _, [], hW', trodAll_mk1 (shut_bool Tryz.underlying4 _), (trodAll_cons_mk (Below.trod laidOut (by kernel_rfl) (of_decide_eq_true (by kernel_rfl)) h0 bel lt0) trodAll_mk0), rfl, bel.frame _, fun h => by cases h⟩
theorem j1 : Rows.pathNullRow.wf (OpenSpec.ofChange Rows.pathNullSpec) = true := by kernel_rfl
theorem j3 : mapsRowed Tryz.prog = true := by kernel_rfl
theorem j4 : Tryz.f11.params.all (Tryz.prog.readableRec ·) = true := by kernel_rfl
theorem j5 : namedTie Tryz.prog Rows.pathNullRow.named Rows.pathNullSpec.vars = true := by kernel_rfl
theorem j6 : ((Rows.pathNullRow.stops == []) && (Tryz.prog.stops == []) && (Rows.pathNullRow.knobs == []) && (Tryz.prog.stopKnobs == [])) = true := by kernel_rfl
theorem j7 : (Rows.pathNullRow.inPlace == Tryz.prog.inPlace 11) = true := by kernel_rfl
theorem j8 : (Rows.pathNullRow.unfollowed == Tryz.prog.unfollowed 11) = true := by kernel_rfl
theorem j9 : (Rows.pathNullRow.recurses == Tryz.prog.recurses 11) = true := by kernel_rfl
theorem j10 : (Rows.pathNullRow.named == Tryz.prog.varsNamed 11) = true := by kernel_rfl
theorem j11 : ((Rows.pathNullRow.maps == (Tryz.f11.params.toList ++ Rows.pathNullSpec.plain.varTypes Tryz.prog).any (Tryz.prog.mapsRec ·)) && (Rows.pathNullRow.ifaces == (Tryz.f11.params.toList ++ Rows.pathNullSpec.plain.varTypes Tryz.prog).any (Tryz.prog.ifacesRec ·)) && (Rows.pathNullRow.mapsOut == Tryz.prog.mapsAmong Tryz.f11.resultTypes.toList)) = true := by kernel_rfl
theorem j12 : ((Rows.pathNullRow.loops == (Tryz.f11.params.toList ++ Rows.pathNullSpec.plain.varTypes Tryz.prog).any (Tryz.prog.loopsFrom ·)) && (Rows.pathNullRow.wideKeys == (Tryz.f11.params.toList ++ Rows.pathNullSpec.plain.varTypes Tryz.prog ++ Tryz.f11.resultTypes.toList).any (Tryz.prog.wideKeysFrom ·))) = true := by kernel_rfl
theorem j13 : Rows.pathNullSpec.vars.all (Tryz.prog.varReadable ·) = true := by kernel_rfl
theorem j14 : Tryz.f11.resultTypes.all (fun t => Tryz.prog.readableRec t && decide (t < Tryz.prog.types.size)) = true := by kernel_rfl
theorem j15 : ((Rows.pathNullRow.ifacesOut == Tryz.f11.resultTypes.toList.any (Tryz.prog.ifacesRec ·)) && (Rows.pathNullRow.loopsOut == Tryz.f11.resultTypes.toList.any (Tryz.prog.loopsFrom ·))) = true := by kernel_rfl
theorem j16 : (Rows.pathNullRow.plainKeys == Tryz.prog.plainKeys) = true := by kernel_rfl
theorem j17 : Rows.pathNullRow.shortTexts.isNone = true := by kernel_rfl
theorem j18 : Tryz.prog.stopsHeard = true := by kernel_rfl
theorem j19 : Tryz.prog.mayEnter = true := by kernel_rfl
theorem j20 : (Rows.pathNullRow.lifted == Tryz.prog.liftsFinal) = true := by kernel_rfl
theorem j21 : (Tryz.prog.make == some Rows.pathNullRow.make) = true := by kernel_rfl
theorem j22 : ((Rows.pathNullRow.kinds == (if Rows.pathNullRow.domain.isEmpty then [] else Tryz.f11.params.toList.map fun t => match Tryz.prog.underlying t with | some (.int k) => some k | _ => none)) && (Rows.pathNullRow.pinned == Rows.pathNullRow.pinnedBy)) = true := by kernel_rfl
theorem j23 : ((Rows.pathNullRow.veiled == (Tryz.f11.params.toList ++ Rows.pathNullSpec.plain.varTypes Tryz.prog ++ Tryz.f11.resultTypes.toList).any (Tryz.prog.veiledRec ·)) && Rows.pathNullRow.veiledFits Tryz.prog Tryz.f11.params.toList (Tryz.f11.params.toList ++ Rows.pathNullSpec.plain.varTypes Tryz.prog ++ Tryz.f11.resultTypes.toList)) = true := by kernel_rfl
theorem closed : joinedFacts Tryz.prog 11 Tryz.f11 Rows.pathNullSpec Rows.pathNullRow = true := by
 have h6 := j6
 have h11 := j11
 have h12 := j12
 have h15 := j15
 have h22 := j22
 have h23 := j23
 simp only [Bool.and_eq_true] at h6 h11 h12 h15 h22 h23
 simp only [joinedFacts, Bool.and_eq_true]
 exact ⟨⟨⟨⟨⟨⟨⟨⟨⟨⟨⟨⟨⟨⟨⟨⟨⟨⟨⟨⟨⟨⟨⟨⟨⟨⟨⟨⟨⟨⟨⟨j1, laidOut⟩, j3⟩, j4⟩, j5⟩, h6.1.1.1⟩, h6.1.1.2⟩, h6.1.2⟩, h6.2⟩, j7⟩, j8⟩, j9⟩, j10⟩, h11.1.1⟩, h11.1.2⟩, h11.2⟩, h12.1⟩, h12.2⟩, j13⟩, j14⟩, h15.1⟩, h15.2⟩, j16⟩, j17⟩, j18⟩, j19⟩, j20⟩, j21⟩, h22.1⟩, h22.2⟩, h23.1⟩, h23.2⟩
theorem named11 : Tryz.prog.funcNamed "pillarbox/pillarboxlaw14.PathNull" = some 11 := by kernel_rfl
theorem inst11 : Tryz.f11.isInstance Tryz.prog Rows.pathNullRow.origin Rows.pathNullRow.targs := of_decide_eq_true (by kernel_rfl)
theorem wrap11 : Tryz.f11.isWrapper Tryz.prog Rows.pathNullRow.wrapper Rows.pathNullRow.mainSum := by unfold Func.isWrapper; first | (rw [if_pos (by decide +kernel)]; kernel_rfl) | (rw [if_neg (by decide +kernel)]; exact ⟨rfl, rfl⟩)
theorem over : Rows.pathNullRow.holds Tryz.pinned (OpenSpec.ofChange Rows.pathNullSpec) :=
 OpenClaim.holds_of_wide 11 Tryz.f11 rfl rfl rfl rfl rfl rfl rfl ⟨rfl, rfl, rfl, rfl, rfl⟩ rfl rfl rfl rfl rfl named11 Tryz.func11 closed inst11 wrap11
  (fun os started H enc _ => lifted os started H enc)
theorem proved : Rows.PathNullSaid := over
theorem byText : Rows.pathNullRow.wfByText (OpenSpec.ofChange Rows.pathNullSpec) = true := by kernel_rfl
theorem mainIs : Tryz.pinned.checked.prog.mainIs = some (((true, "d62e62e7bdf5716e18d58b225d1286ccd436add8243e8f668950fdf7e381a657") : Bool × String).1, ((true, "d62e62e7bdf5716e18d58b225d1286ccd436add8243e8f668950fdf7e381a657") : Bool × String).2.toList) := by kernel_rfl
theorem looks : true = Tryz.prog.looks [] := by kernel_rfl
theorem goes : false = Rows.pathNullRow.goesBy Tryz.prog := by kernel_rfl
theorem stand : ([25].all fun u => !Tryz.prog.wantsStandIn u) = true := by kernel_rfl
theorem card : Rows.PathNullCardSaid :=
 Claim7.holds_tied_plain_at .later [] [.data, .pinned] true (true, "d62e62e7bdf5716e18d58b225d1286ccd436add8243e8f668950fdf7e381a657") true proved (fun _ h => by cases h) byText (fun _ h => by cases h) pathNull_row_tie rfl ⟨rfl, rfl⟩ mainIs rfl
  (fun f fn hf hfn => by
   obtain rfl : f = 11 := Option.some.inj (named11.symm.trans hf) |>.symm
   obtain rfl : fn = Tryz.f11 := (Option.some.inj (Tryz.func11.symm.trans hfn)).symm
   exact ⟨looks, fun j t ht => by
    rw [Tryz.params11] at ht
    have hm : t ∈ [25] := by simpa using Array.mem_of_getElem? ht
    exact (show Tryz.prog.wantsStandIn t = false by simpa using List.all_eq_true.1 stand t hm)⟩)
  goes
end Go.Proofs.YtiacnhhmkdkpmaaGreatDoor.pathNull
namespace Go.Proofs.YtiacnhhmkdkpmaaGreatDoor
theorem pathNull_holds : Rows.PathNullCardSaid := pathNull.card
#print axioms pathNull_holds
end Go.Proofs.YtiacnhhmkdkpmaaGreatDoor
