/- The texts of the proof, one behind the other: LCommandLong. -/
import Derived.Test.YtiacnhhmkdkpmaaGreatDoorRows
import Derived.Test.YtiacnhhmkdkpmaaGreatDoorCards
import Derived.Test.YtiacnhhmkdkpmaaGreatDoorTie
import Derived.Test.YtiacnhhmkdkpmaaGreatDoorCMc6
import Derived.Test.YtiacnhhmkdkpmaaGreatDoorCMc2
import Derived.ProofKit
import Derived.OpenShut
import Derived.LaidMore
import Derived.Lay
import Derived.SevenTiedAt
import Derived.Stop.Joined
import Derived.ShutString
import Derived.ChangeOld
namespace Go.Proofs.YtiacnhhmkdkpmaaGreatDoor.commandLong
open Go Go.Ae Go.ChangeShapes Go.WideShapes Go.ChangeAt Go.RowKit
set_option linter.unusedVariables false
set_option maxRecDepth 100000
theorem own : ownKnob Tryz.prog.godebug = none := by kernel_rfl
theorem laidOut : laidOutB Tryz.prog = true := by kernel_rfl
theorem lifted (os : Os) (started : os.Started) (H : Type) (enc : TypeId × Value → H) :
    ReturnsInHanded {} Tryz.checked os 5 .any (fun w args => (Rows.commandLongSpec.pre enc Tryz.prog Tryz.f5 Rows.commandLongRow.domain false w args ∧ laidMetH Tryz.prog Rows.commandLongRow.laid w) ∧ sizedMet enc Tryz.prog Tryz.f5 (OpenSpec.ofChange Rows.commandLongSpec) false w args)
      (Rows.commandLongSpec.post enc Tryz.prog Tryz.f5 false true false false) := by
  refine returns_shaped (C := Tryz.checked) (X := fun w _ => laidMetH Tryz.prog Rows.commandLongRow.laid w) (fun _ _ _ hh h => h.of_heap hh) own started (by kernel_rfl) Tryz.func5
    (ChangeSpec.witness_shaped (enc := enc) (C := Tryz.checked) (os := os) (X := fun w _ => laidMetH Tryz.prog Rows.commandLongRow.laid w) false (World.laidAll Tryz.prog os Rows.commandLongRow.laid) #[.string ByteArray.empty, .int .i64 0] 8 (World.laidAll_os _ _ _)
      (World.shaped_of_ZipB (by kernel_rfl) (by kernel_rfl)) (by kernel_rfl) (by kernel_rfl) (by kernel_rfl)
      (by rw [MakeChecks.laidMetH_plain _ _ _ (by kernel_rfl)]; exact laidMet_laidAll _ (by kernel_rfl) (by kernel_rfl))) ?_
  intro W base args ds gs before hval0 hW hcnd hsz0 hL hsh
  have hsz : (DataW.weightsEach Tryz.prog (Tryz.f5.params.toList ++ Rows.commandLongSpec.plain.varTypes Tryz.prog) (ds ++ gs)).all (· ≤ reachBytes) = true := hsz0
  have hval : ∀ (j : Nat) t v, Tryz.f5.params[j]? = some t → args[j]? = some v → Value.okWide Tryz.prog W .any base t v := hval0
  have hW' := hW
  obtain ⟨p, q, hA0, hV, rfl, hfz, hnd⟩ := hW
  have hA : DataW.TrodAll enc Tryz.prog W 0 (fun _ => true) true Tryz.f5.params.toList args.toList ds p := hA0
  rw [Tryz.params5] at hA hval hsz
  obtain ⟨v0, vs0, d0, ds0, p0, q0, hargs, rfl, rfl, h0, r0⟩ := trodAll_cons hA
  obtain ⟨v1, vs1, d1, ds1, p1, q1, rfl, rfl, rfl, h1, r1⟩ := trodAll_cons r0
  obtain ⟨rfl, rfl, rfl⟩ := trodAll_nil r1
  obtain rfl : args = #[v0, v1] := by cases args; simp_all
  obtain ⟨rfl, rfl⟩ := trodVars_none hV
  obtain ⟨x0, e0, b0⟩ := open_one (n := 12) (T := Ty.str) (by kernel_rfl) (by kernel_rfl) (hval 0 9 v0 rfl rfl) h0 (arg_weights hsz 0 rfl rfl)
  have lt0 : ∀ x ∈ p0, x.block < W.heap.size := by obtain ⟨m, hm⟩ := h0; exact DataW.trod_lt m _ _ _ hm
  obtain ⟨x1, e1, b1⟩ := open_one (n := 12) (T := (Ty.int .i64)) (by kernel_rfl) (by kernel_rfl) (hval 1 3 v1 rfl rfl) h1 (arg_weights hsz 1 rfl rfl)
  have lt1 : ∀ x ∈ p1, x.block < W.heap.size := by obtain ⟨m, hm⟩ := h1; exact DataW.trod_lt m _ _ _ hm
  refine (law_walk _root_.Go.Proofs.YtiacnhhmkdkpmaaGreatDoorC.W.ok5 Tryz.func5 (by kernel_rfl) (by kernel_rfl) (v := (x0, x1, ())) (_root_.Go.Proofs.YtiacnhhmkdkpmaaGreatDoor.glob hL hsh) rfl rfl (e0.append e1) (_root_.Go.Proofs.YtiacnhhmkdkpmaaGreatDoorC.PCommandLong.pure x0 b0 x1 b1)).mono fun e W' ⟨he, bel⟩ => ?_
  subst he
  exact ⟨_, rfl, _, _, _, [], _, [], hW', trodAll_mk1 (shut_bool Tryz.underlying4 _), (trodAll_cons_mk (Below.trod laidOut (by kernel_rfl) (of_decide_eq_true (by kernel_rfl)) h0 bel lt0) (trodAll_cons_mk (Below.trod laidOut (by kernel_rfl) (of_decide_eq_true (by kernel_rfl)) h1 bel lt1) trodAll_mk0)), rfl, bel.frame _, fun h => by cases h⟩
theorem j1 : Rows.commandLongRow.wf (OpenSpec.ofChange Rows.commandLongSpec) = true := by kernel_rfl
theorem j3 : mapsRowed Tryz.prog = true := by kernel_rfl
theorem j4 : Tryz.f5.params.all (Tryz.prog.readableRec ·) = true := by kernel_rfl
theorem j5 : namedTie Tryz.prog Rows.commandLongRow.named Rows.commandLongSpec.vars = true := by kernel_rfl
theorem j6 : ((Rows.commandLongRow.stops == []) && (Tryz.prog.stops == []) && (Rows.commandLongRow.knobs == []) && (Tryz.prog.stopKnobs == [])) = true := by kernel_rfl
theorem j7 : (Rows.commandLongRow.inPlace == Tryz.prog.inPlace 5) = true := by kernel_rfl
theorem j8 : (Rows.commandLongRow.unfollowed == Tryz.prog.unfollowed 5) = true := by kernel_rfl
theorem j9 : (Rows.commandLongRow.recurses == Tryz.prog.recurses 5) = true := by kernel_rfl
theorem j10 : (Rows.commandLongRow.named == Tryz.prog.varsNamed 5) = true := by kernel_rfl
theorem j11 : ((Rows.commandLongRow.maps == (Tryz.f5.params.toList ++ Rows.commandLongSpec.plain.varTypes Tryz.prog).any (Tryz.prog.mapsRec ·)) && (Rows.commandLongRow.ifaces == (Tryz.f5.params.toList ++ Rows.commandLongSpec.plain.varTypes Tryz.prog).any (Tryz.prog.ifacesRec ·)) && (Rows.commandLongRow.mapsOut == Tryz.prog.mapsAmong Tryz.f5.resultTypes.toList)) = true := by kernel_rfl
theorem j12 : ((Rows.commandLongRow.loops == (Tryz.f5.params.toList ++ Rows.commandLongSpec.plain.varTypes Tryz.prog).any (Tryz.prog.loopsFrom ·)) && (Rows.commandLongRow.wideKeys == (Tryz.f5.params.toList ++ Rows.commandLongSpec.plain.varTypes Tryz.prog ++ Tryz.f5.resultTypes.toList).any (Tryz.prog.wideKeysFrom ·))) = true := by kernel_rfl
theorem j13 : Rows.commandLongSpec.vars.all (Tryz.prog.varReadable ·) = true := by kernel_rfl
theorem j14 : Tryz.f5.resultTypes.all (fun t => Tryz.prog.readableRec t && decide (t < Tryz.prog.types.size)) = true := by kernel_rfl
theorem j15 : ((Rows.commandLongRow.ifacesOut == Tryz.f5.resultTypes.toList.any (Tryz.prog.ifacesRec ·)) && (Rows.commandLongRow.loopsOut == Tryz.f5.resultTypes.toList.any (Tryz.prog.loopsFrom ·))) = true := by kernel_rfl
theorem j16 : (Rows.commandLongRow.plainKeys == Tryz.prog.plainKeys) = true := by kernel_rfl
theorem j17 : Rows.commandLongRow.shortTexts.isNone = true := by kernel_rfl
theorem j18 : Tryz.prog.stopsHeard = true := by kernel_rfl
theorem j19 : Tryz.prog.mayEnter = true := by kernel_rfl
theorem j20 : (Rows.commandLongRow.lifted == Tryz.prog.liftsFinal) = true := by kernel_rfl
theorem j21 : (Tryz.prog.make == some Rows.commandLongRow.make) = true := by kernel_rfl
theorem j22 : ((Rows.commandLongRow.kinds == (if Rows.commandLongRow.domain.isEmpty then [] else Tryz.f5.params.toList.map fun t => match Tryz.prog.underlying t with | some (.int k) => some k | _ => none)) && (Rows.commandLongRow.pinned == Rows.commandLongRow.pinnedBy)) = true := by kernel_rfl
theorem j23 : ((Rows.commandLongRow.veiled == (Tryz.f5.params.toList ++ Rows.commandLongSpec.plain.varTypes Tryz.prog ++ Tryz.f5.resultTypes.toList).any (Tryz.prog.veiledRec ·)) && Rows.commandLongRow.veiledFits Tryz.prog Tryz.f5.params.toList (Tryz.f5.params.toList ++ Rows.commandLongSpec.plain.varTypes Tryz.prog ++ Tryz.f5.resultTypes.toList)) = true := by kernel_rfl
theorem closed : joinedFacts Tryz.prog 5 Tryz.f5 Rows.commandLongSpec Rows.commandLongRow = true := by
  have h6 := j6
  have h11 := j11
  have h12 := j12
  have h15 := j15
  have h22 := j22
  have h23 := j23
  simp only [Bool.and_eq_true] at h6 h11 h12 h15 h22 h23
  simp only [joinedFacts, Bool.and_eq_true]
  exact ⟨⟨⟨⟨⟨⟨⟨⟨⟨⟨⟨⟨⟨⟨⟨⟨⟨⟨⟨⟨⟨⟨⟨⟨⟨⟨⟨⟨⟨⟨⟨j1, laidOut⟩, j3⟩, j4⟩, j5⟩, h6.1.1.1⟩, h6.1.1.2⟩, h6.1.2⟩, h6.2⟩, j7⟩, j8⟩, j9⟩, j10⟩, h11.1.1⟩, h11.1.2⟩, h11.2⟩, h12.1⟩, h12.2⟩, j13⟩, j14⟩, h15.1⟩, h15.2⟩, j16⟩, j17⟩, j18⟩, j19⟩, j20⟩, j21⟩, h22.1⟩, h22.2⟩, h23.1⟩, h23.2⟩
theorem named5 : Tryz.prog.funcNamed "pillarbox/pillarboxlaw17.CommandLong" = some 5 := by kernel_rfl
theorem inst5 : Tryz.f5.isInstance Tryz.prog Rows.commandLongRow.origin Rows.commandLongRow.targs := of_decide_eq_true (by kernel_rfl)
theorem wrap5 : Tryz.f5.isWrapper Tryz.prog Rows.commandLongRow.wrapper Rows.commandLongRow.mainSum := by unfold Func.isWrapper; first | (rw [if_pos (by decide +kernel)]; kernel_rfl) | (rw [if_neg (by decide +kernel)]; exact ⟨rfl, rfl⟩)
theorem over : Rows.commandLongRow.holds Tryz.pinned (OpenSpec.ofChange Rows.commandLongSpec) :=
  OpenClaim.holds_of_wide 5 Tryz.f5 rfl rfl rfl rfl rfl rfl rfl ⟨rfl, rfl, rfl, rfl, rfl⟩ rfl rfl rfl rfl rfl named5 Tryz.func5 closed inst5 wrap5
    (fun os started H enc _ => lifted os started H enc)
theorem proved : Rows.CommandLongSaid := over
theorem byText : Rows.commandLongRow.wfByText (OpenSpec.ofChange Rows.commandLongSpec) = true := by kernel_rfl
theorem mainIs : Tryz.pinned.checked.prog.mainIs = some (((true, "d62e62e7bdf5716e18d58b225d1286ccd436add8243e8f668950fdf7e381a657") : Bool × String).1, ((true, "d62e62e7bdf5716e18d58b225d1286ccd436add8243e8f668950fdf7e381a657") : Bool × String).2.toList) := by kernel_rfl
theorem looks : true = Tryz.prog.looks [] := by kernel_rfl
theorem goes : false = Rows.commandLongRow.goesBy Tryz.prog := by kernel_rfl
theorem stand : ([9, 3].all fun u => !Tryz.prog.wantsStandIn u) = true := by kernel_rfl
theorem card : Rows.CommandLongCardSaid :=
  Claim7.holds_tied_plain_at .later [] [.data, .data, .data, .data, .data, .pinned] true (true, "d62e62e7bdf5716e18d58b225d1286ccd436add8243e8f668950fdf7e381a657") true proved (fun _ h => by cases h) byText (fun _ h => by cases h) commandLong_row_tie rfl ⟨rfl, rfl⟩ mainIs rfl
    (fun f fn hf hfn => by
      obtain rfl : f = 5 := Option.some.inj (named5.symm.trans hf) |>.symm
      obtain rfl : fn = Tryz.f5 := (Option.some.inj (Tryz.func5.symm.trans hfn)).symm
      exact ⟨looks, fun j t ht => by
        rw [Tryz.params5] at ht
        have hm : t ∈ [9, 3] := by simpa using Array.mem_of_getElem? ht
        exact (show Tryz.prog.wantsStandIn t = false by simpa using List.all_eq_true.1 stand t hm)⟩)
    goes
end Go.Proofs.YtiacnhhmkdkpmaaGreatDoor.commandLong
namespace Go.Proofs.YtiacnhhmkdkpmaaGreatDoor
theorem commandLong_holds : Rows.CommandLongCardSaid := commandLong.card
#print axioms commandLong_holds
end Go.Proofs.YtiacnhhmkdkpmaaGreatDoor
