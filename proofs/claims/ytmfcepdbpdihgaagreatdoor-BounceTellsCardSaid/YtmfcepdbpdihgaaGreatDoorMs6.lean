/- The texts of the proof, one behind the other: LBounceTells. -/
import Derived.Test.YtmfcepdbpdihgaaGreatDoorRows
import Derived.Test.YtmfcepdbpdihgaaGreatDoorCards
import Derived.Test.YtmfcepdbpdihgaaGreatDoorTie
import Derived.Test.YtmfcepdbpdihgaaGreatDoorMs5
import Derived.Test.YtmfcepdbpdihgaaGreatDoorMs2
import Derived.ProofKit
import Derived.OpenShut
import Derived.LaidMore
import Derived.Lay
import Derived.SevenTiedAt
import Derived.Stop.Joined
import Derived.ShutString
import Derived.ChangeOld
namespace Go.Proofs.YtmfcepdbpdihgaaGreatDoor.bounceTells
open Go Go.Ae Go.ChangeShapes Go.WideShapes Go.ChangeAt Go.RowKit
set_option linter.unusedVariables false
theorem own : ownKnob Tryz.prog.godebug = none := by kernel_rfl
theorem laidOut : laidOutB Tryz.prog = true := by kernel_rfl
set_option maxRecDepth 100000 in
theorem lifted (os : Os) (started : os.Started) (H : Type) (enc : TypeId × Value → H) :
    ReturnsInHanded {} Tryz.checked os 6 .any (fun w args => (Rows.bounceTellsSpec.pre enc Tryz.prog Tryz.f6 Rows.bounceTellsRow.domain false w args ∧ laidMetH Tryz.prog Rows.bounceTellsRow.laid w) ∧ sizedMet enc Tryz.prog Tryz.f6 (OpenSpec.ofChange Rows.bounceTellsSpec) false w args)
      (Rows.bounceTellsSpec.post enc Tryz.prog Tryz.f6 false true false false) := by
  refine returns_shaped (C := Tryz.checked) (X := fun w _ => laidMetH Tryz.prog Rows.bounceTellsRow.laid w) (fun _ _ _ hh h => h.of_heap hh) own started (by kernel_rfl) Tryz.func6
    (ChangeSpec.witness_shaped (enc := enc) (C := Tryz.checked) (os := os) (X := fun w _ => laidMetH Tryz.prog Rows.bounceTellsRow.laid w) false (World.laidAll Tryz.prog os Rows.bounceTellsRow.laid) #[.string ByteArray.empty, .agg #[.int .i64 0, .bool false, .string ByteArray.empty, .string ByteArray.empty, .slice none 0 0, .slice none 0 0, .bool false, .bool false, .bool false, .int .i64 0, .int .i64 0, .int .i64 0], .int .i64 0] 8 (World.laidAll_os _ _ _)
      (World.shaped_of_ZipB (by kernel_rfl) (by kernel_rfl)) (by kernel_rfl) (by kernel_rfl) (by kernel_rfl)
      (by rw [MakeChecks.laidMetH_plain _ _ _ (by kernel_rfl)]; exact laidMet_laidAll _ (by kernel_rfl) (by kernel_rfl))) ?_
  intro W base args ds gs before hval0 hW hcnd hsz0 hL hsh
  have hsz : (DataW.weightsEach Tryz.prog (Tryz.f6.params.toList ++ Rows.bounceTellsSpec.plain.varTypes Tryz.prog) (ds ++ gs)).all (· ≤ reachBytes) = true := hsz0
  have hval : ∀ (j : Nat) t v, Tryz.f6.params[j]? = some t → args[j]? = some v → Value.okWide Tryz.prog W .any base t v := hval0
  have hW' := hW
  obtain ⟨p, q, hA0, hV, rfl, hfz, hnd⟩ := hW
  have hA : DataW.TrodAll enc Tryz.prog W 0 (fun _ => true) true Tryz.f6.params.toList args.toList ds p := hA0
  rw [Tryz.params6] at hA hval hsz
  obtain ⟨v0, vs0, d0, ds0, p0, q0, hargs, rfl, rfl, h0, r0⟩ := trodAll_cons hA
  obtain ⟨v1, vs1, d1, ds1, p1, q1, rfl, rfl, rfl, h1, r1⟩ := trodAll_cons r0
  obtain ⟨v2, vs2, d2, ds2, p2, q2, rfl, rfl, rfl, h2, r2⟩ := trodAll_cons r1
  obtain ⟨rfl, rfl, rfl⟩ := trodAll_nil r2
  obtain rfl : args = #[v0, v1, v2] := by cases args; simp_all
  obtain ⟨rfl, rfl⟩ := trodVars_none hV
  obtain ⟨x0, e0, b0⟩ := open_one (n := 12) (T := Ty.str) (by kernel_rfl) (by kernel_rfl) (hval 0 9 v0 rfl rfl) h0 (arg_weights hsz 0 rfl rfl)
  have lt0 : ∀ x ∈ p0, x.block < W.heap.size := by obtain ⟨m, hm⟩ := h0; exact DataW.trod_lt m _ _ _ hm
  obtain ⟨x1, e1, b1⟩ := open_agg (n := 12) (T := (Ty.pair (.int .i64) (.pair (.pair .bool (.pair .str .str)) (.pair (.lst (.pair (.pair .bool (.pair .str .str)) (.pair (.int .i64) (.pair (.int .i64) (.pair (.int .i64) (.int .i64)))))) (.pair (.lst .str) (.pair (.pair .bool (.pair .bool (.pair .bool (.pair (.int .i64) (.int .i64))))) (.int .i64))))))) (by kernel_rfl) (by kernel_rfl) (hval 1 37 v1 rfl rfl) h1 (arg_weights hsz 1 rfl rfl)
  have lt1 : ∀ x ∈ p1, x.block < W.heap.size := by obtain ⟨m, hm⟩ := h1; exact DataW.trod_lt m _ _ _ hm
  obtain ⟨x2, e2, b2⟩ := open_one (n := 12) (T := (Ty.int .i64)) (by kernel_rfl) (by kernel_rfl) (hval 2 3 v2 rfl rfl) h2 (arg_weights hsz 2 rfl rfl)
  have lt2 : ∀ x ∈ p2, x.block < W.heap.size := by obtain ⟨m, hm⟩ := h2; exact DataW.trod_lt m _ _ _ hm
  refine (law_walk _root_.Go.Proofs.YtmfcepdbpdihgaaGreatDoor.W.ok6 Tryz.func6 (by kernel_rfl) (by kernel_rfl) (v := (x0, x1.1, x1.2.1.1, x1.2.1.2.1, x1.2.1.2.2, x1.2.2.1, x1.2.2.2.1, x1.2.2.2.2.1.1, x1.2.2.2.2.1.2.1, x1.2.2.2.2.1.2.2.1, x1.2.2.2.2.1.2.2.2.1, x1.2.2.2.2.1.2.2.2.2, x1.2.2.2.2.2, x2, ())) (_root_.Go.Proofs.YtmfcepdbpdihgaaGreatDoor.glob hL hsh) rfl rfl (e0.append (e1.append e2)) (PBounceTells.pure x0 b0 x1 b1 x2 b2)).mono fun e W' ⟨he, bel⟩ => ?_
  subst he
  exact ⟨_, rfl, _, _, _, [], _, [], hW', trodAll_mk1 (shut_bool Tryz.underlying4 _), (trodAll_cons_mk (Below.trod laidOut (by kernel_rfl) (of_decide_eq_true (by kernel_rfl)) h0 bel lt0) (trodAll_cons_mk (Below.trod laidOut (by kernel_rfl) (of_decide_eq_true (by kernel_rfl)) h1 bel lt1) (trodAll_cons_mk (Below.trod laidOut (by kernel_rfl) (of_decide_eq_true (by kernel_rfl)) h2 bel lt2) trodAll_mk0))), rfl, bel.frame _, fun h => by cases h⟩
theorem over : Rows.bounceTellsRow.holds Tryz.pinned (OpenSpec.ofChange Rows.bounceTellsSpec) :=
  OpenClaim.holds_of_wide 6 Tryz.f6 rfl rfl rfl rfl rfl rfl rfl ⟨rfl, rfl, rfl, rfl, rfl⟩ rfl rfl rfl rfl rfl (by kernel_rfl) Tryz.func6 (by kernel_rfl)
    (of_decide_eq_true (by kernel_rfl)) (by unfold Func.isWrapper; first | (rw [if_pos (by decide +kernel)]; kernel_rfl) | (rw [if_neg (by decide +kernel)]; exact ⟨rfl, rfl⟩))
    (fun os started H enc _ => lifted os started H enc)
theorem proved : Rows.BounceTellsSaid := over
theorem card : Rows.BounceTellsCardSaid :=
  Claim7.holds_tied_plain_at .later [] [.data, .data, .data, .data, .sentinel, .sentinel, .pinned, .pinned] true (true, "674093c8abba284eb178cbafb7a8f0bfec1a1237c9865fc4254c8543fa9adb49") true proved (fun _ h => by cases h) (by kernel_rfl) (fun _ h => by cases h) bounceTells_row_tie rfl ⟨rfl, rfl⟩ (by kernel_rfl) rfl
    (fun f fn hf hfn => by
      obtain rfl : f = 6 := Option.some.inj ((show Tryz.prog.funcNamed "pillarbox/pillarboxlaw25.BounceTells" = some 6 by kernel_rfl).symm.trans hf) |>.symm
      obtain rfl : fn = Tryz.f6 := (Option.some.inj (Tryz.func6.symm.trans hfn)).symm
      exact ⟨by kernel_rfl, fun j t ht => by
        rw [Tryz.params6] at ht
        have hm : t ∈ [9, 37, 3] := by simpa using Array.mem_of_getElem? ht
        have hall : ([9, 37, 3].all fun u => !Tryz.prog.wantsStandIn u) = true := by kernel_rfl
        exact (show Tryz.prog.wantsStandIn t = false by simpa using List.all_eq_true.1 hall t hm)⟩)
    (by kernel_rfl)
end Go.Proofs.YtmfcepdbpdihgaaGreatDoor.bounceTells
namespace Go.Proofs.YtmfcepdbpdihgaaGreatDoor
theorem bounceTells_holds : Rows.BounceTellsCardSaid := bounceTells.card
#print axioms bounceTells_holds
end Go.Proofs.YtmfcepdbpdihgaaGreatDoor
