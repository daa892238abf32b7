/- The texts of the proof, one behind the other: LCommandLetters. -/
import Derived.Test.YtiacnhhmkdkpmaaGreatDoorRows
import Derived.Test.YtiacnhhmkdkpmaaGreatDoorCards
import Derived.Test.YtiacnhhmkdkpmaaGreatDoorTie
import Derived.Test.YtiacnhhmkdkpmaaGreatDoorCCa6
import Derived.Test.YtiacnhhmkdkpmaaGreatDoorCCa2
import Derived.ProofKit
import Derived.OpenShut
import Derived.LaidMore
import Derived.Lay
import Derived.SevenTiedAt
import Derived.Stop.Joined
import Derived.ShutString
import Derived.ChangeOld
namespace Go.Proofs.YtiacnhhmkdkpmaaGreatDoor.commandLetters
open Go Go.Ae Go.ChangeShapes Go.WideShapes Go.ChangeAt Go.RowKit
set_option linter.unusedVariables false
set_option maxRecDepth 100000
theorem own:ownKnob Tryz.prog.godebug=none:=by kernel_rfl
theorem laidOut:laidOutB Tryz.prog=true:=by kernel_rfl
theorem lifted (os:Os) (started:os.Started) (H:Type) (enc:TypeId×Value→H) :
 ReturnsInHanded {} Tryz.checked os 6 .any (fun w args=>(Rows.commandLettersSpec.pre enc Tryz.prog Tryz.f6 Rows.commandLettersRow.domain false w args∧laidMetH Tryz.prog Rows.commandLettersRow.laid w)∧sizedMet enc Tryz.prog Tryz.f6 (OpenSpec.ofChange Rows.commandLettersSpec) false w args)
  (Rows.commandLettersSpec.post enc Tryz.prog Tryz.f6 false true false false):=by
 refine j9g (C:=Tryz.checked) (X:=fun w _=>laidMetH Tryz.prog Rows.commandLettersRow.laid w) (fun _ _ _ hh h=>h.of_heap hh) own started (by kernel_rfl) Tryz.func6
  (ChangeSpec.witness_shaped (enc:=enc) (C:=Tryz.checked) (os:=os) (X:=fun w _=>laidMetH Tryz.prog Rows.commandLettersRow.laid w) false (World.laidAll Tryz.prog os Rows.commandLettersRow.laid) #[.string ByteArray.empty] 8 (World.laidAll_os _ _ _)
   (World.shaped_of_ZipB (by kernel_rfl) (by kernel_rfl)) (by kernel_rfl) (by kernel_rfl) (by kernel_rfl)
   (by rw [MakeChecks.laidMetH_plain _ _ _ (by kernel_rfl)];exact laidMet_laidAll _ (by kernel_rfl) (by kernel_rfl))) ?_
 intro W base args ds gs before hval0 hW hcnd hsz0 hL hsh;have hsz:(DataW.weightsEach Tryz.prog (Tryz.f6.params.toList++Rows.commandLettersSpec.plain.varTypes Tryz.prog) (ds++gs)).all (· ≤ reachBytes)=true:=hsz0;have hval:∀(j:Nat) t v,Tryz.f6.params[j]? = some t→args[j]? = some v→Value.okWide Tryz.prog W .any base t v:=hval0;have hW':=hW;obtain ⟨p,q,hA0,hV,rfl,hfz,hnd⟩:=hW;have hA:DataW.TrodAll enc Tryz.prog W 0 (fun _=>true) true Tryz.f6.params.toList args.toList ds p:=hA0;rw [Tryz.params6] at hA hval hsz;obtain ⟨v0,vs0,d0,ds0,p0,q0,hargs,rfl,rfl,h0,r0⟩:=trodAll_cons hA;obtain ⟨rfl,rfl,rfl⟩:=trodAll_nil r0;obtain rfl:args = #[v0]:=by cases args;simp_all
 obtain ⟨rfl,rfl⟩:=trodVars_none hV;obtain ⟨x0,e0,b0⟩:=v7p (n:=12) (T:=Ty.str) (by kernel_rfl) (by kernel_rfl) (hval 0 9 v0 rfl rfl) h0 (z9v hsz 0 rfl rfl);have lt0:∀x∈p0,x.block<W.heap.size:=by obtain ⟨m,hm⟩:=h0;exact DataW.trod_lt m _ _ _ hm
 refine (v5p _root_.Go.Proofs.YtiacnhhmkdkpmaaGreatDoorC.W.ok6 Tryz.func6 (by kernel_rfl) (by kernel_rfl) (v:=(x0,())) (_root_.Go.Proofs.YtiacnhhmkdkpmaaGreatDoor.glob hL hsh) rfl rfl e0 (_root_.Go.Proofs.YtiacnhhmkdkpmaaGreatDoorC.PCommandLetters.pure x0 b0)).mono fun e W' ⟨he,bel⟩ => ?_;subst he;exact ⟨_,rfl,_,_,_,[],_,[],hW',trodAll_mk1 (shut_bool Tryz.underlying4 _),(trodAll_cons_mk (Below.trod laidOut (by kernel_rfl) (of_decide_eq_true (by kernel_rfl)) h0 bel lt0) trodAll_mk0),rfl,bel.frame _,fun h=>by cases h⟩
theorem j1:Rows.commandLettersRow.wf (OpenSpec.ofChange Rows.commandLettersSpec)=true:=by kernel_rfl
theorem j3:mapsRowed Tryz.prog=true:=by kernel_rfl
theorem j4:Tryz.f6.params.all (Tryz.prog.readableRec ·)=true:=by kernel_rfl
theorem j5:namedTie Tryz.prog Rows.commandLettersRow.named Rows.commandLettersSpec.vars=true:=by kernel_rfl
theorem j6:((Rows.commandLettersRow.stops==[])&&(Tryz.prog.stops==[])&&(Rows.commandLettersRow.knobs==[])&&(Tryz.prog.stopKnobs==[]))=true:=by kernel_rfl
theorem j7:(Rows.commandLettersRow.inPlace==Tryz.prog.inPlace 6)=true:=by kernel_rfl
theorem j8:(Rows.commandLettersRow.unfollowed==Tryz.prog.unfollowed 6)=true:=by kernel_rfl
theorem j9:(Rows.commandLettersRow.recurses==Tryz.prog.recurses 6)=true:=by kernel_rfl
theorem j10:(Rows.commandLettersRow.named==Tryz.prog.varsNamed 6)=true:=by kernel_rfl
theorem j11:((Rows.commandLettersRow.maps==(Tryz.f6.params.toList++Rows.commandLettersSpec.plain.varTypes Tryz.prog).any (Tryz.prog.mapsRec ·))&&(Rows.commandLettersRow.ifaces==(Tryz.f6.params.toList++Rows.commandLettersSpec.plain.varTypes Tryz.prog).any (Tryz.prog.ifacesRec ·))&&(Rows.commandLettersRow.mapsOut==Tryz.prog.mapsAmong Tryz.f6.resultTypes.toList))=true:=by kernel_rfl
theorem j12:((Rows.commandLettersRow.loops==(Tryz.f6.params.toList++Rows.commandLettersSpec.plain.varTypes Tryz.prog).any (Tryz.prog.loopsFrom ·))&&(Rows.commandLettersRow.wideKeys==(Tryz.f6.params.toList++Rows.commandLettersSpec.plain.varTypes Tryz.prog++Tryz.f6.resultTypes.toList).any (Tryz.prog.wideKeysFrom ·)))=true:=by kernel_rfl
theorem j13:Rows.commandLettersSpec.vars.all (Tryz.prog.varReadable ·)=true:=by kernel_rfl
theorem j14:Tryz.f6.resultTypes.all (fun t=>Tryz.prog.readableRec t&&decide (t<Tryz.prog.types.size))=true:=by kernel_rfl
theorem j15:((Rows.commandLettersRow.ifacesOut==Tryz.f6.resultTypes.toList.any (Tryz.prog.ifacesRec ·))&&(Rows.commandLettersRow.loopsOut==Tryz.f6.resultTypes.toList.any (Tryz.prog.loopsFrom ·)))=true:=by kernel_rfl
theorem j16:(Rows.commandLettersRow.plainKeys==Tryz.prog.plainKeys)=true:=by kernel_rfl
theorem j17:Rows.commandLettersRow.shortTexts.isNone=true:=by kernel_rfl
theorem j18:Tryz.prog.stopsHeard=true:=by kernel_rfl
theorem j19:Tryz.prog.mayEnter=true:=by kernel_rfl
theorem j20:(Rows.commandLettersRow.lifted==Tryz.prog.liftsFinal)=true:=by kernel_rfl
theorem j21:(Tryz.prog.make==some Rows.commandLettersRow.make)=true:=by kernel_rfl
theorem j22:((Rows.commandLettersRow.kinds==(if Rows.commandLettersRow.domain.isEmpty then [] else Tryz.f6.params.toList.map fun t=>match Tryz.prog.underlying t with|some (.int k)=>some k|_=>none))&&(Rows.commandLettersRow.pinned==Rows.commandLettersRow.pinnedBy))=true:=by kernel_rfl
theorem j23:((Rows.commandLettersRow.veiled==(Tryz.f6.params.toList++Rows.commandLettersSpec.plain.varTypes Tryz.prog++Tryz.f6.resultTypes.toList).any (Tryz.prog.veiledRec ·))&&Rows.commandLettersRow.veiledFits Tryz.prog Tryz.f6.params.toList (Tryz.f6.params.toList++Rows.commandLettersSpec.plain.varTypes Tryz.prog++Tryz.f6.resultTypes.toList))=true:=by kernel_rfl
theorem closed:joinedFacts Tryz.prog 6 Tryz.f6 Rows.commandLettersSpec Rows.commandLettersRow=true:=by
 have h6:=j6;have h11:=j11;have h12:=j12;have h15:=j15;have h22:=j22;have h23:=j23;simp only [Bool.and_eq_true] at h6 h11 h12 h15 h22 h23;simp only [joinedFacts,Bool.and_eq_true];exact ⟨⟨⟨⟨⟨⟨⟨⟨⟨⟨⟨⟨⟨⟨⟨⟨⟨⟨⟨⟨⟨⟨⟨⟨⟨⟨⟨⟨⟨⟨⟨j1,laidOut⟩,j3⟩,j4⟩,j5⟩,h6.1.1.1⟩,h6.1.1.2⟩,h6.1.2⟩,h6.2⟩,j7⟩,j8⟩,j9⟩,j10⟩,h11.1.1⟩,h11.1.2⟩,h11.2⟩,h12.1⟩,h12.2⟩,j13⟩,j14⟩,h15.1⟩,h15.2⟩,j16⟩,j17⟩,j18⟩,j19⟩,j20⟩,j21⟩,h22.1⟩,h22.2⟩,h23.1⟩,h23.2⟩
theorem v6s:Tryz.prog.funcNamed "pillarbox/pillarboxlaw17.CommandLetters" = some 6:=by kernel_rfl
theorem f8q:Tryz.f6.isInstance Tryz.prog Rows.commandLettersRow.origin Rows.commandLettersRow.targs:=of_decide_eq_true (by kernel_rfl)
theorem b4h:Tryz.f6.isWrapper Tryz.prog Rows.commandLettersRow.wrapper Rows.commandLettersRow.mainSum:=by unfold Func.isWrapper;first|(rw [if_pos (by decide +kernel)];kernel_rfl)|(rw [if_neg (by decide +kernel)];exact ⟨rfl,rfl⟩)
theorem over:Rows.commandLettersRow.holds Tryz.pinned (OpenSpec.ofChange Rows.commandLettersSpec) :=
 OpenClaim.holds_of_wide 6 Tryz.f6 rfl rfl rfl rfl rfl rfl rfl ⟨rfl,rfl,rfl,rfl,rfl⟩ rfl rfl rfl rfl rfl v6s Tryz.func6 closed f8q b4h
  (fun os started H enc _=>lifted os started H enc)
theorem proved:Rows.CommandLettersSaid:=over
theorem g5u:Rows.commandLettersRow.wfByText (OpenSpec.ofChange Rows.commandLettersSpec)=true:=by kernel_rfl
theorem mainIs:Tryz.pinned.checked.prog.mainIs=some (((true, "d62e62e7bdf5716e18d58b225d1286ccd436add8243e8f668950fdf7e381a657"):Bool×String).1,((true, "d62e62e7bdf5716e18d58b225d1286ccd436add8243e8f668950fdf7e381a657"):Bool×String).2.toList):=by kernel_rfl
theorem looks:true=Tryz.prog.looks []:=by kernel_rfl
theorem goes:false=Rows.commandLettersRow.goesBy Tryz.prog:=by kernel_rfl
theorem b4e:([9].all fun u => !Tryz.prog.wantsStandIn u)=true:=by kernel_rfl
theorem card:Rows.CommandLettersCardSaid :=
 Claim7.holds_tied_plain_at .later [] [.data,.data,.data,.data,.data,.pinned] true (true, "d62e62e7bdf5716e18d58b225d1286ccd436add8243e8f668950fdf7e381a657") true proved (fun _ h=>by cases h) g5u (fun _ h=>by cases h) commandLetters_row_tie rfl ⟨rfl,rfl⟩ mainIs rfl
  (fun f fn hf hfn=>by
   obtain rfl:f=6:=Option.some.inj (v6s.symm.trans hf) |>.symm;obtain rfl:fn=Tryz.f6:=(Option.some.inj (Tryz.func6.symm.trans hfn)).symm;exact ⟨looks,fun j t ht=>by
    rw [Tryz.params6] at ht;have hm:t∈[9]:=by simpa using Array.mem_of_getElem? ht
    exact (show Tryz.prog.wantsStandIn t=false by simpa using List.all_eq_true.1 b4e t hm)⟩)
  goes
end Go.Proofs.YtiacnhhmkdkpmaaGreatDoor.commandLetters
namespace Go.Proofs.YtiacnhhmkdkpmaaGreatDoor
theorem commandLetters_holds:Rows.CommandLettersCardSaid:=commandLetters.card
#print axioms commandLetters_holds
end Go.Proofs.YtiacnhhmkdkpmaaGreatDoor
