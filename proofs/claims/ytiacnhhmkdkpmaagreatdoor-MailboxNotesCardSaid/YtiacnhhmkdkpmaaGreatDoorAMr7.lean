/- The texts of the proof, one behind the other: LMailboxNotes. -/
import Derived.Test.YtiacnhhmkdkpmaaGreatDoorRows
import Derived.Test.YtiacnhhmkdkpmaaGreatDoorCards
import Derived.Test.YtiacnhhmkdkpmaaGreatDoorTie
import Derived.Test.YtiacnhhmkdkpmaaGreatDoorAMr6
import Derived.Test.YtiacnhhmkdkpmaaGreatDoorAMr2
import Derived.ProofKit
import Derived.OpenShut
import Derived.LaidMore
import Derived.Lay
import Derived.SevenTiedAt
import Derived.Stop.Joined
import Derived.ShutString
import Derived.ChangeOld
namespace Go.Proofs.YtiacnhhmkdkpmaaGreatDoor.mailboxNotes
open Go Go.Ae Go.ChangeShapes Go.WideShapes Go.ChangeAt Go.RowKit
set_option linter.unusedVariables false
set_option maxRecDepth 100000
theorem own:ownKnob Tryz.prog.godebug=none:=by kernel_rfl
theorem laidOut:laidOutB Tryz.prog=true:=by kernel_rfl
theorem lifted (os:Os) (started:os.Started) (H:Type) (enc:TypeId×Value→H) :
 ReturnsInHanded {} Tryz.checked os 14 .any (fun w args=>(Rows.mailboxNotesSpec.pre enc Tryz.prog Tryz.f14 Rows.mailboxNotesRow.domain false w args∧laidMetH Tryz.prog Rows.mailboxNotesRow.laid w)∧sizedMet enc Tryz.prog Tryz.f14 (OpenSpec.ofChange Rows.mailboxNotesSpec) false w args)
  (Rows.mailboxNotesSpec.post enc Tryz.prog Tryz.f14 false true false false):=by
 refine j8t (C:=Tryz.checked) (X:=fun w _=>laidMetH Tryz.prog Rows.mailboxNotesRow.laid w) (fun _ _ _ hh h=>h.of_heap hh) own started (by kernel_rfl) Tryz.func14
  (ChangeSpec.witness_shaped (enc:=enc) (C:=Tryz.checked) (os:=os) (X:=fun w _=>laidMetH Tryz.prog Rows.mailboxNotesRow.laid w) false (World.laidAll Tryz.prog os Rows.mailboxNotesRow.laid) #[.agg #[.string ByteArray.empty,.string ByteArray.empty],.string ByteArray.empty] 8 (World.laidAll_os _ _ _)
   (World.shaped_of_ZipB (by kernel_rfl) (by kernel_rfl)) (by kernel_rfl) (by kernel_rfl) (by kernel_rfl)
   (by rw [MakeChecks.laidMetH_plain _ _ _ (by kernel_rfl)];exact laidMet_laidAll _ (by kernel_rfl) (by kernel_rfl))) ?_
 intro W base args ds gs before hval0 hW hcnd hsz0 hL hsh;have hsz:(DataW.weightsEach Tryz.prog (Tryz.f14.params.toList++Rows.mailboxNotesSpec.plain.varTypes Tryz.prog) (ds++gs)).all (· ≤ reachBytes)=true:=hsz0;have hval:∀(j:Nat) t v,Tryz.f14.params[j]? = some t→args[j]? = some v→Value.okWide Tryz.prog W .any base t v:=hval0;have hW':=hW;obtain ⟨p,q,hA0,hV,rfl,hfz,hnd⟩:=hW;have hA:DataW.TrodAll enc Tryz.prog W 0 (fun _=>true) true Tryz.f14.params.toList args.toList ds p:=hA0;rw [Tryz.params14] at hA hval hsz;obtain ⟨v0,vs0,d0,ds0,p0,q0,hargs,rfl,rfl,h0,r0⟩:=trodAll_cons hA;obtain ⟨v1,vs1,d1,ds1,p1,q1,rfl,rfl,rfl,h1,r1⟩:=trodAll_cons r0;obtain ⟨rfl,rfl,rfl⟩:=trodAll_nil r1;obtain rfl:args = #[v0,v1]:=by cases args;simp_all
 obtain ⟨rfl,rfl⟩:=trodVars_none hV;obtain ⟨x0,e0,b0⟩:=v4d (n:=12) (T:=(Ty.pair .str .str)) (by kernel_rfl) (by kernel_rfl) (hval 0 23 v0 rfl rfl) h0 (j2u hsz 0 rfl rfl);have lt0:∀x∈p0,x.block<W.heap.size:=by obtain ⟨m,hm⟩:=h0;exact DataW.trod_lt m _ _ _ hm
 obtain ⟨x1,e1,b1⟩:=v4e (n:=12) (T:=Ty.str) (by kernel_rfl) (by kernel_rfl) (hval 1 9 v1 rfl rfl) h1 (j2u hsz 1 rfl rfl);have lt1:∀x∈p1,x.block<W.heap.size:=by obtain ⟨m,hm⟩:=h1;exact DataW.trod_lt m _ _ _ hm
 refine (v2l _root_.Go.Proofs.YtiacnhhmkdkpmaaGreatDoorA.W.ok14 Tryz.func14 (by kernel_rfl) (by kernel_rfl) (v:=(x0.1,x0.2,x1,())) (_root_.Go.Proofs.YtiacnhhmkdkpmaaGreatDoor.glob hL hsh) rfl rfl (e0.append e1) (_root_.Go.Proofs.YtiacnhhmkdkpmaaGreatDoorA.PMailboxNotes.pure x0 b0 x1 b1)).mono fun e W' ⟨he,bel⟩ => ?_;subst he;exact ⟨_,rfl,_,_,_,[],_,[],hW',trodAll_mk1 (shut_bool Tryz.underlying4 _),(trodAll_cons_mk (Below.trod laidOut (by kernel_rfl) (of_decide_eq_true (by kernel_rfl)) h0 bel lt0) (trodAll_cons_mk (Below.trod laidOut (by kernel_rfl) (of_decide_eq_true (by kernel_rfl)) h1 bel lt1) trodAll_mk0)),rfl,bel.frame _,fun h=>by cases h⟩
theorem j1:Rows.mailboxNotesRow.wf (OpenSpec.ofChange Rows.mailboxNotesSpec)=true:=by kernel_rfl
theorem j3:mapsRowed Tryz.prog=true:=by kernel_rfl
theorem j4:Tryz.f14.params.all (Tryz.prog.readableRec ·)=true:=by kernel_rfl
theorem j5:namedTie Tryz.prog Rows.mailboxNotesRow.named Rows.mailboxNotesSpec.vars=true:=by kernel_rfl
theorem j6:((Rows.mailboxNotesRow.stops==[])&&(Tryz.prog.stops==[])&&(Rows.mailboxNotesRow.knobs==[])&&(Tryz.prog.stopKnobs==[]))=true:=by kernel_rfl
theorem j7:(Rows.mailboxNotesRow.inPlace==Tryz.prog.inPlace 14)=true:=by kernel_rfl
theorem j8:(Rows.mailboxNotesRow.unfollowed==Tryz.prog.unfollowed 14)=true:=by kernel_rfl
theorem j9:(Rows.mailboxNotesRow.recurses==Tryz.prog.recurses 14)=true:=by kernel_rfl
theorem j10:(Rows.mailboxNotesRow.named==Tryz.prog.varsNamed 14)=true:=by kernel_rfl
theorem j11:((Rows.mailboxNotesRow.maps==(Tryz.f14.params.toList++Rows.mailboxNotesSpec.plain.varTypes Tryz.prog).any (Tryz.prog.mapsRec ·))&&(Rows.mailboxNotesRow.ifaces==(Tryz.f14.params.toList++Rows.mailboxNotesSpec.plain.varTypes Tryz.prog).any (Tryz.prog.ifacesRec ·))&&(Rows.mailboxNotesRow.mapsOut==Tryz.prog.mapsAmong Tryz.f14.resultTypes.toList))=true:=by kernel_rfl
theorem j12:((Rows.mailboxNotesRow.loops==(Tryz.f14.params.toList++Rows.mailboxNotesSpec.plain.varTypes Tryz.prog).any (Tryz.prog.loopsFrom ·))&&(Rows.mailboxNotesRow.wideKeys==(Tryz.f14.params.toList++Rows.mailboxNotesSpec.plain.varTypes Tryz.prog++Tryz.f14.resultTypes.toList).any (Tryz.prog.wideKeysFrom ·)))=true:=by kernel_rfl
theorem j13:Rows.mailboxNotesSpec.vars.all (Tryz.prog.varReadable ·)=true:=by kernel_rfl
theorem j14:Tryz.f14.resultTypes.all (fun t=>Tryz.prog.readableRec t&&decide (t<Tryz.prog.types.size))=true:=by kernel_rfl
theorem j15:((Rows.mailboxNotesRow.ifacesOut==Tryz.f14.resultTypes.toList.any (Tryz.prog.ifacesRec ·))&&(Rows.mailboxNotesRow.loopsOut==Tryz.f14.resultTypes.toList.any (Tryz.prog.loopsFrom ·)))=true:=by kernel_rfl
theorem j16:(Rows.mailboxNotesRow.plainKeys==Tryz.prog.plainKeys)=true:=by kernel_rfl
theorem j17:Rows.mailboxNotesRow.shortTexts.isNone=true:=by kernel_rfl
theorem j18:Tryz.prog.stopsHeard=true:=by kernel_rfl
theorem j19:Tryz.prog.mayEnter=true:=by kernel_rfl
theorem j20:(Rows.mailboxNotesRow.lifted==Tryz.prog.liftsFinal)=true:=by kernel_rfl
theorem j21:(Tryz.prog.make==some Rows.mailboxNotesRow.make)=true:=by kernel_rfl
theorem j22:((Rows.mailboxNotesRow.kinds==(if Rows.mailboxNotesRow.domain.isEmpty then [] else Tryz.f14.params.toList.map fun t=>match Tryz.prog.underlying t with | some (.int k)=>some k | _=>none))&&(Rows.mailboxNotesRow.pinned==Rows.mailboxNotesRow.pinnedBy))=true:=by kernel_rfl
theorem j23:((Rows.mailboxNotesRow.veiled==(Tryz.f14.params.toList++Rows.mailboxNotesSpec.plain.varTypes Tryz.prog++Tryz.f14.resultTypes.toList).any (Tryz.prog.veiledRec ·))&&Rows.mailboxNotesRow.veiledFits Tryz.prog Tryz.f14.params.toList (Tryz.f14.params.toList++Rows.mailboxNotesSpec.plain.varTypes Tryz.prog++Tryz.f14.resultTypes.toList))=true:=by kernel_rfl
theorem closed:joinedFacts Tryz.prog 14 Tryz.f14 Rows.mailboxNotesSpec Rows.mailboxNotesRow=true:=by
 have h6:=j6;have h11:=j11;have h12:=j12;have h15:=j15;have h22:=j22;have h23:=j23;simp only [Bool.and_eq_true] at h6 h11 h12 h15 h22 h23;simp only [joinedFacts,Bool.and_eq_true];exact ⟨⟨⟨⟨⟨⟨⟨⟨⟨⟨⟨⟨⟨⟨⟨⟨⟨⟨⟨⟨⟨⟨⟨⟨⟨⟨⟨⟨⟨⟨⟨j1,laidOut⟩,j3⟩,j4⟩,j5⟩,h6.1.1.1⟩,h6.1.1.2⟩,h6.1.2⟩,h6.2⟩,j7⟩,j8⟩,j9⟩,j10⟩,h11.1.1⟩,h11.1.2⟩,h11.2⟩,h12.1⟩,h12.2⟩,j13⟩,j14⟩,h15.1⟩,h15.2⟩,j16⟩,j17⟩,j18⟩,j19⟩,j20⟩,j21⟩,h22.1⟩,h22.2⟩,h23.1⟩,h23.2⟩
theorem x0c:Tryz.prog.funcNamed "pillarbox/pillarboxlaw13.MailboxNotes" = some 14:=by kernel_rfl
theorem g2q:Tryz.f14.isInstance Tryz.prog Rows.mailboxNotesRow.origin Rows.mailboxNotesRow.targs:=of_decide_eq_true (by kernel_rfl)
theorem g5a:Tryz.f14.isWrapper Tryz.prog Rows.mailboxNotesRow.wrapper Rows.mailboxNotesRow.mainSum:=by unfold Func.isWrapper;first | (rw [if_pos (by decide +kernel)];kernel_rfl) | (rw [if_neg (by decide +kernel)];exact ⟨rfl,rfl⟩)
theorem over:Rows.mailboxNotesRow.holds Tryz.pinned (OpenSpec.ofChange Rows.mailboxNotesSpec) :=
 OpenClaim.holds_of_wide 14 Tryz.f14 rfl rfl rfl rfl rfl rfl rfl ⟨rfl,rfl,rfl,rfl,rfl⟩ rfl rfl rfl rfl rfl x0c Tryz.func14 closed g2q g5a
  (fun os started H enc _=>lifted os started H enc)
theorem proved:Rows.MailboxNotesSaid:=over
theorem w9z:Rows.mailboxNotesRow.wfByText (OpenSpec.ofChange Rows.mailboxNotesSpec)=true:=by kernel_rfl
theorem mainIs:Tryz.pinned.checked.prog.mainIs=some (((true, "d62e62e7bdf5716e18d58b225d1286ccd436add8243e8f668950fdf7e381a657"):Bool×String).1,((true, "d62e62e7bdf5716e18d58b225d1286ccd436add8243e8f668950fdf7e381a657"):Bool×String).2.toList):=by kernel_rfl
theorem looks:true=Tryz.prog.looks []:=by kernel_rfl
theorem goes:false=Rows.mailboxNotesRow.goesBy Tryz.prog:=by kernel_rfl
theorem f8f:([23,9].all fun u => !Tryz.prog.wantsStandIn u)=true:=by kernel_rfl
theorem card:Rows.MailboxNotesCardSaid :=
 Claim7.holds_tied_plain_at .later [] [.data,.pinned] true (true, "d62e62e7bdf5716e18d58b225d1286ccd436add8243e8f668950fdf7e381a657") true proved (fun _ h=>by cases h) w9z (fun _ h=>by cases h) mailboxNotes_row_tie rfl ⟨rfl,rfl⟩ mainIs rfl
  (fun f fn hf hfn=>by
   obtain rfl:f=14:=Option.some.inj (x0c.symm.trans hf) |>.symm;obtain rfl:fn=Tryz.f14:=(Option.some.inj (Tryz.func14.symm.trans hfn)).symm;exact ⟨looks,fun j t ht=>by
    rw [Tryz.params14] at ht;have hm:t∈[23,9]:=by simpa using Array.mem_of_getElem? ht
    exact (show Tryz.prog.wantsStandIn t=false by simpa using List.all_eq_true.1 f8f t hm)⟩)
  goes
end Go.Proofs.YtiacnhhmkdkpmaaGreatDoor.mailboxNotes
namespace Go.Proofs.YtiacnhhmkdkpmaaGreatDoor
theorem mailboxNotes_holds:Rows.MailboxNotesCardSaid:=mailboxNotes.card
#print axioms mailboxNotes_holds
end Go.Proofs.YtiacnhhmkdkpmaaGreatDoor
