/- The texts of the proof, one behind the other: LCommandBack. -/
import Derived.Test.YtiacnhhmkdkpmaaGreatDoorRows
import Derived.Test.YtiacnhhmkdkpmaaGreatDoorCards
import Derived.Test.YtiacnhhmkdkpmaaGreatDoorTie
import Derived.Test.YtiacnhhmkdkpmaaGreatDoorCCb7
import Derived.Test.YtiacnhhmkdkpmaaGreatDoorCCb2
import Derived.ProofKit
import Derived.OpenShut
import Derived.LaidMore
import Derived.Lay
import Derived.SevenTiedAt
import Derived.Stop.Joined
import Derived.ShutString
import Derived.ChangeOld
namespace Go.Proofs.YtiacnhhmkdkpmaaGreatDoor.commandBack
open Go Go.Ae Go.ChangeShapes Go.WideShapes Go.ChangeAt Go.RowKit
set_option linter.unusedVariables false
set_option maxRecDepth 100000
theorem own:ownKnob Tryz.prog.godebug=none:=by kernel_rfl
theorem laidOut:laidOutB Tryz.prog=true:=by kernel_rfl
theorem lifted (os:Os) (started:os.Started) (H:Type) (enc:TypeId×Value→H) :
 ReturnsInHanded {} Tryz.checked os 7 .any (fun w args=>(Rows.commandBackSpec.pre enc Tryz.prog Tryz.f7 Rows.commandBackRow.domain false w args∧laidMetH Tryz.prog Rows.commandBackRow.laid w)∧sizedMet enc Tryz.prog Tryz.f7 (OpenSpec.ofChange Rows.commandBackSpec) false w args)
  (Rows.commandBackSpec.post enc Tryz.prog Tryz.f7 false true false false):=by
 refine z2e (C:=Tryz.checked) (X:=fun w _=>laidMetH Tryz.prog Rows.commandBackRow.laid w) (fun _ _ _ hh h=>h.of_heap hh) own started (by kernel_rfl) Tryz.func7
  (ChangeSpec.witness_shaped (enc:=enc) (C:=Tryz.checked) (os:=os) (X:=fun w _=>laidMetH Tryz.prog Rows.commandBackRow.laid w) false (World.laidAll Tryz.prog os Rows.commandBackRow.laid) #[.agg #[.int .i64 0,.string ByteArray.empty,.bool false,.string ByteArray.empty,.string ByteArray.empty,.int .i64 0,.bool false,.bool false],.string ByteArray.empty] 8 (World.laidAll_os _ _ _)
   (World.shaped_of_ZipB (by kernel_rfl) (by kernel_rfl)) (by kernel_rfl) (by kernel_rfl) (by kernel_rfl)
   (by rw [MakeChecks.laidMetH_plain _ _ _ (by kernel_rfl)];exact laidMet_laidAll _ (by kernel_rfl) (by kernel_rfl))) ?_
 intro W base args ds gs before hval0 hW hcnd hsz0 hL hsh;have hsz:(DataW.weightsEach Tryz.prog (Tryz.f7.params.toList++Rows.commandBackSpec.plain.varTypes Tryz.prog) (ds++gs)).all (· ≤ reachBytes)=true:=hsz0;have hval:∀(j:Nat) t v,Tryz.f7.params[j]? = some t→args[j]? = some v→Value.okWide Tryz.prog W .any base t v:=hval0;have hW':=hW;obtain ⟨p,q,hA0,hV,rfl,hfz,hnd⟩:=hW;have hA:DataW.TrodAll enc Tryz.prog W 0 (fun _=>true) true Tryz.f7.params.toList args.toList ds p:=hA0;rw [Tryz.params7] at hA hval hsz;obtain ⟨v0,vs0,d0,ds0,p0,q0,hargs,rfl,rfl,h0,r0⟩:=trodAll_cons hA;obtain ⟨v1,vs1,d1,ds1,p1,q1,rfl,rfl,rfl,h1,r1⟩:=trodAll_cons r0;obtain ⟨rfl,rfl,rfl⟩:=trodAll_nil r1;obtain rfl:args = #[v0,v1]:=by cases args;simp_all
 obtain ⟨rfl,rfl⟩:=trodVars_none hV;obtain ⟨x0,e0,b0⟩:=k0w (n:=12) (T:=(Ty.pair (.int .i64) (.pair .str (.pair (.pair .bool (.pair .str .str)) (.pair (.int .i64) (.pair .bool .bool)))))) (by kernel_rfl) (by kernel_rfl) (hval 0 51 v0 rfl rfl) h0 (j5u hsz 0 rfl rfl);have lt0:∀x∈p0,x.block<W.heap.size:=by obtain ⟨m,hm⟩:=h0;exact DataW.trod_lt m _ _ _ hm
 obtain ⟨x1,e1,b1⟩:=k0x (n:=12) (T:=Ty.str) (by kernel_rfl) (by kernel_rfl) (hval 1 9 v1 rfl rfl) h1 (j5u hsz 1 rfl rfl);have lt1:∀x∈p1,x.block<W.heap.size:=by obtain ⟨m,hm⟩:=h1;exact DataW.trod_lt m _ _ _ hm
 refine (v9c _root_.Go.Proofs.YtiacnhhmkdkpmaaGreatDoorC.W.ok7 Tryz.func7 (by kernel_rfl) (by kernel_rfl) (v:=(x0.1,x0.2.1,x0.2.2.1.1,x0.2.2.1.2.1,x0.2.2.1.2.2,x0.2.2.2.1,x0.2.2.2.2.1,x0.2.2.2.2.2,x1,())) (_root_.Go.Proofs.YtiacnhhmkdkpmaaGreatDoor.glob hL hsh) rfl rfl (e0.append e1) (_root_.Go.Proofs.YtiacnhhmkdkpmaaGreatDoorC.PCommandBack.pure x0 b0 x1 b1)).mono fun e W' ⟨he,bel⟩ => ?_;subst he;exact ⟨_,rfl,_,_,_,[],_,[],hW',trodAll_mk1 (shut_bool Tryz.underlying4 _),(trodAll_cons_mk (Below.trod laidOut (by kernel_rfl) (of_decide_eq_true (by kernel_rfl)) h0 bel lt0) (trodAll_cons_mk (Below.trod laidOut (by kernel_rfl) (of_decide_eq_true (by kernel_rfl)) h1 bel lt1) trodAll_mk0)),rfl,bel.frame _,fun h=>by cases h⟩
theorem j1:Rows.commandBackRow.wf (OpenSpec.ofChange Rows.commandBackSpec)=true:=by kernel_rfl
theorem j3:mapsRowed Tryz.prog=true:=by kernel_rfl
theorem j4:Tryz.f7.params.all (Tryz.prog.readableRec ·)=true:=by kernel_rfl
theorem j5:namedTie Tryz.prog Rows.commandBackRow.named Rows.commandBackSpec.vars=true:=by kernel_rfl
theorem j6:((Rows.commandBackRow.stops==[])&&(Tryz.prog.stops==[])&&(Rows.commandBackRow.knobs==[])&&(Tryz.prog.stopKnobs==[]))=true:=by kernel_rfl
theorem j7:(Rows.commandBackRow.inPlace==Tryz.prog.inPlace 7)=true:=by kernel_rfl
theorem j8:(Rows.commandBackRow.unfollowed==Tryz.prog.unfollowed 7)=true:=by kernel_rfl
theorem j9:(Rows.commandBackRow.recurses==Tryz.prog.recurses 7)=true:=by kernel_rfl
theorem j10:(Rows.commandBackRow.named==Tryz.prog.varsNamed 7)=true:=by kernel_rfl
theorem j11:((Rows.commandBackRow.maps==(Tryz.f7.params.toList++Rows.commandBackSpec.plain.varTypes Tryz.prog).any (Tryz.prog.mapsRec ·))&&(Rows.commandBackRow.ifaces==(Tryz.f7.params.toList++Rows.commandBackSpec.plain.varTypes Tryz.prog).any (Tryz.prog.ifacesRec ·))&&(Rows.commandBackRow.mapsOut==Tryz.prog.mapsAmong Tryz.f7.resultTypes.toList))=true:=by kernel_rfl
theorem j12:((Rows.commandBackRow.loops==(Tryz.f7.params.toList++Rows.commandBackSpec.plain.varTypes Tryz.prog).any (Tryz.prog.loopsFrom ·))&&(Rows.commandBackRow.wideKeys==(Tryz.f7.params.toList++Rows.commandBackSpec.plain.varTypes Tryz.prog++Tryz.f7.resultTypes.toList).any (Tryz.prog.wideKeysFrom ·)))=true:=by kernel_rfl
theorem j13:Rows.commandBackSpec.vars.all (Tryz.prog.varReadable ·)=true:=by kernel_rfl
theorem j14:Tryz.f7.resultTypes.all (fun t=>Tryz.prog.readableRec t&&decide (t<Tryz.prog.types.size))=true:=by kernel_rfl
theorem j15:((Rows.commandBackRow.ifacesOut==Tryz.f7.resultTypes.toList.any (Tryz.prog.ifacesRec ·))&&(Rows.commandBackRow.loopsOut==Tryz.f7.resultTypes.toList.any (Tryz.prog.loopsFrom ·)))=true:=by kernel_rfl
theorem j16:(Rows.commandBackRow.plainKeys==Tryz.prog.plainKeys)=true:=by kernel_rfl
theorem j17:Rows.commandBackRow.shortTexts.isNone=true:=by kernel_rfl
theorem j18:Tryz.prog.stopsHeard=true:=by kernel_rfl
theorem j19:Tryz.prog.mayEnter=true:=by kernel_rfl
theorem j20:(Rows.commandBackRow.lifted==Tryz.prog.liftsFinal)=true:=by kernel_rfl
theorem j21:(Tryz.prog.make==some Rows.commandBackRow.make)=true:=by kernel_rfl
theorem j22:((Rows.commandBackRow.kinds==(if Rows.commandBackRow.domain.isEmpty then [] else Tryz.f7.params.toList.map fun t=>match Tryz.prog.underlying t with|some (.int k)=>some k|_=>none))&&(Rows.commandBackRow.pinned==Rows.commandBackRow.pinnedBy))=true:=by kernel_rfl
theorem j23:((Rows.commandBackRow.veiled==(Tryz.f7.params.toList++Rows.commandBackSpec.plain.varTypes Tryz.prog++Tryz.f7.resultTypes.toList).any (Tryz.prog.veiledRec ·))&&Rows.commandBackRow.veiledFits Tryz.prog Tryz.f7.params.toList (Tryz.f7.params.toList++Rows.commandBackSpec.plain.varTypes Tryz.prog++Tryz.f7.resultTypes.toList))=true:=by kernel_rfl
theorem closed:joinedFacts Tryz.prog 7 Tryz.f7 Rows.commandBackSpec Rows.commandBackRow=true:=by
 have h6:=j6;have h11:=j11;have h12:=j12;have h15:=j15;have h22:=j22;have h23:=j23;simp only [Bool.and_eq_true] at h6 h11 h12 h15 h22 h23;simp only [joinedFacts,Bool.and_eq_true];exact ⟨⟨⟨⟨⟨⟨⟨⟨⟨⟨⟨⟨⟨⟨⟨⟨⟨⟨⟨⟨⟨⟨⟨⟨⟨⟨⟨⟨⟨⟨⟨j1,laidOut⟩,j3⟩,j4⟩,j5⟩,h6.1.1.1⟩,h6.1.1.2⟩,h6.1.2⟩,h6.2⟩,j7⟩,j8⟩,j9⟩,j10⟩,h11.1.1⟩,h11.1.2⟩,h11.2⟩,h12.1⟩,h12.2⟩,j13⟩,j14⟩,h15.1⟩,h15.2⟩,j16⟩,j17⟩,j18⟩,j19⟩,j20⟩,j21⟩,h22.1⟩,h22.2⟩,h23.1⟩,h23.2⟩
theorem v9y:Tryz.prog.funcNamed "pillarbox/pillarboxlaw17.CommandBack" = some 7:=by kernel_rfl
theorem b4s:Tryz.f7.isInstance Tryz.prog Rows.commandBackRow.origin Rows.commandBackRow.targs:=of_decide_eq_true (by kernel_rfl)
theorem d0t:Tryz.f7.isWrapper Tryz.prog Rows.commandBackRow.wrapper Rows.commandBackRow.mainSum:=by unfold Func.isWrapper;first|(rw [if_pos (by decide +kernel)];kernel_rfl)|(rw [if_neg (by decide +kernel)];exact ⟨rfl,rfl⟩)
theorem over:Rows.commandBackRow.holds Tryz.pinned (OpenSpec.ofChange Rows.commandBackSpec) :=
 OpenClaim.holds_of_wide 7 Tryz.f7 rfl rfl rfl rfl rfl rfl rfl ⟨rfl,rfl,rfl,rfl,rfl⟩ rfl rfl rfl rfl rfl v9y Tryz.func7 closed b4s d0t
  (fun os started H enc _=>lifted os started H enc)
theorem proved:Rows.CommandBackSaid:=over
theorem g9p:Rows.commandBackRow.wfByText (OpenSpec.ofChange Rows.commandBackSpec)=true:=by kernel_rfl
theorem mainIs:Tryz.pinned.checked.prog.mainIs=some (((true, "d62e62e7bdf5716e18d58b225d1286ccd436add8243e8f668950fdf7e381a657"):Bool×String).1,((true, "d62e62e7bdf5716e18d58b225d1286ccd436add8243e8f668950fdf7e381a657"):Bool×String).2.toList):=by kernel_rfl
theorem looks:true=Tryz.prog.looks []:=by kernel_rfl
theorem goes:false=Rows.commandBackRow.goesBy Tryz.prog:=by kernel_rfl
theorem d0p:([51,9].all fun u => !Tryz.prog.wantsStandIn u)=true:=by kernel_rfl
theorem card:Rows.CommandBackCardSaid :=
 Claim7.holds_tied_plain_at .later [] [.data,.data,.data,.data,.data,.pinned] true (true, "d62e62e7bdf5716e18d58b225d1286ccd436add8243e8f668950fdf7e381a657") true proved (fun _ h=>by cases h) g9p (fun _ h=>by cases h) commandBack_row_tie rfl ⟨rfl,rfl⟩ mainIs rfl
  (fun f fn hf hfn=>by
   obtain rfl:f=7:=Option.some.inj (v9y.symm.trans hf) |>.symm;obtain rfl:fn=Tryz.f7:=(Option.some.inj (Tryz.func7.symm.trans hfn)).symm;exact ⟨looks,fun j t ht=>by
    rw [Tryz.params7] at ht;have hm:t∈[51,9]:=by simpa using Array.mem_of_getElem? ht
    exact (show Tryz.prog.wantsStandIn t=false by simpa using List.all_eq_true.1 d0p t hm)⟩)
  goes
end Go.Proofs.YtiacnhhmkdkpmaaGreatDoor.commandBack
namespace Go.Proofs.YtiacnhhmkdkpmaaGreatDoor
theorem commandBack_holds:Rows.CommandBackCardSaid:=commandBack.card
#print axioms commandBack_holds
end Go.Proofs.YtiacnhhmkdkpmaaGreatDoor
