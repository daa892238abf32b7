/- The texts of the proof, one behind the other: LPathDown. -/
import Derived.Test.YtbifjondkjgkmaaGreatDoorRows
import Derived.Test.YtbifjondkjgkmaaGreatDoorCards
import Derived.Test.YtbifjondkjgkmaaGreatDoorTie
import Derived.Test.YtbifjondkjgkmaaGreatDoorAMp8
import Derived.Test.YtbifjondkjgkmaaGreatDoorAMp2
import Derived.ProofKit
import Derived.OpenShut
import Derived.LaidMore
import Derived.Lay
import Derived.SevenTiedAt
import Derived.Stop.Joined
import Derived.ShutString
import Derived.ChangeOld
namespace Go.Proofs.YtbifjondkjgkmaaGreatDoor.pathDown
open Go Go.Ae Go.ChangeShapes Go.WideShapes Go.ChangeAt Go.RowKit
set_option linter.unusedVariables false
set_option maxRecDepth 100000
theorem own:ownKnob Tryz.prog.godebug=none:=by kernel_rfl
theorem laidOut:laidOutB Tryz.prog=true:=by kernel_rfl
theorem lifted (os:Os) (started:os.Started) (H:Type) (enc:TypeId×Value→H) :
 ReturnsInHanded {} Tryz.checked os 5 .any (fun w args=>(Rows.pathDownSpec.pre enc Tryz.prog Tryz.f5 Rows.pathDownRow.domain false w args∧laidMetH Tryz.prog Rows.pathDownRow.laid w)∧sizedMet enc Tryz.prog Tryz.f5 (OpenSpec.ofChange Rows.pathDownSpec) false w args)
  (Rows.pathDownSpec.post enc Tryz.prog Tryz.f5 false true false false):=by
 refine returns_shaped (C:=Tryz.checked) (X:=fun w _=>laidMetH Tryz.prog Rows.pathDownRow.laid w) (fun _ _ _ hh h=>h.of_heap hh) own started (by kernel_rfl) Tryz.func5
  (ChangeSpec.witness_shaped (enc:=enc) (C:=Tryz.checked) (os:=os) (X:=fun w _=>laidMetH Tryz.prog Rows.pathDownRow.laid w) false (World.laidAll Tryz.prog os Rows.pathDownRow.laid) #[.agg #[.bool false,.string ByteArray.empty,.string ByteArray.empty]] 8 (World.laidAll_os _ _ _)
   (World.shaped_of_ZipB (by kernel_rfl) (by kernel_rfl)) (by kernel_rfl) (by kernel_rfl) (by kernel_rfl)
   (by rw [MakeChecks.laidMetH_plain _ _ _ (by kernel_rfl)];exact laidMet_laidAll _ (by kernel_rfl) (by kernel_rfl))) ?_
 intro W base args ds gs before hval0 hW hcnd hsz0 hL hsh;have hsz:(DataW.weightsEach Tryz.prog (Tryz.f5.params.toList++Rows.pathDownSpec.plain.varTypes Tryz.prog) (ds++gs)).all (· ≤ reachBytes)=true:=hsz0;have hval:∀(j:Nat) t v,Tryz.f5.params[j]? = some t→args[j]? = some v→Value.okWide Tryz.prog W .any base t v:=hval0;have hW':=hW;obtain ⟨p,q,hA0,hV,rfl,hfz,hnd⟩:=hW;have hA:DataW.TrodAll enc Tryz.prog W 0 (fun _=>true) true Tryz.f5.params.toList args.toList ds p:=hA0;rw [Tryz.params5] at hA hval hsz;obtain ⟨v0,vs0,d0,ds0,p0,q0,hargs,rfl,rfl,h0,r0⟩:=trodAll_cons hA;obtain ⟨rfl,rfl,rfl⟩:=trodAll_nil r0;obtain rfl:args = #[v0]:=by cases args;simp_all
 obtain ⟨rfl,rfl⟩:=trodVars_none hV;obtain ⟨x0,e0,b0⟩:=open_agg (n:=12) (T:=(Ty.pair .bool (.pair .str .str))) (by kernel_rfl) (by kernel_rfl) (hval 0 42 v0 rfl rfl) h0 (arg_weights hsz 0 rfl rfl);have lt0:∀x∈p0,x.block<W.heap.size:=by obtain ⟨m,hm⟩:=h0;exact DataW.trod_lt m _ _ _ hm
 refine (law_walk _root_.Go.Proofs.YtbifjondkjgkmaaGreatDoorA.W.ok5 Tryz.func5 (by kernel_rfl) (by kernel_rfl) (v:=(x0.1,x0.2.1,x0.2.2,())) (_root_.Go.Proofs.YtbifjondkjgkmaaGreatDoor.glob hL hsh) rfl rfl e0 (_root_.Go.Proofs.YtbifjondkjgkmaaGreatDoorA.PPathDown.pure x0 b0)).mono fun e W' ⟨he,bel⟩ => ?_;subst he;exact ⟨_,rfl,_,_,_,[],_,[],hW',trodAll_mk1 (shut_bool Tryz.underlying4 _),(trodAll_cons_mk (Below.trod laidOut (by kernel_rfl) (of_decide_eq_true (by kernel_rfl)) h0 bel lt0) trodAll_mk0),rfl,bel.frame _,fun h=>by cases h⟩
theorem j1:Rows.pathDownRow.wf (OpenSpec.ofChange Rows.pathDownSpec)=true:=by kernel_rfl
theorem j3:mapsRowed Tryz.prog=true:=by kernel_rfl
theorem j4:Tryz.f5.params.all (Tryz.prog.readableRec ·)=true:=by kernel_rfl
theorem j5:namedTie Tryz.prog Rows.pathDownRow.named Rows.pathDownSpec.vars=true:=by kernel_rfl
theorem j6:((Rows.pathDownRow.stops==[])&&(Tryz.prog.stops==[])&&(Rows.pathDownRow.knobs==[])&&(Tryz.prog.stopKnobs==[]))=true:=by kernel_rfl
theorem j7:(Rows.pathDownRow.inPlace==Tryz.prog.inPlace 5)=true:=by kernel_rfl
theorem j8:(Rows.pathDownRow.unfollowed==Tryz.prog.unfollowed 5)=true:=by kernel_rfl
theorem j9:(Rows.pathDownRow.recurses==Tryz.prog.recurses 5)=true:=by kernel_rfl
theorem j10:(Rows.pathDownRow.named==Tryz.prog.varsNamed 5)=true:=by kernel_rfl
theorem j11:((Rows.pathDownRow.maps==(Tryz.f5.params.toList++Rows.pathDownSpec.plain.varTypes Tryz.prog).any (Tryz.prog.mapsRec ·))&&(Rows.pathDownRow.ifaces==(Tryz.f5.params.toList++Rows.pathDownSpec.plain.varTypes Tryz.prog).any (Tryz.prog.ifacesRec ·))&&(Rows.pathDownRow.mapsOut==Tryz.prog.mapsAmong Tryz.f5.resultTypes.toList))=true:=by kernel_rfl
theorem j12:((Rows.pathDownRow.loops==(Tryz.f5.params.toList++Rows.pathDownSpec.plain.varTypes Tryz.prog).any (Tryz.prog.loopsFrom ·))&&(Rows.pathDownRow.wideKeys==(Tryz.f5.params.toList++Rows.pathDownSpec.plain.varTypes Tryz.prog++Tryz.f5.resultTypes.toList).any (Tryz.prog.wideKeysFrom ·)))=true:=by kernel_rfl
theorem j13:Rows.pathDownSpec.vars.all (Tryz.prog.varReadable ·)=true:=by kernel_rfl
theorem j14:Tryz.f5.resultTypes.all (fun t=>Tryz.prog.readableRec t&&decide (t<Tryz.prog.types.size))=true:=by kernel_rfl
theorem j15:((Rows.pathDownRow.ifacesOut==Tryz.f5.resultTypes.toList.any (Tryz.prog.ifacesRec ·))&&(Rows.pathDownRow.loopsOut==Tryz.f5.resultTypes.toList.any (Tryz.prog.loopsFrom ·)))=true:=by kernel_rfl
theorem j16:(Rows.pathDownRow.plainKeys==Tryz.prog.plainKeys)=true:=by kernel_rfl
theorem j17:Rows.pathDownRow.shortTexts.isNone=true:=by kernel_rfl
theorem j18:Tryz.prog.stopsHeard=true:=by kernel_rfl
theorem j19:Tryz.prog.mayEnter=true:=by kernel_rfl
theorem j20:(Rows.pathDownRow.lifted==Tryz.prog.liftsFinal)=true:=by kernel_rfl
theorem j21:(Tryz.prog.make==some Rows.pathDownRow.make)=true:=by kernel_rfl
theorem j22:((Rows.pathDownRow.kinds==(if Rows.pathDownRow.domain.isEmpty then [] else Tryz.f5.params.toList.map fun t=>match Tryz.prog.underlying t with|some (.int k)=>some k|_=>none))&&(Rows.pathDownRow.pinned==Rows.pathDownRow.pinnedBy))=true:=by kernel_rfl
theorem j23:((Rows.pathDownRow.veiled==(Tryz.f5.params.toList++Rows.pathDownSpec.plain.varTypes Tryz.prog++Tryz.f5.resultTypes.toList).any (Tryz.prog.veiledRec ·))&&Rows.pathDownRow.veiledFits Tryz.prog Tryz.f5.params.toList (Tryz.f5.params.toList++Rows.pathDownSpec.plain.varTypes Tryz.prog++Tryz.f5.resultTypes.toList))=true:=by kernel_rfl
theorem closed:joinedFacts Tryz.prog 5 Tryz.f5 Rows.pathDownSpec Rows.pathDownRow=true:=by
 have h6:=j6;have h11:=j11;have h12:=j12;have h15:=j15;have h22:=j22;have h23:=j23;simp only [Bool.and_eq_true] at h6 h11 h12 h15 h22 h23;simp only [joinedFacts,Bool.and_eq_true];exact ⟨⟨⟨⟨⟨⟨⟨⟨⟨⟨⟨⟨⟨⟨⟨⟨⟨⟨⟨⟨⟨⟨⟨⟨⟨⟨⟨⟨⟨⟨⟨j1,laidOut⟩,j3⟩,j4⟩,j5⟩,h6.1.1.1⟩,h6.1.1.2⟩,h6.1.2⟩,h6.2⟩,j7⟩,j8⟩,j9⟩,j10⟩,h11.1.1⟩,h11.1.2⟩,h11.2⟩,h12.1⟩,h12.2⟩,j13⟩,j14⟩,h15.1⟩,h15.2⟩,j16⟩,j17⟩,j18⟩,j19⟩,j20⟩,j21⟩,h22.1⟩,h22.2⟩,h23.1⟩,h23.2⟩
theorem m4w:Tryz.prog.funcNamed "pillarbox/pillarboxlaw14.PathDown" = some 5:=by kernel_rfl
theorem m5f:Tryz.f5.isInstance Tryz.prog Rows.pathDownRow.origin Rows.pathDownRow.targs:=of_decide_eq_true (by kernel_rfl)
theorem m5g:Tryz.f5.isWrapper Tryz.prog Rows.pathDownRow.wrapper Rows.pathDownRow.mainSum:=by unfold Func.isWrapper;first|(rw [if_pos (by decide +kernel)];kernel_rfl)|(rw [if_neg (by decide +kernel)];exact ⟨rfl,rfl⟩)
theorem over:Rows.pathDownRow.holds Tryz.pinned (OpenSpec.ofChange Rows.pathDownSpec) :=
 OpenClaim.holds_of_wide 5 Tryz.f5 rfl rfl rfl rfl rfl rfl rfl ⟨rfl,rfl,rfl,rfl,rfl⟩ rfl rfl rfl rfl rfl m4w Tryz.func5 closed m5f m5g
  (fun os started H enc _=>lifted os started H enc)
theorem proved:Rows.PathDownSaid:=over
theorem byText:Rows.pathDownRow.wfByText (OpenSpec.ofChange Rows.pathDownSpec)=true:=by kernel_rfl
theorem mainIs:Tryz.pinned.checked.prog.mainIs=some (((true, "6ac8c31cebfe072cafdb6d359ec8b0983162115c0478e66406d7249290c798c6"):Bool×String).1,((true, "6ac8c31cebfe072cafdb6d359ec8b0983162115c0478e66406d7249290c798c6"):Bool×String).2.toList):=by kernel_rfl
theorem looks:true=Tryz.prog.looks []:=by kernel_rfl
theorem goes:false=Rows.pathDownRow.goesBy Tryz.prog:=by kernel_rfl
theorem stand:([42].all fun u => !Tryz.prog.wantsStandIn u)=true:=by kernel_rfl
theorem card:Rows.PathDownCardSaid :=
 Claim7.holds_tied_plain_at .later [] [.data,.pinned] true (true, "6ac8c31cebfe072cafdb6d359ec8b0983162115c0478e66406d7249290c798c6") true proved (fun _ h=>by cases h) byText (fun _ h=>by cases h) pathDown_row_tie rfl ⟨rfl,rfl⟩ mainIs rfl
  (fun f fn hf hfn=>by
   obtain rfl:f=5:=Option.some.inj (m4w.symm.trans hf) |>.symm;obtain rfl:fn=Tryz.f5:=(Option.some.inj (Tryz.func5.symm.trans hfn)).symm;exact ⟨looks,fun j t ht=>by
    rw [Tryz.params5] at ht;have hm:t∈[42]:=by simpa using Array.mem_of_getElem? ht
    exact (show Tryz.prog.wantsStandIn t=false by simpa using List.all_eq_true.1 stand t hm)⟩)
  goes
end Go.Proofs.YtbifjondkjgkmaaGreatDoor.pathDown
namespace Go.Proofs.YtbifjondkjgkmaaGreatDoor
theorem pathDown_holds:Rows.PathDownCardSaid:=pathDown.card
#print axioms pathDown_holds
end Go.Proofs.YtbifjondkjgkmaaGreatDoor
