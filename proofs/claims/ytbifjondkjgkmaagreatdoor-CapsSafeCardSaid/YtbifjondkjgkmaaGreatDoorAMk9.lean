/- The texts of the proof, one behind the other: LCapsSafe. -/
import Derived.Test.YtbifjondkjgkmaaGreatDoorRows
import Derived.Test.YtbifjondkjgkmaaGreatDoorCards
import Derived.Test.YtbifjondkjgkmaaGreatDoorTie
import Derived.Test.YtbifjondkjgkmaaGreatDoorAMk8
import Derived.Test.YtbifjondkjgkmaaGreatDoorAMk2
import Derived.ProofKit
import Derived.OpenShut
import Derived.LaidMore
import Derived.Lay
import Derived.SevenTiedAt
import Derived.Stop.Joined
import Derived.ShutString
import Derived.ChangeOld
namespace Go.Proofs.YtbifjondkjgkmaaGreatDoor.capsSafe
open Go Go.Ae Go.ChangeShapes Go.WideShapes Go.ChangeAt Go.RowKit
set_option linter.unusedVariables false
set_option maxRecDepth 100000
theorem own:ownKnob Tryz.prog.godebug=none:=by kernel_rfl
theorem laidOut:laidOutB Tryz.prog=true:=by kernel_rfl
theorem lifted (os:Os) (started:os.Started) (H:Type) (enc:TypeId×Value→H) :
 ReturnsInHanded {} Tryz.checked os 6 .any (fun w args=>(Rows.capsSafeSpec.pre enc Tryz.prog Tryz.f6 Rows.capsSafeRow.domain false w args∧laidMetH Tryz.prog Rows.capsSafeRow.laid w)∧sizedMet enc Tryz.prog Tryz.f6 (OpenSpec.ofChange Rows.capsSafeSpec) false w args)
  (Rows.capsSafeSpec.post enc Tryz.prog Tryz.f6 false true false false):=by
 refine returns_shaped (C:=Tryz.checked) (X:=fun w _=>laidMetH Tryz.prog Rows.capsSafeRow.laid w) (fun _ _ _ hh h=>h.of_heap hh) own started (by kernel_rfl) Tryz.func6
  (ChangeSpec.witness_shaped (enc:=enc) (C:=Tryz.checked) (os:=os) (X:=fun w _=>laidMetH Tryz.prog Rows.capsSafeRow.laid w) false (World.laidAll Tryz.prog os Rows.capsSafeRow.laid) #[.agg #[.bool false,.bool false,.int .i64 0],.agg #[.bool false,.string ByteArray.empty,.string ByteArray.empty,.bool false,.string ByteArray.empty,.string ByteArray.empty,.bool false,.bool false,.int .i64 0]] 8 (World.laidAll_os _ _ _)
   (World.shaped_of_ZipB (by kernel_rfl) (by kernel_rfl)) (by kernel_rfl) (by kernel_rfl) (by kernel_rfl)
   (by rw [MakeChecks.laidMetH_plain _ _ _ (by kernel_rfl)];exact laidMet_laidAll _ (by kernel_rfl) (by kernel_rfl))) ?_
 intro W base args ds gs before hval0 hW hcnd hsz0 hL hsh;have hsz:(DataW.weightsEach Tryz.prog (Tryz.f6.params.toList++Rows.capsSafeSpec.plain.varTypes Tryz.prog) (ds++gs)).all (· ≤ reachBytes)=true:=hsz0;have hval:∀(j:Nat) t v,Tryz.f6.params[j]? = some t→args[j]? = some v→Value.okWide Tryz.prog W .any base t v:=hval0;have hW':=hW;obtain ⟨p,q,hA0,hV,rfl,hfz,hnd⟩:=hW;have hA:DataW.TrodAll enc Tryz.prog W 0 (fun _=>true) true Tryz.f6.params.toList args.toList ds p:=hA0;rw [Tryz.params6] at hA hval hsz;obtain ⟨v0,vs0,d0,ds0,p0,q0,hargs,rfl,rfl,h0,r0⟩:=trodAll_cons hA;obtain ⟨v1,vs1,d1,ds1,p1,q1,rfl,rfl,rfl,h1,r1⟩:=trodAll_cons r0;obtain ⟨rfl,rfl,rfl⟩:=trodAll_nil r1;obtain rfl:args = #[v0,v1]:=by cases args;simp_all
 obtain ⟨rfl,rfl⟩:=trodVars_none hV;obtain ⟨x0,e0,b0⟩:=open_agg (n:=12) (T:=(Ty.pair .bool (.pair .bool (.int .i64)))) (by kernel_rfl) (by kernel_rfl) (hval 0 50 v0 rfl rfl) h0 (arg_weights hsz 0 rfl rfl);have lt0:∀x∈p0,x.block<W.heap.size:=by obtain ⟨m,hm⟩:=h0;exact DataW.trod_lt m _ _ _ hm
 obtain ⟨x1,e1,b1⟩:=open_agg (n:=12) (T:=(Ty.pair (.pair .bool (.pair .str .str)) (.pair (.pair .bool (.pair .str .str)) (.pair .bool (.pair .bool (.int .i64)))))) (by kernel_rfl) (by kernel_rfl) (hval 1 52 v1 rfl rfl) h1 (arg_weights hsz 1 rfl rfl);have lt1:∀x∈p1,x.block<W.heap.size:=by obtain ⟨m,hm⟩:=h1;exact DataW.trod_lt m _ _ _ hm
 refine (law_walk _root_.Go.Proofs.YtbifjondkjgkmaaGreatDoorA.W.ok6 Tryz.func6 (by kernel_rfl) (by kernel_rfl) (v:=(x0.1,x0.2.1,x0.2.2,x1.1.1,x1.1.2.1,x1.1.2.2,x1.2.1.1,x1.2.1.2.1,x1.2.1.2.2,x1.2.2.1,x1.2.2.2.1,x1.2.2.2.2,())) (_root_.Go.Proofs.YtbifjondkjgkmaaGreatDoor.glob hL hsh) rfl rfl (e0.append e1) (_root_.Go.Proofs.YtbifjondkjgkmaaGreatDoorA.PCapsSafe.pure x0 b0 x1 b1)).mono fun e W' ⟨he,bel⟩ => ?_;subst he;exact ⟨_,rfl,_,_,_,[],_,[],hW',trodAll_mk1 (shut_bool Tryz.underlying4 _),(trodAll_cons_mk (Below.trod laidOut (by kernel_rfl) (of_decide_eq_true (by kernel_rfl)) h0 bel lt0) (trodAll_cons_mk (Below.trod laidOut (by kernel_rfl) (of_decide_eq_true (by kernel_rfl)) h1 bel lt1) trodAll_mk0)),rfl,bel.frame _,fun h=>by cases h⟩
theorem j1:Rows.capsSafeRow.wf (OpenSpec.ofChange Rows.capsSafeSpec)=true:=by kernel_rfl
theorem j3:mapsRowed Tryz.prog=true:=by kernel_rfl
theorem j4:Tryz.f6.params.all (Tryz.prog.readableRec ·)=true:=by kernel_rfl
theorem j5:namedTie Tryz.prog Rows.capsSafeRow.named Rows.capsSafeSpec.vars=true:=by kernel_rfl
theorem j6:((Rows.capsSafeRow.stops==[])&&(Tryz.prog.stops==[])&&(Rows.capsSafeRow.knobs==[])&&(Tryz.prog.stopKnobs==[]))=true:=by kernel_rfl
theorem j7:(Rows.capsSafeRow.inPlace==Tryz.prog.inPlace 6)=true:=by kernel_rfl
theorem j8:(Rows.capsSafeRow.unfollowed==Tryz.prog.unfollowed 6)=true:=by kernel_rfl
theorem j9:(Rows.capsSafeRow.recurses==Tryz.prog.recurses 6)=true:=by kernel_rfl
theorem j10:(Rows.capsSafeRow.named==Tryz.prog.varsNamed 6)=true:=by kernel_rfl
theorem j11:((Rows.capsSafeRow.maps==(Tryz.f6.params.toList++Rows.capsSafeSpec.plain.varTypes Tryz.prog).any (Tryz.prog.mapsRec ·))&&(Rows.capsSafeRow.ifaces==(Tryz.f6.params.toList++Rows.capsSafeSpec.plain.varTypes Tryz.prog).any (Tryz.prog.ifacesRec ·))&&(Rows.capsSafeRow.mapsOut==Tryz.prog.mapsAmong Tryz.f6.resultTypes.toList))=true:=by kernel_rfl
theorem j12:((Rows.capsSafeRow.loops==(Tryz.f6.params.toList++Rows.capsSafeSpec.plain.varTypes Tryz.prog).any (Tryz.prog.loopsFrom ·))&&(Rows.capsSafeRow.wideKeys==(Tryz.f6.params.toList++Rows.capsSafeSpec.plain.varTypes Tryz.prog++Tryz.f6.resultTypes.toList).any (Tryz.prog.wideKeysFrom ·)))=true:=by kernel_rfl
theorem j13:Rows.capsSafeSpec.vars.all (Tryz.prog.varReadable ·)=true:=by kernel_rfl
theorem j14:Tryz.f6.resultTypes.all (fun t=>Tryz.prog.readableRec t&&decide (t<Tryz.prog.types.size))=true:=by kernel_rfl
theorem j15:((Rows.capsSafeRow.ifacesOut==Tryz.f6.resultTypes.toList.any (Tryz.prog.ifacesRec ·))&&(Rows.capsSafeRow.loopsOut==Tryz.f6.resultTypes.toList.any (Tryz.prog.loopsFrom ·)))=true:=by kernel_rfl
theorem j16:(Rows.capsSafeRow.plainKeys==Tryz.prog.plainKeys)=true:=by kernel_rfl
theorem j17:Rows.capsSafeRow.shortTexts.isNone=true:=by kernel_rfl
theorem j18:Tryz.prog.stopsHeard=true:=by kernel_rfl
theorem j19:Tryz.prog.mayEnter=true:=by kernel_rfl
theorem j20:(Rows.capsSafeRow.lifted==Tryz.prog.liftsFinal)=true:=by kernel_rfl
theorem j21:(Tryz.prog.make==some Rows.capsSafeRow.make)=true:=by kernel_rfl
theorem j22:((Rows.capsSafeRow.kinds==(if Rows.capsSafeRow.domain.isEmpty then [] else Tryz.f6.params.toList.map fun t=>match Tryz.prog.underlying t with|some (.int k)=>some k|_=>none))&&(Rows.capsSafeRow.pinned==Rows.capsSafeRow.pinnedBy))=true:=by kernel_rfl
theorem j23:((Rows.capsSafeRow.veiled==(Tryz.f6.params.toList++Rows.capsSafeSpec.plain.varTypes Tryz.prog++Tryz.f6.resultTypes.toList).any (Tryz.prog.veiledRec ·))&&Rows.capsSafeRow.veiledFits Tryz.prog Tryz.f6.params.toList (Tryz.f6.params.toList++Rows.capsSafeSpec.plain.varTypes Tryz.prog++Tryz.f6.resultTypes.toList))=true:=by kernel_rfl
theorem closed:joinedFacts Tryz.prog 6 Tryz.f6 Rows.capsSafeSpec Rows.capsSafeRow=true:=by
 have h6:=j6;have h11:=j11;have h12:=j12;have h15:=j15;have h22:=j22;have h23:=j23;simp only [Bool.and_eq_true] at h6 h11 h12 h15 h22 h23;simp only [joinedFacts,Bool.and_eq_true];exact ⟨⟨⟨⟨⟨⟨⟨⟨⟨⟨⟨⟨⟨⟨⟨⟨⟨⟨⟨⟨⟨⟨⟨⟨⟨⟨⟨⟨⟨⟨⟨j1,laidOut⟩,j3⟩,j4⟩,j5⟩,h6.1.1.1⟩,h6.1.1.2⟩,h6.1.2⟩,h6.2⟩,j7⟩,j8⟩,j9⟩,j10⟩,h11.1.1⟩,h11.1.2⟩,h11.2⟩,h12.1⟩,h12.2⟩,j13⟩,j14⟩,h15.1⟩,h15.2⟩,j16⟩,j17⟩,j18⟩,j19⟩,j20⟩,j21⟩,h22.1⟩,h22.2⟩,h23.1⟩,h23.2⟩
theorem m6h:Tryz.prog.funcNamed "pillarbox/pillarboxlaw21.CapsSafe" = some 6:=by kernel_rfl
theorem n0c:Tryz.f6.isInstance Tryz.prog Rows.capsSafeRow.origin Rows.capsSafeRow.targs:=of_decide_eq_true (by kernel_rfl)
theorem n1g:Tryz.f6.isWrapper Tryz.prog Rows.capsSafeRow.wrapper Rows.capsSafeRow.mainSum:=by unfold Func.isWrapper;first|(rw [if_pos (by decide +kernel)];kernel_rfl)|(rw [if_neg (by decide +kernel)];exact ⟨rfl,rfl⟩)
theorem over:Rows.capsSafeRow.holds Tryz.pinned (OpenSpec.ofChange Rows.capsSafeSpec) :=
 OpenClaim.holds_of_wide 6 Tryz.f6 rfl rfl rfl rfl rfl rfl rfl ⟨rfl,rfl,rfl,rfl,rfl⟩ rfl rfl rfl rfl rfl m6h Tryz.func6 closed n0c n1g
  (fun os started H enc _=>lifted os started H enc)
theorem proved:Rows.CapsSafeSaid:=over
theorem byText:Rows.capsSafeRow.wfByText (OpenSpec.ofChange Rows.capsSafeSpec)=true:=by kernel_rfl
theorem mainIs:Tryz.pinned.checked.prog.mainIs=some (((true, "6ac8c31cebfe072cafdb6d359ec8b0983162115c0478e66406d7249290c798c6"):Bool×String).1,((true, "6ac8c31cebfe072cafdb6d359ec8b0983162115c0478e66406d7249290c798c6"):Bool×String).2.toList):=by kernel_rfl
theorem looks:true=Tryz.prog.looks []:=by kernel_rfl
theorem goes:false=Rows.capsSafeRow.goesBy Tryz.prog:=by kernel_rfl
theorem stand:([50,52].all fun u => !Tryz.prog.wantsStandIn u)=true:=by kernel_rfl
theorem card:Rows.CapsSafeCardSaid :=
 Claim7.holds_tied_plain_at .later [] [.data,.data,.data,.data,.sentinel,.sentinel,.pinned] true (true, "6ac8c31cebfe072cafdb6d359ec8b0983162115c0478e66406d7249290c798c6") true proved (fun _ h=>by cases h) byText (fun _ h=>by cases h) capsSafe_row_tie rfl ⟨rfl,rfl⟩ mainIs rfl
  (fun f fn hf hfn=>by
   obtain rfl:f=6:=Option.some.inj (m6h.symm.trans hf) |>.symm;obtain rfl:fn=Tryz.f6:=(Option.some.inj (Tryz.func6.symm.trans hfn)).symm;exact ⟨looks,fun j t ht=>by
    rw [Tryz.params6] at ht;have hm:t∈[50,52]:=by simpa using Array.mem_of_getElem? ht
    exact (show Tryz.prog.wantsStandIn t=false by simpa using List.all_eq_true.1 stand t hm)⟩)
  goes
end Go.Proofs.YtbifjondkjgkmaaGreatDoor.capsSafe
namespace Go.Proofs.YtbifjondkjgkmaaGreatDoor
theorem capsSafe_holds:Rows.CapsSafeCardSaid:=capsSafe.card
#print axioms capsSafe_holds
end Go.Proofs.YtbifjondkjgkmaaGreatDoor
