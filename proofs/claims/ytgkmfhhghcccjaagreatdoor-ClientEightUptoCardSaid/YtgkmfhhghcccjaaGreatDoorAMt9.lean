/- The texts of the proof, one behind the other: LClientEight. -/
import Derived.Test.YtgkmfhhghcccjaaGreatDoorRows
import Derived.Test.YtgkmfhhghcccjaaGreatDoorCards
import Derived.Test.YtgkmfhhghcccjaaGreatDoorTie
import Derived.Test.YtgkmfhhghcccjaaGreatDoorAMt8
import Derived.Test.YtgkmfhhghcccjaaGreatDoorAMt2
import Derived.ProofKit
import Derived.OpenShut
import Derived.LaidMore
import Derived.Lay
import Derived.SevenTiedAt
import Derived.Stop.Joined
import Derived.ShutString
import Derived.ChangeOld
import Derived.JoinedCond
import Derived.Deep.DeepHandedRow
namespace Go.Proofs.YtgkmfhhghcccjaaGreatDoor.clientEight
open Go Go.Ae Go.ChangeShapes Go.WideShapes Go.ChangeAt Go.RowKit
set_option linter.unusedVariables false
set_option linter.unusedSimpArgs false
set_option maxRecDepth 100000
theorem own:ownKnob Tryz.prog.godebug=none:=by kernel_rfl
theorem laidOut:laidOutB Tryz.prog=true:=by kernel_rfl
theorem all_sum {H:Type}:∀l:List (DataW H),(l.map Rows.uptoBulk).sum=Rows.uptoBulkAll l
 | []=>rfl
 | d::l=>by simp only [List.map_cons,List.sum_cons,Rows.uptoBulkAll,all_sum l]
theorem bok {H:Type}:BkOk (H:=H) Rows.uptoBulk :=
 ⟨fun d=>by
  cases d with
  | lit l=>cases l<;>simp [Rows.uptoBulk]
  | nil=>simp [Rows.uptoBulk]
  | ptr d=>simp [Rows.uptoBulk]
  | slice elems spare=>simp [Rows.uptoBulk]
  | agg parts=>simp [Rows.uptoBulk]
  | iface t d=>simp [Rows.uptoBulk]
  | map entries=>simp [Rows.uptoBulk]
  | held h=>simp [Rows.uptoBulk],fun s=>by simp [Rows.uptoBulk],fun es sp=>by rw [all_sum];simp only [Rows.uptoBulk];omega,fun ps=>by rw [all_sum];simp only [Rows.uptoBulk];omega⟩
theorem lifted (os:Os) (started:os.Started) (H:Type) (enc:TypeId×Value→H) (F:Stop.Interp) :
 ReturnsInHanded {} Tryz.checked os 5 .any ((Rows.OpenSpec.upto Rows.clientEightSpec).preRow enc Tryz.prog Tryz.f5 Rows.clientEightUptoRow.domain false Rows.clientEightUptoRow.laid) (((Rows.OpenSpec.upto Rows.clientEightSpec).at F).post enc Tryz.prog Tryz.f5 false true false false):=by
 have hok:Input.okWideB Tryz.prog ((World.laidAll Tryz.prog os Rows.clientEightUptoRow.laid).forCall (fun _ _=>0) ⟨#[],#[.agg #[.bool false,.string ByteArray.empty,.string ByteArray.empty,.slice none 0 0,.slice none 0 0,.bool false,.bool false,.bool false,.int .i64 0,.int .i64 0,.int .i64 0],.agg #[.bool false,.string ByteArray.empty,.string ByteArray.empty],.slice none 0 0],[]⟩) 5 ⟨#[],#[.agg #[.bool false,.string ByteArray.empty,.string ByteArray.empty,.slice none 0 0,.slice none 0 0,.bool false,.bool false,.bool false,.int .i64 0,.int .i64 0,.int .i64 0],.agg #[.bool false,.string ByteArray.empty,.string ByteArray.empty],.slice none 0 0],[]⟩=true:=by kernel_rfl
 have hx:DataW.whole enc Tryz.prog ((World.laidAll Tryz.prog os Rows.clientEightUptoRow.laid).forCall (fun _ _=>0) ⟨#[],#[.agg #[.bool false,.string ByteArray.empty,.string ByteArray.empty,.slice none 0 0,.slice none 0 0,.bool false,.bool false,.bool false,.int .i64 0,.int .i64 0,.int .i64 0],.agg #[.bool false,.string ByteArray.empty,.string ByteArray.empty],.slice none 0 0],[]⟩).memory Tryz.f5.params.toList (Rows.OpenSpec.upto Rows.clientEightSpec).vars false (#[.agg #[.bool false,.string ByteArray.empty,.string ByteArray.empty,.slice none 0 0,.slice none 0 0,.bool false,.bool false,.bool false,.int .i64 0,.int .i64 0,.int .i64 0],.agg #[.bool false,.string ByteArray.empty,.string ByteArray.empty],.slice none 0 0]:Array Value).toList 8=some ([.agg [.agg [.lit (.bool false),.agg [.lit (.string []),.lit (.string [])]],.nil,.nil,.agg [.lit (.bool false),.lit (.bool false),.lit (.bool false),.lit (.int .i64 0),.lit (.int .i64 0)],.lit (.int .i64 0)],.agg [.lit (.bool false),.agg [.lit (.string []),.lit (.string [])]],.nil],[],[]):=by kernel_rfl
 refine returnsInHanded_of_row (C:=Tryz.checked) (s:=(Rows.OpenSpec.upto Rows.clientEightSpec)) (F:=F) own started (by kernel_rfl) Tryz.func5
  ⟨World.laidAll Tryz.prog os Rows.clientEightUptoRow.laid,fun _ _=>0,⟨#[],#[.agg #[.bool false,.string ByteArray.empty,.string ByteArray.empty,.slice none 0 0,.slice none 0 0,.bool false,.bool false,.bool false,.int .i64 0,.int .i64 0,.int .i64 0],.agg #[.bool false,.string ByteArray.empty,.string ByteArray.empty],.slice none 0 0],[]⟩,World.laidAll_os _ _ _,World.shaped_of_ZipB (by kernel_rfl) (by kernel_rfl),(Input.okWide_of_okWideB (base:=0) hok).1,(Input.okWide_of_okWideB hok).2,
   OpenSpec.preRow_of_cond 8 hx (by kernel_rfl) (fun k hk=>by cases hk;kernel_rfl) (by kernel_rfl) (by rw [MakeChecks.laidMetH_plain _ _ _ (by kernel_rfl)];exact laidMet_laidAll _ (by kernel_rfl) (by kernel_rfl)),by
    simp only [Assume.holds];exact ⟨by simp,by simp,fun _=>Modest.zero,by simp,by simp⟩⟩ ?_
 intro W base args ds gs before hval0 hW _ hcond hsz0 hL hsh _;have hbk:Rows.uptoBulkAll (ds++gs)≤1048576:=of_decide_eq_true (hcond Rows.uptoSmall rfl);have hsz:(DataW.weightsEach Tryz.prog (Tryz.f5.params.toList++Rows.clientEightSpec.plain.varTypes Tryz.prog) (ds++gs)).all (· ≤ reachBytes)=true:=hsz0;have hval:∀(j:Nat) t v,Tryz.f5.params[j]? = some t→args[j]? = some v→Value.okWide Tryz.prog W .any base t v:=hval0;have hW':=hW;obtain ⟨p,q,hA0,hV,rfl,hfz,hnd⟩:=hW;have hA:DataW.TrodAll enc Tryz.prog W 0 (fun _=>true) true Tryz.f5.params.toList args.toList ds p:=hA0;rw [Tryz.params5] at hA hval hsz;obtain ⟨v0,vs0,d0,ds0,p0,q0,hargs,rfl,rfl,h0,r0⟩:=trodAll_cons hA;obtain ⟨v1,vs1,d1,ds1,p1,q1,rfl,rfl,rfl,h1,r1⟩:=trodAll_cons r0;obtain ⟨v2,vs2,d2,ds2,p2,q2,rfl,rfl,rfl,h2,r2⟩:=trodAll_cons r1;obtain ⟨rfl,rfl,rfl⟩:=trodAll_nil r2;obtain rfl:args = #[v0,v1,v2]:=by cases args;simp_all
 obtain ⟨rfl,rfl⟩:=trodVars_none hV;simp only [List.append_nil,List.nil_append,List.cons_append,Rows.uptoBulkAll] at hbk;obtain ⟨x0,e0,b0,u0⟩:=open_aggU bok (n:=12) (T:=(Ty.pair (.pair .bool (.pair .str .str)) (.pair (.lst (.pair .bool (.pair .str .str))) (.pair (.lst .str) (.pair (.pair .bool (.pair .bool (.pair .bool (.pair (.int .i64) (.int .i64))))) (.int .i64)))))) (by kernel_rfl) (by kernel_rfl) (hval 0 31 v0 rfl rfl) h0 (arg_weights hsz 0 rfl rfl);have lt0:∀x∈p0,x.block<W.heap.size:=by obtain ⟨m,hm⟩:=h0;exact DataW.trod_lt m _ _ _ hm
 obtain ⟨x1,e1,b1,u1⟩:=open_aggU bok (n:=12) (T:=(Ty.pair .bool (.pair .str .str))) (by kernel_rfl) (by kernel_rfl) (hval 1 25 v1 rfl rfl) h1 (arg_weights hsz 1 rfl rfl);have lt1:∀x∈p1,x.block<W.heap.size:=by obtain ⟨m,hm⟩:=h1;exact DataW.trod_lt m _ _ _ hm
 obtain ⟨x2,e2,b2,u2⟩:=open_oneU bok (n:=12) (T:=(Ty.lst (.pair (.int .i64) (.lst .str)))) (by kernel_rfl) (by kernel_rfl) (hval 2 32 v2 rfl rfl) h2 (arg_weights hsz 2 rfl rfl);have lt2:∀x∈p2,x.block<W.heap.size:=by obtain ⟨m,hm⟩:=h2;exact DataW.trod_lt m _ _ _ hm
 refine (law_walk _root_.Go.Proofs.YtgkmfhhghcccjaaGreatDoorA.W.ok5 Tryz.func5 (by kernel_rfl) (by kernel_rfl) (v:=(x0.1.1,x0.1.2.1,x0.1.2.2,x0.2.1,x0.2.2.1,x0.2.2.2.1.1,x0.2.2.2.1.2.1,x0.2.2.2.1.2.2.1,x0.2.2.2.1.2.2.2.1,x0.2.2.2.1.2.2.2.2,x0.2.2.2.2,x1.1,x1.2.1,x1.2.2,x2,())) (_root_.Go.Proofs.YtgkmfhhghcccjaaGreatDoor.glob hL hsh) rfl rfl (e0.append (e1.append e2)) (_root_.Go.Proofs.YtgkmfhhghcccjaaGreatDoorA.PClientEight.pure x0 b0 (by omega) x1 b1 (by omega) x2 b2 (by omega))).mono fun e W' ⟨he,bel⟩ => ?_;subst he;exact ⟨_,rfl,_,_,_,[],_,[],hW',trodAll_mk1 (shut_bool Tryz.underlying4 _),(trodAll_cons_mk (Below.trod laidOut (by kernel_rfl) (of_decide_eq_true (by kernel_rfl)) h0 bel lt0) (trodAll_cons_mk (Below.trod laidOut (by kernel_rfl) (of_decide_eq_true (by kernel_rfl)) h1 bel lt1) (trodAll_cons_mk (Below.trod laidOut (by kernel_rfl) (of_decide_eq_true (by kernel_rfl)) h2 bel lt2) trodAll_mk0))),rfl,bel.frame _,fun h=>by cases h⟩
theorem j1:Rows.clientEightUptoRow.wf (OpenSpec.ofChange Rows.clientEightSpec)=true:=by kernel_rfl
theorem j3:mapsRowed Tryz.prog=true:=by kernel_rfl
theorem j4:Tryz.f5.params.all (Tryz.prog.readableRec ·)=true:=by kernel_rfl
theorem j5:namedTie Tryz.prog Rows.clientEightUptoRow.named Rows.clientEightSpec.vars=true:=by kernel_rfl
theorem j6:((Rows.clientEightUptoRow.stops==[])&&(Tryz.prog.stops==[])&&(Rows.clientEightUptoRow.knobs==[])&&(Tryz.prog.stopKnobs==[]))=true:=by kernel_rfl
theorem j7:(Rows.clientEightUptoRow.inPlace==Tryz.prog.inPlace 5)=true:=by kernel_rfl
theorem j8:(Rows.clientEightUptoRow.unfollowed==Tryz.prog.unfollowed 5)=true:=by kernel_rfl
theorem j9:(Rows.clientEightUptoRow.recurses==Tryz.prog.recurses 5)=true:=by kernel_rfl
theorem j10:(Rows.clientEightUptoRow.named==Tryz.prog.varsNamed 5)=true:=by kernel_rfl
theorem j11:((Rows.clientEightUptoRow.maps==(Tryz.f5.params.toList++Rows.clientEightSpec.plain.varTypes Tryz.prog).any (Tryz.prog.mapsRec ·))&&(Rows.clientEightUptoRow.ifaces==(Tryz.f5.params.toList++Rows.clientEightSpec.plain.varTypes Tryz.prog).any (Tryz.prog.ifacesRec ·))&&(Rows.clientEightUptoRow.mapsOut==Tryz.prog.mapsAmong Tryz.f5.resultTypes.toList))=true:=by kernel_rfl
theorem j12:((Rows.clientEightUptoRow.loops==(Tryz.f5.params.toList++Rows.clientEightSpec.plain.varTypes Tryz.prog).any (Tryz.prog.loopsFrom ·))&&(Rows.clientEightUptoRow.wideKeys==(Tryz.f5.params.toList++Rows.clientEightSpec.plain.varTypes Tryz.prog++Tryz.f5.resultTypes.toList).any (Tryz.prog.wideKeysFrom ·)))=true:=by kernel_rfl
theorem j13:Rows.clientEightSpec.vars.all (Tryz.prog.varReadable ·)=true:=by kernel_rfl
theorem j14:Tryz.f5.resultTypes.all (fun t=>Tryz.prog.readableRec t&&decide (t<Tryz.prog.types.size))=true:=by kernel_rfl
theorem j15:((Rows.clientEightUptoRow.ifacesOut==Tryz.f5.resultTypes.toList.any (Tryz.prog.ifacesRec ·))&&(Rows.clientEightUptoRow.loopsOut==Tryz.f5.resultTypes.toList.any (Tryz.prog.loopsFrom ·)))=true:=by kernel_rfl
theorem j16:(Rows.clientEightUptoRow.plainKeys==Tryz.prog.plainKeys)=true:=by kernel_rfl
theorem j17:Rows.clientEightUptoRow.shortTexts.isNone=true:=by kernel_rfl
theorem j18:Tryz.prog.stopsHeard=true:=by kernel_rfl
theorem j19:Tryz.prog.mayEnter=true:=by kernel_rfl
theorem j20:(Rows.clientEightUptoRow.lifted==Tryz.prog.liftsFinal)=true:=by kernel_rfl
theorem j21:(Tryz.prog.make==some Rows.clientEightUptoRow.make)=true:=by kernel_rfl
theorem j22:((Rows.clientEightUptoRow.kinds==(if Rows.clientEightUptoRow.domain.isEmpty then [] else Tryz.f5.params.toList.map fun t=>match Tryz.prog.underlying t with|some (.int k)=>some k|_=>none))&&(Rows.clientEightUptoRow.pinned==Rows.clientEightUptoRow.pinnedBy))=true:=by kernel_rfl
theorem j23:((Rows.clientEightUptoRow.veiled==(Tryz.f5.params.toList++Rows.clientEightSpec.plain.varTypes Tryz.prog++Tryz.f5.resultTypes.toList).any (Tryz.prog.veiledRec ·))&&Rows.clientEightUptoRow.veiledFits Tryz.prog Tryz.f5.params.toList (Tryz.f5.params.toList++Rows.clientEightSpec.plain.varTypes Tryz.prog++Tryz.f5.resultTypes.toList))=true:=by kernel_rfl
theorem closed:joinedFacts Tryz.prog 5 Tryz.f5 Rows.clientEightSpec Rows.clientEightUptoRow=true:=by
 have h6:=j6;have h11:=j11;have h12:=j12;have h15:=j15;have h22:=j22;have h23:=j23;simp only [Bool.and_eq_true] at h6 h11 h12 h15 h22 h23;simp only [joinedFacts,Bool.and_eq_true];exact ⟨⟨⟨⟨⟨⟨⟨⟨⟨⟨⟨⟨⟨⟨⟨⟨⟨⟨⟨⟨⟨⟨⟨⟨⟨⟨⟨⟨⟨⟨⟨j1,laidOut⟩,j3⟩,j4⟩,j5⟩,h6.1.1.1⟩,h6.1.1.2⟩,h6.1.2⟩,h6.2⟩,j7⟩,j8⟩,j9⟩,j10⟩,h11.1.1⟩,h11.1.2⟩,h11.2⟩,h12.1⟩,h12.2⟩,j13⟩,j14⟩,h15.1⟩,h15.2⟩,j16⟩,j17⟩,j18⟩,j19⟩,j20⟩,j21⟩,h22.1⟩,h22.2⟩,h23.1⟩,h23.2⟩
theorem ka:Tryz.prog.funcNamed "pillarbox/pillarboxlaw24.ClientEight" = some 5:=by kernel_rfl
theorem j0h:Tryz.f5.isInstance Tryz.prog Rows.clientEightUptoRow.origin Rows.clientEightUptoRow.targs:=of_decide_eq_true (by kernel_rfl)
theorem j0k:Tryz.f5.isWrapper Tryz.prog Rows.clientEightUptoRow.wrapper Rows.clientEightUptoRow.mainSum:=by unfold Func.isWrapper;first|(rw [if_pos (by decide +kernel)];kernel_rfl)|(rw [if_neg (by decide +kernel)];exact ⟨rfl,rfl⟩)
theorem over:Rows.clientEightUptoRow.holds Tryz.pinned (Rows.OpenSpec.upto Rows.clientEightSpec) :=
 OpenClaim.holds_of_cond 5 Tryz.f5 rfl rfl rfl rfl rfl rfl rfl ⟨rfl,rfl,rfl,rfl,rfl⟩ rfl rfl rfl rfl rfl ka Tryz.func5 closed j0h j0k
  (fun os started H enc _ F=>by rw [OpenClaim.pre_eq_preRow];exact lifted os started H enc F)
theorem proved:Rows.ClientEightUptoSaid:=over
theorem byText:Rows.clientEightUptoRow.wfByText (Rows.OpenSpec.upto Rows.clientEightSpec)=true:=by kernel_rfl
theorem mainIs:Tryz.pinned.checked.prog.mainIs=some (((true, "f91feab2507109a461b97a306939d3a2f073ea80f7baa4027096dcfdb85e99cd"):Bool×String).1,((true, "f91feab2507109a461b97a306939d3a2f073ea80f7baa4027096dcfdb85e99cd"):Bool×String).2.toList):=by kernel_rfl
theorem looks:true=Tryz.prog.looks []:=by kernel_rfl
theorem goes:false=Rows.clientEightUptoRow.goesBy Tryz.prog:=by kernel_rfl
theorem stand:([31,25,32].all fun u => !Tryz.prog.wantsStandIn u)=true:=by kernel_rfl
theorem card:Rows.ClientEightUptoCardSaid :=
 Claim7.holds_tied_plain_at .later [] [.data,.data,.data,.data,.sentinel,.sentinel,.data,.pinned] true (true, "f91feab2507109a461b97a306939d3a2f073ea80f7baa4027096dcfdb85e99cd") true proved (fun _ h=>by cases h) byText (fun _ h=>by cases h) clientEightUpto_row_tie rfl ⟨rfl,rfl⟩ mainIs rfl
  (fun f fn hf hfn=>by
   obtain rfl:f=5:=Option.some.inj (ka.symm.trans hf) |>.symm;obtain rfl:fn=Tryz.f5:=(Option.some.inj (Tryz.func5.symm.trans hfn)).symm;exact ⟨looks,fun j t ht=>by
    rw [Tryz.params5] at ht;have hm:t∈[31,25,32]:=by simpa using Array.mem_of_getElem? ht
    exact (show Tryz.prog.wantsStandIn t=false by simpa using List.all_eq_true.1 stand t hm)⟩)
  goes
end Go.Proofs.YtgkmfhhghcccjaaGreatDoor.clientEight
namespace Go.Proofs.YtgkmfhhghcccjaaGreatDoor
theorem clientEightUpto_holds:Rows.ClientEightUptoCardSaid:=clientEight.card
#print axioms clientEightUpto_holds
end Go.Proofs.YtgkmfhhghcccjaaGreatDoor
