/- The texts of the proof, one behind the other: XOut, W8, W9, W10, W11, W12, W13, W14, PB, PL1, PL2, PL3, PL4, PL5, PL6, PL7, PQ, PL8. -/
import Derived.Test.YtgkmfhhghcccjaaGreatDoorAMn4
import Derived.Test.YtgkmfhhghcccjaaGreatDoorAMn2
set_option linter.unusedVariables false
set_option maxRecDepth 100000
namespace Go.Proofs.YtgkmfhhghcccjaaGreatDoorA.W
open Go Go.Ae Go.RowKit
attribute [local go_sem] Oper.semAt_some
theorem prefix_call {s sep:List UInt8} {ok:Bool} (h:C76 (s,sep,())=some (ok,())) {w:World} (hg:GI w m0) :
 Calls Tryz.prog 76 #[.string ⟨⟨s⟩⟩,.string ⟨⟨sep⟩⟩] w fun e w'=>e = .returned (.bool ok)∧Below w.heap.size w w':=by
 refine (FnOk.call0 (v:=(s,sep,())) (y:=(ok,())) ok76 Tryz.func76 (by kernel_rfl) (by kernel_rfl) hg (fun _ h=>h.elim) rfl ⟨_,_,rfl,rfl,_,_,rfl,rfl,rfl⟩ rfl h ?_).mono fun e w' ⟨rv,h1,h2,ax,l',u,h3,h4⟩ => ?_
 · intro ax l' u h3
   cases osel_one_inv h3;rfl
 · cases osel_one_inv h3
   obtain ⟨v,r',e1,e2,e4⟩:=h4;have e4':r'=[]:=e4;subst e4';cases e1;subst h1 e2;exact ⟨rfl,h2⟩
theorem dot_ahead (x:List UInt8):Value.string (⟨#[46]⟩++⟨⟨x⟩⟩)=Value.string ⟨⟨46::x⟩⟩:=congrArg Value.string (by
 apply ByteArray.ext;rw [ByteArray.data_append];simp)
def dotC (x:List UInt8):Option (List UInt8):=(C76 (x,[46],())).bind fun a=>bif decide (x.length≤1000000000) then some (bif a.1 then 46::x else x) else none
def linesC:List (List UInt8)→Option (List (List UInt8))
 | []=>some []
 | x::xs=>(dotC x).bind fun y=>(linesC xs).map fun ys=>y::ys
theorem linesC_len:∀{l ys},linesC l=some ys→ys.length=l.length
 | [],ys,h=>by cases h;rfl
 | x::xs,ys,h=>by
  simp only [linesC] at h;obtain ⟨y,_,h2⟩:=Option.bind_eq_some_iff.1 h;obtain ⟨zs,h3,rfl⟩:=Option.map_eq_some_iff.1 h2;simp [linesC_len h3]
theorem linesC_at:∀{l ys},linesC l=some ys→∀(k:Nat) x,l[k]? = some x→∃y,dotC x=some y∧ys[k]? = some y
 | [],ys,h,k,x,hk=>by simp at hk
 | z::zs,ys,h,k,x,hk=>by
  simp only [linesC] at h;obtain ⟨y,h1,h2⟩:=Option.bind_eq_some_iff.1 h;obtain ⟨qs,h3,rfl⟩:=Option.map_eq_some_iff.1 h2;cases k with
  | zero=>cases hk;exact ⟨y,h1,rfl⟩
  | succ k=>exact linesC_at h3 k x hk
set_option maxHeartbeats 4000000 in
theorem dotted_seq (n:Nat) (hn:1≤n) (Bs g o cap:Nat) (a:Option Addr) (l ys:List (List UInt8)) (hys:linesC l=some ys) (w:World) (hlen:l.length≤1000000000000) (hb:Boxed w Bs 27 (.slice a l.length cap)) (ha:l≠[]→a=some ⟨g,o,none⟩)
 (hcl:∀(k:Nat) x,l[k]? = some x→w.cell? ⟨g,o+k,none⟩=some (.string ⟨⟨x⟩⟩)) (hg:GI w m0) (Bd:Nat) :
 SeqD Fence.wide n Tryz.prog 118 #[.pointer (some ⟨Bs,0,none⟩)] (fun x:List UInt8 => #[Value.string ⟨⟨x⟩⟩]) (fun b=>b=Bs∨(l≠[]∧b=g)∨b∈GlobB) Bd (ys++[[46]]) w:=by
 intro lp J Jx W hW hJ hJx hY h0;have hb':Boxed W Bs 27 (.slice a l.length cap):=(hW.block Bs hb.lt).trans hb;have hcl':∀(k:Nat) x,l[k]? = some x→W.cell? ⟨g,o+k,none⟩=some (.string ⟨⟨x⟩⟩):=fun k x hk=>(hW.cell (p:=⟨g,o+k,none⟩) (World.block_lt_of_cell? _ _ (hcl k x hk))).trans (hcl k x hk);have hg':GI W m0:=gi_below hg hW;have hkl:=linesC_len hys;refine callsIn_of_wp Tryz.func118 rfl trivial ?_ rfl;simp only [Tryz.ntmps118,List.size_toArray,List.length_cons,List.length_nil,Nat.reduceAdd,Nat.reduceSub,Array.replicate_succ,Array.replicate_zero,List.push_toArray,List.append_toArray,List.nil_append,List.cons_append];have hc:=hb'.cell;generalize hN:l.length=N at *
 gi_wp2
 gi_loopw [7] (fun i wr=>∃j:Nat,i = .int .i64 (j:Int)∧j≤N∧Hid (J (ys.take j) wr)∧Hid (Boxed wr Bs 27 (.slice a N cap))∧Hid (GI wr m0)∧Hid (∀(k:Nat) x,l[k]? = some x→wr.cell? ⟨g,o+k,none⟩=some (.string ⟨⟨x⟩⟩))) (fun i _=>N-(intOf i).toNat)
 case atStart=>exact ⟨0,rfl,Nat.zero_le _,h0,hb',hg',hcl'⟩
 case round =>
  obtain ⟨j,rfl,hj,hJs,hbr,hgr,hcr⟩:=hrel;by_cases hlt:j<N
  · obtain ⟨x,hx⟩:∃x,l[j]? = some x:=⟨_,List.getElem?_eq_getElem (by omega)⟩
    obtain ⟨y,hy1,hy2⟩:=linesC_at hys j x hx;have hl0:l≠[]:=by rintro rfl;simp at hN;omega
    have hae:=ha hl0;subst hae;have htk:ys.take (j+1)=ys.take j++[y]:=by rw [List.take_add_one,hy2];rfl
    have hpre:ys.take j++[y] <+: ys++[[46]]:=htk▸(List.take_prefix _ _).trans (List.prefix_append _ _);have hcx:wr.cell? ⟨g,o+j,none⟩=some (.string ⟨⟨x⟩⟩):=hcr.out j x hx;have hcb:=hbr.out.cell;obtain ⟨⟨ok,u0⟩,hp76,hyy⟩:=Option.bind_eq_some_iff.1 hy1;rcases cond_some hyy with ⟨hlx,hyz⟩|⟨_,hyz⟩
    case inr=>cases hyz
    have hlx':x.length≤1000000000:=of_decide_eq_true hlx;have hcall:=prefix_call hp76 hgr.out;have hYy:=fun w' (hbel:Below wr.heap.size wr w')=>hY _ y w' hpre (hJ _ _ _ hJs.out (Oth.of_below hbel));clear hcl' hcl hb' hb hc hW h0 hY hys htk;have after:∀w' (hbel:Below wr.heap.size wr w') W3,J (ys.take j++[y]) W3→w'.heap.size≤W3.heap.size→(∀b,(b=Bs∨(l≠[]∧b=g)∨b∈GlobB)→W3.heap[b]? = w'.heap[b]?) →
     Hid (J (ys.take (j+1)) W3)∧Hid (Boxed W3 Bs 27 (.slice (some ⟨g,o,none⟩) N cap))∧Hid (GI W3 m0)∧Hid (∀(k:Nat) x,l[k]? = some x→W3.cell? ⟨g,o+k,none⟩=some (.string ⟨⟨x⟩⟩)):=by
     intro w' hbel W3 hJ3 hs3 hk3;refine ⟨?_,(hk3 Bs (.inl rfl)).trans ((hbel.block Bs hbr.out.lt).trans hbr.out),gi_keep (gi_below hgr.out hbel) hs3 fun b hb=>hk3 b (.inr (.inr hb)),fun k x hk => ?_⟩
     · rw [List.take_add_one,hy2];exact hJ3
     · have h1:=hcr.out k x hk
       have h2:=(hbel.cell (p:=⟨g,o+k,none⟩) (World.block_lt_of_cell? _ _ h1)).trans h1;exact (World.cell?_of_block (hk3 g (.inr (.inl ⟨hl0,rfl⟩)))).trans h2
    have After:Hid _ := @after;clear after;cases ok with
    | true =>
     obtain rfl:46::x=y:=Option.some.inj hyz;rw [←dot_ahead x] at hYy
     gi_wp2_with (refine ⟨trivial,?_⟩;gi_at_call 76;refine (callsIn_wide.2 hcall).mono ?_;rintro e w' ⟨rfl,hbel⟩;obtain ⟨fn,tmps,assign,body,hy,hR⟩:=hYy w' hbel)
     refine hR.mono ?_;rintro e W3 (⟨rfl,hJ3,hs3,hk3⟩|⟨rfl,hJx3⟩)
     · obtain ⟨a1,a2,a3,a4⟩:=After.out w' hbel W3 hJ3 hs3 hk3
       gi_wp2
       go_roundw
       case rel=>exact ⟨j+1,by simp,by omega,a1,a2,a3,a4⟩
       case measure=>simp [intOf];omega
     · gi_wp2
       refine bodyPost_ret (results_none rfl _ _ _) rfl ?_;exact ⟨⟨_,rfl⟩,.inr ⟨_,hpre,hJx3⟩⟩
    | false =>
     obtain rfl:x=y:=Option.some.inj hyz
     gi_wp2_with (refine ⟨trivial,?_⟩;gi_at_call 76;refine (callsIn_wide.2 hcall).mono ?_;rintro e w' ⟨rfl,hbel⟩;obtain ⟨fn,tmps,assign,body,hy,hR⟩:=hYy w' hbel)
     refine hR.mono ?_;rintro e W3 (⟨rfl,hJ3,hs3,hk3⟩|⟨rfl,hJx3⟩)
     · obtain ⟨a1,a2,a3,a4⟩:=After.out w' hbel W3 hJ3 hs3 hk3
       gi_wp2
       go_roundw
       case rel=>exact ⟨j+1,by simp,by omega,a1,a2,a3,a4⟩
       case measure=>simp [intOf];omega
     · gi_wp2
       refine bodyPost_ret (results_none rfl _ _ _) rfl ?_;exact ⟨⟨_,rfl⟩,.inr ⟨_,hpre,hJx3⟩⟩
  · obtain rfl:j=N:=by omega
    have htk:ys.take j=ys:=List.take_of_length_le (by omega);have hJs':J ys wr:=by have:=hJs.out;rwa [htk] at this
    obtain ⟨fn,tmps,assign,body,hy,hR⟩:=hY ys [46] wr List.prefix_rfl hJs';clear hcl' hcl hb' hb hc hW h0 hY
    gi_wp2
    refine hR.mono ?_;rintro e W3 (⟨rfl,hJ3,hs3,hk3⟩|⟨rfl,hJx3⟩)
    · gi_wp2
      go_end0
      exact ⟨⟨_,rfl⟩,.inl hJ3⟩
    · gi_wp2
      go_end0
      exact ⟨⟨_,rfl⟩,.inr ⟨_,List.prefix_rfl,hJx3⟩⟩
set_option maxHeartbeats 4000000 in
theorem dotted_mk (a:Option Addr) (n cap:Nat) (w:World):Calls Tryz.prog 83 #[.slice a n cap] w fun e w'=>e = .returned (.func (.func 118) #[] #[.pointer (some ⟨w.heap.size,0,none⟩)])∧w'=w.alloc (.cells #[.slice a n cap] 27):=by
 go_enter Tryz.func83,Tryz.ntmps83
 go_wp2
 go_returns
 exact ⟨rfl,rfl⟩
theorem below_keep {B:Nat} {A W W':World} (h:Below B A W) (hs:W.heap.size≤W'.heap.size) (ho:W'.os=W.os) (ht:W'.tape=W.tape) (hu:W'.output=W.output) (hk:∀b,b<B→W'.heap[b]? = W.heap[b]?):Below B A W' :=
 ⟨ho.trans h.os,ht.trans h.tape,hu.trans h.output,Nat.le_trans h.size hs,fun k hkb=>(hk k hkb).trans (h.block k hkb)⟩
theorem appended2 {W w1:World} {n₀ B:Nat} {t e:TypeId} {size:Nat} {v v':Value} {k m:Nat} {xs ys:List Value} {tmp:Obj}
 (hv:Boxed W B t v) (hte:t≠e) (hrow:W.ownsRow n₀ e size v k xs) (hn₀:n₀≤W.heap.size)
 (hown':w1.ownsRow n₀ e size v' m ys) (hgrow:(W.alloc tmp).grownBy w1 v.ownBlock) :
 Boxed w1 B t v∧Boxed (w1.setCell ⟨B,0,none⟩ v') B t v'∧(w1.setCell ⟨B,0,none⟩ v').ownsRow n₀ e size v' m ys∧KeepsOthers W (w1.setCell ⟨B,0,none⟩ v')∧Below n₀ W w1:=by
 have hv1:Boxed w1 B t v:=(hv.alloc tmp).kept hgrow (hv.not_row hte hrow);refine ⟨hv1,hv1.set v',hown'.kept (grownBy_setCell' w1 B v') (.inr (hv1.not_row hte hown').symm),?_,?_⟩
 · refine ((KeepsOthers.alloc W tmp).trans (KeepsOthers.of_grownBy hgrow fun j o ej hj => ?_)).trans (KeepsOthers.setCell _ _ _)
   rcases (hrow.alloc tmp).2 with ⟨rfl,_⟩|⟨g,cap,cur,rfl,_,hgb,_⟩
   · simp [Value.ownBlock] at ej
   · obtain rfl:g=j:=by simpa [Value.ownBlock] using ej
     rw [hgb] at hj;cases hj;rfl
 · refine ((Below.refl n₀ W).alloc hn₀ tmp).grown hgrow (by simp;omega) fun j ej => ?_
   rcases hrow.2 with ⟨rfl,_⟩|⟨g,cap,cur,rfl,hb,_,_⟩
   · simp [Value.ownBlock] at ej
   · obtain rfl:g=j:=by simpa [Value.ownBlock] using ej
     exact hb
set_option maxHeartbeats 4000000 in
theorem out_walk (a:Option Addr) (g o cap:Nat) (l ys:List (List UInt8)) (hys:linesC l=some ys) (w:World) (hg:GI w m0) (hlen:l.length≤1000000000) (ha:l≠[]→a=some ⟨g,o,none⟩)
 (hcl:∀(k:Nat) x,l[k]? = some x→w.cell? ⟨g,o+k,none⟩=some (.string ⟨⟨x⟩⟩)) :
 Calls Tryz.prog 56 #[.slice a l.length cap] w fun e W'=>∃v,e = .returned v∧W'.ownsRow w.heap.size 9 1 v (ys++[[46]]).length ((ys++[[46]]).map encS)∧Below w.heap.size w W':=by
 refine (callsIn_wide (n:=3)).1 ?_;obtain ⟨i0,hi,hz0,hz1,hz2⟩:=info_parts info_string;refine callsIn_of_wp_marks Tryz.func56 rfl trivial ?_ rfl;simp only [Tryz.ntmps56,List.size_toArray,List.length_cons,List.length_nil,Nat.reduceAdd,Nat.reduceSub,Array.replicate_succ,Array.replicate_zero,List.push_toArray,List.append_toArray,List.nil_append,List.cons_append];have hkl:=linesC_len hys
 gi_wp2_with (refine ⟨trivial,?_⟩;gi_at_call 83;refine (callsIn_wide.2 (dotted_mk _ _ _ _)).mono ?_;rintro e w2 ⟨rfl,rfl⟩)
 have hsz1:(w.alloc (.cells #[.slice none 0 0] 27)).heap.size=w.heap.size+1:=World.size_alloc _ _;have hsz2:((w.alloc (.cells #[.slice none 0 0] 27)).alloc (.cells #[.slice a l.length cap] 27)).heap.size=w.heap.size+2:=by simp
 have hB0:Below w.heap.size w ((w.alloc (.cells #[.slice none 0 0] 27)).alloc (.cells #[.slice a l.length cap] 27)):=((Below.refl _ w).alloc (Nat.le_refl _) _).alloc (by simp) _;have hgl:l≠[]→g<w.heap.size:=fun h=>by
  cases hl:l with
  | nil=>exact (h hl).elim
  | cons x xs=>exact World.block_lt_of_cell? _ _ (hcl 0 x (by rw [hl];rfl))
 have hbv:Boxed ((w.alloc (.cells #[.slice none 0 0] 27)).alloc (.cells #[.slice a l.length cap] 27)) (w.heap.size+1) 27 (.slice a l.length cap):=by
  have:=Boxed.new (w.alloc (.cells #[.slice none 0 0] 27)) 27 (.slice a l.length cap)
  rwa [hsz1] at this
 have hbA:Boxed ((w.alloc (.cells #[.slice none 0 0] 27)).alloc (.cells #[.slice a l.length cap] 27)) w.heap.size 27 (.slice none 0 0):=(Boxed.new w 27 _).alloc _;have hseq:=dotted_seq 2 (by omega) (w.heap.size+1) g o cap a l ys hys _ (by omega) hbv ha (fun k x hk=>(hB0.cell (p:=⟨g,o+k,none⟩) (World.block_lt_of_cell? _ _ (hcl k x hk))).trans (hcl k x hk)) (gi_below hg hB0);generalize hw2:(w.alloc (.cells #[.slice none 0 0] 27)).alloc (.cells #[.slice a l.length cap] 27)=w2 at *
 have hgg:=fun b hb=>(hg.b b hb).1;refine wpIn_rangeFunc_dir (F:=Fence.wide) (n:=3) rfl (by omega) (gf:=118) (lb := #[.pointer (some ⟨w.heap.size+1,0,none⟩)]) rfl trivial (enters_of Tryz.func118 (by kernel_rfl) rfl)
  (K:=fun b=>b=w.heap.size+1∨(l≠[]∧b=g)∨b∈GlobB)
  (hseq (w.heap.size+1))
  (by rintro b (rfl|⟨hb,rfl⟩|hb)
      · omega
      · have:=hgl hb;omega
      · have:=hgg b hb;omega) (by omega) (fun _=>rfl)
  (fun pre W=>(∃v,Boxed W w.heap.size 27 v∧W.ownsRow (w.heap.size+2) 9 1 v pre.length (pre.map encS))∧Below w.heap.size w W)
  (fun _ _ _=>False)
  (fun s A B hs ho=>by
   obtain ⟨⟨v,h1,h2⟩,h3⟩:=hs;exact ⟨⟨v,boxed_oth h1 (by omega) ho,ownsRow_oth (by omega) h2 ho⟩,below_othR h3 (Nat.le_refl _) (by omega) (by omega) ho⟩)
  (fun _ _ _ _ hs _=>hs)
  ⟨⟨_,hbA,World.ownsRow_nil _ _ _ _⟩,hB0⟩
  (fun x=>{ tmps := #[.slice a l.length cap,undef,.slice none 0 0,.pointer (some ⟨w.heap.size,0,none⟩),.string ⟨⟨x⟩⟩,.slice a l.length cap,.func (.func 118) #[] #[.pointer (some ⟨w.heap.size+1,0,none⟩)],.string ⟨⟨x⟩⟩,undef,undef,undef,undef,undef],defers:=[] }) ?assign ?body ?done ?stop
 case assign =>
  intro l x W K hK
  gi_wp2
  exact hK
 case body =>
  rintro lp pre x W hsz hpre ⟨⟨v,hv,hrow⟩,hbel⟩;have hc:=hv.cell;have hpl:pre.length<2000000000:=by have:=hpre.length_le;simp at this;omega
  gi_wp2_with (gi_at_builtin;refine wpListIn_append_own _ rfl _ _ 27 rfl (w.heap.size+2) 9 i0 (.string ⟨#[]⟩) 1 16 Tryz.underlying27 hi hz0 hz1 hz2 rfl (by decide) _ _ _ rfl (hrow.alloc _) ⟨W.heap.size,0,none⟩ 1 1 [.string ⟨⟨x⟩⟩] rfl rfl (cell_one_new _ _ _) (by simp [Value.oneCell']) (by simp only [maxLen];omega) (by omega) (by simp;omega) ?_;intro v' w1 hown' hgrow _;obtain ⟨g',cap',rfl⟩:=ownsRow_succ hown';obtain ⟨hv1,hv2,hr2,hk2,hb2⟩:=appended2 hv (by decide) hrow (by omega) hown' hgrow;have hc1:=hv1.cell;have hf1:=hv1.frozen)
  have hkeep:∀(u:Value) b,b<w.heap.size+2→b≠w.heap.size→(w1.setCell ⟨w.heap.size,0,none⟩ u).heap[b]? = W.heap[b]? := fun u b hb hne=>(Below.heap_setCell _ _ _ b hne).trans (hb2.block b hb);refine ⟨hk2.from _,fun b hb=>hkeep _ b ?_ ?_,⟨_,hv2,by simpa [encS] using hr2⟩,below_keep hbel (by have:=hb2.size;simpa using this) hb2.os hb2.tape hb2.output fun b hb=>hkeep _ b (by omega) (by omega)⟩
  · rcases hb with rfl|⟨hb,rfl⟩|hb
    · omega
    · have:=hgl hb;omega
    · have:=hgg b hb;omega
  · rcases hb with rfl|⟨hb,rfl⟩|hb
    · omega
    · have:=hgl hb;omega
    · have:=hgg b hb;omega
 case done =>
  rintro D W hD ⟨⟨v,hv,hrow⟩,hbel⟩ hK;have hc:=hv.cell
  gi_wp2
  refine ⟨by simp,.inl ⟨_,_,rfl,run_takeDeferred hK,?_⟩⟩;have hr1:=ownsRow_putObj hrow (.deferred none) hK rfl;refine ⟨_,results_tmp rfl _ _ _,v,rfl,⟨hr1.1,?_⟩,hbel.trans (belowK_b (w:=w) (Nat.le_refl _) W D _ _ (by omega) hK rfl rfl)⟩;rcases hr1.2 with h|⟨g,cap,cur,e1,e2,e3⟩
  · exact .inl h
  · exact .inr ⟨g,cap,cur,e1,by omega,e3⟩
 case stop =>
  rintro D c pre W _ _ h _;exact h.elim
theorem row_repT2 {W:World} {m:Md} {base:Nat} {v:Value} {l:List (List UInt8)} (h:W.ownsRow base 9 1 v l.length (l.map encS)) (hm:∀b,m.a b→b<base):RepT W m (.lst .str) l [v]:=by
 rcases h.2 with ⟨rfl,h0⟩|⟨g,cap,cur,rfl,h2,h3,h4,h5,h6,h7⟩
 · have hl:l=[]:=List.eq_nil_of_length_eq_zero h0
   subst hl;exact ⟨none,0,rfl,Nat.le_refl _,by omega,fun _=>rfl,fun j x hj=>by
    have hj':([]:List (List UInt8))[j]? = some x:=hj;simp at hj'⟩
 · refine ⟨_,cap,rfl,h4,by simp only [maxLen] at h5;omega,fun e=>(by cases e),fun j x hj => ?_⟩
   change List UInt8 at x
   change l[j]? = some x at hj
   refine ⟨g,0,[.string ⟨⟨x⟩⟩],rfl,rfl,rfl,lt_of_some h3,fun hmb=>absurd (hm _ hmb) (by omega),fun i u hu => ?_⟩;have hlt:=(List.getElem?_eq_some_iff.1 hj).1
   match i with
   | i+1=>cases hu
   | 0 =>
    cases hu;have h1:(cur.toList.take (l.length*1))[j]? = some (encS x):=by rw [h7,List.getElem?_map,hj];rfl
    rw [List.getElem?_take_of_lt (by omega),Array.getElem?_toList] at h1;simp only [World.cell?,h3];show cur[0+j*1+0]? = _;rw [show 0+j*1+0=j by omega];exact h1
def C56:T56:=fun (l,_)=>bif decide (l.length≤1000000000) then (linesC l).map fun ys=>(ys++[[46]],()) else none
theorem ok56:FnOk Tryz.prog 56 (E56 C56):=by
 refine hand Tryz.func56 (by kernel_rfl) (by kernel_rfl) (fun _=>rfl) (fun _=>rfl) ?_;rintro ⟨l,u⟩ y hy w m args gi hn hlt hargs
 change List (List UInt8) at l
 obtain ⟨vs,r2,e2,e3,e4⟩:=hargs;have e4':r2=[]:=e4;have e3':RepT w m (.lst .str) l [vs]:=e3;subst e4';have ha:args = #[vs]:=by cases args;simpa using e2
 subst ha;have g0:GI w m0:=⟨gi.i,fun b hb=>⟨(gi.b b hb).1,fun h=>h⟩⟩
 have hy1:(bif decide (l.length≤1000000000) then (linesC l).map fun ys=>(ys++[[46]],()) else none)=some y:=hy;rcases cond_some hy1 with ⟨hl,hy2⟩|⟨_,hy2⟩
 case inr=>cases hy2
 have hlen:l.length≤1000000000:=of_decide_eq_true hl;obtain ⟨ys,hys,rfl⟩:=Option.map_eq_some_iff.1 hy2;obtain ⟨ao,cap,hv,k1,k2,k3,k4⟩:=e3';have hvs:vs = .slice ao l.length cap:=(List.cons.inj hv).1;subst hvs;have hcells:∃g o,(l≠[]→ao=some ⟨g,o,none⟩)∧∀(k:Nat) x,l[k]? = some x→w.cell? ⟨g,o+k,none⟩=some (.string ⟨⟨x⟩⟩):=by
  cases hl0:l with
  | nil=>exact ⟨0,0,fun h=>(h rfl).elim,fun k x h=>by simp at h⟩
  | cons z zs =>
   obtain ⟨b,o,us,q1,q2,q3,q4,q5,q6⟩:=k4 0 z (by rw [hl0];rfl);refine ⟨b,o,fun _=>q1,fun k x hk => ?_⟩;obtain ⟨b',o',us',p1,p2,p3,p4,p5,p6⟩:=k4 k x (by rw [hl0];exact hk);rw [q1] at p1;cases p1;have p2':us'=[.string ⟨⟨x⟩⟩]:=p2;subst p2';have:=p6 0 _ rfl;simpa [Ty.size] using this
 obtain ⟨g,o,ha,hcl⟩:=hcells;refine (out_walk ao g o cap l ys hys w g0 hlen ha hcl).mono fun e w' ⟨v,q1,q2,q3⟩=>⟨_,q1,q3,.ret,[.lst .str],(ys++[[46]],()),osel_one [.lst .str] (ys++[[46]],()),rfl,rfl,⟨_,[],rfl,row_repT2 q2 hlt,rfl⟩⟩
end Go.Proofs.YtgkmfhhghcccjaaGreatDoorA.W
namespace Go.Proofs.YtgkmfhhghcccjaaGreatDoorA.W
open Go Go.Ae
abbrev T11:=qb×qc×qd×qa×Bool×qa×qa×List ((Bool×(qa×qa)))×List (qa)×Bool×Bool×Bool×Int×Int×Int×Bool×qa×qa×Unit→Option (qb×qc×qd×qa×Bool×qa×qa×List (qa)×Bool×Bool×Bool×Int×Int×Int×Bool×qa×qa×Int×Bool×Int×Int×Bool×Bool×Int×Int×Bool×qa×qa×Bool×qa×qa×Bool×Bool×Int×Unit)
def E11 (f:T11):FEnt:=⟨q0b,q3v,f⟩
def K11 (f29:T29):=lk [(29,E29 f29)]
def F11 (f29:T29):T11:=fun (x0,x1,x2,x3,x4,x5,x6,x7,x8,x9,x10,x11,x12,x13,x14,x15,x16,x17,_)=>(f29 (x8,())).bind fun v=>some (x0,x1,x2,x3,x4,x5,x6,v.1,x9,x10,x11,x12,x13,x14,x15,x16,x17,0,false,0,0,false,false,0,0,false,[],[],false,[],[],false,false,0,())
def C11:T11:=F11 C29
theorem ok11:FO 11 (E11 C11):=jb q0b q3v K11 F11 C29 (kc ok29 kn) Tryz.func11
abbrev T55:=Int×Unit→Option (Bool×Unit)
def E55 (f:T55):FEnt:=⟨jt,qe,f⟩
def F55:T55:=fun (x0,_)=>bif decide (x0≥200) then some (decide (x0≤599),()) else some (false,())
def C55:T55:=F55
theorem ok55:FO 55 (E55 C55):=jx jt qe qq F55 kn Tryz.func55
abbrev T34:=Int×Unit→Option (Int×Unit)
def E34 (f:T34):FEnt:=⟨jt,qf,f⟩
def K34 (f55:T55):=lk [(55,E55 f55)]
def F34 (f55:T55):T34:=fun (x0,_)=>(f55 (x0,())).bind fun v=>bif !v.1 then some (0,()) else some (IntKind.i64.wrap (x0.tdiv 100),())
def C34:T34:=F34 C55
theorem ok34:FO 34 (E34 C34):=jb jt qf K34 F34 C55 (kc ok55 kn) Tryz.func34
abbrev T45_g0:=List (qa)×Int×Unit→Option (Int×Unit)
def E45_g0 (f:T45_g0):LEnt:=⟨zd,yu,f⟩
abbrev T45:=List (qa)×Unit→Option (Int×Unit)
def E45 (f:T45):FEnt:=⟨xk,qf,f⟩
def F45_g0:qp (List (qa)×Int×Unit) (Int×Unit):=fun (x0,x1,_)=>bif x1==(↑x0.length:Int) then some (Sum.inr (x1,())) else bif decide (0≤x1)&&decide (x1<(↑x0.length:Int)) then bif x0.getD x1.toNat []==[] then some (Sum.inr (x1,())) else some (Sum.inl (x0,IntKind.i64.wrap (x1+1),())) else none
theorem h45_g0 (v:HS zd):aev Γ qq 0 ((findLabel (subc (code Tryz.f45) [1,0]) 0).getD .skip) .nil (stof zd v) (aroundL 0 0 [] zd yu)=F45_g0 v:=by kernel_rfl
def C45_g0:T45_g0:=loopN (F45_g0) big
theorem k45_g0:FragOk Tryz.prog 0 (ScopeFrom Tryz.prog (subc (code Tryz.f45) [1,0]) 0) (E45_g0 C45_g0) :=
 frag_big (ins:=zd) (os:=yu) (C:=C45_g0) (frag_label (ins:=zd) (os:=yu) (n := .nil) (ls:=[]) (F:=F45_g0) (rest:=((findLabel (subc (code Tryz.f45) [1,0]) 0).getD .skip)) hm hΓ kn (fun _=>big) (by kernel_rfl) (ann_nil _) find_nil (h45_g0)) rfl
def N45 (f45_g0:T45_g0):Ann:=(.seq .nil (.scope .nil [(0,(E45_g0 f45_g0))]))
def F45 (f45_g0:T45_g0):T45:=fun (x0,_)=>bif 0==(↑x0.length:Int) then some (0,()) else bif decide (0<(↑x0.length:Int)) then bif x0.getD 0 []==[] then some (0,()) else (f45_g0 (x0,IntKind.i64.wrap (0+1),())).bind fun v=>some (v.1,()) else none
def C45:T45:=F45 C45_g0
theorem ok45:FO 45 (E45 C45):=jg xk qf qq N45 F45 C45_g0 kn Tryz.func45 (And.intro k45_g0 trivial)
abbrev T35_l0:=Int×List (qa)×Int×Int×qb×qc×qd×qa×Bool×qa×qa×List (qa)×Bool×Bool×Bool×Int×Int×Int×Bool×qa×qa×Int×Bool×Int×Int×Bool×Bool×Int×Int×Bool×qa×qa×Bool×qa×qa×Bool×Bool×Int×List ((Int×qa))×Unit→Option (qb×qc×qd×qa×Bool×qa×qa×List (qa)×Bool×Bool×Bool×Int×Int×Int×Bool×qa×qa×Int×Bool×Int×Int×Bool×Bool×Int×Int×Bool×qa×qa×Bool×qa×qa×Bool×Bool×Int×List ((Int×qa))×Unit)
def E35_l0 (f:T35_l0):LEnt:=⟨q0c,q3w,f⟩
abbrev T35:=qb×qc×qd×qa×Bool×qa×qa×List (qa)×Bool×Bool×Bool×Int×Int×Int×Bool×qa×qa×Int×Bool×Int×Int×Bool×Bool×Int×Int×Bool×qa×qa×Bool×qa×qa×Bool×Bool×Int×Unit→Option (List ((Int×qa))×qb×qc×qd×qa×Bool×qa×qa×List (qa)×Bool×Bool×Bool×Int×Int×Int×Bool×qa×qa×Int×Bool×Int×Int×Bool×Bool×Int×Int×Bool×qa×qa×Bool×qa×qa×Bool×Bool×Int×Unit)
def E35 (f:T35):FEnt:=⟨qx,qu,f⟩
def K35 (f45:T45) (f56:T56):=lk [(45,E45 f45),(56,E56 f56)]
theorem kok35:KOk Tryz.prog (K35 C45 C56):=(kc ok45 (kc ok56 kn))
def F35_l0 (f45:T45) (f56:T56):qp (Int×List (qa)×Int×Int×qb×qc×qd×qa×Bool×qa×qa×List (qa)×Bool×Bool×Bool×Int×Int×Int×Bool×qa×qa×Int×Bool×Int×Int×Bool×Bool×Int×Int×Bool×qa×qa×Bool×qa×qa×Bool×Bool×Int×List ((Int×qa))×Unit) (qb×qc×qd×qa×Bool×qa×qa×List (qa)×Bool×Bool×Bool×Int×Int×Int×Bool×qa×qa×Int×Bool×Int×Int×Bool×Bool×Int×Int×Bool×qa×qa×Bool×qa×qa×Bool×Bool×Int×List ((Int×qa))×Unit):=fun (x0,x1,x2,x3,x4,x5,x6,x7,x8,x9,x10,x11,x12,x13,x14,x15,x16,x17,x18,x19,x20,x21,x22,x23,x24,x25,x26,x27,x28,x29,x30,x31,x32,x33,x34,x35,x36,x37,x38,_)=>bif decide (x3<x2) then bif decide (0≤x3)&&decide (x3<(↑x1.length:Int)) then bif decide (x3<x0) then bif decide (x38.length+[(2,x1.getD x3.toNat [])].length≤140737488355328/24) then some (Sum.inl (x0,x1,x2,IntKind.i64.wrap (x3+1),x4,x5,x6,x7,x8,x9,x10,x11,x12,x13,x14,x15,x16,x17,x18,x19,x20,x21,x22,x23,x24,x25,x26,x27,x28,x29,x30,x31,x32,x33,x34,x35,x36,x37,x38++[(2,x1.getD x3.toNat [])],())) else none else bif decide (x38.length+[(3,x1.getD x3.toNat [])].length≤140737488355328/24) then some (Sum.inl (x0,x1,x2,IntKind.i64.wrap (x3+1),x4,x5,x6,x7,x8,x9,x10,x11,x12,x13,x14,x15,x16,x17,x18,x19,x20,x21,x22,x23,x24,x25,x26,x27,x28,x29,x30,x31,x32,x33,x34,x35,x36,x37,x38++[(3,x1.getD x3.toNat [])],())) else none else none else some (Sum.inr (x4,x5,x6,x7,x8,x9,x10,x11,x12,x13,x14,x15,x16,x17,x18,x19,x20,x21,x22,x23,x24,x25,x26,x27,x28,x29,x30,x31,x32,x33,x34,x35,x36,x37,x38,()))
def C35_l0:T35_l0:=loopN (F35_l0 C45 C56) big
theorem k35_l0:qg 1 (subc (code Tryz.f35) [1,1,1,0,1,0,0]) (E35_l0 C35_l0):=xj q0c q3w K35 F35_l0 C45 C56 kok35
def N35 (f35_l0:T35_l0):Ann:=(.seq .nil (.seq .nil (.seq .nil (.seq (.seq .nil (.blk (.loop (E35_l0 f35_l0)))) .nil))))
def F35 (f45:T45) (f56:T56) (f35_l0:T35_l0):T35:=fun (x0,x1,x2,x3,x4,x5,x6,x7,x8,x9,x10,x11,x12,x13,x14,x15,x16,x17,x18,x19,x20,x21,x22,x23,x24,x25,x26,x27,x28,x29,x30,x31,x32,x33,_)=>(f45 (x7,())).bind fun v=>(f56 (x7,())).bind fun v1=>(f35_l0 (v.1,v1.1,(↑(List.length v1.1):Int),0,x0,x1,x2,x3,x4,x5,x6,x7,x8,x9,x10,x11,x12,x13,x14,x15,x16,x17,x18,x19,x20,x21,x22,x23,x24,x25,x26,x27,x28,x29,x30,x31,x32,x33,[],())).bind fun v=>some (v.2.2.2.2.2.2.2.2.2.2.2.2.2.2.2.2.2.2.2.2.2.2.2.2.2.2.2.2.2.2.2.2.2.2.1,v.1,v.2.1,v.2.2.1,v.2.2.2.1,v.2.2.2.2.1,v.2.2.2.2.2.1,v.2.2.2.2.2.2.1,v.2.2.2.2.2.2.2.1,v.2.2.2.2.2.2.2.2.1,v.2.2.2.2.2.2.2.2.2.1,v.2.2.2.2.2.2.2.2.2.2.1,v.2.2.2.2.2.2.2.2.2.2.2.1,v.2.2.2.2.2.2.2.2.2.2.2.2.1,v.2.2.2.2.2.2.2.2.2.2.2.2.2.1,v.2.2.2.2.2.2.2.2.2.2.2.2.2.2.1,v.2.2.2.2.2.2.2.2.2.2.2.2.2.2.2.1,v.2.2.2.2.2.2.2.2.2.2.2.2.2.2.2.2.1,5,v.2.2.2.2.2.2.2.2.2.2.2.2.2.2.2.2.2.2.1,v.2.2.2.2.2.2.2.2.2.2.2.2.2.2.2.2.2.2.2.1,v.2.2.2.2.2.2.2.2.2.2.2.2.2.2.2.2.2.2.2.2.1,v.2.2.2.2.2.2.2.2.2.2.2.2.2.2.2.2.2.2.2.2.2.1,v.2.2.2.2.2.2.2.2.2.2.2.2.2.2.2.2.2.2.2.2.2.2.1,v.2.2.2.2.2.2.2.2.2.2.2.2.2.2.2.2.2.2.2.2.2.2.2.1,v.2.2.2.2.2.2.2.2.2.2.2.2.2.2.2.2.2.2.2.2.2.2.2.2.1,v.2.2.2.2.2.2.2.2.2.2.2.2.2.2.2.2.2.2.2.2.2.2.2.2.2.1,v.2.2.2.2.2.2.2.2.2.2.2.2.2.2.2.2.2.2.2.2.2.2.2.2.2.2.1,v.2.2.2.2.2.2.2.2.2.2.2.2.2.2.2.2.2.2.2.2.2.2.2.2.2.2.2.1,v.2.2.2.2.2.2.2.2.2.2.2.2.2.2.2.2.2.2.2.2.2.2.2.2.2.2.2.2.1,v.2.2.2.2.2.2.2.2.2.2.2.2.2.2.2.2.2.2.2.2.2.2.2.2.2.2.2.2.2.1,v.2.2.2.2.2.2.2.2.2.2.2.2.2.2.2.2.2.2.2.2.2.2.2.2.2.2.2.2.2.2.1,v.2.2.2.2.2.2.2.2.2.2.2.2.2.2.2.2.2.2.2.2.2.2.2.2.2.2.2.2.2.2.2.1,v.2.2.2.2.2.2.2.2.2.2.2.2.2.2.2.2.2.2.2.2.2.2.2.2.2.2.2.2.2.2.2.2.1,v.2.2.2.2.2.2.2.2.2.2.2.2.2.2.2.2.2.2.2.2.2.2.2.2.2.2.2.2.2.2.2.2.2.1,())
theorem h35 (f45:T45) (f56:T56) (f35_l0:T35_l0):qn (K35 f45 f56) 1 Tryz.f35 (N35 f35_l0) qx qu (F35 f45 f56 f35_l0):=fun v=>by kernel_rfl
def C35:T35:=F35 C45 C56 C35_l0
theorem ok35:FO 35 (E35 C35) :=
 qo kok35 Tryz.func35 (And.intro k35_l0 trivial) (h35 C45 C56 C35_l0)
abbrev T57:=Int×qa×qb×qc×qd×qa×Bool×qa×qa×List (qa)×Bool×Bool×Bool×Int×Int×Int×Bool×qa×qa×Int×Bool×Int×Int×Bool×Bool×Int×Int×Bool×qa×qa×Bool×qa×qa×Bool×Bool×Int×Unit→Option (List ((Int×qa))×qb×qc×qd×qa×Bool×qa×qa×List (qa)×Bool×Bool×Bool×Int×Int×Int×Bool×qa×qa×Int×Bool×Int×Int×Bool×Bool×Int×Int×Bool×qa×qa×Bool×qa×qa×Bool×Bool×Int×Unit)
def E57 (f:T57):FEnt:=⟨q0d,qu,f⟩
def F57:T57:=fun (x0,x1,x2,x3,x4,x5,x6,x7,x8,x9,x10,x11,x12,x13,x14,x15,x16,x17,x18,x19,x20,x21,x22,x23,x24,x25,x26,x27,x28,x29,x30,x31,x32,x33,x34,x35,_)=>some ([(1,x1)],x2,x3,x4,x5,x6,x7,x8,x9,x10,x11,x12,x13,x14,x15,x16,x17,x18,x0,x20,x21,x22,x23,x24,x25,x26,x27,x28,x29,x30,x31,x32,x33,x34,x35,())
theorem h57:qn qq 1 Tryz.f57 .nil q0d qu (F57):=fun v=>by kernel_rfl
def C57:T57:=F57
theorem ok57:FO 57 (E57 C57) :=
 q0 kn Tryz.func57 (h57)
abbrev T58:=Int×Int×qb×qc×qd×qa×Bool×qa×qa×List (qa)×Bool×Bool×Bool×Int×Int×Int×Bool×qa×qa×Int×Bool×Int×Int×Bool×Bool×Int×Int×Bool×qa×qa×Bool×qa×qa×Bool×Bool×Int×Unit→Option (List ((Int×qa))×qb×qc×qd×qa×Bool×qa×qa×List (qa)×Bool×Bool×Bool×Int×Int×Int×Bool×qa×qa×Int×Bool×Int×Int×Bool×Bool×Int×Int×Bool×qa×qa×Bool×qa×qa×Bool×Bool×Int×Unit)
def E58 (f:T58):FEnt:=⟨q0e,qu,f⟩
def K58 (f57:T57):=lk [(57,E57 f57)]
def F58 (f57:T57):T58:=fun (x0,x1,x2,x3,x4,x5,x6,x7,x8,x9,x10,x11,x12,x13,x14,x15,x16,x17,x18,x19,x20,x21,x22,x23,x24,x25,x26,x27,x28,x29,x30,x31,x32,x33,x34,x35,_)=>(f57 (6,[81,85,73,84],x2,x3,x4,x5,x6,x7,x8,x9,x10,x11,x12,x13,x14,x15,x16,x17,x18,x19,x20,x0,x1,x23,x24,x25,x26,x27,x28,x29,x30,x31,x32,x33,x34,x35,())).bind fun v=>some (v)
theorem h58 (f57:T57):qn (K58 f57) 1 Tryz.f58 .nil q0e qu (F58 f57):=fun v=>by kernel_rfl
def C58:T58:=F58 C57
theorem ok58:FO 58 (E58 C58) :=
 q0 (kc ok57 kn) Tryz.func58 (h58 C57)
abbrev T36_c0:=Bool×qb×qc×qd×qa×Bool×qa×qa×List (qa)×Bool×Bool×Bool×Int×Int×Int×Bool×qa×qa×Int×Bool×Int×Int×Bool×Bool×Int×Int×Bool×qa×qa×Bool×qa×qa×Bool×Bool×Int×Unit→Option ((List ((Int×qa))×qb×qc×qd×qa×Bool×qa×qa×List (qa)×Bool×Bool×Bool×Int×Int×Int×Bool×qa×qa×Int×Bool×Int×Int×Bool×Bool×Int×Int×Bool×qa×qa×Bool×qa×qa×Bool×Bool×Int×Unit)⊕(qb×qc×qd×qa×Bool×qa×qa×List (qa)×Bool×Bool×Bool×Int×Int×Int×Bool×qa×qa×Int×Bool×Int×Int×Bool×Bool×Int×Int×Bool×qa×qa×Bool×qa×qa×Bool×Bool×Int×Unit))
def E36_c0 (f:T36_c0):LEnt:=⟨q0f,q3x,f⟩
abbrev T36:=qb×qc×qd×qa×Bool×qa×qa×List (qa)×Bool×Bool×Bool×Int×Int×Int×Bool×qa×qa×Int×Bool×Int×Int×Bool×Bool×Int×Int×Bool×qa×qa×Bool×qa×qa×Bool×Bool×Int×Unit→Option (List ((Int×qa))×qb×qc×qd×qa×Bool×qa×qa×List (qa)×Bool×Bool×Bool×Int×Int×Int×Bool×qa×qa×Int×Bool×Int×Int×Bool×Bool×Int×Int×Bool×qa×qa×Bool×qa×qa×Bool×Bool×Int×Unit)
def E36 (f:T36):FEnt:=⟨qx,qu,f⟩
def K36 (f57:T57) (f58:T58):=lk [(57,E57 f57),(58,E58 f58)]
theorem kok36:KOk Tryz.prog (K36 C57 C58):=(kc ok57 (kc ok58 kn))
def F36_c0 (f57:T57) (f58:T58):T36_c0:=fun (x0,x1,x2,x3,x4,x5,x6,x7,x8,x9,x10,x11,x12,x13,x14,x15,x16,x17,x18,x19,x20,x21,x22,x23,x24,x25,x26,x27,x28,x29,x30,x31,x32,x33,x34,_)=>bif x0 then bif decide ([72,69,76,79,32].length+x4.length≤9223372036854775807) then (f57 (1,[72,69,76,79,32]++x4,x1,x2,x3,x4,x5,x6,x7,x8,x9,x10,x11,x12,x13,x14,x15,x16,x17,x18,true,x20,x21,x22,x23,x24,x25,x26,x27,x28,x29,x30,x31,x32,x33,x34,())).bind fun v=>some (Sum.inl (v)) else none else some (Sum.inr (x1,x2,x3,x4,x5,x6,x7,x8,x9,x10,x11,x12,x13,x14,x15,x16,x17,x18,x19,x20,x21,x22,x23,x24,x25,x26,x27,x28,x29,x30,x31,x32,x33,x34,()))
def C36_c0:T36_c0:=F36_c0 C57 C58
theorem k36_c0:ql 1 (subc (code Tryz.f36) [1,0,1]) (E36_c0 C36_c0):=zc2 q0f q3x K36 F36_c0 C57 C58 kok36
def N36 (f36_c0:T36_c0):Ann:=(.seq .nil (.seq (.cut .nil (E36_c0 f36_c0)) .nil))
def F36 (f57:T57) (f58:T58) (f36_c0:T36_c0):T36:=fun (x0,x1,x2,x3,x4,x5,x6,x7,x8,x9,x10,x11,x12,x13,x14,x15,x16,x17,x18,x19,x20,x21,x22,x23,x24,x25,x26,x27,x28,x29,x30,x31,x32,x33,_)=>bif x17==1 then (f36_c0 (!x18,x0,x1,x2,x3,x4,x5,x6,x7,x8,x9,x10,x11,x12,x13,x14,x15,x16,x17,x18,x19,x20,x21,x22,x23,x24,x25,x26,x27,x28,x29,x30,x31,x32,x33,())).bind fun v=>Sum.elim (fun v=>some (v)) (fun v=>(f58 (3,500,v)).bind fun v=>some (v)) v else (f36_c0 (false,x0,x1,x2,x3,x4,x5,x6,x7,x8,x9,x10,x11,x12,x13,x14,x15,x16,x17,x18,x19,x20,x21,x22,x23,x24,x25,x26,x27,x28,x29,x30,x31,x32,x33,())).bind fun v=>Sum.elim (fun v=>some (v)) (fun v=>(f58 (3,500,v)).bind fun v=>some (v)) v
theorem h36 (f57:T57) (f58:T58) (f36_c0:T36_c0):qn (K36 f57 f58) 1 Tryz.f36 (N36 f36_c0) qx qu (F36 f57 f58 f36_c0):=fun v=>by kernel_rfl
def C36:T36:=F36 C57 C58 C36_c0
theorem ok36:FO 36 (E36 C36) :=
 qo kok36 Tryz.func36 (And.intro k36_c0 trivial) (h36 C57 C58 C36_c0)
abbrev T37:=Int×List (qa)×qb×qc×qd×qa×Bool×qa×qa×List (qa)×Bool×Bool×Bool×Int×Int×Int×Bool×qa×qa×Int×Bool×Int×Int×Bool×Bool×Int×Int×Bool×qa×qa×Bool×qa×qa×Bool×Bool×Int×Unit→Option (List ((Int×qa))×qb×qc×qd×qa×Bool×qa×qa×List (qa)×Bool×Bool×Bool×Int×Int×Int×Bool×qa×qa×Int×Bool×Int×Int×Bool×Bool×Int×Int×Bool×qa×qa×Bool×qa×qa×Bool×Bool×Int×Unit)
def E37 (f:T37):FEnt:=⟨jc,qu,f⟩
def K37 (f58:T58):=lk [(58,E58 f58)]
def F37 (f58:T58):T37:=fun (x0,x1,x2,x3,x4,x5,x6,x7,x8,x9,x10,x11,x12,x13,x14,x15,x16,x17,x18,x19,x20,x21,x22,x23,x24,x25,x26,x27,x28,x29,x30,x31,x32,x33,x34,x35,_)=>(f58 (2,0,x2,x3,x4,x5,x6,x7,x8,x9,x10,x11,x12,x13,x14,x15,x16,x17,x18,x19,x20,x21,x22,x23,x24,x25,x26,x27,x28,x29,x30,x31,x32,x33,x34,x35,())).bind fun v=>some (v)
theorem h37 (f58:T58):qn (K37 f58) 1 Tryz.f37 .nil jc qu (F37 f58):=fun v=>by kernel_rfl
def C37:T37:=F37 C58
theorem ok37:FO 37 (E37 C37) :=
 q0 (kc ok58 kn) Tryz.func37 (h37 C58)
abbrev T38:=Int×List (qa)×qb×qc×qd×qa×Bool×qa×qa×List (qa)×Bool×Bool×Bool×Int×Int×Int×Bool×qa×qa×Int×Bool×Int×Int×Bool×Bool×Int×Int×Bool×qa×qa×Bool×qa×qa×Bool×Bool×Int×Unit→Option (List ((Int×qa))×qb×qc×qd×qa×Bool×qa×qa×List (qa)×Bool×Bool×Bool×Int×Int×Int×Bool×qa×qa×Int×Bool×Int×Int×Bool×Bool×Int×Int×Bool×qa×qa×Bool×qa×qa×Bool×Bool×Int×Unit)
def E38 (f:T38):FEnt:=⟨jc,qu,f⟩
def K38 (f57:T57):=lk [(57,E57 f57)]
def F38 (f57:T57):T38:=fun (x0,x1,x2,x3,x4,x5,x6,x7,x8,x9,x10,x11,x12,x13,x14,x15,x16,x17,x18,x19,x20,x21,x22,x23,x24,x25,x26,x27,x28,x29,x30,x31,x32,x33,x34,x35,_)=>bif decide ([69,72,76,79,32].length+x5.length≤9223372036854775807) then (f57 (1,[69,72,76,79,32]++x5,x2,x3,x4,x5,x6,x7,x8,x9,x10,x11,x12,x13,x14,x15,x16,x17,x18,x19,x20,x21,x22,x23,x24,x25,x26,x27,x28,x29,x30,x31,x32,x33,x34,x35,())).bind fun v=>some (v) else none
theorem h38 (f57:T57):qn (K38 f57) 1 Tryz.f38 .nil jc qu (F38 f57):=fun v=>by kernel_rfl
def C38:T38:=F38 C57
theorem ok38:FO 38 (E38 C38) :=
 q0 (kc ok57 kn) Tryz.func38 (h38 C57)
abbrev T108:=Int×Unit→Option (Int×Unit)
def E108 (f:T108):FEnt:=⟨jz,yv,f⟩
def F108:T108:=fun (x0,_)=>bif decide (x0≥65) then bif decide (x0≤90) then some (IntKind.u8.wrap (IntKind.u8.wrap (x0-65)+97),()) else some (x0,()) else some (x0,())
def C108:T108:=F108
theorem ok108:FO 108 (E108 C108):=jx jz yv qq F108 kn Tryz.func108
abbrev T107_l0:=qa×Int×Int×qa×Unit→Option (qa×Unit)
def E107_l0 (f:T107_l0):LEnt:=⟨q0h,q3z,f⟩
abbrev T107:=qa×Unit→Option (qa×Unit)
def E107 (f:T107):FEnt:=⟨q0g,q3y,f⟩
def K107 (f108:T108):=lk [(108,E108 f108)]
theorem kok107:KOk Tryz.prog (K107 C108):=(kc ok108 kn)
def F107_l0 (f108:T108):qp (qa×Int×Int×qa×Unit) (qa×Unit):=fun (x0,x1,x2,x3,_)=>bif decide (x2<x1) then bif decide (0≤x2)&&decide (x2<(↑x0.length:Int)) then (f108 ((↑(UInt8.toNat (x0.getD x2.toNat 0)):Int),())).bind fun v=>bif decide (x3.length+[UInt8.ofNat (Int.toNat v.1)].length≤140737488355328/1) then some (Sum.inl (x0,x1,IntKind.i64.wrap (x2+1),x3++[UInt8.ofNat (Int.toNat v.1)],())) else none else none else some (Sum.inr (x3,()))
def C107_l0:T107_l0:=loopN (F107_l0 C108) big
theorem k107_l0:qg 0 (subc (code Tryz.f107) [1,1,0,1,0,0]) (E107_l0 C107_l0):=zn q0h q3z K107 F107_l0 C108 kok107
def N107 (f107_l0:T107_l0):Ann:=(.seq .nil (.seq .nil (.seq (.seq .nil (.blk (.loop (E107_l0 f107_l0)))) .nil)))
def F107 (f108:T108) (f107_l0:T107_l0):T107:=fun (x0,_)=>(f107_l0 (x0,(↑x0.length:Int),0,[],())).bind fun v=>some (v.1,())
def C107:T107:=F107 C108 C107_l0
theorem ok107:FO 107 (E107 C107):=qz q0g q3y K107 N107 F107 C108 C107_l0 kok107 Tryz.func107 (And.intro k107_l0 trivial)
abbrev T69:=qa×Unit→Option (qa×Unit)
def E69 (f:T69):FEnt:=⟨qw,jk,f⟩
def K69 (f107:T107):=lk [(107,E107 f107)]
def F69 (f107:T107):T69:=fun (x0,_)=>bif decide (x0.length≤9223372036854775807) then (f107 (x0,())).bind fun v=>some (v.1,()) else none
def C69:T69:=F69 C107
theorem ok69:FO 69 (E69 C69):=jb qw jk K69 F69 C107 (kc ok107 kn) Tryz.func69
abbrev T84_l0:=List (qa)×Int×Int×List (qa)×Unit→Option (List (qa)×Unit)
def E84_l0 (f:T84_l0):LEnt:=⟨q0i,q4a,f⟩
abbrev T84:=Int×List (qa)×Unit→Option (List (qa)×Unit)
def E84 (f:T84):FEnt:=⟨yd,za,f⟩
def K84 (f69:T69) (f98:T98):=lk [(69,E69 f69),(98,E98 f98)]
theorem kok84:KOk Tryz.prog (K84 C69 C98):=(kc ok69 (kc ok98 kn))
def F84_l0 (f69:T69) (f98:T98):qp (List (qa)×Int×Int×List (qa)×Unit) (List (qa)×Unit):=fun (x0,x1,x2,x3,_)=>bif decide (x2<x1) then bif decide (0≤x2)&&decide (x2<(↑x0.length:Int)) then bif decide (x2>0) then (f98 (x0.getD x2.toNat [],[32],())).bind fun v=>(f69 (v.1,())).bind fun v=>bif decide (x3.length+[v.1].length≤140737488355328/16) then some (Sum.inl (x0,x1,IntKind.i64.wrap (x2+1),x3++[v.1],())) else none else some (Sum.inl (x0,x1,IntKind.i64.wrap (x2+1),x3,())) else none else some (Sum.inr (x3,()))
def C84_l0:T84_l0:=loopN (F84_l0 C69 C98) big
theorem k84_l0:qg 0 (subc (code Tryz.f84) [1,1,0,1,0,0]) (E84_l0 C84_l0):=xj q0i q4a K84 F84_l0 C69 C98 kok84
def N84 (f84_l0:T84_l0):Ann:=(.seq .nil (.seq .nil (.seq (.seq .nil (.blk (.loop (E84_l0 f84_l0)))) .nil)))
def F84 (f69:T69) (f98:T98) (f84_l0:T84_l0):T84:=fun (x0,x1,_)=>(f84_l0 (x1,(↑x1.length:Int),0,[],())).bind fun v=>some (v.1,())
def C84:T84:=F84 C69 C98 C84_l0
theorem ok84:FO 84 (E84 C84):=jv yd za K84 N84 F84 C69 C98 C84_l0 kok84 Tryz.func84 (And.intro k84_l0 trivial)
abbrev T86_l0:=List (qa)×qa×Int×Int×Unit→Option (Unit⊕(Int×Unit))
def E86_l0 (f:T86_l0):LEnt:=⟨q0j,jr,f⟩
abbrev T86:=List (qa)×qa×Unit→Option (Int×Unit)
def E86 (f:T86):FEnt:=⟨ye,qf,f⟩
def F86_l0:qp (List (qa)×qa×Int×Int×Unit) (Unit⊕(Int×Unit)):=fun (x0,x1,x2,x3,_)=>bif decide (x3<x2) then bif decide (0≤x3)&&decide (x3<(↑x0.length:Int)) then bif x1==x0.getD x3.toNat [] then some (Sum.inr (Sum.inr (x3,()))) else some (Sum.inl (x0,x1,x2,IntKind.i64.wrap (x3+1),())) else none else some (Sum.inr (Sum.inl ()))
def C86_l0:T86_l0:=loopN (F86_l0) big
theorem k86_l0:qg 0 (subc (code Tryz.f86) [1,0,1,0,0]) (E86_l0 C86_l0):=vm q0j jr qq F86_l0 kn
def N86 (f86_l0:T86_l0):Ann:=(.seq .nil (.seq (.seq .nil (.blk (.loop (E86_l0 f86_l0)))) .nil))
def F86 (f86_l0:T86_l0):T86:=fun (x0,x1,_)=>(f86_l0 (x0,x1,(↑x0.length:Int),0,())).bind fun v=>Sum.elim (fun v=>some (-1,())) (fun v=>some (v.1,())) v
def C86:T86:=F86 C86_l0
theorem ok86:FO 86 (E86 C86):=jg ye qf qq N86 F86 C86_l0 kn Tryz.func86 (And.intro k86_l0 trivial)
abbrev T85:=List (qa)×qa×Unit→Option (Bool×Unit)
def E85 (f:T85):FEnt:=⟨ye,qe,f⟩
def K85 (f86:T86):=lk [(86,E86 f86)]
def F85 (f86:T86):T85:=fun (x0,x1,_)=>(f86 (x0,x1,())).bind fun v=>some (decide (v.1≥0),())
def C85:T85:=F85 C86
theorem ok85:FO 85 (E85 C85):=jb ye qe K85 F85 C86 (kc ok86 kn) Tryz.func85
abbrev T190:=Int×Unit→Option (Int×Unit)
def E190 (f:T190):FEnt:=⟨jz,yv,f⟩
def F190:T190:=fun (x0,_)=>some (intBits BinOp.or IntKind.u8 x0 32,())
def C190:T190:=F190
theorem ok190:FO 190 (E190 C190):=jx jz yv qq F190 kn Tryz.func190
abbrev T191_l0:=qa×Int×Int×Bool×Unit→Option ((Int×Unit)⊕(Bool×Unit))
def E191_l0 (f:T191_l0):LEnt:=⟨yf,q4b,f⟩
abbrev T191_c0:=qa×Int×Int×Bool×Unit→Option (Bool×Unit)
def E191_c0 (f:T191_c0):LEnt:=⟨yf,yw,f⟩
abbrev T191_c1:=qa×Int×Int×Unit→Option (Bool×Unit)
def E191_c1 (f:T191_c1):LEnt:=⟨q0k,yw,f⟩
abbrev T191:=qa×Unit→Option (Bool×Unit)
def E191 (f:T191):FEnt:=⟨qw,qe,f⟩
def K191 (f190:T190):=lk [(190,E190 f190)]
theorem kok191:KOk Tryz.prog (K191 C190):=(kc ok190 kn)
def F191_l0 (f190:T190):qp (qa×Int×Int×Bool×Unit) ((Int×Unit)⊕(Bool×Unit)):=fun (x0,x1,x2,x3,_)=>bif decide (x2<(↑x0.length:Int)) then bif decide (0≤x2)&&decide (x2<(↑x0.length:Int)) then bif decide (48≤(↑(x0.getD x2.toNat 0).toNat:Int)) then bif decide (0≤x2)&&decide (x2<(↑x0.length:Int)) then bif decide ((↑(x0.getD x2.toNat 0).toNat:Int)≤57) then some (Sum.inl (x0,48,IntKind.i64.wrap (x2+1),x3,())) else bif x3 then bif decide (0≤x2)&&decide (x2<(↑x0.length:Int)) then (f190 ((↑(x0.getD x2.toNat 0).toNat:Int),())).bind fun v=>bif decide (97≤v.1) then bif decide (0≤x2)&&decide (x2<(↑x0.length:Int)) then (f190 ((↑(x0.getD x2.toNat 0).toNat:Int),())).bind fun v=>bif decide (v.1≤102) then some (Sum.inl (x0,48,IntKind.i64.wrap (x2+1),x3,())) else bif decide (0≤x2)&&decide (x2<(↑x0.length:Int)) then bif (↑(x0.getD x2.toNat 0).toNat:Int)==95 then bif x1 != 48 then some (Sum.inr (Sum.inr (false,()))) else some (Sum.inl (x0,95,IntKind.i64.wrap (x2+1),x3,())) else bif x1==95 then some (Sum.inr (Sum.inr (false,()))) else some (Sum.inl (x0,33,IntKind.i64.wrap (x2+1),x3,())) else none else none else bif decide (0≤x2)&&decide (x2<(↑x0.length:Int)) then bif (↑(x0.getD x2.toNat 0).toNat:Int)==95 then bif x1 != 48 then some (Sum.inr (Sum.inr (false,()))) else some (Sum.inl (x0,95,IntKind.i64.wrap (x2+1),x3,())) else bif x1==95 then some (Sum.inr (Sum.inr (false,()))) else some (Sum.inl (x0,33,IntKind.i64.wrap (x2+1),x3,())) else none else none else bif decide (0≤x2)&&decide (x2<(↑x0.length:Int)) then bif (↑(x0.getD x2.toNat 0).toNat:Int)==95 then bif x1 != 48 then some (Sum.inr (Sum.inr (false,()))) else some (Sum.inl (x0,95,IntKind.i64.wrap (x2+1),x3,())) else bif x1==95 then some (Sum.inr (Sum.inr (false,()))) else some (Sum.inl (x0,33,IntKind.i64.wrap (x2+1),x3,())) else none else none else bif x3 then bif decide (0≤x2)&&decide (x2<(↑x0.length:Int)) then (f190 ((↑(x0.getD x2.toNat 0).toNat:Int),())).bind fun v=>bif decide (97≤v.1) then bif decide (0≤x2)&&decide (x2<(↑x0.length:Int)) then (f190 ((↑(x0.getD x2.toNat 0).toNat:Int),())).bind fun v=>bif decide (v.1≤102) then some (Sum.inl (x0,48,IntKind.i64.wrap (x2+1),x3,())) else bif decide (0≤x2)&&decide (x2<(↑x0.length:Int)) then bif (↑(x0.getD x2.toNat 0).toNat:Int)==95 then bif x1 != 48 then some (Sum.inr (Sum.inr (false,()))) else some (Sum.inl (x0,95,IntKind.i64.wrap (x2+1),x3,())) else bif x1==95 then some (Sum.inr (Sum.inr (false,()))) else some (Sum.inl (x0,33,IntKind.i64.wrap (x2+1),x3,())) else none else none else bif decide (0≤x2)&&decide (x2<(↑x0.length:Int)) then bif (↑(x0.getD x2.toNat 0).toNat:Int)==95 then bif x1 != 48 then some (Sum.inr (Sum.inr (false,()))) else some (Sum.inl (x0,95,IntKind.i64.wrap (x2+1),x3,())) else bif x1==95 then some (Sum.inr (Sum.inr (false,()))) else some (Sum.inl (x0,33,IntKind.i64.wrap (x2+1),x3,())) else none else none else bif decide (0≤x2)&&decide (x2<(↑x0.length:Int)) then bif (↑(x0.getD x2.toNat 0).toNat:Int)==95 then bif x1 != 48 then some (Sum.inr (Sum.inr (false,()))) else some (Sum.inl (x0,95,IntKind.i64.wrap (x2+1),x3,())) else bif x1==95 then some (Sum.inr (Sum.inr (false,()))) else some (Sum.inl (x0,33,IntKind.i64.wrap (x2+1),x3,())) else none else none else some (Sum.inr (Sum.inl (x1,())))
def C191_l0:T191_l0:=loopN (F191_l0 C190) big
theorem k191_l0:qg 0 (subc (code Tryz.f191) [1,1,1,1,1,1,0,0,0]) (E191_l0 C191_l0):=zn yf q4b K191 F191_l0 C190 kok191
def N191_c0 (f191_l0:T191_l0):Ann:=(.seq (.blk (.loop (E191_l0 f191_l0))) .nil)
def F191_c0 (f190:T190) (f191_l0:T191_l0):T191_c0:=fun (x0,x1,x2,x3,_)=>(f191_l0 (x0,x1,x2,x3,())).bind fun v=>Sum.elim (fun v=>some (bif v.1==95 then false else true,())) (fun v=>some (v.1,())) v
theorem h191_c0 (f190:T190) (f191_l0:T191_l0):jd (K191 f190) 0 (subc (code Tryz.f191) [1,1,1,1,1,1]) (N191_c0 f191_l0) yf yw (F191_c0 f190 f191_l0):=fun v=>by kernel_rfl
def C191_c0:T191_c0:=F191_c0 C190 C191_l0
theorem k191_c0:ql 0 (subc (code Tryz.f191) [1,1,1,1,1,1]) (E191_c0 C191_c0) :=
 zj kok191 (And.intro k191_l0 trivial) (h191_c0 C190 C191_l0)
def N191_c1 (f191_c0:T191_c0):Ann:=(.seq .nil (.cut .nil (E191_c0 f191_c0)))
def F191_c1 (f190:T190) (f191_c0:T191_c0):T191_c1:=fun (x0,x1,x2,_)=>bif decide ((↑x0.length:Int)≥2) then bif decide (0<(↑x0.length:Int)) then bif (↑(x0.getD 0 0).toNat:Int)==48 then bif decide (1<(↑x0.length:Int)) then (f190 ((↑(x0.getD 1 0).toNat:Int),())).bind fun v=>bif v.1==98 then bif decide (1<(↑x0.length:Int)) then (f190 ((↑(x0.getD 1 0).toNat:Int),())).bind fun v=>(f191_c0 (x0,48,2,v.1==120,())).bind fun v=>some (v.1,()) else none else bif decide (1<(↑x0.length:Int)) then (f190 ((↑(x0.getD 1 0).toNat:Int),())).bind fun v=>bif v.1==111 then bif decide (1<(↑x0.length:Int)) then (f190 ((↑(x0.getD 1 0).toNat:Int),())).bind fun v=>(f191_c0 (x0,48,2,v.1==120,())).bind fun v=>some (v.1,()) else none else bif decide (1<(↑x0.length:Int)) then (f190 ((↑(x0.getD 1 0).toNat:Int),())).bind fun v=>bif v.1==120 then bif decide (1<(↑x0.length:Int)) then (f190 ((↑(x0.getD 1 0).toNat:Int),())).bind fun v=>(f191_c0 (x0,48,2,v.1==120,())).bind fun v=>some (v.1,()) else none else (f191_c0 (x0,x1,x2,false,())).bind fun v=>some (v.1,()) else none else none else none else (f191_c0 (x0,x1,x2,false,())).bind fun v=>some (v.1,()) else none else (f191_c0 (x0,x1,x2,false,())).bind fun v=>some (v.1,())
theorem h191_c1 (f190:T190) (f191_c0:T191_c0):jd (K191 f190) 0 (subc (code Tryz.f191) [1,1,1,1]) (N191_c1 f191_c0) q0k yw (F191_c1 f190 f191_c0):=fun v=>by kernel_rfl
def C191_c1:T191_c1:=F191_c1 C190 C191_c0
theorem k191_c1:ql 0 (subc (code Tryz.f191) [1,1,1,1]) (E191_c1 C191_c1) :=
 zj kok191 (And.intro k191_c0 trivial) (h191_c1 C190 C191_c0)
def N191 (f191_c1:T191_c1):Ann:=(.seq .nil (.seq .nil (.seq .nil (.cut .nil (E191_c1 f191_c1)))))
def F191 (f190:T190) (f191_c1:T191_c1):T191:=fun (x0,_)=>bif decide ((↑x0.length:Int)≥1) then bif decide (0<(↑x0.length:Int)) then bif (↑(x0.getD 0 0).toNat:Int)==45 then bif decide (1≤(↑x0.length:Int)) then (f191_c1 (List.drop 1 x0,94,0,())).bind fun v=>some (v.1,()) else none else bif decide (0<(↑x0.length:Int)) then bif (↑(x0.getD 0 0).toNat:Int)==43 then bif decide (1≤(↑x0.length:Int)) then (f191_c1 (List.drop 1 x0,94,0,())).bind fun v=>some (v.1,()) else none else (f191_c1 (x0,94,0,())).bind fun v=>some (v.1,()) else none else none else (f191_c1 (x0,94,0,())).bind fun v=>some (v.1,())
def C191:T191:=F191 C190 C191_c1
theorem ok191:FO 191 (E191 C191):=qz qw qe K191 N191 F191 C190 C191_c1 kok191 Tryz.func191 (And.intro k191_c1 trivial)
abbrev T155_c0:=qa×Int×Bool×qa×Bool×Unit→Option (qa×Int×Int×Bool×qa×Unit)
def E155_c0 (f:T155_c0):LEnt:=⟨q0l,zg,f⟩
abbrev T155_c1:=qa×Int×Bool×qa×Bool×Unit→Option (qa×Int×Int×Bool×qa×Unit)
def E155_c1 (f:T155_c1):LEnt:=⟨q0m,zg,f⟩
abbrev T155_c2:=qa×Int×Bool×qa×Bool×Unit→Option (qa×Int×Int×Bool×qa×Unit)
def E155_c2 (f:T155_c2):LEnt:=⟨q0n,zg,f⟩
abbrev T155_c3:=qa×Int×Int×Bool×qa×Bool×Unit→Option ((qa×Int×Int×Bool×qa×Unit)⊕(Int×Int×Unit))
def E155_c3 (f:T155_c3):LEnt:=⟨q0o,q4d,f⟩
abbrev T155_c4:=Int×Bool×qa×Int×Int×Bool×Int×Int×qa×Int×Int×Bool×Unit→Option ((Int×Bool×qa×Int×Int×Bool×Int×Int×qa×Int×Int×Unit)⊕(Int×Int×Unit))
def E155_c4 (f:T155_c4):LEnt:=⟨q0p,yx,f⟩
abbrev T155_c5:=Int×Bool×qa×Int×Int×Bool×Int×Int×qa×Int×Int×Bool×Unit→Option ((Int×Bool×qa×Int×Int×Bool×Int×Int×qa×Int×Int×Unit)⊕(Int×Int×Unit))
def E155_c5 (f:T155_c5):LEnt:=⟨q0q,yx,f⟩
abbrev T155_c6:=Int×Bool×qa×Int×Int×Bool×Int×Int×qa×Int×Int×Bool×Unit→Option ((Int×Bool×qa×Int×Int×Bool×Int×qa×Int×Int×Unit)⊕(Int×Bool×qa×Int×Int×Bool×Int×Int×qa×Int×Int×Unit)⊕(Int×Int×Unit))
def E155_c6 (f:T155_c6):LEnt:=⟨q0r,q4e,f⟩
abbrev T155_l0:=Int×Bool×qa×Int×Int×Bool×Int×qa×Int×Int×Unit→Option ((qa×Bool×Int×Unit)⊕(Int×Int×Unit))
def E155_l0 (f:T155_l0):LEnt:=⟨q0s,q4f,f⟩
abbrev T155_c7:=qa×Int×Int×Bool×qa×Int×Unit→Option ((Int×Int×Unit)⊕(Int×Unit))
def E155_c7 (f:T155_c7):LEnt:=⟨q0t,yy,f⟩
abbrev T155_c8:=qa×Int×Int×Bool×qa×Unit→Option ((Int×Int×Unit)⊕(Int×Unit))
def E155_c8 (f:T155_c8):LEnt:=⟨q0u,yy,f⟩
abbrev T155:=qa×Int×Int×Unit→Option ((Int×Int×Unit)⊕(Int×Unit))
def E155 (f:T155):FEnt:=⟨yg,q4c,f⟩
def K155 (f190:T190) (f191:T191):=lk [(190,E190 f190),(191,E191 f191)]
theorem kok155:KOk Tryz.prog (K155 C190 C191):=(kc ok190 (kc ok191 kn))
def F155_c0 (f190:T190) (f191:T191):T155_c0:=fun (x0,x1,x2,x3,x4,_)=>bif x4 then bif decide (2≤(↑x0.length:Int)) then some (List.drop 2 x0,16,x1,x2,x3,()) else none else bif decide (1≤(↑x0.length:Int)) then some (List.drop 1 x0,8,x1,x2,x3,()) else none
def C155_c0:T155_c0:=F155_c0 C190 C191
theorem k155_c0:ql 0 (subc (code Tryz.f155) [1,1,1,1,0,0,1,1,1,0,1,1,0,0,1,1,1,1,1]) (E155_c0 C155_c0):=zc2 q0l zg K155 F155_c0 C190 C191 kok155
def N155_c1 (f155_c0:T155_c0):Ann:=(.cond .nil (.cut .nil (E155_c0 f155_c0)))
def F155_c1 (f190:T190) (f191:T191) (f155_c0:T155_c0):T155_c1:=fun (x0,x1,x2,x3,x4,_)=>bif x4 then bif decide (2≤(↑x0.length:Int)) then some (List.drop 2 x0,8,x1,x2,x3,()) else none else bif decide ((↑x0.length:Int)≥3) then bif decide (1<(↑x0.length:Int)) then (f190 ((↑(x0.getD 1 0).toNat:Int),())).bind fun v=>(f155_c0 (x0,x1,x2,x3,v.1==120,())).bind fun v=>some (v.1,v.2.1,v.2.2.1,v.2.2.2.1,v.2.2.2.2.1,()) else none else (f155_c0 (x0,x1,x2,x3,false,())).bind fun v=>some (v.1,v.2.1,v.2.2.1,v.2.2.2.1,v.2.2.2.2.1,())
def C155_c1:T155_c1:=F155_c1 C190 C191 C155_c0
theorem k155_c1:ql 0 (subc (code Tryz.f155) [1,1,1,1,0,0,1,1,1,0,1,1,0,0,1,1,1]) (E155_c1 C155_c1):=js q0m zg K155 N155_c1 F155_c1 C190 C191 C155_c0 kok155 (And.intro k155_c0 trivial)
def N155_c2 (f155_c1:T155_c1):Ann:=(.cond .nil (.cut .nil (E155_c1 f155_c1)))
def F155_c2 (f190:T190) (f191:T191) (f155_c1:T155_c1):T155_c2:=fun (x0,x1,x2,x3,x4,_)=>bif x4 then bif decide (2≤(↑x0.length:Int)) then some (List.drop 2 x0,2,x1,x2,x3,()) else none else bif decide ((↑x0.length:Int)≥3) then bif decide (1<(↑x0.length:Int)) then (f190 ((↑(x0.getD 1 0).toNat:Int),())).bind fun v=>(f155_c1 (x0,x1,x2,x3,v.1==111,())).bind fun v=>some (v.1,v.2.1,v.2.2.1,v.2.2.2.1,v.2.2.2.2.1,()) else none else (f155_c1 (x0,x1,x2,x3,false,())).bind fun v=>some (v.1,v.2.1,v.2.2.1,v.2.2.2.1,v.2.2.2.2.1,())
def C155_c2:T155_c2:=F155_c2 C190 C191 C155_c1
theorem k155_c2:ql 0 (subc (code Tryz.f155) [1,1,1,1,0,0,1,1,1,0,1,1,0,0,1]) (E155_c2 C155_c2):=js q0n zg K155 N155_c2 F155_c2 C190 C191 C155_c1 kok155 (And.intro k155_c1 trivial)
def N155_c3 (f155_c2:T155_c2):Ann:=(.cond .nil (.seq .nil (.cond (.seq .nil (.seq .nil (.cond (.blk (.cut .nil (E155_c2 f155_c2))) .nil))) .nil)))
def F155_c3 (f190:T190) (f191:T191) (f155_c2:T155_c2):T155_c3:=fun (x0,x1,x2,x3,x4,x5,_)=>bif x5 then some (Sum.inl (x0,x1,x2,x3,x4,())) else bif x1==0 then bif decide (0<(↑x0.length:Int)) then bif (↑(x0.getD 0 0).toNat:Int)==48 then bif decide ((↑x0.length:Int)≥3) then bif decide (1<(↑x0.length:Int)) then (f190 ((↑(x0.getD 1 0).toNat:Int),())).bind fun v=>(f155_c2 (x0,x2,x3,x4,v.1==98,())).bind fun v=>some (Sum.inl (v.1,v.2.1,v.2.2.1,v.2.2.2.1,v.2.2.2.2.1,())) else none else (f155_c2 (x0,x2,x3,x4,false,())).bind fun v=>some (Sum.inl (v.1,v.2.1,v.2.2.1,v.2.2.2.1,v.2.2.2.2.1,())) else some (Sum.inl (x0,10,x2,x3,x4,())) else none else some (Sum.inr (0,3,()))
def C155_c3:T155_c3:=F155_c3 C190 C191 C155_c2
theorem k155_c3:ql 0 (subc (code Tryz.f155) [1,1,1,1,0,0,1]) (E155_c3 C155_c3):=js q0o q4d K155 N155_c3 F155_c3 C190 C191 C155_c2 kok155 (And.intro k155_c2 trivial)
def F155_c4 (f190:T190) (f191:T191):T155_c4:=fun (x0,x1,x2,x3,x4,x5,x6,x7,x8,x9,x10,x11,_)=>bif x11 then (f190 (x7,())).bind fun v=>some (Sum.inl (x0,x1,x2,x3,x4,x5,x6,IntKind.u8.wrap (IntKind.u8.wrap (v.1-97)+10),x8,x9,x10,())) else some (Sum.inr (0,2,()))
def C155_c4:T155_c4:=F155_c4 C190 C191
theorem k155_c4:ql 0 (subc (code Tryz.f155) [1,1,1,1,1,1,1,1,1,1,1,0,1,0,0,1,1,0,0,1,1,0,0,1,1,1,1,1]) (E155_c4 C155_c4):=zc2 q0p yx K155 F155_c4 C190 C191 kok155
def N155_c5 (f155_c4:T155_c4):Ann:=(.cond .nil (.cut .nil (E155_c4 f155_c4)))
def F155_c5 (f190:T190) (f191:T191) (f155_c4:T155_c4):T155_c5:=fun (x0,x1,x2,x3,x4,x5,x6,x7,x8,x9,x10,x11,_)=>bif x11 then some (Sum.inl (x0,x1,x2,x3,x4,x5,x6,IntKind.u8.wrap (x7-48),x8,x9,x10,())) else (f190 (x7,())).bind fun v=>bif decide (97≤v.1) then (f190 (x7,())).bind fun v=>(f155_c4 (x0,x1,x2,x3,x4,x5,x6,x7,x8,x9,x10,decide (v.1≤122),())).bind fun v=>Sum.elim (fun v=>some (Sum.inl (v.1,v.2.1,v.2.2.1,v.2.2.2.1,v.2.2.2.2.1,v.2.2.2.2.2.1,v.2.2.2.2.2.2.1,v.2.2.2.2.2.2.2.1,v.2.2.2.2.2.2.2.2.1,v.2.2.2.2.2.2.2.2.2.1,v.2.2.2.2.2.2.2.2.2.2.1,()))) (fun v=>some (Sum.inr (v.1,v.2.1,()))) v else (f155_c4 (x0,x1,x2,x3,x4,x5,x6,x7,x8,x9,x10,false,())).bind fun v=>Sum.elim (fun v=>some (Sum.inl (v.1,v.2.1,v.2.2.1,v.2.2.2.1,v.2.2.2.2.1,v.2.2.2.2.2.1,v.2.2.2.2.2.2.1,v.2.2.2.2.2.2.2.1,v.2.2.2.2.2.2.2.2.1,v.2.2.2.2.2.2.2.2.2.1,v.2.2.2.2.2.2.2.2.2.2.1,()))) (fun v=>some (Sum.inr (v.1,v.2.1,()))) v
def C155_c5:T155_c5:=F155_c5 C190 C191 C155_c4
theorem k155_c5:ql 0 (subc (code Tryz.f155) [1,1,1,1,1,1,1,1,1,1,1,0,1,0,0,1,1,0,0,1,1,0,0,1,1,1]) (E155_c5 C155_c5):=js q0q yx K155 N155_c5 F155_c5 C190 C191 C155_c4 kok155 (And.intro k155_c4 trivial)
def N155_c6 (f155_c5:T155_c5):Ann:=(.cond .nil (.cut .nil (E155_c5 f155_c5)))
def F155_c6 (f190:T190) (f191:T191) (f155_c5:T155_c5):T155_c6:=fun (x0,x1,x2,x3,x4,x5,x6,x7,x8,x9,x10,x11,_)=>bif x11 then some (Sum.inl (x0,x1,x2,x3,x4,true,x6,x8,x9,x10,())) else bif decide (48≤x7) then (f155_c5 (x0,x1,x2,x3,x4,x5,x6,x7,x8,x9,x10,decide (x7≤57),())).bind fun v=>Sum.elim (fun v=>some (Sum.inr (Sum.inl (v.1,v.2.1,v.2.2.1,v.2.2.2.1,v.2.2.2.2.1,v.2.2.2.2.2.1,v.2.2.2.2.2.2.1,v.2.2.2.2.2.2.2.1,v.2.2.2.2.2.2.2.2.1,v.2.2.2.2.2.2.2.2.2.1,v.2.2.2.2.2.2.2.2.2.2.1,())))) (fun v=>some (Sum.inr (Sum.inr (v.1,v.2.1,())))) v else (f155_c5 (x0,x1,x2,x3,x4,x5,x6,x7,x8,x9,x10,false,())).bind fun v=>Sum.elim (fun v=>some (Sum.inr (Sum.inl (v.1,v.2.1,v.2.2.1,v.2.2.2.1,v.2.2.2.2.1,v.2.2.2.2.2.1,v.2.2.2.2.2.2.1,v.2.2.2.2.2.2.2.1,v.2.2.2.2.2.2.2.2.1,v.2.2.2.2.2.2.2.2.2.1,v.2.2.2.2.2.2.2.2.2.2.1,())))) (fun v=>some (Sum.inr (Sum.inr (v.1,v.2.1,())))) v
def C155_c6:T155_c6:=F155_c6 C190 C191 C155_c5
theorem k155_c6:ql 0 (subc (code Tryz.f155) [1,1,1,1,1,1,1,1,1,1,1,0,1,0,0,1,1,0,0,1,1,0,0,1]) (E155_c6 C155_c6):=js q0r q4e K155 N155_c6 F155_c6 C190 C191 C155_c5 kok155 (And.intro k155_c5 trivial)
def N155_l0 (f155_c6:T155_c6):Ann:=(.seq .nil (.seq .nil (.seq (.blk (.seq .nil (.seq .nil (.seq (.blk (.cut .nil (E155_c6 f155_c6))) .nil)))) .nil)))
def F155_l0 (f190:T190) (f191:T191) (f155_c6:T155_c6):qp (Int×Bool×qa×Int×Int×Bool×Int×qa×Int×Int×Unit) ((qa×Bool×Int×Unit)⊕(Int×Int×Unit)):=fun (x0,x1,x2,x3,x4,x5,x6,x7,x8,x9,_)=>bif decide (x9<x8) then bif decide (0≤x9)&&decide (x9<(↑x7.length:Int)) then bif (↑(UInt8.toNat (x7.getD x9.toNat 0)):Int)==95 then (f155_c6 (x0,x1,x2,x3,x4,x5,x6,(↑(UInt8.toNat (x7.getD x9.toNat 0)):Int),x7,x8,x9,x1,())).bind fun v=>Sum.elim (fun v=>some (Sum.inl (v.1,v.2.1,v.2.2.1,v.2.2.2.1,v.2.2.2.2.1,v.2.2.2.2.2.1,v.2.2.2.2.2.2.1,v.2.2.2.2.2.2.2.1,v.2.2.2.2.2.2.2.2.1,IntKind.i64.wrap (v.2.2.2.2.2.2.2.2.2.1+1),()))) (fun v=>Sum.elim (fun v=>bif decide (v.2.2.2.2.2.2.2.1≥IntKind.u8.wrap v.1) then some (Sum.inr (Sum.inr (0,2,()))) else bif decide (v.2.2.2.2.2.2.1≥v.2.2.2.1) then some (Sum.inr (Sum.inr (v.2.2.2.2.1,1,()))) else bif decide (IntKind.u64.wrap (IntKind.u64.wrap (v.2.2.2.2.2.2.1*IntKind.u64.wrap v.1)+IntKind.u64.wrap v.2.2.2.2.2.2.2.1)<IntKind.u64.wrap (v.2.2.2.2.2.2.1*IntKind.u64.wrap v.1)) then some (Sum.inr (Sum.inr (v.2.2.2.2.1,1,()))) else bif decide (IntKind.u64.wrap (IntKind.u64.wrap (v.2.2.2.2.2.2.1*IntKind.u64.wrap v.1)+IntKind.u64.wrap v.2.2.2.2.2.2.2.1)>v.2.2.2.2.1) then some (Sum.inr (Sum.inr (v.2.2.2.2.1,1,()))) else some (Sum.inl (v.1,v.2.1,v.2.2.1,v.2.2.2.1,v.2.2.2.2.1,v.2.2.2.2.2.1,IntKind.u64.wrap (IntKind.u64.wrap (v.2.2.2.2.2.2.1*IntKind.u64.wrap v.1)+IntKind.u64.wrap v.2.2.2.2.2.2.2.1),v.2.2.2.2.2.2.2.2.1,v.2.2.2.2.2.2.2.2.2.1,IntKind.i64.wrap (v.2.2.2.2.2.2.2.2.2.2.1+1),()))) (fun v=>some (Sum.inr (Sum.inr (v.1,v.2.1,())))) v) v else (f155_c6 (x0,x1,x2,x3,x4,x5,x6,(↑(UInt8.toNat (x7.getD x9.toNat 0)):Int),x7,x8,x9,false,())).bind fun v=>Sum.elim (fun v=>some (Sum.inl (v.1,v.2.1,v.2.2.1,v.2.2.2.1,v.2.2.2.2.1,v.2.2.2.2.2.1,v.2.2.2.2.2.2.1,v.2.2.2.2.2.2.2.1,v.2.2.2.2.2.2.2.2.1,IntKind.i64.wrap (v.2.2.2.2.2.2.2.2.2.1+1),()))) (fun v=>Sum.elim (fun v=>bif decide (v.2.2.2.2.2.2.2.1≥IntKind.u8.wrap v.1) then some (Sum.inr (Sum.inr (0,2,()))) else bif decide (v.2.2.2.2.2.2.1≥v.2.2.2.1) then some (Sum.inr (Sum.inr (v.2.2.2.2.1,1,()))) else bif decide (IntKind.u64.wrap (IntKind.u64.wrap (v.2.2.2.2.2.2.1*IntKind.u64.wrap v.1)+IntKind.u64.wrap v.2.2.2.2.2.2.2.1)<IntKind.u64.wrap (v.2.2.2.2.2.2.1*IntKind.u64.wrap v.1)) then some (Sum.inr (Sum.inr (v.2.2.2.2.1,1,()))) else bif decide (IntKind.u64.wrap (IntKind.u64.wrap (v.2.2.2.2.2.2.1*IntKind.u64.wrap v.1)+IntKind.u64.wrap v.2.2.2.2.2.2.2.1)>v.2.2.2.2.1) then some (Sum.inr (Sum.inr (v.2.2.2.2.1,1,()))) else some (Sum.inl (v.1,v.2.1,v.2.2.1,v.2.2.2.1,v.2.2.2.2.1,v.2.2.2.2.2.1,IntKind.u64.wrap (IntKind.u64.wrap (v.2.2.2.2.2.2.1*IntKind.u64.wrap v.1)+IntKind.u64.wrap v.2.2.2.2.2.2.2.1),v.2.2.2.2.2.2.2.2.1,v.2.2.2.2.2.2.2.2.2.1,IntKind.i64.wrap (v.2.2.2.2.2.2.2.2.2.2.1+1),()))) (fun v=>some (Sum.inr (Sum.inr (v.1,v.2.1,())))) v) v else none else some (Sum.inr (Sum.inl (x2,x5,x6,())))
theorem h155_l0 (f190:T190) (f191:T191) (f155_c6:T155_c6):jp (K155 f190 f191) 0 (subc (code Tryz.f155) [1,1,1,1,1,1,1,1,1,1,1,0,1,0,0]) (N155_l0 f155_c6) q0s q4f (F155_l0 f190 f191 f155_c6):=fun v=>by kernel_rfl
def C155_l0:T155_l0:=loopN (F155_l0 C190 C191 C155_c6) big
theorem k155_l0:qg 0 (subc (code Tryz.f155) [1,1,1,1,1,1,1,1,1,1,1,0,1,0,0]) (E155_l0 C155_l0) :=
 xi kok155 (And.intro k155_c6 trivial) (h155_l0 C190 C191 C155_c6)
def N155_c7 (f155_l0:T155_l0):Ann:=(.seq .nil (.seq .nil (.seq .nil (.seq (.seq .nil (.blk (.loop (E155_l0 f155_l0)))) .nil))))
def F155_c7 (f190:T190) (f191:T191) (f155_l0:T155_l0):T155_c7:=fun (x0,x1,x2,x3,x4,x5,_)=>bif decide (0≤IntKind.u64.wrap x2) then bif decide (x0.length≤9223372036854775807) then (f155_l0 (x1,x3,x4,x5,IntKind.u64.wrap (IntKind.u64.wrap (1*2^min (IntKind.u64.wrap x2).toNat IntKind.u64.bits)-1),false,0,x0,(↑x0.length:Int),0,())).bind fun v=>Sum.elim (fun v=>bif v.2.1 then (f191 (v.1,())).bind fun v1=>bif !v1.1 then some (Sum.inl (0,2,())) else some (Sum.inr (v.2.2.1,())) else some (Sum.inr (v.2.2.1,()))) (fun v=>some (Sum.inl (v.1,v.2.1,()))) v else none else none
def C155_c7:T155_c7:=F155_c7 C190 C191 C155_l0
theorem k155_c7:ql 0 (subc (code Tryz.f155) [1,1,1,1,1,1,1,1]) (E155_c7 C155_c7):=js q0t yy K155 N155_c7 F155_c7 C190 C191 C155_l0 kok155 (And.intro k155_l0 trivial)
def N155_c8 (f155_c7:T155_c7):Ann:=(.seq .nil (.cut .nil (E155_c7 f155_c7)))
def F155_c8 (f190:T190) (f191:T191) (f155_c7:T155_c7):T155_c8:=fun (x0,x1,x2,x3,x4,_)=>bif x1==10 then (f155_c7 (x0,x1,x2,x3,x4,1844674407370955162,())).bind fun v=>Sum.elim (fun v=>some (Sum.inl (v.1,v.2.1,()))) (fun v=>some (Sum.inr (v.1,()))) v else bif x1==16 then (f155_c7 (x0,x1,x2,x3,x4,1152921504606846976,())).bind fun v=>Sum.elim (fun v=>some (Sum.inl (v.1,v.2.1,()))) (fun v=>some (Sum.inr (v.1,()))) v else bif IntKind.u64.wrap x1 != 0 then (f155_c7 (x0,x1,x2,x3,x4,IntKind.u64.wrap (IntKind.u64.wrap (Int.tdiv 18446744073709551615 (IntKind.u64.wrap x1))+1),())).bind fun v=>Sum.elim (fun v=>some (Sum.inl (v.1,v.2.1,()))) (fun v=>some (Sum.inr (v.1,()))) v else none
def C155_c8:T155_c8:=F155_c8 C190 C191 C155_c7
theorem k155_c8:ql 0 (subc (code Tryz.f155) [1,1,1,1,1,1]) (E155_c8 C155_c8):=js q0u yy K155 N155_c8 F155_c8 C190 C191 C155_c7 kok155 (And.intro k155_c7 trivial)
def N155 (f155_c3:T155_c3) (f155_c8:T155_c8):Ann:=(.seq .nil (.seq .nil (.seq .nil (.seq .nil (.seq (.blk (.cut .nil (E155_c3 f155_c3))) (.cut .nil (E155_c8 f155_c8)))))))
def F155 (f190:T190) (f191:T191) (f155_c3:T155_c3) (f155_c8:T155_c8):T155:=fun (x0,x1,x2,_)=>bif x0==[] then some (Sum.inl (0,2,())) else bif decide (2≤x1) then (f155_c3 (x0,x1,x2,x1==0,x0,decide (x1≤36),())).bind fun v=>Sum.elim (fun v=>bif v.2.2.1==0 then (f155_c8 (v.1,v.2.1,64,v.2.2.2.1,v.2.2.2.2.1,())).bind fun v=>Sum.elim (fun v=>some (Sum.inl (v.1,v.2.1,()))) (fun v=>some (Sum.inr (v.1,()))) v else bif decide (v.2.2.1<0) then some (Sum.inl (0,4,())) else bif decide (v.2.2.1>64) then some (Sum.inl (0,4,())) else (f155_c8 (v.1,v.2.1,v.2.2.1,v.2.2.2.1,v.2.2.2.2.1,())).bind fun v=>Sum.elim (fun v=>some (Sum.inl (v.1,v.2.1,()))) (fun v=>some (Sum.inr (v.1,()))) v) (fun v=>some (Sum.inl (v.1,v.2.1,()))) v else (f155_c3 (x0,x1,x2,x1==0,x0,false,())).bind fun v=>Sum.elim (fun v=>bif v.2.2.1==0 then (f155_c8 (v.1,v.2.1,64,v.2.2.2.1,v.2.2.2.2.1,())).bind fun v=>Sum.elim (fun v=>some (Sum.inl (v.1,v.2.1,()))) (fun v=>some (Sum.inr (v.1,()))) v else bif decide (v.2.2.1<0) then some (Sum.inl (0,4,())) else bif decide (v.2.2.1>64) then some (Sum.inl (0,4,())) else (f155_c8 (v.1,v.2.1,v.2.2.1,v.2.2.2.1,v.2.2.2.2.1,())).bind fun v=>Sum.elim (fun v=>some (Sum.inl (v.1,v.2.1,()))) (fun v=>some (Sum.inr (v.1,()))) v) (fun v=>some (Sum.inl (v.1,v.2.1,()))) v
theorem h155 (f190:T190) (f191:T191) (f155_c3:T155_c3) (f155_c8:T155_c8):qn (K155 f190 f191) 0 Tryz.f155 (N155 f155_c3 f155_c8) yg q4c (F155 f190 f191 f155_c3 f155_c8):=fun v=>by kernel_rfl
def C155:T155:=F155 C190 C191 C155_c3 C155_c8
theorem ok155:FO 155 (E155 C155) :=
 qo kok155 Tryz.func155 (And.intro k155_c3 (And.intro k155_c8 trivial)) (h155 C190 C191 C155_c3 C155_c8)
abbrev T119:=qa×Int×Int×Unit→Option ((Int×Unit)⊕(Int×Unit))
def E119 (f:T119):FEnt:=⟨yg,q4g,f⟩
def K119 (f155:T155) (f156:T156):=lk [(155,E155 f155),(156,E156 f156)]
def F119 (f155:T155) (f156:T156):T119:=fun (x0,x1,x2,_)=>(f155 (x0,x1,x2,())).bind fun v=>Sum.elim (fun v=>(f156 ([80,97,114,115,101,85,105,110,116],x0,x1,x2,v.2.1,())).bind fun v1=>some (Sum.inl (v.1,()))) (fun v=>some (Sum.inr (v.1,()))) v
def C119:T119:=F119 C155 C156
theorem ok119:FO 119 (E119 C119):=xe yg q4g K119 F119 C155 C156 (kc ok155 (kc ok156 kn)) Tryz.func119
abbrev T87:=qa×Unit→Option (Int×Unit)
def E87 (f:T87):FEnt:=⟨qw,qf,f⟩
def K87 (f119:T119) (f98:T98):=lk [(119,E119 f119),(98,E98 f98)]
def F87 (f119:T119) (f98:T98):T87:=fun (x0,_)=>(f98 (x0,[32],())).bind fun v=>(f119 (v.2.1,10,31,())).bind fun v1=>Sum.elim (fun v=>some (0,())) (fun v2=>bif decide ((↑(List.length v.2.1):Int)>9) then some (0,()) else some (IntKind.i64.wrap v2.1,())) v1
def C87:T87:=F87 C119 C98
theorem ok87:FO 87 (E87 C87):=xe qw qf K87 F87 C119 C98 (kc ok119 (kc ok98 kn)) Tryz.func87
abbrev T59:=Int×List (qa)×Unit→Option (Bool×Bool×Int×Unit)
def E59 (f:T59):FEnt:=⟨yd,q4h,f⟩
def K59 (f34:T34) (f84:T84) (f85:T85) (f86:T86) (f87:T87):=lk [(34,E34 f34),(84,E84 f84),(85,E85 f85),(86,E86 f86),(87,E87 f87)]
def F59 (f34:T34) (f84:T84) (f85:T85) (f86:T86) (f87:T87):T59:=fun (x0,x1,_)=>(f34 (x0,())).bind fun v=>bif v.1 != 2 then some (false,false,0,()) else (f84 (x0,x1,())).bind fun v=>(f85 (v.1,[115,109,116,112,117,116,102,56],())).bind fun v1=>(f85 (v.1,[56,98,105,116,109,105,109,101],())).bind fun v2=>(f86 (v.1,[115,105,122,101],())).bind fun v=>bif decide (v.1≥0) then bif decide (0≤IntKind.i64.wrap (v.1+1))&&decide (IntKind.i64.wrap (v.1+1)<(↑x1.length:Int)) then (f87 (x1.getD (IntKind.i64.wrap (v.1+1)).toNat [],())).bind fun v=>some (v1.1,v2.1,v.1,()) else none else some (v1.1,v2.1,0,())
theorem h59 (f34:T34) (f84:T84) (f85:T85) (f86:T86) (f87:T87):qn (K59 f34 f84 f85 f86 f87) 0 Tryz.f59 .nil yd q4h (F59 f34 f84 f85 f86 f87):=fun v=>by kernel_rfl
def C59:T59:=F59 C34 C84 C85 C86 C87
theorem ok59:FO 59 (E59 C59) :=
 q0 (kc ok34 (kc ok84 (kc ok85 (kc ok86 (kc ok87 kn))))) Tryz.func59 (h59 C34 C84 C85 C86 C87)
abbrev T90:=Int×Unit→Option (Int×Bool×qa×qa×Bool×qa×qa×Bool×Bool×Int×Unit)
def E90 (f:T90):FEnt:=⟨jt,yz,f⟩
def F90:T90:=fun (x0,_)=>some (2,false,[],[],false,[],[],false,false,x0,())
def C90:T90:=F90
theorem ok90:FO 90 (E90 C90):=jx jt yz qq F90 kn Tryz.func90
abbrev T23:=Bool×Bool×Int×Bool×Unit→Option (Bool×Unit)
def E23 (f:T23):FEnt:=⟨q0v,qe,f⟩
def F23:T23:=fun (x0,x1,x2,x3,_)=>bif x0 then some (true,()) else bif x1 then some (x3,()) else some (false,())
def C23:T23:=F23
theorem ok23:FO 23 (E23 C23):=jx q0v qe qq F23 kn Tryz.func23
abbrev T121:=Bool×qa×qa×Unit→Option (Bool×Unit)
def E121 (f:T121):FEnt:=⟨jq,qe,f⟩
def K121 (f22:T22) (f76:T76):=lk [(22,E22 f22),(76,E76 f76)]
def F121 (f22:T22) (f76:T76):T121:=fun (x0,x1,x2,_)=>(f22 (x1,())).bind fun v=>bif decide (v.1≥0) then some (true,()) else (f76 (x2,[91],())).bind fun v=>bif v.1 then (f22 (x2,())).bind fun v=>some (decide (v.1≥0),()) else some (false,())
def C121:T121:=F121 C22 C76
theorem ok121:FO 121 (E121 C121):=xe jq qe K121 F121 C22 C76 (kc ok22 (kc ok76 kn)) Tryz.func121
abbrev T91:=Bool×qa×qa×Bool×qa×qa×Bool×Bool×Int×Unit→Option (Bool×Unit)
def E91 (f:T91):FEnt:=⟨q0w,qe,f⟩
def K91 (f121:T121):=lk [(121,E121 f121)]
def F91 (f121:T121):T91:=fun (x0,x1,x2,x3,x4,x5,x6,x7,x8,_)=>bif x6 then some (true,()) else (f121 (x0,x1,x2,())).bind fun v=>bif v.1 then some (true,()) else (f121 (x3,x4,x5,())).bind fun v=>some (v.1,())
def C91:T91:=F91 C121
theorem ok91:FO 91 (E91 C91):=jb q0w qe K91 F91 C121 (kc ok121 kn) Tryz.func91
abbrev T92:=Bool×qa×qa×Unit→Option (Bool×Unit)
def E92 (f:T92):FEnt:=⟨jq,qe,f⟩
def K92 (f22:T22):=lk [(22,E22 f22)]
def F92 (f22:T22):T92:=fun (x0,x1,x2,_)=>bif decide (x1.length+x2.length≤9223372036854775807) then (f22 (x1++x2,())).bind fun v=>some (decide (v.1≥0),()) else none
def C92:T92:=F92 C22
theorem ok92:FO 92 (E92 C92):=jb jq qe K92 F92 C22 (kc ok22 kn) Tryz.func92
abbrev T50:=Bool×qa×qa×Unit→Option (Bool×Unit)
def E50 (f:T50):FEnt:=⟨jq,qe,f⟩
def K50 (f69:T69):=lk [(69,E69 f69)]
def F50 (f69:T69):T50:=fun (x0,x1,x2,_)=>bif !x0 then bif x2==[] then (f69 (x1,())).bind fun v=>some (v.1==[112,111,115,116,109,97,115,116,101,114],()) else some (false,()) else some (false,())
def C50:T50:=F50 C69
theorem ok50:FO 50 (E50 C50):=jb jq qe K50 F50 C69 (kc ok69 kn) Tryz.func50
abbrev T72:=qa×Unit→Option (Bool×Unit)
def E72 (f:T72):FEnt:=⟨qw,qe,f⟩
def K72 (f76:T76):=lk [(76,E76 f76)]
def F72 (f76:T76):T72:=fun (x0,_)=>(f76 (x0,[91],())).bind fun v=>some (v.1,())
def C72:T72:=F72 C76
theorem ok72:FO 72 (E72 C72):=jb qw qe K72 F72 C76 (kc ok76 kn) Tryz.func72
abbrev T74:=qb×qc×qd×qa×Unit→Option (qa×Int×Unit)
def E74 (f:T74):FEnt:=⟨je,jn,f⟩
def K74 (f111:T111):=lk [(111,E111 f111)]
def F74 (f111:T111):T74:=fun (x0,x1,x2,x3,_)=>(f111 (x0,x1,x2,x3,())).bind fun v=>some (v.1,v.2.2.1,())
def C74:T74:=F74 C111
theorem ok74:FO 74 (E74 C74):=jb je jn K74 F74 C111 (kc ok111 kn) Tryz.func74
abbrev T157:=qb×qc×qd×qa×Unit→Option (qa×Int×Unit)
def E157 (f:T157):FEnt:=⟨je,jn,f⟩
def K157 (f22:T22) (f74:T74):=lk [(22,E22 f22),(74,E74 f74)]
def F157 (f22:T22) (f74:T74):T157:=fun (x0,x1,x2,x3,_)=>(f74 (x0,x1,x2,x3,())).bind fun v=>bif v.2.1==0 then (f22 (x3,())).bind fun v1=>bif decide (v1.1<0) then some (x3,0,()) else some (v.1,v.2.1,()) else some (v.1,v.2.1,())
def C157:T157:=F157 C22 C74
theorem ok157:FO 157 (E157 C157):=xe je jn K157 F157 C22 C74 (kc ok22 (kc ok74 kn)) Tryz.func157
abbrev T120_c0:=Bool×qb×qc×qd×qa×qa×qa×qa×Unit→Option ((Int×qa×qa×Unit)⊕(qb×qc×qd×qa×qa×qa×qa×Unit))
def E120_c0 (f:T120_c0):LEnt:=⟨q0y,q4j,f⟩
abbrev T120:=qb×qc×qd×qa×qa×Unit→Option (qa×qa×Int×Unit)
def E120 (f:T120):FEnt:=⟨q0x,q4i,f⟩
def K120 (f157:T157) (f22:T22) (f72:T72):=lk [(157,E157 f157),(22,E22 f22),(72,E72 f72)]
theorem kok120:KOk Tryz.prog (K120 C157 C22 C72):=(kc ok157 (kc ok22 (kc ok72 kn)))
def F120_c0 (f157:T157) (f22:T22) (f72:T72):T120_c0:=fun (x0,x1,x2,x3,x4,x5,x6,x7,_)=>bif x0 then some (Sum.inl (8,[],[],())) else (f72 (x5,())).bind fun v=>bif v.1 then some (Sum.inl (0,x4,x5,())) else some (Sum.inr (x1,x2,x3,x4,x5,x6,x7,()))
theorem h120_c0 (f157:T157) (f22:T22) (f72:T72):jd (K120 f157 f22 f72) 0 (subc (code Tryz.f120) [1,0,0,1]) .nil q0y q4j (F120_c0 f157 f22 f72):=fun v=>by kernel_rfl
def C120_c0:T120_c0:=F120_c0 C157 C22 C72
theorem k120_c0:ql 0 (subc (code Tryz.f120) [1,0,0,1]) (E120_c0 C120_c0) :=
 zp kok120 (h120_c0 C157 C22 C72)
def N120 (f120_c0:T120_c0):Ann:=(.seq .nil (.seq (.blk (.cut .nil (E120_c0 f120_c0))) .nil))
def F120 (f157:T157) (f22:T22) (f72:T72) (f120_c0:T120_c0):T120:=fun (x0,x1,x2,x3,x4,_)=>(f22 (x3,())).bind fun v=>bif decide (v.1≥0) then (f120_c0 (true,x0,x1,x2,x3,x4,[],[],())).bind fun v=>Sum.elim (fun v=>some (v.2.1,v.2.2.1,v.1,())) (fun v=>(f157 (v.1,v.2.1,v.2.2.1,v.2.2.2.2.1,())).bind fun v1=>bif v1.2.1 != 0 then some ([],[],v1.2.1,()) else some (v.2.2.2.1,v1.1,0,())) v else (f72 (x4,())).bind fun v=>bif v.1 then (f22 (x4,())).bind fun v=>(f120_c0 (decide (v.1≥0),x0,x1,x2,x3,x4,[],[],())).bind fun v=>Sum.elim (fun v=>some (v.2.1,v.2.2.1,v.1,())) (fun v=>(f157 (v.1,v.2.1,v.2.2.1,v.2.2.2.2.1,())).bind fun v1=>bif v1.2.1 != 0 then some ([],[],v1.2.1,()) else some (v.2.2.2.1,v1.1,0,())) v else (f120_c0 (false,x0,x1,x2,x3,x4,[],[],())).bind fun v=>Sum.elim (fun v=>some (v.2.1,v.2.2.1,v.1,())) (fun v=>(f157 (v.1,v.2.1,v.2.2.1,v.2.2.2.2.1,())).bind fun v1=>bif v1.2.1 != 0 then some ([],[],v1.2.1,()) else some (v.2.2.2.1,v1.1,0,())) v
def C120:T120:=F120 C157 C22 C72 C120_c0
theorem ok120:FO 120 (E120 C120):=zq q0x q4i K120 N120 F120 C157 C22 C72 C120_c0 kok120 Tryz.func120 (And.intro k120_c0 trivial)
abbrev T89:=qb×qc×qd×Bool×qa×qa×Unit→Option (Bool×qa×qa×Int×Unit)
def E89 (f:T89):FEnt:=⟨q0z,q4k,f⟩
def K89 (f120:T120) (f50:T50):=lk [(120,E120 f120),(50,E50 f50)]
def F89 (f120:T120) (f50:T50):T89:=fun (x0,x1,x2,x3,x4,x5,_)=>bif x3 then some (x3,x4,x5,0,()) else (f50 (x3,x4,x5,())).bind fun v=>bif v.1 then some (x3,x4,x5,0,()) else (f120 (x0,x1,x2,x4,x5,())).bind fun v=>bif v.2.2.1 != 0 then some (false,[],[],v.2.2.1,()) else some (false,v.1,v.2.1,0,())
def C89:T89:=F89 C120 C50
theorem ok89:FO 89 (E89 C89):=xe q0z q4k K89 F89 C120 C50 (kc ok120 (kc ok50 kn)) Tryz.func89
abbrev T88:=qb×qc×qd×Bool×qa×qa×Bool×qa×qa×Bool×Bool×Int×Int×Bool×qa×qa×Bool×qa×qa×Bool×Bool×Int×Unit→Option (Bool×qb×qc×qd×Bool×qa×qa×Bool×qa×qa×Bool×Bool×Int×Int×Bool×qa×qa×Bool×qa×qa×Bool×Bool×Int×Unit)
def E88 (f:T88):FEnt:=⟨q1a,q4l,f⟩
def K88 (f89:T89):=lk [(89,E89 f89)]
def F88 (f89:T89):T88:=fun (x0,x1,x2,x3,x4,x5,x6,x7,x8,x9,x10,x11,x12,x13,x14,x15,x16,x17,x18,x19,x20,x21,_)=>(f89 (x0,x1,x2,x3,x4,x5,())).bind fun v=>(f89 (x0,x1,x2,x6,x7,x8,())).bind fun v1=>bif v.2.2.2.1==0 then some (v1.2.2.2.1==0,x0,x1,x2,x3,x4,x5,x6,x7,x8,x9,x10,x11,x12,v.1,v.2.1,v.2.2.1,v1.1,v1.2.1,v1.2.2.1,x19,x20,x21,()) else some (false,x0,x1,x2,x3,x4,x5,x6,x7,x8,x9,x10,x11,x12,v.1,v.2.1,v.2.2.1,v1.1,v1.2.1,v1.2.2.1,x19,x20,x21,())
theorem h88 (f89:T89):qn (K88 f89) 3 Tryz.f88 .nil q1a q4l (F88 f89):=fun v=>by kernel_rfl
def C88:T88:=F88 C89
theorem ok88:FO 88 (E88 C88) :=
 q0 (kc ok89 kn) Tryz.func88 (h88 C89)
abbrev T60_c0:=Bool×Bool×qa×qa×Bool×qa×qa×Bool×Bool×Int×Int×Bool×qa×qa×Bool×qa×qa×Bool×Bool×Int×Int×Bool×qa×qa×Bool×qa×qa×Bool×Bool×Int×Unit→Option ((Int×Bool×qa×qa×Bool×qa×qa×Bool×Bool×Int×Unit)⊕(Int×Bool×qa×qa×Bool×qa×qa×Bool×Bool×Int×Int×Bool×qa×qa×Bool×qa×qa×Bool×Bool×Int×Unit))
def E60_c0 (f:T60_c0):LEnt:=⟨q1c,zh,f⟩
abbrev T60_c1:=Bool×Bool×Bool×Int×Bool×qa×qa×Bool×qa×qa×Bool×Bool×Int×Int×Bool×qa×qa×Bool×qa×qa×Bool×Bool×Int×Int×Bool×qa×qa×Bool×qa×qa×Bool×Bool×Int×qb×qc×qd×Unit→Option ((Int×Bool×qa×qa×Bool×qa×qa×Bool×Bool×Int×Unit)⊕(Int×Bool×qa×qa×Bool×qa×qa×Bool×Bool×Int×Int×Bool×qa×qa×Bool×qa×qa×Bool×Bool×Int×Unit))
def E60_c1 (f:T60_c1):LEnt:=⟨q1d,zh,f⟩
abbrev T60_c2:=Bool×Bool×Bool×Int×Bool×qa×qa×Bool×qa×qa×Bool×Bool×Int×Int×Bool×qa×qa×Bool×qa×qa×Bool×Bool×Int×Int×Bool×qa×qa×Bool×qa×qa×Bool×Bool×Int×qb×qc×qd×Unit→Option ((Int×Bool×qa×qa×Bool×qa×qa×Bool×Bool×Int×Unit)⊕(Int×Bool×qa×qa×Bool×qa×qa×Bool×Bool×Int×Int×Bool×qa×qa×Bool×qa×qa×Bool×Bool×Int×Unit))
def E60_c2 (f:T60_c2):LEnt:=⟨q1e,zh,f⟩
abbrev T60_c3:=qb×qc×qd×Bool×Bool×Int×Bool×qa×qa×Bool×qa×qa×Bool×Bool×Int×Int×Bool×qa×qa×Bool×qa×qa×Bool×Bool×Int×Int×Bool×qa×qa×Bool×qa×qa×Bool×Bool×Int×Unit→Option (Int×Bool×qa×qa×Bool×qa×qa×Bool×Bool×Int×Unit)
def E60_c3 (f:T60_c3):LEnt:=⟨q1f,q4m,f⟩
abbrev T60:=qb×qc×qd×Bool×Bool×Int×Bool×qa×qa×Bool×qa×qa×Bool×Bool×Int×Unit→Option (Int×Bool×qa×qa×Bool×qa×qa×Bool×Bool×Int×Unit)
def E60 (f:T60):FEnt:=⟨q1b,yz,f⟩
def K60 (f23:T23) (f88:T88) (f90:T90) (f91:T91) (f92:T92):=lk [(23,E23 f23),(88,E88 f88),(90,E90 f90),(91,E91 f91),(92,E92 f92)]
theorem kok60:KOk Tryz.prog (K60 C23 C88 C90 C91 C92):=(kc ok23 (kc ok88 (kc ok90 (kc ok91 (kc ok92 kn)))))
def F60_c0 (f23:T23) (f88:T88) (f90:T90) (f91:T91) (f92:T92):T60_c0:=fun (x0,x1,x2,x3,x4,x5,x6,x7,x8,x9,x10,x11,x12,x13,x14,x15,x16,x17,x18,x19,x20,x21,x22,x23,x24,x25,x26,x27,x28,x29,_)=>bif x0 then (f90 (567,())).bind fun v=>some (Sum.inl (v.1,v.2.1,v.2.2.1,v.2.2.2.1,v.2.2.2.2.1,v.2.2.2.2.2.1,v.2.2.2.2.2.2.1,v.2.2.2.2.2.2.2.1,v.2.2.2.2.2.2.2.2.1,v.2.2.2.2.2.2.2.2.2.1,())) else bif !(x21==x1&&(x22==x2&&(x23==x3&&true)&&true)) then some (Sum.inr (x10,x11,x12,x13,x14,x15,x16,x17,x18,x19,1,x21,x22,x23,x24,x25,x26,x27,x28,x29,())) else bif !(x24==x4&&(x25==x5&&(x26==x6&&true)&&true)) then some (Sum.inr (x10,x11,x12,x13,x14,x15,x16,x17,x18,x19,1,x21,x22,x23,x24,x25,x26,x27,x28,x29,())) else some (Sum.inr (x10,x11,x12,x13,x14,x15,x16,x17,x18,x19,x20,x21,x22,x23,x24,x25,x26,x27,x28,x29,()))
theorem h60_c0 (f23:T23) (f88:T88) (f90:T90) (f91:T91) (f92:T92):jd (K60 f23 f88 f90 f91 f92) 0 (subc (code Tryz.f60) [1,1,1,0,0,1,1,1,1,1,1,1]) .nil q1c zh (F60_c0 f23 f88 f90 f91 f92):=fun v=>by kernel_rfl
def C60_c0:T60_c0:=F60_c0 C23 C88 C90 C91 C92
theorem k60_c0:ql 0 (subc (code Tryz.f60) [1,1,1,0,0,1,1,1,1,1,1,1]) (E60_c0 C60_c0) :=
 zp kok60 (h60_c0 C23 C88 C90 C91 C92)
def N60_c1 (f60_c0:T60_c0):Ann:=(.cond .nil (.seq .nil (.cond .nil (.cut .nil (E60_c0 f60_c0)))))
def F60_c1 (f23:T23) (f88:T88) (f90:T90) (f91:T91) (f92:T92) (f60_c0:T60_c0):T60_c1:=fun (x0,x1,x2,x3,x4,x5,x6,x7,x8,x9,x10,x11,x12,x13,x14,x15,x16,x17,x18,x19,x20,x21,x22,x23,x24,x25,x26,x27,x28,x29,x30,x31,x32,x33,x34,x35,_)=>bif x0 then (f90 (563,())).bind fun v=>some (Sum.inl (v.1,v.2.1,v.2.2.1,v.2.2.2.1,v.2.2.2.2.1,v.2.2.2.2.2.1,v.2.2.2.2.2.2.1,v.2.2.2.2.2.2.2.1,v.2.2.2.2.2.2.2.2.1,v.2.2.2.2.2.2.2.2.2.1,())) else bif x1 then (f91 (x4,x5,x6,x7,x8,x9,x10,x11,x12,())).bind fun v=>bif v.1 then some (Sum.inl (x23,x24,x25,x26,x27,x28,x29,true,x31,x32,())) else (f92 (x4,x5,x6,())).bind fun v=>bif v.1 then some (Sum.inl (x23,x24,x25,x26,x27,x28,x29,true,x31,x32,())) else (f92 (x7,x8,x9,())).bind fun v=>some (Sum.inl (x23,x24,x25,x26,x27,x28,x29,v.1,x31,x32,())) else (f91 (x4,x5,x6,x7,x8,x9,x10,x11,x12,())).bind fun v=>bif v.1 then (f60_c0 (true,x4,x5,x6,x7,x8,x9,x10,x11,x12,x13,x14,x15,x16,x17,x18,x19,x20,x21,x22,x23,x24,x25,x26,x27,x28,x29,x30,x31,x32,())).bind fun v=>Sum.elim (fun v=>some (Sum.inl (v.1,v.2.1,v.2.2.1,v.2.2.2.1,v.2.2.2.2.1,v.2.2.2.2.2.1,v.2.2.2.2.2.2.1,v.2.2.2.2.2.2.2.1,v.2.2.2.2.2.2.2.2.1,v.2.2.2.2.2.2.2.2.2.1,()))) (fun v=>some (Sum.inr (v.1,v.2.1,v.2.2.1,v.2.2.2.1,v.2.2.2.2.1,v.2.2.2.2.2.1,v.2.2.2.2.2.2.1,v.2.2.2.2.2.2.2.1,v.2.2.2.2.2.2.2.2.1,v.2.2.2.2.2.2.2.2.2.1,v.2.2.2.2.2.2.2.2.2.2.1,v.2.2.2.2.2.2.2.2.2.2.2.1,v.2.2.2.2.2.2.2.2.2.2.2.2.1,v.2.2.2.2.2.2.2.2.2.2.2.2.2.1,v.2.2.2.2.2.2.2.2.2.2.2.2.2.2.1,v.2.2.2.2.2.2.2.2.2.2.2.2.2.2.2.1,v.2.2.2.2.2.2.2.2.2.2.2.2.2.2.2.2.1,v.2.2.2.2.2.2.2.2.2.2.2.2.2.2.2.2.2.1,v.2.2.2.2.2.2.2.2.2.2.2.2.2.2.2.2.2.2.1,v.2.2.2.2.2.2.2.2.2.2.2.2.2.2.2.2.2.2.2.1,()))) v else (f88 (x33,x34,x35,x4,x5,x6,x7,x8,x9,x10,x11,x12,x23,x24,x25,x26,x27,x28,x29,x30,x31,x32,())).bind fun v=>(f60_c0 (!v.1,v.2.2.2.2.1,v.2.2.2.2.2.1,v.2.2.2.2.2.2.1,v.2.2.2.2.2.2.2.1,v.2.2.2.2.2.2.2.2.1,v.2.2.2.2.2.2.2.2.2.1,v.2.2.2.2.2.2.2.2.2.2.1,v.2.2.2.2.2.2.2.2.2.2.2.1,v.2.2.2.2.2.2.2.2.2.2.2.2.1,x13,x14,x15,x16,x17,x18,x19,x20,x21,x22,v.2.2.2.2.2.2.2.2.2.2.2.2.2.1,v.2.2.2.2.2.2.2.2.2.2.2.2.2.2.1,v.2.2.2.2.2.2.2.2.2.2.2.2.2.2.2.1,v.2.2.2.2.2.2.2.2.2.2.2.2.2.2.2.2.1,v.2.2.2.2.2.2.2.2.2.2.2.2.2.2.2.2.2.1,v.2.2.2.2.2.2.2.2.2.2.2.2.2.2.2.2.2.2.1,v.2.2.2.2.2.2.2.2.2.2.2.2.2.2.2.2.2.2.2.1,v.2.2.2.2.2.2.2.2.2.2.2.2.2.2.2.2.2.2.2.2.1,v.2.2.2.2.2.2.2.2.2.2.2.2.2.2.2.2.2.2.2.2.2.1,v.2.2.2.2.2.2.2.2.2.2.2.2.2.2.2.2.2.2.2.2.2.2.1,())).bind fun v=>Sum.elim (fun v=>some (Sum.inl (v.1,v.2.1,v.2.2.1,v.2.2.2.1,v.2.2.2.2.1,v.2.2.2.2.2.1,v.2.2.2.2.2.2.1,v.2.2.2.2.2.2.2.1,v.2.2.2.2.2.2.2.2.1,v.2.2.2.2.2.2.2.2.2.1,()))) (fun v=>some (Sum.inr (v.1,v.2.1,v.2.2.1,v.2.2.2.1,v.2.2.2.2.1,v.2.2.2.2.2.1,v.2.2.2.2.2.2.1,v.2.2.2.2.2.2.2.1,v.2.2.2.2.2.2.2.2.1,v.2.2.2.2.2.2.2.2.2.1,v.2.2.2.2.2.2.2.2.2.2.1,v.2.2.2.2.2.2.2.2.2.2.2.1,v.2.2.2.2.2.2.2.2.2.2.2.2.1,v.2.2.2.2.2.2.2.2.2.2.2.2.2.1,v.2.2.2.2.2.2.2.2.2.2.2.2.2.2.1,v.2.2.2.2.2.2.2.2.2.2.2.2.2.2.2.1,v.2.2.2.2.2.2.2.2.2.2.2.2.2.2.2.2.1,v.2.2.2.2.2.2.2.2.2.2.2.2.2.2.2.2.2.1,v.2.2.2.2.2.2.2.2.2.2.2.2.2.2.2.2.2.2.1,v.2.2.2.2.2.2.2.2.2.2.2.2.2.2.2.2.2.2.2.1,()))) v
theorem h60_c1 (f23:T23) (f88:T88) (f90:T90) (f91:T91) (f92:T92) (f60_c0:T60_c0):jd (K60 f23 f88 f90 f91 f92) 0 (subc (code Tryz.f60) [1,1,1,0,0,1,1,1]) (N60_c1 f60_c0) q1d zh (F60_c1 f23 f88 f90 f91 f92 f60_c0):=fun v=>by kernel_rfl
def C60_c1:T60_c1:=F60_c1 C23 C88 C90 C91 C92 C60_c0
theorem k60_c1:ql 0 (subc (code Tryz.f60) [1,1,1,0,0,1,1,1]) (E60_c1 C60_c1) :=
 zj kok60 (And.intro k60_c0 trivial) (h60_c1 C23 C88 C90 C91 C92 C60_c0)
def N60_c2 (f60_c1:T60_c1):Ann:=(.cond .nil (.cut .nil (E60_c1 f60_c1)))
def F60_c2 (f23:T23) (f88:T88) (f90:T90) (f91:T91) (f92:T92) (f60_c1:T60_c1):T60_c2:=fun (x0,x1,x2,x3,x4,x5,x6,x7,x8,x9,x10,x11,x12,x13,x14,x15,x16,x17,x18,x19,x20,x21,x22,x23,x24,x25,x26,x27,x28,x29,x30,x31,x32,x33,x34,x35,_)=>bif x0 then (f90 (534,())).bind fun v=>some (Sum.inl (v.1,v.2.1,v.2.2.1,v.2.2.2.1,v.2.2.2.2.1,v.2.2.2.2.2.1,v.2.2.2.2.2.2.1,v.2.2.2.2.2.2.2.1,v.2.2.2.2.2.2.2.2.1,v.2.2.2.2.2.2.2.2.2.1,())) else bif x11 then (f23 (x1,x2,x3,true,())).bind fun v=>(f60_c1 (!v.1,x1,x2,x3,x4,x5,x6,x7,x8,x9,x10,x11,x12,x13,x14,x15,x16,x17,x18,x19,x20,x21,x22,x23,x24,x25,x26,x27,x28,x29,x30,x31,x32,x33,x34,x35,())).bind fun v=>Sum.elim (fun v=>some (Sum.inl (v.1,v.2.1,v.2.2.1,v.2.2.2.1,v.2.2.2.2.1,v.2.2.2.2.2.1,v.2.2.2.2.2.2.1,v.2.2.2.2.2.2.2.1,v.2.2.2.2.2.2.2.2.1,v.2.2.2.2.2.2.2.2.2.1,()))) (fun v=>some (Sum.inr (v.1,v.2.1,v.2.2.1,v.2.2.2.1,v.2.2.2.2.1,v.2.2.2.2.2.1,v.2.2.2.2.2.2.1,v.2.2.2.2.2.2.2.1,v.2.2.2.2.2.2.2.2.1,v.2.2.2.2.2.2.2.2.2.1,v.2.2.2.2.2.2.2.2.2.2.1,v.2.2.2.2.2.2.2.2.2.2.2.1,v.2.2.2.2.2.2.2.2.2.2.2.2.1,v.2.2.2.2.2.2.2.2.2.2.2.2.2.1,v.2.2.2.2.2.2.2.2.2.2.2.2.2.2.1,v.2.2.2.2.2.2.2.2.2.2.2.2.2.2.2.1,v.2.2.2.2.2.2.2.2.2.2.2.2.2.2.2.2.1,v.2.2.2.2.2.2.2.2.2.2.2.2.2.2.2.2.2.1,v.2.2.2.2.2.2.2.2.2.2.2.2.2.2.2.2.2.2.1,v.2.2.2.2.2.2.2.2.2.2.2.2.2.2.2.2.2.2.2.1,()))) v else (f60_c1 (false,x1,x2,x3,x4,x5,x6,x7,x8,x9,x10,x11,x12,x13,x14,x15,x16,x17,x18,x19,x20,x21,x22,x23,x24,x25,x26,x27,x28,x29,x30,x31,x32,x33,x34,x35,())).bind fun v=>Sum.elim (fun v=>some (Sum.inl (v.1,v.2.1,v.2.2.1,v.2.2.2.1,v.2.2.2.2.1,v.2.2.2.2.2.1,v.2.2.2.2.2.2.1,v.2.2.2.2.2.2.2.1,v.2.2.2.2.2.2.2.2.1,v.2.2.2.2.2.2.2.2.2.1,()))) (fun v=>some (Sum.inr (v.1,v.2.1,v.2.2.1,v.2.2.2.1,v.2.2.2.2.1,v.2.2.2.2.2.1,v.2.2.2.2.2.2.1,v.2.2.2.2.2.2.2.1,v.2.2.2.2.2.2.2.2.1,v.2.2.2.2.2.2.2.2.2.1,v.2.2.2.2.2.2.2.2.2.2.1,v.2.2.2.2.2.2.2.2.2.2.2.1,v.2.2.2.2.2.2.2.2.2.2.2.2.1,v.2.2.2.2.2.2.2.2.2.2.2.2.2.1,v.2.2.2.2.2.2.2.2.2.2.2.2.2.2.1,v.2.2.2.2.2.2.2.2.2.2.2.2.2.2.2.1,v.2.2.2.2.2.2.2.2.2.2.2.2.2.2.2.2.1,v.2.2.2.2.2.2.2.2.2.2.2.2.2.2.2.2.2.1,v.2.2.2.2.2.2.2.2.2.2.2.2.2.2.2.2.2.2.1,v.2.2.2.2.2.2.2.2.2.2.2.2.2.2.2.2.2.2.2.1,()))) v
theorem h60_c2 (f23:T23) (f88:T88) (f90:T90) (f91:T91) (f92:T92) (f60_c1:T60_c1):jd (K60 f23 f88 f90 f91 f92) 0 (subc (code Tryz.f60) [1,1,1,0,0,1]) (N60_c2 f60_c1) q1e zh (F60_c2 f23 f88 f90 f91 f92 f60_c1):=fun v=>by kernel_rfl
def C60_c2:T60_c2:=F60_c2 C23 C88 C90 C91 C92 C60_c1
theorem k60_c2:ql 0 (subc (code Tryz.f60) [1,1,1,0,0,1]) (E60_c2 C60_c2) :=
 zj kok60 (And.intro k60_c1 trivial) (h60_c2 C23 C88 C90 C91 C92 C60_c1)
def N60_c3 (f60_c2:T60_c2):Ann:=(.seq .nil (.seq (.blk (.cut .nil (E60_c2 f60_c2))) .nil))
def F60_c3 (f23:T23) (f88:T88) (f90:T90) (f91:T91) (f92:T92) (f60_c2:T60_c2):T60_c3:=fun (x0,x1,x2,x3,x4,x5,x6,x7,x8,x9,x10,x11,x12,x13,x14,x15,x16,x17,x18,x19,x20,x21,x22,x23,x24,x25,x26,x27,x28,x29,x30,x31,x32,x33,x34,_)=>bif decide (x5>0) then (f60_c2 (decide (x14>x5),x3,x4,x5,x6,x7,x8,x9,x10,x11,x12,x13,x14,x15,x16,x17,x18,x19,x20,x21,x22,x23,x24,x25,x26,x27,x28,x29,x30,x31,x32,x33,x34,x0,x1,x2,())).bind fun v=>Sum.elim (fun v=>some (v.1,v.2.1,v.2.2.1,v.2.2.2.1,v.2.2.2.2.1,v.2.2.2.2.2.1,v.2.2.2.2.2.2.1,v.2.2.2.2.2.2.2.1,v.2.2.2.2.2.2.2.2.1,v.2.2.2.2.2.2.2.2.2.1,())) (fun v=>some (v.2.2.2.2.2.2.2.2.2.2.1,v.2.2.2.2.2.2.2.2.2.2.2.1,v.2.2.2.2.2.2.2.2.2.2.2.2.1,v.2.2.2.2.2.2.2.2.2.2.2.2.2.1,v.2.2.2.2.2.2.2.2.2.2.2.2.2.2.1,v.2.2.2.2.2.2.2.2.2.2.2.2.2.2.2.1,v.2.2.2.2.2.2.2.2.2.2.2.2.2.2.2.2.1,v.2.2.2.2.2.2.2.2.2.2.2.2.2.2.2.2.2.1,v.2.2.2.2.2.2.2.2.2.2.2.2.2.2.2.2.2.2.1,v.2.2.2.2.2.2.2.2.2.2.2.2.2.2.2.2.2.2.2.1,())) v else (f60_c2 (false,x3,x4,x5,x6,x7,x8,x9,x10,x11,x12,x13,x14,x15,x16,x17,x18,x19,x20,x21,x22,x23,x24,x25,x26,x27,x28,x29,x30,x31,x32,x33,x34,x0,x1,x2,())).bind fun v=>Sum.elim (fun v=>some (v.1,v.2.1,v.2.2.1,v.2.2.2.1,v.2.2.2.2.1,v.2.2.2.2.2.1,v.2.2.2.2.2.2.1,v.2.2.2.2.2.2.2.1,v.2.2.2.2.2.2.2.2.1,v.2.2.2.2.2.2.2.2.2.1,())) (fun v=>some (v.2.2.2.2.2.2.2.2.2.2.1,v.2.2.2.2.2.2.2.2.2.2.2.1,v.2.2.2.2.2.2.2.2.2.2.2.2.1,v.2.2.2.2.2.2.2.2.2.2.2.2.2.1,v.2.2.2.2.2.2.2.2.2.2.2.2.2.2.1,v.2.2.2.2.2.2.2.2.2.2.2.2.2.2.2.1,v.2.2.2.2.2.2.2.2.2.2.2.2.2.2.2.2.1,v.2.2.2.2.2.2.2.2.2.2.2.2.2.2.2.2.2.1,v.2.2.2.2.2.2.2.2.2.2.2.2.2.2.2.2.2.2.1,v.2.2.2.2.2.2.2.2.2.2.2.2.2.2.2.2.2.2.2.1,())) v
theorem h60_c3 (f23:T23) (f88:T88) (f90:T90) (f91:T91) (f92:T92) (f60_c2:T60_c2):jd (K60 f23 f88 f90 f91 f92) 0 (subc (code Tryz.f60) [1,1]) (N60_c3 f60_c2) q1f q4m (F60_c3 f23 f88 f90 f91 f92 f60_c2):=fun v=>by kernel_rfl
def C60_c3:T60_c3:=F60_c3 C23 C88 C90 C91 C92 C60_c2
theorem k60_c3:ql 0 (subc (code Tryz.f60) [1,1]) (E60_c3 C60_c3) :=
 zj kok60 (And.intro k60_c2 trivial) (h60_c3 C23 C88 C90 C91 C92 C60_c2)
def N60 (f60_c3:T60_c3):Ann:=(.seq .nil (.cut .nil (E60_c3 f60_c3)))
def F60 (f23:T23) (f88:T88) (f90:T90) (f91:T91) (f92:T92) (f60_c3:T60_c3):T60:=fun (x0,x1,x2,x3,x4,x5,x6,x7,x8,x9,x10,x11,x12,x13,x14,_)=>bif x13 then (f60_c3 (x0,x1,x2,x3,x4,x5,x6,x7,x8,x9,x10,x11,x12,x13,x14,0,false,[],[],false,[],[],false,false,0,0,x6,x7,x8,x9,x10,x11,false,x4,0,())).bind fun v=>some (v.1,v.2.1,v.2.2.1,v.2.2.2.1,v.2.2.2.2.1,v.2.2.2.2.2.1,v.2.2.2.2.2.2.1,v.2.2.2.2.2.2.2.1,v.2.2.2.2.2.2.2.2.1,v.2.2.2.2.2.2.2.2.2.1,()) else (f60_c3 (x0,x1,x2,x3,x4,x5,x6,x7,x8,x9,x10,x11,x12,x13,x14,0,false,[],[],false,[],[],false,false,0,0,x6,x7,x8,x9,x10,x11,false,false,0,())).bind fun v=>some (v.1,v.2.1,v.2.2.1,v.2.2.2.1,v.2.2.2.2.1,v.2.2.2.2.2.1,v.2.2.2.2.2.2.1,v.2.2.2.2.2.2.2.1,v.2.2.2.2.2.2.2.2.1,v.2.2.2.2.2.2.2.2.2.1,())
theorem h60 (f23:T23) (f88:T88) (f90:T90) (f91:T91) (f92:T92) (f60_c3:T60_c3):qn (K60 f23 f88 f90 f91 f92) 0 Tryz.f60 (N60 f60_c3) q1b yz (F60 f23 f88 f90 f91 f92 f60_c3):=fun v=>by kernel_rfl
def C60:T60:=F60 C23 C88 C90 C91 C92 C60_c3
theorem ok60:FO 60 (E60 C60) :=
 qo kok60 Tryz.func60 (And.intro k60_c3 trivial) (h60 C23 C88 C90 C91 C92 C60_c3)
abbrev T122:=Int×Unit→Option (qa×Unit)
def E122 (f:T122):FEnt:=⟨jt,jk,f⟩
def F122:T122:=fun (x0,_)=>bif decide (x0<0) then some ([],()) else bif decide (x0≥8) then some ([],()) else bif decide (x0=(↑0:Int)) then some (wordsV.1,()) else bif decide (x0=(↑1:Int)) then some (wordsV.2.1,()) else bif decide (x0=(↑2:Int)) then some (wordsV.2.2.1,()) else bif decide (x0=(↑3:Int)) then some (wordsV.2.2.2.1,()) else bif decide (x0=(↑4:Int)) then some (wordsV.2.2.2.2.1,()) else bif decide (x0=(↑5:Int)) then some (wordsV.2.2.2.2.2.1,()) else bif decide (x0=(↑6:Int)) then some (wordsV.2.2.2.2.2.2.1,()) else bif decide (x0=(↑7:Int)) then some (wordsV.2.2.2.2.2.2.2,()) else none
def C122:T122:=F122
theorem ok122:FO 122 (E122 C122):=jx jt jk qq F122 kn Tryz.func122
abbrev T267_l0:=Int×(qa×Int)×Unit→Option (Int×Unit)
def E267_l0 (f:T267_l0):LEnt:=⟨q1g,q4n,f⟩
abbrev T267:=qa×Unit→Option (Int×Unit)
def E267 (f:T267):FEnt:=⟨qw,qf,f⟩
def F267_l0:qp (Int×(qa×Int)×Unit) (Int×Unit):=fun (x0,x1,_)=>bif decide (Int.toNat x1.2<List.length x1.1) then some (Sum.inl (IntKind.i64.wrap (x0+1),(x1.1,(↑(Int.toNat x1.2+(decR x1.1 (Int.toNat x1.2)).2):Int)),())) else some (Sum.inr (x0,()))
def C267_l0:T267_l0:=loopN (F267_l0) big
theorem k267_l0:qg 0 (subc (code Tryz.f267) [1,0,1,0,0]) (E267_l0 C267_l0):=vm q1g q4n qq F267_l0 kn
def N267 (f267_l0:T267_l0):Ann:=(.seq .nil (.seq (.seq .nil (.blk (.loop (E267_l0 f267_l0)))) .nil))
def F267 (f267_l0:T267_l0):T267:=fun (x0,_)=>(f267_l0 (0,(x0,(↑0:Int)),())).bind fun v=>some (v.1,())
def C267:T267:=F267 C267_l0
theorem ok267:FO 267 (E267 C267):=jg qw qf qq N267 F267 C267_l0 kn Tryz.func267 (And.intro k267_l0 trivial)
abbrev T161:=qa×Unit→Option (Int×Int×Unit)
def E161 (f:T161):FEnt:=⟨qw,xa,f⟩
def F161:T161:=fun (x0,_)=>bif decide ((↑x0.length:Int)<1) then some (65533,0,()) else bif decide (0<(↑x0.length:Int)) then none else none
def C161:T161:=F161
theorem ok161:FO 161 (E161 C161):=jx qw xa qq F161 kn Tryz.func161
abbrev T129_c0:=qa×Bool×Unit→Option ((Int×Int×Unit)⊕(Int×Int×Unit))
def E129_c0 (f:T129_c0):LEnt:=⟨q1h,q4o,f⟩
abbrev T129:=qa×Unit→Option (Int×Int×Unit)
def E129 (f:T129):FEnt:=⟨qw,xa,f⟩
def K129 (f161:T161):=lk [(161,E161 f161)]
theorem kok129:KOk Tryz.prog (K129 C161):=(kc ok161 kn)
def F129_c0 (f161:T161):T129_c0:=fun (x0,x1,_)=>bif x1 then bif decide (0<(↑x0.length:Int)) then some (Sum.inl (IntKind.i32.wrap (↑(x0.getD 0 0).toNat:Int),1,())) else none else (f161 (x0,())).bind fun v=>some (Sum.inr (v.1,v.2.1,()))
theorem h129_c0 (f161:T161):jd (K129 f161) 0 (subc (code Tryz.f129) [1,0,1]) .nil q1h q4o (F129_c0 f161):=fun v=>by kernel_rfl
def C129_c0:T129_c0:=F129_c0 C161
theorem k129_c0:ql 0 (subc (code Tryz.f129) [1,0,1]) (E129_c0 C129_c0) :=
 zp kok129 (h129_c0 C161)
def N129 (f129_c0:T129_c0):Ann:=(.seq .nil (.seq (.cut .nil (E129_c0 f129_c0)) .nil))
def F129 (f161:T161) (f129_c0:T129_c0):T129:=fun (x0,_)=>bif !x0==[] then bif decide (0<(↑x0.length:Int)) then (f129_c0 (x0,decide ((↑(x0.getD 0 0).toNat:Int)<128),())).bind fun v=>Sum.elim (fun v=>some (v.1,v.2.1,())) (fun v=>some (v.1,v.2.1,())) v else none else (f129_c0 (x0,false,())).bind fun v=>Sum.elim (fun v=>some (v.1,v.2.1,())) (fun v=>some (v.1,v.2.1,())) v
def C129:T129:=F129 C161 C129_c0
theorem ok129:FO 129 (E129 C129):=qz qw xa K129 N129 F129 C161 C129_c0 kok129 Tryz.func129 (And.intro k129_c0 trivial)
abbrev T217_l0:=qa×Int×Int×List (qa)×Unit→Option (qa×Int×List (qa)×Unit)
def E217_l0 (f:T217_l0):LEnt:=⟨q1i,q4p,f⟩
abbrev T217_c0:=qa×Int×Unit→Option (List (qa)×Unit)
def E217_c0 (f:T217_c0):LEnt:=⟨q1j,q4q,f⟩
abbrev T217:=qa×Int×Unit→Option (List (qa)×Unit)
def E217 (f:T217):FEnt:=⟨yc,za,f⟩
def K217 (f129:T129) (f267:T267):=lk [(129,E129 f129),(267,E267 f267)]
theorem kok217:KOk Tryz.prog (K217 C129 C267):=(kc ok129 (kc ok267 kn))
def F217_l0 (f129:T129) (f267:T267):qp (qa×Int×Int×List (qa)×Unit) (qa×Int×List (qa)×Unit):=fun (x0,x1,x2,x3,_)=>bif decide (x2<IntKind.i64.wrap (x1-1)) then (f129 (x0,())).bind fun v=>bif decide (0≤v.2.1)&&decide (v.2.1≤(↑x0.length:Int)) then bif decide (0≤x2)&&decide (x2<(↑x3.length:Int)) then bif decide (0≤v.2.1)&&decide (v.2.1≤(↑x0.length:Int)) then some (Sum.inl (List.drop (Int.toNat v.2.1) x0,x1,IntKind.i64.wrap (x2+1),x3.set x2.toNat (List.take (Int.toNat v.2.1) x0),())) else none else none else none else some (Sum.inr (x0,x1,x3,()))
def C217_l0:T217_l0:=loopN (F217_l0 C129 C267) big
theorem k217_l0:qg 0 (subc (code Tryz.f217) [1,1,1,1,0,1,0,0]) (E217_l0 C217_l0):=xj q1i q4p K217 F217_l0 C129 C267 kok217
def N217_c0 (f217_l0:T217_l0):Ann:=(.seq .nil (.seq (.seq .nil (.blk (.loop (E217_l0 f217_l0)))) .nil))
def F217_c0 (f129:T129) (f267:T267) (f217_l0:T217_l0):T217_c0:=fun (x0,x1,_)=>bif decide (0≤x1)&&(decide (x1=x1)&&(decide ((↑16:Int)*x1≤281474976710656)&&decide (x1≤140737488355328))) then (f217_l0 (x0,x1,0,List.replicate x1.toNat [],())).bind fun v=>bif decide (v.2.1>0) then bif decide (0≤IntKind.i64.wrap (v.2.1-1))&&decide (IntKind.i64.wrap (v.2.1-1)<(↑(List.length v.2.2.1):Int)) then some (List.set v.2.2.1 (IntKind.i64.wrap (v.2.1-1)).toNat v.1,()) else none else some (v.2.2.1,()) else none
def C217_c0:T217_c0:=F217_c0 C129 C267 C217_l0
theorem k217_c0:ql 0 (subc (code Tryz.f217) [1,1,1]) (E217_c0 C217_c0):=js q1j q4q K217 N217_c0 F217_c0 C129 C267 C217_l0 kok217 (And.intro k217_l0 trivial)
def N217 (f217_c0:T217_c0):Ann:=(.seq .nil (.seq .nil (.cut .nil (E217_c0 f217_c0))))
def F217 (f129:T129) (f267:T267) (f217_c0:T217_c0):T217:=fun (x0,x1,_)=>(f267 (x0,())).bind fun v=>bif decide (x1<0) then (f217_c0 (x0,v.1,())).bind fun v=>some (v.1,()) else bif decide (x1>v.1) then (f217_c0 (x0,v.1,())).bind fun v=>some (v.1,()) else (f217_c0 (x0,x1,())).bind fun v=>some (v.1,())
def C217:T217:=F217 C129 C267 C217_c0
theorem ok217:FO 217 (E217 C217):=jv yc za K217 N217 F217 C129 C267 C217_c0 kok217 Tryz.func217 (And.intro k217_c0 trivial)
abbrev T219:=qa×qa×Unit→Option (Int×Unit)
def E219 (f:T219):FEnt:=⟨qm,qf,f⟩
def K219 (f160:T160):=lk [(160,E160 f160)]
def F219 (f160:T160):T219:=fun (x0,x1,_)=>(f160 (x0,x1,())).bind fun v=>some (v.1,())
def C219:T219:=F219 C160
theorem ok219:FO 219 (E219 C219):=jb qm qf K219 F219 C160 (kc ok160 kn) Tryz.func219
abbrev T218_l0:=qa×qa×Int×Unit→Option (Int×Unit)
def E218_l0 (f:T218_l0):LEnt:=⟨q1k,q4r,f⟩
abbrev T218:=qa×qa×Unit→Option (Int×Unit)
def E218 (f:T218):FEnt:=⟨qm,qf,f⟩
def K218 (f219:T219) (f267:T267) (f268:T268):=lk [(219,E219 f219),(267,E267 f267),(268,E268 f268)]
theorem kok218:KOk Tryz.prog (K218 C219 C267 C268):=(kc ok219 (kc ok267 (kc ok268 kn)))
def F218_l0 (f219:T219) (f267:T267) (f268:T268):qp (qa×qa×Int×Unit) (Int×Unit):=fun (x0,x1,x2,_)=>(f219 (x0,x1,())).bind fun v=>bif v.1 == -1 then some (Sum.inr (x2,())) else bif decide (0≤IntKind.i64.wrap (v.1+(↑x1.length:Int)))&&decide (IntKind.i64.wrap (v.1+(↑x1.length:Int))≤(↑x0.length:Int)) then some (Sum.inl (List.drop (IntKind.i64.wrap (v.1+(↑x1.length:Int))).toNat x0,x1,IntKind.i64.wrap (x2+1),())) else none
theorem h218_l0 (f219:T219) (f267:T267) (f268:T268):jp (K218 f219 f267 f268) 0 (subc (code Tryz.f218) [1,1,1,1,0,0]) .nil q1k q4r (F218_l0 f219 f267 f268):=fun v=>by kernel_rfl
def C218_l0:T218_l0:=loopN (F218_l0 C219 C267 C268) big
theorem k218_l0:qg 0 (subc (code Tryz.f218) [1,1,1,1,0,0]) (E218_l0 C218_l0) :=
 frl kok218 (h218_l0 C219 C267 C268)
def N218 (f218_l0:T218_l0):Ann:=(.seq .nil (.seq .nil (.seq .nil (.seq .nil (.blk (.loop (E218_l0 f218_l0)))))))
def F218 (f219:T219) (f267:T267) (f268:T268) (f218_l0:T218_l0):T218:=fun (x0,x1,_)=>bif (↑x1.length:Int)==0 then (f267 (x0,())).bind fun v=>some (IntKind.i64.wrap (v.1+1),()) else bif (↑x1.length:Int)==1 then bif decide (0<(↑x1.length:Int)) then (f268 (x0,(↑(x1.getD 0 0).toNat:Int),())).bind fun v=>some (v.1,()) else none else (f218_l0 (x0,x1,0,())).bind fun v=>some (v.1,())
def C218:T218:=F218 C219 C267 C268 C218_l0
theorem ok218:FO 218 (E218 C218):=zq qm qf K218 N218 F218 C219 C267 C268 C218_l0 kok218 Tryz.func218 (And.intro k218_l0 trivial)
abbrev T178_l0:=qa×qa×Int×Int×Int×List (qa)×Unit→Option (qa×Int×List (qa)×Unit)
def E178_l0 (f:T178_l0):LEnt:=⟨q1m,q4s,f⟩
abbrev T178_c0:=qa×qa×Int×Int×Unit→Option (List (qa)×Unit)
def E178_c0 (f:T178_c0):LEnt:=⟨q1n,q4t,f⟩
abbrev T178:=qa×qa×Int×Int×Unit→Option (List (qa)×Unit)
def E178 (f:T178):FEnt:=⟨q1l,za,f⟩
def K178 (f217:T217) (f218:T218) (f219:T219):=lk [(217,E217 f217),(218,E218 f218),(219,E219 f219)]
theorem kok178:KOk Tryz.prog (K178 C217 C218 C219):=(kc ok217 (kc ok218 (kc ok219 kn)))
def F178_l0 (f217:T217) (f218:T218) (f219:T219):qp (qa×qa×Int×Int×Int×List (qa)×Unit) (qa×Int×List (qa)×Unit):=fun (x0,x1,x2,x3,x4,x5,_)=>bif decide (x4<x3) then (f219 (x0,x1,())).bind fun v=>bif decide (v.1<0) then some (Sum.inr (x0,x4,x5,())) else bif decide (0≤IntKind.i64.wrap (v.1+x2))&&decide (IntKind.i64.wrap (v.1+x2)≤(↑x0.length:Int)) then bif decide (0≤x4)&&decide (x4<(↑x5.length:Int)) then bif decide (0≤IntKind.i64.wrap (v.1+(↑x1.length:Int)))&&decide (IntKind.i64.wrap (v.1+(↑x1.length:Int))≤(↑x0.length:Int)) then some (Sum.inl (List.drop (IntKind.i64.wrap (v.1+(↑x1.length:Int))).toNat x0,x1,x2,x3,IntKind.i64.wrap (x4+1),x5.set x4.toNat (List.take (IntKind.i64.wrap (v.1+x2)).toNat x0),())) else none else none else none else some (Sum.inr (x0,x4,x5,()))
theorem h178_l0 (f217:T217) (f218:T218) (f219:T219):jp (K178 f217 f218 f219) 0 (subc (code Tryz.f178) [1,1,1,1,1,1,1,1,0,0,0]) .nil q1m q4s (F178_l0 f217 f218 f219):=fun v=>by kernel_rfl
def C178_l0:T178_l0:=loopN (F178_l0 C217 C218 C219) big
theorem k178_l0:qg 0 (subc (code Tryz.f178) [1,1,1,1,1,1,1,1,0,0,0]) (E178_l0 C178_l0) :=
 frl kok178 (h178_l0 C217 C218 C219)
def N178_c0 (f178_l0:T178_l0):Ann:=(.seq .nil (.seq .nil (.seq .nil (.seq .nil (.seq (.blk (.loop (E178_l0 f178_l0))) .nil)))))
def F178_c0 (f217:T217) (f218:T218) (f219:T219) (f178_l0:T178_l0):T178_c0:=fun (x0,x1,x2,x3,_)=>bif decide (0≤if IntKind.i64.wrap ((↑x0.length:Int)+1)<x3 then IntKind.i64.wrap ((↑x0.length:Int)+1) else x3)&&(decide ((if IntKind.i64.wrap ((↑x0.length:Int)+1)<x3 then IntKind.i64.wrap ((↑x0.length:Int)+1) else x3)=if IntKind.i64.wrap ((↑x0.length:Int)+1)<x3 then IntKind.i64.wrap ((↑x0.length:Int)+1) else x3)&&(decide (((↑16:Int)*if IntKind.i64.wrap ((↑x0.length:Int)+1)<x3 then IntKind.i64.wrap ((↑x0.length:Int)+1) else x3)≤281474976710656)&&decide ((if IntKind.i64.wrap ((↑x0.length:Int)+1)<x3 then IntKind.i64.wrap ((↑x0.length:Int)+1) else x3)≤140737488355328))) then (f178_l0 (x0,x1,x2,IntKind.i64.wrap ((if IntKind.i64.wrap ((↑x0.length:Int)+1)<x3 then IntKind.i64.wrap ((↑x0.length:Int)+1) else x3)-1),0,List.replicate (if IntKind.i64.wrap ((↑x0.length:Int)+1)<x3 then IntKind.i64.wrap ((↑x0.length:Int)+1) else x3).toNat [],())).bind fun v=>bif decide (0≤v.2.1)&&decide (v.2.1<(↑(List.length v.2.2.1):Int)) then bif decide (0≤IntKind.i64.wrap (v.2.1+1))&&decide (IntKind.i64.wrap (v.2.1+1)≤(↑(List.set v.2.2.1 (Int.toNat v.2.1) v.1).length:Int)) then some (List.take (IntKind.i64.wrap (v.2.1+1)).toNat (List.set v.2.2.1 (Int.toNat v.2.1) v.1),()) else none else none else none
theorem h178_c0 (f217:T217) (f218:T218) (f219:T219) (f178_l0:T178_l0):jd (K178 f217 f218 f219) 0 (subc (code Tryz.f178) [1,1,1,1]) (N178_c0 f178_l0) q1n q4t (F178_c0 f217 f218 f219 f178_l0):=fun v=>by kernel_rfl
def C178_c0:T178_c0:=F178_c0 C217 C218 C219 C178_l0
theorem k178_c0:ql 0 (subc (code Tryz.f178) [1,1,1,1]) (E178_c0 C178_c0) :=
 zj kok178 (And.intro k178_l0 trivial) (h178_c0 C217 C218 C219 C178_l0)
def N178 (f178_c0:T178_c0):Ann:=(.seq .nil (.seq .nil (.seq .nil (.cut .nil (E178_c0 f178_c0)))))
def F178 (f217:T217) (f218:T218) (f219:T219) (f178_c0:T178_c0):T178:=fun (x0,x1,x2,x3,_)=>bif x3==0 then some ([],()) else bif x1==[] then (f217 (x0,x3,())).bind fun v=>some (v.1,()) else bif decide (x3<0) then (f218 (x0,x1,())).bind fun v=>(f178_c0 (x0,x1,x2,IntKind.i64.wrap (v.1+1),())).bind fun v=>some (v.1,()) else (f178_c0 (x0,x1,x2,x3,())).bind fun v=>some (v.1,())
def C178:T178:=F178 C217 C218 C219 C178_c0
theorem ok178:FO 178 (E178 C178):=zq q1l za K178 N178 F178 C217 C218 C219 C178_c0 kok178 Tryz.func178 (And.intro k178_c0 trivial)
abbrev T149:=qa×qa×Unit→Option (List (qa)×Unit)
def E149 (f:T149):FEnt:=⟨qm,za,f⟩
def K149 (f178:T178):=lk [(178,E178 f178)]
def F149 (f178:T178):T149:=fun (x0,x1,_)=>(f178 (x0,x1,0,-1,())).bind fun v=>some (v.1,())
def C149:T149:=F149 C178
theorem ok149:FO 149 (E149 C149):=jb qm za K149 F149 C178 (kc ok178 kn) Tryz.func149
abbrev T66:=qa×Int×Unit→Option (Int×Unit)
def E66 (f:T66):FEnt:=⟨jy,qf,f⟩
def K66 (f97:T97):=lk [(97,E97 f97)]
def F66 (f97:T97):T66:=fun (x0,x1,_)=>(f97 (x0,x1,())).bind fun v=>some (v.1,())
def C66:T66:=F66 C97
theorem ok66:FO 66 (E66 C66):=jb jy qf K66 F66 C97 (kc ok97 kn) Tryz.func66
abbrev T133_c0:=Int×Bool×Unit→Option (Int×Bool×Unit)
def E133_c0 (f:T133_c0):LEnt:=⟨yh,xb,f⟩
abbrev T133_c1:=Int×Bool×Unit→Option (Int×Bool×Unit)
def E133_c1 (f:T133_c1):LEnt:=⟨yh,xb,f⟩
abbrev T133:=Int×Unit→Option (Bool×Unit)
def E133 (f:T133):FEnt:=⟨jz,qe,f⟩
def K133 (f66:T66):=lk [(66,E66 f66)]
theorem kok133:KOk Tryz.prog (K133 C66):=(kc ok66 kn)
def F133_c0 (f66:T66):T133_c0:=fun (x0,x1,_)=>bif x1 then some (x0,true,()) else bif decide (x0≥48) then bif decide (x0≤57) then some (x0,true,()) else some (x0,decide (x0≥128),()) else some (x0,decide (x0≥128),())
theorem h133_c0 (f66:T66):jd (K133 f66) 0 (subc (code Tryz.f133) [1,0,0,0,1,1,1]) .nil yh xb (F133_c0 f66):=fun v=>by kernel_rfl
def C133_c0:T133_c0:=F133_c0 C66
theorem k133_c0:ql 0 (subc (code Tryz.f133) [1,0,0,0,1,1,1]) (E133_c0 C133_c0) :=
 zp kok133 (h133_c0 C66)
def N133_c1 (f133_c0:T133_c0):Ann:=(.cond .nil (.cut .nil (E133_c0 f133_c0)))
def F133_c1 (f66:T66) (f133_c0:T133_c0):T133_c1:=fun (x0,x1,_)=>bif x1 then some (x0,true,()) else bif decide (x0≥65) then (f133_c0 (x0,decide (x0≤90),())).bind fun v=>some (v.1,v.2.1,()) else (f133_c0 (x0,false,())).bind fun v=>some (v.1,v.2.1,())
theorem h133_c1 (f66:T66) (f133_c0:T133_c0):jd (K133 f66) 0 (subc (code Tryz.f133) [1,0,0,0,1]) (N133_c1 f133_c0) yh xb (F133_c1 f66 f133_c0):=fun v=>by kernel_rfl
def C133_c1:T133_c1:=F133_c1 C66 C133_c0
theorem k133_c1:ql 0 (subc (code Tryz.f133) [1,0,0,0,1]) (E133_c1 C133_c1) :=
 zj kok133 (And.intro k133_c0 trivial) (h133_c1 C66 C133_c0)
def N133 (f133_c1:T133_c1):Ann:=(.seq .nil (.seq (.blk (.seq (.cut .nil (E133_c1 f133_c1)) .nil)) .nil))
def F133 (f66:T66) (f133_c1:T133_c1):T133:=fun (x0,_)=>bif decide (x0≥97) then (f133_c1 (x0,decide (x0≤122),())).bind fun v=>bif v.2.1 then some (true,()) else (f66 ([33,35,36,37,38,39,42,43,45,47,61,63,94,95,96,123,124,125,126],v.1,())).bind fun v=>some (decide (v.1≥0),()) else (f133_c1 (x0,false,())).bind fun v=>bif v.2.1 then some (true,()) else (f66 ([33,35,36,37,38,39,42,43,45,47,61,63,94,95,96,123,124,125,126],v.1,())).bind fun v=>some (decide (v.1≥0),())
def C133:T133:=F133 C66 C133_c1
theorem ok133:FO 133 (E133 C133):=qz jz qe K133 N133 F133 C66 C133_c1 kok133 Tryz.func133 (And.intro k133_c1 trivial)
abbrev T232_l0:=qa×Int×Int×Unit→Option ((qa×Unit)⊕(Bool×Unit))
def E232_l0 (f:T232_l0):LEnt:=⟨q1o,q4u,f⟩
abbrev T232:=qa×Unit→Option (Bool×Unit)
def E232 (f:T232):FEnt:=⟨qw,qe,f⟩
def K232 (f133:T133):=lk [(133,E133 f133)]
theorem kok232:KOk Tryz.prog (K232 C133):=(kc ok133 kn)
def F232_l0 (f133:T133):qp (qa×Int×Int×Unit) ((qa×Unit)⊕(Bool×Unit)):=fun (x0,x1,x2,_)=>bif decide (x2<x1) then bif decide (0≤x2)&&decide (x2<(↑x0.length:Int)) then (f133 ((↑(x0.getD x2.toNat 0).toNat:Int),())).bind fun v=>bif !v.1 then some (Sum.inr (Sum.inr (false,()))) else some (Sum.inl (x0,x1,IntKind.i64.wrap (x2+1),())) else none else some (Sum.inr (Sum.inl (x0,())))
def C232_l0:T232_l0:=loopN (F232_l0 C133) big
theorem k232_l0:qg 0 (subc (code Tryz.f232) [1,0,1,0,0]) (E232_l0 C232_l0):=zn q1o q4u K232 F232_l0 C133 kok232
def N232 (f232_l0:T232_l0):Ann:=(.seq .nil (.seq (.seq .nil (.blk (.loop (E232_l0 f232_l0)))) .nil))
def F232 (f133:T133) (f232_l0:T232_l0):T232:=fun (x0,_)=>(f232_l0 (x0,(↑x0.length:Int),0,())).bind fun v=>Sum.elim (fun v=>some (bif v.1==[] then false else true,())) (fun v=>some (v.1,())) v
def C232:T232:=F232 C133 C232_l0
theorem ok232:FO 232 (E232 C232):=qz qw qe K232 N232 F232 C133 C232_l0 kok232 Tryz.func232 (And.intro k232_l0 trivial)
abbrev T196_l0:=List (qa)×Int×Int×Unit→Option (Unit⊕(Bool×Unit))
def E196_l0 (f:T196_l0):LEnt:=⟨q1p,q4v,f⟩
abbrev T196:=qa×Unit→Option (Bool×Unit)
def E196 (f:T196):FEnt:=⟨qw,qe,f⟩
def K196 (f149:T149) (f232:T232):=lk [(149,E149 f149),(232,E232 f232)]
theorem kok196:KOk Tryz.prog (K196 C149 C232):=(kc ok149 (kc ok232 kn))
def F196_l0 (f149:T149) (f232:T232):qp (List (qa)×Int×Int×Unit) (Unit⊕(Bool×Unit)):=fun (x0,x1,x2,_)=>bif decide (x2<x1) then bif decide (0≤x2)&&decide (x2<(↑x0.length:Int)) then (f232 (x0.getD x2.toNat [],())).bind fun v=>bif !v.1 then some (Sum.inr (Sum.inr (false,()))) else some (Sum.inl (x0,x1,IntKind.i64.wrap (x2+1),())) else none else some (Sum.inr (Sum.inl ()))
def C196_l0:T196_l0:=loopN (F196_l0 C149 C232) big
theorem k196_l0:qg 0 (subc (code Tryz.f196) [1,0,1,0,0]) (E196_l0 C196_l0):=xj q1p q4v K196 F196_l0 C149 C232 kok196
def N196 (f196_l0:T196_l0):Ann:=(.seq .nil (.seq (.seq .nil (.blk (.loop (E196_l0 f196_l0)))) .nil))
def F196 (f149:T149) (f232:T232) (f196_l0:T196_l0):T196:=fun (x0,_)=>(f149 (x0,[46],())).bind fun v=>(f196_l0 (v.1,(↑(List.length v.1):Int),0,())).bind fun v=>Sum.elim (fun v=>some (true,())) (fun v=>some (v.1,())) v
def C196:T196:=F196 C149 C232 C196_l0
theorem ok196:FO 196 (E196 C196):=jv qw qe K196 N196 F196 C149 C232 C196_l0 kok196 Tryz.func196 (And.intro k196_l0 trivial)
abbrev T233_l0:=qa×Int×Int×qa×Unit→Option (qa×Unit)
def E233_l0 (f:T233_l0):LEnt:=⟨q1q,q4w,f⟩
abbrev T233:=qa×Unit→Option (qa×Unit)
def E233 (f:T233):FEnt:=⟨qw,jk,f⟩
def F233_l0:qp (qa×Int×Int×qa×Unit) (qa×Unit):=fun (x0,x1,x2,x3,_)=>bif decide (x2<x1) then bif decide (0≤x2)&&decide (x2<(↑x0.length:Int)) then bif (↑(x0.getD x2.toNat 0).toNat:Int)==34 then bif decide (x3.length+[92].length≤140737488355328/1) then bif decide (0≤x2)&&decide (x2<(↑x0.length:Int)) then bif decide ((x3++[92]).length+[UInt8.ofNat (↑(x0.getD x2.toNat 0).toNat:Int).toNat].length≤140737488355328/1) then some (Sum.inl (x0,x1,IntKind.i64.wrap (x2+1),x3++[92]++[UInt8.ofNat (↑(x0.getD x2.toNat 0).toNat:Int).toNat],())) else none else none else none else bif decide (0≤x2)&&decide (x2<(↑x0.length:Int)) then bif (↑(x0.getD x2.toNat 0).toNat:Int)==92 then bif decide (x3.length+[92].length≤140737488355328/1) then bif decide (0≤x2)&&decide (x2<(↑x0.length:Int)) then bif decide ((x3++[92]).length+[UInt8.ofNat (↑(x0.getD x2.toNat 0).toNat:Int).toNat].length≤140737488355328/1) then some (Sum.inl (x0,x1,IntKind.i64.wrap (x2+1),x3++[92]++[UInt8.ofNat (↑(x0.getD x2.toNat 0).toNat:Int).toNat],())) else none else none else none else bif decide (0≤x2)&&decide (x2<(↑x0.length:Int)) then bif decide (x3.length+[UInt8.ofNat (↑(x0.getD x2.toNat 0).toNat:Int).toNat].length≤140737488355328/1) then some (Sum.inl (x0,x1,IntKind.i64.wrap (x2+1),x3++[UInt8.ofNat (↑(x0.getD x2.toNat 0).toNat:Int).toNat],())) else none else none else none else none else some (Sum.inr (x3,()))
def C233_l0:T233_l0:=loopN (F233_l0) big
theorem k233_l0:qg 0 (subc (code Tryz.f233) [1,1,0,1,0,0]) (E233_l0 C233_l0):=vm q1q q4w qq F233_l0 kn
def N233 (f233_l0:T233_l0):Ann:=(.seq .nil (.seq .nil (.seq (.seq .nil (.blk (.loop (E233_l0 f233_l0)))) .nil)))
def F233 (f233_l0:T233_l0):T233:=fun (x0,_)=>(f233_l0 (x0,(↑x0.length:Int),0,[],())).bind fun v=>some (v.1,())
def C233:T233:=F233 C233_l0
theorem ok233:FO 233 (E233 C233):=jg qw jk qq N233 F233 C233_l0 kn Tryz.func233 (And.intro k233_l0 trivial)
abbrev T197:=Int×qa×Int×Unit→Option (qa×Unit)
def E197 (f:T197):FEnt:=⟨q1r,jk,f⟩
def K197 (f233:T233):=lk [(233,E233 f233)]
def F197 (f233:T233):T197:=fun (x0,x1,x2,_)=>bif x0==1 then (f233 (x1,())).bind fun v=>bif decide ([34].length+List.length v.1≤9223372036854775807) then bif decide (([34]++v.1).length+[34].length≤9223372036854775807) then some ([34]++v.1++[34],()) else none else none else bif x0==3 then bif decide ([40].length+x1.length≤9223372036854775807) then bif decide (([40]++x1).length+[41].length≤9223372036854775807) then some ([40]++x1++[41],()) else none else none else bif x0==5 then bif decide ([91].length+x1.length≤9223372036854775807) then bif decide (([91]++x1).length+[93].length≤9223372036854775807) then some ([91]++x1++[93],()) else none else none else some (x1,())
def C197:T197:=F197 C233
theorem ok197:FO 197 (E197 C197):=jb q1r jk K197 F197 C233 (kc ok233 kn) Tryz.func197
abbrev T158:=qa×qa×Unit→Option (qa×Unit)
def E158 (f:T158):FEnt:=⟨yi,jk,f⟩
def K158 (f196:T196) (f197:T197):=lk [(196,E196 f196),(197,E197 f197)]
def F158 (f196:T196) (f197:T197):T158:=fun (x0,x1,_)=>(f196 (x0,())).bind fun v=>bif !v.1 then (f197 (1,x0,0,())).bind fun v=>bif decide (List.length v.1+[64].length≤9223372036854775807) then bif decide ((v.1++[64]).length+x1.length≤9223372036854775807) then some (v.1++[64]++x1,()) else none else none else bif decide (x0.length+[64].length≤9223372036854775807) then bif decide ((x0++[64]).length+x1.length≤9223372036854775807) then some (x0++[64]++x1,()) else none else none
def C158:T158:=F158 C196 C197
theorem ok158:FO 158 (E158 C158):=xe yi jk K158 F158 C196 C197 (kc ok196 (kc ok197 kn)) Tryz.func158
abbrev T123:=Bool×qa×qa×Unit→Option (qa×Unit)
def E123 (f:T123):FEnt:=⟨jq,jk,f⟩
def K123 (f158:T158) (f50:T50):=lk [(158,E158 f158),(50,E50 f50)]
def F123 (f158:T158) (f50:T50):T123:=fun (x0,x1,x2,_)=>bif x0 then some ([60,62],()) else (f50 (x0,x1,x2,())).bind fun v=>bif v.1 then bif decide ([60].length+x1.length≤9223372036854775807) then bif decide (([60]++x1).length+[62].length≤9223372036854775807) then some ([60]++x1++[62],()) else none else none else (f158 (x1,x2,())).bind fun v=>bif decide ([60].length+List.length v.1≤9223372036854775807) then bif decide (([60]++v.1).length+[62].length≤9223372036854775807) then some ([60]++v.1++[62],()) else none else none
def C123:T123:=F123 C158 C50
theorem ok123:FO 123 (E123 C123):=xe jq jk K123 F123 C158 C50 (kc ok158 (kc ok50 kn)) Tryz.func123
abbrev T93_c0:=qa×Int×qa×Bool×qa×qa×Int×Bool×Bool×Unit→Option (qa×Unit)
def E93_c0 (f:T93_c0):LEnt:=⟨q1t,q4x,f⟩
abbrev T93_c1:=qa×Int×Bool×Int×qa×Bool×qa×qa×Int×Bool×Bool×Unit→Option ((qa×Unit)⊕(qa×Unit))
def E93_c1 (f:T93_c1):LEnt:=⟨q1u,q4y,f⟩
abbrev T93:=Int×qa×Bool×qa×qa×Int×Bool×Bool×Unit→Option (qa×Unit)
def E93 (f:T93):FEnt:=⟨q1s,jk,f⟩
def K93 (f122:T122) (f123:T123) (f124:T124):=lk [(122,E122 f122),(123,E123 f123),(124,E124 f124)]
theorem kok93:KOk Tryz.prog (K93 C122 C123 C124):=(kc ok122 (kc ok123 (kc ok124 kn)))
def F93_c0 (f122:T122) (f123:T123) (f124:T124):T93_c0:=fun (x0,x1,x2,x3,x4,x5,x6,x7,x8,_)=>bif x7 then bif decide (x0.length+[32,66,79,68,89,61,56,66,73,84,77,73,77,69].length≤9223372036854775807) then bif x8 then bif decide ((x0++[32,66,79,68,89,61,56,66,73,84,77,73,77,69]).length+[32,83,77,84,80,85,84,70,56].length≤9223372036854775807) then some (x0++[32,66,79,68,89,61,56,66,73,84,77,73,77,69]++[32,83,77,84,80,85,84,70,56],()) else none else some (x0++[32,66,79,68,89,61,56,66,73,84,77,73,77,69],()) else none else bif x8 then bif decide (x0.length+[32,83,77,84,80,85,84,70,56].length≤9223372036854775807) then some (x0++[32,83,77,84,80,85,84,70,56],()) else none else some (x0,())
theorem h93_c0 (f122:T122) (f123:T123) (f124:T124):jd (K93 f122 f123 f124) 0 (subc (code Tryz.f93) [1,1,0,1,0,1,1,1,1,1,0,1,1]) .nil q1t q4x (F93_c0 f122 f123 f124):=fun v=>by kernel_rfl
def C93_c0:T93_c0:=F93_c0 C122 C123 C124
theorem k93_c0:ql 0 (subc (code Tryz.f93) [1,1,0,1,0,1,1,1,1,1,0,1,1]) (E93_c0 C93_c0) :=
 zp kok93 (h93_c0 C122 C123 C124)
def N93_c1 (f93_c0:T93_c0):Ann:=(.cond .nil (.seq .nil (.cond .nil (.seq .nil (.cond (.seq .nil (.cut .nil (E93_c0 f93_c0))) .nil)))))
def F93_c1 (f122:T122) (f123:T123) (f124:T124) (f93_c0:T93_c0):T93_c1:=fun (x0,x1,x2,x3,x4,x5,x6,x7,x8,x9,x10,_)=>bif x2 then bif decide (x0.length+[32].length≤9223372036854775807) then bif decide ((x0++[32]).length+x4.length≤9223372036854775807) then some (Sum.inl (x0++[32]++x4,())) else none else none else bif x1==3 then bif decide (x0.length+[32,84,79,58].length≤9223372036854775807) then (f123 (x5,x6,x7,())).bind fun v=>bif decide ((x0++[32,84,79,58]).length+List.length v.1≤9223372036854775807) then some (Sum.inl (x0++[32,84,79,58]++v.1,())) else none else none else bif x1==2 then (f123 (x5,x6,x7,())).bind fun v=>bif decide ([32,70,82,79,77,58].length+List.length v.1≤9223372036854775807) then bif decide (x0.length+([32,70,82,79,77,58]++v.1).length≤9223372036854775807) then bif decide (x8≥0) then (f124 (x8,())).bind fun v1=>bif decide ([32,83,73,90,69,61].length+List.length v1.1≤9223372036854775807) then bif decide ((x0++([32,70,82,79,77,58]++v.1)).length+([32,83,73,90,69,61]++v1.1).length≤9223372036854775807) then (f93_c0 (x0++([32,70,82,79,77,58]++v.1)++([32,83,73,90,69,61]++v1.1),x3,x4,x5,x6,x7,x8,x9,x10,())).bind fun v=>some (Sum.inr (v.1,())) else none else none else (f93_c0 (x0++([32,70,82,79,77,58]++v.1),x3,x4,x5,x6,x7,x8,x9,x10,())).bind fun v=>some (Sum.inr (v.1,())) else none else none else some (Sum.inr (x0,()))
theorem h93_c1 (f122:T122) (f123:T123) (f124:T124) (f93_c0:T93_c0):jd (K93 f122 f123 f124) 0 (subc (code Tryz.f93) [1,1,0,1,0,1]) (N93_c1 f93_c0) q1u q4y (F93_c1 f122 f123 f124 f93_c0):=fun v=>by kernel_rfl
def C93_c1:T93_c1:=F93_c1 C122 C123 C124 C93_c0
theorem k93_c1:ql 0 (subc (code Tryz.f93) [1,1,0,1,0,1]) (E93_c1 C93_c1) :=
 zj kok93 (And.intro k93_c0 trivial) (h93_c1 C122 C123 C124 C93_c0)
def N93 (f93_c1:T93_c1):Ann:=(.seq .nil (.seq .nil (.seq (.seq .nil (.blk (.cut .nil (E93_c1 f93_c1)))) .nil)))
def F93 (f122:T122) (f123:T123) (f124:T124) (f93_c1:T93_c1):T93:=fun (x0,x1,x2,x3,x4,x5,x6,x7,_)=>(f122 (x0,())).bind fun v=>bif x0==0 then (f93_c1 (v.1,x0,true,x0,x1,x2,x3,x4,x5,x6,x7,())).bind fun v=>Sum.elim (fun v=>some (v.1,())) (fun v=>some (v.1,())) v else (f93_c1 (v.1,x0,x0==1,x0,x1,x2,x3,x4,x5,x6,x7,())).bind fun v=>Sum.elim (fun v=>some (v.1,())) (fun v=>some (v.1,())) v
def C93:T93:=F93 C122 C123 C124 C93_c1
theorem ok93:FO 93 (E93 C93):=zq q1s jk K93 N93 F93 C122 C123 C124 C93_c1 kok93 Tryz.func93 (And.intro k93_c1 trivial)
abbrev T61:=qb×qc×qd×qa×Bool×qa×qa×List (qa)×Bool×Bool×Bool×Int×Int×Int×Bool×qa×qa×Int×Bool×Int×Int×Bool×Bool×Int×Int×Bool×qa×qa×Bool×qa×qa×Bool×Bool×Int×Unit→Option (qa×qb×qc×qd×qa×Bool×qa×qa×List (qa)×Bool×Bool×Bool×Int×Int×Int×Bool×qa×qa×Int×Bool×Int×Int×Bool×Bool×Int×Int×Bool×qa×qa×Bool×qa×qa×Bool×Bool×Int×Unit)
def E61 (f:T61):FEnt:=⟨qx,xc,f⟩
def K61 (f93:T93):=lk [(93,E93 f93)]
def F61 (f93:T93):T61:=fun (x0,x1,x2,x3,x4,x5,x6,x7,x8,x9,x10,x11,x12,x13,x14,x15,x16,x17,x18,x19,x20,x21,x22,x23,x24,x25,x26,x27,x28,x29,x30,x31,x32,x33,_)=>(f93 (2,[],x25,x26,x27,-1,x32,x31,())).bind fun v=>some (v.1,x0,x1,x2,x3,x4,x5,x6,x7,x8,x9,x10,x11,x12,x13,x14,x15,x16,x17,x18,x19,x20,x21,x22,x23,x24,x25,x26,x27,x28,x29,x30,x31,x32,x33,())
theorem h61 (f93:T93):qn (K61 f93) 1 Tryz.f61 .nil qx xc (F61 f93):=fun v=>by kernel_rfl
def C61:T61:=F61 C93
theorem ok61:FO 61 (E61 C61) :=
 q0 (kc ok93 kn) Tryz.func61 (h61 C93)
abbrev T62:=qb×qc×qd×qa×Bool×qa×qa×List (qa)×Bool×Bool×Bool×Int×Int×Int×Bool×qa×qa×Int×Bool×Int×Int×Bool×Bool×Int×Int×Bool×qa×qa×Bool×qa×qa×Bool×Bool×Int×Unit→Option (qa×qb×qc×qd×qa×Bool×qa×qa×List (qa)×Bool×Bool×Bool×Int×Int×Int×Bool×qa×qa×Int×Bool×Int×Int×Bool×Bool×Int×Int×Bool×qa×qa×Bool×qa×qa×Bool×Bool×Int×Unit)
def E62 (f:T62):FEnt:=⟨qx,xc,f⟩
def K62 (f93:T93):=lk [(93,E93 f93)]
def F62 (f93:T93):T62:=fun (x0,x1,x2,x3,x4,x5,x6,x7,x8,x9,x10,x11,x12,x13,x14,x15,x16,x17,x18,x19,x20,x21,x22,x23,x24,x25,x26,x27,x28,x29,x30,x31,x32,x33,_)=>(f93 (3,[],x28,x29,x30,-1,false,false,())).bind fun v=>some (v.1,x0,x1,x2,x3,x4,x5,x6,x7,x8,x9,x10,x11,x12,x13,x14,x15,x16,x17,x18,x19,x20,x21,x22,x23,x24,x25,x26,x27,x28,x29,x30,x31,x32,x33,())
theorem h62 (f93:T93):qn (K62 f93) 1 Tryz.f62 .nil qx xc (F62 f93):=fun v=>by kernel_rfl
def C62:T62:=F62 C93
theorem ok62:FO 62 (E62 C62) :=
 q0 (kc ok93 kn) Tryz.func62 (h62 C93)
abbrev T39_c0:=qb×qc×qd×qa×Bool×qa×qa×List (qa)×Bool×Bool×Bool×Int×Int×Int×Bool×qa×qa×Int×Bool×Int×Int×Bool×Bool×Int×Int×Bool×qa×qa×Bool×qa×qa×Bool×Bool×Int×Unit→Option (List ((Int×qa))×qb×qc×qd×qa×Bool×qa×qa×List (qa)×Bool×Bool×Bool×Int×Int×Int×Bool×qa×qa×Int×Bool×Int×Int×Bool×Bool×Int×Int×Bool×qa×qa×Bool×qa×qa×Bool×Bool×Int×Unit)
def E39_c0 (f:T39_c0):LEnt:=⟨yj,zi,f⟩
abbrev T39_c1:=qb×qc×qd×qa×Bool×qa×qa×List (qa)×Bool×Bool×Bool×Int×Int×Int×Bool×qa×qa×Int×Bool×Int×Int×Bool×Bool×Int×Int×Bool×qa×qa×Bool×qa×qa×Bool×Bool×Int×Bool×Bool×Bool×Int×Int×Unit→Option (List ((Int×qa))×qb×qc×qd×qa×Bool×qa×qa×List (qa)×Bool×Bool×Bool×Int×Int×Int×Bool×qa×qa×Int×Bool×Int×Int×Bool×Bool×Int×Int×Bool×qa×qa×Bool×qa×qa×Bool×Bool×Int×Unit)
def E39_c1 (f:T39_c1):LEnt:=⟨q1v,zi,f⟩
abbrev T39_c2:=qb×qc×qd×qa×Bool×qa×qa×List (qa)×Bool×Bool×Bool×Int×Int×Int×Bool×qa×qa×Int×Bool×Int×Int×Bool×Bool×Int×Int×Bool×qa×qa×Bool×qa×qa×Bool×Bool×Int×Unit→Option (List ((Int×qa))×qb×qc×qd×qa×Bool×qa×qa×List (qa)×Bool×Bool×Bool×Int×Int×Int×Bool×qa×qa×Int×Bool×Int×Int×Bool×Bool×Int×Int×Bool×qa×qa×Bool×qa×qa×Bool×Bool×Int×Unit)
def E39_c2 (f:T39_c2):LEnt:=⟨yj,zi,f⟩
abbrev T39:=Int×List (qa)×qb×qc×qd×qa×Bool×qa×qa×List (qa)×Bool×Bool×Bool×Int×Int×Int×Bool×qa×qa×Int×Bool×Int×Int×Bool×Bool×Int×Int×Bool×qa×qa×Bool×qa×qa×Bool×Bool×Int×Unit→Option (List ((Int×qa))×qb×qc×qd×qa×Bool×qa×qa×List (qa)×Bool×Bool×Bool×Int×Int×Int×Bool×qa×qa×Int×Bool×Int×Int×Bool×Bool×Int×Int×Bool×qa×qa×Bool×qa×qa×Bool×Bool×Int×Unit)
def E39 (f:T39):FEnt:=⟨jc,qu,f⟩
def K39 (f57:T57) (f58:T58) (f59:T59) (f60:T60) (f61:T61) (f62:T62):=lk [(57,E57 f57),(58,E58 f58),(59,E59 f59),(60,E60 f60),(61,E61 f61),(62,E62 f62)]
theorem kok39:KOk Tryz.prog (K39 C57 C58 C59 C60 C61 C62):=(kc ok57 (kc ok58 (kc ok59 (kc ok60 (kc ok61 (kc ok62 kn))))))
def F39_c0 (f57:T57) (f58:T58) (f59:T59) (f60:T60) (f61:T61) (f62:T62):T39_c0:=fun (x0,x1,x2,x3,x4,x5,x6,x7,x8,x9,x10,x11,x12,x13,x14,x15,x16,x17,x18,x19,x20,x21,x22,x23,x24,x25,x26,x27,x28,x29,x30,x31,x32,x33,_)=>bif x24==2 then (f58 (3,x33,x0,x1,x2,x3,x4,x5,x6,x7,x8,x9,x10,x11,x12,x13,x14,x15,x16,x17,x18,x19,x20,x21,x22,x23,x24,x25,x26,x27,x28,x29,x30,x31,x32,x33,())).bind fun v=>some (v) else (f61 (x0,x1,x2,x3,x4,x5,x6,x7,x8,x9,x10,x11,x12,x13,x14,x15,x16,x17,x18,x19,x20,x21,x22,x23,x24,x25,x26,x27,x28,x29,x30,x31,x32,x33,())).bind fun v=>bif decide ((↑(List.length v.1):Int)>510) then (f58 (3,500,v.2)).bind fun v=>some (v) else (f62 (v.2)).bind fun v=>bif decide ((↑(List.length v.1):Int)>510) then (f58 (3,500,v.2)).bind fun v=>some (v) else (f61 (v.2)).bind fun v=>(f57 (2,v)).bind fun v=>some (v)
theorem h39_c0 (f57:T57) (f58:T58) (f59:T59) (f60:T60) (f61:T61) (f62:T62):jd (K39 f57 f58 f59 f60 f61 f62) 1 (subc (code Tryz.f39) [1,1,1,1,1]) .nil yj zi (F39_c0 f57 f58 f59 f60 f61 f62):=fun v=>by kernel_rfl
def C39_c0:T39_c0:=F39_c0 C57 C58 C59 C60 C61 C62
theorem k39_c0:ql 1 (subc (code Tryz.f39) [1,1,1,1,1]) (E39_c0 C39_c0) :=
 zp kok39 (h39_c0 C57 C58 C59 C60 C61 C62)
def N39_c1 (f39_c0:T39_c0):Ann:=(.cut .nil (E39_c0 f39_c0))
def F39_c1 (f57:T57) (f58:T58) (f59:T59) (f60:T60) (f61:T61) (f62:T62) (f39_c0:T39_c0):T39_c1:=fun (x0,x1,x2,x3,x4,x5,x6,x7,x8,x9,x10,x11,x12,x13,x14,x15,x16,x17,x18,x19,x20,x21,x22,x23,x24,x25,x26,x27,x28,x29,x30,x31,x32,x33,x34,x35,x36,x37,x38,_)=>(f60 (x0,x1,x2,x21,x22,x23,x4,x5,x6,x14,x15,x16,x34,x35,x13,())).bind fun v=>(f39_c0 (x0,x1,x2,x3,x4,x5,x6,x7,x8,x9,x10,x11,x12,x13,x14,x15,x16,x17,x18,x19,x20,x21,x22,x23,v.1,v.2.1,v.2.2.1,v.2.2.2.1,v.2.2.2.2.1,v.2.2.2.2.2.1,v.2.2.2.2.2.2.1,v.2.2.2.2.2.2.2.1,v.2.2.2.2.2.2.2.2.1,v.2.2.2.2.2.2.2.2.2.1,())).bind fun v=>some (v)
theorem h39_c1 (f57:T57) (f58:T58) (f59:T59) (f60:T60) (f61:T61) (f62:T62) (f39_c0:T39_c0):jd (K39 f57 f58 f59 f60 f61 f62) 1 (subc (code Tryz.f39) [1,1,1,1]) (N39_c1 f39_c0) q1v zi (F39_c1 f57 f58 f59 f60 f61 f62 f39_c0):=fun v=>by kernel_rfl
def C39_c1:T39_c1:=F39_c1 C57 C58 C59 C60 C61 C62 C39_c0
theorem k39_c1:ql 1 (subc (code Tryz.f39) [1,1,1,1]) (E39_c1 C39_c1) :=
 zj kok39 (And.intro k39_c0 trivial) (h39_c1 C57 C58 C59 C60 C61 C62 C39_c0)
def N39_c2 (f39_c1:T39_c1):Ann:=(.cut .nil (E39_c1 f39_c1))
def F39_c2 (f57:T57) (f58:T58) (f59:T59) (f60:T60) (f61:T61) (f62:T62) (f39_c1:T39_c1):T39_c2:=fun (x0,x1,x2,x3,x4,x5,x6,x7,x8,x9,x10,x11,x12,x13,x14,x15,x16,x17,x18,x19,x20,x21,x22,x23,x24,x25,x26,x27,x28,x29,x30,x31,x32,x33,_)=>(f39_c1 (x0,x1,x2,x3,x4,x5,x6,x7,x8,x9,x10,x11,x12,x13,x14,x15,x16,x17,x18,x19,x20,x21,x22,x23,x24,x25,x26,x27,x28,x29,x30,x31,x32,x33,x8,x9,x10,x11,x12,())).bind fun v=>some (v)
theorem h39_c2 (f57:T57) (f58:T58) (f59:T59) (f60:T60) (f61:T61) (f62:T62) (f39_c1:T39_c1):jd (K39 f57 f58 f59 f60 f61 f62) 1 (subc (code Tryz.f39) [1,1,1]) (N39_c2 f39_c1) yj zi (F39_c2 f57 f58 f59 f60 f61 f62 f39_c1):=fun v=>by kernel_rfl
def C39_c2:T39_c2:=F39_c2 C57 C58 C59 C60 C61 C62 C39_c1
theorem k39_c2:ql 1 (subc (code Tryz.f39) [1,1,1]) (E39_c2 C39_c2) :=
 zj kok39 (And.intro k39_c1 trivial) (h39_c2 C57 C58 C59 C60 C61 C62 C39_c1)
def N39 (f39_c2:T39_c2):Ann:=(.seq .nil (.seq .nil (.cut .nil (E39_c2 f39_c2))))
def F39 (f57:T57) (f58:T58) (f59:T59) (f60:T60) (f61:T61) (f62:T62) (f39_c2:T39_c2):T39:=fun (x0,x1,x2,x3,x4,x5,x6,x7,x8,x9,x10,x11,x12,x13,x14,x15,x16,x17,x18,x19,x20,x21,x22,x23,x24,x25,x26,x27,x28,x29,x30,x31,x32,x33,x34,x35,_)=>bif !x20 then (f59 (x0,x1,())).bind fun v=>(f39_c2 (x2,x3,x4,x5,x6,x7,x8,x9,x10,x11,x12,x13,x14,x15,x16,x17,x18,x19,x20,x21,x22,v.1,v.2.1,v.2.2.1,x26,x27,x28,x29,x30,x31,x32,x33,x34,x35,())).bind fun v=>some (v) else (f39_c2 (x2,x3,x4,x5,x6,x7,x8,x9,x10,x11,x12,x13,x14,x15,x16,x17,x18,x19,x20,x21,x22,false,false,0,x26,x27,x28,x29,x30,x31,x32,x33,x34,x35,())).bind fun v=>some (v)
theorem h39 (f57:T57) (f58:T58) (f59:T59) (f60:T60) (f61:T61) (f62:T62) (f39_c2:T39_c2):qn (K39 f57 f58 f59 f60 f61 f62) 1 Tryz.f39 (N39 f39_c2) jc qu (F39 f57 f58 f59 f60 f61 f62 f39_c2):=fun v=>by kernel_rfl
def C39:T39:=F39 C57 C58 C59 C60 C61 C62 C39_c2
theorem ok39:FO 39 (E39 C39) :=
 qo kok39 Tryz.func39 (And.intro k39_c2 trivial) (h39 C57 C58 C59 C60 C61 C62 C39_c2)
abbrev T40:=Int×List (qa)×qb×qc×qd×qa×Bool×qa×qa×List (qa)×Bool×Bool×Bool×Int×Int×Int×Bool×qa×qa×Int×Bool×Int×Int×Bool×Bool×Int×Int×Bool×qa×qa×Bool×qa×qa×Bool×Bool×Int×Unit→Option (List ((Int×qa))×qb×qc×qd×qa×Bool×qa×qa×List (qa)×Bool×Bool×Bool×Int×Int×Int×Bool×qa×qa×Int×Bool×Int×Int×Bool×Bool×Int×Int×Bool×qa×qa×Bool×qa×qa×Bool×Bool×Int×Unit)
def E40 (f:T40):FEnt:=⟨jc,qu,f⟩
def K40 (f57:T57) (f62:T62):=lk [(57,E57 f57),(62,E62 f62)]
def F40 (f57:T57) (f62:T62):T40:=fun (x0,x1,x2,x3,x4,x5,x6,x7,x8,x9,x10,x11,x12,x13,x14,x15,x16,x17,x18,x19,x20,x21,x22,x23,x24,x25,x26,x27,x28,x29,x30,x31,x32,x33,x34,x35,_)=>(f62 (x2,x3,x4,x5,x6,x7,x8,x9,x10,x11,x12,x13,x14,x15,x16,x17,x18,x19,x20,x21,x22,x23,x24,x25,x26,x27,x28,x29,x30,x31,x32,x33,x34,x35,())).bind fun v=>(f57 (3,v)).bind fun v=>some (v)
theorem h40 (f57:T57) (f62:T62):qn (K40 f57 f62) 1 Tryz.f40 .nil jc qu (F40 f57 f62):=fun v=>by kernel_rfl
def C40:T40:=F40 C57 C62
theorem ok40:FO 40 (E40 C40) :=
 q0 (kc ok57 (kc ok62 kn)) Tryz.func40 (h40 C57 C62)
abbrev T41:=Int×List (qa)×qb×qc×qd×qa×Bool×qa×qa×List (qa)×Bool×Bool×Bool×Int×Int×Int×Bool×qa×qa×Int×Bool×Int×Int×Bool×Bool×Int×Int×Bool×qa×qa×Bool×qa×qa×Bool×Bool×Int×Unit→Option (List ((Int×qa))×qb×qc×qd×qa×Bool×qa×qa×List (qa)×Bool×Bool×Bool×Int×Int×Int×Bool×qa×qa×Int×Bool×Int×Int×Bool×Bool×Int×Int×Bool×qa×qa×Bool×qa×qa×Bool×Bool×Int×Unit)
def E41 (f:T41):FEnt:=⟨jc,qu,f⟩
def K41 (f57:T57):=lk [(57,E57 f57)]
def F41 (f57:T57):T41:=fun (x0,x1,x2,x3,x4,x5,x6,x7,x8,x9,x10,x11,x12,x13,x14,x15,x16,x17,x18,x19,x20,x21,x22,x23,x24,x25,x26,x27,x28,x29,x30,x31,x32,x33,x34,x35,_)=>(f57 (4,[68,65,84,65],x2,x3,x4,x5,x6,x7,x8,x9,x10,x11,x12,x13,x14,x15,x16,x17,x18,x19,x20,x21,x22,x23,x24,x25,x26,x27,x28,x29,x30,x31,x32,x33,x34,x35,())).bind fun v=>some (v)
theorem h41 (f57:T57):qn (K41 f57) 1 Tryz.f41 .nil jc qu (F41 f57):=fun v=>by kernel_rfl
def C41:T41:=F41 C57
theorem ok41:FO 41 (E41 C41) :=
 q0 (kc ok57 kn) Tryz.func41 (h41 C57)
abbrev T42:=Int×List (qa)×qb×qc×qd×qa×Bool×qa×qa×List (qa)×Bool×Bool×Bool×Int×Int×Int×Bool×qa×qa×Int×Bool×Int×Int×Bool×Bool×Int×Int×Bool×qa×qa×Bool×qa×qa×Bool×Bool×Int×Unit→Option (List ((Int×qa))×qb×qc×qd×qa×Bool×qa×qa×List (qa)×Bool×Bool×Bool×Int×Int×Int×Bool×qa×qa×Int×Bool×Int×Int×Bool×Bool×Int×Int×Bool×qa×qa×Bool×qa×qa×Bool×Bool×Int×Unit)
def E42 (f:T42):FEnt:=⟨jc,qu,f⟩
def K42 (f58:T58):=lk [(58,E58 f58)]
def F42 (f58:T58):T42:=fun (x0,x1,x2,x3,x4,x5,x6,x7,x8,x9,x10,x11,x12,x13,x14,x15,x16,x17,x18,x19,x20,x21,x22,x23,x24,x25,x26,x27,x28,x29,x30,x31,x32,x33,x34,x35,_)=>(f58 (1,0,x2,x3,x4,x5,x6,x7,x8,x9,x10,x11,x12,x13,x14,x15,x16,x17,x18,x19,x20,x21,x22,x23,x24,x25,x26,x27,x28,x29,x30,x31,x32,x33,x34,x35,())).bind fun v=>some (v)
theorem h42 (f58:T58):qn (K42 f58) 1 Tryz.f42 .nil jc qu (F42 f58):=fun v=>by kernel_rfl
def C42:T42:=F42 C58
theorem ok42:FO 42 (E42 C42) :=
 q0 (kc ok58 kn) Tryz.func42 (h42 C58)
abbrev T14_c0:=Int×Bool×qb×qc×qd×qa×Bool×qa×qa×List (qa)×Bool×Bool×Bool×Int×Int×Int×Bool×qa×qa×Int×Bool×Int×Int×Bool×Bool×Int×Int×Bool×qa×qa×Bool×qa×qa×Bool×Bool×Int×Int×List (qa)×Unit→Option ((List ((Int×qa))×qb×qc×qd×qa×Bool×qa×qa×List (qa)×Bool×Bool×Bool×Int×Int×Int×Bool×qa×qa×Int×Bool×Int×Int×Bool×Bool×Int×Int×Bool×qa×qa×Bool×qa×qa×Bool×Bool×Int×Unit)⊕(qb×qc×qd×qa×Bool×qa×qa×List (qa)×Bool×Bool×Bool×Int×Int×Int×Bool×qa×qa×Int×Bool×Int×Int×Bool×Bool×Int×Int×Bool×qa×qa×Bool×qa×qa×Bool×Bool×Int×Int×List (qa)×Unit))
def E14_c0 (f:T14_c0):LEnt:=⟨q1w,xd,f⟩
abbrev T14_c1:=Int×Bool×qb×qc×qd×qa×Bool×qa×qa×List (qa)×Bool×Bool×Bool×Int×Int×Int×Bool×qa×qa×Int×Bool×Int×Int×Bool×Bool×Int×Int×Bool×qa×qa×Bool×qa×qa×Bool×Bool×Int×Int×List (qa)×Unit→Option ((List ((Int×qa))×qb×qc×qd×qa×Bool×qa×qa×List (qa)×Bool×Bool×Bool×Int×Int×Int×Bool×qa×qa×Int×Bool×Int×Int×Bool×Bool×Int×Int×Bool×qa×qa×Bool×qa×qa×Bool×Bool×Int×Unit)⊕(qb×qc×qd×qa×Bool×qa×qa×List (qa)×Bool×Bool×Bool×Int×Int×Int×Bool×qa×qa×Int×Bool×Int×Int×Bool×Bool×Int×Int×Bool×qa×qa×Bool×qa×qa×Bool×Bool×Int×Int×List (qa)×Unit))
def E14_c1 (f:T14_c1):LEnt:=⟨q1x,xd,f⟩
abbrev T14:=Int×List (qa)×qb×qc×qd×qa×Bool×qa×qa×List (qa)×Bool×Bool×Bool×Int×Int×Int×Bool×qa×qa×Int×Bool×Int×Int×Bool×Bool×Int×Int×Bool×qa×qa×Bool×qa×qa×Bool×Bool×Int×Unit→Option (List ((Int×qa))×qb×qc×qd×qa×Bool×qa×qa×List (qa)×Bool×Bool×Bool×Int×Int×Int×Bool×qa×qa×Int×Bool×Int×Int×Bool×Bool×Int×Int×Bool×qa×qa×Bool×qa×qa×Bool×Bool×Int×Unit)
def E14 (f:T14):FEnt:=⟨jc,qu,f⟩
def K14 (f34:T34) (f35:T35) (f36:T36) (f37:T37) (f38:T38) (f39:T39) (f40:T40) (f41:T41) (f42:T42):=lk [(34,E34 f34),(35,E35 f35),(36,E36 f36),(37,E37 f37),(38,E38 f38),(39,E39 f39),(40,E40 f40),(41,E41 f41),(42,E42 f42)]
theorem kok14:KOk Tryz.prog (K14 C34 C35 C36 C37 C38 C39 C40 C41 C42):=(kc ok34 (kc ok35 (kc ok36 (kc ok37 (kc ok38 (kc ok39 (kc ok40 (kc ok41 (kc ok42 kn)))))))))
def F14_c0 (f34:T34) (f35:T35) (f36:T36) (f37:T37) (f38:T38) (f39:T39) (f40:T40) (f41:T41) (f42:T42):T14_c0:=fun (x0,x1,x2,x3,x4,x5,x6,x7,x8,x9,x10,x11,x12,x13,x14,x15,x16,x17,x18,x19,x20,x21,x22,x23,x24,x25,x26,x27,x28,x29,x30,x31,x32,x33,x34,x35,x36,x37,_)=>bif x1 then (f35 (x2,x3,x4,x5,x6,x7,x8,x9,x10,x11,x12,x13,x14,x15,x16,x17,x18,x19,x20,x21,x22,x23,x24,x25,x26,x27,x28,x29,x30,x31,x32,x33,x34,x35,())).bind fun v=>some (Sum.inl (v)) else bif x0==5 then (f36 (x2,x3,x4,x5,x6,x7,x8,x9,x10,x11,x12,x13,x14,x15,x16,x17,x18,x19,x20,x21,x22,x23,x24,x25,x26,x27,x28,x29,x30,x31,x32,x33,x34,x35,())).bind fun v=>some (Sum.inl (v)) else bif x0 != 2 then (f37 (x36,x37,x2,x3,x4,x5,x6,x7,x8,x9,x10,x11,x12,x13,x14,x15,x16,x17,x18,x19,x20,x21,x22,x23,x24,x25,x26,x27,x28,x29,x30,x31,x32,x33,x34,x35,())).bind fun v=>some (Sum.inl (v)) else some (Sum.inr (x2,x3,x4,x5,x6,x7,x8,x9,x10,x11,x12,x13,x14,x15,x16,x17,x18,x19,x20,x21,x22,x23,x24,x25,x26,x27,x28,x29,x30,x31,x32,x33,x34,x35,x36,x37,()))
theorem h14_c0 (f34:T34) (f35:T35) (f36:T36) (f37:T37) (f38:T38) (f39:T39) (f40:T40) (f41:T41) (f42:T42):jd (K14 f34 f35 f36 f37 f38 f39 f40 f41 f42) 1 (subc (code Tryz.f14) [1,1,0,0,1,1,1]) .nil q1w xd (F14_c0 f34 f35 f36 f37 f38 f39 f40 f41 f42):=fun v=>by kernel_rfl
def C14_c0:T14_c0:=F14_c0 C34 C35 C36 C37 C38 C39 C40 C41 C42
theorem k14_c0:ql 1 (subc (code Tryz.f14) [1,1,0,0,1,1,1]) (E14_c0 C14_c0) :=
 zp kok14 (h14_c0 C34 C35 C36 C37 C38 C39 C40 C41 C42)
def N14_c1 (f14_c0:T14_c0):Ann:=(.cond .nil (.cut .nil (E14_c0 f14_c0)))
def F14_c1 (f34:T34) (f35:T35) (f36:T36) (f37:T37) (f38:T38) (f39:T39) (f40:T40) (f41:T41) (f42:T42) (f14_c0:T14_c0):T14_c1:=fun (x0,x1,x2,x3,x4,x5,x6,x7,x8,x9,x10,x11,x12,x13,x14,x15,x16,x17,x18,x19,x20,x21,x22,x23,x24,x25,x26,x27,x28,x29,x30,x31,x32,x33,x34,x35,x36,x37,_)=>bif x1 then some (Sum.inl ([],x2,x3,x4,x5,x6,x7,x8,x9,x10,x11,x12,x13,x14,x15,x16,x17,x18,x19,x20,x21,x22,x23,x24,x25,x26,x27,x28,x29,x30,x31,x32,x33,x34,x35,())) else bif x0==3 then (f14_c0 (x0,x19==4,x2,x3,x4,x5,x6,x7,x8,x9,x10,x11,x12,x13,x14,x15,x16,x17,x18,x19,x20,x21,x22,x23,x24,x25,x26,x27,x28,x29,x30,x31,x32,x33,x34,x35,x36,x37,())).bind fun v=>Sum.elim (fun v=>some (Sum.inl (v))) (fun v=>some (Sum.inr (v))) v else (f14_c0 (x0,false,x2,x3,x4,x5,x6,x7,x8,x9,x10,x11,x12,x13,x14,x15,x16,x17,x18,x19,x20,x21,x22,x23,x24,x25,x26,x27,x28,x29,x30,x31,x32,x33,x34,x35,x36,x37,())).bind fun v=>Sum.elim (fun v=>some (Sum.inl (v))) (fun v=>some (Sum.inr (v))) v
theorem h14_c1 (f34:T34) (f35:T35) (f36:T36) (f37:T37) (f38:T38) (f39:T39) (f40:T40) (f41:T41) (f42:T42) (f14_c0:T14_c0):jd (K14 f34 f35 f36 f37 f38 f39 f40 f41 f42) 1 (subc (code Tryz.f14) [1,1,0,0,1]) (N14_c1 f14_c0) q1x xd (F14_c1 f34 f35 f36 f37 f38 f39 f40 f41 f42 f14_c0):=fun v=>by kernel_rfl
def C14_c1:T14_c1:=F14_c1 C34 C35 C36 C37 C38 C39 C40 C41 C42 C14_c0
theorem k14_c1:ql 1 (subc (code Tryz.f14) [1,1,0,0,1]) (E14_c1 C14_c1) :=
 zj kok14 (And.intro k14_c0 trivial) (h14_c1 C34 C35 C36 C37 C38 C39 C40 C41 C42 C14_c0)
def N14 (f14_c1:T14_c1):Ann:=(.seq .nil (.seq .nil (.seq (.blk (.cut .nil (E14_c1 f14_c1))) .nil)))
def Q14:qb×qc×qd×qa×Bool×qa×qa×List (qa)×Bool×Bool×Bool×Int×Int×Int×Bool×qa×qa×Int×Bool×Int×Int×Bool×Bool×Int×Int×Bool×qa×qa×Bool×qa×qa×Bool×Bool×Int×Int×List (qa)×Unit→qb×qc×qd×qa×Bool×qa×qa×List (qa)×Bool×Bool×Bool×Int×Int×Int×Bool×qa×qa×Int×Bool×Int×Int×Bool×Bool×Int×Int×Bool×qa×qa×Bool×qa×qa×Bool×Bool×Int×Unit:=fun (x0,x1,x2,x3,x4,x5,x6,x7,x8,x9,x10,x11,x12,x13,x14,x15,x16,x17,x18,x19,x20,x21,x22,x23,x24,x25,x26,x27,x28,x29,x30,x31,x32,x33,x34,x35,_)=>(x0,x1,x2,x3,x4,x5,x6,x7,x8,x9,x10,x11,x12,x13,x14,x15,x16,x17,x18,x19,x20,x21,x22,x23,x24,x25,x26,x27,x28,x29,x30,x31,x32,x33,())
def F14 (f34:T34) (f35:T35) (f36:T36) (f37:T37) (f38:T38) (f39:T39) (f40:T40) (f41:T41) (f42:T42) (f14_c1:T14_c1):T14:=fun (x0,x1,x2,x3,x4,x5,x6,x7,x8,x9,x10,x11,x12,x13,x14,x15,x16,x17,x18,x19,x20,x21,x22,x23,x24,x25,x26,x27,x28,x29,x30,x31,x32,x33,x34,x35,_)=>(f34 (x0,())).bind fun v=>bif x19==6 then (f14_c1 (v.1,true,x2,x3,x4,x5,x6,x7,x8,x9,x10,x11,x12,x13,x14,x15,x16,x17,x18,x19,x20,x21,x22,x23,x24,x25,x26,x27,x28,x29,x30,x31,x32,x33,x34,x35,x0,x1,())).bind fun v=>Sum.elim (fun v=>some (v)) (fun v=>bif decide (v.2.2.2.2.2.2.2.2.2.2.2.2.2.2.2.2.2.1=(↑0:Int)) then (f38 (v.2.2.2.2.2.2.2.2.2.2.2.2.2.2.2.2.2.2.2.2.2.2.2.2.2.2.2.2.2.2.2.2.2.2.1,v.2.2.2.2.2.2.2.2.2.2.2.2.2.2.2.2.2.2.2.2.2.2.2.2.2.2.2.2.2.2.2.2.2.2.2.1,(Q14 v))).bind fun v=>some (v) else bif decide (v.2.2.2.2.2.2.2.2.2.2.2.2.2.2.2.2.2.1=(↑1:Int)) then (f39 (v.2.2.2.2.2.2.2.2.2.2.2.2.2.2.2.2.2.2.2.2.2.2.2.2.2.2.2.2.2.2.2.2.2.2.1,v.2.2.2.2.2.2.2.2.2.2.2.2.2.2.2.2.2.2.2.2.2.2.2.2.2.2.2.2.2.2.2.2.2.2.2.1,(Q14 v))).bind fun v=>some (v) else bif decide (v.2.2.2.2.2.2.2.2.2.2.2.2.2.2.2.2.2.1=(↑2:Int)) then (f40 (v.2.2.2.2.2.2.2.2.2.2.2.2.2.2.2.2.2.2.2.2.2.2.2.2.2.2.2.2.2.2.2.2.2.2.1,v.2.2.2.2.2.2.2.2.2.2.2.2.2.2.2.2.2.2.2.2.2.2.2.2.2.2.2.2.2.2.2.2.2.2.2.1,(Q14 v))).bind fun v=>some (v) else bif decide (v.2.2.2.2.2.2.2.2.2.2.2.2.2.2.2.2.2.1=(↑3:Int)) then (f41 (v.2.2.2.2.2.2.2.2.2.2.2.2.2.2.2.2.2.2.2.2.2.2.2.2.2.2.2.2.2.2.2.2.2.2.1,v.2.2.2.2.2.2.2.2.2.2.2.2.2.2.2.2.2.2.2.2.2.2.2.2.2.2.2.2.2.2.2.2.2.2.2.1,(Q14 v))).bind fun v=>some (v) else bif decide (v.2.2.2.2.2.2.2.2.2.2.2.2.2.2.2.2.2.1=(↑4:Int)) then (f37 (v.2.2.2.2.2.2.2.2.2.2.2.2.2.2.2.2.2.2.2.2.2.2.2.2.2.2.2.2.2.2.2.2.2.2.1,v.2.2.2.2.2.2.2.2.2.2.2.2.2.2.2.2.2.2.2.2.2.2.2.2.2.2.2.2.2.2.2.2.2.2.2.1,(Q14 v))).bind fun v=>some (v) else bif decide (v.2.2.2.2.2.2.2.2.2.2.2.2.2.2.2.2.2.1=(↑5:Int)) then (f42 (v.2.2.2.2.2.2.2.2.2.2.2.2.2.2.2.2.2.2.2.2.2.2.2.2.2.2.2.2.2.2.2.2.2.2.1,v.2.2.2.2.2.2.2.2.2.2.2.2.2.2.2.2.2.2.2.2.2.2.2.2.2.2.2.2.2.2.2.2.2.2.2.1,(Q14 v))).bind fun v=>some (v) else none) v else (f14_c1 (v.1,v.1==0,x2,x3,x4,x5,x6,x7,x8,x9,x10,x11,x12,x13,x14,x15,x16,x17,x18,x19,x20,x21,x22,x23,x24,x25,x26,x27,x28,x29,x30,x31,x32,x33,x34,x35,x0,x1,())).bind fun v=>Sum.elim (fun v=>some (v)) (fun v=>bif decide (v.2.2.2.2.2.2.2.2.2.2.2.2.2.2.2.2.2.1=(↑0:Int)) then (f38 (v.2.2.2.2.2.2.2.2.2.2.2.2.2.2.2.2.2.2.2.2.2.2.2.2.2.2.2.2.2.2.2.2.2.2.1,v.2.2.2.2.2.2.2.2.2.2.2.2.2.2.2.2.2.2.2.2.2.2.2.2.2.2.2.2.2.2.2.2.2.2.2.1,(Q14 v))).bind fun v=>some (v) else bif decide (v.2.2.2.2.2.2.2.2.2.2.2.2.2.2.2.2.2.1=(↑1:Int)) then (f39 (v.2.2.2.2.2.2.2.2.2.2.2.2.2.2.2.2.2.2.2.2.2.2.2.2.2.2.2.2.2.2.2.2.2.2.1,v.2.2.2.2.2.2.2.2.2.2.2.2.2.2.2.2.2.2.2.2.2.2.2.2.2.2.2.2.2.2.2.2.2.2.2.1,(Q14 v))).bind fun v=>some (v) else bif decide (v.2.2.2.2.2.2.2.2.2.2.2.2.2.2.2.2.2.1=(↑2:Int)) then (f40 (v.2.2.2.2.2.2.2.2.2.2.2.2.2.2.2.2.2.2.2.2.2.2.2.2.2.2.2.2.2.2.2.2.2.2.1,v.2.2.2.2.2.2.2.2.2.2.2.2.2.2.2.2.2.2.2.2.2.2.2.2.2.2.2.2.2.2.2.2.2.2.2.1,(Q14 v))).bind fun v=>some (v) else bif decide (v.2.2.2.2.2.2.2.2.2.2.2.2.2.2.2.2.2.1=(↑3:Int)) then (f41 (v.2.2.2.2.2.2.2.2.2.2.2.2.2.2.2.2.2.2.2.2.2.2.2.2.2.2.2.2.2.2.2.2.2.2.1,v.2.2.2.2.2.2.2.2.2.2.2.2.2.2.2.2.2.2.2.2.2.2.2.2.2.2.2.2.2.2.2.2.2.2.2.1,(Q14 v))).bind fun v=>some (v) else bif decide (v.2.2.2.2.2.2.2.2.2.2.2.2.2.2.2.2.2.1=(↑4:Int)) then (f37 (v.2.2.2.2.2.2.2.2.2.2.2.2.2.2.2.2.2.2.2.2.2.2.2.2.2.2.2.2.2.2.2.2.2.2.1,v.2.2.2.2.2.2.2.2.2.2.2.2.2.2.2.2.2.2.2.2.2.2.2.2.2.2.2.2.2.2.2.2.2.2.2.1,(Q14 v))).bind fun v=>some (v) else bif decide (v.2.2.2.2.2.2.2.2.2.2.2.2.2.2.2.2.2.1=(↑5:Int)) then (f42 (v.2.2.2.2.2.2.2.2.2.2.2.2.2.2.2.2.2.2.2.2.2.2.2.2.2.2.2.2.2.2.2.2.2.2.1,v.2.2.2.2.2.2.2.2.2.2.2.2.2.2.2.2.2.2.2.2.2.2.2.2.2.2.2.2.2.2.2.2.2.2.2.1,(Q14 v))).bind fun v=>some (v) else none) v
theorem h14 (f34:T34) (f35:T35) (f36:T36) (f37:T37) (f38:T38) (f39:T39) (f40:T40) (f41:T41) (f42:T42) (f14_c1:T14_c1):qn (K14 f34 f35 f36 f37 f38 f39 f40 f41 f42) 1 Tryz.f14 (N14 f14_c1) jc qu (F14 f34 f35 f36 f37 f38 f39 f40 f41 f42 f14_c1):=fun v=>by kernel_rfl
def C14:T14:=F14 C34 C35 C36 C37 C38 C39 C40 C41 C42 C14_c1
theorem ok14:FO 14 (E14 C14) :=
 qo kok14 Tryz.func14 (And.intro k14_c1 trivial) (h14 C34 C35 C36 C37 C38 C39 C40 C41 C42 C14_c1)
abbrev T15:=qb×qc×qd×qa×Bool×qa×qa×List (qa)×Bool×Bool×Bool×Int×Int×Int×Bool×qa×qa×Int×Bool×Int×Int×Bool×Bool×Int×Int×Bool×qa×qa×Bool×qa×qa×Bool×Bool×Int×Unit→Option (Int×Int×qb×qc×qd×qa×Bool×qa×qa×List (qa)×Bool×Bool×Bool×Int×Int×Int×Bool×qa×qa×Int×Bool×Int×Int×Bool×Bool×Int×Int×Bool×qa×qa×Bool×qa×qa×Bool×Bool×Int×Unit)
def E15 (f:T15):FEnt:=⟨qx,q4z,f⟩
def F15:T15:=fun (x0,x1,x2,x3,x4,x5,x6,x7,x8,x9,x10,x11,x12,x13,x14,x15,x16,x17,x18,x19,x20,x21,x22,x23,x24,x25,x26,x27,x28,x29,x30,x31,x32,x33,_)=>some (x19,x20,x0,x1,x2,x3,x4,x5,x6,x7,x8,x9,x10,x11,x12,x13,x14,x15,x16,x17,x18,x19,x20,x21,x22,x23,x24,x25,x26,x27,x28,x29,x30,x31,x32,x33,())
theorem h15:qn qq 1 Tryz.f15 .nil qx q4z (F15):=fun v=>by kernel_rfl
def C15:T15:=F15
theorem ok15:FO 15 (E15 C15) :=
 q0 kn Tryz.func15 (h15)
abbrev T13:=qb×qc×qd×qa×Bool×qa×qa×List (qa)×Bool×Bool×Bool×Int×Int×Int×Bool×qa×qa×Int×Bool×Int×Int×Bool×Bool×Int×Int×Bool×qa×qa×Bool×qa×qa×Bool×Bool×Int×Unit→Option (Int×qb×qc×qd×qa×Bool×qa×qa×List (qa)×Bool×Bool×Bool×Int×Int×Int×Bool×qa×qa×Int×Bool×Int×Int×Bool×Bool×Int×Int×Bool×qa×qa×Bool×qa×qa×Bool×Bool×Int×Unit)
def E13 (f:T13):FEnt:=⟨qx,q5a,f⟩
def F13:T13:=fun (x0,x1,x2,x3,x4,x5,x6,x7,x8,x9,x10,x11,x12,x13,x14,x15,x16,x17,x18,x19,x20,x21,x22,x23,x24,x25,x26,x27,x28,x29,x30,x31,x32,x33,_)=>some (x17,x0,x1,x2,x3,x4,x5,x6,x7,x8,x9,x10,x11,x12,x13,x14,x15,x16,x17,x18,x19,x20,x21,x22,x23,x24,x25,x26,x27,x28,x29,x30,x31,x32,x33,())
theorem h13:qn qq 1 Tryz.f13 .nil qx q5a (F13):=fun v=>by kernel_rfl
def C13:T13:=F13
theorem ok13:FO 13 (E13 C13) :=
 q0 kn Tryz.func13 (h13)
abbrev T24:=qb×qc×qd×qa×Bool×qa×qa×List (qa)×Bool×Bool×Bool×Int×Int×Int×Bool×qa×qa×Int×Bool×Int×Int×Bool×Bool×Int×Int×Bool×qa×qa×Bool×qa×qa×Bool×Bool×Int×Unit→Option (Bool×Bool×Int×qb×qc×qd×qa×Bool×qa×qa×List (qa)×Bool×Bool×Bool×Int×Int×Int×Bool×qa×qa×Int×Bool×Int×Int×Bool×Bool×Int×Int×Bool×qa×qa×Bool×qa×qa×Bool×Bool×Int×Unit)
def E24 (f:T24):FEnt:=⟨qx,q5b,f⟩
def F24:T24:=fun (x0,x1,x2,x3,x4,x5,x6,x7,x8,x9,x10,x11,x12,x13,x14,x15,x16,x17,x18,x19,x20,x21,x22,x23,x24,x25,x26,x27,x28,x29,x30,x31,x32,x33,_)=>some (x21,x22,x23,x0,x1,x2,x3,x4,x5,x6,x7,x8,x9,x10,x11,x12,x13,x14,x15,x16,x17,x18,x19,x20,x21,x22,x23,x24,x25,x26,x27,x28,x29,x30,x31,x32,x33,())
theorem h24:qn qq 1 Tryz.f24 .nil qx q5b (F24):=fun v=>by kernel_rfl
def C24:T24:=F24
theorem ok24:FO 24 (E24 C24) :=
 q0 kn Tryz.func24 (h24)
abbrev T28:=qb×qc×qd×qa×Bool×qa×qa×List (qa)×Bool×Bool×Bool×Int×Int×Int×Bool×qa×qa×Int×Bool×Int×Int×Bool×Bool×Int×Int×Bool×qa×qa×Bool×qa×qa×Bool×Bool×Int×Unit→Option (Int×Bool×qa×qa×Bool×qa×qa×Bool×Bool×Int×qb×qc×qd×qa×Bool×qa×qa×List (qa)×Bool×Bool×Bool×Int×Int×Int×Bool×qa×qa×Int×Bool×Int×Int×Bool×Bool×Int×Int×Bool×qa×qa×Bool×qa×qa×Bool×Bool×Int×Unit)
def E28 (f:T28):FEnt:=⟨qx,q5c,f⟩
def F28:T28:=fun (x0,x1,x2,x3,x4,x5,x6,x7,x8,x9,x10,x11,x12,x13,x14,x15,x16,x17,x18,x19,x20,x21,x22,x23,x24,x25,x26,x27,x28,x29,x30,x31,x32,x33,_)=>some (x24,x25,x26,x27,x28,x29,x30,x31,x32,x33,x0,x1,x2,x3,x4,x5,x6,x7,x8,x9,x10,x11,x12,x13,x14,x15,x16,x17,x18,x19,x20,x21,x22,x23,x24,x25,x26,x27,x28,x29,x30,x31,x32,x33,())
theorem h28:qn qq 1 Tryz.f28 .nil qx q5c (F28):=fun v=>by kernel_rfl
def C28:T28:=F28
theorem ok28:FO 28 (E28 C28) :=
 q0 kn Tryz.func28 (h28)
abbrev T7:=Unit→Option (Bool×Unit)
def E7 (f:T7):FEnt:=⟨xg,qe,f⟩
def K7 (f11:T11) (f12:T12) (f13:T13) (f14:T14) (f15:T15) (f24:T24) (f28:T28):=lk [(11,E11 f11),(12,E12 f12),(13,E13 f13),(14,E14 f14),(15,E15 f15),(24,E24 f24),(28,E28 f28)]
def C7:T7:=fun _=>some (true,())
theorem h7:afun Γ (K7 C11 C12 C13 C14 C15 C24 C28) 0 Tryz.f7.ntmps Tryz.f7.results.toList (code Tryz.f7) .nil (em id xg ()).1 (em id xg ()).2 (ofin 0 qe)=some (true,()):=by kernel_rfl
theorem ok7:FO 7 (E7 C7) :=
 q0 (kc ok11 (kc ok12 (kc ok13 (kc ok14 (kc ok15 (kc ok24 (kc ok28 kn))))))) Tryz.func7 (fun v=>h7)
abbrev T10:=qa×qa×Unit→Option (Bool×Unit)
def E10 (f:T10):FEnt:=⟨yi,qe,f⟩
def F10:T10:=fun (x0,x1,_)=>bif decide ((↑x0.length:Int)≤150) then some (decide ((↑x1.length:Int)≤200),()) else some (false,())
def C10:T10:=F10
theorem ok10:FO 10 (E10 C10):=jx yi qe qq F10 kn Tryz.func10
abbrev T8_l0:=Int×Int×Bool×qa×qa×List ((Bool×(qa×qa)))×List (qa)×Bool×Bool×Bool×Int×Int×Int×Unit→Option (Int×Bool×qa×qa×List ((Bool×(qa×qa)))×List (qa)×Bool×Bool×Bool×Int×Int×Int×Unit)
def E8_l0 (f:T8_l0):LEnt:=⟨q1z,q5d,f⟩
abbrev T8:=Bool×qa×qa×List ((Bool×(qa×qa)))×List (qa)×Bool×Bool×Bool×Int×Int×Int×Unit→Option (Bool×Unit)
def E8 (f:T8):FEnt:=⟨q1y,qe,f⟩
def K8 (f10:T10):=lk [(10,E10 f10)]
theorem kok8:KOk Tryz.prog (K8 C10):=(kc ok10 kn)
def F8_l0 (f10:T10):qp (Int×Int×Bool×qa×qa×List ((Bool×(qa×qa)))×List (qa)×Bool×Bool×Bool×Int×Int×Int×Unit) (Int×Bool×qa×qa×List ((Bool×(qa×qa)))×List (qa)×Bool×Bool×Bool×Int×Int×Int×Unit):=fun (x0,x1,x2,x3,x4,x5,x6,x7,x8,x9,x10,x11,x12,_)=>bif decide (x1<(↑x6.length:Int)) then bif decide (0≤x1)&&decide (x1<(↑x6.length:Int)) then some (Sum.inl (IntKind.i64.wrap (IntKind.i64.wrap (x0+(↑(List.length (x6.getD x1.toNat [])):Int))+1),IntKind.i64.wrap (x1+1),x2,x3,x4,x5,x6,x7,x8,x9,x10,x11,x12,())) else none else some (Sum.inr (x0,x2,x3,x4,x5,x6,x7,x8,x9,x10,x11,x12,()))
def C8_l0:T8_l0:=loopN (F8_l0 C10) big
theorem k8_l0:qg 0 (subc (code Tryz.f8) [1,1,0,1,0,0]) (E8_l0 C8_l0):=zn q1z q5d K8 F8_l0 C10 kok8
def N8 (f8_l0:T8_l0):Ann:=(.seq .nil (.seq .nil (.seq (.seq .nil (.blk (.loop (E8_l0 f8_l0)))) .nil)))
def F8 (f10:T10) (f8_l0:T8_l0):T8:=fun (x0,x1,x2,x3,x4,x5,x6,x7,x8,x9,x10,_)=>(f8_l0 (0,0,x0,x1,x2,x3,x4,x5,x6,x7,x8,x9,x10,())).bind fun v=>(f10 (v.2.2.1,v.2.2.2.1,())).bind fun v1=>bif v1.1 then some (decide (v.1≤3000),()) else some (false,())
def C8:T8:=F8 C10 C8_l0
theorem ok8:FO 8 (E8 C8):=qz q1y qe K8 N8 F8 C10 C8_l0 kok8 Tryz.func8 (And.intro k8_l0 trivial)
abbrev T9_l0:=List ((Int×List (qa)))×Int×Int×Unit→Option ((List ((Int×List (qa)))×Int×Unit)⊕(Bool×Unit))
def E9_l0 (f:T9_l0):LEnt:=⟨q2b,q5e,f⟩
abbrev T9_l1:=List ((Int×List (qa)))×Int×Unit→Option ((List ((Int×List (qa)))×Unit)⊕(Bool×Unit))
def E9_l1 (f:T9_l1):LEnt:=⟨q2c,q5f,f⟩
abbrev T9:=List ((Int×List (qa)))×Unit→Option (Bool×Unit)
def E9 (f:T9):FEnt:=⟨q2a,qe,f⟩
def F9_l0:qp (List ((Int×List (qa)))×Int×Int×Unit) ((List ((Int×List (qa)))×Int×Unit)⊕(Bool×Unit)):=fun (x0,x1,x2,_)=>bif decide (0≤x1)&&decide (x1<(↑x0.length:Int)) then bif decide (x2<(↑(List.length (x0.getD x1.toNat (0,[])).2):Int)) then bif decide (0≤x1)&&decide (x1<(↑x0.length:Int)) then bif decide (0≤x2)&&decide (x2<(↑(List.length (x0.getD x1.toNat (0,[])).2):Int)) then bif decide ((↑(List.length (List.getD (x0.getD x1.toNat (0,[])).2 x2.toNat [])):Int)>200) then some (Sum.inr (Sum.inr (false,()))) else some (Sum.inl (x0,x1,IntKind.i64.wrap (x2+1),())) else none else none else some (Sum.inr (Sum.inl (x0,x1,()))) else none
def C9_l0:T9_l0:=loopN (F9_l0) big
theorem k9_l0:qg 0 (subc (code Tryz.f9) [1,0,1,0,0,1,0,0,1,1,0,0]) (E9_l0 C9_l0):=vm q2b q5e qq F9_l0 kn
def N9_l1 (f9_l0:T9_l0):Ann:=(.seq .nil (.seq (.blk (.seq .nil (.seq .nil (.blk (.loop (E9_l0 f9_l0)))))) .nil))
def F9_l1 (f9_l0:T9_l0):qp (List ((Int×List (qa)))×Int×Unit) ((List ((Int×List (qa)))×Unit)⊕(Bool×Unit)):=fun (x0,x1,_)=>bif decide (x1<(↑x0.length:Int)) then bif decide (0≤x1)&&decide (x1<(↑x0.length:Int)) then bif decide ((↑(List.length (x0.getD x1.toNat (0,[])).2):Int)>20) then some (Sum.inr (Sum.inr (false,()))) else (f9_l0 (x0,x1,0,())).bind fun v=>Sum.elim (fun v=>some (Sum.inl (v.1,IntKind.i64.wrap (v.2.1+1),()))) (fun v=>some (Sum.inr (Sum.inr (v.1,())))) v else none else some (Sum.inr (Sum.inl (x0,())))
theorem h9_l1 (f9_l0:T9_l0):jp qq 0 (subc (code Tryz.f9) [1,0,1,0,0]) (N9_l1 f9_l0) q2c q5f (F9_l1 f9_l0):=fun v=>by kernel_rfl
def C9_l1:T9_l1:=loopN (F9_l1 C9_l0) big
theorem k9_l1:qg 0 (subc (code Tryz.f9) [1,0,1,0,0]) (E9_l1 C9_l1) :=
 xi kn (And.intro k9_l0 trivial) (h9_l1 C9_l0)
def N9 (f9_l1:T9_l1):Ann:=(.seq .nil (.seq (.seq .nil (.blk (.loop (E9_l1 f9_l1)))) .nil))
def F9 (f9_l1:T9_l1):T9:=fun (x0,_)=>(f9_l1 (x0,0,())).bind fun v=>Sum.elim (fun v=>some (decide ((↑(List.length v.1):Int)≤30),())) (fun v=>some (v.1,())) v
def C9:T9:=F9 C9_l1
theorem ok9:FO 9 (E9 C9):=jg q2a qe qq N9 F9 C9_l1 kn Tryz.func9 (And.intro k9_l1 trivial)
abbrev T16:=qb×qc×qd×qa×Bool×qa×qa×List (qa)×Bool×Bool×Bool×Int×Int×Int×Bool×qa×qa×Int×Bool×Int×Int×Bool×Bool×Int×Int×Bool×qa×qa×Bool×qa×qa×Bool×Bool×Int×Unit→Option (qb×qc×qd×qa×Bool×qa×qa×List (qa)×Bool×Bool×Bool×Int×Int×Int×Bool×qa×qa×Int×Bool×Int×Int×Bool×Bool×Int×Int×Bool×qa×qa×Bool×qa×qa×Bool×Bool×Int×Unit)
def E16 (f:T16):FEnt:=⟨qx,q5g,f⟩
def F16:T16:=fun (x0,x1,x2,x3,x4,x5,x6,x7,x8,x9,x10,x11,x12,x13,x14,x15,x16,x17,x18,x19,x20,x21,x22,x23,x24,x25,x26,x27,x28,x29,x30,x31,x32,x33,_)=>bif x17 != 6 then some (x0,x1,x2,x3,x4,x5,x6,x7,x8,x9,x10,x11,x12,x13,x14,x15,x16,6,x18,2,x20,x21,x22,x23,x24,x25,x26,x27,x28,x29,x30,x31,x32,x33,()) else some (x0,x1,x2,x3,x4,x5,x6,x7,x8,x9,x10,x11,x12,x13,x14,x15,x16,x17,x18,x19,x20,x21,x22,x23,x24,x25,x26,x27,x28,x29,x30,x31,x32,x33,())
theorem h16:qn qq 1 Tryz.f16 .nil qx q5g (F16):=fun v=>by kernel_rfl
def C16:T16:=F16
theorem ok16:FO 16 (E16 C16) :=
 q0 kn Tryz.func16 (h16)
abbrev T3_c0:=List ((Int×List (qa)))×Bool×Int×Int×List ((Int×qa))×Bool×Int×List (qa)×qb×qc×qd×qa×Bool×qa×qa×List (qa)×Bool×Bool×Bool×Int×Int×Int×Bool×qa×qa×Int×Bool×Int×Int×Bool×Bool×Int×Int×Bool×qa×qa×Bool×qa×qa×Bool×Bool×Int×Unit→Option ((Bool×Unit)⊕(List ((Int×List (qa)))×Bool×Int×Int×Int×List (qa)×qb×qc×qd×qa×Bool×qa×qa×List (qa)×Bool×Bool×Bool×Int×Int×Int×Bool×qa×qa×Int×Bool×Int×Int×Bool×Bool×Int×Int×Bool×qa×qa×Bool×qa×qa×Bool×Bool×Int×Unit))
def E3_c0 (f:T3_c0):LEnt:=⟨q2e,q5h,f⟩
abbrev T3_l0:=List ((Int×List (qa)))×Bool×Int×Int×Int×List (qa)×qb×qc×qd×qa×Bool×qa×qa×List (qa)×Bool×Bool×Bool×Int×Int×Int×Bool×qa×qa×Int×Bool×Int×Int×Bool×Bool×Int×Int×Bool×qa×qa×Bool×qa×qa×Bool×Bool×Int×Unit→Option ((Bool×Int×Int×List (qa)×qb×qc×qd×qa×Bool×qa×qa×List (qa)×Bool×Bool×Bool×Int×Int×Int×Bool×qa×qa×Int×Bool×Int×Int×Bool×Bool×Int×Int×Bool×qa×qa×Bool×qa×qa×Bool×Bool×Int×Unit)⊕(Bool×Unit))
def E3_l0 (f:T3_l0):LEnt:=⟨q2f,q5i,f⟩
abbrev T3_c1:=List ((Int×List (qa)))×Bool×Int×List (qa)×qb×qc×qd×qa×Bool×qa×qa×List (qa)×Bool×Bool×Bool×Int×Int×Int×Bool×qa×qa×Int×Bool×Int×Int×Bool×Bool×Int×Int×Bool×qa×qa×Bool×qa×qa×Bool×Bool×Int×Unit→Option (Bool×Unit)
def E3_c1 (f:T3_c1):LEnt:=⟨q2g,q5j,f⟩
abbrev T3:=Bool×qa×qa×List ((Bool×(qa×qa)))×List (qa)×Bool×Bool×Bool×Int×Int×Int×Bool×qa×qa×List ((Int×List (qa)))×Int×List (qa)×Unit→Option (Bool×Unit)
def E3 (f:T3):FEnt:=⟨q2d,qe,f⟩
def K3 (f10:T10) (f11:T11) (f12:T12) (f13:T13) (f14:T14) (f15:T15) (f16:T16) (f7:T7) (f8:T8) (f9:T9):=lk [(10,E10 f10),(11,E11 f11),(12,E12 f12),(13,E13 f13),(14,E14 f14),(15,E15 f15),(16,E16 f16),(7,E7 f7),(8,E8 f8),(9,E9 f9)]
theorem kok3:KOk Tryz.prog (K3 C10 C11 C12 C13 C14 C15 C16 C7 C8 C9):=(kc ok10 (kc ok11 (kc ok12 (kc ok13 (kc ok14 (kc ok15 (kc ok16 (kc ok7 (kc ok8 (kc ok9 kn))))))))))
def F3_c0 (f10:T10) (f11:T11) (f12:T12) (f13:T13) (f14:T14) (f15:T15) (f16:T16) (f7:T7) (f8:T8) (f9:T9):T3_c0:=fun (x0,x1,x2,x3,x4,x5,x6,x7,x8,x9,x10,x11,x12,x13,x14,x15,x16,x17,x18,x19,x20,x21,x22,x23,x24,x25,x26,x27,x28,x29,x30,x31,x32,x33,x34,x35,x36,x37,x38,x39,x40,x41,_)=>bif x5 then bif (↑x4.length:Int) != 1 then some (Sum.inl (false,())) else bif decide (0<(↑x4.length:Int)) then bif !(x4.getD 0 (0,[])).2==[81,85,73,84] then some (Sum.inl (false,())) else some (Sum.inr (x0,x1,IntKind.i64.wrap (x2+1),x3,x6,x7,x8,x9,x10,x11,x12,x13,x14,x15,x16,x17,x18,x19,x20,x21,x22,x23,x24,x25,x26,x27,x28,x29,x30,x31,x32,x33,x34,x35,x36,x37,x38,x39,x40,x41,())) else none else some (Sum.inr (x0,x1,x2,x3,x6,x7,x8,x9,x10,x11,x12,x13,x14,x15,x16,x17,x18,x19,x20,x21,x22,x23,x24,x25,x26,x27,x28,x29,x30,x31,x32,x33,x34,x35,x36,x37,x38,x39,x40,x41,()))
theorem h3_c0 (f10:T10) (f11:T11) (f12:T12) (f13:T13) (f14:T14) (f15:T15) (f16:T16) (f7:T7) (f8:T8) (f9:T9):jd (K3 f10 f11 f12 f13 f14 f15 f16 f7 f8 f9) 0 (subc (code Tryz.f3) [1,1,1,1,1,1,1,1,0,1,0,0,1,0,0,1,1,1,1]) .nil q2e q5h (F3_c0 f10 f11 f12 f13 f14 f15 f16 f7 f8 f9):=fun v=>by kernel_rfl
def C3_c0:T3_c0:=F3_c0 C10 C11 C12 C13 C14 C15 C16 C7 C8 C9
theorem k3_c0:ql 0 (subc (code Tryz.f3) [1,1,1,1,1,1,1,1,0,1,0,0,1,0,0,1,1,1,1]) (E3_c0 C3_c0) :=
 zp kok3 (h3_c0 C10 C11 C12 C13 C14 C15 C16 C7 C8 C9)
def N3_l0 (f3_c0:T3_c0):Ann:=(.seq .nil (.seq (.blk (.seq .nil (.seq .nil (.seq .nil (.cut .nil (E3_c0 f3_c0)))))) .nil))
def F3_l0 (f10:T10) (f11:T11) (f12:T12) (f13:T13) (f14:T14) (f15:T15) (f16:T16) (f7:T7) (f8:T8) (f9:T9) (f3_c0:T3_c0):qp (List ((Int×List (qa)))×Bool×Int×Int×Int×List (qa)×qb×qc×qd×qa×Bool×qa×qa×List (qa)×Bool×Bool×Bool×Int×Int×Int×Bool×qa×qa×Int×Bool×Int×Int×Bool×Bool×Int×Int×Bool×qa×qa×Bool×qa×qa×Bool×Bool×Int×Unit) ((Bool×Int×Int×List (qa)×qb×qc×qd×qa×Bool×qa×qa×List (qa)×Bool×Bool×Bool×Int×Int×Int×Bool×qa×qa×Int×Bool×Int×Int×Bool×Bool×Int×Int×Bool×qa×qa×Bool×qa×qa×Bool×Bool×Int×Unit)⊕(Bool×Unit)):=fun (x0,x1,x2,x3,x4,x5,x6,x7,x8,x9,x10,x11,x12,x13,x14,x15,x16,x17,x18,x19,x20,x21,x22,x23,x24,x25,x26,x27,x28,x29,x30,x31,x32,x33,x34,x35,x36,x37,x38,x39,_)=>bif decide (x3<(↑x0.length:Int)) then (f13 (x6,x7,x8,x9,x10,x11,x12,x13,x14,x15,x16,x17,x18,x19,x20,x21,x22,x23,x24,x25,x26,x27,x28,x29,x30,x31,x32,x33,x34,x35,x36,x37,x38,x39,())).bind fun v=>bif decide (0≤x3)&&decide (x3<(↑x0.length:Int)) then (f14 ((x0.getD x3.toNat (0,[])).1,(x0.getD x3.toNat (0,[])).2,v.2)).bind fun v1=>bif v.1==6 then bif decide ((↑(List.length v1.1):Int)>0) then some (Sum.inr (Sum.inr (false,()))) else bif !v.1==6 then (f13 (v1.2)).bind fun v=>(f3_c0 (x0,x1,x2,x3,v1.1,v.1==6,x4,x5,v.2)).bind fun v=>Sum.elim (fun v=>some (Sum.inr (Sum.inr (v.1,())))) (fun v=>some (Sum.inl (v.1,v.2.1,v.2.2.1,IntKind.i64.wrap (v.2.2.2.1+1),v.2.2.2.2))) v else (f3_c0 (x0,x1,x2,x3,v1.1,false,x4,x5,v1.2)).bind fun v=>Sum.elim (fun v=>some (Sum.inr (Sum.inr (v.1,())))) (fun v=>some (Sum.inl (v.1,v.2.1,v.2.2.1,IntKind.i64.wrap (v.2.2.2.1+1),v.2.2.2.2))) v else bif !v.1==6 then (f13 (v1.2)).bind fun v=>(f3_c0 (x0,x1,x2,x3,v1.1,v.1==6,x4,x5,v.2)).bind fun v=>Sum.elim (fun v=>some (Sum.inr (Sum.inr (v.1,())))) (fun v=>some (Sum.inl (v.1,v.2.1,v.2.2.1,IntKind.i64.wrap (v.2.2.2.1+1),v.2.2.2.2))) v else (f3_c0 (x0,x1,x2,x3,v1.1,false,x4,x5,v1.2)).bind fun v=>Sum.elim (fun v=>some (Sum.inr (Sum.inr (v.1,())))) (fun v=>some (Sum.inl (v.1,v.2.1,v.2.2.1,IntKind.i64.wrap (v.2.2.2.1+1),v.2.2.2.2))) v else none else some (Sum.inr (Sum.inl (x1,x2,x4,x5,x6,x7,x8,x9,x10,x11,x12,x13,x14,x15,x16,x17,x18,x19,x20,x21,x22,x23,x24,x25,x26,x27,x28,x29,x30,x31,x32,x33,x34,x35,x36,x37,x38,x39,())))
theorem h3_l0 (f10:T10) (f11:T11) (f12:T12) (f13:T13) (f14:T14) (f15:T15) (f16:T16) (f7:T7) (f8:T8) (f9:T9) (f3_c0:T3_c0):jp (K3 f10 f11 f12 f13 f14 f15 f16 f7 f8 f9) 0 (subc (code Tryz.f3) [1,1,1,1,1,1,1,1,0,1,0,0]) (N3_l0 f3_c0) q2f q5i (F3_l0 f10 f11 f12 f13 f14 f15 f16 f7 f8 f9 f3_c0):=fun v=>by kernel_rfl
def C3_l0:T3_l0:=loopN (F3_l0 C10 C11 C12 C13 C14 C15 C16 C7 C8 C9 C3_c0) big
theorem k3_l0:qg 0 (subc (code Tryz.f3) [1,1,1,1,1,1,1,1,0,1,0,0]) (E3_l0 C3_l0) :=
 xi kok3 (And.intro k3_c0 trivial) (h3_l0 C10 C11 C12 C13 C14 C15 C16 C7 C8 C9 C3_c0)
def N3_c1 (f3_l0:T3_l0):Ann:=(.seq .nil (.seq (.seq .nil (.blk (.loop (E3_l0 f3_l0)))) .nil))
def F3_c1 (f10:T10) (f11:T11) (f12:T12) (f13:T13) (f14:T14) (f15:T15) (f16:T16) (f7:T7) (f8:T8) (f9:T9) (f3_l0:T3_l0):T3_c1:=fun (x0,x1,x2,x3,x4,x5,x6,x7,x8,x9,x10,x11,x12,x13,x14,x15,x16,x17,x18,x19,x20,x21,x22,x23,x24,x25,x26,x27,x28,x29,x30,x31,x32,x33,x34,x35,x36,x37,_)=>(f3_l0 (x0,x1,0,0,x2,x3,x4,x5,x6,x7,x8,x9,x10,x11,x12,x13,x14,x15,x16,x17,x18,x19,x20,x21,x22,x23,x24,x25,x26,x27,x28,x29,x30,x31,x32,x33,x34,x35,x36,x37,())).bind fun v=>Sum.elim (fun v=>(f15 (v.2.2.2.2)).bind fun v1=>(f16 (v1.2.2)).bind fun v2=>(f15 (v2)).bind fun v3=>bif v.2.1==0 then bif v3.1 != 2 then some (false,()) else bif v3.2.1 != 0 then some (false,()) else bif decide (v.2.1>0) then bif v3.1 != v1.1 then some (false,()) else bif v3.2.1 != v1.2.1 then some (false,()) else bif decide (v.2.1>1) then some (false,()) else bif v.1 then (f14 (v.2.2.1,v.2.2.2.1,v3.2.2)).bind fun v=>bif (↑(List.length v.1):Int)==0 then (f13 (v.2)).bind fun v=>some (v.1==6,()) else some (false,()) else some (false,()) else bif decide (v.2.1>1) then some (false,()) else bif v.1 then (f14 (v.2.2.1,v.2.2.2.1,v3.2.2)).bind fun v=>bif (↑(List.length v.1):Int)==0 then (f13 (v.2)).bind fun v=>some (v.1==6,()) else some (false,()) else some (false,()) else bif decide (v.2.1>0) then bif v3.1 != v1.1 then some (false,()) else bif v3.2.1 != v1.2.1 then some (false,()) else bif decide (v.2.1>1) then some (false,()) else bif v.1 then (f14 (v.2.2.1,v.2.2.2.1,v3.2.2)).bind fun v=>bif (↑(List.length v.1):Int)==0 then (f13 (v.2)).bind fun v=>some (v.1==6,()) else some (false,()) else some (false,()) else bif decide (v.2.1>1) then some (false,()) else bif v.1 then (f14 (v.2.2.1,v.2.2.2.1,v3.2.2)).bind fun v=>bif (↑(List.length v.1):Int)==0 then (f13 (v.2)).bind fun v=>some (v.1==6,()) else some (false,()) else some (false,())) (fun v=>some (v.1,())) v
theorem h3_c1 (f10:T10) (f11:T11) (f12:T12) (f13:T13) (f14:T14) (f15:T15) (f16:T16) (f7:T7) (f8:T8) (f9:T9) (f3_l0:T3_l0):jd (K3 f10 f11 f12 f13 f14 f15 f16 f7 f8 f9) 0 (subc (code Tryz.f3) [1,1,1,1,1,1,1]) (N3_c1 f3_l0) q2g q5j (F3_c1 f10 f11 f12 f13 f14 f15 f16 f7 f8 f9 f3_l0):=fun v=>by kernel_rfl
def C3_c1:T3_c1:=F3_c1 C10 C11 C12 C13 C14 C15 C16 C7 C8 C9 C3_l0
theorem k3_c1:ql 0 (subc (code Tryz.f3) [1,1,1,1,1,1,1]) (E3_c1 C3_c1) :=
 zj kok3 (And.intro k3_l0 trivial) (h3_c1 C10 C11 C12 C13 C14 C15 C16 C7 C8 C9 C3_l0)
def N3 (f3_c1:T3_c1):Ann:=(.seq .nil (.seq .nil (.seq .nil (.seq .nil (.seq .nil (.seq .nil (.cut .nil (E3_c1 f3_c1))))))))
def F3 (f10:T10) (f11:T11) (f12:T12) (f13:T13) (f14:T14) (f15:T15) (f16:T16) (f7:T7) (f8:T8) (f9:T9) (f3_c1:T3_c1):T3:=fun (x0,x1,x2,x3,x4,x5,x6,x7,x8,x9,x10,x11,x12,x13,x14,x15,x16,_)=>(f7 ()).bind fun v=>(f8 (x0,x1,x2,x3,x4,x5,x6,x7,x8,x9,x10,())).bind fun v1=>(f9 (x14,())).bind fun v2=>(f10 (x12,x13,())).bind fun v3=>(f12 ()).bind fun v4=>(f11 (v4.1,v4.2.1,v4.2.2.1,[120],x0,x1,x2,x3,x4,x5,x6,x7,x8,x9,x10,x11,x12,x13,())).bind fun v5=>bif !v1.1 then bif v.1 then some (!false,()) else some (false,()) else bif !v2.1 then bif v.1 then some (!false,()) else some (false,()) else bif !v3.1 then bif v.1 then some (!false,()) else some (false,()) else bif decide ((↑x16.length:Int)>20) then bif v.1 then some (!false,()) else some (false,()) else (f3_c1 (x14,v.1,x15,x16,v5)).bind fun v=>some (v.1,())
theorem h3 (f10:T10) (f11:T11) (f12:T12) (f13:T13) (f14:T14) (f15:T15) (f16:T16) (f7:T7) (f8:T8) (f9:T9) (f3_c1:T3_c1):qn (K3 f10 f11 f12 f13 f14 f15 f16 f7 f8 f9) 0 Tryz.f3 (N3 f3_c1) q2d qe (F3 f10 f11 f12 f13 f14 f15 f16 f7 f8 f9 f3_c1):=fun v=>by kernel_rfl
def C3:T3:=F3 C10 C11 C12 C13 C14 C15 C16 C7 C8 C9 C3_c1
theorem ok3:FO 3 (E3 C3) :=
 qo kok3 Tryz.func3 (And.intro k3_c1 trivial) (h3 C10 C11 C12 C13 C14 C15 C16 C7 C8 C9 C3_c1)
abbrev T134_c0:=Int×qa×Int×Int×Int×Unit→Option (Int×qa×Int×Int×Int×Unit)
abbrev T134_l0:=Int×qa×Int×Int×Int×Unit→Option (Int×qa×Int×Int×Int×Unit)
abbrev T134:=qa×Int×Int×Int×Unit→Option (qa×qa×Int×Int×Int×Unit)
def F134_c0 (f133:T133):T134_c0:=fun (x0,x1,x2,x3,x4,_)=>some (x0,x1,IntKind.i64.wrap (x2+1),x3,x4,())
def C134_c0:T134_c0:=F134_c0 C133
def F134_l0 (f133:T133) (f134_c0:T134_c0):qp (Int×qa×Int×Int×Int×Unit) (Int×qa×Int×Int×Int×Unit):=fun (x0,x1,x2,x3,x4,_)=>bif decide (x2<(↑x1.length:Int)) then bif decide (0≤x2)&&decide (x2<(↑x1.length:Int)) then (f133 ((↑(x1.getD x2.toNat 0).toNat:Int),())).bind fun v=>bif v.1 then (f134_c0 (x0,x1,x2,x3,x4,())).bind fun v=>some (Sum.inl (v.1,v.2.1,v.2.2.1,v.2.2.2.1,v.2.2.2.2.1,())) else some (Sum.inr (x0,x1,x2,x3,x4,())) else none else some (Sum.inr (x0,x1,x2,x3,x4,()))
def C134_l0:T134_l0:=loopN (F134_l0 C133 C134_c0) big
def F134 (f133:T133) (f134_l0:T134_l0):T134:=fun (x0,x1,x2,x3,_)=>(f134_l0 (x1,x0,x1,x2,x3,())).bind fun v=>bif decide (0≤v.2.2.1)&&decide (v.2.2.1≤(↑(List.length v.2.1):Int)) then bif decide (0≤v.1)&&decide (v.1≤v.2.2.1) then some (List.drop (Int.toNat v.1) (List.take (Int.toNat v.2.2.1) v.2.1),v.2.1,v.2.2.1,v.2.2.2.1,v.2.2.2.2.1,()) else none else none
def C134:T134:=F134 C133 C134_l0
abbrev T165:=Int×Unit→Option (Bool×Unit)
def F165 (f66:T66):T165:=fun (x0,_)=>(f66 ([32,9],x0,())).bind fun v=>some (decide (v.1≥0),())
def C165:T165:=F165 C66
abbrev T164:=Int×Unit→Option (Bool×Unit)
def F164 (f165:T165):T164:=fun (x0,_)=>(f165 (x0,())).bind fun v=>bif v.1 then some (true,()) else bif decide (x0>32) then some (bif x0==127 then false else true,()) else some (false,())
def C164:T164:=F164 C165
abbrev T139:=Int×Int×qa×Int×Int×Int×Unit→Option (qa×Int×Int×Int×Unit)
def F139:T139:=fun (x0,x1,x2,x3,x4,x5,_)=>some (x2,x3,x0,x1,())
def C139:T139:=F139
abbrev T135_c0:=Int×qa×Int×Int×Int×qa×Unit→Option ((qa×qa×Int×Int×Int×Unit)⊕(Int×qa×Int×Int×Int×qa×Unit))
abbrev T135_l0:=Int×qa×Int×Int×Int×qa×Unit→Option ((qa×Int×Int×Int×Unit)⊕(qa×qa×Int×Int×Int×Unit))
abbrev T135:=qa×Int×Int×Int×Unit→Option (qa×qa×Int×Int×Int×Unit)
def F135_c0 (f139:T139) (f164:T164):T135_c0:=fun (x0,x1,x2,x3,x4,x5,_)=>bif decide (0≤x0)&&decide (x0<(↑x1.length:Int)) then (f164 ((↑(x1.getD x0.toNat 0).toNat:Int),())).bind fun v=>bif !v.1 then (f139 (x0,4,x1,x2,x3,x4,())).bind fun v=>some (Sum.inl ([],v.1,v.2.1,v.2.2.1,v.2.2.2.1,())) else bif decide (0≤x0)&&decide (x0<(↑x1.length:Int)) then bif decide (x5.length+[UInt8.ofNat (↑(x1.getD x0.toNat 0).toNat:Int).toNat].length≤140737488355328/1) then some (Sum.inr (x0,x1,x2,x3,x4,x5++[UInt8.ofNat (↑(x1.getD x0.toNat 0).toNat:Int).toNat],())) else none else none else none
def C135_c0:T135_c0:=F135_c0 C139 C164
def F135_l0 (f139:T139) (f164:T164) (f135_c0:T135_c0):qp (Int×qa×Int×Int×Int×qa×Unit) ((qa×Int×Int×Int×Unit)⊕(qa×qa×Int×Int×Int×Unit)):=fun (x0,x1,x2,x3,x4,x5,_)=>bif decide (x0<(↑x1.length:Int)) then bif decide (0≤x0)&&decide (x0<(↑x1.length:Int)) then bif (↑(x1.getD x0.toNat 0).toNat:Int)==34 then some (Sum.inr (Sum.inr (x5,x1,IntKind.i64.wrap (x0+1),x3,x4,()))) else bif (↑(x1.getD x0.toNat 0).toNat:Int)==92 then bif IntKind.i64.wrap (x0+1)==(↑x1.length:Int) then some (Sum.inr (Sum.inl (x1,x2,x3,x4,()))) else (f135_c0 (IntKind.i64.wrap (x0+1),x1,x2,x3,x4,x5,())).bind fun v=>Sum.elim (fun v=>some (Sum.inr (Sum.inr (v.1,v.2.1,v.2.2.1,v.2.2.2.1,v.2.2.2.2.1,())))) (fun v=>some (Sum.inl (IntKind.i64.wrap (v.1+1),v.2.1,v.2.2.1,v.2.2.2.1,v.2.2.2.2.1,v.2.2.2.2.2.1,()))) v else (f135_c0 (x0,x1,x2,x3,x4,x5,())).bind fun v=>Sum.elim (fun v=>some (Sum.inr (Sum.inr (v.1,v.2.1,v.2.2.1,v.2.2.2.1,v.2.2.2.2.1,())))) (fun v=>some (Sum.inl (IntKind.i64.wrap (v.1+1),v.2.1,v.2.2.1,v.2.2.2.1,v.2.2.2.2.1,v.2.2.2.2.2.1,()))) v else none else some (Sum.inr (Sum.inl (x1,x2,x3,x4,())))
def C135_l0:T135_l0:=loopN (F135_l0 C139 C164 C135_c0) big
def F135 (f139:T139) (f164:T164) (f135_l0:T135_l0):T135:=fun (x0,x1,x2,x3,_)=>(f135_l0 (IntKind.i64.wrap (x1+1),x0,x1,x2,x3,[],())).bind fun v=>Sum.elim (fun v=>(f139 (v.2.1,4,v.1,v.2.1,v.2.2.1,v.2.2.2.1,())).bind fun v=>some ([],v.1,v.2.1,v.2.2.1,v.2.2.2.1,())) (fun v=>some (v.1,v.2.1,v.2.2.1,v.2.2.2.1,v.2.2.2.2.1,())) v
def C135:T135:=F135 C139 C164 C135_l0
abbrev T136_c0:=Int×qa×qa×Int×Int×Int×Unit→Option (qa×qa×Int×Int×Int×Unit)
abbrev T136_l0:=Int×qa×Int×Int×Int×Unit→Option ((qa×Int×Int×Int×Unit)⊕(qa×qa×Int×Int×Int×Unit))
abbrev T136:=qa×Int×Int×Int×Unit→Option (qa×qa×Int×Int×Int×Unit)
def F136_c0 (f139:T139) (f164:T164) (f165:T165):T136_c0:=fun (x0,x1,x2,x3,x4,x5,_)=>some (x1,x2,IntKind.i64.wrap (x0+1),x4,x5,())
def C136_c0:T136_c0:=F136_c0 C139 C164 C165
def F136_l0 (f139:T139) (f164:T164) (f165:T165) (f136_c0:T136_c0):qp (Int×qa×Int×Int×Int×Unit) ((qa×Int×Int×Int×Unit)⊕(qa×qa×Int×Int×Int×Unit)):=fun (x0,x1,x2,x3,x4,_)=>bif decide (x0<(↑x1.length:Int)) then bif decide (0≤x0)&&decide (x0<(↑x1.length:Int)) then bif (↑(x1.getD x0.toNat 0).toNat:Int)==93 then bif decide (0≤x0)&&decide (x0≤(↑x1.length:Int)) then bif decide (0≤IntKind.i64.wrap (x2+1))&&decide (IntKind.i64.wrap (x2+1)≤x0) then (f136_c0 (x0,List.drop (IntKind.i64.wrap (x2+1)).toNat (List.take x0.toNat x1),x1,x2,x3,x4,())).bind fun v=>some (Sum.inr (Sum.inr (v.1,v.2.1,v.2.2.1,v.2.2.2.1,v.2.2.2.2.1,()))) else none else none else bif (↑(x1.getD x0.toNat 0).toNat:Int)==91 then (f139 (x0,4,x1,x2,x3,x4,())).bind fun v=>some (Sum.inr (Sum.inr ([],v.1,v.2.1,v.2.2.1,v.2.2.2.1,()))) else bif (↑(x1.getD x0.toNat 0).toNat:Int)==92 then (f139 (x0,4,x1,x2,x3,x4,())).bind fun v=>some (Sum.inr (Sum.inr ([],v.1,v.2.1,v.2.2.1,v.2.2.2.1,()))) else (f165 ((↑(x1.getD x0.toNat 0).toNat:Int),())).bind fun v=>bif v.1 then (f139 (x0,4,x1,x2,x3,x4,())).bind fun v=>some (Sum.inr (Sum.inr ([],v.1,v.2.1,v.2.2.1,v.2.2.2.1,()))) else (f164 ((↑(x1.getD x0.toNat 0).toNat:Int),())).bind fun v=>bif !v.1 then (f139 (x0,4,x1,x2,x3,x4,())).bind fun v=>some (Sum.inr (Sum.inr ([],v.1,v.2.1,v.2.2.1,v.2.2.2.1,()))) else some (Sum.inl (IntKind.i64.wrap (x0+1),x1,x2,x3,x4,())) else none else some (Sum.inr (Sum.inl (x1,x2,x3,x4,())))
def C136_l0:T136_l0:=loopN (F136_l0 C139 C164 C165 C136_c0) big
def F136 (f139:T139) (f164:T164) (f165:T165) (f136_l0:T136_l0):T136:=fun (x0,x1,x2,x3,_)=>(f136_l0 (IntKind.i64.wrap (x1+1),x0,x1,x2,x3,())).bind fun v=>Sum.elim (fun v=>(f139 (v.2.1,4,v.1,v.2.1,v.2.2.1,v.2.2.2.1,())).bind fun v=>some ([],v.1,v.2.1,v.2.2.1,v.2.2.2.1,())) (fun v=>some (v.1,v.2.1,v.2.2.1,v.2.2.2.1,v.2.2.2.2.1,())) v
def C136:T136:=F136 C139 C164 C165 C136_l0
abbrev T137_l0:=Int×Int×Int×Int×qa×Int×Int×Int×Unit→Option ((Int×Int×qa×Int×Int×Int×Unit)⊕(Int×Int×qa×Int×Int×Int×Unit)⊕(qa×qa×Int×Int×Int×Unit))
abbrev T137_g0:=Int×Int×qa×Int×Int×Int×Unit→Option (qa×qa×Int×Int×Int×Unit)
abbrev T137:=qa×Int×Int×Int×Unit→Option (qa×qa×Int×Int×Int×Unit)
def F137_l0 (f139:T139) (f164:T164):qp (Int×Int×Int×Int×qa×Int×Int×Int×Unit) ((Int×Int×qa×Int×Int×Int×Unit)⊕(Int×Int×qa×Int×Int×Int×Unit)⊕(qa×qa×Int×Int×Int×Unit)):=fun (x0,x1,x2,x3,x4,x5,x6,x7,_)=>bif decide (x3<(↑x4.length:Int)) then bif decide (0≤x3)&&decide (x3<(↑x4.length:Int)) then bif (↑(x4.getD x3.toNat 0).toNat:Int)==40 then bif decide (IntKind.i64.wrap (x1+1)>32) then some (Sum.inr (Sum.inr (Sum.inl (6,x3,x4,x5,x6,x7,())))) else some (Sum.inl (x0,IntKind.i64.wrap (x1+1),x2,IntKind.i64.wrap (x3+1),x4,x5,x6,x7,())) else bif (↑(x4.getD x3.toNat 0).toNat:Int)==41 then bif IntKind.i64.wrap (x1-1)==0 then bif decide (0≤x3)&&decide (x3≤(↑x4.length:Int)) then bif decide (0≤IntKind.i64.wrap (x0+1))&&decide (IntKind.i64.wrap (x0+1)≤x3) then some (Sum.inr (Sum.inr (Sum.inr (List.drop (IntKind.i64.wrap (x0+1)).toNat (List.take x3.toNat x4),x4,IntKind.i64.wrap (x3+1),x6,x7,())))) else none else none else some (Sum.inl (x0,IntKind.i64.wrap (x1-1),x2,IntKind.i64.wrap (x3+1),x4,x5,x6,x7,())) else bif (↑(x4.getD x3.toNat 0).toNat:Int)==92 then bif IntKind.i64.wrap (x3+1)==(↑x4.length:Int) then some (Sum.inl (x0,x1,x2,IntKind.i64.wrap (IntKind.i64.wrap (x3+1)+1),x4,x5,x6,x7,())) else bif decide (0≤IntKind.i64.wrap (x3+1))&&decide (IntKind.i64.wrap (x3+1)<(↑x4.length:Int)) then (f164 ((↑(x4.getD (IntKind.i64.wrap (x3+1)).toNat 0).toNat:Int),())).bind fun v=>bif !v.1 then some (Sum.inr (Sum.inr (Sum.inl (x2,IntKind.i64.wrap (x3+1),x4,x5,x6,x7,())))) else some (Sum.inl (x0,x1,x2,IntKind.i64.wrap (IntKind.i64.wrap (x3+1)+1),x4,x5,x6,x7,())) else none else (f164 ((↑(x4.getD x3.toNat 0).toNat:Int),())).bind fun v=>bif !v.1 then some (Sum.inr (Sum.inr (Sum.inl (x2,x3,x4,x5,x6,x7,())))) else some (Sum.inl (x0,x1,x2,IntKind.i64.wrap (x3+1),x4,x5,x6,x7,())) else none else some (Sum.inr (Sum.inl (x0,x2,x4,x5,x6,x7,())))
def C137_l0:T137_l0:=loopN (F137_l0 C139 C164) big
def F137_g0 (f139:T139) (f164:T164):qp (Int×Int×qa×Int×Int×Int×Unit) (qa×qa×Int×Int×Int×Unit):=fun (x0,x1,x2,x3,x4,x5,_)=>(f139 (x1,x0,x2,x3,x4,x5,())).bind fun v=>some (Sum.inr ([],v.1,v.2.1,v.2.2.1,v.2.2.2.1,()))
def C137_g0:T137_g0:=loopN (F137_g0 C139 C164) big
def F137 (f139:T139) (f164:T164) (f137_g0:T137_g0) (f137_l0:T137_l0):T137:=fun (x0,x1,x2,x3,_)=>(f137_l0 (x1,0,4,x1,x0,x1,x2,x3,())).bind fun v=>Sum.elim (fun v=>(f139 (v.1,v.2.1,v.2.2.1,v.2.2.2.1,v.2.2.2.2.1,v.2.2.2.2.2.1,())).bind fun v=>some ([],v.1,v.2.1,v.2.2.1,v.2.2.2.1,())) (fun v=>Sum.elim (fun v=>(f137_g0 (v.1,v.2.1,v.2.2.1,v.2.2.2.1,v.2.2.2.2.1,v.2.2.2.2.2.1,())).bind fun v=>some (v.1,v.2.1,v.2.2.1,v.2.2.2.1,v.2.2.2.2.1,())) (fun v=>some (v.1,v.2.1,v.2.2.1,v.2.2.2.1,v.2.2.2.2.1,())) v) v
def C137:T137:=F137 C139 C164 C137_g0 C137_l0
abbrev T138_c0:=Int×Bool×qa×Int×Int×Int×Unit→Option ((Int×qa×Int×Int×Int×Unit)⊕(qa×qa×Int×Int×Int×Unit))
abbrev T138_l0:=Int×qa×Int×Int×Int×Unit→Option ((Int×qa×Int×Int×Int×Unit)⊕(qa×qa×Int×Int×Int×Unit))
abbrev T138:=qa×Int×Int×Int×Unit→Option (qa×qa×Int×Int×Int×Unit)
def F138_c0 (f165:T165):T138_c0:=fun (x0,x1,x2,x3,x4,x5,_)=>bif x1 then some (Sum.inl (x0,x2,IntKind.i64.wrap (x3+3),x4,x5,())) else bif decide (0≤x3)&&decide (x3≤(↑x2.length:Int)) then bif decide (0≤x0)&&decide (x0≤x3) then some (Sum.inr (List.drop x0.toNat (List.take x3.toNat x2),x2,x3,x4,x5,())) else none else none
def C138_c0:T138_c0:=F138_c0 C165
def F138_l0 (f165:T165) (f138_c0:T138_c0):qp (Int×qa×Int×Int×Int×Unit) ((Int×qa×Int×Int×Int×Unit)⊕(qa×qa×Int×Int×Int×Unit)):=fun (x0,x1,x2,x3,x4,_)=>bif decide (x2<(↑x1.length:Int)) then bif decide (0≤x2)&&decide (x2≤(↑x1.length:Int)) then bif decide (0<(↑(List.drop x2.toNat x1).length:Int)) then (f165 ((↑((List.drop x2.toNat x1).getD 0 0).toNat:Int),())).bind fun v=>bif v.1 then some (Sum.inl (x0,x1,IntKind.i64.wrap (x2+1),x3,x4,())) else bif decide ((↑(List.drop x2.toNat x1).length:Int)>2) then bif decide (2≤(↑(List.drop x2.toNat x1).length:Int)) then bif List.take 2 (List.drop x2.toNat x1)==[13,10] then bif decide (2<(↑(List.drop x2.toNat x1).length:Int)) then (f165 ((↑((List.drop x2.toNat x1).getD 2 0).toNat:Int),())).bind fun v=>(f138_c0 (x0,v.1,x1,x2,x3,x4,())).bind fun v=>Sum.elim (fun v=>some (Sum.inl (v.1,v.2.1,v.2.2.1,v.2.2.2.1,v.2.2.2.2.1,()))) (fun v=>some (Sum.inr (Sum.inr (v.1,v.2.1,v.2.2.1,v.2.2.2.1,v.2.2.2.2.1,())))) v else none else (f138_c0 (x0,false,x1,x2,x3,x4,())).bind fun v=>Sum.elim (fun v=>some (Sum.inl (v.1,v.2.1,v.2.2.1,v.2.2.2.1,v.2.2.2.2.1,()))) (fun v=>some (Sum.inr (Sum.inr (v.1,v.2.1,v.2.2.1,v.2.2.2.1,v.2.2.2.2.1,())))) v else none else (f138_c0 (x0,false,x1,x2,x3,x4,())).bind fun v=>Sum.elim (fun v=>some (Sum.inl (v.1,v.2.1,v.2.2.1,v.2.2.2.1,v.2.2.2.2.1,()))) (fun v=>some (Sum.inr (Sum.inr (v.1,v.2.1,v.2.2.1,v.2.2.2.1,v.2.2.2.2.1,())))) v else none else none else some (Sum.inr (Sum.inl (x0,x1,x2,x3,x4,())))
def C138_l0:T138_l0:=loopN (F138_l0 C165 C138_c0) big
def F138 (f165:T165) (f138_l0:T138_l0):T138:=fun (x0,x1,x2,x3,_)=>(f138_l0 (x1,x0,x1,x2,x3,())).bind fun v=>Sum.elim (fun v=>bif decide (0≤v.2.2.1)&&decide (v.2.2.1≤(↑(List.length v.2.1):Int)) then bif decide (0≤v.1)&&decide (v.1≤v.2.2.1) then some (List.drop (Int.toNat v.1) (List.take (Int.toNat v.2.2.1) v.2.1),v.2.1,v.2.2.1,v.2.2.2.1,v.2.2.2.2.1,()) else none else none) (fun v=>some (v.1,v.2.1,v.2.2.1,v.2.2.2.1,v.2.2.2.2.1,())) v
def C138:T138:=F138 C165 C138_l0
abbrev T110_c0:=Int×Int×qa×Int×Int×Int×Int×qa×Int×Unit→Option (qa×Int×Int×Int×Int×qa×Int×Unit)
abbrev T110:=qa×Int×Int×Int×Unit→Option (Int×qa×Int×qa×Int×Int×Int×Unit)
def F110_c0 (f133:T133) (f134:T134) (f135:T135) (f136:T136) (f137:T137) (f138:T138) (f139:T139) (f66:T66):T110_c0:=fun (x0,x1,x2,x3,x4,x5,x6,x7,x8,_)=>(f133 (x1,())).bind fun v=>bif v.1 then (f134 (x2,x3,x4,x5,())).bind fun v=>some (v.2.1,v.2.2.1,v.2.2.2.1,v.2.2.2.2.1,0,v.1,x0,()) else (f66 ([60,62,58,59,64,44,46],x1,())).bind fun v=>bif decide (v.1≥0) then bif decide (0≤IntKind.i64.wrap (x3+1))&&decide (IntKind.i64.wrap (x3+1)≤(↑x2.length:Int)) then bif decide (0≤x0)&&decide (x0≤IntKind.i64.wrap (x3+1)) then some (x2,IntKind.i64.wrap (x3+1),x4,x5,2,List.drop x0.toNat (List.take (IntKind.i64.wrap (x3+1)).toNat x2),x0,()) else none else none else bif x1==34 then (f135 (x2,x3,x4,x5,())).bind fun v=>some (v.2.1,v.2.2.1,v.2.2.2.1,v.2.2.2.2.1,1,v.1,x0,()) else bif x1==91 then (f136 (x2,x3,x4,x5,())).bind fun v=>some (v.2.1,v.2.2.1,v.2.2.2.1,v.2.2.2.2.1,5,v.1,x0,()) else bif x1==40 then (f137 (x2,x3,x4,x5,())).bind fun v=>some (v.2.1,v.2.2.1,v.2.2.2.1,v.2.2.2.2.1,3,v.1,x0,()) else (f138 (x2,x3,x4,x5,())).bind fun v=>bif v.1==[] then (f139 (x0,4,v.2.1,v.2.2.1,v.2.2.2.1,v.2.2.2.2.1,())).bind fun v1=>some (v1.1,v1.2.1,v1.2.2.1,v1.2.2.2.1,4,v.1,x0,()) else some (v.2.1,v.2.2.1,v.2.2.2.1,v.2.2.2.2.1,4,v.1,x0,())
def C110_c0:T110_c0:=F110_c0 C133 C134 C135 C136 C137 C138 C139 C66
def F110 (f133:T133) (f134:T134) (f135:T135) (f136:T136) (f137:T137) (f138:T138) (f139:T139) (f66:T66) (f110_c0:T110_c0):T110:=fun (x0,x1,x2,x3,_)=>bif decide (0≤x1)&&decide (x1<(↑x0.length:Int)) then (f110_c0 (x1,(↑(x0.getD x1.toNat 0).toNat:Int),x0,x1,x2,x3,0,[],0,())).bind fun v=>some (v.2.2.2.2.1,v.2.2.2.2.2.1,v.2.2.2.2.2.2.1,v.1,v.2.1,v.2.2.1,v.2.2.2.1,()) else none
def C110:T110:=F110 C133 C134 C135 C136 C137 C138 C139 C66 C110_c0
abbrev T73_l0:=qa×LqD×qa×Int×Int×Int×Unit→Option ((LqD×Unit)⊕(Int×Int×Unit))
abbrev T73:=qa×Unit→Option (LqD×Int×Int×Unit)
def F73_l0 (f110:T110) (f65:T65):qp (qa×LqD×qa×Int×Int×Int×Unit) ((LqD×Unit)⊕(Int×Int×Unit)):=fun (x0,x1,x2,x3,x4,x5,_)=>bif decide (x3<(↑x0.length:Int)) then (f110 (x2,x3,x4,x5,())).bind fun v=>bif decide (x1.length+[(v.1,v.2.1,v.2.2.1)].length≤140737488355328/32) then bif v.2.2.2.2.2.2.1 != 0 then some (Sum.inr (Sum.inr (v.2.2.2.2.2.1,v.2.2.2.2.2.2.1,()))) else some (Sum.inl (x0,x1++[(v.1,v.2.1,v.2.2.1)],v.2.2.2.1,v.2.2.2.2.1,v.2.2.2.2.2.1,v.2.2.2.2.2.2.1,())) else none else some (Sum.inr (Sum.inl (x1,())))
def C73_l0:T73_l0:=loopN (F73_l0 C110 C65) big
def F73 (f110:T110) (f65:T65) (f73_l0:T73_l0):T73:=fun (x0,_)=>bif decide ((↑x0.length:Int)>2000) then some ([],0,5,()) else (f65 (x0,())).bind fun v=>bif decide (v.2.1≥0) then some ([],v.2.1,7,()) else (f73_l0 (x0,[],x0,0,0,0,())).bind fun v=>Sum.elim (fun v=>some (v.1,0,0,())) (fun v=>some ([],v.1,v.2.1,())) v
def C73:T73:=F73 C110 C65 C73_l0
end Go.Proofs.YtgkmfhhghcccjaaGreatDoorA.W
set_option linter.unusedSimpArgs false
namespace Go.Proofs.YtgkmfhhghcccjaaGreatDoorA.W
open Go Go.Ae
theorem wr {n:Int} (h1 : -9223372036854775808≤n) (h2:n≤9223372036854775807):IntKind.i64.wrap n=n:=by rw [IntKind.wrap_i64];omega
theorem wrN (n:Nat) (h:n≤9223372036854775806):IntKind.i64.wrap ((n:Int)+1)=((n+1:Nat):Int):=by rw [wr]<;>omega
theorem of_to (b:UInt8):UInt8.ofNat b.toNat=b:=by simp
theorem byte_back (b:UInt8):UInt8.ofNat ((b.toNat:Int)).toNat=b:=by simp
theorem getD_lt {α:Type} {l:List α} {i:Nat} {d:α} (h:i<l.length):l.getD i d=l[i]:=by simp [List.getD_eq_getElem?_getD,List.getElem?_eq_getElem h]
def esc1 (c:UInt8):List UInt8:=if c.toNat=34∨c.toNat=92 then [92,c] else [c]
def esc (s:List UInt8):List UInt8:=s.flatMap esc1
theorem esc1_len (c:UInt8):(esc1 c).length≤2:=by unfold esc1;split<;>simp
theorem esc_len:∀s:List UInt8,(esc s).length≤2*s.length
 | []=>by simp [esc]
 | c::s=>by have:=esc_len s;have:=esc1_len c;simp [esc] at *;omega
theorem esc_append (s t:List UInt8):esc (s++t)=esc s++esc t:=by simp [esc]
theorem take_succ_get {α:Type} {s:List α} {k:Nat} (h:k<s.length):s.take (k+1)=s.take k++[s[k]]:=by
 rw [List.take_add_one,List.getElem?_eq_getElem h];rfl
theorem esc_take {s:List UInt8} {k:Nat} (h:k<s.length):esc (s.take (k+1))=esc (s.take k)++esc1 s[k]:=by
 rw [take_succ_get h,esc_append];simp [esc]
theorem ibT {a b:Int} (h:a=b):(a==b)=true:=by simp [h]
theorem ibF {a b:Int} (h:a≠b):(a==b)=false:=by simp [h]
theorem inT {a b:Int} (h:a≠b):(a != b)=true:=by simp [h]
theorem inF {a b:Int} (h:a=b):(a != b)=false:=by simp [h]
theorem esc1_q {c:UInt8} (h:c.toNat=34):esc1 c=[92]++[c]:=by simp [esc1,h]
theorem esc1_b {c:UInt8} (h:c.toNat=92):esc1 c=[92]++[c]:=by simp [esc1,h]
theorem esc1_n {c:UInt8} (h:¬c.toNat=34) (h2:¬c.toNat=92):esc1 c=[c]:=by simp [esc1,h,h2]
theorem r14 (s:List UInt8) (k:Nat) (acc:List UInt8) (h:k<s.length) (hb:s.length≤9223372036854775806) (ha:acc.length+2≤140737488355328) :
 F233_l0 (s,(s.length:Int),(k:Int),acc,())=some (.inl (s,(s.length:Int),((k+1:Nat):Int),acc++esc1 s[k],())):=by
 by_cases e1:s[k].toNat=34
 · simp (disch:=omega) only [F233_l0,decide_eq_true,cond_true,Bool.and_self,qk,getD_lt,byte_back,wrN,Int.toNat_natCast,ibT,esc1_q,List.append_assoc,of_to]
 · by_cases e2:s[k].toNat=92
   · simp (disch:=omega) only [F233_l0,decide_eq_true,cond_true,cond_false,Bool.and_self,qk,getD_lt,byte_back,wrN,Int.toNat_natCast,ibT,ibF,esc1_b,List.append_assoc,of_to]
   · simp (disch:=omega) only [F233_l0,decide_eq_true,cond_true,cond_false,Bool.and_self,qk,getD_lt,byte_back,wrN,Int.toNat_natCast,ibT,ibF,esc1_n,List.append_assoc,of_to]
theorem c14 (s:List UInt8) (hb:s.length≤70368744177663):C233 (s,())=some (esc s,()):=by
 have key:∀(k:Nat) (n:Nat),k≤s.length→s.length-k<n→loopN F233_l0 n (s,(s.length:Int),(k:Int),esc (s.take k),())=some (esc s,()):=by
  intro k n
  induction n generalizing k with
  | zero=>intro _ h;omega
  | succ n ih =>
   intro hk hn;by_cases h:k<s.length
   · have hl:=esc_len (s.take k)
     rw [loopN_inl (r14 s k _ h (by omega) (by simp only [List.length_take] at hl;omega)),←esc_take h];exact ih (k+1) (by omega) (by omega)
   · have:k=s.length:=by omega
     subst this;refine loopN_inr ?_;simp [F233_l0]
 have:=key 0 big (by omega) (by unfold big;omega);simp only [List.take_zero] at this;show F233 C233_l0 (s,())=_;simp only [F233,C233_l0];rw [show loopN F233_l0 big (s,(s.length:Int),0,[],())=some (esc s,()) from this];rfl
def src (k:Int) (s:List UInt8):List UInt8:=if k=1 then [34]++esc s++[34] else if k=3 then [40]++s++[41] else if k=5 then [91]++s++[93] else s
theorem c9 (k:Int) (s:List UInt8) (a:Int) (hb:s.length≤9000):C197 (k,s,a,())=some (src k s,()):=by
 have hl:=esc_len s;show F197 C233 (k,s,a,())=_;by_cases e1:k=1
 · simp (disch:=omega) only [F197,c14,ibT,cond_true,decide_eq_true,qk,Option.bind_some,src,if_pos]
 · by_cases e3:k=3
   · simp (disch:=omega) only [F197,ibT,ibF,cond_true,cond_false,decide_eq_true,qk,Option.bind_some,src,if_pos,if_neg]
   · by_cases e5:k=5
     · simp (disch:=omega) only [F197,ibT,ibF,cond_true,cond_false,decide_eq_true,qk,Option.bind_some,src,if_pos,if_neg]
     · simp (disch:=omega) only [F197,ibT,ibF,cond_true,cond_false,src,if_neg]
theorem all256 (p:UInt8→Bool) (h:(List.range 256).all (fun n=>p (UInt8.ofNat n))=true) (c:UInt8):p c=true:=by
 have h1:=List.all_eq_true.1 h c.toNat (List.mem_range.2 (by have:=c.toNat_lt;omega))
 simpa using h1
def gB (o:Option (Bool×Unit)):Bool:=match o with|some (b,_)=>b|none=>false
def okB (o:Option (Bool×Unit)):Bool:=match o with|some (_,_)=>true|none=>false
theorem okB_some {o:Option (Bool×Unit)} (h:okB o=true):o=some (gB o,()):=by
 cases o with
 | none=>cases h
 | some x=>rfl
def atomB (c:UInt8):Bool:=gB (C133 ((c.toNat:Int),()))
def blankB (c:UInt8):Bool:=gB (C165 ((c.toNat:Int),()))
def mayB (c:UInt8):Bool:=gB (C164 ((c.toNat:Int),()))
def signI (c:UInt8):Int:=match C66 ([60,62,58,59,64,44,46],(c.toNat:Int),()) with|some (i,_)=>i|none=>0
def signB (c:UInt8):Bool:=decide (signI c≥0)
theorem c17 (c:UInt8):C133 ((c.toNat:Int),())=some (atomB c,()):=okB_some (all256 (fun c=>okB (C133 ((c.toNat:Int),()))) (by kernel_rfl) c)
theorem c32 (c:UInt8):C165 ((c.toNat:Int),())=some (blankB c,()):=okB_some (all256 (fun c=>okB (C165 ((c.toNat:Int),()))) (by kernel_rfl) c)
theorem c31 (c:UInt8):C164 ((c.toNat:Int),())=some (mayB c,()):=okB_some (all256 (fun c=>okB (C164 ((c.toNat:Int),()))) (by kernel_rfl) c)
theorem c22s (c:UInt8):C66 ([60,62,58,59,64,44,46],(c.toNat:Int),())=some (signI c,()):=rfl
theorem gd {α:Type} {pre r:List α} {c d:α} {p:Nat} (h:pre.length=p):(pre++c::r).getD p d=c:=by subst h;simp
theorem dr {α:Type} {pre r:List α} {p:Nat} (h:pre.length=p):List.drop p (pre++r)=r:=by subst h;simp
theorem Sk:(∀{p:Prop} [Decidable p],p→decide p=true)∧(∀{p:Prop} [Decidable p],¬p→decide p=false)∧(∀{α:Type} (a b:α),(bif true then a else b)=a)∧(∀{α:Type} (a b:α),(bif false then a else b)=b) ∧
 (∀b:Bool,(b&&b)=b)∧(∀b:Bool,(true&&b)=b)∧(∀b:Bool,(b&&true)=b)∧(∀b:Bool,(false&&b)=false)∧(∀b:Bool,(b&&false)=false)∧(!true)=false∧(!false)=true ∧
 (∀{α:Type} {a b:List α},(a++b).length=a.length+b.length)∧(∀{α:Type} {a:α} {l:List α},(a::l).length=l.length+1)∧(∀{α:Type},([]:List α).length=0)∧(∀n:Nat,((n:Int)).toNat=n) ∧
 (∀{a b:Int},a=b→(a==b)=true)∧(∀{a b:Int},a≠b→(a==b)=false)∧(∀{a b:Int},a≠b→(a != b)=true)∧(∀{a b:Int},a=b→(a != b)=false) ∧
 (∀n:Nat,n≤9223372036854775806→IntKind.i64.wrap ((n:Int)+1)=((n+1:Nat):Int))∧(∀{α:Type} {pre r:List α} {c d:α} {p:Nat},pre.length=p→(pre++c::r).getD p d=c)∧(∀{α:Type} {pre r:List α} {p:Nat},pre.length=p→List.drop p (pre++r)=r) ∧
 (∀{α β:Type} (a:α) (f:α→Option β),(some a).bind f=f a)∧(∀{α β γ:Type} (f:α→γ) (g:β→γ) (x:α),Sum.elim f g (Sum.inl x)=f x)∧(∀{α β γ:Type} (f:α→γ) (g:β→γ) (x:β),Sum.elim f g (Sum.inr x)=g x)∧(∀b:UInt8,UInt8.ofNat ((b.toNat:Int)).toNat=b)∧∀b:UInt8,UInt8.ofNat b.toNat=b :=
 ⟨@decide_eq_true,@decide_eq_false,fun _ _=>rfl,fun _ _=>rfl,Bool.and_self,Bool.true_and,Bool.and_true,Bool.false_and,Bool.and_false,rfl,rfl,@fun _ _ _=>List.length_append,@fun _ _ _=>List.length_cons,@fun _=>List.length_nil,Int.toNat_natCast,@ibT,@ibF,@inT,@inF,wrN,@gd,@dr,@Option.bind_some,fun _ _ _=>rfl,fun _ _ _=>rfl,byte_back,of_to⟩
theorem shift {α:Type} (pre:List α) (c:α) (r:List α):pre++c::r=(pre++[c])++r:=by simp
theorem c27 (k e:Int) (s:List UInt8) (at_ bad err:Int):C139 (k,e,s,at_,bad,err,())=some (s,at_,k,e,()):=rfl
def al:List UInt8→Nat
 | []=>0
 | c::r=>bif atomB c then al r+1 else 0
theorem al_le:∀r,al r≤r.length
 | []=>Nat.le_refl _
 | c::r=>by have:=al_le r;simp only [al];cases atomB c<;>simp;omega
theorem l21 (f bad err:Int):∀(r pre:List UInt8) (p n:Nat),pre.length=p→r.length<n→p+r.length≤140737488355328 →
 loopN (F134_l0 C133 C134_c0) n (f,pre++r,(p:Int),bad,err,())=some (f,pre++r,((p+al r:Nat):Int),bad,err,())
 | [],pre,p,n+1,hp,hn,hb=>by
  refine loopN_inr ?_;simp (disch:=(first|omega|(simp only [qk];omega))) only [F134_l0,C134_c0,F134_c0,Sk,al,List.append_nil,Nat.add_zero]
 | c::r,pre,p,n+1,hp,hn,hb=>by
  simp only [List.length_cons] at hn hb;cases h:atomB c with
  | true =>
   rw [loopN_inl (v':=(f,pre++c::r,((p+1:Nat):Int),bad,err,())) (by simp (disch:=(first|omega|(simp only [qk];omega))) only [F134_l0,C134_c0,F134_c0,Sk,c17,h])];rw [shift,l21 f bad err r (pre++[c]) (p+1) n (by simp [hp]) (by omega) (by omega)];simp only [al,h,cond_true,Nat.add_assoc,Nat.add_comm 1]
  | false =>
   refine loopN_inr ?_;simp (disch:=(first|omega|(simp only [qk];omega))) only [F134_l0,C134_c0,F134_c0,Sk,c17,h,al,Nat.add_zero]
theorem c21 (pre r:List UInt8) (p:Nat) (bad err:Int) (hp:pre.length=p) (hb:p+r.length≤140737488355328) :
 C134 (pre++r,(p:Int),bad,err,())=some (r.take (al r),pre++r,((p+al r:Nat):Int),bad,err,()):=by
 have:=al_le r;show F134 C133 C134_l0 (pre++r,(p:Int),bad,err,())=_;have hl:C134_l0 ((p:Int),pre++r,(p:Int),bad,err,())=_:=l21 p bad err r pre p big hp (by unfold big;omega) hb;simp (disch:=(first|omega|(simp only [qk];omega))) only [F134,hl,Sk];rw [show List.drop p (List.take (p+al r) (pre++r))=r.take (al r) by rw [←hp,List.take_append,List.take_of_length_le (by omega),List.drop_append];simp]
def wl:List UInt8→Nat
 | []=>0
 | c::r=>bif blankB c then wl r+1 else
  match r with
  | b::d::r'=>bif (c==13&&b==10)&&blankB d then wl r'+3 else 0
  | _=>0
theorem wl_le:∀r,wl r≤r.length
 | []=>Nat.le_refl _
 | [c]=>by simp only [wl];cases blankB c<;>simp
 | [c,b]=>by have:=wl_le [b];simp only [wl] at *;cases blankB c<;>cases blankB b<;>simp
 | c::b::d::r'=>by
  have h1:=wl_le (b::d::r');have h2:=wl_le r';rw [wl];cases blankB c
  · simp only [cond_false];cases (c==13&&b==10)&&blankB d<;>simp;omega
  · simp only [cond_true,List.length_cons] at *;omega
theorem beq2 (c b:UInt8):([c,b]==[13,10])=(c==13&&b==10):=by
 rw [Bool.eq_iff_iff];simp
theorem c26c (f p:Nat) (s:List UInt8) (bad err:Int) (b:Bool) (hf:f≤p) (hp:p≤s.length) (hb:p≤140737488355328) :
 C138_c0 ((f:Int),b,s,(p:Int),bad,err,())=some (bif b then .inl ((f:Int),s,((p+3:Nat):Int),bad,err,()) else .inr (List.drop f (List.take p s),s,(p:Int),bad,err,())):=by
 cases b with
 | true=>simp only [C138_c0,F138_c0,cond_true];rw [wr (by omega) (by omega)];rfl
 | false=>simp (disch:=(first|omega|(simp only [qk];omega))) only [C138_c0,F138_c0,Sk]
theorem wl_t {c:UInt8} {r:List UInt8} (h:blankB c=true):wl (c::r)=wl r+1:=by
 match r with
 | []=>simp [wl,h]
 | [b]=>simp [wl,h]
 | b::d::r=>rw [wl,h];rfl
theorem wl_stop {c:UInt8} {r:List UInt8} (h:blankB c=false) (h2:r.length<2):wl (c::r)=0:=by
 match r,h2 with
 | [],_=>simp [wl,h]
 | [b],_=>simp [wl,h]
 | b::d::r,h2=>simp at h2;omega
theorem l26 (f:Nat) (bad err:Int):∀(m:Nat) (r pre:List UInt8) (p n:Nat),r.length≤m→pre.length=p→r.length<n→f≤p→p+r.length≤140737488355328 →
 loopN (F138_l0 C165 C138_c0) n ((f:Int),pre++r,(p:Int),bad,err,())=some (.inl ((f:Int),pre++r,((p+wl r:Nat):Int),bad,err,())) ∨
 loopN (F138_l0 C165 C138_c0) n ((f:Int),pre++r,(p:Int),bad,err,())=some (.inr (List.drop f (List.take (p+wl r) (pre++r)),pre++r,((p+wl r:Nat):Int),bad,err,()))
 | _,_,_,_,0,_,_,hn,_,_=>by omega
 | m,[],pre,p,n+1,hm,hp,hn,hf,hb=>by
  refine .inl (loopN_inr ?_);simp (disch:=(first|omega|(simp only [qk];omega))) only [F138_l0,Sk,wl,List.append_nil,Nat.add_zero]
 | 0,c::r,pre,p,n+1,hm,hp,hn,hf,hb=>by simp at hm
 | m+1,c::r,pre,p,n+1,hm,hp,hn,hf,hb=>by
  simp only [List.length_cons] at hn hb hm;cases h:blankB c with
  | true =>
   rw [loopN_inl (v':=((f:Int),pre++c::r,((p+1:Nat):Int),bad,err,())) (by simp (disch:=(first|omega|(simp only [qk];omega))) only [F138_l0,Sk,c32,h,List.getD_cons_zero])];rw [shift];have:=l26 f bad err m r (pre++[c]) (p+1) n (by omega) (by simp [hp]) (by omega) (by omega) (by omega);rw [show p+wl (c::r)=p+1+wl r by rw [wl_t h];omega];exact this
  | false =>
   have stop:∀(hw:wl (c::r)=0),F138_l0 C165 C138_c0 ((f:Int),pre++c::r,(p:Int),bad,err,())=some (.inr (.inr (List.drop f (List.take p (pre++c::r)),pre++c::r,(p:Int),bad,err,()))) →
    loopN (F138_l0 C165 C138_c0) (n+1) ((f:Int),pre++c::r,(p:Int),bad,err,())=some (.inr (List.drop f (List.take (p+wl (c::r)) (pre++c::r)),pre++c::r,((p+wl (c::r):Nat):Int),bad,err,())):=by
    intro hw h;rw [hw];exact loopN_inr h
   match r,hm,hn,hb with
   | [],hm,hn,hb =>
    refine .inr (stop (wl_stop h (by simp)) ?_);simp (disch:=(first|omega|(simp only [qk];omega))) only [F138_l0,Sk,c32,h,List.getD_cons_zero,c26c]
   | [b],hm,hn,hb =>
    refine .inr (stop (wl_stop h (by simp)) ?_);simp only [List.length_cons,List.length_nil] at hn hb hm;simp (disch:=(first|omega|(simp only [qk];omega))) only [F138_l0,Sk,c32,h,List.getD_cons_zero,c26c]
   | b::d::r',hm,hn,hb =>
    simp only [List.length_cons] at hn hb hm;cases hq:(c==13&&b==10) with
    | false =>
     refine .inr (stop (by rw [wl,h,hq];rfl) ?_);simp (disch:=(first|omega|(simp only [qk];omega))) only [F138_l0,Sk,c32,h,List.getD_cons_zero,c26c,List.take_succ_cons,List.take_zero,beq2,hq]
    | true =>
     cases hd:blankB d with
     | false =>
      refine .inr (stop (by rw [wl,h,hq,hd];rfl) ?_);simp (disch:=(first|omega|(simp only [qk];omega))) only [F138_l0,Sk,c32,h,List.getD_cons_zero,List.getD_cons_succ,c26c,List.take_succ_cons,List.take_zero,beq2,hq,hd]
     | true =>
      rw [loopN_inl (v':=((f:Int),pre++c::b::d::r',((p+3:Nat):Int),bad,err,())) (by simp (disch:=(first|omega|(simp only [qk];omega))) only [F138_l0,Sk,c32,h,List.getD_cons_zero,List.getD_cons_succ,c26c,List.take_succ_cons,List.take_zero,beq2,hq,hd])];have:=l26 f bad err m r' (pre++[c,b,d]) (p+3) n (by omega) (by simp [hp]) (by omega) (by omega) (by omega);rw [show p+wl (c::b::d::r')=p+3+wl r' by rw [wl,h,hq,hd];simp only [cond_true,cond_false,Bool.and_self];omega];rw [show pre++c::b::d::r'=(pre++[c,b,d])++r' by simp];exact this
theorem text_eq {pre r:List UInt8} {p k:Nat} (hp:pre.length=p):List.drop p (List.take (p+k) (pre++r))=r.take k:=by
 rw [←hp,List.take_append,List.take_of_length_le (by omega),List.drop_append];simp
theorem c26 (pre r:List UInt8) (p:Nat) (bad err:Int) (hp:pre.length=p) (hb:p+r.length≤140737488355328) :
 C138 (pre++r,(p:Int),bad,err,())=some (r.take (wl r),pre++r,((p+wl r:Nat):Int),bad,err,()):=by
 have:=wl_le r;show F138 C165 C138_l0 (pre++r,(p:Int),bad,err,())=_;rcases l26 p bad err r.length r pre p big (Nat.le_refl _) hp (by unfold big;omega) (Nat.le_refl _) hb with hl|hl
 · have hl':C138_l0 ((p:Int),pre++r,(p:Int),bad,err,())=_:=hl
   simp (disch:=(first|omega|(simp only [qk];omega))) only [F138,hl',Sk,text_eq]
 · have hl':C138_l0 ((p:Int),pre++r,(p:Int),bad,err,())=_:=hl
   simp (disch:=(first|omega|(simp only [qk];omega))) only [F138,hl',Sk,text_eq]
inductive Tk where
 | ok (t:List UInt8) (u:Nat)
 | bad (off:Nat) (e:Int)
 | start
def Tk.push (l:List UInt8) (n:Nat):Tk→Tk
 | .ok t u => .ok (l++t) (n+u)
 | .bad off e => .bad (n+off) e
 | .start => .start
def qt:List UInt8→Tk
 | [] => .start
 | c::r=>if c.toNat=34 then .ok [] 1 else if c.toNat=92 then
  match r with
  | [] => .start
  | d::r'=>bif mayB d then (qt r').push [d] 2 else .bad 1 4
  else bif mayB c then (qt r).push [c] 1 else .bad 0 4
theorem qt_q {c:UInt8} {r:List UInt8} (h:c.toNat=34):qt (c::r) = .ok [] 1:=by cases r<;>simp [qt,h]
theorem qt_b0 {c:UInt8} (h:c.toNat=92):qt [c] = .start:=by simp [qt,h]
theorem qt_b1 {c d:UInt8} {r:List UInt8} (h:c.toNat=92):qt (c::d::r)=bif mayB d then (qt r).push [d] 2 else .bad 1 4:=by simp [qt,h]
theorem qt_c {c:UInt8} {r:List UInt8} (h1:¬c.toNat=34) (h2:¬c.toNat=92):qt (c::r)=bif mayB c then (qt r).push [c] 1 else .bad 0 4:=by cases r<;>simp [qt,h1,h2]
def resq (s:List UInt8) (a bad err:Int) (out:List UInt8) (q:Nat):Tk→(List UInt8×Int×Int×Int×Unit)⊕(List UInt8×List UInt8×Int×Int×Int×Unit)
 | .ok t u => .inr (out++t,s,((q+u:Nat):Int),bad,err,())
 | .bad off e => .inr ([],s,a,((q+off:Nat):Int),e,())
 | .start => .inl (s,a,bad,err,())
theorem resq_push (s:List UInt8) (a bad err:Int) (out:List UInt8) (q:Nat) (l:List UInt8) (n:Nat) (k:Tk):resq s a bad err out q (k.push l n)=resq s a bad err (out++l) (q+n) k:=by
 cases k<;>simp [Tk.push,resq,Nat.add_assoc]
theorem c23c (pre r out:List UInt8) (d:UInt8) (q:Nat) (a bad err:Int) (hq:pre.length=q) (hb:q+r.length≤140737488355320) (ho:out.length+1≤140737488355328) :
 C135_c0 ((q:Int),pre++d::r,a,bad,err,out,())=some (bif mayB d then .inr ((q:Int),pre++d::r,a,bad,err,out++[d],()) else .inl ([],pre++d::r,a,(q:Int),4,())):=by
 cases h:mayB d<;>simp (disch:=(first|omega|(simp only [qk];omega))) only [C135_c0,F135_c0,Sk,c31,c27,h]
theorem l23 (a bad err:Int):∀(m:Nat) (r pre out:List UInt8) (q n:Nat),r.length≤m→pre.length=q→r.length<n→q+r.length≤140737488355320→out.length+r.length≤140737488355320 →
 loopN (F135_l0 C139 C164 C135_c0) n ((q:Int),pre++r,a,bad,err,out,())=some (resq (pre++r) a bad err out q (qt r))
 | _,_,_,_,_,0,_,_,hn,_,_=>by omega
 | m,[],pre,out,q,n+1,hm,hq,hn,hb,ho=>by
  refine loopN_inr ?_;simp (disch:=(first|omega|(simp only [qk];omega))) only [F135_l0,Sk,List.append_nil,qt,resq]
 | 0,c::r,pre,out,q,n+1,hm,hq,hn,hb,ho=>by simp at hm
 | m+1,c::r,pre,out,q,n+1,hm,hq,hn,hb,ho=>by
  simp only [List.length_cons] at hn hb hm ho;by_cases e1:c.toNat=34
  · refine loopN_inr ?_
    rw [qt_q e1];simp (disch:=(first|omega|(simp only [qk];omega))) only [F135_l0,Sk,resq,List.append_nil]
  · by_cases e2:c.toNat=92
    · match r,hm,hn,hb,ho with
      | [],hm,hn,hb,ho =>
       refine loopN_inr ?_;rw [qt_b0 e2];simp (disch:=(first|omega|(simp only [qk];omega))) only [F135_l0,Sk,resq,List.append_nil]
      | d::r',hm,hn,hb,ho =>
       simp only [List.length_cons] at hn hb hm ho;have hc:=c23c (pre++[c]) r' out d (q+1) a bad err (by simp [hq]) (by omega) (by omega);rw [←shift] at hc;rw [qt_b1 e2];cases h:mayB d with
       | true =>
        rw [h] at hc;simp only [cond_true] at hc ⊢;rw [loopN_inl (v':=(((q+2:Nat):Int),pre++c::d::r',a,bad,err,out++[d],())) (by
         simp (disch:=(first|omega|(simp only [qk];omega))) only [F135_l0,Sk,hc])]
        have:=l23 a bad err m r' (pre++[c,d]) (out++[d]) (q+2) n (by omega) (by simp [hq]) (by omega) (by omega) (by simp;omega);rw [show pre++c::d::r'=(pre++[c,d])++r' by simp,this,←resq_push]
       | false =>
        rw [h] at hc;simp only [cond_false] at hc ⊢;refine loopN_inr ?_;simp (disch:=(first|omega|(simp only [qk];omega))) only [F135_l0,Sk,hc,resq]
    · have hc:=c23c pre r out c q a bad err hq (by omega) (by omega)
      rw [qt_c e1 e2];cases h:mayB c with
      | true =>
       rw [h] at hc;simp only [cond_true] at hc ⊢;rw [loopN_inl (v':=(((q+1:Nat):Int),pre++c::r,a,bad,err,out++[c],())) (by
        simp (disch:=(first|omega|(simp only [qk];omega))) only [F135_l0,Sk,hc])]
       have:=l23 a bad err m r (pre++[c]) (out++[c]) (q+1) n (by omega) (by simp [hq]) (by omega) (by omega) (by simp;omega);rw [shift,this,←resq_push]
      | false =>
       rw [h] at hc;simp only [cond_false] at hc ⊢;refine loopN_inr ?_;simp (disch:=(first|omega|(simp only [qk];omega))) only [F135_l0,Sk,hc,resq,Nat.add_zero]
def fin (s:List UInt8) (p:Nat) (bad err:Int) (q:Nat):Tk→List UInt8×List UInt8×Int×Int×Int×Unit
 | .ok t u=>(t,s,((q+u:Nat):Int),bad,err,())
 | .bad off e=>([],s,(p:Int),((q+off:Nat):Int),e,())
 | .start=>([],s,(p:Int),(p:Int),4,())
theorem c23 (pre r:List UInt8) (c:UInt8) (p:Nat) (bad err:Int) (hp:pre.length=p) (hb:p+r.length≤140737488355000) :
 C135 (pre++c::r,(p:Int),bad,err,())=some (fin (pre++c::r) p bad err (p+1) (qt r)):=by
 show F135 C139 C164 C135_l0 (pre++c::r,(p:Int),bad,err,())=_;have hl:=l23 p bad err r.length r (pre++[c]) [] (p+1) big (Nat.le_refl _) (by simp [hp]) (by unfold big;omega) (by omega) (by simp;omega);rw [←shift] at hl;have hl':C135_l0 (((p+1:Nat):Int),pre++c::r,(p:Int),bad,err,[],())=_:=hl;cases hq:qt r<;>rw [hq] at hl'<;>simp (disch:=(first|omega|(simp only [qk];omega))) only [F135,Sk,hl',resq,fin,c27,List.nil_append]
def ltk:List UInt8→Tk
 | [] => .start
 | c::r=>if c.toNat=93 then .ok [] 1 else if c.toNat=91 then .bad 0 4 else if c.toNat=92 then .bad 0 4 else
  bif blankB c then .bad 0 4 else bif mayB c then (ltk r).push [c] 1 else .bad 0 4
def resl (s:List UInt8) (a bad err:Int) (from_:Nat) (q:Nat):Tk→(List UInt8×Int×Int×Int×Unit)⊕(List UInt8×List UInt8×Int×Int×Int×Unit)
 | .ok t u => .inr (List.drop from_ (List.take (q+t.length) s),s,((q+u:Nat):Int),bad,err,())
 | .bad off e => .inr ([],s,a,((q+off:Nat):Int),e,())
 | .start => .inl (s,a,bad,err,())
theorem resl_push (s:List UInt8) (a bad err:Int) (f q:Nat) (l:List UInt8) (n:Nat) (hl:l.length=n) (k:Tk):resl s a bad err f q (k.push l n)=resl s a bad err f (q+n) k:=by
 cases k<;>simp [Tk.push,resl,Nat.add_assoc,hl]
theorem l24 (a:Nat) (bad err:Int):∀(r pre:List UInt8) (q n:Nat),pre.length=q→a+1≤q→r.length<n→q+r.length≤140737488355320 →
 loopN (F136_l0 C139 C164 C165 C136_c0) n ((q:Int),pre++r,(a:Int),bad,err,())=some (resl (pre++r) a bad err (a+1) q (ltk r))
 | _,_,_,0,_,_,hn,_=>by omega
 | [],pre,q,n+1,hq,ha,hn,hb=>by
  refine loopN_inr ?_;simp (disch:=(first|omega|(simp only [qk];omega))) only [F136_l0,C136_c0,F136_c0,Sk,List.append_nil,ltk,resl]
 | c::r,pre,q,n+1,hq,ha,hn,hb=>by
  simp only [List.length_cons] at hn hb;by_cases e1:c.toNat=93
  · refine loopN_inr ?_
    simp (disch:=(first|omega|(simp only [qk];omega))) only [F136_l0,C136_c0,F136_c0,Sk,ltk,if_pos,resl,Nat.add_zero]
  · by_cases e2:c.toNat=91
    · refine loopN_inr ?_
      simp (disch:=(first|omega|(simp only [qk];omega))) only [F136_l0,C136_c0,F136_c0,Sk,ltk,if_pos,if_neg,resl,Nat.add_zero,c27]
    · by_cases e3:c.toNat=92
      · refine loopN_inr ?_
        simp (disch:=(first|omega|(simp only [qk];omega))) only [F136_l0,C136_c0,F136_c0,Sk,ltk,if_pos,if_neg,resl,Nat.add_zero,c27]
      · cases h1:blankB c with
        | true =>
         refine loopN_inr ?_;simp (disch:=(first|omega|(simp only [qk];omega))) only [F136_l0,C136_c0,F136_c0,Sk,ltk,if_pos,if_neg,resl,Nat.add_zero,c27,c32,h1]
        | false =>
         cases h2:mayB c with
         | false =>
          refine loopN_inr ?_;simp (disch:=(first|omega|(simp only [qk];omega))) only [F136_l0,C136_c0,F136_c0,Sk,ltk,if_pos,if_neg,resl,Nat.add_zero,c27,c32,c31,h1,h2]
         | true =>
          rw [loopN_inl (v':=(((q+1:Nat):Int),pre++c::r,(a:Int),bad,err,())) (by
           simp (disch:=(first|omega|(simp only [qk];omega))) only [F136_l0,C136_c0,F136_c0,Sk,c32,c31,h1,h2])]
          have:=l24 a bad err r (pre++[c]) (q+1) n (by simp [hq]) (by omega) (by omega) (by omega);rw [shift,this,←resl_push (l:=[c]) (n:=1) _ _ _ _ _ _ rfl];simp only [ltk,if_neg e1,if_neg e2,if_neg e3,h1,h2,cond_true,cond_false]
theorem ltk_ok:∀{r t:List UInt8} {u:Nat},ltk r = .ok t u→u=t.length+1∧t.length<r.length∧r.take t.length=t
 | [],t,u,h=>by simp [ltk] at h
 | c::r,t,u,h=>by
  unfold ltk at h;split at h
  · cases h;simp
  · split at h
    · cases h
    · split at h
      · cases h
      · cases h1:blankB c<;>cases h2:mayB c<;>rw [h1,h2] at h<;>simp only [cond_true,cond_false] at h<;>try (cases h;done)
        cases hr:ltk r with
        | ok t' u' =>
         rw [hr] at h;cases h;obtain ⟨i1,i2,i3⟩:=ltk_ok hr;exact ⟨by simp;omega,by simpa using i2,by simpa using i3⟩
        | bad o e=>rw [hr] at h;cases h
        | start=>rw [hr] at h;cases h
theorem c24 (pre r:List UInt8) (c:UInt8) (p:Nat) (bad err:Int) (hp:pre.length=p) (hb:p+r.length≤140737488355000) :
 C136 (pre++c::r,(p:Int),bad,err,())=some (fin (pre++c::r) p bad err (p+1) (ltk r)):=by
 show F136 C139 C164 C165 C136_l0 (pre++c::r,(p:Int),bad,err,())=_;have hl:=l24 p bad err r (pre++[c]) (p+1) big (by simp [hp]) (by omega) (by unfold big;omega) (by omega);rw [←shift] at hl;have hl':C136_l0 (((p+1:Nat):Int),pre++c::r,(p:Int),bad,err,())=_:=hl;cases hq:ltk r with
 | ok t u =>
  rw [hq] at hl';obtain ⟨i1,i2,i3⟩:=ltk_ok hq;simp (disch:=(first|omega|(simp only [qk];omega))) only [F136,Sk,hl',resl,fin];rw [shift,text_eq (by simp [hp]),i3]
 | bad o e=>rw [hq] at hl';simp (disch:=(first|omega|(simp only [qk];omega))) only [F136,Sk,hl',resl,fin]
 | start=>rw [hq] at hl';simp (disch:=(first|omega|(simp only [qk];omega))) only [F136,Sk,hl',resl,fin,c27]
def nt:Nat→List UInt8→Tk
 | _,[] => .start
 | deep,c::r=>if c.toNat=40 then (if deep+1>32 then .bad 0 6 else (nt (deep+1) r).push [c] 1)
  else if c.toNat=41 then (if deep=1 then .ok [] 1 else (nt (deep-1) r).push [c] 1)
  else if c.toNat=92 then
   match r with
   | [] => .start
   | d::r'=>bif mayB d then (nt deep r').push [c,d] 2 else .bad 1 4
  else bif mayB c then (nt deep r).push [c] 1 else .bad 0 4
theorem nt_o {deep:Nat} {c:UInt8} {r:List UInt8} (h:c.toNat=40):nt deep (c::r)=if deep+1>32 then .bad 0 6 else (nt (deep+1) r).push [c] 1:=by cases r<;>simp [nt,h]
theorem nt_c {deep:Nat} {c:UInt8} {r:List UInt8} (h:c.toNat=41):nt deep (c::r)=if deep=1 then .ok [] 1 else (nt (deep-1) r).push [c] 1:=by cases r<;>simp [nt,h]
theorem nt_b0 {deep:Nat} {c:UInt8} (h:c.toNat=92):nt deep [c] = .start:=by simp [nt,h]
theorem nt_b1 {deep:Nat} {c d:UInt8} {r:List UInt8} (h:c.toNat=92):nt deep (c::d::r)=bif mayB d then (nt deep r).push [c,d] 2 else .bad 1 4:=by simp [nt,h]
theorem nt_m {deep:Nat} {c:UInt8} {r:List UInt8} (h1:¬c.toNat=40) (h2:¬c.toNat=41) (h3:¬c.toNat=92):nt deep (c::r)=bif mayB c then (nt deep r).push [c] 1 else .bad 0 4:=by cases r<;>simp [nt,h1,h2,h3]
theorem wrM (n:Nat) (h:n≤9223372036854775806) (h1:1≤n):IntKind.i64.wrap ((n:Int)-1)=((n-1:Nat):Int):=by rw [wr]<;>omega
def resn (s:List UInt8) (f:Nat) (a bad err:Int) (q:Nat):Tk→((Int×Int×List UInt8×Int×Int×Int×Unit)⊕(Int×Int×List UInt8×Int×Int×Int×Unit)⊕(List UInt8×List UInt8×Int×Int×Int×Unit))
 | .ok t u => .inr (.inr (List.drop (f+1) (List.take (q+t.length) s),s,((q+u:Nat):Int),bad,err,()))
 | .bad off e => .inr (.inl (e,((q+off:Nat):Int),s,a,bad,err,()))
 | .start => .inl ((f:Int),4,s,a,bad,err,())
theorem resn_push (s:List UInt8) (f:Nat) (a bad err:Int) (q:Nat) (l:List UInt8) (n:Nat) (hl:l.length=n) (k:Tk):resn s f a bad err q (k.push l n)=resn s f a bad err (q+n) k:=by
 cases k<;>simp [Tk.push,resn,Nat.add_assoc,hl]
theorem l25 (f:Nat) (a bad err:Int):∀(m:Nat) (r pre:List UInt8) (deep q n:Nat),r.length≤m→1≤deep→deep≤32→pre.length=q→f+1≤q→r.length<n→q+r.length≤140737488355320 →
 loopN (F137_l0 C139 C164) n ((f:Int),(deep:Int),4,(q:Int),pre++r,a,bad,err,())=some (resn (pre++r) f a bad err q (nt deep r))
 | _,_,_,_,_,0,_,_,_,_,_,hn,_=>by omega
 | m,[],pre,deep,q,n+1,hm,hd,hd2,hq,hf,hn,hb=>by
  refine loopN_inr ?_;simp (disch:=(first|omega|(simp only [qk];omega))) only [F137_l0,Sk,List.append_nil,nt,resn]
 | 0,c::r,pre,deep,q,n+1,hm,hd,hd2,hq,hf,hn,hb=>by simp at hm
 | m+1,c::r,pre,deep,q,n+1,hm,hd,hd2,hq,hf,hn,hb=>by
  simp only [List.length_cons] at hn hb hm;have next:∀(d':Nat),1≤d'→d'≤32→F137_l0 C139 C164 ((f:Int),(deep:Int),4,(q:Int),pre++c::r,a,bad,err,())=some (.inl ((f:Int),(d':Int),4,((q+1:Nat):Int),pre++c::r,a,bad,err,())) →
   loopN (F137_l0 C139 C164) (n+1) ((f:Int),(deep:Int),4,(q:Int),pre++c::r,a,bad,err,())=some (resn (pre++c::r) f a bad err q ((nt d' r).push [c] 1)):=by
   intro d' h1 h2 h3;rw [loopN_inl h3,resn_push (l:=[c]) (n:=1) _ _ _ _ _ _ rfl];have:=l25 f a bad err m r (pre++[c]) d' (q+1) n (by omega) h1 h2 (by simp [hq]) (by omega) (by omega) (by omega);rw [shift,this]
  by_cases e1:c.toNat=40
  · rw [nt_o e1]
    by_cases hdd:deep+1>32
    · rw [if_pos hdd]
      refine loopN_inr ?_;simp (disch:=(first|omega|(simp only [qk];omega))) only [F137_l0,Sk,resn,Nat.add_zero]
    · rw [if_neg hdd]
      refine next (deep+1) (by omega) (by omega) ?_;simp (disch:=(first|omega|(simp only [qk];omega))) only [F137_l0,Sk]
  · by_cases e2:c.toNat=41
    · rw [nt_c e2]
      by_cases hd1:deep=1
      · rw [if_pos hd1]
        refine loopN_inr ?_;subst hd1;simp (disch:=(first|omega|(simp only [qk];omega))) only [F137_l0,Sk,resn,Nat.add_zero,wrM]
      · rw [if_neg hd1]
        refine next (deep-1) (by omega) (by omega) ?_;simp (disch:=(first|omega|(simp only [qk];omega))) only [F137_l0,Sk,wrM]
    · by_cases e3:c.toNat=92
      · match r,hm,hn,hb with
        | [],hm,hn,hb =>
         rw [nt_b0 e3];simp only [List.length_nil] at hn hb hm;rw [loopN_inl (v':=((f:Int),(deep:Int),4,((q+2:Nat):Int),pre++[c],a,bad,err,())) (by
          simp (disch:=(first|omega|(simp only [qk];omega))) only [F137_l0,Sk])]
         obtain ⟨n',rfl⟩:∃n',n=n'+1:=⟨n-1,by omega⟩
         refine loopN_inr ?_;simp (disch:=(first|omega|(simp only [qk];omega))) only [F137_l0,Sk,resn]
        | d::r',hm,hn,hb =>
         simp only [List.length_cons] at hn hb hm;rw [nt_b1 e3];have hg:(pre++c::d::r').getD (q+1) 0=d:=by rw [shift];exact gd (by simp [hq])
         cases h:mayB d with
         | true =>
          rw [loopN_inl (v':=((f:Int),(deep:Int),4,((q+2:Nat):Int),pre++c::d::r',a,bad,err,())) (by
           simp (disch:=(first|omega|(simp only [qk];omega))) only [F137_l0,Sk,hg,c31,h])]
          have:=l25 f a bad err m r' (pre++[c,d]) deep (q+2) n (by omega) hd hd2 (by simp [hq]) (by omega) (by omega) (by omega);rw [show pre++c::d::r'=(pre++[c,d])++r' by simp,this,cond_true,resn_push (l:=[c,d]) (n:=2) _ _ _ _ _ _ rfl]
         | false =>
          refine loopN_inr ?_;simp (disch:=(first|omega|(simp only [qk];omega))) only [F137_l0,Sk,hg,c31,h,resn]
      · rw [nt_m e1 e2 e3]
        cases h:mayB c with
        | true =>
         refine next deep hd hd2 ?_;simp (disch:=(first|omega|(simp only [qk];omega))) only [F137_l0,Sk,c31,h]
        | false =>
         refine loopN_inr ?_;simp (disch:=(first|omega|(simp only [qk];omega))) only [F137_l0,Sk,c31,h,resn,Nat.add_zero]
theorem push_ok {k:Tk} {l t:List UInt8} {n u:Nat} (h:k.push l n = .ok t u):∃t' u',k = .ok t' u'∧t=l++t'∧u=n+u':=by
 cases k<;>simp [Tk.push] at h
 exact ⟨_,_,rfl,h.1.symm,h.2.symm⟩
theorem nt_ok:∀(m:Nat) {r t:List UInt8} {u deep:Nat},r.length≤m→nt deep r = .ok t u→u=t.length+1∧t.length<r.length∧r.take t.length=t
 | _,[],t,u,deep,_,h=>by simp [nt] at h
 | 0,c::r,t,u,deep,hm,h=>by simp at hm
 | m+1,c::r,t,u,deep,hm,h=>by
  simp only [List.length_cons] at hm;have one:∀(d':Nat),(nt d' r).push [c] 1 = .ok t u→u=t.length+1∧t.length<(c::r).length∧(c::r).take t.length=t:=by
   intro d' h;obtain ⟨t',u',h1,rfl,rfl⟩:=push_ok h;obtain ⟨i1,i2,i3⟩:=nt_ok m (by omega) h1;exact ⟨by simp;omega,by simpa using i2,by simpa using i3⟩
  by_cases e1:c.toNat=40
  · rw [nt_o e1] at h
    split at h
    · cases h
    · exact one _ h
  · by_cases e2:c.toNat=41
    · rw [nt_c e2] at h
      split at h
      · cases h;simp
      · exact one _ h
    · by_cases e3:c.toNat=92
      · match r,hm,h with
        | [],hm,h=>rw [nt_b0 e3] at h;cases h
        | d::r',hm,h =>
         simp only [List.length_cons] at hm;rw [nt_b1 e3] at h;cases hd:mayB d<;>rw [hd] at h
         · cases h
         · obtain ⟨t',u',h1,rfl,rfl⟩:=push_ok h
           obtain ⟨i1,i2,i3⟩:=nt_ok m (by omega) h1;exact ⟨by simp;omega,by simpa using i2,by simpa using i3⟩
      · rw [nt_m e1 e2 e3] at h
        cases hd:mayB c<;>rw [hd] at h
        · cases h
        · exact one _ h
theorem c25g (k e:Int) (s:List UInt8) (a bad err:Int):C137_g0 (e,k,s,a,bad,err,())=some ([],s,a,k,e,()):=by
 show loopN _ big _=_;rw [show big=999999999999999999999+1 from rfl];exact loopN_inr rfl
theorem c25 (pre r:List UInt8) (c:UInt8) (p:Nat) (bad err:Int) (hc:c.toNat=40) (hp:pre.length=p) (hb:p+r.length≤140737488355000) :
 C137 (pre++c::r,(p:Int),bad,err,())=some (fin (pre++c::r) p bad err (p+1) (nt 1 r)):=by
 show F137 C139 C164 C137_g0 C137_l0 (pre++c::r,(p:Int),bad,err,())=_;have hl:=l25 p p bad err r.length r (pre++[c]) 1 (p+1) 999999999999999999999 (Nat.le_refl _) (by omega) (by omega) (by simp [hp]) (by omega) (by omega) (by omega);rw [←shift] at hl;have h0:C137_l0 ((p:Int),0,4,(p:Int),pre++c::r,(p:Int),bad,err,())=some (resn (pre++c::r) p p bad err (p+1) (nt 1 r)):=by
  rw [←hl];show loopN _ (999999999999999999999+1) _=_;refine loopN_inl ?_;simp (disch:=(first|omega|(simp only [qk];omega))) only [F137_l0,Sk];rfl
 cases hq:nt 1 r with
 | ok t u =>
  rw [hq] at h0;obtain ⟨i1,i2,i3⟩:=nt_ok _ (Nat.le_refl _) hq;simp (disch:=(first|omega|(simp only [qk];omega))) only [F137,Sk,h0,resn,fin];rw [shift,text_eq (by simp [hp]),i3]
 | bad o e=>rw [hq] at h0;simp (disch:=(first|omega|(simp only [qk];omega))) only [F137,Sk,h0,resn,fin,c25g]
 | start=>rw [hq] at h0;simp (disch:=(first|omega|(simp only [qk];omega))) only [F137,Sk,h0,resn,fin,c27]
def g1 (o:Option (Int×Int×Unit)):Int:=match o with|some (n,_,_)=>n|none=>0
def g2 (o:Option (Int×Int×Unit)):Int:=match o with|some (_,v,_)=>v|none=>0
def ok2 (o:Option (Int×Int×Unit)):Bool:=match o with|some _=>true|none=>false
theorem ok2_some {o:Option (Int×Int×Unit)} (h:ok2 o=true):o=some (g1 o,g2 o,()):=by
 cases o with
 | none=>cases h
 | some x=>rfl
def leadN (c:UInt8):Int:=g1 (C95 ((c.toNat:Int),()))
def leadV (c:UInt8):Int:=g2 (C95 ((c.toNat:Int),()))
theorem c19k:((List.range 256).all fun n=>(fun c:UInt8=>ok2 (C95 ((c.toNat:Int),()))) (UInt8.ofNat n))=true:=by kernel_rfl
theorem c19 (c:UInt8):C95 ((c.toNat:Int),())=some (leadN c,leadV c,()):=ok2_some (all256 (fun c=>ok2 (C95 ((c.toNat:Int),()))) c19k c)
def rngB:Int→Bool
 | .ofNat n=>Nat.ble n 3
 | .negSucc n=>Nat.beq n 0
theorem lead_k:((List.range 256).all fun n=>(fun c:UInt8=>rngB (leadN c)) (UInt8.ofNat n))=true:=by kernel_rfl
theorem lead_rng (c:UInt8):leadN c = -1∨0≤leadN c∧leadN c≤3:=by
 have h:rngB (leadN c)=true:=all256 (fun c=>rngB (leadN c)) lead_k c;generalize leadN c=x at h;cases x with
 | ofNat n=>have:=Nat.le_of_ble_eq_true h;right;simp;omega
 | negSucc n=>have:=Nat.eq_of_beq_eq_true h;subst this;left;rfl
def lenR (v:Int):Int:=match C96 (v,()) with|some (n,_)=>n|none=>0
theorem c20 (v:Int):C96 (v,())=some (lenR v,()):=by
 have h:∃n,C96 (v,())=some (n,()):=by
  show ∃n,F96 C125 (v,())=some (n,());have h29:∃b,C125 (v,())=some (b,()):=by
   simp only [C125,F125];cases decide (v≥0)<;>cases decide (v≤1114111)<;>cases decide (v≥55296)<;>exact ⟨_,rfl⟩
  obtain ⟨b,hb⟩:=h29;simp only [F96,hb,Option.bind_some];cases b<;>cases decide (v≤127)<;>cases decide (v≤2047)<;>cases decide (v≤65535)<;>exact ⟨_,rfl⟩
 obtain ⟨n,hn⟩:=h;rw [lenR,hn]
def contB (c:UInt8):Bool := !(intBits BinOp.andNot IntKind.u8 (c.toNat:Int) 63 != 128)
def stepV (v:Int) (c:UInt8):Int:=intBits BinOp.or IntKind.i32 (IntKind.i32.wrap (v*2^min 6 IntKind.i32.bits)) (IntKind.i32.wrap (intBits BinOp.and IntKind.u8 (c.toNat:Int) 63))
def conts:Nat→List UInt8→Int→Option Int
 | 0,_,v=>some v
 | _+1,[],_=>none
 | n+1,c::r,v=>bif contB c then conts n r (stepV v c) else none
def ch:List UInt8→Nat
 | []=>0
 | c::r=>if leadN c<0 then 0 else if r.length<(leadN c).toNat then 0 else
  match conts (leadN c).toNat r (leadV c) with
  | none=>0
  | some v=>if lenR v=leadN c+1 then (leadN c).toNat+1 else 0
theorem ch_le:∀s,ch s≤s.length
 | []=>Nat.le_refl _
 | c::r=>by
  simp only [ch,List.length_cons];split
  · omega
  · split
    · omega
    · split
      · omega
      · split<;>omega
def res0 (s:List UInt8) (n a:Int) (out:List Int):Option Int→(List UInt8×Int×Int×Int×List Int×Unit)⊕(Int×List Int×Unit)
 | some v => .inl (s,n,v,a,out,())
 | none => .inr (a,out,())
theorem l150 (a:Nat) (m:Nat) (out:List Int):∀(j:Nat) (r pre:List UInt8) (v:Int) (k n:Nat),pre.length=k→k+j=a+m+1→j≤r.length→j<n→k+r.length≤140737488355320→m≤3 →
 loopN (F65_l0 C95 C96) n (pre++r,(m:Int),v,(a:Int),(k:Int),out,())=some (res0 (pre++r) m a out (conts j r v))
 | _,_,_,_,_,0,_,_,_,hn,_,_=>by omega
 | 0,r,pre,v,k,n+1,hk,hj,hr,hn,hb,hm=>by
  refine loopN_inr ?_;have h:IntKind.i64.wrap ((a:Int)+(m:Int))=(a:Int)+m:=wr (by omega) (by omega);simp (disch:=(first|omega|(simp only [qk];omega))) only [F65_l0,h,Sk,conts,res0]
 | j+1,[],pre,v,k,n+1,hk,hj,hr,hn,hb,hm=>by simp at hr
 | j+1,c::r,pre,v,k,n+1,hk,hj,hr,hn,hb,hm=>by
  simp only [List.length_cons] at hr hb;have h:IntKind.i64.wrap ((a:Int)+(m:Int))=(a:Int)+m:=wr (by omega) (by omega);cases hc:contB c with
  | true =>
   have hc':(intBits BinOp.andNot IntKind.u8 (c.toNat:Int) 63 != 128)=false:=by simpa [contB] using hc
   rw [loopN_inl (v':=(pre++c::r,(m:Int),stepV v c,(a:Int),((k+1:Nat):Int),out,())) (by
    simp (disch:=(first|omega|(simp only [qk];omega))) only [F65_l0,h,Sk,hc'];rfl)]
   rw [shift,l150 a m out j r (pre++[c]) (stepV v c) (k+1) n (by simp [hk]) (by omega) (by omega) (by omega) (by omega) hm];simp only [conts,hc,cond_true]
  | false =>
   have hc':(intBits BinOp.andNot IntKind.u8 (c.toNat:Int) 63 != 128)=true:=by simpa [contB] using hc
   refine loopN_inr ?_;simp (disch:=(first|omega|(simp only [qk];omega))) only [F65_l0,h,Sk,hc',conts,hc,res0]
def ut:Nat→List UInt8→Nat→Option Nat
 | 0,_,_=>none
 | n+1,s,p=>if s=[] then none else if ch s=0 then some p else ut n (s.drop (ch s)) (p+ch s)
def r15 (out:List Int):Option Nat→(List Int×Unit)⊕(Int×List Int×Unit)
 | none => .inl (out,())
 | some b => .inr ((b:Int),out,())
theorem r151 (c:UInt8) (r pre:List UInt8) (out:List Int) (p:Nat) (hp:pre.length=p) (hb:p+r.length≤140737488355000) (ho:out.length≤1000000000) :
 F65_l1 C95 C96 C65_l0 (pre++c::r,(p:Int),out,())=some (if ch (c::r)=0 then .inr (.inr ((p:Int),out,())) else
  .inl (pre++c::r,((p+ch (c::r):Nat):Int),out++[((conts (leadN c).toNat r (leadV c)).getD 0)],())):=by
 have hrng:=lead_rng c;by_cases h1:leadN c<0
 · have:ch (c::r)=0:=by simp [ch,h1]
   rw [if_pos this];simp (disch:=(first|omega|(simp only [qk];omega))) only [F65_l1,Sk,c19]
 · have hw:IntKind.i64.wrap (((pre.length+(r.length+1):Nat):Int)-(p:Int))=(r.length:Int)+1:=by rw [wr]<;>omega
   obtain ⟨m,hm⟩:∃m:Nat,leadN c=m:=⟨(leadN c).toNat,by omega⟩
   by_cases h2:r.length<m
   · have:ch (c::r)=0:=by simp [ch,hm,h2]
     rw [if_pos this];simp (disch:=(first|omega|(simp only [qk];omega))) only [F65_l1,Sk,c19,hw,hm]
   · have hl:=l150 p m out m r (pre++[c]) (leadV c) (p+1) big (by simp [hp]) (by omega) (by omega) (by unfold big;omega) (by omega) (by omega)
     rw [←shift] at hl;have hl':C65_l0 (pre++c::r,(m:Int),leadV c,(p:Int),((p+1:Nat):Int),out,())=_:=hl;cases hc:conts m r (leadV c) with
     | none =>
      have:ch (c::r)=0:=by simp [ch,hm,h2,hc]
      rw [if_pos this];simp (disch:=(first|omega|(simp only [qk];omega))) only [F65_l1,Sk,c19,hw,hm,hl',hc,res0]
     | some v =>
      have hw2:IntKind.i64.wrap ((m:Int)+1)=(m:Int)+1:=wr (by omega) (by omega);by_cases h3:lenR v=m+1
      · have hch:ch (c::r)=m+1:=by simp [ch,hm,h2,hc,h3]
        have hw3:IntKind.i64.wrap ((p:Int)+((m:Int)+1))=((p+(m+1):Nat):Int):=by rw [wr]<;>omega
        rw [if_neg (by omega),hch];simp (disch:=(first|omega|(simp only [qk];omega))) only [F65_l1,hw2,hw3,decide_eq_true,decide_eq_false,cond_true,cond_false,Bool.and_self,qk,Int.toNat_natCast,inF,gd,Option.bind_some,Sum.elim_inl,wrN,c19,hw,hm,hl',hc,res0,c20,Option.getD_some]
      · have:ch (c::r)=0:=by simp [ch,hm,h2,hc,h3]
        rw [if_pos this];simp (disch:=(first|omega|(simp only [qk];omega))) only [F65_l1,hw2,Sk,c19,hw,hm,hl',hc,res0,c20]
theorem l151:∀(m:Nat) (r pre:List UInt8) (out:List Int) (p n:Nat),r.length≤m→pre.length=p→r.length<n→p+r.length≤140737488355000→out.length+r.length≤1000000000 →
 ∃o,loopN (F65_l1 C95 C96 C65_l0) n (pre++r,(p:Int),out,())=some (r15 o (ut n r p))
 | _,_,_,_,_,0,_,_,hn,_,_=>by omega
 | m,[],pre,out,p,n+1,hm,hp,hn,hb,ho=>by
  refine ⟨out,loopN_inr ?_⟩;simp (disch:=(first|omega|(simp only [qk];omega))) only [F65_l1,Sk,List.append_nil,ut,if_true,r15]
 | 0,c::r,pre,out,p,n+1,hm,hp,hn,hb,ho=>by simp at hm
 | m+1,c::r,pre,out,p,n+1,hm,hp,hn,hb,ho=>by
  simp only [List.length_cons] at hm hn hb ho;have hr:=r151 c r pre out p hp (by omega) (by omega);by_cases h:ch (c::r)=0
  · rw [if_pos h] at hr
    refine ⟨out,?_⟩;rw [loopN_inr hr];simp [ut,h,r15]
  · rw [if_neg h] at hr
    have hle:=ch_le (c::r);simp only [List.length_cons] at hle;have hsplit:pre++c::r=(pre++(c::r).take (ch (c::r)))++(c::r).drop (ch (c::r)):=by rw [List.append_assoc,List.take_append_drop]
    obtain ⟨o,ho'⟩:=l151 m ((c::r).drop (ch (c::r))) (pre++(c::r).take (ch (c::r))) (out++[((conts (leadN c).toNat r (leadV c)).getD 0)]) (p+ch (c::r)) n (by simp;omega) (by simp [hp];omega) (by simp;omega) (by simp;omega) (by simp;omega);refine ⟨o,?_⟩;rw [loopN_inl hr];rw [←hsplit] at ho';rw [ho'];simp [ut,h]
def utf (s:List UInt8):Option Nat:=ut big s 0
theorem c15 (s:List UInt8) (hb:s.length≤1000000):∃o,C65 (s,())=some (o,(match utf s with|none => -1|some b=>(b:Int)),()):=by
 obtain ⟨o,h⟩:=l151 s.length s [] [] 0 big (Nat.le_refl _) rfl (by unfold big;omega) (by omega) (by simp;omega);have h':C65_l1 (s,0,[],())=some (r15 o (utf s)):=h;refine ⟨o,?_⟩;show F65 C95 C96 C65_g0 C65_l1 (s,())=_;have hg:∀(b:Int) (o:List Int),C65_g0 (b,o,())=some (b,o,()):=by
  intro b o;show loopN _ big _=_;rw [show big=999999999999999999999+1 from rfl];exact loopN_inr rfl
 simp only [F65,h',Option.bind_some];cases utf s<;>simp [r15,hg]
def Tk.up:Tk→Tk
 | .ok t u => .ok t (1+u)
 | .bad off e => .bad (1+off) e
 | .start => .start
def one (c:UInt8) (r:List UInt8):Int×Tk :=
 if atomB c=true then (0,.ok ((c::r).take (al (c::r))) (al (c::r)))
 else if signB c=true then (2,.ok [c] 1)
 else if c.toNat=34 then (1,(qt r).up)
 else if c.toNat=91 then (5,(ltk r).up)
 else if c.toNat=40 then (3,(nt 1 r).up)
 else if wl (c::r)=0 then (4,.start) else (4,.ok ((c::r).take (wl (c::r))) (wl (c::r)))
theorem fin_up (s:List UInt8) (p:Nat) (bad err:Int) (k:Tk):fin s p bad err (p+1) k=fin s p bad err p k.up:=by
 cases k<;>simp [fin,Tk.up,Nat.add_assoc]
def tkres (s:List UInt8) (p:Nat) (bad err:Int) (x:Int×Tk):Int×List UInt8×Int×List UInt8×Int×Int×Int×Unit :=
 (x.1,(fin s p bad err p x.2).1,(p:Int),(fin s p bad err p x.2).2)
theorem c16 (pre r:List UInt8) (c:UInt8) (p:Nat) (bad err:Int) (hp:pre.length=p) (hb:p+r.length≤140737488354000) :
 C110 (pre++c::r,(p:Int),bad,err,())=some (tkres (pre++c::r) p bad err (one c r)):=by
 show F110 C133 C134 C135 C136 C137 C138 C139 C66 C110_c0 (pre++c::r,(p:Int),bad,err,())=_;have h21:=c21 pre (c::r) p bad err hp (by simp;omega);have h26:=c26 pre (c::r) p bad err hp (by simp;omega);have h23:=c23 pre r c p bad err hp (by omega);have h24:=c24 pre r c p bad err hp (by omega);unfold one;by_cases h1:atomB c=true
 · rw [if_pos h1]
   simp (disch:=(first|omega|(simp only [qk];omega))) only [F110,C110_c0,F110_c0,Sk,c17,h1,h21,tkres,fin]
 · rw [if_neg h1]
   have h1':atomB c=false:=by simpa using h1
   by_cases h2:signB c=true
   · rw [if_pos h2]
     have h2':signI c≥0:=by simpa [signB] using h2
     have ht:List.drop p (List.take (p+1) (pre++c::r))=[c]:=by rw [text_eq hp];rfl
     simp (disch:=(first|omega|(simp only [qk];omega))) only [F110,C110_c0,F110_c0,Sk,c17,h1',c22s,ht,tkres,fin]
   · rw [if_neg h2]
     have h2':¬signI c≥0:=by simpa [signB] using h2
     by_cases h3:c.toNat=34
     · rw [if_pos h3]
       rw [fin_up] at h23;simp (disch:=(first|omega|(simp only [qk];omega))) only [F110,C110_c0,F110_c0,Sk,c17,h1',c22s,h23,tkres]
     · rw [if_neg h3]
       by_cases h4:c.toNat=91
       · rw [if_pos h4]
         rw [fin_up] at h24;simp (disch:=(first|omega|(simp only [qk];omega))) only [F110,C110_c0,F110_c0,Sk,c17,h1',c22s,h24,tkres]
       · rw [if_neg h4]
         by_cases h5:c.toNat=40
         · rw [if_pos h5]
           have h25:=c25 pre r c p bad err h5 hp (by omega);rw [fin_up] at h25;simp (disch:=(first|omega|(simp only [qk];omega))) only [F110,C110_c0,F110_c0,Sk,c17,h1',c22s,h25,tkres]
         · rw [if_neg h5]
           by_cases h6:wl (c::r)=0
           · rw [if_pos h6]
             rw [h6] at h26;simp (disch:=(first|omega|(simp only [qk];omega))) only [F110,C110_c0,F110_c0,Sk,c17,h1',c22s,h26,tkres,fin,List.take_zero,c27,beq_self_eq_true,Nat.add_zero]
           · rw [if_neg h6]
             obtain ⟨w,hw⟩:∃w,wl (c::r)=w+1:=⟨wl (c::r)-1,by omega⟩
             have hne:((c::r).take (wl (c::r))==[])=false:=by rw [hw];rfl
             simp (disch:=(first|omega|(simp only [qk];omega))) only [F110,C110_c0,F110_c0,Sk,c17,h1',c22s,h26,tkres,fin,hne]
abbrev Tok:=Int×(List UInt8×Int)
def lx:Nat→List UInt8→Nat→List Tok⊕(Nat×Int)
 | 0,_,_ => .inl []
 | n+1,s,p=>match s with
  | [] => .inl []
  | c::r=>match one c r with
   | (k,.ok t u)=>match lx n ((c::r).drop u) (p+u) with
    | .inl l => .inl ((k,t,(p:Int))::l)
    | .inr e => .inr e
   | (_,.bad off e) => .inr (p+off,e)
   | (_,.start) => .inr (p,4)
theorem qt_used:∀(m:Nat) {r t:List UInt8} {u:Nat},r.length≤m→qt r = .ok t u→t.length+1≤u∧u≤r.length
 | _,[],t,u,_,h=>by simp [qt] at h
 | 0,c::r,t,u,hm,h=>by simp at hm
 | m+1,c::r,t,u,hm,h=>by
  simp only [List.length_cons] at hm ⊢;by_cases e1:c.toNat=34
  · rw [qt_q e1] at h;cases h;simp
  · by_cases e2:c.toNat=92
    · match r,hm,h with
      | [],hm,h=>rw [qt_b0 e2] at h;cases h
      | d::r',hm,h =>
       rw [qt_b1 e2] at h;cases hd:mayB d<;>rw [hd] at h
       · cases h
       · obtain ⟨t',u',h1,rfl,rfl⟩:=push_ok h
         have:=qt_used m (by simp at hm;omega) h1;simp;omega
    · rw [qt_c e1 e2] at h
      cases hd:mayB c<;>rw [hd] at h
      · cases h
      · obtain ⟨t',u',h1,rfl,rfl⟩:=push_ok h
        have:=qt_used m (by omega) h1;simp;omega
theorem up_ok {k:Tk} {t:List UInt8} {u:Nat} (h:k.up = .ok t u):∃u',k = .ok t u'∧u=1+u':=by
 cases k<;>simp [Tk.up] at h
 obtain ⟨rfl,rfl⟩:=h;exact ⟨_,rfl,rfl⟩
theorem al_pos {c:UInt8} {r:List UInt8} (h:atomB c=true):1≤al (c::r):=by simp [al,h]
theorem one_used {c:UInt8} {r t:List UInt8} {k:Int} {u:Nat} (h:one c r=(k,.ok t u)):1≤u∧u≤r.length+1:=by
 unfold one at h;split at h
 · rename_i h1
   cases h;have:=al_le (c::r);exact ⟨al_pos h1,by simpa using this⟩
 · split at h
   · cases h;exact ⟨by omega,by omega⟩
   · split at h
     · obtain ⟨u',h1,rfl⟩:=up_ok (Prod.mk.inj h).2
       have:=qt_used _ (Nat.le_refl _) h1;omega
     · split at h
       · obtain ⟨u',h1,rfl⟩:=up_ok (Prod.mk.inj h).2
         have:=ltk_ok h1;omega
       · split at h
         · obtain ⟨u',h1,rfl⟩:=up_ok (Prod.mk.inj h).2
           have:=nt_ok _ (Nat.le_refl _) h1;omega
         · split at h
           · cases h
           · rename_i h6
             cases h;have:=wl_le (c::r);exact ⟨by omega,by simpa using this⟩
def rL11 (out:List Tok):List Tok⊕(Nat×Int)→(List Tok×Unit)⊕(Int×Int×Unit)
 | .inl l => .inl (out++l,())
 | .inr (b,e) => .inr ((b:Int),e,())
def Tk.eok:Tk→Prop
 | .bad _ e=>e=4∨e=6
 | _=>True
theorem push_eok {k:Tk} {l:List UInt8} {n:Nat} (h:k.eok):(k.push l n).eok:=by cases k<;>first|exact h|exact trivial
theorem up_eok {k:Tk} (h:k.eok):k.up.eok:=by cases k<;>first|exact h|exact trivial
theorem qt_e:∀(m:Nat) (r:List UInt8),r.length≤m→(qt r).eok
 | _,[],_=>trivial
 | 0,c::r,hm=>by simp at hm
 | m+1,c::r,hm=>by
  simp only [List.length_cons] at hm;by_cases e1:c.toNat=34
  · rw [qt_q e1];trivial
  · by_cases e2:c.toNat=92
    · match r,hm with
      | [],hm=>rw [qt_b0 e2];trivial
      | d::r',hm =>
       rw [qt_b1 e2];cases mayB d
       · exact .inl rfl
       · exact push_eok (qt_e m r' (by simp at hm;omega))
    · rw [qt_c e1 e2]
      cases mayB c
      · exact .inl rfl
      · exact push_eok (qt_e m r (by omega))
theorem ltk_e:∀r:List UInt8,(ltk r).eok
 | []=>trivial
 | c::r=>by
  unfold ltk;split
  · trivial
  · split
    · exact .inl rfl
    · split
      · exact .inl rfl
      · cases blankB c
        · cases mayB c
          · exact .inl rfl
          · exact push_eok (ltk_e r)
        · exact .inl rfl
theorem nt_e:∀(m deep:Nat) (r:List UInt8),r.length≤m→(nt deep r).eok
 | _,_,[],_=>by simp [nt,Tk.eok]
 | 0,_,c::r,hm=>by simp at hm
 | m+1,deep,c::r,hm=>by
  simp only [List.length_cons] at hm;by_cases e1:c.toNat=40
  · rw [nt_o e1]
    split
    · exact .inr rfl
    · exact push_eok (nt_e m _ r (by omega))
  · by_cases e2:c.toNat=41
    · rw [nt_c e2]
      split
      · trivial
      · exact push_eok (nt_e m _ r (by omega))
    · by_cases e3:c.toNat=92
      · match r,hm with
        | [],hm=>rw [nt_b0 e3];trivial
        | d::r',hm =>
         rw [nt_b1 e3];cases mayB d
         · exact .inl rfl
         · exact push_eok (nt_e m _ r' (by simp at hm;omega))
      · rw [nt_m e1 e2 e3]
        cases mayB c
        · exact .inl rfl
        · exact push_eok (nt_e m _ r (by omega))
theorem one_e (c:UInt8) (r:List UInt8):(one c r).2.eok:=by
 unfold one;split
 · trivial
 · split
   · trivial
   · split
     · exact up_eok (qt_e _ r (Nat.le_refl _))
     · split
       · exact up_eok (ltk_e r)
       · split
         · exact up_eok (nt_e _ _ r (Nat.le_refl _))
         · split<;>trivial
theorem l11 (s:List UInt8):∀(m:Nat) (r pre:List UInt8) (out:List Tok) (bad:Int) (p n:Nat),r.length≤m→s=pre++r→pre.length=p→r.length<n→p+r.length≤100000→out.length+r.length≤100000 →
 loopN (F73_l0 C110 C65) n (s,out,s,(p:Int),bad,0,())=some (rL11 out (lx m r p))
 | _,_,_,_,_,_,0,_,_,_,hn,_,_=>by omega
 | 0,[],pre,out,bad,p,n+1,hm,hs,hp,hn,hb,ho=>by
  refine loopN_inr ?_;have:s.length=p:=by rw [hs];simp [hp]
  simp (disch:=(first|omega|(simp only [qk];omega))) only [F73_l0,this,Sk,lx,rL11,List.append_nil]
 | m+1,[],pre,out,bad,p,n+1,hm,hs,hp,hn,hb,ho=>by
  refine loopN_inr ?_;have:s.length=p:=by rw [hs];simp [hp]
  simp (disch:=(first|omega|(simp only [qk];omega))) only [F73_l0,this,Sk,lx,rL11,List.append_nil]
 | 0,c::r,pre,out,bad,p,n+1,hm,hs,hp,hn,hb,ho=>by simp at hm
 | m+1,c::r,pre,out,bad,p,n+1,hm,hs,hp,hn,hb,ho=>by
  simp only [List.length_cons] at hm hn hb ho;have h16:=c16 pre r c p bad 0 hp (by omega);have he:=one_e c r;rw [←hs] at h16;have hl:s.length=p+(r.length+1):=by rw [hs];simp [hp]
  cases h1:one c r with
  | mk k tk =>
   rw [h1] at h16 he;cases tk with
   | ok t u =>
    have hu:=one_used h1;rw [loopN_inl (v':=(s,out++[(k,t,(p:Int))],s,((p+u:Nat):Int),bad,0,())) (by
     simp (disch:=(first|omega|(simp only [qk];omega))) only [F73_l0,hl,Sk,h16,tkres,fin])]
    have:=l11 s m ((c::r).drop u) (pre++(c::r).take u) (out++[(k,t,(p:Int))]) bad (p+u) n (by simp;omega) (by rw [hs,List.append_assoc,List.take_append_drop]) (by simp [hp];omega) (by simp;omega) (by simp;omega) (by simp;omega);rw [this];simp only [lx,h1];cases lx m ((c::r).drop u) (p+u) with
    | inl l=>simp [rL11]
    | inr e=>rfl
   | bad off e =>
    have he':e=4∨e=6:=he;refine loopN_inr ?_;simp (disch:=(first|omega|(simp only [qk];omega))) only [F73_l0,hl,Sk,h16,tkres,fin,lx,h1,rL11]
   | start =>
    refine loopN_inr ?_;simp (disch:=(first|omega|(simp only [qk];omega))) only [F73_l0,hl,Sk,h16,tkres,fin,lx,h1,rL11]
def lexs (s:List UInt8) (p:Nat):List Tok⊕(Nat×Int):=lx s.length s p
def end1:List Tok⊕(Nat×Int)→List Tok×Int×Int
 | .inl l=>(l,0,0)
 | .inr x=>([],(x.1:Int),x.2)
def end2:Option Nat→List Tok⊕(Nat×Int)→List Tok×Int×Int
 | some b,_=>([],(b:Int),7)
 | none,x=>end1 x
def lexR (s:List UInt8):List Tok×Int×Int:=if 2000<s.length then ([],0,5) else end2 (utf s) (lexs s 0)
theorem c11 (s:List UInt8):C73 (s,())=some ((lexR s).1,(lexR s).2.1,(lexR s).2.2,()):=by
 show F73 C110 C65 C73_l0 (s,())=_;unfold lexR;by_cases h:2000<s.length
 · simp only [if_pos h]
   simp (disch:=(first|omega|(simp only [qk];omega))) only [F73,Sk]
 · simp only [if_neg h]
   obtain ⟨o,h15⟩:=c15 s (by omega);cases hu:utf s with
   | some b =>
    rw [hu] at h15;simp only at h15;simp (disch:=(first|omega|(simp only [qk];omega))) only [F73,Sk,h15,end2]
   | none =>
    rw [hu] at h15;have hl:=l11 s s.length s [] [] 0 0 big (Nat.le_refl _) (by simp) rfl (by unfold big;omega) (by omega) (by simp;omega);have hl':C73_l0 (s,[],s,0,0,0,())=some (rL11 [] (lexs s 0)):=hl;simp (disch:=(first|omega|(simp only [qk];omega))) only [F73,Sk,h15,hl'];cases lexs s 0 with
    | inl l=>simp [rL11,end2,end1]
    | inr x=>obtain ⟨b,e⟩:=x;simp [rL11,end2,end1]
def asciiB (c:UInt8):Bool:=decide (c.toNat<128)
theorem asc_k:((List.range 256).all fun n=>(fun c:UInt8 => !asciiB c||(decide (leadN c=0)&&decide (lenR (leadV c)=1))) (UInt8.ofNat n))=true:=by kernel_rfl
theorem ch_asc {c:UInt8} (h:c.toNat<128) (r:List UInt8):ch (c::r)=1:=by
 have h1:(!asciiB c||(decide (leadN c=0)&&decide (lenR (leadV c)=1)))=true:=all256 (fun c:UInt8 => !asciiB c||(decide (leadN c=0)&&decide (lenR (leadV c)=1))) asc_k c;have h2:asciiB c=true:=by simp [asciiB,h]
 simp only [h2,Bool.not_true,Bool.false_or,Bool.and_eq_true,decide_eq_true_eq] at h1;simp [ch,h1.1,conts,h1.2]
def stops (p:UInt8→Bool):List UInt8→Prop
 | []=>True
 | b::_=>p b=false
end Go.Proofs.YtgkmfhhghcccjaaGreatDoorA.W
