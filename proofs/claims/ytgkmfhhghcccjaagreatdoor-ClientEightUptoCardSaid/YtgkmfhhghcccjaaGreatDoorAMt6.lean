/- The texts of the proof, one behind the other: XOut, W8, W9, W10, W11, W12, W13, W14, PB, PL1, PL2, PL3, PL4. -/
import Derived.Test.YtgkmfhhghcccjaaGreatDoorAMt5
import Derived.Test.YtgkmfhhghcccjaaGreatDoorAMt2
open Go.Proofs.Tryz
open Int (toNat_natCast)
open List (append_assoc append_nil getD_cons_zero length_cons length_nil nil_append take_add_one take_zero)
open Nat (add_assoc add_zero le_refl)
open Option (bind_eq_some_iff map_eq_some_iff)
open Go.World (block_lt_of_cell?)
set_option linter.unusedVariables false
set_option maxRecDepth 100000
namespace Go.Proofs.YtgkmfhhghcccjaaGreatDoorA.W
open Go Go.Ae Go.RowKit
attribute [local go_sem] Oper.semAt_some
theorem prefix_call{s sep:List UInt8}{ok:Bool}(h:C76 (s,sep,())=some (ok,())){w:World}(hg:GI w m0) :
 Calls prog 76 #[.string ⟨⟨s⟩⟩,.string ⟨⟨sep⟩⟩] w λe w'=>e = .returned (.bool ok)/\Below w.heap.size w w':=by
 refine(FnOk.call0 (v:=(s,sep,())) (y:=(ok,())) ok76 func76 (by kernel_rfl) (by kernel_rfl) hg (λ_ h=>h.elim) rfl ⟨_,_,rfl,rfl,_,_,rfl,rfl,rfl⟩ rfl h ?_).mono λe w' ⟨rv,h1,h2,ax,l',u,h3,h4⟩ => ?_
 . intro ax l' u h3
   cases osel_one_inv h3;rfl
 . cases osel_one_inv h3
   obtain⟨v,r',e1,e2,e4⟩:=h4;have e4':r'=[]:=e4;subst e4';cases e1;subst h1 e2;exact⟨rfl,h2⟩
theorem dot_ahead(x:List UInt8):Value.string (⟨#[46]⟩++⟨⟨x⟩⟩)=Value.string ⟨⟨46::x⟩⟩:=congrArg Value.string (by
 apply ByteArray.ext;rw[ByteArray.data_append];simp)
def dotC(x:List UInt8):Option (List UInt8):=(C76 (x,[46],())).bind λa=>bif decide (x.length<=1000000000)then some (bif a.1 then 46::x else x)else none
def linesC:List (List UInt8)->Option (List (List UInt8))
 | []=>some []
 | x::xs=>(dotC x).bind λy=>(linesC xs).map λys=>y::ys
theorem linesC_len:∀{l ys},linesC l=some ys->ys.length=l.length
 | [],ys,h=>by cases h;rfl
 | x::xs,ys,h=>by
  simp only[linesC]at h;obtain⟨y,_,h2⟩:=bind_eq_some_iff.1 h;obtain⟨zs,h3,rfl⟩:=map_eq_some_iff.1 h2;simp[linesC_len h3]
theorem linesC_at:∀{l ys},linesC l=some ys->∀(k:Nat) x,l[k]? = some x->∃y,dotC x=some y/\ys[k]? = some y
 | [],ys,h,k,x,hk=>by simp at hk
 | z::zs,ys,h,k,x,hk=>by
  simp only[linesC]at h;obtain⟨y,h1,h2⟩:=bind_eq_some_iff.1 h;obtain⟨qs,h3,rfl⟩:=map_eq_some_iff.1 h2;cases k with
  | zero=>cases hk;exact⟨y,h1,rfl⟩
  | succ k=>exact linesC_at h3 k x hk
set_option maxHeartbeats 4000000 in
theorem dotted_seq(n:Nat)(hn:1<=n)(Bs g o cap:Nat)(a:Option Addr)(l ys:List (List UInt8))(hys:linesC l=some ys)(w:World)(hlen:l.length<=1000000000000)(hb:Boxed w Bs 27 (.slice a l.length cap))(ha:l≠[]->a=some ⟨g,o,none⟩)(hcl:∀(k:Nat) x,l[k]? = some x->w.cell? ⟨g,o+k,none⟩=some (.string ⟨⟨x⟩⟩))(hg:GI w m0)(Bd:Nat) :
 SeqD Fence.wide n prog 118 #[.pointer (some ⟨Bs,0,none⟩)] (λx:List UInt8 => #[Value.string ⟨⟨x⟩⟩]) (λb=>b=Bs\/(l≠[]/\b=g)\/b∈GlobB) Bd (ys++[[46]]) w:=by
 intro lp J Jx W hW hJ hJx hY h0;have hb':Boxed W Bs 27 (.slice a l.length cap):=(hW.block Bs hb.lt).trans hb;have hcl':∀(k:Nat) x,l[k]? = some x->W.cell? ⟨g,o+k,none⟩=some (.string ⟨⟨x⟩⟩):=λk x hk=>(hW.cell (p:=⟨g,o+k,none⟩) (block_lt_of_cell? _ _ (hcl k x hk))).trans (hcl k x hk);have hg':GI W m0:=gi_below hg hW;have hkl:=linesC_len hys;refine callsIn_of_wp func118 rfl trivial ?_ rfl;simp only[ntmps118,List.size_toArray,length_cons,length_nil,Nat.reduceAdd,Nat.reduceSub,Array.replicate_succ,Array.replicate_zero,List.push_toArray,List.append_toArray,nil_append,List.cons_append];have hc:=hb'.cell;generalize hN:l.length=N at *
 gi_wp2
 gi_loopw [7] (λi wr=>∃j:Nat,i = .int .i64 (j:Int)/\j<=N/\Hid (J (ys.take j) wr)/\Hid (Boxed wr Bs 27 (.slice a N cap))/\Hid (GI wr m0)/\Hid (∀(k:Nat) x,l[k]? = some x->wr.cell? ⟨g,o+k,none⟩=some (.string ⟨⟨x⟩⟩))) (λi _=>N-(intOf i).toNat)
 case atStart=>exact⟨0,rfl,Nat.zero_le _,h0,hb',hg',hcl'⟩
 case round =>
  obtain⟨j,rfl,hj,hJs,hbr,hgr,hcr⟩:=hrel;by_cases hlt:j<N
  . obtain⟨x,hx⟩:∃x,l[j]? = some x:=⟨_,List.getElem?_eq_getElem (by omega)⟩
    obtain⟨y,hy1,hy2⟩:=linesC_at hys j x hx;have hl0:l≠[]:=by rintro rfl;simp at hN;omega
    have hae:=ha hl0;subst hae;have htk:ys.take (j+1)=ys.take j++[y]:=by rw[take_add_one,hy2];rfl
    have hpre:ys.take j++[y] <+: ys++[[46]]:=htk▸(List.take_prefix _ _).trans (List.prefix_append _ _);have hcx:wr.cell? ⟨g,o+j,none⟩=some (.string ⟨⟨x⟩⟩):=hcr.out j x hx;have hcb:=hbr.out.cell;obtain⟨⟨ok,u0⟩,hp76,hyy⟩:=bind_eq_some_iff.1 hy1;rcases cond_some hyy with⟨hlx,hyz⟩|⟨_,hyz⟩
    case inr=>cases hyz
    have hlx':x.length<=1000000000:=of_decide_eq_true hlx;have hcall:=prefix_call hp76 hgr.out;have hYy:=λw' (hbel:Below wr.heap.size wr w')=>hY _ y w' hpre (hJ _ _ _ hJs.out (Oth.of_below hbel));clear hcl' hcl hb' hb hc hW h0 hY hys htk;have after:∀w' (hbel:Below wr.heap.size wr w') W3,J (ys.take j++[y]) W3->w'.heap.size<=W3.heap.size->(∀b,(b=Bs\/(l≠[]/\b=g)\/b∈GlobB)->W3.heap[b]? = w'.heap[b]?) ->
     Hid (J (ys.take (j+1)) W3)/\Hid (Boxed W3 Bs 27 (.slice (some ⟨g,o,none⟩) N cap))/\Hid (GI W3 m0)/\Hid (∀(k:Nat) x,l[k]? = some x->W3.cell? ⟨g,o+k,none⟩=some (.string ⟨⟨x⟩⟩)):=by
     intro w' hbel W3 hJ3 hs3 hk3;refine⟨?_,(hk3 Bs (.inl rfl)).trans ((hbel.block Bs hbr.out.lt).trans hbr.out),gi_keep (gi_below hgr.out hbel) hs3 λb hb=>hk3 b (.inr (.inr hb)),λk x hk => ?_⟩
     . rw[take_add_one,hy2];exact hJ3
     . have h1:=hcr.out k x hk
       have h2:=(hbel.cell (p:=⟨g,o+k,none⟩) (block_lt_of_cell? _ _ h1)).trans h1;exact(World.cell?_of_block (hk3 g (.inr (.inl ⟨hl0,rfl⟩)))).trans h2
    have After:Hid _ := @after;clear after;cases ok with
    | true =>
     obtain rfl:46::x=y:=Option.some.inj hyz;rw[<-dot_ahead x]at hYy
     gi_wp2_with (refine⟨trivial,?_⟩;gi_at_call 76;refine(callsIn_wide.2 hcall).mono ?_;rintro e w' ⟨rfl,hbel⟩;obtain⟨fn,tmps,assign,body,hy,hR⟩:=hYy w' hbel)
     refine hR.mono ?_;rintro e W3 (⟨rfl,hJ3,hs3,hk3⟩|⟨rfl,hJx3⟩)
     . obtain⟨a1,a2,a3,a4⟩:=After.out w' hbel W3 hJ3 hs3 hk3
       gi_wp2
       go_roundw
       case rel=>exact⟨j+1,by simp,by omega,a1,a2,a3,a4⟩
       case measure=>simp[intOf];omega
     . gi_wp2
       refine bodyPost_ret (results_none rfl _ _ _) rfl ?_;exact⟨⟨_,rfl⟩,.inr ⟨_,hpre,hJx3⟩⟩
    | false =>
     obtain rfl:x=y:=Option.some.inj hyz
     gi_wp2_with (refine⟨trivial,?_⟩;gi_at_call 76;refine(callsIn_wide.2 hcall).mono ?_;rintro e w' ⟨rfl,hbel⟩;obtain⟨fn,tmps,assign,body,hy,hR⟩:=hYy w' hbel)
     refine hR.mono ?_;rintro e W3 (⟨rfl,hJ3,hs3,hk3⟩|⟨rfl,hJx3⟩)
     . obtain⟨a1,a2,a3,a4⟩:=After.out w' hbel W3 hJ3 hs3 hk3
       gi_wp2
       go_roundw
       case rel=>exact⟨j+1,by simp,by omega,a1,a2,a3,a4⟩
       case measure=>simp[intOf];omega
     . gi_wp2
       refine bodyPost_ret (results_none rfl _ _ _) rfl ?_;exact⟨⟨_,rfl⟩,.inr ⟨_,hpre,hJx3⟩⟩
  . obtain rfl:j=N:=by omega
    have htk:ys.take j=ys:=List.take_of_length_le (by omega);have hJs':J ys wr:=by have:=hJs.out;rwa[htk]at this
    obtain⟨fn,tmps,assign,body,hy,hR⟩:=hY ys [46] wr List.prefix_rfl hJs';clear hcl' hcl hb' hb hc hW h0 hY
    gi_wp2
    refine hR.mono ?_;rintro e W3 (⟨rfl,hJ3,hs3,hk3⟩|⟨rfl,hJx3⟩)
    . gi_wp2
      go_end0
      exact⟨⟨_,rfl⟩,.inl hJ3⟩
    . gi_wp2
      go_end0
      exact⟨⟨_,rfl⟩,.inr ⟨_,List.prefix_rfl,hJx3⟩⟩
set_option maxHeartbeats 4000000 in
theorem dotted_mk(a:Option Addr)(n cap:Nat)(w:World):Calls prog 83 #[.slice a n cap] w λe w'=>e = .returned (.func (.func 118) #[] #[.pointer (some ⟨w.heap.size,0,none⟩)])/\w'=w.alloc (.cells #[.slice a n cap] 27):=by
 go_enter func83,ntmps83
 go_wp2
 go_returns
 exact⟨rfl,rfl⟩
theorem below_keep{B:Nat}{A W W':World}(h:Below B A W)(hs:W.heap.size<=W'.heap.size)(ho:W'.os=W.os)(ht:W'.tape=W.tape)(hu:W'.output=W.output)(hk:∀b,b<B->W'.heap[b]? = W.heap[b]?):Below B A W' :=
 ⟨ho.trans h.os,ht.trans h.tape,hu.trans h.output,Nat.le_trans h.size hs,λk hkb=>(hk k hkb).trans (h.block k hkb)⟩
theorem appended2{W w1:World}{n₀ B:Nat}{t e:TypeId}{size:Nat}{v v':Value}{k m:Nat}{xs ys:List Value}{tmp:Obj}(hv:Boxed W B t v)(hte:t≠e)(hrow:W.ownsRow n₀ e size v k xs)(hn₀:n₀<=W.heap.size)(hown':w1.ownsRow n₀ e size v' m ys)(hgrow:(W.alloc tmp).grownBy w1 v.ownBlock) :
 Boxed w1 B t v/\Boxed (w1.setCell ⟨B,0,none⟩ v') B t v'/\(w1.setCell ⟨B,0,none⟩ v').ownsRow n₀ e size v' m ys/\KeepsOthers W (w1.setCell ⟨B,0,none⟩ v')/\Below n₀ W w1:=by
 have hv1:Boxed w1 B t v:=(hv.alloc tmp).kept hgrow (hv.not_row hte hrow);refine⟨hv1,hv1.set v',hown'.kept (grownBy_setCell' w1 B v') (.inr (hv1.not_row hte hown').symm),?_,?_⟩
 . refine((KeepsOthers.alloc W tmp).trans (KeepsOthers.of_grownBy hgrow λj o ej hj => ?_)).trans (KeepsOthers.setCell _ _ _)
   rcases (hrow.alloc tmp).2 with⟨rfl,_⟩|⟨g,cap,cur,rfl,_,hgb,_⟩
   . simp[Value.ownBlock]at ej
   . obtain rfl:g=j:=by simpa[Value.ownBlock]using ej
     rw[hgb]at hj;cases hj;rfl
 . refine((Below.refl n₀ W).alloc hn₀ tmp).grown hgrow (by simp;omega) λj ej => ?_
   rcases hrow.2 with⟨rfl,_⟩|⟨g,cap,cur,rfl,hb,_,_⟩
   . simp[Value.ownBlock]at ej
   . obtain rfl:g=j:=by simpa[Value.ownBlock]using ej
     exact hb
set_option maxHeartbeats 4000000 in
theorem out_walk(a:Option Addr)(g o cap:Nat)(l ys:List (List UInt8))(hys:linesC l=some ys)(w:World)(hg:GI w m0)(hlen:l.length<=1000000000)(ha:l≠[]->a=some ⟨g,o,none⟩)(hcl:∀(k:Nat) x,l[k]? = some x->w.cell? ⟨g,o+k,none⟩=some (.string ⟨⟨x⟩⟩)) :
 Calls prog 56 #[.slice a l.length cap] w λe W'=>∃v,e = .returned v/\W'.ownsRow w.heap.size 9 1 v (ys++[[46]]).length ((ys++[[46]]).map encS)/\Below w.heap.size w W':=by
 refine(callsIn_wide (n:=3)).1 ?_;obtain⟨i0,hi,hz0,hz1,hz2⟩:=info_parts info_string;refine callsIn_of_wp_marks func56 rfl trivial ?_ rfl;simp only[ntmps56,List.size_toArray,length_cons,length_nil,Nat.reduceAdd,Nat.reduceSub,Array.replicate_succ,Array.replicate_zero,List.push_toArray,List.append_toArray,nil_append,List.cons_append];have hkl:=linesC_len hys
 gi_wp2_with (refine⟨trivial,?_⟩;gi_at_call 83;refine(callsIn_wide.2 (dotted_mk _ _ _ _)).mono ?_;rintro e w2 ⟨rfl,rfl⟩)
 have hsz1:(w.alloc (.cells #[.slice none 0 0] 27)).heap.size=w.heap.size+1:=World.size_alloc _ _;have hsz2:((w.alloc (.cells #[.slice none 0 0] 27)).alloc (.cells #[.slice a l.length cap] 27)).heap.size=w.heap.size+2:=by simp
 have hB0:Below w.heap.size w ((w.alloc (.cells #[.slice none 0 0] 27)).alloc (.cells #[.slice a l.length cap] 27)):=((Below.refl _ w).alloc (le_refl _) _).alloc (by simp) _;have hgl:l≠[]->g<w.heap.size:=λh=>by
  cases hl:l with
  | nil=>exact(h hl).elim
  | cons x xs=>exact block_lt_of_cell? _ _ (hcl 0 x (by rw[hl];rfl))
 have hbv:Boxed ((w.alloc (.cells #[.slice none 0 0] 27)).alloc (.cells #[.slice a l.length cap] 27)) (w.heap.size+1) 27 (.slice a l.length cap):=by
  have:=Boxed.new (w.alloc (.cells #[.slice none 0 0] 27)) 27 (.slice a l.length cap)
  rwa[hsz1]at this
 have hbA:Boxed ((w.alloc (.cells #[.slice none 0 0] 27)).alloc (.cells #[.slice a l.length cap] 27)) w.heap.size 27 (.slice none 0 0):=(Boxed.new w 27 _).alloc _;have hseq:=dotted_seq 2 (by omega) (w.heap.size+1) g o cap a l ys hys _ (by omega) hbv ha (λk x hk=>(hB0.cell (p:=⟨g,o+k,none⟩) (block_lt_of_cell? _ _ (hcl k x hk))).trans (hcl k x hk)) (gi_below hg hB0);generalize hw2:(w.alloc (.cells #[.slice none 0 0] 27)).alloc (.cells #[.slice a l.length cap] 27)=w2 at *
 have hgg:=λb hb=>(hg.b b hb).1;refine wpIn_rangeFunc_dir (F:=Fence.wide) (n:=3) rfl (by omega) (gf:=118) (lb := #[.pointer (some ⟨w.heap.size+1,0,none⟩)]) rfl trivial (enters_of func118 (by kernel_rfl) rfl)
  (K:=λb=>b=w.heap.size+1\/(l≠[]/\b=g)\/b∈GlobB)
  (hseq (w.heap.size+1))
  (by rintro b (rfl|⟨hb,rfl⟩|hb)
      . omega
      . have:=hgl hb;omega
      . have:=hgg b hb;omega) (by omega) (λ_=>rfl)
  (λpre W=>(∃v,Boxed W w.heap.size 27 v/\W.ownsRow (w.heap.size+2) 9 1 v pre.length (pre.map encS))/\Below w.heap.size w W)
  (λ_ _ _=>False)
  (λs A B hs ho=>by
   obtain⟨⟨v,h1,h2⟩,h3⟩:=hs;exact⟨⟨v,boxed_oth h1 (by omega) ho,ownsRow_oth (by omega) h2 ho⟩,below_othR h3 (le_refl _) (by omega) (by omega) ho⟩)
  (λ_ _ _ _ hs _=>hs)
  ⟨⟨_,hbA,World.ownsRow_nil _ _ _ _⟩,hB0⟩
  (λx=>{ tmps := #[.slice a l.length cap,undef,.slice none 0 0,.pointer (some ⟨w.heap.size,0,none⟩),.string ⟨⟨x⟩⟩,.slice a l.length cap,.func (.func 118) #[] #[.pointer (some ⟨w.heap.size+1,0,none⟩)],.string ⟨⟨x⟩⟩,undef,undef,undef,undef,undef],defers:=[] }) ?assign ?body ?done ?stop
 case assign =>
  intro l x W K hK
  gi_wp2
  exact hK
 case body =>
  rintro lp pre x W hsz hpre ⟨⟨v,hv,hrow⟩,hbel⟩;have hc:=hv.cell;have hpl:pre.length<2000000000:=by have:=hpre.length_le;simp at this;omega
  gi_wp2_with (gi_at_builtin;refine wpListIn_append_own _ rfl _ _ 27 rfl (w.heap.size+2) 9 i0 (.string ⟨#[]⟩) 1 16 underlying27 hi hz0 hz1 hz2 rfl (by decide) _ _ _ rfl (hrow.alloc _) ⟨W.heap.size,0,none⟩ 1 1 [.string ⟨⟨x⟩⟩] rfl rfl (cell_one_new _ _ _) (by simp[Value.oneCell']) (by simp only[maxLen];omega) (by omega) (by simp;omega) ?_;intro v' w1 hown' hgrow _;obtain⟨g',cap',rfl⟩:=ownsRow_succ hown';obtain⟨hv1,hv2,hr2,hk2,hb2⟩:=appended2 hv (by decide) hrow (by omega) hown' hgrow;have hc1:=hv1.cell;have hf1:=hv1.frozen)
  have hkeep:∀(u:Value) b,b<w.heap.size+2->b≠w.heap.size->(w1.setCell ⟨w.heap.size,0,none⟩ u).heap[b]? = W.heap[b]? := λu b hb hne=>(Below.heap_setCell _ _ _ b hne).trans (hb2.block b hb);refine⟨hk2.from _,λb hb=>hkeep _ b ?_ ?_,⟨_,hv2,by simpa[encS]using hr2⟩,below_keep hbel (by have:=hb2.size;simpa using this) hb2.os hb2.tape hb2.output λb hb=>hkeep _ b (by omega) (by omega)⟩
  . rcases hb with rfl|⟨hb,rfl⟩|hb
    . omega
    . have:=hgl hb;omega
    . have:=hgg b hb;omega
  . rcases hb with rfl|⟨hb,rfl⟩|hb
    . omega
    . have:=hgl hb;omega
    . have:=hgg b hb;omega
 case done =>
  rintro D W hD ⟨⟨v,hv,hrow⟩,hbel⟩ hK;have hc:=hv.cell
  gi_wp2
  refine⟨by simp,.inl ⟨_,_,rfl,run_takeDeferred hK,?_⟩⟩;have hr1:=ownsRow_putObj hrow (.deferred none) hK rfl;refine⟨_,results_tmp rfl _ _ _,v,rfl,⟨hr1.1,?_⟩,hbel.trans (belowK_b (w:=w) (le_refl _) W D _ _ (by omega) hK rfl rfl)⟩;rcases hr1.2 with h|⟨g,cap,cur,e1,e2,e3⟩
  . exact .inl h
  . exact .inr ⟨g,cap,cur,e1,by omega,e3⟩
 case stop =>
  rintro D c pre W _ _ h _;exact h.elim
theorem row_repT2{W:World}{m:Md}{base:Nat}{v:Value}{l:List (List UInt8)}(h:W.ownsRow base 9 1 v l.length (l.map encS))(hm:∀b,m.a b->b<base):RepT W m (.lst .str) l [v]:=by
 rcases h.2 with⟨rfl,h0⟩|⟨g,cap,cur,rfl,h2,h3,h4,h5,h6,h7⟩
 . have hl:l=[]:=List.eq_nil_of_length_eq_zero h0
   subst hl;exact⟨none,0,rfl,le_refl _,by omega,λ_=>rfl,λj x hj=>by
    have hj':([]:List (List UInt8))[j]? = some x:=hj;simp at hj'⟩
 . refine⟨_,cap,rfl,h4,by simp only[maxLen]at h5;omega,λe=>(by cases e),λj x hj => ?_⟩
   change List UInt8 at x
   change l[j]? = some x at hj
   refine⟨g,0,[.string ⟨⟨x⟩⟩],rfl,rfl,rfl,lt_of_some h3,λhmb=>absurd (hm _ hmb) (by omega),λi u hu => ?_⟩;have hlt:=(List.getElem?_eq_some_iff.1 hj).1
   match i with
   | i+1=>cases hu
   | 0 =>
    cases hu;have h1:(cur.toList.take (l.length*1))[j]? = some (encS x):=by rw[h7,List.getElem?_map,hj];rfl
    rw[List.getElem?_take_of_lt (by omega),Array.getElem?_toList]at h1;simp only[World.cell?,h3];show cur[0+j*1+0]? = _;rw[show 0+j*1+0=j by omega];exact h1
def C56:T56:=λ(l,_)=>bif decide (l.length<=1000000000)then(linesC l).map λys=>(ys++[[46]],())else none
theorem ok56:FnOk prog 56 (E56 C56):=by
 refine hand func56 (by kernel_rfl) (by kernel_rfl) (λ_=>rfl) (λ_=>rfl) ?_;rintro⟨l,u⟩ y hy w m args gi hn hlt hargs
 change List (List UInt8)at l
 obtain⟨vs,r2,e2,e3,e4⟩:=hargs;have e4':r2=[]:=e4;have e3':RepT w m (.lst .str) l [vs]:=e3;subst e4';have ha:args = #[vs]:=by cases args;simpa using e2
 subst ha;have g0:GI w m0:=⟨gi.i,λb hb=>⟨(gi.b b hb).1,λh=>h⟩⟩
 have hy1:(bif decide (l.length<=1000000000)then(linesC l).map λys=>(ys++[[46]],())else none)=some y:=hy;rcases cond_some hy1 with⟨hl,hy2⟩|⟨_,hy2⟩
 case inr=>cases hy2
 have hlen:l.length<=1000000000:=of_decide_eq_true hl;obtain⟨ys,hys,rfl⟩:=map_eq_some_iff.1 hy2;obtain⟨ao,cap,hv,k1,k2,k3,k4⟩:=e3';have hvs:vs = .slice ao l.length cap:=(List.cons.inj hv).1;subst hvs;have hcells:∃g o,(l≠[]->ao=some ⟨g,o,none⟩)/\∀(k:Nat) x,l[k]? = some x->w.cell? ⟨g,o+k,none⟩=some (.string ⟨⟨x⟩⟩):=by
  cases hl0:l with
  | nil=>exact⟨0,0,λh=>(h rfl).elim,λk x h=>by simp at h⟩
  | cons z zs =>
   obtain⟨b,o,us,q1,q2,q3,q4,q5,q6⟩:=k4 0 z (by rw[hl0];rfl);refine⟨b,o,λ_=>q1,λk x hk => ?_⟩;obtain⟨b',o',us',p1,p2,p3,p4,p5,p6⟩:=k4 k x (by rw[hl0];exact hk);rw[q1]at p1;cases p1;have p2':us'=[.string ⟨⟨x⟩⟩]:=p2;subst p2';have:=p6 0 _ rfl;simpa[Ty.size]using this
 obtain⟨g,o,ha,hcl⟩:=hcells;refine(out_walk ao g o cap l ys hys w g0 hlen ha hcl).mono λe w' ⟨v,q1,q2,q3⟩=>⟨_,q1,q3,.ret,[.lst .str],(ys++[[46]],()),osel_one [.lst .str] (ys++[[46]],()),rfl,rfl,⟨_,[],rfl,row_repT2 q2 hlt,rfl⟩⟩
end Go.Proofs.YtgkmfhhghcccjaaGreatDoorA.W
namespace Go.Proofs.YtgkmfhhghcccjaaGreatDoorA.W
open Go Go.Ae
abbrev T11:=qb×qc×qd×qa×Bool×qa×qa×List ((Bool×(qa×qa)))×List (qa)×Bool×Bool×Bool×Int×Int×Int×Bool×qa×qa×Unit->Option (qb×qc×qd×qa×Bool×qa×qa×List (qa)×Bool×Bool×Bool×Int×Int×Int×Bool×qa×qa×Int×Bool×Int×Int×Bool×Bool×Int×Int×Bool×qa×qa×Bool×qa×qa×Bool×Bool×Int×Unit)
def E11(f:T11):FEnt:=⟨q1w,q6a,f⟩
def K11(f29:T29):=lk [(29,E29 f29)]
def F11(f29:T29):T11:=λ(x0,x1,x2,x3,x4,x5,x6,x7,x8,x9,x10,x11,x12,x13,x14,x15,x16,x17,_)=>(f29 (x8,())).bind λv=>some (x0,x1,x2,x3,x4,x5,x6,v.1,x9,x10,x11,x12,x13,x14,x15,x16,x17,0,false,0,0,false,false,0,0,false,[],[],false,[],[],false,false,0,())
def C11:T11:=F11 C29
theorem ok11:FO 11 (E11 C11):=qz q1w q6a K11 F11 C29 (kc ok29 kn) func11
abbrev T55:=Int×Unit->Option (Bool×Unit)
def E55(f:T55):FEnt:=⟨za,qe,f⟩
def F55:T55:=λ(x0,_)=>bif decide (x0>=200)then some (decide (x0<=599),())else some (false,())
def C55:T55:=F55
theorem ok55:FO 55 (E55 C55):=zd za qe qu F55 kn func55
abbrev T34:=Int×Unit->Option (Int×Unit)
def E34(f:T34):FEnt:=⟨za,qf,f⟩
def K34(f55:T55):=lk [(55,E55 f55)]
def F34(f55:T55):T34:=λ(x0,_)=>(f55 (x0,())).bind λv=>bif !v.1 then some (0,())else some (IntKind.i64.wrap (x0.tdiv 100),())
def C34:T34:=F34 C55
theorem ok34:FO 34 (E34 C34):=qz za qf K34 F34 C55 (kc ok55 kn) func34
abbrev T45_g0:=List (qa)×Int×Unit->Option (Int×Unit)
def E45_g0(f:T45_g0):LEnt:=⟨zn,xn,f⟩
abbrev T45:=List (qa)×Unit->Option (Int×Unit)
def E45(f:T45):FEnt:=⟨zz,qf,f⟩
def F45_g0:qn (List (qa)×Int×Unit) (Int×Unit):=λ(x0,x1,_)=>bif x1==(↑x0.length:Int)then some (Sum.inr (x1,()))else bif decide (0<=x1)&&decide (x1<(↑x0.length:Int))then bif x0.getD x1.toNat []==[]then some (Sum.inr (x1,()))else some (Sum.inl (x0,IntKind.i64.wrap (x1+1),()))else none
theorem h45_g0(v:HS zn):aev Γ qu 0 ((findLabel (subc (code f45) [1,0]) 0).getD .skip) .nil (stof zn v) (aroundL 0 0 [] zn xn)=F45_g0 v:=by kernel_rfl
def C45_g0:T45_g0:=loopN (F45_g0) big
theorem k45_g0:FragOk prog 0 (ScopeFrom prog (subc (code f45) [1,0]) 0) (E45_g0 C45_g0) :=
 frag_big (ins:=zn) (os:=xn) (C:=C45_g0) (frag_label (ins:=zn) (os:=xn) (n := .nil) (ls:=[]) (F:=F45_g0) (rest:=((findLabel (subc (code f45) [1,0]) 0).getD .skip)) hm hΓ kn (λ_=>big) (by kernel_rfl) (ann_nil _) find_nil (h45_g0)) rfl
def N45(f45_g0:T45_g0):Ann:=(.seq .nil (.scope .nil [(0,(E45_g0 f45_g0))]))
def F45(f45_g0:T45_g0):T45:=λ(x0,_)=>bif 0==(↑x0.length:Int)then some (0,())else bif decide (0<(↑x0.length:Int))then bif x0.getD 0 []==[]then some (0,())else(f45_g0 (x0,IntKind.i64.wrap (0+1),())).bind λv=>some (v.1,())else none
def C45:T45:=F45 C45_g0
theorem ok45:FO 45 (E45 C45):=ji zz qf qu N45 F45 C45_g0 kn func45 (And.intro k45_g0 trivial)
abbrev T35_l0:=Int×List (qa)×Int×Int×qb×qc×qd×qa×Bool×qa×qa×List (qa)×Bool×Bool×Bool×Int×Int×Int×Bool×qa×qa×Int×Bool×Int×Int×Bool×Bool×Int×Int×Bool×qa×qa×Bool×qa×qa×Bool×Bool×Int×List ((Int×qa))×Unit->Option (qb×qc×qd×qa×Bool×qa×qa×List (qa)×Bool×Bool×Bool×Int×Int×Int×Bool×qa×qa×Int×Bool×Int×Int×Bool×Bool×Int×Int×Bool×qa×qa×Bool×qa×qa×Bool×Bool×Int×List ((Int×qa))×Unit)
def E35_l0(f:T35_l0):LEnt:=⟨q1x,q6b,f⟩
abbrev T35:=qb×qc×qd×qa×Bool×qa×qa×List (qa)×Bool×Bool×Bool×Int×Int×Int×Bool×qa×qa×Int×Bool×Int×Int×Bool×Bool×Int×Int×Bool×qa×qa×Bool×qa×qa×Bool×Bool×Int×Unit->Option (List ((Int×qa))×qb×qc×qd×qa×Bool×qa×qa×List (qa)×Bool×Bool×Bool×Int×Int×Int×Bool×qa×qa×Int×Bool×Int×Int×Bool×Bool×Int×Int×Bool×qa×qa×Bool×qa×qa×Bool×Bool×Int×Unit)
def E35(f:T35):FEnt:=⟨qy,qw,f⟩
def K35(f45:T45)(f56:T56):=lk [(45,E45 f45),(56,E56 f56)]
theorem kok35:KOk prog (K35 C45 C56):=(kc ok45 (kc ok56 kn))
def F35_l0(f45:T45)(f56:T56):qn (Int×List (qa)×Int×Int×qb×qc×qd×qa×Bool×qa×qa×List (qa)×Bool×Bool×Bool×Int×Int×Int×Bool×qa×qa×Int×Bool×Int×Int×Bool×Bool×Int×Int×Bool×qa×qa×Bool×qa×qa×Bool×Bool×Int×List ((Int×qa))×Unit) (qb×qc×qd×qa×Bool×qa×qa×List (qa)×Bool×Bool×Bool×Int×Int×Int×Bool×qa×qa×Int×Bool×Int×Int×Bool×Bool×Int×Int×Bool×qa×qa×Bool×qa×qa×Bool×Bool×Int×List ((Int×qa))×Unit):=λ(x0,x1,x2,x3,x4,x5,x6,x7,x8,x9,x10,x11,x12,x13,x14,x15,x16,x17,x18,x19,x20,x21,x22,x23,x24,x25,x26,x27,x28,x29,x30,x31,x32,x33,x34,x35,x36,x37,x38,_)=>bif decide (x3<x2)then bif decide (0<=x3)&&decide (x3<(↑x1.length:Int))then bif decide (x3<x0)then bif decide (x38.length+[(2,x1.getD x3.toNat [])].length<=140737488355328/24)then some (Sum.inl (x0,x1,x2,IntKind.i64.wrap (x3+1),x4,x5,x6,x7,x8,x9,x10,x11,x12,x13,x14,x15,x16,x17,x18,x19,x20,x21,x22,x23,x24,x25,x26,x27,x28,x29,x30,x31,x32,x33,x34,x35,x36,x37,x38++[(2,x1.getD x3.toNat [])],()))else none else bif decide (x38.length+[(3,x1.getD x3.toNat [])].length<=140737488355328/24)then some (Sum.inl (x0,x1,x2,IntKind.i64.wrap (x3+1),x4,x5,x6,x7,x8,x9,x10,x11,x12,x13,x14,x15,x16,x17,x18,x19,x20,x21,x22,x23,x24,x25,x26,x27,x28,x29,x30,x31,x32,x33,x34,x35,x36,x37,x38++[(3,x1.getD x3.toNat [])],()))else none else none else some (Sum.inr (x4,x5,x6,x7,x8,x9,x10,x11,x12,x13,x14,x15,x16,x17,x18,x19,x20,x21,x22,x23,x24,x25,x26,x27,x28,x29,x30,x31,x32,x33,x34,x35,x36,x37,x38,()))
def C35_l0:T35_l0:=loopN (F35_l0 C45 C56) big
theorem k35_l0:qg 1 (subc (code f35) [1,1,1,0,1,0,0]) (E35_l0 C35_l0):=kl q1x q6b K35 F35_l0 C45 C56 kok35
def N35(f35_l0:T35_l0):Ann:=(.seq .nil (.seq .nil (.seq .nil (.seq (.seq .nil (.blk (.loop (E35_l0 f35_l0)))) .nil))))
def F35(f45:T45)(f56:T56)(f35_l0:T35_l0):T35:=λ(x0,x1,x2,x3,x4,x5,x6,x7,x8,x9,x10,x11,x12,x13,x14,x15,x16,x17,x18,x19,x20,x21,x22,x23,x24,x25,x26,x27,x28,x29,x30,x31,x32,x33,_)=>(f45 (x7,())).bind λv=>(f56 (x7,())).bind λv1=>(f35_l0 (v.1,v1.1,(↑(List.length v1.1):Int),0,x0,x1,x2,x3,x4,x5,x6,x7,x8,x9,x10,x11,x12,x13,x14,x15,x16,x17,x18,x19,x20,x21,x22,x23,x24,x25,x26,x27,x28,x29,x30,x31,x32,x33,[],())).bind λv=>some (v.2.2.2.2.2.2.2.2.2.2.2.2.2.2.2.2.2.2.2.2.2.2.2.2.2.2.2.2.2.2.2.2.2.2.1,v.1,v.2.1,v.2.2.1,v.2.2.2.1,v.2.2.2.2.1,v.2.2.2.2.2.1,v.2.2.2.2.2.2.1,v.2.2.2.2.2.2.2.1,v.2.2.2.2.2.2.2.2.1,v.2.2.2.2.2.2.2.2.2.1,v.2.2.2.2.2.2.2.2.2.2.1,v.2.2.2.2.2.2.2.2.2.2.2.1,v.2.2.2.2.2.2.2.2.2.2.2.2.1,v.2.2.2.2.2.2.2.2.2.2.2.2.2.1,v.2.2.2.2.2.2.2.2.2.2.2.2.2.2.1,v.2.2.2.2.2.2.2.2.2.2.2.2.2.2.2.1,v.2.2.2.2.2.2.2.2.2.2.2.2.2.2.2.2.1,5,v.2.2.2.2.2.2.2.2.2.2.2.2.2.2.2.2.2.2.1,v.2.2.2.2.2.2.2.2.2.2.2.2.2.2.2.2.2.2.2.1,v.2.2.2.2.2.2.2.2.2.2.2.2.2.2.2.2.2.2.2.2.1,v.2.2.2.2.2.2.2.2.2.2.2.2.2.2.2.2.2.2.2.2.2.1,v.2.2.2.2.2.2.2.2.2.2.2.2.2.2.2.2.2.2.2.2.2.2.1,v.2.2.2.2.2.2.2.2.2.2.2.2.2.2.2.2.2.2.2.2.2.2.2.1,v.2.2.2.2.2.2.2.2.2.2.2.2.2.2.2.2.2.2.2.2.2.2.2.2.1,v.2.2.2.2.2.2.2.2.2.2.2.2.2.2.2.2.2.2.2.2.2.2.2.2.2.1,v.2.2.2.2.2.2.2.2.2.2.2.2.2.2.2.2.2.2.2.2.2.2.2.2.2.2.1,v.2.2.2.2.2.2.2.2.2.2.2.2.2.2.2.2.2.2.2.2.2.2.2.2.2.2.2.1,v.2.2.2.2.2.2.2.2.2.2.2.2.2.2.2.2.2.2.2.2.2.2.2.2.2.2.2.2.1,v.2.2.2.2.2.2.2.2.2.2.2.2.2.2.2.2.2.2.2.2.2.2.2.2.2.2.2.2.2.1,v.2.2.2.2.2.2.2.2.2.2.2.2.2.2.2.2.2.2.2.2.2.2.2.2.2.2.2.2.2.2.1,v.2.2.2.2.2.2.2.2.2.2.2.2.2.2.2.2.2.2.2.2.2.2.2.2.2.2.2.2.2.2.2.1,v.2.2.2.2.2.2.2.2.2.2.2.2.2.2.2.2.2.2.2.2.2.2.2.2.2.2.2.2.2.2.2.2.1,v.2.2.2.2.2.2.2.2.2.2.2.2.2.2.2.2.2.2.2.2.2.2.2.2.2.2.2.2.2.2.2.2.2.1,())
theorem h35(f45:T45)(f56:T56)(f35_l0:T35_l0):qp (K35 f45 f56) 1 f35 (N35 f35_l0) qy qw (F35 f45 f56 f35_l0):=λv=>by kernel_rfl
def C35:T35:=F35 C45 C56 C35_l0
theorem ok35:FO 35 (E35 C35) :=
 qo kok35 func35 (And.intro k35_l0 trivial) (h35 C45 C56 C35_l0)
abbrev T57:=Int×qa×qb×qc×qd×qa×Bool×qa×qa×List (qa)×Bool×Bool×Bool×Int×Int×Int×Bool×qa×qa×Int×Bool×Int×Int×Bool×Bool×Int×Int×Bool×qa×qa×Bool×qa×qa×Bool×Bool×Int×Unit->Option (List ((Int×qa))×qb×qc×qd×qa×Bool×qa×qa×List (qa)×Bool×Bool×Bool×Int×Int×Int×Bool×qa×qa×Int×Bool×Int×Int×Bool×Bool×Int×Int×Bool×qa×qa×Bool×qa×qa×Bool×Bool×Int×Unit)
def E57(f:T57):FEnt:=⟨q1y,qw,f⟩
def F57:T57:=λ(x0,x1,x2,x3,x4,x5,x6,x7,x8,x9,x10,x11,x12,x13,x14,x15,x16,x17,x18,x19,x20,x21,x22,x23,x24,x25,x26,x27,x28,x29,x30,x31,x32,x33,x34,x35,_)=>some ([(1,x1)],x2,x3,x4,x5,x6,x7,x8,x9,x10,x11,x12,x13,x14,x15,x16,x17,x18,x0,x20,x21,x22,x23,x24,x25,x26,x27,x28,x29,x30,x31,x32,x33,x34,x35,())
theorem h57:qp qu 1 f57 .nil q1y qw (F57):=λv=>by kernel_rfl
def C57:T57:=F57
theorem ok57:FO 57 (E57 C57) :=
 q0 kn func57 (h57)
abbrev T58:=Int×Int×qb×qc×qd×qa×Bool×qa×qa×List (qa)×Bool×Bool×Bool×Int×Int×Int×Bool×qa×qa×Int×Bool×Int×Int×Bool×Bool×Int×Int×Bool×qa×qa×Bool×qa×qa×Bool×Bool×Int×Unit->Option (List ((Int×qa))×qb×qc×qd×qa×Bool×qa×qa×List (qa)×Bool×Bool×Bool×Int×Int×Int×Bool×qa×qa×Int×Bool×Int×Int×Bool×Bool×Int×Int×Bool×qa×qa×Bool×qa×qa×Bool×Bool×Int×Unit)
def E58(f:T58):FEnt:=⟨q1z,qw,f⟩
def K58(f57:T57):=lk [(57,E57 f57)]
def F58(f57:T57):T58:=λ(x0,x1,x2,x3,x4,x5,x6,x7,x8,x9,x10,x11,x12,x13,x14,x15,x16,x17,x18,x19,x20,x21,x22,x23,x24,x25,x26,x27,x28,x29,x30,x31,x32,x33,x34,x35,_)=>(f57 (6,[81,85,73,84],x2,x3,x4,x5,x6,x7,x8,x9,x10,x11,x12,x13,x14,x15,x16,x17,x18,x19,x20,x0,x1,x23,x24,x25,x26,x27,x28,x29,x30,x31,x32,x33,x34,x35,())).bind λv=>some (v)
theorem h58(f57:T57):qp (K58 f57) 1 f58 .nil q1z qw (F58 f57):=λv=>by kernel_rfl
def C58:T58:=F58 C57
theorem ok58:FO 58 (E58 C58) :=
 q0 (kc ok57 kn) func58 (h58 C57)
abbrev T36_c0:=Bool×qb×qc×qd×qa×Bool×qa×qa×List (qa)×Bool×Bool×Bool×Int×Int×Int×Bool×qa×qa×Int×Bool×Int×Int×Bool×Bool×Int×Int×Bool×qa×qa×Bool×qa×qa×Bool×Bool×Int×Unit->Option ((List ((Int×qa))×qb×qc×qd×qa×Bool×qa×qa×List (qa)×Bool×Bool×Bool×Int×Int×Int×Bool×qa×qa×Int×Bool×Int×Int×Bool×Bool×Int×Int×Bool×qa×qa×Bool×qa×qa×Bool×Bool×Int×Unit)⊕(qb×qc×qd×qa×Bool×qa×qa×List (qa)×Bool×Bool×Bool×Int×Int×Int×Bool×qa×qa×Int×Bool×Int×Int×Bool×Bool×Int×Int×Bool×qa×qa×Bool×qa×qa×Bool×Bool×Int×Unit))
def E36_c0(f:T36_c0):LEnt:=⟨q2a,q6c,f⟩
abbrev T36:=qb×qc×qd×qa×Bool×qa×qa×List (qa)×Bool×Bool×Bool×Int×Int×Int×Bool×qa×qa×Int×Bool×Int×Int×Bool×Bool×Int×Int×Bool×qa×qa×Bool×qa×qa×Bool×Bool×Int×Unit->Option (List ((Int×qa))×qb×qc×qd×qa×Bool×qa×qa×List (qa)×Bool×Bool×Bool×Int×Int×Int×Bool×qa×qa×Int×Bool×Int×Int×Bool×Bool×Int×Int×Bool×qa×qa×Bool×qa×qa×Bool×Bool×Int×Unit)
def E36(f:T36):FEnt:=⟨qy,qw,f⟩
def K36(f57:T57)(f58:T58):=lk [(57,E57 f57),(58,E58 f58)]
theorem kok36:KOk prog (K36 C57 C58):=(kc ok57 (kc ok58 kn))
def F36_c0(f57:T57)(f58:T58):T36_c0:=λ(x0,x1,x2,x3,x4,x5,x6,x7,x8,x9,x10,x11,x12,x13,x14,x15,x16,x17,x18,x19,x20,x21,x22,x23,x24,x25,x26,x27,x28,x29,x30,x31,x32,x33,x34,_)=>bif x0 then bif decide ([72,69,76,79,32].length+x4.length<=9223372036854775807)then(f57 (1,[72,69,76,79,32]++x4,x1,x2,x3,x4,x5,x6,x7,x8,x9,x10,x11,x12,x13,x14,x15,x16,x17,x18,true,x20,x21,x22,x23,x24,x25,x26,x27,x28,x29,x30,x31,x32,x33,x34,())).bind λv=>some (Sum.inl (v))else none else some (Sum.inr (x1,x2,x3,x4,x5,x6,x7,x8,x9,x10,x11,x12,x13,x14,x15,x16,x17,x18,x19,x20,x21,x22,x23,x24,x25,x26,x27,x28,x29,x30,x31,x32,x33,x34,()))
def C36_c0:T36_c0:=F36_c0 C57 C58
theorem k36_c0:ql 1 (subc (code f36) [1,0,1]) (E36_c0 C36_c0):=zc2 q2a q6c K36 F36_c0 C57 C58 kok36
def N36(f36_c0:T36_c0):Ann:=(.seq .nil (.seq (.cut .nil (E36_c0 f36_c0)) .nil))
def F36(f57:T57)(f58:T58)(f36_c0:T36_c0):T36:=λ(x0,x1,x2,x3,x4,x5,x6,x7,x8,x9,x10,x11,x12,x13,x14,x15,x16,x17,x18,x19,x20,x21,x22,x23,x24,x25,x26,x27,x28,x29,x30,x31,x32,x33,_)=>bif x17==1 then(f36_c0 (!x18,x0,x1,x2,x3,x4,x5,x6,x7,x8,x9,x10,x11,x12,x13,x14,x15,x16,x17,x18,x19,x20,x21,x22,x23,x24,x25,x26,x27,x28,x29,x30,x31,x32,x33,())).bind λv=>Sum.elim (λv=>some (v)) (λv=>(f58 (3,500,v)).bind λv=>some (v)) v else(f36_c0 (false,x0,x1,x2,x3,x4,x5,x6,x7,x8,x9,x10,x11,x12,x13,x14,x15,x16,x17,x18,x19,x20,x21,x22,x23,x24,x25,x26,x27,x28,x29,x30,x31,x32,x33,())).bind λv=>Sum.elim (λv=>some (v)) (λv=>(f58 (3,500,v)).bind λv=>some (v)) v
theorem h36(f57:T57)(f58:T58)(f36_c0:T36_c0):qp (K36 f57 f58) 1 f36 (N36 f36_c0) qy qw (F36 f57 f58 f36_c0):=λv=>by kernel_rfl
def C36:T36:=F36 C57 C58 C36_c0
theorem ok36:FO 36 (E36 C36) :=
 qo kok36 func36 (And.intro k36_c0 trivial) (h36 C57 C58 C36_c0)
abbrev T37:=Int×List (qa)×qb×qc×qd×qa×Bool×qa×qa×List (qa)×Bool×Bool×Bool×Int×Int×Int×Bool×qa×qa×Int×Bool×Int×Int×Bool×Bool×Int×Int×Bool×qa×qa×Bool×qa×qa×Bool×Bool×Int×Unit->Option (List ((Int×qa))×qb×qc×qd×qa×Bool×qa×qa×List (qa)×Bool×Bool×Bool×Int×Int×Int×Bool×qa×qa×Int×Bool×Int×Int×Bool×Bool×Int×Int×Bool×qa×qa×Bool×qa×qa×Bool×Bool×Int×Unit)
def E37(f:T37):FEnt:=⟨je,qw,f⟩
def K37(f58:T58):=lk [(58,E58 f58)]
def F37(f58:T58):T37:=λ(x0,x1,x2,x3,x4,x5,x6,x7,x8,x9,x10,x11,x12,x13,x14,x15,x16,x17,x18,x19,x20,x21,x22,x23,x24,x25,x26,x27,x28,x29,x30,x31,x32,x33,x34,x35,_)=>(f58 (2,0,x2,x3,x4,x5,x6,x7,x8,x9,x10,x11,x12,x13,x14,x15,x16,x17,x18,x19,x20,x21,x22,x23,x24,x25,x26,x27,x28,x29,x30,x31,x32,x33,x34,x35,())).bind λv=>some (v)
theorem h37(f58:T58):qp (K37 f58) 1 f37 .nil je qw (F37 f58):=λv=>by kernel_rfl
def C37:T37:=F37 C58
theorem ok37:FO 37 (E37 C37) :=
 q0 (kc ok58 kn) func37 (h37 C58)
abbrev T38:=Int×List (qa)×qb×qc×qd×qa×Bool×qa×qa×List (qa)×Bool×Bool×Bool×Int×Int×Int×Bool×qa×qa×Int×Bool×Int×Int×Bool×Bool×Int×Int×Bool×qa×qa×Bool×qa×qa×Bool×Bool×Int×Unit->Option (List ((Int×qa))×qb×qc×qd×qa×Bool×qa×qa×List (qa)×Bool×Bool×Bool×Int×Int×Int×Bool×qa×qa×Int×Bool×Int×Int×Bool×Bool×Int×Int×Bool×qa×qa×Bool×qa×qa×Bool×Bool×Int×Unit)
def E38(f:T38):FEnt:=⟨je,qw,f⟩
def K38(f57:T57):=lk [(57,E57 f57)]
def F38(f57:T57):T38:=λ(x0,x1,x2,x3,x4,x5,x6,x7,x8,x9,x10,x11,x12,x13,x14,x15,x16,x17,x18,x19,x20,x21,x22,x23,x24,x25,x26,x27,x28,x29,x30,x31,x32,x33,x34,x35,_)=>bif decide ([69,72,76,79,32].length+x5.length<=9223372036854775807)then(f57 (1,[69,72,76,79,32]++x5,x2,x3,x4,x5,x6,x7,x8,x9,x10,x11,x12,x13,x14,x15,x16,x17,x18,x19,x20,x21,x22,x23,x24,x25,x26,x27,x28,x29,x30,x31,x32,x33,x34,x35,())).bind λv=>some (v)else none
theorem h38(f57:T57):qp (K38 f57) 1 f38 .nil je qw (F38 f57):=λv=>by kernel_rfl
def C38:T38:=F38 C57
theorem ok38:FO 38 (E38 C38) :=
 q0 (kc ok57 kn) func38 (h38 C57)
abbrev T108:=Int×Unit->Option (Int×Unit)
def E108(f:T108):FEnt:=⟨zj,xp,f⟩
def F108:T108:=λ(x0,_)=>bif decide (x0>=65)then bif decide (x0<=90)then some (IntKind.u8.wrap (IntKind.u8.wrap (x0-65)+97),())else some (x0,())else some (x0,())
def C108:T108:=F108
theorem ok108:FO 108 (E108 C108):=zd zj xp qu F108 kn func108
abbrev T107_l0:=qa×Int×Int×qa×Unit->Option (qa×Unit)
def E107_l0(f:T107_l0):LEnt:=⟨q2c,q6e,f⟩
abbrev T107:=qa×Unit->Option (qa×Unit)
def E107(f:T107):FEnt:=⟨q2b,q6d,f⟩
def K107(f108:T108):=lk [(108,E108 f108)]
theorem kok107:KOk prog (K107 C108):=(kc ok108 kn)
def F107_l0(f108:T108):qn (qa×Int×Int×qa×Unit) (qa×Unit):=λ(x0,x1,x2,x3,_)=>bif decide (x2<x1)then bif decide (0<=x2)&&decide (x2<(↑x0.length:Int))then(f108 ((↑(UInt8.toNat (x0.getD x2.toNat 0)):Int),())).bind λv=>bif decide (x3.length+[UInt8.ofNat (Int.toNat v.1)].length<=140737488355328/1)then some (Sum.inl (x0,x1,IntKind.i64.wrap (x2+1),x3++[UInt8.ofNat (Int.toNat v.1)],()))else none else none else some (Sum.inr (x3,()))
def C107_l0:T107_l0:=loopN (F107_l0 C108) big
theorem k107_l0:qg 0 (subc (code f107) [1,1,0,1,0,0]) (E107_l0 C107_l0):=zg q2c q6e K107 F107_l0 C108 kok107
def N107(f107_l0:T107_l0):Ann:=(.seq .nil (.seq .nil (.seq (.seq .nil (.blk (.loop (E107_l0 f107_l0)))) .nil)))
def F107(f108:T108)(f107_l0:T107_l0):T107:=λ(x0,_)=>(f107_l0 (x0,(↑x0.length:Int),0,[],())).bind λv=>some (v.1,())
def C107:T107:=F107 C108 C107_l0
theorem ok107:FO 107 (E107 C107):=qx q2b q6d K107 N107 F107 C108 C107_l0 kok107 func107 (And.intro k107_l0 trivial)
abbrev T69:=qa×Unit->Option (qa×Unit)
def E69(f:T69):FEnt:=⟨qq,jp,f⟩
def K69(f107:T107):=lk [(107,E107 f107)]
def F69(f107:T107):T69:=λ(x0,_)=>bif decide (x0.length<=9223372036854775807)then(f107 (x0,())).bind λv=>some (v.1,())else none
def C69:T69:=F69 C107
theorem ok69:FO 69 (E69 C69):=qz qq jp K69 F69 C107 (kc ok107 kn) func69
abbrev T84_l0:=List (qa)×Int×Int×List (qa)×Unit->Option (List (qa)×Unit)
def E84_l0(f:T84_l0):LEnt:=⟨q2d,q6f,f⟩
abbrev T84:=Int×List (qa)×Unit->Option (List (qa)×Unit)
def E84(f:T84):FEnt:=⟨yu,zk,f⟩
def K84(f69:T69)(f98:T98):=lk [(69,E69 f69),(98,E98 f98)]
theorem kok84:KOk prog (K84 C69 C98):=(kc ok69 (kc ok98 kn))
def F84_l0(f69:T69)(f98:T98):qn (List (qa)×Int×Int×List (qa)×Unit) (List (qa)×Unit):=λ(x0,x1,x2,x3,_)=>bif decide (x2<x1)then bif decide (0<=x2)&&decide (x2<(↑x0.length:Int))then bif decide (x2>0)then(f98 (x0.getD x2.toNat [],[32],())).bind λv=>(f69 (v.1,())).bind λv=>bif decide (x3.length+[v.1].length<=140737488355328/16)then some (Sum.inl (x0,x1,IntKind.i64.wrap (x2+1),x3++[v.1],()))else none else some (Sum.inl (x0,x1,IntKind.i64.wrap (x2+1),x3,()))else none else some (Sum.inr (x3,()))
def C84_l0:T84_l0:=loopN (F84_l0 C69 C98) big
theorem k84_l0:qg 0 (subc (code f84) [1,1,0,1,0,0]) (E84_l0 C84_l0):=kl q2d q6f K84 F84_l0 C69 C98 kok84
def N84(f84_l0:T84_l0):Ann:=(.seq .nil (.seq .nil (.seq (.seq .nil (.blk (.loop (E84_l0 f84_l0)))) .nil)))
def F84(f69:T69)(f98:T98)(f84_l0:T84_l0):T84:=λ(x0,x1,_)=>(f84_l0 (x1,(↑x1.length:Int),0,[],())).bind λv=>some (v.1,())
def C84:T84:=F84 C69 C98 C84_l0
theorem ok84:FO 84 (E84 C84):=zf yu zk K84 N84 F84 C69 C98 C84_l0 kok84 func84 (And.intro k84_l0 trivial)
abbrev T86_l0:=List (qa)×qa×Int×Int×Unit->Option (Unit⊕(Int×Unit))
def E86_l0(f:T86_l0):LEnt:=⟨q2e,jn,f⟩
abbrev T86:=List (qa)×qa×Unit->Option (Int×Unit)
def E86(f:T86):FEnt:=⟨yv,qf,f⟩
def F86_l0:qn (List (qa)×qa×Int×Int×Unit) (Unit⊕(Int×Unit)):=λ(x0,x1,x2,x3,_)=>bif decide (x3<x2)then bif decide (0<=x3)&&decide (x3<(↑x0.length:Int))then bif x1==x0.getD x3.toNat []then some (Sum.inr (Sum.inr (x3,())))else some (Sum.inl (x0,x1,x2,IntKind.i64.wrap (x3+1),()))else none else some (Sum.inr (Sum.inl ()))
def C86_l0:T86_l0:=loopN (F86_l0) big
theorem k86_l0:qg 0 (subc (code f86) [1,0,1,0,0]) (E86_l0 C86_l0):=zl0 q2e jn qu F86_l0 kn
def N86(f86_l0:T86_l0):Ann:=(.seq .nil (.seq (.seq .nil (.blk (.loop (E86_l0 f86_l0)))) .nil))
def F86(f86_l0:T86_l0):T86:=λ(x0,x1,_)=>(f86_l0 (x0,x1,(↑x0.length:Int),0,())).bind λv=>Sum.elim (λv=>some (-1,())) (λv=>some (v.1,())) v
def C86:T86:=F86 C86_l0
theorem ok86:FO 86 (E86 C86):=ji yv qf qu N86 F86 C86_l0 kn func86 (And.intro k86_l0 trivial)
abbrev T85:=List (qa)×qa×Unit->Option (Bool×Unit)
def E85(f:T85):FEnt:=⟨yv,qe,f⟩
def K85(f86:T86):=lk [(86,E86 f86)]
def F85(f86:T86):T85:=λ(x0,x1,_)=>(f86 (x0,x1,())).bind λv=>some (decide (v.1>=0),())
def C85:T85:=F85 C86
theorem ok85:FO 85 (E85 C85):=qz yv qe K85 F85 C86 (kc ok86 kn) func85
abbrev T190:=Int×Unit->Option (Int×Unit)
def E190(f:T190):FEnt:=⟨zj,xp,f⟩
def F190:T190:=λ(x0,_)=>some (intBits BinOp.or IntKind.u8 x0 32,())
def C190:T190:=F190
theorem ok190:FO 190 (E190 C190):=zd zj xp qu F190 kn func190
abbrev T191_l0:=qa×Int×Int×Bool×Unit->Option ((Int×Unit)⊕(Bool×Unit))
def E191_l0(f:T191_l0):LEnt:=⟨yw,q6g,f⟩
abbrev T191_c0:=qa×Int×Int×Bool×Unit->Option (Bool×Unit)
def E191_c0(f:T191_c0):LEnt:=⟨yw,xq,f⟩
abbrev T191_c1:=qa×Int×Int×Unit->Option (Bool×Unit)
def E191_c1(f:T191_c1):LEnt:=⟨q2f,xq,f⟩
abbrev T191:=qa×Unit->Option (Bool×Unit)
def E191(f:T191):FEnt:=⟨qq,qe,f⟩
def K191(f190:T190):=lk [(190,E190 f190)]
theorem kok191:KOk prog (K191 C190):=(kc ok190 kn)
def F191_l0(f190:T190):qn (qa×Int×Int×Bool×Unit) ((Int×Unit)⊕(Bool×Unit)):=λ(x0,x1,x2,x3,_)=>bif decide (x2<(↑x0.length:Int))then bif decide (0<=x2)&&decide (x2<(↑x0.length:Int))then bif decide (48<=(↑(x0.getD x2.toNat 0).toNat:Int))then bif decide (0<=x2)&&decide (x2<(↑x0.length:Int))then bif decide ((↑(x0.getD x2.toNat 0).toNat:Int)<=57)then some (Sum.inl (x0,48,IntKind.i64.wrap (x2+1),x3,()))else bif x3 then bif decide (0<=x2)&&decide (x2<(↑x0.length:Int))then(f190 ((↑(x0.getD x2.toNat 0).toNat:Int),())).bind λv=>bif decide (97<=v.1)then bif decide (0<=x2)&&decide (x2<(↑x0.length:Int))then(f190 ((↑(x0.getD x2.toNat 0).toNat:Int),())).bind λv=>bif decide (v.1<=102)then some (Sum.inl (x0,48,IntKind.i64.wrap (x2+1),x3,()))else bif decide (0<=x2)&&decide (x2<(↑x0.length:Int))then bif(↑(x0.getD x2.toNat 0).toNat:Int)==95 then bif x1 != 48 then some (Sum.inr (Sum.inr (false,())))else some (Sum.inl (x0,95,IntKind.i64.wrap (x2+1),x3,()))else bif x1==95 then some (Sum.inr (Sum.inr (false,())))else some (Sum.inl (x0,33,IntKind.i64.wrap (x2+1),x3,()))else none else none else bif decide (0<=x2)&&decide (x2<(↑x0.length:Int))then bif(↑(x0.getD x2.toNat 0).toNat:Int)==95 then bif x1 != 48 then some (Sum.inr (Sum.inr (false,())))else some (Sum.inl (x0,95,IntKind.i64.wrap (x2+1),x3,()))else bif x1==95 then some (Sum.inr (Sum.inr (false,())))else some (Sum.inl (x0,33,IntKind.i64.wrap (x2+1),x3,()))else none else none else bif decide (0<=x2)&&decide (x2<(↑x0.length:Int))then bif(↑(x0.getD x2.toNat 0).toNat:Int)==95 then bif x1 != 48 then some (Sum.inr (Sum.inr (false,())))else some (Sum.inl (x0,95,IntKind.i64.wrap (x2+1),x3,()))else bif x1==95 then some (Sum.inr (Sum.inr (false,())))else some (Sum.inl (x0,33,IntKind.i64.wrap (x2+1),x3,()))else none else none else bif x3 then bif decide (0<=x2)&&decide (x2<(↑x0.length:Int))then(f190 ((↑(x0.getD x2.toNat 0).toNat:Int),())).bind λv=>bif decide (97<=v.1)then bif decide (0<=x2)&&decide (x2<(↑x0.length:Int))then(f190 ((↑(x0.getD x2.toNat 0).toNat:Int),())).bind λv=>bif decide (v.1<=102)then some (Sum.inl (x0,48,IntKind.i64.wrap (x2+1),x3,()))else bif decide (0<=x2)&&decide (x2<(↑x0.length:Int))then bif(↑(x0.getD x2.toNat 0).toNat:Int)==95 then bif x1 != 48 then some (Sum.inr (Sum.inr (false,())))else some (Sum.inl (x0,95,IntKind.i64.wrap (x2+1),x3,()))else bif x1==95 then some (Sum.inr (Sum.inr (false,())))else some (Sum.inl (x0,33,IntKind.i64.wrap (x2+1),x3,()))else none else none else bif decide (0<=x2)&&decide (x2<(↑x0.length:Int))then bif(↑(x0.getD x2.toNat 0).toNat:Int)==95 then bif x1 != 48 then some (Sum.inr (Sum.inr (false,())))else some (Sum.inl (x0,95,IntKind.i64.wrap (x2+1),x3,()))else bif x1==95 then some (Sum.inr (Sum.inr (false,())))else some (Sum.inl (x0,33,IntKind.i64.wrap (x2+1),x3,()))else none else none else bif decide (0<=x2)&&decide (x2<(↑x0.length:Int))then bif(↑(x0.getD x2.toNat 0).toNat:Int)==95 then bif x1 != 48 then some (Sum.inr (Sum.inr (false,())))else some (Sum.inl (x0,95,IntKind.i64.wrap (x2+1),x3,()))else bif x1==95 then some (Sum.inr (Sum.inr (false,())))else some (Sum.inl (x0,33,IntKind.i64.wrap (x2+1),x3,()))else none else none else some (Sum.inr (Sum.inl (x1,())))
def C191_l0:T191_l0:=loopN (F191_l0 C190) big
theorem k191_l0:qg 0 (subc (code f191) [1,1,1,1,1,1,0,0,0]) (E191_l0 C191_l0):=zg yw q6g K191 F191_l0 C190 kok191
def N191_c0(f191_l0:T191_l0):Ann:=(.seq (.blk (.loop (E191_l0 f191_l0))) .nil)
def F191_c0(f190:T190)(f191_l0:T191_l0):T191_c0:=λ(x0,x1,x2,x3,_)=>(f191_l0 (x0,x1,x2,x3,())).bind λv=>Sum.elim (λv=>some (bif v.1==95 then false else true,())) (λv=>some (v.1,())) v
theorem h191_c0(f190:T190)(f191_l0:T191_l0):jd (K191 f190) 0 (subc (code f191) [1,1,1,1,1,1]) (N191_c0 f191_l0) yw xq (F191_c0 f190 f191_l0):=λv=>by kernel_rfl
def C191_c0:T191_c0:=F191_c0 C190 C191_l0
theorem k191_c0:ql 0 (subc (code f191) [1,1,1,1,1,1]) (E191_c0 C191_c0) :=
 zc kok191 (And.intro k191_l0 trivial) (h191_c0 C190 C191_l0)
def N191_c1(f191_c0:T191_c0):Ann:=(.seq .nil (.cut .nil (E191_c0 f191_c0)))
def F191_c1(f190:T190)(f191_c0:T191_c0):T191_c1:=λ(x0,x1,x2,_)=>bif decide ((↑x0.length:Int)>=2)then bif decide (0<(↑x0.length:Int))then bif(↑(x0.getD 0 0).toNat:Int)==48 then bif decide (1<(↑x0.length:Int))then(f190 ((↑(x0.getD 1 0).toNat:Int),())).bind λv=>bif v.1==98 then bif decide (1<(↑x0.length:Int))then(f190 ((↑(x0.getD 1 0).toNat:Int),())).bind λv=>(f191_c0 (x0,48,2,v.1==120,())).bind λv=>some (v.1,())else none else bif decide (1<(↑x0.length:Int))then(f190 ((↑(x0.getD 1 0).toNat:Int),())).bind λv=>bif v.1==111 then bif decide (1<(↑x0.length:Int))then(f190 ((↑(x0.getD 1 0).toNat:Int),())).bind λv=>(f191_c0 (x0,48,2,v.1==120,())).bind λv=>some (v.1,())else none else bif decide (1<(↑x0.length:Int))then(f190 ((↑(x0.getD 1 0).toNat:Int),())).bind λv=>bif v.1==120 then bif decide (1<(↑x0.length:Int))then(f190 ((↑(x0.getD 1 0).toNat:Int),())).bind λv=>(f191_c0 (x0,48,2,v.1==120,())).bind λv=>some (v.1,())else none else(f191_c0 (x0,x1,x2,false,())).bind λv=>some (v.1,())else none else none else none else(f191_c0 (x0,x1,x2,false,())).bind λv=>some (v.1,())else none else(f191_c0 (x0,x1,x2,false,())).bind λv=>some (v.1,())
theorem h191_c1(f190:T190)(f191_c0:T191_c0):jd (K191 f190) 0 (subc (code f191) [1,1,1,1]) (N191_c1 f191_c0) q2f xq (F191_c1 f190 f191_c0):=λv=>by kernel_rfl
def C191_c1:T191_c1:=F191_c1 C190 C191_c0
theorem k191_c1:ql 0 (subc (code f191) [1,1,1,1]) (E191_c1 C191_c1) :=
 zc kok191 (And.intro k191_c0 trivial) (h191_c1 C190 C191_c0)
def N191(f191_c1:T191_c1):Ann:=(.seq .nil (.seq .nil (.seq .nil (.cut .nil (E191_c1 f191_c1)))))
def F191(f190:T190)(f191_c1:T191_c1):T191:=λ(x0,_)=>bif decide ((↑x0.length:Int)>=1)then bif decide (0<(↑x0.length:Int))then bif(↑(x0.getD 0 0).toNat:Int)==45 then bif decide (1<=(↑x0.length:Int))then(f191_c1 (List.drop 1 x0,94,0,())).bind λv=>some (v.1,())else none else bif decide (0<(↑x0.length:Int))then bif(↑(x0.getD 0 0).toNat:Int)==43 then bif decide (1<=(↑x0.length:Int))then(f191_c1 (List.drop 1 x0,94,0,())).bind λv=>some (v.1,())else none else(f191_c1 (x0,94,0,())).bind λv=>some (v.1,())else none else none else(f191_c1 (x0,94,0,())).bind λv=>some (v.1,())
def C191:T191:=F191 C190 C191_c1
theorem ok191:FO 191 (E191 C191):=qx qq qe K191 N191 F191 C190 C191_c1 kok191 func191 (And.intro k191_c1 trivial)
abbrev T155_c0:=qa×Int×Bool×qa×Bool×Unit->Option (qa×Int×Int×Bool×qa×Unit)
def E155_c0(f:T155_c0):LEnt:=⟨q2g,zq,f⟩
abbrev T155_c1:=qa×Int×Bool×qa×Bool×Unit->Option (qa×Int×Int×Bool×qa×Unit)
def E155_c1(f:T155_c1):LEnt:=⟨q2h,zq,f⟩
abbrev T155_c2:=qa×Int×Bool×qa×Bool×Unit->Option (qa×Int×Int×Bool×qa×Unit)
def E155_c2(f:T155_c2):LEnt:=⟨q2i,zq,f⟩
abbrev T155_c3:=qa×Int×Int×Bool×qa×Bool×Unit->Option ((qa×Int×Int×Bool×qa×Unit)⊕(Int×Int×Unit))
def E155_c3(f:T155_c3):LEnt:=⟨q2j,q6i,f⟩
abbrev T155_c4:=Int×Bool×qa×Int×Int×Bool×Int×Int×qa×Int×Int×Bool×Unit->Option ((Int×Bool×qa×Int×Int×Bool×Int×Int×qa×Int×Int×Unit)⊕(Int×Int×Unit))
def E155_c4(f:T155_c4):LEnt:=⟨q2k,xr,f⟩
abbrev T155_c5:=Int×Bool×qa×Int×Int×Bool×Int×Int×qa×Int×Int×Bool×Unit->Option ((Int×Bool×qa×Int×Int×Bool×Int×Int×qa×Int×Int×Unit)⊕(Int×Int×Unit))
def E155_c5(f:T155_c5):LEnt:=⟨q2l,xr,f⟩
abbrev T155_c6:=Int×Bool×qa×Int×Int×Bool×Int×Int×qa×Int×Int×Bool×Unit->Option ((Int×Bool×qa×Int×Int×Bool×Int×qa×Int×Int×Unit)⊕(Int×Bool×qa×Int×Int×Bool×Int×Int×qa×Int×Int×Unit)⊕(Int×Int×Unit))
def E155_c6(f:T155_c6):LEnt:=⟨q2m,q6j,f⟩
abbrev T155_l0:=Int×Bool×qa×Int×Int×Bool×Int×qa×Int×Int×Unit->Option ((qa×Bool×Int×Unit)⊕(Int×Int×Unit))
def E155_l0(f:T155_l0):LEnt:=⟨q2n,q6k,f⟩
abbrev T155_c7:=qa×Int×Int×Bool×qa×Int×Unit->Option ((Int×Int×Unit)⊕(Int×Unit))
def E155_c7(f:T155_c7):LEnt:=⟨q2o,xt,f⟩
abbrev T155_c8:=qa×Int×Int×Bool×qa×Unit->Option ((Int×Int×Unit)⊕(Int×Unit))
def E155_c8(f:T155_c8):LEnt:=⟨q2p,xt,f⟩
abbrev T155:=qa×Int×Int×Unit->Option ((Int×Int×Unit)⊕(Int×Unit))
def E155(f:T155):FEnt:=⟨yx,q6h,f⟩
def K155(f190:T190)(f191:T191):=lk [(190,E190 f190),(191,E191 f191)]
theorem kok155:KOk prog (K155 C190 C191):=(kc ok190 (kc ok191 kn))
def F155_c0(f190:T190)(f191:T191):T155_c0:=λ(x0,x1,x2,x3,x4,_)=>bif x4 then bif decide (2<=(↑x0.length:Int))then some (List.drop 2 x0,16,x1,x2,x3,())else none else bif decide (1<=(↑x0.length:Int))then some (List.drop 1 x0,8,x1,x2,x3,())else none
def C155_c0:T155_c0:=F155_c0 C190 C191
theorem k155_c0:ql 0 (subc (code f155) [1,1,1,1,0,0,1,1,1,0,1,1,0,0,1,1,1,1,1]) (E155_c0 C155_c0):=zc2 q2g zq K155 F155_c0 C190 C191 kok155
def N155_c1(f155_c0:T155_c0):Ann:=(.cond .nil (.cut .nil (E155_c0 f155_c0)))
def F155_c1(f190:T190)(f191:T191)(f155_c0:T155_c0):T155_c1:=λ(x0,x1,x2,x3,x4,_)=>bif x4 then bif decide (2<=(↑x0.length:Int))then some (List.drop 2 x0,8,x1,x2,x3,())else none else bif decide ((↑x0.length:Int)>=3)then bif decide (1<(↑x0.length:Int))then(f190 ((↑(x0.getD 1 0).toNat:Int),())).bind λv=>(f155_c0 (x0,x1,x2,x3,v.1==120,())).bind λv=>some (v.1,v.2.1,v.2.2.1,v.2.2.2.1,v.2.2.2.2.1,())else none else(f155_c0 (x0,x1,x2,x3,false,())).bind λv=>some (v.1,v.2.1,v.2.2.1,v.2.2.2.1,v.2.2.2.2.1,())
def C155_c1:T155_c1:=F155_c1 C190 C191 C155_c0
theorem k155_c1:ql 0 (subc (code f155) [1,1,1,1,0,0,1,1,1,0,1,1,0,0,1,1,1]) (E155_c1 C155_c1):=jz q2h zq K155 N155_c1 F155_c1 C190 C191 C155_c0 kok155 (And.intro k155_c0 trivial)
def N155_c2(f155_c1:T155_c1):Ann:=(.cond .nil (.cut .nil (E155_c1 f155_c1)))
def F155_c2(f190:T190)(f191:T191)(f155_c1:T155_c1):T155_c2:=λ(x0,x1,x2,x3,x4,_)=>bif x4 then bif decide (2<=(↑x0.length:Int))then some (List.drop 2 x0,2,x1,x2,x3,())else none else bif decide ((↑x0.length:Int)>=3)then bif decide (1<(↑x0.length:Int))then(f190 ((↑(x0.getD 1 0).toNat:Int),())).bind λv=>(f155_c1 (x0,x1,x2,x3,v.1==111,())).bind λv=>some (v.1,v.2.1,v.2.2.1,v.2.2.2.1,v.2.2.2.2.1,())else none else(f155_c1 (x0,x1,x2,x3,false,())).bind λv=>some (v.1,v.2.1,v.2.2.1,v.2.2.2.1,v.2.2.2.2.1,())
def C155_c2:T155_c2:=F155_c2 C190 C191 C155_c1
theorem k155_c2:ql 0 (subc (code f155) [1,1,1,1,0,0,1,1,1,0,1,1,0,0,1]) (E155_c2 C155_c2):=jz q2i zq K155 N155_c2 F155_c2 C190 C191 C155_c1 kok155 (And.intro k155_c1 trivial)
def N155_c3(f155_c2:T155_c2):Ann:=(.cond .nil (.seq .nil (.cond (.seq .nil (.seq .nil (.cond (.blk (.cut .nil (E155_c2 f155_c2))) .nil))) .nil)))
def F155_c3(f190:T190)(f191:T191)(f155_c2:T155_c2):T155_c3:=λ(x0,x1,x2,x3,x4,x5,_)=>bif x5 then some (Sum.inl (x0,x1,x2,x3,x4,()))else bif x1==0 then bif decide (0<(↑x0.length:Int))then bif(↑(x0.getD 0 0).toNat:Int)==48 then bif decide ((↑x0.length:Int)>=3)then bif decide (1<(↑x0.length:Int))then(f190 ((↑(x0.getD 1 0).toNat:Int),())).bind λv=>(f155_c2 (x0,x2,x3,x4,v.1==98,())).bind λv=>some (Sum.inl (v.1,v.2.1,v.2.2.1,v.2.2.2.1,v.2.2.2.2.1,()))else none else(f155_c2 (x0,x2,x3,x4,false,())).bind λv=>some (Sum.inl (v.1,v.2.1,v.2.2.1,v.2.2.2.1,v.2.2.2.2.1,()))else some (Sum.inl (x0,10,x2,x3,x4,()))else none else some (Sum.inr (0,3,()))
def C155_c3:T155_c3:=F155_c3 C190 C191 C155_c2
theorem k155_c3:ql 0 (subc (code f155) [1,1,1,1,0,0,1]) (E155_c3 C155_c3):=jz q2j q6i K155 N155_c3 F155_c3 C190 C191 C155_c2 kok155 (And.intro k155_c2 trivial)
def F155_c4(f190:T190)(f191:T191):T155_c4:=λ(x0,x1,x2,x3,x4,x5,x6,x7,x8,x9,x10,x11,_)=>bif x11 then(f190 (x7,())).bind λv=>some (Sum.inl (x0,x1,x2,x3,x4,x5,x6,IntKind.u8.wrap (IntKind.u8.wrap (v.1-97)+10),x8,x9,x10,()))else some (Sum.inr (0,2,()))
def C155_c4:T155_c4:=F155_c4 C190 C191
theorem k155_c4:ql 0 (subc (code f155) [1,1,1,1,1,1,1,1,1,1,1,0,1,0,0,1,1,0,0,1,1,0,0,1,1,1,1,1]) (E155_c4 C155_c4):=zc2 q2k xr K155 F155_c4 C190 C191 kok155
def N155_c5(f155_c4:T155_c4):Ann:=(.cond .nil (.cut .nil (E155_c4 f155_c4)))
def F155_c5(f190:T190)(f191:T191)(f155_c4:T155_c4):T155_c5:=λ(x0,x1,x2,x3,x4,x5,x6,x7,x8,x9,x10,x11,_)=>bif x11 then some (Sum.inl (x0,x1,x2,x3,x4,x5,x6,IntKind.u8.wrap (x7-48),x8,x9,x10,()))else(f190 (x7,())).bind λv=>bif decide (97<=v.1)then(f190 (x7,())).bind λv=>(f155_c4 (x0,x1,x2,x3,x4,x5,x6,x7,x8,x9,x10,decide (v.1<=122),())).bind λv=>Sum.elim (λv=>some (Sum.inl (v.1,v.2.1,v.2.2.1,v.2.2.2.1,v.2.2.2.2.1,v.2.2.2.2.2.1,v.2.2.2.2.2.2.1,v.2.2.2.2.2.2.2.1,v.2.2.2.2.2.2.2.2.1,v.2.2.2.2.2.2.2.2.2.1,v.2.2.2.2.2.2.2.2.2.2.1,()))) (λv=>some (Sum.inr (v.1,v.2.1,()))) v else(f155_c4 (x0,x1,x2,x3,x4,x5,x6,x7,x8,x9,x10,false,())).bind λv=>Sum.elim (λv=>some (Sum.inl (v.1,v.2.1,v.2.2.1,v.2.2.2.1,v.2.2.2.2.1,v.2.2.2.2.2.1,v.2.2.2.2.2.2.1,v.2.2.2.2.2.2.2.1,v.2.2.2.2.2.2.2.2.1,v.2.2.2.2.2.2.2.2.2.1,v.2.2.2.2.2.2.2.2.2.2.1,()))) (λv=>some (Sum.inr (v.1,v.2.1,()))) v
def C155_c5:T155_c5:=F155_c5 C190 C191 C155_c4
theorem k155_c5:ql 0 (subc (code f155) [1,1,1,1,1,1,1,1,1,1,1,0,1,0,0,1,1,0,0,1,1,0,0,1,1,1]) (E155_c5 C155_c5):=jz q2l xr K155 N155_c5 F155_c5 C190 C191 C155_c4 kok155 (And.intro k155_c4 trivial)
def N155_c6(f155_c5:T155_c5):Ann:=(.cond .nil (.cut .nil (E155_c5 f155_c5)))
def F155_c6(f190:T190)(f191:T191)(f155_c5:T155_c5):T155_c6:=λ(x0,x1,x2,x3,x4,x5,x6,x7,x8,x9,x10,x11,_)=>bif x11 then some (Sum.inl (x0,x1,x2,x3,x4,true,x6,x8,x9,x10,()))else bif decide (48<=x7)then(f155_c5 (x0,x1,x2,x3,x4,x5,x6,x7,x8,x9,x10,decide (x7<=57),())).bind λv=>Sum.elim (λv=>some (Sum.inr (Sum.inl (v.1,v.2.1,v.2.2.1,v.2.2.2.1,v.2.2.2.2.1,v.2.2.2.2.2.1,v.2.2.2.2.2.2.1,v.2.2.2.2.2.2.2.1,v.2.2.2.2.2.2.2.2.1,v.2.2.2.2.2.2.2.2.2.1,v.2.2.2.2.2.2.2.2.2.2.1,())))) (λv=>some (Sum.inr (Sum.inr (v.1,v.2.1,())))) v else(f155_c5 (x0,x1,x2,x3,x4,x5,x6,x7,x8,x9,x10,false,())).bind λv=>Sum.elim (λv=>some (Sum.inr (Sum.inl (v.1,v.2.1,v.2.2.1,v.2.2.2.1,v.2.2.2.2.1,v.2.2.2.2.2.1,v.2.2.2.2.2.2.1,v.2.2.2.2.2.2.2.1,v.2.2.2.2.2.2.2.2.1,v.2.2.2.2.2.2.2.2.2.1,v.2.2.2.2.2.2.2.2.2.2.1,())))) (λv=>some (Sum.inr (Sum.inr (v.1,v.2.1,())))) v
def C155_c6:T155_c6:=F155_c6 C190 C191 C155_c5
theorem k155_c6:ql 0 (subc (code f155) [1,1,1,1,1,1,1,1,1,1,1,0,1,0,0,1,1,0,0,1,1,0,0,1]) (E155_c6 C155_c6):=jz q2m q6j K155 N155_c6 F155_c6 C190 C191 C155_c5 kok155 (And.intro k155_c5 trivial)
def N155_l0(f155_c6:T155_c6):Ann:=(.seq .nil (.seq .nil (.seq (.blk (.seq .nil (.seq .nil (.seq (.blk (.cut .nil (E155_c6 f155_c6))) .nil)))) .nil)))
def F155_l0(f190:T190)(f191:T191)(f155_c6:T155_c6):qn (Int×Bool×qa×Int×Int×Bool×Int×qa×Int×Int×Unit) ((qa×Bool×Int×Unit)⊕(Int×Int×Unit)):=λ(x0,x1,x2,x3,x4,x5,x6,x7,x8,x9,_)=>bif decide (x9<x8)then bif decide (0<=x9)&&decide (x9<(↑x7.length:Int))then bif(↑(UInt8.toNat (x7.getD x9.toNat 0)):Int)==95 then(f155_c6 (x0,x1,x2,x3,x4,x5,x6,(↑(UInt8.toNat (x7.getD x9.toNat 0)):Int),x7,x8,x9,x1,())).bind λv=>Sum.elim (λv=>some (Sum.inl (v.1,v.2.1,v.2.2.1,v.2.2.2.1,v.2.2.2.2.1,v.2.2.2.2.2.1,v.2.2.2.2.2.2.1,v.2.2.2.2.2.2.2.1,v.2.2.2.2.2.2.2.2.1,IntKind.i64.wrap (v.2.2.2.2.2.2.2.2.2.1+1),()))) (λv=>Sum.elim (λv=>bif decide (v.2.2.2.2.2.2.2.1>=IntKind.u8.wrap v.1)then some (Sum.inr (Sum.inr (0,2,())))else bif decide (v.2.2.2.2.2.2.1>=v.2.2.2.1)then some (Sum.inr (Sum.inr (v.2.2.2.2.1,1,())))else bif decide (IntKind.u64.wrap (IntKind.u64.wrap (v.2.2.2.2.2.2.1*IntKind.u64.wrap v.1)+IntKind.u64.wrap v.2.2.2.2.2.2.2.1)<IntKind.u64.wrap (v.2.2.2.2.2.2.1*IntKind.u64.wrap v.1))then some (Sum.inr (Sum.inr (v.2.2.2.2.1,1,())))else bif decide (IntKind.u64.wrap (IntKind.u64.wrap (v.2.2.2.2.2.2.1*IntKind.u64.wrap v.1)+IntKind.u64.wrap v.2.2.2.2.2.2.2.1)>v.2.2.2.2.1)then some (Sum.inr (Sum.inr (v.2.2.2.2.1,1,())))else some (Sum.inl (v.1,v.2.1,v.2.2.1,v.2.2.2.1,v.2.2.2.2.1,v.2.2.2.2.2.1,IntKind.u64.wrap (IntKind.u64.wrap (v.2.2.2.2.2.2.1*IntKind.u64.wrap v.1)+IntKind.u64.wrap v.2.2.2.2.2.2.2.1),v.2.2.2.2.2.2.2.2.1,v.2.2.2.2.2.2.2.2.2.1,IntKind.i64.wrap (v.2.2.2.2.2.2.2.2.2.2.1+1),()))) (λv=>some (Sum.inr (Sum.inr (v.1,v.2.1,())))) v) v else(f155_c6 (x0,x1,x2,x3,x4,x5,x6,(↑(UInt8.toNat (x7.getD x9.toNat 0)):Int),x7,x8,x9,false,())).bind λv=>Sum.elim (λv=>some (Sum.inl (v.1,v.2.1,v.2.2.1,v.2.2.2.1,v.2.2.2.2.1,v.2.2.2.2.2.1,v.2.2.2.2.2.2.1,v.2.2.2.2.2.2.2.1,v.2.2.2.2.2.2.2.2.1,IntKind.i64.wrap (v.2.2.2.2.2.2.2.2.2.1+1),()))) (λv=>Sum.elim (λv=>bif decide (v.2.2.2.2.2.2.2.1>=IntKind.u8.wrap v.1)then some (Sum.inr (Sum.inr (0,2,())))else bif decide (v.2.2.2.2.2.2.1>=v.2.2.2.1)then some (Sum.inr (Sum.inr (v.2.2.2.2.1,1,())))else bif decide (IntKind.u64.wrap (IntKind.u64.wrap (v.2.2.2.2.2.2.1*IntKind.u64.wrap v.1)+IntKind.u64.wrap v.2.2.2.2.2.2.2.1)<IntKind.u64.wrap (v.2.2.2.2.2.2.1*IntKind.u64.wrap v.1))then some (Sum.inr (Sum.inr (v.2.2.2.2.1,1,())))else bif decide (IntKind.u64.wrap (IntKind.u64.wrap (v.2.2.2.2.2.2.1*IntKind.u64.wrap v.1)+IntKind.u64.wrap v.2.2.2.2.2.2.2.1)>v.2.2.2.2.1)then some (Sum.inr (Sum.inr (v.2.2.2.2.1,1,())))else some (Sum.inl (v.1,v.2.1,v.2.2.1,v.2.2.2.1,v.2.2.2.2.1,v.2.2.2.2.2.1,IntKind.u64.wrap (IntKind.u64.wrap (v.2.2.2.2.2.2.1*IntKind.u64.wrap v.1)+IntKind.u64.wrap v.2.2.2.2.2.2.2.1),v.2.2.2.2.2.2.2.2.1,v.2.2.2.2.2.2.2.2.2.1,IntKind.i64.wrap (v.2.2.2.2.2.2.2.2.2.2.1+1),()))) (λv=>some (Sum.inr (Sum.inr (v.1,v.2.1,())))) v) v else none else some (Sum.inr (Sum.inl (x2,x5,x6,())))
theorem h155_l0(f190:T190)(f191:T191)(f155_c6:T155_c6):jv (K155 f190 f191) 0 (subc (code f155) [1,1,1,1,1,1,1,1,1,1,1,0,1,0,0]) (N155_l0 f155_c6) q2n q6k (F155_l0 f190 f191 f155_c6):=λv=>by kernel_rfl
def C155_l0:T155_l0:=loopN (F155_l0 C190 C191 C155_c6) big
theorem k155_l0:qg 0 (subc (code f155) [1,1,1,1,1,1,1,1,1,1,1,0,1,0,0]) (E155_l0 C155_l0) :=
 vy kok155 (And.intro k155_c6 trivial) (h155_l0 C190 C191 C155_c6)
def N155_c7(f155_l0:T155_l0):Ann:=(.seq .nil (.seq .nil (.seq .nil (.seq (.seq .nil (.blk (.loop (E155_l0 f155_l0)))) .nil))))
def F155_c7(f190:T190)(f191:T191)(f155_l0:T155_l0):T155_c7:=λ(x0,x1,x2,x3,x4,x5,_)=>bif decide (0<=IntKind.u64.wrap x2)then bif decide (x0.length<=9223372036854775807)then(f155_l0 (x1,x3,x4,x5,IntKind.u64.wrap (IntKind.u64.wrap (1*2^min (IntKind.u64.wrap x2).toNat IntKind.u64.bits)-1),false,0,x0,(↑x0.length:Int),0,())).bind λv=>Sum.elim (λv=>bif v.2.1 then(f191 (v.1,())).bind λv1=>bif !v1.1 then some (Sum.inl (0,2,()))else some (Sum.inr (v.2.2.1,()))else some (Sum.inr (v.2.2.1,()))) (λv=>some (Sum.inl (v.1,v.2.1,()))) v else none else none
def C155_c7:T155_c7:=F155_c7 C190 C191 C155_l0
theorem k155_c7:ql 0 (subc (code f155) [1,1,1,1,1,1,1,1]) (E155_c7 C155_c7):=jz q2o xt K155 N155_c7 F155_c7 C190 C191 C155_l0 kok155 (And.intro k155_l0 trivial)
def N155_c8(f155_c7:T155_c7):Ann:=(.seq .nil (.cut .nil (E155_c7 f155_c7)))
def F155_c8(f190:T190)(f191:T191)(f155_c7:T155_c7):T155_c8:=λ(x0,x1,x2,x3,x4,_)=>bif x1==10 then(f155_c7 (x0,x1,x2,x3,x4,1844674407370955162,())).bind λv=>Sum.elim (λv=>some (Sum.inl (v.1,v.2.1,()))) (λv=>some (Sum.inr (v.1,()))) v else bif x1==16 then(f155_c7 (x0,x1,x2,x3,x4,1152921504606846976,())).bind λv=>Sum.elim (λv=>some (Sum.inl (v.1,v.2.1,()))) (λv=>some (Sum.inr (v.1,()))) v else bif IntKind.u64.wrap x1 != 0 then(f155_c7 (x0,x1,x2,x3,x4,IntKind.u64.wrap (IntKind.u64.wrap (Int.tdiv 18446744073709551615 (IntKind.u64.wrap x1))+1),())).bind λv=>Sum.elim (λv=>some (Sum.inl (v.1,v.2.1,()))) (λv=>some (Sum.inr (v.1,()))) v else none
def C155_c8:T155_c8:=F155_c8 C190 C191 C155_c7
theorem k155_c8:ql 0 (subc (code f155) [1,1,1,1,1,1]) (E155_c8 C155_c8):=jz q2p xt K155 N155_c8 F155_c8 C190 C191 C155_c7 kok155 (And.intro k155_c7 trivial)
def N155(f155_c3:T155_c3)(f155_c8:T155_c8):Ann:=(.seq .nil (.seq .nil (.seq .nil (.seq .nil (.seq (.blk (.cut .nil (E155_c3 f155_c3))) (.cut .nil (E155_c8 f155_c8)))))))
def F155(f190:T190)(f191:T191)(f155_c3:T155_c3)(f155_c8:T155_c8):T155:=λ(x0,x1,x2,_)=>bif x0==[]then some (Sum.inl (0,2,()))else bif decide (2<=x1)then(f155_c3 (x0,x1,x2,x1==0,x0,decide (x1<=36),())).bind λv=>Sum.elim (λv=>bif v.2.2.1==0 then(f155_c8 (v.1,v.2.1,64,v.2.2.2.1,v.2.2.2.2.1,())).bind λv=>Sum.elim (λv=>some (Sum.inl (v.1,v.2.1,()))) (λv=>some (Sum.inr (v.1,()))) v else bif decide (v.2.2.1<0)then some (Sum.inl (0,4,()))else bif decide (v.2.2.1>64)then some (Sum.inl (0,4,()))else(f155_c8 (v.1,v.2.1,v.2.2.1,v.2.2.2.1,v.2.2.2.2.1,())).bind λv=>Sum.elim (λv=>some (Sum.inl (v.1,v.2.1,()))) (λv=>some (Sum.inr (v.1,()))) v) (λv=>some (Sum.inl (v.1,v.2.1,()))) v else(f155_c3 (x0,x1,x2,x1==0,x0,false,())).bind λv=>Sum.elim (λv=>bif v.2.2.1==0 then(f155_c8 (v.1,v.2.1,64,v.2.2.2.1,v.2.2.2.2.1,())).bind λv=>Sum.elim (λv=>some (Sum.inl (v.1,v.2.1,()))) (λv=>some (Sum.inr (v.1,()))) v else bif decide (v.2.2.1<0)then some (Sum.inl (0,4,()))else bif decide (v.2.2.1>64)then some (Sum.inl (0,4,()))else(f155_c8 (v.1,v.2.1,v.2.2.1,v.2.2.2.1,v.2.2.2.2.1,())).bind λv=>Sum.elim (λv=>some (Sum.inl (v.1,v.2.1,()))) (λv=>some (Sum.inr (v.1,()))) v) (λv=>some (Sum.inl (v.1,v.2.1,()))) v
theorem h155(f190:T190)(f191:T191)(f155_c3:T155_c3)(f155_c8:T155_c8):qp (K155 f190 f191) 0 f155 (N155 f155_c3 f155_c8) yx q6h (F155 f190 f191 f155_c3 f155_c8):=λv=>by kernel_rfl
def C155:T155:=F155 C190 C191 C155_c3 C155_c8
theorem ok155:FO 155 (E155 C155) :=
 qo kok155 func155 (And.intro k155_c3 (And.intro k155_c8 trivial)) (h155 C190 C191 C155_c3 C155_c8)
abbrev T119:=qa×Int×Int×Unit->Option ((Int×Unit)⊕(Int×Unit))
def E119(f:T119):FEnt:=⟨yx,q6l,f⟩
def K119(f155:T155)(f156:T156):=lk [(155,E155 f155),(156,E156 f156)]
def F119(f155:T155)(f156:T156):T119:=λ(x0,x1,x2,_)=>(f155 (x0,x1,x2,())).bind λv=>Sum.elim (λv=>(f156 ([80,97,114,115,101,85,105,110,116],x0,x1,x2,v.2.1,())).bind λv1=>some (Sum.inl (v.1,()))) (λv=>some (Sum.inr (v.1,()))) v
def C119:T119:=F119 C155 C156
theorem ok119:FO 119 (E119 C119):=vg yx q6l K119 F119 C155 C156 (kc ok155 (kc ok156 kn)) func119
abbrev T87:=qa×Unit->Option (Int×Unit)
def E87(f:T87):FEnt:=⟨qq,qf,f⟩
def K87(f119:T119)(f98:T98):=lk [(119,E119 f119),(98,E98 f98)]
def F87(f119:T119)(f98:T98):T87:=λ(x0,_)=>(f98 (x0,[32],())).bind λv=>(f119 (v.2.1,10,31,())).bind λv1=>Sum.elim (λv=>some (0,())) (λv2=>bif decide ((↑(List.length v.2.1):Int)>9)then some (0,())else some (IntKind.i64.wrap v2.1,())) v1
def C87:T87:=F87 C119 C98
theorem ok87:FO 87 (E87 C87):=vg qq qf K87 F87 C119 C98 (kc ok119 (kc ok98 kn)) func87
abbrev T59:=Int×List (qa)×Unit->Option (Bool×Bool×Int×Unit)
def E59(f:T59):FEnt:=⟨yu,q6m,f⟩
def K59(f34:T34)(f84:T84)(f85:T85)(f86:T86)(f87:T87):=lk [(34,E34 f34),(84,E84 f84),(85,E85 f85),(86,E86 f86),(87,E87 f87)]
def F59(f34:T34)(f84:T84)(f85:T85)(f86:T86)(f87:T87):T59:=λ(x0,x1,_)=>(f34 (x0,())).bind λv=>bif v.1 != 2 then some (false,false,0,())else(f84 (x0,x1,())).bind λv=>(f85 (v.1,[115,109,116,112,117,116,102,56],())).bind λv1=>(f85 (v.1,[56,98,105,116,109,105,109,101],())).bind λv2=>(f86 (v.1,[115,105,122,101],())).bind λv=>bif decide (v.1>=0)then bif decide (0<=IntKind.i64.wrap (v.1+1))&&decide (IntKind.i64.wrap (v.1+1)<(↑x1.length:Int))then(f87 (x1.getD (IntKind.i64.wrap (v.1+1)).toNat [],())).bind λv=>some (v1.1,v2.1,v.1,())else none else some (v1.1,v2.1,0,())
theorem h59(f34:T34)(f84:T84)(f85:T85)(f86:T86)(f87:T87):qp (K59 f34 f84 f85 f86 f87) 0 f59 .nil yu q6m (F59 f34 f84 f85 f86 f87):=λv=>by kernel_rfl
def C59:T59:=F59 C34 C84 C85 C86 C87
theorem ok59:FO 59 (E59 C59) :=
 q0 (kc ok34 (kc ok84 (kc ok85 (kc ok86 (kc ok87 kn))))) func59 (h59 C34 C84 C85 C86 C87)
abbrev T90:=Int×Unit->Option (Int×Bool×qa×qa×Bool×qa×qa×Bool×Bool×Int×Unit)
def E90(f:T90):FEnt:=⟨za,xu,f⟩
def F90:T90:=λ(x0,_)=>some (2,false,[],[],false,[],[],false,false,x0,())
def C90:T90:=F90
theorem ok90:FO 90 (E90 C90):=zd za xu qu F90 kn func90
abbrev T23:=Bool×Bool×Int×Bool×Unit->Option (Bool×Unit)
def E23(f:T23):FEnt:=⟨q2q,qe,f⟩
def F23:T23:=λ(x0,x1,x2,x3,_)=>bif x0 then some (true,())else bif x1 then some (x3,())else some (false,())
def C23:T23:=F23
theorem ok23:FO 23 (E23 C23):=zd q2q qe qu F23 kn func23
abbrev T121:=Bool×qa×qa×Unit->Option (Bool×Unit)
def E121(f:T121):FEnt:=⟨jy,qe,f⟩
def K121(f22:T22)(f76:T76):=lk [(22,E22 f22),(76,E76 f76)]
def F121(f22:T22)(f76:T76):T121:=λ(x0,x1,x2,_)=>(f22 (x1,())).bind λv=>bif decide (v.1>=0)then some (true,())else(f76 (x2,[91],())).bind λv=>bif v.1 then(f22 (x2,())).bind λv=>some (decide (v.1>=0),())else some (false,())
def C121:T121:=F121 C22 C76
theorem ok121:FO 121 (E121 C121):=vg jy qe K121 F121 C22 C76 (kc ok22 (kc ok76 kn)) func121
abbrev T91:=Bool×qa×qa×Bool×qa×qa×Bool×Bool×Int×Unit->Option (Bool×Unit)
def E91(f:T91):FEnt:=⟨q2r,qe,f⟩
def K91(f121:T121):=lk [(121,E121 f121)]
def F91(f121:T121):T91:=λ(x0,x1,x2,x3,x4,x5,x6,x7,x8,_)=>bif x6 then some (true,())else(f121 (x0,x1,x2,())).bind λv=>bif v.1 then some (true,())else(f121 (x3,x4,x5,())).bind λv=>some (v.1,())
def C91:T91:=F91 C121
theorem ok91:FO 91 (E91 C91):=qz q2r qe K91 F91 C121 (kc ok121 kn) func91
abbrev T92:=Bool×qa×qa×Unit->Option (Bool×Unit)
def E92(f:T92):FEnt:=⟨jy,qe,f⟩
def K92(f22:T22):=lk [(22,E22 f22)]
def F92(f22:T22):T92:=λ(x0,x1,x2,_)=>bif decide (x1.length+x2.length<=9223372036854775807)then(f22 (x1++x2,())).bind λv=>some (decide (v.1>=0),())else none
def C92:T92:=F92 C22
theorem ok92:FO 92 (E92 C92):=qz jy qe K92 F92 C22 (kc ok22 kn) func92
abbrev T50:=Bool×qa×qa×Unit->Option (Bool×Unit)
def E50(f:T50):FEnt:=⟨jy,qe,f⟩
def K50(f69:T69):=lk [(69,E69 f69)]
def F50(f69:T69):T50:=λ(x0,x1,x2,_)=>bif !x0 then bif x2==[]then(f69 (x1,())).bind λv=>some (v.1==[112,111,115,116,109,97,115,116,101,114],())else some (false,())else some (false,())
def C50:T50:=F50 C69
theorem ok50:FO 50 (E50 C50):=qz jy qe K50 F50 C69 (kc ok69 kn) func50
abbrev T72:=qa×Unit->Option (Bool×Unit)
def E72(f:T72):FEnt:=⟨qq,qe,f⟩
def K72(f76:T76):=lk [(76,E76 f76)]
def F72(f76:T76):T72:=λ(x0,_)=>(f76 (x0,[91],())).bind λv=>some (v.1,())
def C72:T72:=F72 C76
theorem ok72:FO 72 (E72 C72):=qz qq qe K72 F72 C76 (kc ok76 kn) func72
abbrev T74:=qb×qc×qd×qa×Unit->Option (qa×Int×Unit)
def E74(f:T74):FEnt:=⟨jg,jr,f⟩
def K74(f111:T111):=lk [(111,E111 f111)]
def F74(f111:T111):T74:=λ(x0,x1,x2,x3,_)=>(f111 (x0,x1,x2,x3,())).bind λv=>some (v.1,v.2.2.1,())
def C74:T74:=F74 C111
theorem ok74:FO 74 (E74 C74):=qz jg jr K74 F74 C111 (kc ok111 kn) func74
abbrev T157:=qb×qc×qd×qa×Unit->Option (qa×Int×Unit)
def E157(f:T157):FEnt:=⟨jg,jr,f⟩
def K157(f22:T22)(f74:T74):=lk [(22,E22 f22),(74,E74 f74)]
def F157(f22:T22)(f74:T74):T157:=λ(x0,x1,x2,x3,_)=>(f74 (x0,x1,x2,x3,())).bind λv=>bif v.2.1==0 then(f22 (x3,())).bind λv1=>bif decide (v1.1<0)then some (x3,0,())else some (v.1,v.2.1,())else some (v.1,v.2.1,())
def C157:T157:=F157 C22 C74
theorem ok157:FO 157 (E157 C157):=vg jg jr K157 F157 C22 C74 (kc ok22 (kc ok74 kn)) func157
abbrev T120_c0:=Bool×qb×qc×qd×qa×qa×qa×qa×Unit->Option ((Int×qa×qa×Unit)⊕(qb×qc×qd×qa×qa×qa×qa×Unit))
def E120_c0(f:T120_c0):LEnt:=⟨q2t,q6o,f⟩
abbrev T120:=qb×qc×qd×qa×qa×Unit->Option (qa×qa×Int×Unit)
def E120(f:T120):FEnt:=⟨q2s,q6n,f⟩
def K120(f157:T157)(f22:T22)(f72:T72):=lk [(157,E157 f157),(22,E22 f22),(72,E72 f72)]
theorem kok120:KOk prog (K120 C157 C22 C72):=(kc ok157 (kc ok22 (kc ok72 kn)))
def F120_c0(f157:T157)(f22:T22)(f72:T72):T120_c0:=λ(x0,x1,x2,x3,x4,x5,x6,x7,_)=>bif x0 then some (Sum.inl (8,[],[],()))else(f72 (x5,())).bind λv=>bif v.1 then some (Sum.inl (0,x4,x5,()))else some (Sum.inr (x1,x2,x3,x4,x5,x6,x7,()))
theorem h120_c0(f157:T157)(f22:T22)(f72:T72):jd (K120 f157 f22 f72) 0 (subc (code f120) [1,0,0,1]) .nil q2t q6o (F120_c0 f157 f22 f72):=λv=>by kernel_rfl
def C120_c0:T120_c0:=F120_c0 C157 C22 C72
theorem k120_c0:ql 0 (subc (code f120) [1,0,0,1]) (E120_c0 C120_c0) :=
 yc kok120 (h120_c0 C157 C22 C72)
def N120(f120_c0:T120_c0):Ann:=(.seq .nil (.seq (.blk (.cut .nil (E120_c0 f120_c0))) .nil))
def F120(f157:T157)(f22:T22)(f72:T72)(f120_c0:T120_c0):T120:=λ(x0,x1,x2,x3,x4,_)=>(f22 (x3,())).bind λv=>bif decide (v.1>=0)then(f120_c0 (true,x0,x1,x2,x3,x4,[],[],())).bind λv=>Sum.elim (λv=>some (v.2.1,v.2.2.1,v.1,())) (λv=>(f157 (v.1,v.2.1,v.2.2.1,v.2.2.2.2.1,())).bind λv1=>bif v1.2.1 != 0 then some ([],[],v1.2.1,())else some (v.2.2.2.1,v1.1,0,())) v else(f72 (x4,())).bind λv=>bif v.1 then(f22 (x4,())).bind λv=>(f120_c0 (decide (v.1>=0),x0,x1,x2,x3,x4,[],[],())).bind λv=>Sum.elim (λv=>some (v.2.1,v.2.2.1,v.1,())) (λv=>(f157 (v.1,v.2.1,v.2.2.1,v.2.2.2.2.1,())).bind λv1=>bif v1.2.1 != 0 then some ([],[],v1.2.1,())else some (v.2.2.2.1,v1.1,0,())) v else(f120_c0 (false,x0,x1,x2,x3,x4,[],[],())).bind λv=>Sum.elim (λv=>some (v.2.1,v.2.2.1,v.1,())) (λv=>(f157 (v.1,v.2.1,v.2.2.1,v.2.2.2.2.1,())).bind λv1=>bif v1.2.1 != 0 then some ([],[],v1.2.1,())else some (v.2.2.2.1,v1.1,0,())) v
def C120:T120:=F120 C157 C22 C72 C120_c0
theorem ok120:FO 120 (E120 C120):=yf q2s q6n K120 N120 F120 C157 C22 C72 C120_c0 kok120 func120 (And.intro k120_c0 trivial)
abbrev T89:=qb×qc×qd×Bool×qa×qa×Unit->Option (Bool×qa×qa×Int×Unit)
def E89(f:T89):FEnt:=⟨q2u,q6p,f⟩
def K89(f120:T120)(f50:T50):=lk [(120,E120 f120),(50,E50 f50)]
def F89(f120:T120)(f50:T50):T89:=λ(x0,x1,x2,x3,x4,x5,_)=>bif x3 then some (x3,x4,x5,0,())else(f50 (x3,x4,x5,())).bind λv=>bif v.1 then some (x3,x4,x5,0,())else(f120 (x0,x1,x2,x4,x5,())).bind λv=>bif v.2.2.1 != 0 then some (false,[],[],v.2.2.1,())else some (false,v.1,v.2.1,0,())
def C89:T89:=F89 C120 C50
theorem ok89:FO 89 (E89 C89):=vg q2u q6p K89 F89 C120 C50 (kc ok120 (kc ok50 kn)) func89
abbrev T88:=qb×qc×qd×Bool×qa×qa×Bool×qa×qa×Bool×Bool×Int×Int×Bool×qa×qa×Bool×qa×qa×Bool×Bool×Int×Unit->Option (Bool×qb×qc×qd×Bool×qa×qa×Bool×qa×qa×Bool×Bool×Int×Int×Bool×qa×qa×Bool×qa×qa×Bool×Bool×Int×Unit)
def E88(f:T88):FEnt:=⟨q2v,q6q,f⟩
def K88(f89:T89):=lk [(89,E89 f89)]
def F88(f89:T89):T88:=λ(x0,x1,x2,x3,x4,x5,x6,x7,x8,x9,x10,x11,x12,x13,x14,x15,x16,x17,x18,x19,x20,x21,_)=>(f89 (x0,x1,x2,x3,x4,x5,())).bind λv=>(f89 (x0,x1,x2,x6,x7,x8,())).bind λv1=>bif v.2.2.2.1==0 then some (v1.2.2.2.1==0,x0,x1,x2,x3,x4,x5,x6,x7,x8,x9,x10,x11,x12,v.1,v.2.1,v.2.2.1,v1.1,v1.2.1,v1.2.2.1,x19,x20,x21,())else some (false,x0,x1,x2,x3,x4,x5,x6,x7,x8,x9,x10,x11,x12,v.1,v.2.1,v.2.2.1,v1.1,v1.2.1,v1.2.2.1,x19,x20,x21,())
theorem h88(f89:T89):qp (K88 f89) 3 f88 .nil q2v q6q (F88 f89):=λv=>by kernel_rfl
def C88:T88:=F88 C89
theorem ok88:FO 88 (E88 C88) :=
 q0 (kc ok89 kn) func88 (h88 C89)
abbrev T60_c0:=Bool×Bool×qa×qa×Bool×qa×qa×Bool×Bool×Int×Int×Bool×qa×qa×Bool×qa×qa×Bool×Bool×Int×Int×Bool×qa×qa×Bool×qa×qa×Bool×Bool×Int×Unit->Option ((Int×Bool×qa×qa×Bool×qa×qa×Bool×Bool×Int×Unit)⊕(Int×Bool×qa×qa×Bool×qa×qa×Bool×Bool×Int×Int×Bool×qa×qa×Bool×qa×qa×Bool×Bool×Int×Unit))
def E60_c0(f:T60_c0):LEnt:=⟨q2x,zr,f⟩
abbrev T60_c1:=Bool×Bool×Bool×Int×Bool×qa×qa×Bool×qa×qa×Bool×Bool×Int×Int×Bool×qa×qa×Bool×qa×qa×Bool×Bool×Int×Int×Bool×qa×qa×Bool×qa×qa×Bool×Bool×Int×qb×qc×qd×Unit->Option ((Int×Bool×qa×qa×Bool×qa×qa×Bool×Bool×Int×Unit)⊕(Int×Bool×qa×qa×Bool×qa×qa×Bool×Bool×Int×Int×Bool×qa×qa×Bool×qa×qa×Bool×Bool×Int×Unit))
def E60_c1(f:T60_c1):LEnt:=⟨q2y,zr,f⟩
abbrev T60_c2:=Bool×Bool×Bool×Int×Bool×qa×qa×Bool×qa×qa×Bool×Bool×Int×Int×Bool×qa×qa×Bool×qa×qa×Bool×Bool×Int×Int×Bool×qa×qa×Bool×qa×qa×Bool×Bool×Int×qb×qc×qd×Unit->Option ((Int×Bool×qa×qa×Bool×qa×qa×Bool×Bool×Int×Unit)⊕(Int×Bool×qa×qa×Bool×qa×qa×Bool×Bool×Int×Int×Bool×qa×qa×Bool×qa×qa×Bool×Bool×Int×Unit))
def E60_c2(f:T60_c2):LEnt:=⟨q2z,zr,f⟩
abbrev T60_c3:=qb×qc×qd×Bool×Bool×Int×Bool×qa×qa×Bool×qa×qa×Bool×Bool×Int×Int×Bool×qa×qa×Bool×qa×qa×Bool×Bool×Int×Int×Bool×qa×qa×Bool×qa×qa×Bool×Bool×Int×Unit->Option (Int×Bool×qa×qa×Bool×qa×qa×Bool×Bool×Int×Unit)
def E60_c3(f:T60_c3):LEnt:=⟨q3a,q6r,f⟩
abbrev T60:=qb×qc×qd×Bool×Bool×Int×Bool×qa×qa×Bool×qa×qa×Bool×Bool×Int×Unit->Option (Int×Bool×qa×qa×Bool×qa×qa×Bool×Bool×Int×Unit)
def E60(f:T60):FEnt:=⟨q2w,xu,f⟩
def K60(f23:T23)(f88:T88)(f90:T90)(f91:T91)(f92:T92):=lk [(23,E23 f23),(88,E88 f88),(90,E90 f90),(91,E91 f91),(92,E92 f92)]
theorem kok60:KOk prog (K60 C23 C88 C90 C91 C92):=(kc ok23 (kc ok88 (kc ok90 (kc ok91 (kc ok92 kn)))))
def F60_c0(f23:T23)(f88:T88)(f90:T90)(f91:T91)(f92:T92):T60_c0:=λ(x0,x1,x2,x3,x4,x5,x6,x7,x8,x9,x10,x11,x12,x13,x14,x15,x16,x17,x18,x19,x20,x21,x22,x23,x24,x25,x26,x27,x28,x29,_)=>bif x0 then(f90 (567,())).bind λv=>some (Sum.inl (v.1,v.2.1,v.2.2.1,v.2.2.2.1,v.2.2.2.2.1,v.2.2.2.2.2.1,v.2.2.2.2.2.2.1,v.2.2.2.2.2.2.2.1,v.2.2.2.2.2.2.2.2.1,v.2.2.2.2.2.2.2.2.2.1,()))else bif !(x21==x1&&(x22==x2&&(x23==x3&&true)&&true))then some (Sum.inr (x10,x11,x12,x13,x14,x15,x16,x17,x18,x19,1,x21,x22,x23,x24,x25,x26,x27,x28,x29,()))else bif !(x24==x4&&(x25==x5&&(x26==x6&&true)&&true))then some (Sum.inr (x10,x11,x12,x13,x14,x15,x16,x17,x18,x19,1,x21,x22,x23,x24,x25,x26,x27,x28,x29,()))else some (Sum.inr (x10,x11,x12,x13,x14,x15,x16,x17,x18,x19,x20,x21,x22,x23,x24,x25,x26,x27,x28,x29,()))
theorem h60_c0(f23:T23)(f88:T88)(f90:T90)(f91:T91)(f92:T92):jd (K60 f23 f88 f90 f91 f92) 0 (subc (code f60) [1,1,1,0,0,1,1,1,1,1,1,1]) .nil q2x zr (F60_c0 f23 f88 f90 f91 f92):=λv=>by kernel_rfl
def C60_c0:T60_c0:=F60_c0 C23 C88 C90 C91 C92
theorem k60_c0:ql 0 (subc (code f60) [1,1,1,0,0,1,1,1,1,1,1,1]) (E60_c0 C60_c0) :=
 yc kok60 (h60_c0 C23 C88 C90 C91 C92)
def N60_c1(f60_c0:T60_c0):Ann:=(.cond .nil (.seq .nil (.cond .nil (.cut .nil (E60_c0 f60_c0)))))
def F60_c1(f23:T23)(f88:T88)(f90:T90)(f91:T91)(f92:T92)(f60_c0:T60_c0):T60_c1:=λ(x0,x1,x2,x3,x4,x5,x6,x7,x8,x9,x10,x11,x12,x13,x14,x15,x16,x17,x18,x19,x20,x21,x22,x23,x24,x25,x26,x27,x28,x29,x30,x31,x32,x33,x34,x35,_)=>bif x0 then(f90 (563,())).bind λv=>some (Sum.inl (v.1,v.2.1,v.2.2.1,v.2.2.2.1,v.2.2.2.2.1,v.2.2.2.2.2.1,v.2.2.2.2.2.2.1,v.2.2.2.2.2.2.2.1,v.2.2.2.2.2.2.2.2.1,v.2.2.2.2.2.2.2.2.2.1,()))else bif x1 then(f91 (x4,x5,x6,x7,x8,x9,x10,x11,x12,())).bind λv=>bif v.1 then some (Sum.inl (x23,x24,x25,x26,x27,x28,x29,true,x31,x32,()))else(f92 (x4,x5,x6,())).bind λv=>bif v.1 then some (Sum.inl (x23,x24,x25,x26,x27,x28,x29,true,x31,x32,()))else(f92 (x7,x8,x9,())).bind λv=>some (Sum.inl (x23,x24,x25,x26,x27,x28,x29,v.1,x31,x32,()))else(f91 (x4,x5,x6,x7,x8,x9,x10,x11,x12,())).bind λv=>bif v.1 then(f60_c0 (true,x4,x5,x6,x7,x8,x9,x10,x11,x12,x13,x14,x15,x16,x17,x18,x19,x20,x21,x22,x23,x24,x25,x26,x27,x28,x29,x30,x31,x32,())).bind λv=>Sum.elim (λv=>some (Sum.inl (v.1,v.2.1,v.2.2.1,v.2.2.2.1,v.2.2.2.2.1,v.2.2.2.2.2.1,v.2.2.2.2.2.2.1,v.2.2.2.2.2.2.2.1,v.2.2.2.2.2.2.2.2.1,v.2.2.2.2.2.2.2.2.2.1,()))) (λv=>some (Sum.inr (v.1,v.2.1,v.2.2.1,v.2.2.2.1,v.2.2.2.2.1,v.2.2.2.2.2.1,v.2.2.2.2.2.2.1,v.2.2.2.2.2.2.2.1,v.2.2.2.2.2.2.2.2.1,v.2.2.2.2.2.2.2.2.2.1,v.2.2.2.2.2.2.2.2.2.2.1,v.2.2.2.2.2.2.2.2.2.2.2.1,v.2.2.2.2.2.2.2.2.2.2.2.2.1,v.2.2.2.2.2.2.2.2.2.2.2.2.2.1,v.2.2.2.2.2.2.2.2.2.2.2.2.2.2.1,v.2.2.2.2.2.2.2.2.2.2.2.2.2.2.2.1,v.2.2.2.2.2.2.2.2.2.2.2.2.2.2.2.2.1,v.2.2.2.2.2.2.2.2.2.2.2.2.2.2.2.2.2.1,v.2.2.2.2.2.2.2.2.2.2.2.2.2.2.2.2.2.2.1,v.2.2.2.2.2.2.2.2.2.2.2.2.2.2.2.2.2.2.2.1,()))) v else(f88 (x33,x34,x35,x4,x5,x6,x7,x8,x9,x10,x11,x12,x23,x24,x25,x26,x27,x28,x29,x30,x31,x32,())).bind λv=>(f60_c0 (!v.1,v.2.2.2.2.1,v.2.2.2.2.2.1,v.2.2.2.2.2.2.1,v.2.2.2.2.2.2.2.1,v.2.2.2.2.2.2.2.2.1,v.2.2.2.2.2.2.2.2.2.1,v.2.2.2.2.2.2.2.2.2.2.1,v.2.2.2.2.2.2.2.2.2.2.2.1,v.2.2.2.2.2.2.2.2.2.2.2.2.1,x13,x14,x15,x16,x17,x18,x19,x20,x21,x22,v.2.2.2.2.2.2.2.2.2.2.2.2.2.1,v.2.2.2.2.2.2.2.2.2.2.2.2.2.2.1,v.2.2.2.2.2.2.2.2.2.2.2.2.2.2.2.1,v.2.2.2.2.2.2.2.2.2.2.2.2.2.2.2.2.1,v.2.2.2.2.2.2.2.2.2.2.2.2.2.2.2.2.2.1,v.2.2.2.2.2.2.2.2.2.2.2.2.2.2.2.2.2.2.1,v.2.2.2.2.2.2.2.2.2.2.2.2.2.2.2.2.2.2.2.1,v.2.2.2.2.2.2.2.2.2.2.2.2.2.2.2.2.2.2.2.2.1,v.2.2.2.2.2.2.2.2.2.2.2.2.2.2.2.2.2.2.2.2.2.1,v.2.2.2.2.2.2.2.2.2.2.2.2.2.2.2.2.2.2.2.2.2.2.1,())).bind λv=>Sum.elim (λv=>some (Sum.inl (v.1,v.2.1,v.2.2.1,v.2.2.2.1,v.2.2.2.2.1,v.2.2.2.2.2.1,v.2.2.2.2.2.2.1,v.2.2.2.2.2.2.2.1,v.2.2.2.2.2.2.2.2.1,v.2.2.2.2.2.2.2.2.2.1,()))) (λv=>some (Sum.inr (v.1,v.2.1,v.2.2.1,v.2.2.2.1,v.2.2.2.2.1,v.2.2.2.2.2.1,v.2.2.2.2.2.2.1,v.2.2.2.2.2.2.2.1,v.2.2.2.2.2.2.2.2.1,v.2.2.2.2.2.2.2.2.2.1,v.2.2.2.2.2.2.2.2.2.2.1,v.2.2.2.2.2.2.2.2.2.2.2.1,v.2.2.2.2.2.2.2.2.2.2.2.2.1,v.2.2.2.2.2.2.2.2.2.2.2.2.2.1,v.2.2.2.2.2.2.2.2.2.2.2.2.2.2.1,v.2.2.2.2.2.2.2.2.2.2.2.2.2.2.2.1,v.2.2.2.2.2.2.2.2.2.2.2.2.2.2.2.2.1,v.2.2.2.2.2.2.2.2.2.2.2.2.2.2.2.2.2.1,v.2.2.2.2.2.2.2.2.2.2.2.2.2.2.2.2.2.2.1,v.2.2.2.2.2.2.2.2.2.2.2.2.2.2.2.2.2.2.2.1,()))) v
theorem h60_c1(f23:T23)(f88:T88)(f90:T90)(f91:T91)(f92:T92)(f60_c0:T60_c0):jd (K60 f23 f88 f90 f91 f92) 0 (subc (code f60) [1,1,1,0,0,1,1,1]) (N60_c1 f60_c0) q2y zr (F60_c1 f23 f88 f90 f91 f92 f60_c0):=λv=>by kernel_rfl
def C60_c1:T60_c1:=F60_c1 C23 C88 C90 C91 C92 C60_c0
theorem k60_c1:ql 0 (subc (code f60) [1,1,1,0,0,1,1,1]) (E60_c1 C60_c1) :=
 zc kok60 (And.intro k60_c0 trivial) (h60_c1 C23 C88 C90 C91 C92 C60_c0)
def N60_c2(f60_c1:T60_c1):Ann:=(.cond .nil (.cut .nil (E60_c1 f60_c1)))
def F60_c2(f23:T23)(f88:T88)(f90:T90)(f91:T91)(f92:T92)(f60_c1:T60_c1):T60_c2:=λ(x0,x1,x2,x3,x4,x5,x6,x7,x8,x9,x10,x11,x12,x13,x14,x15,x16,x17,x18,x19,x20,x21,x22,x23,x24,x25,x26,x27,x28,x29,x30,x31,x32,x33,x34,x35,_)=>bif x0 then(f90 (534,())).bind λv=>some (Sum.inl (v.1,v.2.1,v.2.2.1,v.2.2.2.1,v.2.2.2.2.1,v.2.2.2.2.2.1,v.2.2.2.2.2.2.1,v.2.2.2.2.2.2.2.1,v.2.2.2.2.2.2.2.2.1,v.2.2.2.2.2.2.2.2.2.1,()))else bif x11 then(f23 (x1,x2,x3,true,())).bind λv=>(f60_c1 (!v.1,x1,x2,x3,x4,x5,x6,x7,x8,x9,x10,x11,x12,x13,x14,x15,x16,x17,x18,x19,x20,x21,x22,x23,x24,x25,x26,x27,x28,x29,x30,x31,x32,x33,x34,x35,())).bind λv=>Sum.elim (λv=>some (Sum.inl (v.1,v.2.1,v.2.2.1,v.2.2.2.1,v.2.2.2.2.1,v.2.2.2.2.2.1,v.2.2.2.2.2.2.1,v.2.2.2.2.2.2.2.1,v.2.2.2.2.2.2.2.2.1,v.2.2.2.2.2.2.2.2.2.1,()))) (λv=>some (Sum.inr (v.1,v.2.1,v.2.2.1,v.2.2.2.1,v.2.2.2.2.1,v.2.2.2.2.2.1,v.2.2.2.2.2.2.1,v.2.2.2.2.2.2.2.1,v.2.2.2.2.2.2.2.2.1,v.2.2.2.2.2.2.2.2.2.1,v.2.2.2.2.2.2.2.2.2.2.1,v.2.2.2.2.2.2.2.2.2.2.2.1,v.2.2.2.2.2.2.2.2.2.2.2.2.1,v.2.2.2.2.2.2.2.2.2.2.2.2.2.1,v.2.2.2.2.2.2.2.2.2.2.2.2.2.2.1,v.2.2.2.2.2.2.2.2.2.2.2.2.2.2.2.1,v.2.2.2.2.2.2.2.2.2.2.2.2.2.2.2.2.1,v.2.2.2.2.2.2.2.2.2.2.2.2.2.2.2.2.2.1,v.2.2.2.2.2.2.2.2.2.2.2.2.2.2.2.2.2.2.1,v.2.2.2.2.2.2.2.2.2.2.2.2.2.2.2.2.2.2.2.1,()))) v else(f60_c1 (false,x1,x2,x3,x4,x5,x6,x7,x8,x9,x10,x11,x12,x13,x14,x15,x16,x17,x18,x19,x20,x21,x22,x23,x24,x25,x26,x27,x28,x29,x30,x31,x32,x33,x34,x35,())).bind λv=>Sum.elim (λv=>some (Sum.inl (v.1,v.2.1,v.2.2.1,v.2.2.2.1,v.2.2.2.2.1,v.2.2.2.2.2.1,v.2.2.2.2.2.2.1,v.2.2.2.2.2.2.2.1,v.2.2.2.2.2.2.2.2.1,v.2.2.2.2.2.2.2.2.2.1,()))) (λv=>some (Sum.inr (v.1,v.2.1,v.2.2.1,v.2.2.2.1,v.2.2.2.2.1,v.2.2.2.2.2.1,v.2.2.2.2.2.2.1,v.2.2.2.2.2.2.2.1,v.2.2.2.2.2.2.2.2.1,v.2.2.2.2.2.2.2.2.2.1,v.2.2.2.2.2.2.2.2.2.2.1,v.2.2.2.2.2.2.2.2.2.2.2.1,v.2.2.2.2.2.2.2.2.2.2.2.2.1,v.2.2.2.2.2.2.2.2.2.2.2.2.2.1,v.2.2.2.2.2.2.2.2.2.2.2.2.2.2.1,v.2.2.2.2.2.2.2.2.2.2.2.2.2.2.2.1,v.2.2.2.2.2.2.2.2.2.2.2.2.2.2.2.2.1,v.2.2.2.2.2.2.2.2.2.2.2.2.2.2.2.2.2.1,v.2.2.2.2.2.2.2.2.2.2.2.2.2.2.2.2.2.2.1,v.2.2.2.2.2.2.2.2.2.2.2.2.2.2.2.2.2.2.2.1,()))) v
theorem h60_c2(f23:T23)(f88:T88)(f90:T90)(f91:T91)(f92:T92)(f60_c1:T60_c1):jd (K60 f23 f88 f90 f91 f92) 0 (subc (code f60) [1,1,1,0,0,1]) (N60_c2 f60_c1) q2z zr (F60_c2 f23 f88 f90 f91 f92 f60_c1):=λv=>by kernel_rfl
def C60_c2:T60_c2:=F60_c2 C23 C88 C90 C91 C92 C60_c1
theorem k60_c2:ql 0 (subc (code f60) [1,1,1,0,0,1]) (E60_c2 C60_c2) :=
 zc kok60 (And.intro k60_c1 trivial) (h60_c2 C23 C88 C90 C91 C92 C60_c1)
def N60_c3(f60_c2:T60_c2):Ann:=(.seq .nil (.seq (.blk (.cut .nil (E60_c2 f60_c2))) .nil))
def F60_c3(f23:T23)(f88:T88)(f90:T90)(f91:T91)(f92:T92)(f60_c2:T60_c2):T60_c3:=λ(x0,x1,x2,x3,x4,x5,x6,x7,x8,x9,x10,x11,x12,x13,x14,x15,x16,x17,x18,x19,x20,x21,x22,x23,x24,x25,x26,x27,x28,x29,x30,x31,x32,x33,x34,_)=>bif decide (x5>0)then(f60_c2 (decide (x14>x5),x3,x4,x5,x6,x7,x8,x9,x10,x11,x12,x13,x14,x15,x16,x17,x18,x19,x20,x21,x22,x23,x24,x25,x26,x27,x28,x29,x30,x31,x32,x33,x34,x0,x1,x2,())).bind λv=>Sum.elim (λv=>some (v.1,v.2.1,v.2.2.1,v.2.2.2.1,v.2.2.2.2.1,v.2.2.2.2.2.1,v.2.2.2.2.2.2.1,v.2.2.2.2.2.2.2.1,v.2.2.2.2.2.2.2.2.1,v.2.2.2.2.2.2.2.2.2.1,())) (λv=>some (v.2.2.2.2.2.2.2.2.2.2.1,v.2.2.2.2.2.2.2.2.2.2.2.1,v.2.2.2.2.2.2.2.2.2.2.2.2.1,v.2.2.2.2.2.2.2.2.2.2.2.2.2.1,v.2.2.2.2.2.2.2.2.2.2.2.2.2.2.1,v.2.2.2.2.2.2.2.2.2.2.2.2.2.2.2.1,v.2.2.2.2.2.2.2.2.2.2.2.2.2.2.2.2.1,v.2.2.2.2.2.2.2.2.2.2.2.2.2.2.2.2.2.1,v.2.2.2.2.2.2.2.2.2.2.2.2.2.2.2.2.2.2.1,v.2.2.2.2.2.2.2.2.2.2.2.2.2.2.2.2.2.2.2.1,())) v else(f60_c2 (false,x3,x4,x5,x6,x7,x8,x9,x10,x11,x12,x13,x14,x15,x16,x17,x18,x19,x20,x21,x22,x23,x24,x25,x26,x27,x28,x29,x30,x31,x32,x33,x34,x0,x1,x2,())).bind λv=>Sum.elim (λv=>some (v.1,v.2.1,v.2.2.1,v.2.2.2.1,v.2.2.2.2.1,v.2.2.2.2.2.1,v.2.2.2.2.2.2.1,v.2.2.2.2.2.2.2.1,v.2.2.2.2.2.2.2.2.1,v.2.2.2.2.2.2.2.2.2.1,())) (λv=>some (v.2.2.2.2.2.2.2.2.2.2.1,v.2.2.2.2.2.2.2.2.2.2.2.1,v.2.2.2.2.2.2.2.2.2.2.2.2.1,v.2.2.2.2.2.2.2.2.2.2.2.2.2.1,v.2.2.2.2.2.2.2.2.2.2.2.2.2.2.1,v.2.2.2.2.2.2.2.2.2.2.2.2.2.2.2.1,v.2.2.2.2.2.2.2.2.2.2.2.2.2.2.2.2.1,v.2.2.2.2.2.2.2.2.2.2.2.2.2.2.2.2.2.1,v.2.2.2.2.2.2.2.2.2.2.2.2.2.2.2.2.2.2.1,v.2.2.2.2.2.2.2.2.2.2.2.2.2.2.2.2.2.2.2.1,())) v
theorem h60_c3(f23:T23)(f88:T88)(f90:T90)(f91:T91)(f92:T92)(f60_c2:T60_c2):jd (K60 f23 f88 f90 f91 f92) 0 (subc (code f60) [1,1]) (N60_c3 f60_c2) q3a q6r (F60_c3 f23 f88 f90 f91 f92 f60_c2):=λv=>by kernel_rfl
def C60_c3:T60_c3:=F60_c3 C23 C88 C90 C91 C92 C60_c2
theorem k60_c3:ql 0 (subc (code f60) [1,1]) (E60_c3 C60_c3) :=
 zc kok60 (And.intro k60_c2 trivial) (h60_c3 C23 C88 C90 C91 C92 C60_c2)
def N60(f60_c3:T60_c3):Ann:=(.seq .nil (.cut .nil (E60_c3 f60_c3)))
def F60(f23:T23)(f88:T88)(f90:T90)(f91:T91)(f92:T92)(f60_c3:T60_c3):T60:=λ(x0,x1,x2,x3,x4,x5,x6,x7,x8,x9,x10,x11,x12,x13,x14,_)=>bif x13 then(f60_c3 (x0,x1,x2,x3,x4,x5,x6,x7,x8,x9,x10,x11,x12,x13,x14,0,false,[],[],false,[],[],false,false,0,0,x6,x7,x8,x9,x10,x11,false,x4,0,())).bind λv=>some (v.1,v.2.1,v.2.2.1,v.2.2.2.1,v.2.2.2.2.1,v.2.2.2.2.2.1,v.2.2.2.2.2.2.1,v.2.2.2.2.2.2.2.1,v.2.2.2.2.2.2.2.2.1,v.2.2.2.2.2.2.2.2.2.1,())else(f60_c3 (x0,x1,x2,x3,x4,x5,x6,x7,x8,x9,x10,x11,x12,x13,x14,0,false,[],[],false,[],[],false,false,0,0,x6,x7,x8,x9,x10,x11,false,false,0,())).bind λv=>some (v.1,v.2.1,v.2.2.1,v.2.2.2.1,v.2.2.2.2.1,v.2.2.2.2.2.1,v.2.2.2.2.2.2.1,v.2.2.2.2.2.2.2.1,v.2.2.2.2.2.2.2.2.1,v.2.2.2.2.2.2.2.2.2.1,())
theorem h60(f23:T23)(f88:T88)(f90:T90)(f91:T91)(f92:T92)(f60_c3:T60_c3):qp (K60 f23 f88 f90 f91 f92) 0 f60 (N60 f60_c3) q2w xu (F60 f23 f88 f90 f91 f92 f60_c3):=λv=>by kernel_rfl
def C60:T60:=F60 C23 C88 C90 C91 C92 C60_c3
theorem ok60:FO 60 (E60 C60) :=
 qo kok60 func60 (And.intro k60_c3 trivial) (h60 C23 C88 C90 C91 C92 C60_c3)
abbrev T122:=Int×Unit->Option (qa×Unit)
def E122(f:T122):FEnt:=⟨za,jp,f⟩
def F122:T122:=λ(x0,_)=>bif decide (x0<0)then some ([],())else bif decide (x0>=8)then some ([],())else bif decide (x0=(↑0:Int))then some (wordsV.1,())else bif decide (x0=(↑1:Int))then some (wordsV.2.1,())else bif decide (x0=(↑2:Int))then some (wordsV.2.2.1,())else bif decide (x0=(↑3:Int))then some (wordsV.2.2.2.1,())else bif decide (x0=(↑4:Int))then some (wordsV.2.2.2.2.1,())else bif decide (x0=(↑5:Int))then some (wordsV.2.2.2.2.2.1,())else bif decide (x0=(↑6:Int))then some (wordsV.2.2.2.2.2.2.1,())else bif decide (x0=(↑7:Int))then some (wordsV.2.2.2.2.2.2.2,())else none
def C122:T122:=F122
theorem ok122:FO 122 (E122 C122):=zd za jp qu F122 kn func122
abbrev T267_l0:=Int×(qa×Int)×Unit->Option (Int×Unit)
def E267_l0(f:T267_l0):LEnt:=⟨q3b,q6s,f⟩
abbrev T267:=qa×Unit->Option (Int×Unit)
def E267(f:T267):FEnt:=⟨qq,qf,f⟩
def F267_l0:qn (Int×(qa×Int)×Unit) (Int×Unit):=λ(x0,x1,_)=>bif decide (Int.toNat x1.2<List.length x1.1)then some (Sum.inl (IntKind.i64.wrap (x0+1),(x1.1,(↑(Int.toNat x1.2+(decR x1.1 (Int.toNat x1.2)).2):Int)),()))else some (Sum.inr (x0,()))
def C267_l0:T267_l0:=loopN (F267_l0) big
theorem k267_l0:qg 0 (subc (code f267) [1,0,1,0,0]) (E267_l0 C267_l0):=zl0 q3b q6s qu F267_l0 kn
def N267(f267_l0:T267_l0):Ann:=(.seq .nil (.seq (.seq .nil (.blk (.loop (E267_l0 f267_l0)))) .nil))
def F267(f267_l0:T267_l0):T267:=λ(x0,_)=>(f267_l0 (0,(x0,(↑0:Int)),())).bind λv=>some (v.1,())
def C267:T267:=F267 C267_l0
theorem ok267:FO 267 (E267 C267):=ji qq qf qu N267 F267 C267_l0 kn func267 (And.intro k267_l0 trivial)
abbrev T161:=qa×Unit->Option (Int×Int×Unit)
def E161(f:T161):FEnt:=⟨qq,xw,f⟩
def F161:T161:=λ(x0,_)=>bif decide ((↑x0.length:Int)<1)then some (65533,0,())else bif decide (0<(↑x0.length:Int))then none else none
def C161:T161:=F161
theorem ok161:FO 161 (E161 C161):=zd qq xw qu F161 kn func161
abbrev T129_c0:=qa×Bool×Unit->Option ((Int×Int×Unit)⊕(Int×Int×Unit))
def E129_c0(f:T129_c0):LEnt:=⟨q3c,q6t,f⟩
abbrev T129:=qa×Unit->Option (Int×Int×Unit)
def E129(f:T129):FEnt:=⟨qq,xw,f⟩
def K129(f161:T161):=lk [(161,E161 f161)]
theorem kok129:KOk prog (K129 C161):=(kc ok161 kn)
def F129_c0(f161:T161):T129_c0:=λ(x0,x1,_)=>bif x1 then bif decide (0<(↑x0.length:Int))then some (Sum.inl (IntKind.i32.wrap (↑(x0.getD 0 0).toNat:Int),1,()))else none else(f161 (x0,())).bind λv=>some (Sum.inr (v.1,v.2.1,()))
theorem h129_c0(f161:T161):jd (K129 f161) 0 (subc (code f129) [1,0,1]) .nil q3c q6t (F129_c0 f161):=λv=>by kernel_rfl
def C129_c0:T129_c0:=F129_c0 C161
theorem k129_c0:ql 0 (subc (code f129) [1,0,1]) (E129_c0 C129_c0) :=
 yc kok129 (h129_c0 C161)
def N129(f129_c0:T129_c0):Ann:=(.seq .nil (.seq (.cut .nil (E129_c0 f129_c0)) .nil))
def F129(f161:T161)(f129_c0:T129_c0):T129:=λ(x0,_)=>bif !x0==[]then bif decide (0<(↑x0.length:Int))then(f129_c0 (x0,decide ((↑(x0.getD 0 0).toNat:Int)<128),())).bind λv=>Sum.elim (λv=>some (v.1,v.2.1,())) (λv=>some (v.1,v.2.1,())) v else none else(f129_c0 (x0,false,())).bind λv=>Sum.elim (λv=>some (v.1,v.2.1,())) (λv=>some (v.1,v.2.1,())) v
def C129:T129:=F129 C161 C129_c0
theorem ok129:FO 129 (E129 C129):=qx qq xw K129 N129 F129 C161 C129_c0 kok129 func129 (And.intro k129_c0 trivial)
abbrev T217_l0:=qa×Int×Int×List (qa)×Unit->Option (qa×Int×List (qa)×Unit)
def E217_l0(f:T217_l0):LEnt:=⟨q3d,q6u,f⟩
abbrev T217_c0:=qa×Int×Unit->Option (List (qa)×Unit)
def E217_c0(f:T217_c0):LEnt:=⟨q3e,q6v,f⟩
abbrev T217:=qa×Int×Unit->Option (List (qa)×Unit)
def E217(f:T217):FEnt:=⟨yt,zk,f⟩
def K217(f129:T129)(f267:T267):=lk [(129,E129 f129),(267,E267 f267)]
theorem kok217:KOk prog (K217 C129 C267):=(kc ok129 (kc ok267 kn))
def F217_l0(f129:T129)(f267:T267):qn (qa×Int×Int×List (qa)×Unit) (qa×Int×List (qa)×Unit):=λ(x0,x1,x2,x3,_)=>bif decide (x2<IntKind.i64.wrap (x1-1))then(f129 (x0,())).bind λv=>bif decide (0<=v.2.1)&&decide (v.2.1<=(↑x0.length:Int))then bif decide (0<=x2)&&decide (x2<(↑x3.length:Int))then bif decide (0<=v.2.1)&&decide (v.2.1<=(↑x0.length:Int))then some (Sum.inl (List.drop (Int.toNat v.2.1) x0,x1,IntKind.i64.wrap (x2+1),x3.set x2.toNat (List.take (Int.toNat v.2.1) x0),()))else none else none else none else some (Sum.inr (x0,x1,x3,()))
def C217_l0:T217_l0:=loopN (F217_l0 C129 C267) big
theorem k217_l0:qg 0 (subc (code f217) [1,1,1,1,0,1,0,0]) (E217_l0 C217_l0):=kl q3d q6u K217 F217_l0 C129 C267 kok217
def N217_c0(f217_l0:T217_l0):Ann:=(.seq .nil (.seq (.seq .nil (.blk (.loop (E217_l0 f217_l0)))) .nil))
def F217_c0(f129:T129)(f267:T267)(f217_l0:T217_l0):T217_c0:=λ(x0,x1,_)=>bif decide (0<=x1)&&(decide (x1=x1)&&(decide ((↑16:Int)*x1<=281474976710656)&&decide (x1<=140737488355328)))then(f217_l0 (x0,x1,0,List.replicate x1.toNat [],())).bind λv=>bif decide (v.2.1>0)then bif decide (0<=IntKind.i64.wrap (v.2.1-1))&&decide (IntKind.i64.wrap (v.2.1-1)<(↑(List.length v.2.2.1):Int))then some (List.set v.2.2.1 (IntKind.i64.wrap (v.2.1-1)).toNat v.1,())else none else some (v.2.2.1,())else none
def C217_c0:T217_c0:=F217_c0 C129 C267 C217_l0
theorem k217_c0:ql 0 (subc (code f217) [1,1,1]) (E217_c0 C217_c0):=jz q3e q6v K217 N217_c0 F217_c0 C129 C267 C217_l0 kok217 (And.intro k217_l0 trivial)
def N217(f217_c0:T217_c0):Ann:=(.seq .nil (.seq .nil (.cut .nil (E217_c0 f217_c0))))
def F217(f129:T129)(f267:T267)(f217_c0:T217_c0):T217:=λ(x0,x1,_)=>(f267 (x0,())).bind λv=>bif decide (x1<0)then(f217_c0 (x0,v.1,())).bind λv=>some (v.1,())else bif decide (x1>v.1)then(f217_c0 (x0,v.1,())).bind λv=>some (v.1,())else(f217_c0 (x0,x1,())).bind λv=>some (v.1,())
def C217:T217:=F217 C129 C267 C217_c0
theorem ok217:FO 217 (E217 C217):=zf yt zk K217 N217 F217 C129 C267 C217_c0 kok217 func217 (And.intro k217_c0 trivial)
abbrev T219:=qa×qa×Unit->Option (Int×Unit)
def E219(f:T219):FEnt:=⟨jb,qf,f⟩
def K219(f160:T160):=lk [(160,E160 f160)]
def F219(f160:T160):T219:=λ(x0,x1,_)=>(f160 (x0,x1,())).bind λv=>some (v.1,())
def C219:T219:=F219 C160
theorem ok219:FO 219 (E219 C219):=qz jb qf K219 F219 C160 (kc ok160 kn) func219
abbrev T218_l0:=qa×qa×Int×Unit->Option (Int×Unit)
def E218_l0(f:T218_l0):LEnt:=⟨q3f,q6w,f⟩
abbrev T218:=qa×qa×Unit->Option (Int×Unit)
def E218(f:T218):FEnt:=⟨jb,qf,f⟩
def K218(f219:T219)(f267:T267)(f268:T268):=lk [(219,E219 f219),(267,E267 f267),(268,E268 f268)]
theorem kok218:KOk prog (K218 C219 C267 C268):=(kc ok219 (kc ok267 (kc ok268 kn)))
def F218_l0(f219:T219)(f267:T267)(f268:T268):qn (qa×qa×Int×Unit) (Int×Unit):=λ(x0,x1,x2,_)=>(f219 (x0,x1,())).bind λv=>bif v.1 == -1 then some (Sum.inr (x2,()))else bif decide (0<=IntKind.i64.wrap (v.1+(↑x1.length:Int)))&&decide (IntKind.i64.wrap (v.1+(↑x1.length:Int))<=(↑x0.length:Int))then some (Sum.inl (List.drop (IntKind.i64.wrap (v.1+(↑x1.length:Int))).toNat x0,x1,IntKind.i64.wrap (x2+1),()))else none
theorem h218_l0(f219:T219)(f267:T267)(f268:T268):jv (K218 f219 f267 f268) 0 (subc (code f218) [1,1,1,1,0,0]) .nil q3f q6w (F218_l0 f219 f267 f268):=λv=>by kernel_rfl
def C218_l0:T218_l0:=loopN (F218_l0 C219 C267 C268) big
theorem k218_l0:qg 0 (subc (code f218) [1,1,1,1,0,0]) (E218_l0 C218_l0) :=
 frl kok218 (h218_l0 C219 C267 C268)
def N218(f218_l0:T218_l0):Ann:=(.seq .nil (.seq .nil (.seq .nil (.seq .nil (.blk (.loop (E218_l0 f218_l0)))))))
def F218(f219:T219)(f267:T267)(f268:T268)(f218_l0:T218_l0):T218:=λ(x0,x1,_)=>bif(↑x1.length:Int)==0 then(f267 (x0,())).bind λv=>some (IntKind.i64.wrap (v.1+1),())else bif(↑x1.length:Int)==1 then bif decide (0<(↑x1.length:Int))then(f268 (x0,(↑(x1.getD 0 0).toNat:Int),())).bind λv=>some (v.1,())else none else(f218_l0 (x0,x1,0,())).bind λv=>some (v.1,())
def C218:T218:=F218 C219 C267 C268 C218_l0
theorem ok218:FO 218 (E218 C218):=yf jb qf K218 N218 F218 C219 C267 C268 C218_l0 kok218 func218 (And.intro k218_l0 trivial)
abbrev T178_l0:=qa×qa×Int×Int×Int×List (qa)×Unit->Option (qa×Int×List (qa)×Unit)
def E178_l0(f:T178_l0):LEnt:=⟨q3h,q6x,f⟩
abbrev T178_c0:=qa×qa×Int×Int×Unit->Option (List (qa)×Unit)
def E178_c0(f:T178_c0):LEnt:=⟨q3i,q6y,f⟩
abbrev T178:=qa×qa×Int×Int×Unit->Option (List (qa)×Unit)
def E178(f:T178):FEnt:=⟨q3g,zk,f⟩
def K178(f217:T217)(f218:T218)(f219:T219):=lk [(217,E217 f217),(218,E218 f218),(219,E219 f219)]
theorem kok178:KOk prog (K178 C217 C218 C219):=(kc ok217 (kc ok218 (kc ok219 kn)))
def F178_l0(f217:T217)(f218:T218)(f219:T219):qn (qa×qa×Int×Int×Int×List (qa)×Unit) (qa×Int×List (qa)×Unit):=λ(x0,x1,x2,x3,x4,x5,_)=>bif decide (x4<x3)then(f219 (x0,x1,())).bind λv=>bif decide (v.1<0)then some (Sum.inr (x0,x4,x5,()))else bif decide (0<=IntKind.i64.wrap (v.1+x2))&&decide (IntKind.i64.wrap (v.1+x2)<=(↑x0.length:Int))then bif decide (0<=x4)&&decide (x4<(↑x5.length:Int))then bif decide (0<=IntKind.i64.wrap (v.1+(↑x1.length:Int)))&&decide (IntKind.i64.wrap (v.1+(↑x1.length:Int))<=(↑x0.length:Int))then some (Sum.inl (List.drop (IntKind.i64.wrap (v.1+(↑x1.length:Int))).toNat x0,x1,x2,x3,IntKind.i64.wrap (x4+1),x5.set x4.toNat (List.take (IntKind.i64.wrap (v.1+x2)).toNat x0),()))else none else none else none else some (Sum.inr (x0,x4,x5,()))
theorem h178_l0(f217:T217)(f218:T218)(f219:T219):jv (K178 f217 f218 f219) 0 (subc (code f178) [1,1,1,1,1,1,1,1,0,0,0]) .nil q3h q6x (F178_l0 f217 f218 f219):=λv=>by kernel_rfl
def C178_l0:T178_l0:=loopN (F178_l0 C217 C218 C219) big
theorem k178_l0:qg 0 (subc (code f178) [1,1,1,1,1,1,1,1,0,0,0]) (E178_l0 C178_l0) :=
 frl kok178 (h178_l0 C217 C218 C219)
def N178_c0(f178_l0:T178_l0):Ann:=(.seq .nil (.seq .nil (.seq .nil (.seq .nil (.seq (.blk (.loop (E178_l0 f178_l0))) .nil)))))
def F178_c0(f217:T217)(f218:T218)(f219:T219)(f178_l0:T178_l0):T178_c0:=λ(x0,x1,x2,x3,_)=>bif decide (0<=if IntKind.i64.wrap ((↑x0.length:Int)+1)<x3 then IntKind.i64.wrap ((↑x0.length:Int)+1)else x3)&&(decide ((if IntKind.i64.wrap ((↑x0.length:Int)+1)<x3 then IntKind.i64.wrap ((↑x0.length:Int)+1)else x3)=if IntKind.i64.wrap ((↑x0.length:Int)+1)<x3 then IntKind.i64.wrap ((↑x0.length:Int)+1)else x3)&&(decide (((↑16:Int)*if IntKind.i64.wrap ((↑x0.length:Int)+1)<x3 then IntKind.i64.wrap ((↑x0.length:Int)+1)else x3)<=281474976710656)&&decide ((if IntKind.i64.wrap ((↑x0.length:Int)+1)<x3 then IntKind.i64.wrap ((↑x0.length:Int)+1)else x3)<=140737488355328)))then(f178_l0 (x0,x1,x2,IntKind.i64.wrap ((if IntKind.i64.wrap ((↑x0.length:Int)+1)<x3 then IntKind.i64.wrap ((↑x0.length:Int)+1)else x3)-1),0,List.replicate (if IntKind.i64.wrap ((↑x0.length:Int)+1)<x3 then IntKind.i64.wrap ((↑x0.length:Int)+1)else x3).toNat [],())).bind λv=>bif decide (0<=v.2.1)&&decide (v.2.1<(↑(List.length v.2.2.1):Int))then bif decide (0<=IntKind.i64.wrap (v.2.1+1))&&decide (IntKind.i64.wrap (v.2.1+1)<=(↑(List.set v.2.2.1 (Int.toNat v.2.1) v.1).length:Int))then some (List.take (IntKind.i64.wrap (v.2.1+1)).toNat (List.set v.2.2.1 (Int.toNat v.2.1) v.1),())else none else none else none
theorem h178_c0(f217:T217)(f218:T218)(f219:T219)(f178_l0:T178_l0):jd (K178 f217 f218 f219) 0 (subc (code f178) [1,1,1,1]) (N178_c0 f178_l0) q3i q6y (F178_c0 f217 f218 f219 f178_l0):=λv=>by kernel_rfl
def C178_c0:T178_c0:=F178_c0 C217 C218 C219 C178_l0
theorem k178_c0:ql 0 (subc (code f178) [1,1,1,1]) (E178_c0 C178_c0) :=
 zc kok178 (And.intro k178_l0 trivial) (h178_c0 C217 C218 C219 C178_l0)
def N178(f178_c0:T178_c0):Ann:=(.seq .nil (.seq .nil (.seq .nil (.cut .nil (E178_c0 f178_c0)))))
def F178(f217:T217)(f218:T218)(f219:T219)(f178_c0:T178_c0):T178:=λ(x0,x1,x2,x3,_)=>bif x3==0 then some ([],())else bif x1==[]then(f217 (x0,x3,())).bind λv=>some (v.1,())else bif decide (x3<0)then(f218 (x0,x1,())).bind λv=>(f178_c0 (x0,x1,x2,IntKind.i64.wrap (v.1+1),())).bind λv=>some (v.1,())else(f178_c0 (x0,x1,x2,x3,())).bind λv=>some (v.1,())
def C178:T178:=F178 C217 C218 C219 C178_c0
theorem ok178:FO 178 (E178 C178):=yf q3g zk K178 N178 F178 C217 C218 C219 C178_c0 kok178 func178 (And.intro k178_c0 trivial)
abbrev T149:=qa×qa×Unit->Option (List (qa)×Unit)
def E149(f:T149):FEnt:=⟨jb,zk,f⟩
def K149(f178:T178):=lk [(178,E178 f178)]
def F149(f178:T178):T149:=λ(x0,x1,_)=>(f178 (x0,x1,0,-1,())).bind λv=>some (v.1,())
def C149:T149:=F149 C178
theorem ok149:FO 149 (E149 C149):=qz jb zk K149 F149 C178 (kc ok178 kn) func149
abbrev T66:=qa×Int×Unit->Option (Int×Unit)
def E66(f:T66):FEnt:=⟨zi,qf,f⟩
def K66(f97:T97):=lk [(97,E97 f97)]
def F66(f97:T97):T66:=λ(x0,x1,_)=>(f97 (x0,x1,())).bind λv=>some (v.1,())
def C66:T66:=F66 C97
theorem ok66:FO 66 (E66 C66):=qz zi qf K66 F66 C97 (kc ok97 kn) func66
abbrev T133_c0:=Int×Bool×Unit->Option (Int×Bool×Unit)
def E133_c0(f:T133_c0):LEnt:=⟨yy,xx,f⟩
abbrev T133_c1:=Int×Bool×Unit->Option (Int×Bool×Unit)
def E133_c1(f:T133_c1):LEnt:=⟨yy,xx,f⟩
abbrev T133:=Int×Unit->Option (Bool×Unit)
def E133(f:T133):FEnt:=⟨zj,qe,f⟩
def K133(f66:T66):=lk [(66,E66 f66)]
theorem kok133:KOk prog (K133 C66):=(kc ok66 kn)
def F133_c0(f66:T66):T133_c0:=λ(x0,x1,_)=>bif x1 then some (x0,true,())else bif decide (x0>=48)then bif decide (x0<=57)then some (x0,true,())else some (x0,decide (x0>=128),())else some (x0,decide (x0>=128),())
theorem h133_c0(f66:T66):jd (K133 f66) 0 (subc (code f133) [1,0,0,0,1,1,1]) .nil yy xx (F133_c0 f66):=λv=>by kernel_rfl
def C133_c0:T133_c0:=F133_c0 C66
theorem k133_c0:ql 0 (subc (code f133) [1,0,0,0,1,1,1]) (E133_c0 C133_c0) :=
 yc kok133 (h133_c0 C66)
def N133_c1(f133_c0:T133_c0):Ann:=(.cond .nil (.cut .nil (E133_c0 f133_c0)))
def F133_c1(f66:T66)(f133_c0:T133_c0):T133_c1:=λ(x0,x1,_)=>bif x1 then some (x0,true,())else bif decide (x0>=65)then(f133_c0 (x0,decide (x0<=90),())).bind λv=>some (v.1,v.2.1,())else(f133_c0 (x0,false,())).bind λv=>some (v.1,v.2.1,())
theorem h133_c1(f66:T66)(f133_c0:T133_c0):jd (K133 f66) 0 (subc (code f133) [1,0,0,0,1]) (N133_c1 f133_c0) yy xx (F133_c1 f66 f133_c0):=λv=>by kernel_rfl
def C133_c1:T133_c1:=F133_c1 C66 C133_c0
theorem k133_c1:ql 0 (subc (code f133) [1,0,0,0,1]) (E133_c1 C133_c1) :=
 zc kok133 (And.intro k133_c0 trivial) (h133_c1 C66 C133_c0)
def N133(f133_c1:T133_c1):Ann:=(.seq .nil (.seq (.blk (.seq (.cut .nil (E133_c1 f133_c1)) .nil)) .nil))
def F133(f66:T66)(f133_c1:T133_c1):T133:=λ(x0,_)=>bif decide (x0>=97)then(f133_c1 (x0,decide (x0<=122),())).bind λv=>bif v.2.1 then some (true,())else(f66 ([33,35,36,37,38,39,42,43,45,47,61,63,94,95,96,123,124,125,126],v.1,())).bind λv=>some (decide (v.1>=0),())else(f133_c1 (x0,false,())).bind λv=>bif v.2.1 then some (true,())else(f66 ([33,35,36,37,38,39,42,43,45,47,61,63,94,95,96,123,124,125,126],v.1,())).bind λv=>some (decide (v.1>=0),())
def C133:T133:=F133 C66 C133_c1
theorem ok133:FO 133 (E133 C133):=qx zj qe K133 N133 F133 C66 C133_c1 kok133 func133 (And.intro k133_c1 trivial)
abbrev T232_l0:=qa×Int×Int×Unit->Option ((qa×Unit)⊕(Bool×Unit))
def E232_l0(f:T232_l0):LEnt:=⟨q3j,q6z,f⟩
abbrev T232:=qa×Unit->Option (Bool×Unit)
def E232(f:T232):FEnt:=⟨qq,qe,f⟩
def K232(f133:T133):=lk [(133,E133 f133)]
theorem kok232:KOk prog (K232 C133):=(kc ok133 kn)
def F232_l0(f133:T133):qn (qa×Int×Int×Unit) ((qa×Unit)⊕(Bool×Unit)):=λ(x0,x1,x2,_)=>bif decide (x2<x1)then bif decide (0<=x2)&&decide (x2<(↑x0.length:Int))then(f133 ((↑(x0.getD x2.toNat 0).toNat:Int),())).bind λv=>bif !v.1 then some (Sum.inr (Sum.inr (false,())))else some (Sum.inl (x0,x1,IntKind.i64.wrap (x2+1),()))else none else some (Sum.inr (Sum.inl (x0,())))
def C232_l0:T232_l0:=loopN (F232_l0 C133) big
theorem k232_l0:qg 0 (subc (code f232) [1,0,1,0,0]) (E232_l0 C232_l0):=zg q3j q6z K232 F232_l0 C133 kok232
def N232(f232_l0:T232_l0):Ann:=(.seq .nil (.seq (.seq .nil (.blk (.loop (E232_l0 f232_l0)))) .nil))
def F232(f133:T133)(f232_l0:T232_l0):T232:=λ(x0,_)=>(f232_l0 (x0,(↑x0.length:Int),0,())).bind λv=>Sum.elim (λv=>some (bif v.1==[]then false else true,())) (λv=>some (v.1,())) v
def C232:T232:=F232 C133 C232_l0
theorem ok232:FO 232 (E232 C232):=qx qq qe K232 N232 F232 C133 C232_l0 kok232 func232 (And.intro k232_l0 trivial)
abbrev T196_l0:=List (qa)×Int×Int×Unit->Option (Unit⊕(Bool×Unit))
def E196_l0(f:T196_l0):LEnt:=⟨q3k,q7a,f⟩
abbrev T196:=qa×Unit->Option (Bool×Unit)
def E196(f:T196):FEnt:=⟨qq,qe,f⟩
def K196(f149:T149)(f232:T232):=lk [(149,E149 f149),(232,E232 f232)]
theorem kok196:KOk prog (K196 C149 C232):=(kc ok149 (kc ok232 kn))
def F196_l0(f149:T149)(f232:T232):qn (List (qa)×Int×Int×Unit) (Unit⊕(Bool×Unit)):=λ(x0,x1,x2,_)=>bif decide (x2<x1)then bif decide (0<=x2)&&decide (x2<(↑x0.length:Int))then(f232 (x0.getD x2.toNat [],())).bind λv=>bif !v.1 then some (Sum.inr (Sum.inr (false,())))else some (Sum.inl (x0,x1,IntKind.i64.wrap (x2+1),()))else none else some (Sum.inr (Sum.inl ()))
def C196_l0:T196_l0:=loopN (F196_l0 C149 C232) big
theorem k196_l0:qg 0 (subc (code f196) [1,0,1,0,0]) (E196_l0 C196_l0):=kl q3k q7a K196 F196_l0 C149 C232 kok196
def N196(f196_l0:T196_l0):Ann:=(.seq .nil (.seq (.seq .nil (.blk (.loop (E196_l0 f196_l0)))) .nil))
def F196(f149:T149)(f232:T232)(f196_l0:T196_l0):T196:=λ(x0,_)=>(f149 (x0,[46],())).bind λv=>(f196_l0 (v.1,(↑(List.length v.1):Int),0,())).bind λv=>Sum.elim (λv=>some (true,())) (λv=>some (v.1,())) v
def C196:T196:=F196 C149 C232 C196_l0
theorem ok196:FO 196 (E196 C196):=zf qq qe K196 N196 F196 C149 C232 C196_l0 kok196 func196 (And.intro k196_l0 trivial)
abbrev T233_l0:=qa×Int×Int×qa×Unit->Option (qa×Unit)
def E233_l0(f:T233_l0):LEnt:=⟨q3l,q7b,f⟩
abbrev T233:=qa×Unit->Option (qa×Unit)
def E233(f:T233):FEnt:=⟨qq,jp,f⟩
def F233_l0:qn (qa×Int×Int×qa×Unit) (qa×Unit):=λ(x0,x1,x2,x3,_)=>bif decide (x2<x1)then bif decide (0<=x2)&&decide (x2<(↑x0.length:Int))then bif(↑(x0.getD x2.toNat 0).toNat:Int)==34 then bif decide (x3.length+[92].length<=140737488355328/1)then bif decide (0<=x2)&&decide (x2<(↑x0.length:Int))then bif decide ((x3++[92]).length+[UInt8.ofNat (↑(x0.getD x2.toNat 0).toNat:Int).toNat].length<=140737488355328/1)then some (Sum.inl (x0,x1,IntKind.i64.wrap (x2+1),x3++[92]++[UInt8.ofNat (↑(x0.getD x2.toNat 0).toNat:Int).toNat],()))else none else none else none else bif decide (0<=x2)&&decide (x2<(↑x0.length:Int))then bif(↑(x0.getD x2.toNat 0).toNat:Int)==92 then bif decide (x3.length+[92].length<=140737488355328/1)then bif decide (0<=x2)&&decide (x2<(↑x0.length:Int))then bif decide ((x3++[92]).length+[UInt8.ofNat (↑(x0.getD x2.toNat 0).toNat:Int).toNat].length<=140737488355328/1)then some (Sum.inl (x0,x1,IntKind.i64.wrap (x2+1),x3++[92]++[UInt8.ofNat (↑(x0.getD x2.toNat 0).toNat:Int).toNat],()))else none else none else none else bif decide (0<=x2)&&decide (x2<(↑x0.length:Int))then bif decide (x3.length+[UInt8.ofNat (↑(x0.getD x2.toNat 0).toNat:Int).toNat].length<=140737488355328/1)then some (Sum.inl (x0,x1,IntKind.i64.wrap (x2+1),x3++[UInt8.ofNat (↑(x0.getD x2.toNat 0).toNat:Int).toNat],()))else none else none else none else none else some (Sum.inr (x3,()))
def C233_l0:T233_l0:=loopN (F233_l0) big
theorem k233_l0:qg 0 (subc (code f233) [1,1,0,1,0,0]) (E233_l0 C233_l0):=zl0 q3l q7b qu F233_l0 kn
def N233(f233_l0:T233_l0):Ann:=(.seq .nil (.seq .nil (.seq (.seq .nil (.blk (.loop (E233_l0 f233_l0)))) .nil)))
def F233(f233_l0:T233_l0):T233:=λ(x0,_)=>(f233_l0 (x0,(↑x0.length:Int),0,[],())).bind λv=>some (v.1,())
def C233:T233:=F233 C233_l0
theorem ok233:FO 233 (E233 C233):=ji qq jp qu N233 F233 C233_l0 kn func233 (And.intro k233_l0 trivial)
abbrev T197:=Int×qa×Int×Unit->Option (qa×Unit)
def E197(f:T197):FEnt:=⟨q3m,jp,f⟩
def K197(f233:T233):=lk [(233,E233 f233)]
def F197(f233:T233):T197:=λ(x0,x1,x2,_)=>bif x0==1 then(f233 (x1,())).bind λv=>bif decide ([34].length+List.length v.1<=9223372036854775807)then bif decide (([34]++v.1).length+[34].length<=9223372036854775807)then some ([34]++v.1++[34],())else none else none else bif x0==3 then bif decide ([40].length+x1.length<=9223372036854775807)then bif decide (([40]++x1).length+[41].length<=9223372036854775807)then some ([40]++x1++[41],())else none else none else bif x0==5 then bif decide ([91].length+x1.length<=9223372036854775807)then bif decide (([91]++x1).length+[93].length<=9223372036854775807)then some ([91]++x1++[93],())else none else none else some (x1,())
def C197:T197:=F197 C233
theorem ok197:FO 197 (E197 C197):=qz q3m jp K197 F197 C233 (kc ok233 kn) func197
abbrev T158:=qa×qa×Unit->Option (qa×Unit)
def E158(f:T158):FEnt:=⟨yz,jp,f⟩
def K158(f196:T196)(f197:T197):=lk [(196,E196 f196),(197,E197 f197)]
def F158(f196:T196)(f197:T197):T158:=λ(x0,x1,_)=>(f196 (x0,())).bind λv=>bif !v.1 then(f197 (1,x0,0,())).bind λv=>bif decide (List.length v.1+[64].length<=9223372036854775807)then bif decide ((v.1++[64]).length+x1.length<=9223372036854775807)then some (v.1++[64]++x1,())else none else none else bif decide (x0.length+[64].length<=9223372036854775807)then bif decide ((x0++[64]).length+x1.length<=9223372036854775807)then some (x0++[64]++x1,())else none else none
def C158:T158:=F158 C196 C197
theorem ok158:FO 158 (E158 C158):=vg yz jp K158 F158 C196 C197 (kc ok196 (kc ok197 kn)) func158
abbrev T123:=Bool×qa×qa×Unit->Option (qa×Unit)
def E123(f:T123):FEnt:=⟨jy,jp,f⟩
def K123(f158:T158)(f50:T50):=lk [(158,E158 f158),(50,E50 f50)]
def F123(f158:T158)(f50:T50):T123:=λ(x0,x1,x2,_)=>bif x0 then some ([60,62],())else(f50 (x0,x1,x2,())).bind λv=>bif v.1 then bif decide ([60].length+x1.length<=9223372036854775807)then bif decide (([60]++x1).length+[62].length<=9223372036854775807)then some ([60]++x1++[62],())else none else none else(f158 (x1,x2,())).bind λv=>bif decide ([60].length+List.length v.1<=9223372036854775807)then bif decide (([60]++v.1).length+[62].length<=9223372036854775807)then some ([60]++v.1++[62],())else none else none
def C123:T123:=F123 C158 C50
theorem ok123:FO 123 (E123 C123):=vg jy jp K123 F123 C158 C50 (kc ok158 (kc ok50 kn)) func123
abbrev T93_c0:=qa×Int×qa×Bool×qa×qa×Int×Bool×Bool×Unit->Option (qa×Unit)
def E93_c0(f:T93_c0):LEnt:=⟨q3o,q7c,f⟩
abbrev T93_c1:=qa×Int×Bool×Int×qa×Bool×qa×qa×Int×Bool×Bool×Unit->Option ((qa×Unit)⊕(qa×Unit))
def E93_c1(f:T93_c1):LEnt:=⟨q3p,q7d,f⟩
abbrev T93:=Int×qa×Bool×qa×qa×Int×Bool×Bool×Unit->Option (qa×Unit)
def E93(f:T93):FEnt:=⟨q3n,jp,f⟩
def K93(f122:T122)(f123:T123)(f124:T124):=lk [(122,E122 f122),(123,E123 f123),(124,E124 f124)]
theorem kok93:KOk prog (K93 C122 C123 C124):=(kc ok122 (kc ok123 (kc ok124 kn)))
def F93_c0(f122:T122)(f123:T123)(f124:T124):T93_c0:=λ(x0,x1,x2,x3,x4,x5,x6,x7,x8,_)=>bif x7 then bif decide (x0.length+[32,66,79,68,89,61,56,66,73,84,77,73,77,69].length<=9223372036854775807)then bif x8 then bif decide ((x0++[32,66,79,68,89,61,56,66,73,84,77,73,77,69]).length+[32,83,77,84,80,85,84,70,56].length<=9223372036854775807)then some (x0++[32,66,79,68,89,61,56,66,73,84,77,73,77,69]++[32,83,77,84,80,85,84,70,56],())else none else some (x0++[32,66,79,68,89,61,56,66,73,84,77,73,77,69],())else none else bif x8 then bif decide (x0.length+[32,83,77,84,80,85,84,70,56].length<=9223372036854775807)then some (x0++[32,83,77,84,80,85,84,70,56],())else none else some (x0,())
theorem h93_c0(f122:T122)(f123:T123)(f124:T124):jd (K93 f122 f123 f124) 0 (subc (code f93) [1,1,0,1,0,1,1,1,1,1,0,1,1]) .nil q3o q7c (F93_c0 f122 f123 f124):=λv=>by kernel_rfl
def C93_c0:T93_c0:=F93_c0 C122 C123 C124
theorem k93_c0:ql 0 (subc (code f93) [1,1,0,1,0,1,1,1,1,1,0,1,1]) (E93_c0 C93_c0) :=
 yc kok93 (h93_c0 C122 C123 C124)
def N93_c1(f93_c0:T93_c0):Ann:=(.cond .nil (.seq .nil (.cond .nil (.seq .nil (.cond (.seq .nil (.cut .nil (E93_c0 f93_c0))) .nil)))))
def F93_c1(f122:T122)(f123:T123)(f124:T124)(f93_c0:T93_c0):T93_c1:=λ(x0,x1,x2,x3,x4,x5,x6,x7,x8,x9,x10,_)=>bif x2 then bif decide (x0.length+[32].length<=9223372036854775807)then bif decide ((x0++[32]).length+x4.length<=9223372036854775807)then some (Sum.inl (x0++[32]++x4,()))else none else none else bif x1==3 then bif decide (x0.length+[32,84,79,58].length<=9223372036854775807)then(f123 (x5,x6,x7,())).bind λv=>bif decide ((x0++[32,84,79,58]).length+List.length v.1<=9223372036854775807)then some (Sum.inl (x0++[32,84,79,58]++v.1,()))else none else none else bif x1==2 then(f123 (x5,x6,x7,())).bind λv=>bif decide ([32,70,82,79,77,58].length+List.length v.1<=9223372036854775807)then bif decide (x0.length+([32,70,82,79,77,58]++v.1).length<=9223372036854775807)then bif decide (x8>=0)then(f124 (x8,())).bind λv1=>bif decide ([32,83,73,90,69,61].length+List.length v1.1<=9223372036854775807)then bif decide ((x0++([32,70,82,79,77,58]++v.1)).length+([32,83,73,90,69,61]++v1.1).length<=9223372036854775807)then(f93_c0 (x0++([32,70,82,79,77,58]++v.1)++([32,83,73,90,69,61]++v1.1),x3,x4,x5,x6,x7,x8,x9,x10,())).bind λv=>some (Sum.inr (v.1,()))else none else none else(f93_c0 (x0++([32,70,82,79,77,58]++v.1),x3,x4,x5,x6,x7,x8,x9,x10,())).bind λv=>some (Sum.inr (v.1,()))else none else none else some (Sum.inr (x0,()))
theorem h93_c1(f122:T122)(f123:T123)(f124:T124)(f93_c0:T93_c0):jd (K93 f122 f123 f124) 0 (subc (code f93) [1,1,0,1,0,1]) (N93_c1 f93_c0) q3p q7d (F93_c1 f122 f123 f124 f93_c0):=λv=>by kernel_rfl
def C93_c1:T93_c1:=F93_c1 C122 C123 C124 C93_c0
theorem k93_c1:ql 0 (subc (code f93) [1,1,0,1,0,1]) (E93_c1 C93_c1) :=
 zc kok93 (And.intro k93_c0 trivial) (h93_c1 C122 C123 C124 C93_c0)
def N93(f93_c1:T93_c1):Ann:=(.seq .nil (.seq .nil (.seq (.seq .nil (.blk (.cut .nil (E93_c1 f93_c1)))) .nil)))
def F93(f122:T122)(f123:T123)(f124:T124)(f93_c1:T93_c1):T93:=λ(x0,x1,x2,x3,x4,x5,x6,x7,_)=>(f122 (x0,())).bind λv=>bif x0==0 then(f93_c1 (v.1,x0,true,x0,x1,x2,x3,x4,x5,x6,x7,())).bind λv=>Sum.elim (λv=>some (v.1,())) (λv=>some (v.1,())) v else(f93_c1 (v.1,x0,x0==1,x0,x1,x2,x3,x4,x5,x6,x7,())).bind λv=>Sum.elim (λv=>some (v.1,())) (λv=>some (v.1,())) v
def C93:T93:=F93 C122 C123 C124 C93_c1
theorem ok93:FO 93 (E93 C93):=yf q3n jp K93 N93 F93 C122 C123 C124 C93_c1 kok93 func93 (And.intro k93_c1 trivial)
abbrev T61:=qb×qc×qd×qa×Bool×qa×qa×List (qa)×Bool×Bool×Bool×Int×Int×Int×Bool×qa×qa×Int×Bool×Int×Int×Bool×Bool×Int×Int×Bool×qa×qa×Bool×qa×qa×Bool×Bool×Int×Unit->Option (qa×qb×qc×qd×qa×Bool×qa×qa×List (qa)×Bool×Bool×Bool×Int×Int×Int×Bool×qa×qa×Int×Bool×Int×Int×Bool×Bool×Int×Int×Bool×qa×qa×Bool×qa×qa×Bool×Bool×Int×Unit)
def E61(f:T61):FEnt:=⟨qy,xy,f⟩
def K61(f93:T93):=lk [(93,E93 f93)]
def F61(f93:T93):T61:=λ(x0,x1,x2,x3,x4,x5,x6,x7,x8,x9,x10,x11,x12,x13,x14,x15,x16,x17,x18,x19,x20,x21,x22,x23,x24,x25,x26,x27,x28,x29,x30,x31,x32,x33,_)=>(f93 (2,[],x25,x26,x27,-1,x32,x31,())).bind λv=>some (v.1,x0,x1,x2,x3,x4,x5,x6,x7,x8,x9,x10,x11,x12,x13,x14,x15,x16,x17,x18,x19,x20,x21,x22,x23,x24,x25,x26,x27,x28,x29,x30,x31,x32,x33,())
theorem h61(f93:T93):qp (K61 f93) 1 f61 .nil qy xy (F61 f93):=λv=>by kernel_rfl
def C61:T61:=F61 C93
theorem ok61:FO 61 (E61 C61) :=
 q0 (kc ok93 kn) func61 (h61 C93)
abbrev T62:=qb×qc×qd×qa×Bool×qa×qa×List (qa)×Bool×Bool×Bool×Int×Int×Int×Bool×qa×qa×Int×Bool×Int×Int×Bool×Bool×Int×Int×Bool×qa×qa×Bool×qa×qa×Bool×Bool×Int×Unit->Option (qa×qb×qc×qd×qa×Bool×qa×qa×List (qa)×Bool×Bool×Bool×Int×Int×Int×Bool×qa×qa×Int×Bool×Int×Int×Bool×Bool×Int×Int×Bool×qa×qa×Bool×qa×qa×Bool×Bool×Int×Unit)
def E62(f:T62):FEnt:=⟨qy,xy,f⟩
def K62(f93:T93):=lk [(93,E93 f93)]
def F62(f93:T93):T62:=λ(x0,x1,x2,x3,x4,x5,x6,x7,x8,x9,x10,x11,x12,x13,x14,x15,x16,x17,x18,x19,x20,x21,x22,x23,x24,x25,x26,x27,x28,x29,x30,x31,x32,x33,_)=>(f93 (3,[],x28,x29,x30,-1,false,false,())).bind λv=>some (v.1,x0,x1,x2,x3,x4,x5,x6,x7,x8,x9,x10,x11,x12,x13,x14,x15,x16,x17,x18,x19,x20,x21,x22,x23,x24,x25,x26,x27,x28,x29,x30,x31,x32,x33,())
theorem h62(f93:T93):qp (K62 f93) 1 f62 .nil qy xy (F62 f93):=λv=>by kernel_rfl
def C62:T62:=F62 C93
theorem ok62:FO 62 (E62 C62) :=
 q0 (kc ok93 kn) func62 (h62 C93)
abbrev T39_c0:=qb×qc×qd×qa×Bool×qa×qa×List (qa)×Bool×Bool×Bool×Int×Int×Int×Bool×qa×qa×Int×Bool×Int×Int×Bool×Bool×Int×Int×Bool×qa×qa×Bool×qa×qa×Bool×Bool×Int×Unit->Option (List ((Int×qa))×qb×qc×qd×qa×Bool×qa×qa×List (qa)×Bool×Bool×Bool×Int×Int×Int×Bool×qa×qa×Int×Bool×Int×Int×Bool×Bool×Int×Int×Bool×qa×qa×Bool×qa×qa×Bool×Bool×Int×Unit)
def E39_c0(f:T39_c0):LEnt:=⟨xa,zt,f⟩
abbrev T39_c1:=qb×qc×qd×qa×Bool×qa×qa×List (qa)×Bool×Bool×Bool×Int×Int×Int×Bool×qa×qa×Int×Bool×Int×Int×Bool×Bool×Int×Int×Bool×qa×qa×Bool×qa×qa×Bool×Bool×Int×Bool×Bool×Bool×Int×Int×Unit->Option (List ((Int×qa))×qb×qc×qd×qa×Bool×qa×qa×List (qa)×Bool×Bool×Bool×Int×Int×Int×Bool×qa×qa×Int×Bool×Int×Int×Bool×Bool×Int×Int×Bool×qa×qa×Bool×qa×qa×Bool×Bool×Int×Unit)
def E39_c1(f:T39_c1):LEnt:=⟨q3q,zt,f⟩
abbrev T39_c2:=qb×qc×qd×qa×Bool×qa×qa×List (qa)×Bool×Bool×Bool×Int×Int×Int×Bool×qa×qa×Int×Bool×Int×Int×Bool×Bool×Int×Int×Bool×qa×qa×Bool×qa×qa×Bool×Bool×Int×Unit->Option (List ((Int×qa))×qb×qc×qd×qa×Bool×qa×qa×List (qa)×Bool×Bool×Bool×Int×Int×Int×Bool×qa×qa×Int×Bool×Int×Int×Bool×Bool×Int×Int×Bool×qa×qa×Bool×qa×qa×Bool×Bool×Int×Unit)
def E39_c2(f:T39_c2):LEnt:=⟨xa,zt,f⟩
abbrev T39:=Int×List (qa)×qb×qc×qd×qa×Bool×qa×qa×List (qa)×Bool×Bool×Bool×Int×Int×Int×Bool×qa×qa×Int×Bool×Int×Int×Bool×Bool×Int×Int×Bool×qa×qa×Bool×qa×qa×Bool×Bool×Int×Unit->Option (List ((Int×qa))×qb×qc×qd×qa×Bool×qa×qa×List (qa)×Bool×Bool×Bool×Int×Int×Int×Bool×qa×qa×Int×Bool×Int×Int×Bool×Bool×Int×Int×Bool×qa×qa×Bool×qa×qa×Bool×Bool×Int×Unit)
def E39(f:T39):FEnt:=⟨je,qw,f⟩
def K39(f57:T57)(f58:T58)(f59:T59)(f60:T60)(f61:T61)(f62:T62):=lk [(57,E57 f57),(58,E58 f58),(59,E59 f59),(60,E60 f60),(61,E61 f61),(62,E62 f62)]
theorem kok39:KOk prog (K39 C57 C58 C59 C60 C61 C62):=(kc ok57 (kc ok58 (kc ok59 (kc ok60 (kc ok61 (kc ok62 kn))))))
def F39_c0(f57:T57)(f58:T58)(f59:T59)(f60:T60)(f61:T61)(f62:T62):T39_c0:=λ(x0,x1,x2,x3,x4,x5,x6,x7,x8,x9,x10,x11,x12,x13,x14,x15,x16,x17,x18,x19,x20,x21,x22,x23,x24,x25,x26,x27,x28,x29,x30,x31,x32,x33,_)=>bif x24==2 then(f58 (3,x33,x0,x1,x2,x3,x4,x5,x6,x7,x8,x9,x10,x11,x12,x13,x14,x15,x16,x17,x18,x19,x20,x21,x22,x23,x24,x25,x26,x27,x28,x29,x30,x31,x32,x33,())).bind λv=>some (v)else(f61 (x0,x1,x2,x3,x4,x5,x6,x7,x8,x9,x10,x11,x12,x13,x14,x15,x16,x17,x18,x19,x20,x21,x22,x23,x24,x25,x26,x27,x28,x29,x30,x31,x32,x33,())).bind λv=>bif decide ((↑(List.length v.1):Int)>510)then(f58 (3,500,v.2)).bind λv=>some (v)else(f62 (v.2)).bind λv=>bif decide ((↑(List.length v.1):Int)>510)then(f58 (3,500,v.2)).bind λv=>some (v)else(f61 (v.2)).bind λv=>(f57 (2,v)).bind λv=>some (v)
theorem h39_c0(f57:T57)(f58:T58)(f59:T59)(f60:T60)(f61:T61)(f62:T62):jd (K39 f57 f58 f59 f60 f61 f62) 1 (subc (code f39) [1,1,1,1,1]) .nil xa zt (F39_c0 f57 f58 f59 f60 f61 f62):=λv=>by kernel_rfl
def C39_c0:T39_c0:=F39_c0 C57 C58 C59 C60 C61 C62
theorem k39_c0:ql 1 (subc (code f39) [1,1,1,1,1]) (E39_c0 C39_c0) :=
 yc kok39 (h39_c0 C57 C58 C59 C60 C61 C62)
def N39_c1(f39_c0:T39_c0):Ann:=(.cut .nil (E39_c0 f39_c0))
def F39_c1(f57:T57)(f58:T58)(f59:T59)(f60:T60)(f61:T61)(f62:T62)(f39_c0:T39_c0):T39_c1:=λ(x0,x1,x2,x3,x4,x5,x6,x7,x8,x9,x10,x11,x12,x13,x14,x15,x16,x17,x18,x19,x20,x21,x22,x23,x24,x25,x26,x27,x28,x29,x30,x31,x32,x33,x34,x35,x36,x37,x38,_)=>(f60 (x0,x1,x2,x21,x22,x23,x4,x5,x6,x14,x15,x16,x34,x35,x13,())).bind λv=>(f39_c0 (x0,x1,x2,x3,x4,x5,x6,x7,x8,x9,x10,x11,x12,x13,x14,x15,x16,x17,x18,x19,x20,x21,x22,x23,v.1,v.2.1,v.2.2.1,v.2.2.2.1,v.2.2.2.2.1,v.2.2.2.2.2.1,v.2.2.2.2.2.2.1,v.2.2.2.2.2.2.2.1,v.2.2.2.2.2.2.2.2.1,v.2.2.2.2.2.2.2.2.2.1,())).bind λv=>some (v)
theorem h39_c1(f57:T57)(f58:T58)(f59:T59)(f60:T60)(f61:T61)(f62:T62)(f39_c0:T39_c0):jd (K39 f57 f58 f59 f60 f61 f62) 1 (subc (code f39) [1,1,1,1]) (N39_c1 f39_c0) q3q zt (F39_c1 f57 f58 f59 f60 f61 f62 f39_c0):=λv=>by kernel_rfl
def C39_c1:T39_c1:=F39_c1 C57 C58 C59 C60 C61 C62 C39_c0
theorem k39_c1:ql 1 (subc (code f39) [1,1,1,1]) (E39_c1 C39_c1) :=
 zc kok39 (And.intro k39_c0 trivial) (h39_c1 C57 C58 C59 C60 C61 C62 C39_c0)
def N39_c2(f39_c1:T39_c1):Ann:=(.cut .nil (E39_c1 f39_c1))
def F39_c2(f57:T57)(f58:T58)(f59:T59)(f60:T60)(f61:T61)(f62:T62)(f39_c1:T39_c1):T39_c2:=λ(x0,x1,x2,x3,x4,x5,x6,x7,x8,x9,x10,x11,x12,x13,x14,x15,x16,x17,x18,x19,x20,x21,x22,x23,x24,x25,x26,x27,x28,x29,x30,x31,x32,x33,_)=>(f39_c1 (x0,x1,x2,x3,x4,x5,x6,x7,x8,x9,x10,x11,x12,x13,x14,x15,x16,x17,x18,x19,x20,x21,x22,x23,x24,x25,x26,x27,x28,x29,x30,x31,x32,x33,x8,x9,x10,x11,x12,())).bind λv=>some (v)
theorem h39_c2(f57:T57)(f58:T58)(f59:T59)(f60:T60)(f61:T61)(f62:T62)(f39_c1:T39_c1):jd (K39 f57 f58 f59 f60 f61 f62) 1 (subc (code f39) [1,1,1]) (N39_c2 f39_c1) xa zt (F39_c2 f57 f58 f59 f60 f61 f62 f39_c1):=λv=>by kernel_rfl
def C39_c2:T39_c2:=F39_c2 C57 C58 C59 C60 C61 C62 C39_c1
theorem k39_c2:ql 1 (subc (code f39) [1,1,1]) (E39_c2 C39_c2) :=
 zc kok39 (And.intro k39_c1 trivial) (h39_c2 C57 C58 C59 C60 C61 C62 C39_c1)
def N39(f39_c2:T39_c2):Ann:=(.seq .nil (.seq .nil (.cut .nil (E39_c2 f39_c2))))
def F39(f57:T57)(f58:T58)(f59:T59)(f60:T60)(f61:T61)(f62:T62)(f39_c2:T39_c2):T39:=λ(x0,x1,x2,x3,x4,x5,x6,x7,x8,x9,x10,x11,x12,x13,x14,x15,x16,x17,x18,x19,x20,x21,x22,x23,x24,x25,x26,x27,x28,x29,x30,x31,x32,x33,x34,x35,_)=>bif !x20 then(f59 (x0,x1,())).bind λv=>(f39_c2 (x2,x3,x4,x5,x6,x7,x8,x9,x10,x11,x12,x13,x14,x15,x16,x17,x18,x19,x20,x21,x22,v.1,v.2.1,v.2.2.1,x26,x27,x28,x29,x30,x31,x32,x33,x34,x35,())).bind λv=>some (v)else(f39_c2 (x2,x3,x4,x5,x6,x7,x8,x9,x10,x11,x12,x13,x14,x15,x16,x17,x18,x19,x20,x21,x22,false,false,0,x26,x27,x28,x29,x30,x31,x32,x33,x34,x35,())).bind λv=>some (v)
theorem h39(f57:T57)(f58:T58)(f59:T59)(f60:T60)(f61:T61)(f62:T62)(f39_c2:T39_c2):qp (K39 f57 f58 f59 f60 f61 f62) 1 f39 (N39 f39_c2) je qw (F39 f57 f58 f59 f60 f61 f62 f39_c2):=λv=>by kernel_rfl
def C39:T39:=F39 C57 C58 C59 C60 C61 C62 C39_c2
theorem ok39:FO 39 (E39 C39) :=
 qo kok39 func39 (And.intro k39_c2 trivial) (h39 C57 C58 C59 C60 C61 C62 C39_c2)
abbrev T40:=Int×List (qa)×qb×qc×qd×qa×Bool×qa×qa×List (qa)×Bool×Bool×Bool×Int×Int×Int×Bool×qa×qa×Int×Bool×Int×Int×Bool×Bool×Int×Int×Bool×qa×qa×Bool×qa×qa×Bool×Bool×Int×Unit->Option (List ((Int×qa))×qb×qc×qd×qa×Bool×qa×qa×List (qa)×Bool×Bool×Bool×Int×Int×Int×Bool×qa×qa×Int×Bool×Int×Int×Bool×Bool×Int×Int×Bool×qa×qa×Bool×qa×qa×Bool×Bool×Int×Unit)
def E40(f:T40):FEnt:=⟨je,qw,f⟩
def K40(f57:T57)(f62:T62):=lk [(57,E57 f57),(62,E62 f62)]
def F40(f57:T57)(f62:T62):T40:=λ(x0,x1,x2,x3,x4,x5,x6,x7,x8,x9,x10,x11,x12,x13,x14,x15,x16,x17,x18,x19,x20,x21,x22,x23,x24,x25,x26,x27,x28,x29,x30,x31,x32,x33,x34,x35,_)=>(f62 (x2,x3,x4,x5,x6,x7,x8,x9,x10,x11,x12,x13,x14,x15,x16,x17,x18,x19,x20,x21,x22,x23,x24,x25,x26,x27,x28,x29,x30,x31,x32,x33,x34,x35,())).bind λv=>(f57 (3,v)).bind λv=>some (v)
theorem h40(f57:T57)(f62:T62):qp (K40 f57 f62) 1 f40 .nil je qw (F40 f57 f62):=λv=>by kernel_rfl
def C40:T40:=F40 C57 C62
theorem ok40:FO 40 (E40 C40) :=
 q0 (kc ok57 (kc ok62 kn)) func40 (h40 C57 C62)
abbrev T41:=Int×List (qa)×qb×qc×qd×qa×Bool×qa×qa×List (qa)×Bool×Bool×Bool×Int×Int×Int×Bool×qa×qa×Int×Bool×Int×Int×Bool×Bool×Int×Int×Bool×qa×qa×Bool×qa×qa×Bool×Bool×Int×Unit->Option (List ((Int×qa))×qb×qc×qd×qa×Bool×qa×qa×List (qa)×Bool×Bool×Bool×Int×Int×Int×Bool×qa×qa×Int×Bool×Int×Int×Bool×Bool×Int×Int×Bool×qa×qa×Bool×qa×qa×Bool×Bool×Int×Unit)
def E41(f:T41):FEnt:=⟨je,qw,f⟩
def K41(f57:T57):=lk [(57,E57 f57)]
def F41(f57:T57):T41:=λ(x0,x1,x2,x3,x4,x5,x6,x7,x8,x9,x10,x11,x12,x13,x14,x15,x16,x17,x18,x19,x20,x21,x22,x23,x24,x25,x26,x27,x28,x29,x30,x31,x32,x33,x34,x35,_)=>(f57 (4,[68,65,84,65],x2,x3,x4,x5,x6,x7,x8,x9,x10,x11,x12,x13,x14,x15,x16,x17,x18,x19,x20,x21,x22,x23,x24,x25,x26,x27,x28,x29,x30,x31,x32,x33,x34,x35,())).bind λv=>some (v)
theorem h41(f57:T57):qp (K41 f57) 1 f41 .nil je qw (F41 f57):=λv=>by kernel_rfl
def C41:T41:=F41 C57
theorem ok41:FO 41 (E41 C41) :=
 q0 (kc ok57 kn) func41 (h41 C57)
abbrev T42:=Int×List (qa)×qb×qc×qd×qa×Bool×qa×qa×List (qa)×Bool×Bool×Bool×Int×Int×Int×Bool×qa×qa×Int×Bool×Int×Int×Bool×Bool×Int×Int×Bool×qa×qa×Bool×qa×qa×Bool×Bool×Int×Unit->Option (List ((Int×qa))×qb×qc×qd×qa×Bool×qa×qa×List (qa)×Bool×Bool×Bool×Int×Int×Int×Bool×qa×qa×Int×Bool×Int×Int×Bool×Bool×Int×Int×Bool×qa×qa×Bool×qa×qa×Bool×Bool×Int×Unit)
def E42(f:T42):FEnt:=⟨je,qw,f⟩
def K42(f58:T58):=lk [(58,E58 f58)]
def F42(f58:T58):T42:=λ(x0,x1,x2,x3,x4,x5,x6,x7,x8,x9,x10,x11,x12,x13,x14,x15,x16,x17,x18,x19,x20,x21,x22,x23,x24,x25,x26,x27,x28,x29,x30,x31,x32,x33,x34,x35,_)=>(f58 (1,0,x2,x3,x4,x5,x6,x7,x8,x9,x10,x11,x12,x13,x14,x15,x16,x17,x18,x19,x20,x21,x22,x23,x24,x25,x26,x27,x28,x29,x30,x31,x32,x33,x34,x35,())).bind λv=>some (v)
theorem h42(f58:T58):qp (K42 f58) 1 f42 .nil je qw (F42 f58):=λv=>by kernel_rfl
def C42:T42:=F42 C58
theorem ok42:FO 42 (E42 C42) :=
 q0 (kc ok58 kn) func42 (h42 C58)
abbrev T14_c0:=Int×Bool×qb×qc×qd×qa×Bool×qa×qa×List (qa)×Bool×Bool×Bool×Int×Int×Int×Bool×qa×qa×Int×Bool×Int×Int×Bool×Bool×Int×Int×Bool×qa×qa×Bool×qa×qa×Bool×Bool×Int×Int×List (qa)×Unit->Option ((List ((Int×qa))×qb×qc×qd×qa×Bool×qa×qa×List (qa)×Bool×Bool×Bool×Int×Int×Int×Bool×qa×qa×Int×Bool×Int×Int×Bool×Bool×Int×Int×Bool×qa×qa×Bool×qa×qa×Bool×Bool×Int×Unit)⊕(qb×qc×qd×qa×Bool×qa×qa×List (qa)×Bool×Bool×Bool×Int×Int×Int×Bool×qa×qa×Int×Bool×Int×Int×Bool×Bool×Int×Int×Bool×qa×qa×Bool×qa×qa×Bool×Bool×Int×Int×List (qa)×Unit))
def E14_c0(f:T14_c0):LEnt:=⟨q3r,xz,f⟩
abbrev T14_c1:=Int×Bool×qb×qc×qd×qa×Bool×qa×qa×List (qa)×Bool×Bool×Bool×Int×Int×Int×Bool×qa×qa×Int×Bool×Int×Int×Bool×Bool×Int×Int×Bool×qa×qa×Bool×qa×qa×Bool×Bool×Int×Int×List (qa)×Unit->Option ((List ((Int×qa))×qb×qc×qd×qa×Bool×qa×qa×List (qa)×Bool×Bool×Bool×Int×Int×Int×Bool×qa×qa×Int×Bool×Int×Int×Bool×Bool×Int×Int×Bool×qa×qa×Bool×qa×qa×Bool×Bool×Int×Unit)⊕(qb×qc×qd×qa×Bool×qa×qa×List (qa)×Bool×Bool×Bool×Int×Int×Int×Bool×qa×qa×Int×Bool×Int×Int×Bool×Bool×Int×Int×Bool×qa×qa×Bool×qa×qa×Bool×Bool×Int×Int×List (qa)×Unit))
def E14_c1(f:T14_c1):LEnt:=⟨q3s,xz,f⟩
abbrev T14:=Int×List (qa)×qb×qc×qd×qa×Bool×qa×qa×List (qa)×Bool×Bool×Bool×Int×Int×Int×Bool×qa×qa×Int×Bool×Int×Int×Bool×Bool×Int×Int×Bool×qa×qa×Bool×qa×qa×Bool×Bool×Int×Unit->Option (List ((Int×qa))×qb×qc×qd×qa×Bool×qa×qa×List (qa)×Bool×Bool×Bool×Int×Int×Int×Bool×qa×qa×Int×Bool×Int×Int×Bool×Bool×Int×Int×Bool×qa×qa×Bool×qa×qa×Bool×Bool×Int×Unit)
def E14(f:T14):FEnt:=⟨je,qw,f⟩
def K14(f34:T34)(f35:T35)(f36:T36)(f37:T37)(f38:T38)(f39:T39)(f40:T40)(f41:T41)(f42:T42):=lk [(34,E34 f34),(35,E35 f35),(36,E36 f36),(37,E37 f37),(38,E38 f38),(39,E39 f39),(40,E40 f40),(41,E41 f41),(42,E42 f42)]
theorem kok14:KOk prog (K14 C34 C35 C36 C37 C38 C39 C40 C41 C42):=(kc ok34 (kc ok35 (kc ok36 (kc ok37 (kc ok38 (kc ok39 (kc ok40 (kc ok41 (kc ok42 kn)))))))))
def F14_c0(f34:T34)(f35:T35)(f36:T36)(f37:T37)(f38:T38)(f39:T39)(f40:T40)(f41:T41)(f42:T42):T14_c0:=λ(x0,x1,x2,x3,x4,x5,x6,x7,x8,x9,x10,x11,x12,x13,x14,x15,x16,x17,x18,x19,x20,x21,x22,x23,x24,x25,x26,x27,x28,x29,x30,x31,x32,x33,x34,x35,x36,x37,_)=>bif x1 then(f35 (x2,x3,x4,x5,x6,x7,x8,x9,x10,x11,x12,x13,x14,x15,x16,x17,x18,x19,x20,x21,x22,x23,x24,x25,x26,x27,x28,x29,x30,x31,x32,x33,x34,x35,())).bind λv=>some (Sum.inl (v))else bif x0==5 then(f36 (x2,x3,x4,x5,x6,x7,x8,x9,x10,x11,x12,x13,x14,x15,x16,x17,x18,x19,x20,x21,x22,x23,x24,x25,x26,x27,x28,x29,x30,x31,x32,x33,x34,x35,())).bind λv=>some (Sum.inl (v))else bif x0 != 2 then(f37 (x36,x37,x2,x3,x4,x5,x6,x7,x8,x9,x10,x11,x12,x13,x14,x15,x16,x17,x18,x19,x20,x21,x22,x23,x24,x25,x26,x27,x28,x29,x30,x31,x32,x33,x34,x35,())).bind λv=>some (Sum.inl (v))else some (Sum.inr (x2,x3,x4,x5,x6,x7,x8,x9,x10,x11,x12,x13,x14,x15,x16,x17,x18,x19,x20,x21,x22,x23,x24,x25,x26,x27,x28,x29,x30,x31,x32,x33,x34,x35,x36,x37,()))
theorem h14_c0(f34:T34)(f35:T35)(f36:T36)(f37:T37)(f38:T38)(f39:T39)(f40:T40)(f41:T41)(f42:T42):jd (K14 f34 f35 f36 f37 f38 f39 f40 f41 f42) 1 (subc (code f14) [1,1,0,0,1,1,1]) .nil q3r xz (F14_c0 f34 f35 f36 f37 f38 f39 f40 f41 f42):=λv=>by kernel_rfl
def C14_c0:T14_c0:=F14_c0 C34 C35 C36 C37 C38 C39 C40 C41 C42
theorem k14_c0:ql 1 (subc (code f14) [1,1,0,0,1,1,1]) (E14_c0 C14_c0) :=
 yc kok14 (h14_c0 C34 C35 C36 C37 C38 C39 C40 C41 C42)
def N14_c1(f14_c0:T14_c0):Ann:=(.cond .nil (.cut .nil (E14_c0 f14_c0)))
def F14_c1(f34:T34)(f35:T35)(f36:T36)(f37:T37)(f38:T38)(f39:T39)(f40:T40)(f41:T41)(f42:T42)(f14_c0:T14_c0):T14_c1:=λ(x0,x1,x2,x3,x4,x5,x6,x7,x8,x9,x10,x11,x12,x13,x14,x15,x16,x17,x18,x19,x20,x21,x22,x23,x24,x25,x26,x27,x28,x29,x30,x31,x32,x33,x34,x35,x36,x37,_)=>bif x1 then some (Sum.inl ([],x2,x3,x4,x5,x6,x7,x8,x9,x10,x11,x12,x13,x14,x15,x16,x17,x18,x19,x20,x21,x22,x23,x24,x25,x26,x27,x28,x29,x30,x31,x32,x33,x34,x35,()))else bif x0==3 then(f14_c0 (x0,x19==4,x2,x3,x4,x5,x6,x7,x8,x9,x10,x11,x12,x13,x14,x15,x16,x17,x18,x19,x20,x21,x22,x23,x24,x25,x26,x27,x28,x29,x30,x31,x32,x33,x34,x35,x36,x37,())).bind λv=>Sum.elim (λv=>some (Sum.inl (v))) (λv=>some (Sum.inr (v))) v else(f14_c0 (x0,false,x2,x3,x4,x5,x6,x7,x8,x9,x10,x11,x12,x13,x14,x15,x16,x17,x18,x19,x20,x21,x22,x23,x24,x25,x26,x27,x28,x29,x30,x31,x32,x33,x34,x35,x36,x37,())).bind λv=>Sum.elim (λv=>some (Sum.inl (v))) (λv=>some (Sum.inr (v))) v
theorem h14_c1(f34:T34)(f35:T35)(f36:T36)(f37:T37)(f38:T38)(f39:T39)(f40:T40)(f41:T41)(f42:T42)(f14_c0:T14_c0):jd (K14 f34 f35 f36 f37 f38 f39 f40 f41 f42) 1 (subc (code f14) [1,1,0,0,1]) (N14_c1 f14_c0) q3s xz (F14_c1 f34 f35 f36 f37 f38 f39 f40 f41 f42 f14_c0):=λv=>by kernel_rfl
def C14_c1:T14_c1:=F14_c1 C34 C35 C36 C37 C38 C39 C40 C41 C42 C14_c0
theorem k14_c1:ql 1 (subc (code f14) [1,1,0,0,1]) (E14_c1 C14_c1) :=
 zc kok14 (And.intro k14_c0 trivial) (h14_c1 C34 C35 C36 C37 C38 C39 C40 C41 C42 C14_c0)
def N14(f14_c1:T14_c1):Ann:=(.seq .nil (.seq .nil (.seq (.blk (.cut .nil (E14_c1 f14_c1))) .nil)))
def Q14:qb×qc×qd×qa×Bool×qa×qa×List (qa)×Bool×Bool×Bool×Int×Int×Int×Bool×qa×qa×Int×Bool×Int×Int×Bool×Bool×Int×Int×Bool×qa×qa×Bool×qa×qa×Bool×Bool×Int×Int×List (qa)×Unit->qb×qc×qd×qa×Bool×qa×qa×List (qa)×Bool×Bool×Bool×Int×Int×Int×Bool×qa×qa×Int×Bool×Int×Int×Bool×Bool×Int×Int×Bool×qa×qa×Bool×qa×qa×Bool×Bool×Int×Unit:=λ(x0,x1,x2,x3,x4,x5,x6,x7,x8,x9,x10,x11,x12,x13,x14,x15,x16,x17,x18,x19,x20,x21,x22,x23,x24,x25,x26,x27,x28,x29,x30,x31,x32,x33,x34,x35,_)=>(x0,x1,x2,x3,x4,x5,x6,x7,x8,x9,x10,x11,x12,x13,x14,x15,x16,x17,x18,x19,x20,x21,x22,x23,x24,x25,x26,x27,x28,x29,x30,x31,x32,x33,())
def F14(f34:T34)(f35:T35)(f36:T36)(f37:T37)(f38:T38)(f39:T39)(f40:T40)(f41:T41)(f42:T42)(f14_c1:T14_c1):T14:=λ(x0,x1,x2,x3,x4,x5,x6,x7,x8,x9,x10,x11,x12,x13,x14,x15,x16,x17,x18,x19,x20,x21,x22,x23,x24,x25,x26,x27,x28,x29,x30,x31,x32,x33,x34,x35,_)=>(f34 (x0,())).bind λv=>bif x19==6 then(f14_c1 (v.1,true,x2,x3,x4,x5,x6,x7,x8,x9,x10,x11,x12,x13,x14,x15,x16,x17,x18,x19,x20,x21,x22,x23,x24,x25,x26,x27,x28,x29,x30,x31,x32,x33,x34,x35,x0,x1,())).bind λv=>Sum.elim (λv=>some (v)) (λv=>bif decide (v.2.2.2.2.2.2.2.2.2.2.2.2.2.2.2.2.2.1=(↑0:Int))then(f38 (v.2.2.2.2.2.2.2.2.2.2.2.2.2.2.2.2.2.2.2.2.2.2.2.2.2.2.2.2.2.2.2.2.2.2.1,v.2.2.2.2.2.2.2.2.2.2.2.2.2.2.2.2.2.2.2.2.2.2.2.2.2.2.2.2.2.2.2.2.2.2.2.1,(Q14 v))).bind λv=>some (v)else bif decide (v.2.2.2.2.2.2.2.2.2.2.2.2.2.2.2.2.2.1=(↑1:Int))then(f39 (v.2.2.2.2.2.2.2.2.2.2.2.2.2.2.2.2.2.2.2.2.2.2.2.2.2.2.2.2.2.2.2.2.2.2.1,v.2.2.2.2.2.2.2.2.2.2.2.2.2.2.2.2.2.2.2.2.2.2.2.2.2.2.2.2.2.2.2.2.2.2.2.1,(Q14 v))).bind λv=>some (v)else bif decide (v.2.2.2.2.2.2.2.2.2.2.2.2.2.2.2.2.2.1=(↑2:Int))then(f40 (v.2.2.2.2.2.2.2.2.2.2.2.2.2.2.2.2.2.2.2.2.2.2.2.2.2.2.2.2.2.2.2.2.2.2.1,v.2.2.2.2.2.2.2.2.2.2.2.2.2.2.2.2.2.2.2.2.2.2.2.2.2.2.2.2.2.2.2.2.2.2.2.1,(Q14 v))).bind λv=>some (v)else bif decide (v.2.2.2.2.2.2.2.2.2.2.2.2.2.2.2.2.2.1=(↑3:Int))then(f41 (v.2.2.2.2.2.2.2.2.2.2.2.2.2.2.2.2.2.2.2.2.2.2.2.2.2.2.2.2.2.2.2.2.2.2.1,v.2.2.2.2.2.2.2.2.2.2.2.2.2.2.2.2.2.2.2.2.2.2.2.2.2.2.2.2.2.2.2.2.2.2.2.1,(Q14 v))).bind λv=>some (v)else bif decide (v.2.2.2.2.2.2.2.2.2.2.2.2.2.2.2.2.2.1=(↑4:Int))then(f37 (v.2.2.2.2.2.2.2.2.2.2.2.2.2.2.2.2.2.2.2.2.2.2.2.2.2.2.2.2.2.2.2.2.2.2.1,v.2.2.2.2.2.2.2.2.2.2.2.2.2.2.2.2.2.2.2.2.2.2.2.2.2.2.2.2.2.2.2.2.2.2.2.1,(Q14 v))).bind λv=>some (v)else bif decide (v.2.2.2.2.2.2.2.2.2.2.2.2.2.2.2.2.2.1=(↑5:Int))then(f42 (v.2.2.2.2.2.2.2.2.2.2.2.2.2.2.2.2.2.2.2.2.2.2.2.2.2.2.2.2.2.2.2.2.2.2.1,v.2.2.2.2.2.2.2.2.2.2.2.2.2.2.2.2.2.2.2.2.2.2.2.2.2.2.2.2.2.2.2.2.2.2.2.1,(Q14 v))).bind λv=>some (v)else none) v else(f14_c1 (v.1,v.1==0,x2,x3,x4,x5,x6,x7,x8,x9,x10,x11,x12,x13,x14,x15,x16,x17,x18,x19,x20,x21,x22,x23,x24,x25,x26,x27,x28,x29,x30,x31,x32,x33,x34,x35,x0,x1,())).bind λv=>Sum.elim (λv=>some (v)) (λv=>bif decide (v.2.2.2.2.2.2.2.2.2.2.2.2.2.2.2.2.2.1=(↑0:Int))then(f38 (v.2.2.2.2.2.2.2.2.2.2.2.2.2.2.2.2.2.2.2.2.2.2.2.2.2.2.2.2.2.2.2.2.2.2.1,v.2.2.2.2.2.2.2.2.2.2.2.2.2.2.2.2.2.2.2.2.2.2.2.2.2.2.2.2.2.2.2.2.2.2.2.1,(Q14 v))).bind λv=>some (v)else bif decide (v.2.2.2.2.2.2.2.2.2.2.2.2.2.2.2.2.2.1=(↑1:Int))then(f39 (v.2.2.2.2.2.2.2.2.2.2.2.2.2.2.2.2.2.2.2.2.2.2.2.2.2.2.2.2.2.2.2.2.2.2.1,v.2.2.2.2.2.2.2.2.2.2.2.2.2.2.2.2.2.2.2.2.2.2.2.2.2.2.2.2.2.2.2.2.2.2.2.1,(Q14 v))).bind λv=>some (v)else bif decide (v.2.2.2.2.2.2.2.2.2.2.2.2.2.2.2.2.2.1=(↑2:Int))then(f40 (v.2.2.2.2.2.2.2.2.2.2.2.2.2.2.2.2.2.2.2.2.2.2.2.2.2.2.2.2.2.2.2.2.2.2.1,v.2.2.2.2.2.2.2.2.2.2.2.2.2.2.2.2.2.2.2.2.2.2.2.2.2.2.2.2.2.2.2.2.2.2.2.1,(Q14 v))).bind λv=>some (v)else bif decide (v.2.2.2.2.2.2.2.2.2.2.2.2.2.2.2.2.2.1=(↑3:Int))then(f41 (v.2.2.2.2.2.2.2.2.2.2.2.2.2.2.2.2.2.2.2.2.2.2.2.2.2.2.2.2.2.2.2.2.2.2.1,v.2.2.2.2.2.2.2.2.2.2.2.2.2.2.2.2.2.2.2.2.2.2.2.2.2.2.2.2.2.2.2.2.2.2.2.1,(Q14 v))).bind λv=>some (v)else bif decide (v.2.2.2.2.2.2.2.2.2.2.2.2.2.2.2.2.2.1=(↑4:Int))then(f37 (v.2.2.2.2.2.2.2.2.2.2.2.2.2.2.2.2.2.2.2.2.2.2.2.2.2.2.2.2.2.2.2.2.2.2.1,v.2.2.2.2.2.2.2.2.2.2.2.2.2.2.2.2.2.2.2.2.2.2.2.2.2.2.2.2.2.2.2.2.2.2.2.1,(Q14 v))).bind λv=>some (v)else bif decide (v.2.2.2.2.2.2.2.2.2.2.2.2.2.2.2.2.2.1=(↑5:Int))then(f42 (v.2.2.2.2.2.2.2.2.2.2.2.2.2.2.2.2.2.2.2.2.2.2.2.2.2.2.2.2.2.2.2.2.2.2.1,v.2.2.2.2.2.2.2.2.2.2.2.2.2.2.2.2.2.2.2.2.2.2.2.2.2.2.2.2.2.2.2.2.2.2.2.1,(Q14 v))).bind λv=>some (v)else none) v
theorem h14(f34:T34)(f35:T35)(f36:T36)(f37:T37)(f38:T38)(f39:T39)(f40:T40)(f41:T41)(f42:T42)(f14_c1:T14_c1):qp (K14 f34 f35 f36 f37 f38 f39 f40 f41 f42) 1 f14 (N14 f14_c1) je qw (F14 f34 f35 f36 f37 f38 f39 f40 f41 f42 f14_c1):=λv=>by kernel_rfl
def C14:T14:=F14 C34 C35 C36 C37 C38 C39 C40 C41 C42 C14_c1
theorem ok14:FO 14 (E14 C14) :=
 qo kok14 func14 (And.intro k14_c1 trivial) (h14 C34 C35 C36 C37 C38 C39 C40 C41 C42 C14_c1)
abbrev T15:=qb×qc×qd×qa×Bool×qa×qa×List (qa)×Bool×Bool×Bool×Int×Int×Int×Bool×qa×qa×Int×Bool×Int×Int×Bool×Bool×Int×Int×Bool×qa×qa×Bool×qa×qa×Bool×Bool×Int×Unit->Option (Int×Int×qb×qc×qd×qa×Bool×qa×qa×List (qa)×Bool×Bool×Bool×Int×Int×Int×Bool×qa×qa×Int×Bool×Int×Int×Bool×Bool×Int×Int×Bool×qa×qa×Bool×qa×qa×Bool×Bool×Int×Unit)
def E15(f:T15):FEnt:=⟨qy,q7e,f⟩
def F15:T15:=λ(x0,x1,x2,x3,x4,x5,x6,x7,x8,x9,x10,x11,x12,x13,x14,x15,x16,x17,x18,x19,x20,x21,x22,x23,x24,x25,x26,x27,x28,x29,x30,x31,x32,x33,_)=>some (x19,x20,x0,x1,x2,x3,x4,x5,x6,x7,x8,x9,x10,x11,x12,x13,x14,x15,x16,x17,x18,x19,x20,x21,x22,x23,x24,x25,x26,x27,x28,x29,x30,x31,x32,x33,())
theorem h15:qp qu 1 f15 .nil qy q7e (F15):=λv=>by kernel_rfl
def C15:T15:=F15
theorem ok15:FO 15 (E15 C15) :=
 q0 kn func15 (h15)
abbrev T13:=qb×qc×qd×qa×Bool×qa×qa×List (qa)×Bool×Bool×Bool×Int×Int×Int×Bool×qa×qa×Int×Bool×Int×Int×Bool×Bool×Int×Int×Bool×qa×qa×Bool×qa×qa×Bool×Bool×Int×Unit->Option (Int×qb×qc×qd×qa×Bool×qa×qa×List (qa)×Bool×Bool×Bool×Int×Int×Int×Bool×qa×qa×Int×Bool×Int×Int×Bool×Bool×Int×Int×Bool×qa×qa×Bool×qa×qa×Bool×Bool×Int×Unit)
def E13(f:T13):FEnt:=⟨qy,q7f,f⟩
def F13:T13:=λ(x0,x1,x2,x3,x4,x5,x6,x7,x8,x9,x10,x11,x12,x13,x14,x15,x16,x17,x18,x19,x20,x21,x22,x23,x24,x25,x26,x27,x28,x29,x30,x31,x32,x33,_)=>some (x17,x0,x1,x2,x3,x4,x5,x6,x7,x8,x9,x10,x11,x12,x13,x14,x15,x16,x17,x18,x19,x20,x21,x22,x23,x24,x25,x26,x27,x28,x29,x30,x31,x32,x33,())
theorem h13:qp qu 1 f13 .nil qy q7f (F13):=λv=>by kernel_rfl
def C13:T13:=F13
theorem ok13:FO 13 (E13 C13) :=
 q0 kn func13 (h13)
abbrev T24:=qb×qc×qd×qa×Bool×qa×qa×List (qa)×Bool×Bool×Bool×Int×Int×Int×Bool×qa×qa×Int×Bool×Int×Int×Bool×Bool×Int×Int×Bool×qa×qa×Bool×qa×qa×Bool×Bool×Int×Unit->Option (Bool×Bool×Int×qb×qc×qd×qa×Bool×qa×qa×List (qa)×Bool×Bool×Bool×Int×Int×Int×Bool×qa×qa×Int×Bool×Int×Int×Bool×Bool×Int×Int×Bool×qa×qa×Bool×qa×qa×Bool×Bool×Int×Unit)
def E24(f:T24):FEnt:=⟨qy,q7g,f⟩
def F24:T24:=λ(x0,x1,x2,x3,x4,x5,x6,x7,x8,x9,x10,x11,x12,x13,x14,x15,x16,x17,x18,x19,x20,x21,x22,x23,x24,x25,x26,x27,x28,x29,x30,x31,x32,x33,_)=>some (x21,x22,x23,x0,x1,x2,x3,x4,x5,x6,x7,x8,x9,x10,x11,x12,x13,x14,x15,x16,x17,x18,x19,x20,x21,x22,x23,x24,x25,x26,x27,x28,x29,x30,x31,x32,x33,())
theorem h24:qp qu 1 f24 .nil qy q7g (F24):=λv=>by kernel_rfl
def C24:T24:=F24
theorem ok24:FO 24 (E24 C24) :=
 q0 kn func24 (h24)
abbrev T28:=qb×qc×qd×qa×Bool×qa×qa×List (qa)×Bool×Bool×Bool×Int×Int×Int×Bool×qa×qa×Int×Bool×Int×Int×Bool×Bool×Int×Int×Bool×qa×qa×Bool×qa×qa×Bool×Bool×Int×Unit->Option (Int×Bool×qa×qa×Bool×qa×qa×Bool×Bool×Int×qb×qc×qd×qa×Bool×qa×qa×List (qa)×Bool×Bool×Bool×Int×Int×Int×Bool×qa×qa×Int×Bool×Int×Int×Bool×Bool×Int×Int×Bool×qa×qa×Bool×qa×qa×Bool×Bool×Int×Unit)
def E28(f:T28):FEnt:=⟨qy,q7h,f⟩
def F28:T28:=λ(x0,x1,x2,x3,x4,x5,x6,x7,x8,x9,x10,x11,x12,x13,x14,x15,x16,x17,x18,x19,x20,x21,x22,x23,x24,x25,x26,x27,x28,x29,x30,x31,x32,x33,_)=>some (x24,x25,x26,x27,x28,x29,x30,x31,x32,x33,x0,x1,x2,x3,x4,x5,x6,x7,x8,x9,x10,x11,x12,x13,x14,x15,x16,x17,x18,x19,x20,x21,x22,x23,x24,x25,x26,x27,x28,x29,x30,x31,x32,x33,())
theorem h28:qp qu 1 f28 .nil qy q7h (F28):=λv=>by kernel_rfl
def C28:T28:=F28
theorem ok28:FO 28 (E28 C28) :=
 q0 kn func28 (h28)
abbrev T7:=Unit->Option (Bool×Unit)
def E7(f:T7):FEnt:=⟨vj,qe,f⟩
def K7(f11:T11)(f12:T12)(f13:T13)(f14:T14)(f15:T15)(f24:T24)(f28:T28):=lk [(11,E11 f11),(12,E12 f12),(13,E13 f13),(14,E14 f14),(15,E15 f15),(24,E24 f24),(28,E28 f28)]
def C7:T7:=λ_=>some (true,())
theorem h7:afun Γ (K7 C11 C12 C13 C14 C15 C24 C28) 0 f7.ntmps f7.results.toList (code f7) .nil (em id vj ()).1 (em id vj ()).2 (ofin 0 qe)=some (true,()):=by kernel_rfl
theorem ok7:FO 7 (E7 C7) :=
 q0 (kc ok11 (kc ok12 (kc ok13 (kc ok14 (kc ok15 (kc ok24 (kc ok28 kn))))))) func7 (λv=>h7)
abbrev T10:=qa×qa×Unit->Option (Bool×Unit)
def E10(f:T10):FEnt:=⟨yz,qe,f⟩
def F10:T10:=λ(x0,x1,_)=>bif decide ((↑x0.length:Int)<=150)then some (decide ((↑x1.length:Int)<=200),())else some (false,())
def C10:T10:=F10
theorem ok10:FO 10 (E10 C10):=zd yz qe qu F10 kn func10
abbrev T8_l0:=Int×Int×Bool×qa×qa×List ((Bool×(qa×qa)))×List (qa)×Bool×Bool×Bool×Int×Int×Int×Unit->Option (Int×Bool×qa×qa×List ((Bool×(qa×qa)))×List (qa)×Bool×Bool×Bool×Int×Int×Int×Unit)
def E8_l0(f:T8_l0):LEnt:=⟨q3u,q7i,f⟩
abbrev T8:=Bool×qa×qa×List ((Bool×(qa×qa)))×List (qa)×Bool×Bool×Bool×Int×Int×Int×Unit->Option (Bool×Unit)
def E8(f:T8):FEnt:=⟨q3t,qe,f⟩
def K8(f10:T10):=lk [(10,E10 f10)]
theorem kok8:KOk prog (K8 C10):=(kc ok10 kn)
def F8_l0(f10:T10):qn (Int×Int×Bool×qa×qa×List ((Bool×(qa×qa)))×List (qa)×Bool×Bool×Bool×Int×Int×Int×Unit) (Int×Bool×qa×qa×List ((Bool×(qa×qa)))×List (qa)×Bool×Bool×Bool×Int×Int×Int×Unit):=λ(x0,x1,x2,x3,x4,x5,x6,x7,x8,x9,x10,x11,x12,_)=>bif decide (x1<(↑x6.length:Int))then bif decide (0<=x1)&&decide (x1<(↑x6.length:Int))then some (Sum.inl (IntKind.i64.wrap (IntKind.i64.wrap (x0+(↑(List.length (x6.getD x1.toNat [])):Int))+1),IntKind.i64.wrap (x1+1),x2,x3,x4,x5,x6,x7,x8,x9,x10,x11,x12,()))else none else some (Sum.inr (x0,x2,x3,x4,x5,x6,x7,x8,x9,x10,x11,x12,()))
def C8_l0:T8_l0:=loopN (F8_l0 C10) big
theorem k8_l0:qg 0 (subc (code f8) [1,1,0,1,0,0]) (E8_l0 C8_l0):=zg q3u q7i K8 F8_l0 C10 kok8
def N8(f8_l0:T8_l0):Ann:=(.seq .nil (.seq .nil (.seq (.seq .nil (.blk (.loop (E8_l0 f8_l0)))) .nil)))
def F8(f10:T10)(f8_l0:T8_l0):T8:=λ(x0,x1,x2,x3,x4,x5,x6,x7,x8,x9,x10,_)=>(f8_l0 (0,0,x0,x1,x2,x3,x4,x5,x6,x7,x8,x9,x10,())).bind λv=>(f10 (v.2.2.1,v.2.2.2.1,())).bind λv1=>bif v1.1 then some (decide (v.1<=3000),())else some (false,())
def C8:T8:=F8 C10 C8_l0
theorem ok8:FO 8 (E8 C8):=qx q3t qe K8 N8 F8 C10 C8_l0 kok8 func8 (And.intro k8_l0 trivial)
abbrev T9_l0:=List ((Int×List (qa)))×Int×Int×Unit->Option ((List ((Int×List (qa)))×Int×Unit)⊕(Bool×Unit))
def E9_l0(f:T9_l0):LEnt:=⟨q3w,q7j,f⟩
abbrev T9_l1:=List ((Int×List (qa)))×Int×Unit->Option ((List ((Int×List (qa)))×Unit)⊕(Bool×Unit))
def E9_l1(f:T9_l1):LEnt:=⟨q3x,q7k,f⟩
abbrev T9:=List ((Int×List (qa)))×Unit->Option (Bool×Unit)
def E9(f:T9):FEnt:=⟨q3v,qe,f⟩
def F9_l0:qn (List ((Int×List (qa)))×Int×Int×Unit) ((List ((Int×List (qa)))×Int×Unit)⊕(Bool×Unit)):=λ(x0,x1,x2,_)=>bif decide (0<=x1)&&decide (x1<(↑x0.length:Int))then bif decide (x2<(↑(List.length (x0.getD x1.toNat (0,[])).2):Int))then bif decide (0<=x1)&&decide (x1<(↑x0.length:Int))then bif decide (0<=x2)&&decide (x2<(↑(List.length (x0.getD x1.toNat (0,[])).2):Int))then bif decide ((↑(List.length (List.getD (x0.getD x1.toNat (0,[])).2 x2.toNat [])):Int)>200)then some (Sum.inr (Sum.inr (false,())))else some (Sum.inl (x0,x1,IntKind.i64.wrap (x2+1),()))else none else none else some (Sum.inr (Sum.inl (x0,x1,())))else none
def C9_l0:T9_l0:=loopN (F9_l0) big
theorem k9_l0:qg 0 (subc (code f9) [1,0,1,0,0,1,0,0,1,1,0,0]) (E9_l0 C9_l0):=zl0 q3w q7j qu F9_l0 kn
def N9_l1(f9_l0:T9_l0):Ann:=(.seq .nil (.seq (.blk (.seq .nil (.seq .nil (.blk (.loop (E9_l0 f9_l0)))))) .nil))
def F9_l1(f9_l0:T9_l0):qn (List ((Int×List (qa)))×Int×Unit) ((List ((Int×List (qa)))×Unit)⊕(Bool×Unit)):=λ(x0,x1,_)=>bif decide (x1<(↑x0.length:Int))then bif decide (0<=x1)&&decide (x1<(↑x0.length:Int))then bif decide ((↑(List.length (x0.getD x1.toNat (0,[])).2):Int)>20)then some (Sum.inr (Sum.inr (false,())))else(f9_l0 (x0,x1,0,())).bind λv=>Sum.elim (λv=>some (Sum.inl (v.1,IntKind.i64.wrap (v.2.1+1),()))) (λv=>some (Sum.inr (Sum.inr (v.1,())))) v else none else some (Sum.inr (Sum.inl (x0,())))
theorem h9_l1(f9_l0:T9_l0):jv qu 0 (subc (code f9) [1,0,1,0,0]) (N9_l1 f9_l0) q3x q7k (F9_l1 f9_l0):=λv=>by kernel_rfl
def C9_l1:T9_l1:=loopN (F9_l1 C9_l0) big
theorem k9_l1:qg 0 (subc (code f9) [1,0,1,0,0]) (E9_l1 C9_l1) :=
 vy kn (And.intro k9_l0 trivial) (h9_l1 C9_l0)
def N9(f9_l1:T9_l1):Ann:=(.seq .nil (.seq (.seq .nil (.blk (.loop (E9_l1 f9_l1)))) .nil))
def F9(f9_l1:T9_l1):T9:=λ(x0,_)=>(f9_l1 (x0,0,())).bind λv=>Sum.elim (λv=>some (decide ((↑(List.length v.1):Int)<=30),())) (λv=>some (v.1,())) v
def C9:T9:=F9 C9_l1
theorem ok9:FO 9 (E9 C9):=ji q3v qe qu N9 F9 C9_l1 kn func9 (And.intro k9_l1 trivial)
abbrev T16:=qb×qc×qd×qa×Bool×qa×qa×List (qa)×Bool×Bool×Bool×Int×Int×Int×Bool×qa×qa×Int×Bool×Int×Int×Bool×Bool×Int×Int×Bool×qa×qa×Bool×qa×qa×Bool×Bool×Int×Unit->Option (qb×qc×qd×qa×Bool×qa×qa×List (qa)×Bool×Bool×Bool×Int×Int×Int×Bool×qa×qa×Int×Bool×Int×Int×Bool×Bool×Int×Int×Bool×qa×qa×Bool×qa×qa×Bool×Bool×Int×Unit)
def E16(f:T16):FEnt:=⟨qy,q7l,f⟩
def F16:T16:=λ(x0,x1,x2,x3,x4,x5,x6,x7,x8,x9,x10,x11,x12,x13,x14,x15,x16,x17,x18,x19,x20,x21,x22,x23,x24,x25,x26,x27,x28,x29,x30,x31,x32,x33,_)=>bif x17 != 6 then some (x0,x1,x2,x3,x4,x5,x6,x7,x8,x9,x10,x11,x12,x13,x14,x15,x16,6,x18,2,x20,x21,x22,x23,x24,x25,x26,x27,x28,x29,x30,x31,x32,x33,())else some (x0,x1,x2,x3,x4,x5,x6,x7,x8,x9,x10,x11,x12,x13,x14,x15,x16,x17,x18,x19,x20,x21,x22,x23,x24,x25,x26,x27,x28,x29,x30,x31,x32,x33,())
theorem h16:qp qu 1 f16 .nil qy q7l (F16):=λv=>by kernel_rfl
def C16:T16:=F16
theorem ok16:FO 16 (E16 C16) :=
 q0 kn func16 (h16)
abbrev T3_c0:=List ((Int×List (qa)))×Bool×Int×Int×List ((Int×qa))×Bool×Int×List (qa)×qb×qc×qd×qa×Bool×qa×qa×List (qa)×Bool×Bool×Bool×Int×Int×Int×Bool×qa×qa×Int×Bool×Int×Int×Bool×Bool×Int×Int×Bool×qa×qa×Bool×qa×qa×Bool×Bool×Int×Unit->Option ((Bool×Unit)⊕(List ((Int×List (qa)))×Bool×Int×Int×Int×List (qa)×qb×qc×qd×qa×Bool×qa×qa×List (qa)×Bool×Bool×Bool×Int×Int×Int×Bool×qa×qa×Int×Bool×Int×Int×Bool×Bool×Int×Int×Bool×qa×qa×Bool×qa×qa×Bool×Bool×Int×Unit))
def E3_c0(f:T3_c0):LEnt:=⟨q3z,q7m,f⟩
abbrev T3_l0:=List ((Int×List (qa)))×Bool×Int×Int×Int×List (qa)×qb×qc×qd×qa×Bool×qa×qa×List (qa)×Bool×Bool×Bool×Int×Int×Int×Bool×qa×qa×Int×Bool×Int×Int×Bool×Bool×Int×Int×Bool×qa×qa×Bool×qa×qa×Bool×Bool×Int×Unit->Option ((Bool×Int×Int×List (qa)×qb×qc×qd×qa×Bool×qa×qa×List (qa)×Bool×Bool×Bool×Int×Int×Int×Bool×qa×qa×Int×Bool×Int×Int×Bool×Bool×Int×Int×Bool×qa×qa×Bool×qa×qa×Bool×Bool×Int×Unit)⊕(Bool×Unit))
def E3_l0(f:T3_l0):LEnt:=⟨q4a,q7n,f⟩
abbrev T3_c1:=List ((Int×List (qa)))×Bool×Int×List (qa)×qb×qc×qd×qa×Bool×qa×qa×List (qa)×Bool×Bool×Bool×Int×Int×Int×Bool×qa×qa×Int×Bool×Int×Int×Bool×Bool×Int×Int×Bool×qa×qa×Bool×qa×qa×Bool×Bool×Int×Unit->Option (Bool×Unit)
def E3_c1(f:T3_c1):LEnt:=⟨q4b,q7o,f⟩
abbrev T3:=Bool×qa×qa×List ((Bool×(qa×qa)))×List (qa)×Bool×Bool×Bool×Int×Int×Int×Bool×qa×qa×List ((Int×List (qa)))×Int×List (qa)×Unit->Option (Bool×Unit)
def E3(f:T3):FEnt:=⟨q3y,qe,f⟩
def K3(f10:T10)(f11:T11)(f12:T12)(f13:T13)(f14:T14)(f15:T15)(f16:T16)(f7:T7)(f8:T8)(f9:T9):=lk [(10,E10 f10),(11,E11 f11),(12,E12 f12),(13,E13 f13),(14,E14 f14),(15,E15 f15),(16,E16 f16),(7,E7 f7),(8,E8 f8),(9,E9 f9)]
theorem kok3:KOk prog (K3 C10 C11 C12 C13 C14 C15 C16 C7 C8 C9):=(kc ok10 (kc ok11 (kc ok12 (kc ok13 (kc ok14 (kc ok15 (kc ok16 (kc ok7 (kc ok8 (kc ok9 kn))))))))))
def F3_c0(f10:T10)(f11:T11)(f12:T12)(f13:T13)(f14:T14)(f15:T15)(f16:T16)(f7:T7)(f8:T8)(f9:T9):T3_c0:=λ(x0,x1,x2,x3,x4,x5,x6,x7,x8,x9,x10,x11,x12,x13,x14,x15,x16,x17,x18,x19,x20,x21,x22,x23,x24,x25,x26,x27,x28,x29,x30,x31,x32,x33,x34,x35,x36,x37,x38,x39,x40,x41,_)=>bif x5 then bif(↑x4.length:Int) != 1 then some (Sum.inl (false,()))else bif decide (0<(↑x4.length:Int))then bif !(x4.getD 0 (0,[])).2==[81,85,73,84]then some (Sum.inl (false,()))else some (Sum.inr (x0,x1,IntKind.i64.wrap (x2+1),x3,x6,x7,x8,x9,x10,x11,x12,x13,x14,x15,x16,x17,x18,x19,x20,x21,x22,x23,x24,x25,x26,x27,x28,x29,x30,x31,x32,x33,x34,x35,x36,x37,x38,x39,x40,x41,()))else none else some (Sum.inr (x0,x1,x2,x3,x6,x7,x8,x9,x10,x11,x12,x13,x14,x15,x16,x17,x18,x19,x20,x21,x22,x23,x24,x25,x26,x27,x28,x29,x30,x31,x32,x33,x34,x35,x36,x37,x38,x39,x40,x41,()))
theorem h3_c0(f10:T10)(f11:T11)(f12:T12)(f13:T13)(f14:T14)(f15:T15)(f16:T16)(f7:T7)(f8:T8)(f9:T9):jd (K3 f10 f11 f12 f13 f14 f15 f16 f7 f8 f9) 0 (subc (code f3) [1,1,1,1,1,1,1,1,0,1,0,0,1,0,0,1,1,1,1]) .nil q3z q7m (F3_c0 f10 f11 f12 f13 f14 f15 f16 f7 f8 f9):=λv=>by kernel_rfl
def C3_c0:T3_c0:=F3_c0 C10 C11 C12 C13 C14 C15 C16 C7 C8 C9
theorem k3_c0:ql 0 (subc (code f3) [1,1,1,1,1,1,1,1,0,1,0,0,1,0,0,1,1,1,1]) (E3_c0 C3_c0) :=
 yc kok3 (h3_c0 C10 C11 C12 C13 C14 C15 C16 C7 C8 C9)
def N3_l0(f3_c0:T3_c0):Ann:=(.seq .nil (.seq (.blk (.seq .nil (.seq .nil (.seq .nil (.cut .nil (E3_c0 f3_c0)))))) .nil))
def F3_l0(f10:T10)(f11:T11)(f12:T12)(f13:T13)(f14:T14)(f15:T15)(f16:T16)(f7:T7)(f8:T8)(f9:T9)(f3_c0:T3_c0):qn (List ((Int×List (qa)))×Bool×Int×Int×Int×List (qa)×qb×qc×qd×qa×Bool×qa×qa×List (qa)×Bool×Bool×Bool×Int×Int×Int×Bool×qa×qa×Int×Bool×Int×Int×Bool×Bool×Int×Int×Bool×qa×qa×Bool×qa×qa×Bool×Bool×Int×Unit) ((Bool×Int×Int×List (qa)×qb×qc×qd×qa×Bool×qa×qa×List (qa)×Bool×Bool×Bool×Int×Int×Int×Bool×qa×qa×Int×Bool×Int×Int×Bool×Bool×Int×Int×Bool×qa×qa×Bool×qa×qa×Bool×Bool×Int×Unit)⊕(Bool×Unit)):=λ(x0,x1,x2,x3,x4,x5,x6,x7,x8,x9,x10,x11,x12,x13,x14,x15,x16,x17,x18,x19,x20,x21,x22,x23,x24,x25,x26,x27,x28,x29,x30,x31,x32,x33,x34,x35,x36,x37,x38,x39,_)=>bif decide (x3<(↑x0.length:Int))then(f13 (x6,x7,x8,x9,x10,x11,x12,x13,x14,x15,x16,x17,x18,x19,x20,x21,x22,x23,x24,x25,x26,x27,x28,x29,x30,x31,x32,x33,x34,x35,x36,x37,x38,x39,())).bind λv=>bif decide (0<=x3)&&decide (x3<(↑x0.length:Int))then(f14 ((x0.getD x3.toNat (0,[])).1,(x0.getD x3.toNat (0,[])).2,v.2)).bind λv1=>bif v.1==6 then bif decide ((↑(List.length v1.1):Int)>0)then some (Sum.inr (Sum.inr (false,())))else bif !v.1==6 then(f13 (v1.2)).bind λv=>(f3_c0 (x0,x1,x2,x3,v1.1,v.1==6,x4,x5,v.2)).bind λv=>Sum.elim (λv=>some (Sum.inr (Sum.inr (v.1,())))) (λv=>some (Sum.inl (v.1,v.2.1,v.2.2.1,IntKind.i64.wrap (v.2.2.2.1+1),v.2.2.2.2))) v else(f3_c0 (x0,x1,x2,x3,v1.1,false,x4,x5,v1.2)).bind λv=>Sum.elim (λv=>some (Sum.inr (Sum.inr (v.1,())))) (λv=>some (Sum.inl (v.1,v.2.1,v.2.2.1,IntKind.i64.wrap (v.2.2.2.1+1),v.2.2.2.2))) v else bif !v.1==6 then(f13 (v1.2)).bind λv=>(f3_c0 (x0,x1,x2,x3,v1.1,v.1==6,x4,x5,v.2)).bind λv=>Sum.elim (λv=>some (Sum.inr (Sum.inr (v.1,())))) (λv=>some (Sum.inl (v.1,v.2.1,v.2.2.1,IntKind.i64.wrap (v.2.2.2.1+1),v.2.2.2.2))) v else(f3_c0 (x0,x1,x2,x3,v1.1,false,x4,x5,v1.2)).bind λv=>Sum.elim (λv=>some (Sum.inr (Sum.inr (v.1,())))) (λv=>some (Sum.inl (v.1,v.2.1,v.2.2.1,IntKind.i64.wrap (v.2.2.2.1+1),v.2.2.2.2))) v else none else some (Sum.inr (Sum.inl (x1,x2,x4,x5,x6,x7,x8,x9,x10,x11,x12,x13,x14,x15,x16,x17,x18,x19,x20,x21,x22,x23,x24,x25,x26,x27,x28,x29,x30,x31,x32,x33,x34,x35,x36,x37,x38,x39,())))
theorem h3_l0(f10:T10)(f11:T11)(f12:T12)(f13:T13)(f14:T14)(f15:T15)(f16:T16)(f7:T7)(f8:T8)(f9:T9)(f3_c0:T3_c0):jv (K3 f10 f11 f12 f13 f14 f15 f16 f7 f8 f9) 0 (subc (code f3) [1,1,1,1,1,1,1,1,0,1,0,0]) (N3_l0 f3_c0) q4a q7n (F3_l0 f10 f11 f12 f13 f14 f15 f16 f7 f8 f9 f3_c0):=λv=>by kernel_rfl
def C3_l0:T3_l0:=loopN (F3_l0 C10 C11 C12 C13 C14 C15 C16 C7 C8 C9 C3_c0) big
theorem k3_l0:qg 0 (subc (code f3) [1,1,1,1,1,1,1,1,0,1,0,0]) (E3_l0 C3_l0) :=
 vy kok3 (And.intro k3_c0 trivial) (h3_l0 C10 C11 C12 C13 C14 C15 C16 C7 C8 C9 C3_c0)
def N3_c1(f3_l0:T3_l0):Ann:=(.seq .nil (.seq (.seq .nil (.blk (.loop (E3_l0 f3_l0)))) .nil))
def F3_c1(f10:T10)(f11:T11)(f12:T12)(f13:T13)(f14:T14)(f15:T15)(f16:T16)(f7:T7)(f8:T8)(f9:T9)(f3_l0:T3_l0):T3_c1:=λ(x0,x1,x2,x3,x4,x5,x6,x7,x8,x9,x10,x11,x12,x13,x14,x15,x16,x17,x18,x19,x20,x21,x22,x23,x24,x25,x26,x27,x28,x29,x30,x31,x32,x33,x34,x35,x36,x37,_)=>(f3_l0 (x0,x1,0,0,x2,x3,x4,x5,x6,x7,x8,x9,x10,x11,x12,x13,x14,x15,x16,x17,x18,x19,x20,x21,x22,x23,x24,x25,x26,x27,x28,x29,x30,x31,x32,x33,x34,x35,x36,x37,())).bind λv=>Sum.elim (λv=>(f15 (v.2.2.2.2)).bind λv1=>(f16 (v1.2.2)).bind λv2=>(f15 (v2)).bind λv3=>bif v.2.1==0 then bif v3.1 != 2 then some (false,())else bif v3.2.1 != 0 then some (false,())else bif decide (v.2.1>0)then bif v3.1 != v1.1 then some (false,())else bif v3.2.1 != v1.2.1 then some (false,())else bif decide (v.2.1>1)then some (false,())else bif v.1 then(f14 (v.2.2.1,v.2.2.2.1,v3.2.2)).bind λv=>bif(↑(List.length v.1):Int)==0 then(f13 (v.2)).bind λv=>some (v.1==6,())else some (false,())else some (false,())else bif decide (v.2.1>1)then some (false,())else bif v.1 then(f14 (v.2.2.1,v.2.2.2.1,v3.2.2)).bind λv=>bif(↑(List.length v.1):Int)==0 then(f13 (v.2)).bind λv=>some (v.1==6,())else some (false,())else some (false,())else bif decide (v.2.1>0)then bif v3.1 != v1.1 then some (false,())else bif v3.2.1 != v1.2.1 then some (false,())else bif decide (v.2.1>1)then some (false,())else bif v.1 then(f14 (v.2.2.1,v.2.2.2.1,v3.2.2)).bind λv=>bif(↑(List.length v.1):Int)==0 then(f13 (v.2)).bind λv=>some (v.1==6,())else some (false,())else some (false,())else bif decide (v.2.1>1)then some (false,())else bif v.1 then(f14 (v.2.2.1,v.2.2.2.1,v3.2.2)).bind λv=>bif(↑(List.length v.1):Int)==0 then(f13 (v.2)).bind λv=>some (v.1==6,())else some (false,())else some (false,())) (λv=>some (v.1,())) v
theorem h3_c1(f10:T10)(f11:T11)(f12:T12)(f13:T13)(f14:T14)(f15:T15)(f16:T16)(f7:T7)(f8:T8)(f9:T9)(f3_l0:T3_l0):jd (K3 f10 f11 f12 f13 f14 f15 f16 f7 f8 f9) 0 (subc (code f3) [1,1,1,1,1,1,1]) (N3_c1 f3_l0) q4b q7o (F3_c1 f10 f11 f12 f13 f14 f15 f16 f7 f8 f9 f3_l0):=λv=>by kernel_rfl
def C3_c1:T3_c1:=F3_c1 C10 C11 C12 C13 C14 C15 C16 C7 C8 C9 C3_l0
theorem k3_c1:ql 0 (subc (code f3) [1,1,1,1,1,1,1]) (E3_c1 C3_c1) :=
 zc kok3 (And.intro k3_l0 trivial) (h3_c1 C10 C11 C12 C13 C14 C15 C16 C7 C8 C9 C3_l0)
def N3(f3_c1:T3_c1):Ann:=(.seq .nil (.seq .nil (.seq .nil (.seq .nil (.seq .nil (.seq .nil (.cut .nil (E3_c1 f3_c1))))))))
def F3(f10:T10)(f11:T11)(f12:T12)(f13:T13)(f14:T14)(f15:T15)(f16:T16)(f7:T7)(f8:T8)(f9:T9)(f3_c1:T3_c1):T3:=λ(x0,x1,x2,x3,x4,x5,x6,x7,x8,x9,x10,x11,x12,x13,x14,x15,x16,_)=>(f7 ()).bind λv=>(f8 (x0,x1,x2,x3,x4,x5,x6,x7,x8,x9,x10,())).bind λv1=>(f9 (x14,())).bind λv2=>(f10 (x12,x13,())).bind λv3=>(f12 ()).bind λv4=>(f11 (v4.1,v4.2.1,v4.2.2.1,[120],x0,x1,x2,x3,x4,x5,x6,x7,x8,x9,x10,x11,x12,x13,())).bind λv5=>bif !v1.1 then bif v.1 then some (!false,())else some (false,())else bif !v2.1 then bif v.1 then some (!false,())else some (false,())else bif !v3.1 then bif v.1 then some (!false,())else some (false,())else bif decide ((↑x16.length:Int)>20)then bif v.1 then some (!false,())else some (false,())else(f3_c1 (x14,v.1,x15,x16,v5)).bind λv=>some (v.1,())
theorem h3(f10:T10)(f11:T11)(f12:T12)(f13:T13)(f14:T14)(f15:T15)(f16:T16)(f7:T7)(f8:T8)(f9:T9)(f3_c1:T3_c1):qp (K3 f10 f11 f12 f13 f14 f15 f16 f7 f8 f9) 0 f3 (N3 f3_c1) q3y qe (F3 f10 f11 f12 f13 f14 f15 f16 f7 f8 f9 f3_c1):=λv=>by kernel_rfl
def C3:T3:=F3 C10 C11 C12 C13 C14 C15 C16 C7 C8 C9 C3_c1
theorem ok3:FO 3 (E3 C3) :=
 qo kok3 func3 (And.intro k3_c1 trivial) (h3 C10 C11 C12 C13 C14 C15 C16 C7 C8 C9 C3_c1)
abbrev T47:=qa×Unit->Option (Bool×Unit)
def E47(f:T47):FEnt:=⟨qq,qe,f⟩
def K47(f22:T22):=lk [(22,E22 f22)]
def F47(f22:T22):T47:=λ(x0,_)=>(f22 (x0,())).bind λv=>some (decide (v.1>=0),())
def C47:T47:=F47 C22
theorem ok47:FO 47 (E47 C47):=qz qq qe K47 F47 C22 (kc ok22 kn) func47
abbrev T64_l0:=List (qa)×Int×Int×Unit->Option (Unit⊕(Int×Unit))
def E64_l0(f:T64_l0):LEnt:=⟨q4c,jn,f⟩
abbrev T64:=List (qa)×Unit->Option (Int×Unit)
def E64(f:T64):FEnt:=⟨xb,qf,f⟩
def K64(f47:T47):=lk [(47,E47 f47)]
theorem kok64:KOk prog (K64 C47):=(kc ok47 kn)
def F64_l0(f47:T47):qn (List (qa)×Int×Int×Unit) (Unit⊕(Int×Unit)):=λ(x0,x1,x2,_)=>bif decide (x2<x1)then bif decide (0<=x2)&&decide (x2<(↑x0.length:Int))then(f47 (x0.getD x2.toNat [],())).bind λv=>bif v.1 then some (Sum.inr (Sum.inr (x2,())))else some (Sum.inl (x0,x1,IntKind.i64.wrap (x2+1),()))else none else some (Sum.inr (Sum.inl ()))
def C64_l0:T64_l0:=loopN (F64_l0 C47) big
theorem k64_l0:qg 0 (subc (code f64) [1,0,1,0,0]) (E64_l0 C64_l0):=zg q4c jn K64 F64_l0 C47 kok64
def N64(f64_l0:T64_l0):Ann:=(.seq .nil (.seq (.seq .nil (.blk (.loop (E64_l0 f64_l0)))) .nil))
def F64(f47:T47)(f64_l0:T64_l0):T64:=λ(x0,_)=>(f64_l0 (x0,(↑x0.length:Int),0,())).bind λv=>Sum.elim (λv=>some (-1,())) (λv=>some (v.1,())) v
def C64:T64:=F64 C47 C64_l0
theorem ok64:FO 64 (E64 C64):=qx xb qf K64 N64 F64 C47 C64_l0 kok64 func64 (And.intro k64_l0 trivial)
abbrev T46:=List (qa)×Unit->Option (Bool×Unit)
def E46(f:T46):FEnt:=⟨xb,qe,f⟩
def K46(f64:T64):=lk [(64,E64 f64)]
def F46(f64:T64):T46:=λ(x0,_)=>(f64 (x0,())).bind λv=>some (decide (v.1>=0),())
def C46:T46:=F46 C64
theorem ok46:FO 46 (E46 C46):=qz xb qe K46 F46 C64 (kc ok64 kn) func46
abbrev T48:=qa×Unit->Option (Bool×Unit)
def E48(f:T48):FEnt:=⟨qq,qe,f⟩
def K48(f65:T65):=lk [(65,E65 f65)]
def F48(f65:T65):T48:=λ(x0,_)=>(f65 (x0,())).bind λv=>some (decide (v.2.1>=0),())
def C48:T48:=F48 C65
theorem ok48:FO 48 (E48 C48):=qz qq qe K48 F48 C65 (kc ok65 kn) func48
abbrev T64v1_l0:=List (qa)×Int×Int×Unit->Option (Unit⊕(Int×Unit))
def E64v1_l0(f:T64v1_l0):LEnt:=⟨q4d,jn,f⟩
abbrev T64v1:=List (qa)×Unit->Option (Int×Unit)
def E64v1(f:T64v1):FEnt:=⟨xc,qf,f⟩
def K64v1(f48:T48):=lk [(48,E48 f48)]
theorem kok64v1:KOk prog (K64v1 C48):=(kc ok48 kn)
def F64v1_l0(f48:T48):qn (List (qa)×Int×Int×Unit) (Unit⊕(Int×Unit)):=λ(x0,x1,x2,_)=>bif decide (x2<x1)then bif decide (0<=x2)&&decide (x2<(↑x0.length:Int))then(f48 (x0.getD x2.toNat [],())).bind λv=>bif v.1 then some (Sum.inr (Sum.inr (x2,())))else some (Sum.inl (x0,x1,IntKind.i64.wrap (x2+1),()))else none else some (Sum.inr (Sum.inl ()))
def C64v1_l0:T64v1_l0:=loopN (F64v1_l0 C48) big
theorem k64v1_l0:qg 0 (subc (code f64) [1,0,1,0,0]) (E64v1_l0 C64v1_l0):=zg q4d jn K64v1 F64v1_l0 C48 kok64v1
def N64v1(f64v1_l0:T64v1_l0):Ann:=(.seq .nil (.seq (.seq .nil (.blk (.loop (E64v1_l0 f64v1_l0)))) .nil))
def F64v1(f48:T48)(f64v1_l0:T64v1_l0):T64v1:=λ(x0,_)=>(f64v1_l0 (x0,(↑x0.length:Int),0,())).bind λv=>Sum.elim (λv=>some (-1,())) (λv=>some (v.1,())) v
def C64v1:T64v1:=F64v1 C48 C64v1_l0
theorem ok64v1:FO 64 (E64v1 C64v1):=qx xc qf K64v1 N64v1 F64v1 C48 C64v1_l0 kok64v1 func64 (And.intro k64v1_l0 trivial)
abbrev T46v1:=List (qa)×Unit->Option (Bool×Unit)
def E46v1(f:T46v1):FEnt:=⟨xc,qe,f⟩
def K46v1(f64v1:T64v1):=lk [(64,E64v1 f64v1)]
def F46v1(f64v1:T64v1):T46v1:=λ(x0,_)=>(f64v1 (x0,())).bind λv=>some (decide (v.1>=0),())
def C46v1:T46v1:=F46v1 C64v1
theorem ok46v1:FO 46 (E46v1 C46v1):=qz xc qe K46v1 F46v1 C64v1 (kc ok64v1 kn) func46
abbrev T99:=Int×Unit->Option (Bool×Unit)
def E99(f:T99):FEnt:=⟨jo,qe,f⟩
def F99:T99:=λ(x0,_)=>bif decide (x0<=32)then some (true,())else some (decide (x0>126),())
def C99:T99:=F99
theorem ok99:FO 99 (E99 C99):=zd jo qe qu F99 kn func99
abbrev T132v1_l0:=Bool×(qa×Int)×Unit->Option ((Int×Unit)⊕Unit)
def E132v1_l0(f:T132v1_l0):LEnt:=⟨q4f,xk,f⟩
abbrev T132v1:=qa×Bool×Unit->Option (Int×Unit)
def E132v1(f:T132v1):FEnt:=⟨q4e,qf,f⟩
def K132v1(f99:T99):=lk [(99,E99 f99)]
theorem kok132v1:KOk prog (K132v1 C99):=(kc ok99 kn)
def F132v1_l0(f99:T99):qn (Bool×(qa×Int)×Unit) ((Int×Unit)⊕Unit):=λ(x0,x1,_)=>bif decide (Int.toNat x1.2<List.length x1.1)then(f99 ((↑(decR x1.1 (Int.toNat x1.2)).1:Int),())).bind λv=>bif v.1==x0 then some (Sum.inr (Sum.inl ((↑(Int.toNat x1.2):Int),())))else some (Sum.inl (x0,(x1.1,(↑(Int.toNat x1.2+(decR x1.1 (Int.toNat x1.2)).2):Int)),()))else some (Sum.inr (Sum.inr ()))
def C132v1_l0:T132v1_l0:=loopN (F132v1_l0 C99) big
theorem k132v1_l0:qg 0 (subc (code f132) [1,0,1,0,0]) (E132v1_l0 C132v1_l0):=zg q4f xk K132v1 F132v1_l0 C99 kok132v1
def N132v1(f132v1_l0:T132v1_l0):Ann:=(.seq .nil (.seq (.seq .nil (.blk (.loop (E132v1_l0 f132v1_l0)))) .nil))
def F132v1(f99:T99)(f132v1_l0:T132v1_l0):T132v1:=λ(x0,x1,_)=>(f132v1_l0 (x1,(x0,(↑0:Int)),())).bind λv=>Sum.elim (λv=>some (v.1,())) (λv=>some (-1,())) v
def C132v1:T132v1:=F132v1 C99 C132v1_l0
theorem ok132v1:FO 132 (E132v1 C132v1):=qx q4e qf K132v1 N132v1 F132v1 C99 C132v1_l0 kok132v1 func132 (And.intro k132v1_l0 trivial)
abbrev T109v1:=qa×Unit->Option (Int×Unit)
def E109v1(f:T109v1):FEnt:=⟨xd,qf,f⟩
def K109v1(f132v1:T132v1):=lk [(132,E132v1 f132v1)]
def F109v1(f132v1:T132v1):T109v1:=λ(x0,_)=>(f132v1 (x0,true,())).bind λv=>some (v.1,())
def C109v1:T109v1:=F109v1 C132v1
theorem ok109v1:FO 109 (E109v1 C109v1):=qz xd qf K109v1 F109v1 C132v1 (kc ok132v1 kn) func109
abbrev T70v1:=qa×Unit->Option (Bool×Unit)
def E70v1(f:T70v1):FEnt:=⟨xd,qe,f⟩
def K70v1(f109v1:T109v1):=lk [(109,E109v1 f109v1)]
def F70v1(f109v1:T109v1):T70v1:=λ(x0,_)=>(f109v1 (x0,())).bind λv=>some (decide (v.1>=0),())
def C70v1:T70v1:=F70v1 C109v1
theorem ok70v1:FO 70 (E70v1 C70v1):=qz xd qe K70v1 F70v1 C109v1 (kc ok109v1 kn) func70
abbrev T67:=qa×Unit->Option (qa×qa×Bool×Unit)
def E67(f:T67):FEnt:=⟨qq,zp,f⟩
def K67(f69:T69)(f70v1:T70v1)(f98:T98):=lk [(69,E69 f69),(70,E70v1 f70v1),(98,E98 f98)]
def F67(f69:T69)(f70v1:T70v1)(f98:T98):T67:=λ(x0,_)=>(f98 (x0,[58],())).bind λv=>(f69 (v.1,())).bind λv1=>bif v.2.2.1 then bif !v.1==[]then(f70v1 (v.1,())).bind λv2=>some (v1.1,v.2.1,bif v2.1 then false else true,())else some (v1.1,v.2.1,false,())else some (v1.1,v.2.1,false,())
theorem h67(f69:T69)(f70v1:T70v1)(f98:T98):qp (K67 f69 f70v1 f98) 0 f67 .nil qq zp (F67 f69 f70v1 f98):=λv=>by kernel_rfl
def C67:T67:=F67 C69 C70v1 C98
theorem ok67:FO 67 (E67 C67) :=
 q0 (kc ok69 (kc ok70v1 (kc ok98 kn))) func67 (h67 C69 C70v1 C98)
abbrev T49_l0:=Bool×List (qa)×Int×Int×List ((qa×qa))×Unit->Option (List ((qa×qa))×Unit)
def E49_l0(f:T49_l0):LEnt:=⟨q4g,q7q,f⟩
abbrev T49_l1:=Int×Int×List ((qa×qa))×Unit->Option (List ((qa×qa))×Unit)
def E49_l1(f:T49_l1):LEnt:=⟨q4h,q7r,f⟩
abbrev T49:=List (qa)×Unit->Option (List ((qa×qa))×Unit)
def E49(f:T49):FEnt:=⟨zz,q7p,f⟩
def K49(f45:T45)(f66:T66)(f67:T67)(f68:T68):=lk [(45,E45 f45),(66,E66 f66),(67,E67 f67),(68,E68 f68)]
theorem kok49:KOk prog (K49 C45 C66 C67 C68):=(kc ok45 (kc ok66 (kc ok67 (kc ok68 kn))))
def F49_l0(f45:T45)(f66:T66)(f67:T67)(f68:T68):qn (Bool×List (qa)×Int×Int×List ((qa×qa))×Unit) (List ((qa×qa))×Unit):=λ(x0,x1,x2,x3,x4,_)=>bif decide (x3<x2)then bif decide (0<=x3)&&decide (x3<(↑x1.length:Int))then bif decide (0<(↑(List.length (x1.getD x3.toNat [])):Int))then(f66 ([32,9],(↑(List.getD (x1.getD x3.toNat []) 0 0).toNat:Int),())).bind λv=>bif decide (v.1>=0)then bif x0 then bif decide (0<=IntKind.i64.wrap ((↑x4.length:Int)-1))&&decide (IntKind.i64.wrap ((↑x4.length:Int)-1)<(↑x4.length:Int))then bif decide (List.length (x4.getD (IntKind.i64.wrap ((↑x4.length:Int)-1)).toNat ([],[])).2+List.length (x1.getD x3.toNat [])<=9223372036854775807)then bif decide (0<=IntKind.i64.wrap ((↑x4.length:Int)-1))&&decide (IntKind.i64.wrap ((↑x4.length:Int)-1)<(↑x4.length:Int))then some (Sum.inl (x0,x1,x2,IntKind.i64.wrap (x3+1),x4.set (IntKind.i64.wrap ((↑x4.length:Int)-1)).toNat ((x4.getD (IntKind.i64.wrap ((↑x4.length:Int)-1)).toNat ([],[])).1,(x4.getD (IntKind.i64.wrap ((↑x4.length:Int)-1)).toNat ([],[])).2++x1.getD x3.toNat []),()))else none else none else none else some (Sum.inl (x0,x1,x2,IntKind.i64.wrap (x3+1),x4,()))else(f67 (x1.getD x3.toNat [],())).bind λv=>bif v.2.2.1 then bif decide (x4.length+[(v.1,v.2.1)].length<=140737488355328/32)then some (Sum.inl (v.2.2.1,x1,x2,IntKind.i64.wrap (x3+1),x4++[(v.1,v.2.1)],()))else none else some (Sum.inl (v.2.2.1,x1,x2,IntKind.i64.wrap (x3+1),x4,()))else none else none else some (Sum.inr (x4,()))
def C49_l0:T49_l0:=loopN (F49_l0 C45 C66 C67 C68) big
theorem k49_l0:qg 0 (subc (code f49) [1,1,1,0,1,0,0]) (E49_l0 C49_l0):=zl4 q4g q7q K49 F49_l0 C45 C66 C67 C68 kok49
def F49_l1(f45:T45)(f66:T66)(f67:T67)(f68:T68):qn (Int×Int×List ((qa×qa))×Unit) (List ((qa×qa))×Unit):=λ(x0,x1,x2,_)=>bif decide (x1<x0)then bif decide (0<=x1)&&decide (x1<(↑x2.length:Int))then(f68 ((x2.getD x1.toNat ([],[])).2,[32,9],())).bind λv=>bif decide (0<=x1)&&decide (x1<(↑x2.length:Int))then some (Sum.inl (x0,IntKind.i64.wrap (x1+1),x2.set x1.toNat ((x2.getD x1.toNat ([],[])).1,v.1),()))else none else none else some (Sum.inr (x2,()))
def C49_l1:T49_l1:=loopN (F49_l1 C45 C66 C67 C68) big
theorem k49_l1:qg 0 (subc (code f49) [1,1,1,1,0,1,0,0]) (E49_l1 C49_l1):=zl4 q4h q7r K49 F49_l1 C45 C66 C67 C68 kok49
def N49(f49_l0:T49_l0)(f49_l1:T49_l1):Ann:=(.seq .nil (.seq .nil (.seq .nil (.seq (.seq .nil (.blk (.loop (E49_l0 f49_l0)))) (.seq (.seq .nil (.blk (.loop (E49_l1 f49_l1)))) .nil)))))
def F49(f45:T45)(f66:T66)(f67:T67)(f68:T68)(f49_l0:T49_l0)(f49_l1:T49_l1):T49:=λ(x0,_)=>(f45 (x0,())).bind λv=>bif decide (0<=v.1)&&decide (v.1<=(↑x0.length:Int))then(f49_l0 (false,List.take (Int.toNat v.1) x0,(↑(List.take (Int.toNat v.1) x0).length:Int),0,[],())).bind λv=>(f49_l1 ((↑(List.length v.1):Int),0,v.1,())).bind λv=>some (v.1,())else none
theorem h49(f45:T45)(f66:T66)(f67:T67)(f68:T68)(f49_l0:T49_l0)(f49_l1:T49_l1):qp (K49 f45 f66 f67 f68) 0 f49 (N49 f49_l0 f49_l1) zz q7p (F49 f45 f66 f67 f68 f49_l0 f49_l1):=λv=>by kernel_rfl
def C49:T49:=F49 C45 C66 C67 C68 C49_l0 C49_l1
theorem ok49:FO 49 (E49 C49) :=
 qo kok49 func49 (And.intro k49_l0 (And.intro k49_l1 trivial)) (h49 C45 C66 C67 C68 C49_l0 C49_l1)
abbrev T21_l0:=List ((qa×qa))×Int×Int×Bool×Bool×Bool×Int×Int×Bool×Bool×Bool×Int×Int×Unit->Option (Bool×Bool×Bool×Int×Int×Bool×Bool×Bool×Int×Int×Unit)
def E21_l0(f:T21_l0):LEnt:=⟨q4i,q7t,f⟩
abbrev T21:=List (qa)×Unit->Option (Bool×Bool×Bool×Int×Int×Unit)
def E21(f:T21):FEnt:=⟨zz,q7s,f⟩
def K21(f45:T45)(f46:T46)(f46v1:T46v1)(f49:T49):=lk [(45,E45 f45),(46,E46 f46),(46,E46v1 f46v1),(49,E49 f49)]
theorem kok21:KOk prog (K21 C45 C46 C46v1 C49):=(kc ok45 (kc ok46 (kc ok46v1 (kc ok49 kn))))
def F21_l0(f45:T45)(f46:T46)(f46v1:T46v1)(f49:T49):qn (List ((qa×qa))×Int×Int×Bool×Bool×Bool×Int×Int×Bool×Bool×Bool×Int×Int×Unit) (Bool×Bool×Bool×Int×Int×Bool×Bool×Bool×Int×Int×Unit):=λ(x0,x1,x2,x3,x4,x5,x6,x7,x8,x9,x10,x11,x12,_)=>bif decide (x2<x1)then bif decide (0<=x2)&&decide (x2<(↑x0.length:Int))then bif(x0.getD x2.toNat ([],[])).1==[114,101,99,101,105,118,101,100]then some (Sum.inl (x0,x1,IntKind.i64.wrap (x2+1),x3,x4,x5,x6,x7,x8,x9,x10,x11,IntKind.i64.wrap (x12+1),()))else some (Sum.inl (x0,x1,IntKind.i64.wrap (x2+1),x3,x4,x5,x6,x7,x8,x9,x10,x11,x12,()))else none else some (Sum.inr (x3,x4,x5,x6,x7,x8,x9,x10,x11,x12,()))
def C21_l0:T21_l0:=loopN (F21_l0 C45 C46 C46v1 C49) big
theorem k21_l0:qg 0 (subc (code f21) [1,1,1,1,0,1,0,0]) (E21_l0 C21_l0):=zl4 q4i q7t K21 F21_l0 C45 C46 C46v1 C49 kok21
def N21(f21_l0:T21_l0):Ann:=(.seq .nil (.seq .nil (.seq .nil (.seq .nil (.seq (.seq .nil (.blk (.loop (E21_l0 f21_l0)))) .nil)))))
def F21(f45:T45)(f46:T46)(f46v1:T46v1)(f49:T49)(f21_l0:T21_l0):T21:=λ(x0,_)=>(f45 (x0,())).bind λv=>bif decide (0<=v.1)&&decide (v.1<=(↑x0.length:Int))then bif decide (0<=v.1)&&decide (v.1<=(↑x0.length:Int))then(f46 (List.take (Int.toNat v.1) x0,())).bind λv1=>(f46 (List.drop (Int.toNat v.1) x0,())).bind λv2=>(f46v1 (List.take (Int.toNat v.1) x0,())).bind λv3=>(f49 (x0,())).bind λv4=>(f21_l0 (v4.1,(↑(List.length v4.1):Int),0,false,false,false,0,0,v1.1,v2.1,v3.1,v.1,0,())).bind λv=>some (v.2.2.2.2.2.1,v.2.2.2.2.2.2.1,v.2.2.2.2.2.2.2.1,v.2.2.2.2.2.2.2.2.1,v.2.2.2.2.2.2.2.2.2.1,())else none else none
theorem h21(f45:T45)(f46:T46)(f46v1:T46v1)(f49:T49)(f21_l0:T21_l0):qp (K21 f45 f46 f46v1 f49) 0 f21 (N21 f21_l0) zz q7s (F21 f45 f46 f46v1 f49 f21_l0):=λv=>by kernel_rfl
def C21:T21:=F21 C45 C46 C46v1 C49 C21_l0
theorem ok21:FO 21 (E21 C21) :=
 qo kok21 func21 (And.intro k21_l0 trivial) (h21 C45 C46 C46v1 C49 C21_l0)
abbrev T5_l0:=List ((Int×List (qa)))×Bool×Int×List ((Int×qa))×Int×qb×qc×qd×qa×Bool×qa×qa×List (qa)×Bool×Bool×Bool×Int×Int×Int×Bool×qa×qa×Int×Bool×Int×Int×Bool×Bool×Int×Int×Bool×qa×qa×Bool×qa×qa×Bool×Bool×Int×Unit->Option ((List ((Int×List (qa)))×Bool×Int×qb×qc×qd×qa×Bool×qa×qa×List (qa)×Bool×Bool×Bool×Int×Int×Int×Bool×qa×qa×Int×Bool×Int×Int×Bool×Bool×Int×Int×Bool×qa×qa×Bool×qa×qa×Bool×Bool×Int×Unit)⊕(Bool×Unit))
def E5_l0(f:T5_l0):LEnt:=⟨q4k,q7u,f⟩
abbrev T5_l1:=List ((Int×List (qa)))×Bool×Int×qb×qc×qd×qa×Bool×qa×qa×List (qa)×Bool×Bool×Bool×Int×Int×Int×Bool×qa×qa×Int×Bool×Int×Int×Bool×Bool×Int×Int×Bool×qa×qa×Bool×qa×qa×Bool×Bool×Int×Unit->Option ((Bool×Unit)⊕(Bool×Unit))
def E5_l1(f:T5_l1):LEnt:=⟨q4l,q7v,f⟩
abbrev T5_c0:=List ((Int×List (qa)))×Bool×qb×qc×qd×qa×Bool×qa×qa×List (qa)×Bool×Bool×Bool×Int×Int×Int×Bool×qa×qa×Int×Bool×Int×Int×Bool×Bool×Int×Int×Bool×qa×qa×Bool×qa×qa×Bool×Bool×Int×Unit->Option (Bool×Unit)
def E5_c0(f:T5_c0):LEnt:=⟨q4m,zu,f⟩
abbrev T5_c1:=List ((Int×List (qa)))×Bool×Bool×Bool×Bool×Bool×qa×qa×List ((Bool×(qa×qa)))×List (qa)×Bool×Bool×Bool×Int×Int×Int×Bool×qa×qa×Unit->Option (Bool×Unit)
def E5_c1(f:T5_c1):LEnt:=⟨xe,zu,f⟩
abbrev T5_c2:=List ((Int×List (qa)))×Bool×Bool×Bool×Bool×Bool×qa×qa×List ((Bool×(qa×qa)))×List (qa)×Bool×Bool×Bool×Int×Int×Int×Bool×qa×qa×Unit->Option (Bool×Unit)
def E5_c2(f:T5_c2):LEnt:=⟨xe,zu,f⟩
abbrev T5:=Bool×qa×qa×List ((Bool×(qa×qa)))×List (qa)×Bool×Bool×Bool×Int×Int×Int×Bool×qa×qa×List ((Int×List (qa)))×Unit->Option (Bool×Unit)
def E5(f:T5):FEnt:=⟨q4j,qe,f⟩
def K5(f10:T10)(f11:T11)(f12:T12)(f14:T14)(f21:T21)(f22:T22)(f23:T23)(f24:T24)(f7:T7)(f8:T8)(f9:T9):=lk [(10,E10 f10),(11,E11 f11),(12,E12 f12),(14,E14 f14),(21,E21 f21),(22,E22 f22),(23,E23 f23),(24,E24 f24),(7,E7 f7),(8,E8 f8),(9,E9 f9)]
theorem kok5:KOk prog (K5 C10 C11 C12 C14 C21 C22 C23 C24 C7 C8 C9):=(kc ok10 (kc ok11 (kc ok12 (kc ok14 (kc ok21 (kc ok22 (kc ok23 (kc ok24 (kc ok7 (kc ok8 (kc ok9 kn)))))))))))
def F5_l0(f10:T10)(f11:T11)(f12:T12)(f14:T14)(f21:T21)(f22:T22)(f23:T23)(f24:T24)(f7:T7)(f8:T8)(f9:T9):qn (List ((Int×List (qa)))×Bool×Int×List ((Int×qa))×Int×qb×qc×qd×qa×Bool×qa×qa×List (qa)×Bool×Bool×Bool×Int×Int×Int×Bool×qa×qa×Int×Bool×Int×Int×Bool×Bool×Int×Int×Bool×qa×qa×Bool×qa×qa×Bool×Bool×Int×Unit) ((List ((Int×List (qa)))×Bool×Int×qb×qc×qd×qa×Bool×qa×qa×List (qa)×Bool×Bool×Bool×Int×Int×Int×Bool×qa×qa×Int×Bool×Int×Int×Bool×Bool×Int×Int×Bool×qa×qa×Bool×qa×qa×Bool×Bool×Int×Unit)⊕(Bool×Unit)):=λ(x0,x1,x2,x3,x4,x5,x6,x7,x8,x9,x10,x11,x12,x13,x14,x15,x16,x17,x18,x19,x20,x21,x22,x23,x24,x25,x26,x27,x28,x29,x30,x31,x32,x33,x34,x35,x36,x37,x38,_)=>bif decide (x4<(↑x3.length:Int))then bif decide (0<=x4)&&decide (x4<(↑x3.length:Int))then(f22 ((x3.getD x4.toNat (0,[])).2,())).bind λv=>bif decide (v.1>=0)then(f24 (x5,x6,x7,x8,x9,x10,x11,x12,x13,x14,x15,x16,x17,x18,x19,x20,x21,x22,x23,x24,x25,x26,x27,x28,x29,x30,x31,x32,x33,x34,x35,x36,x37,x38,())).bind λv=>bif decide (0<=x4)&&decide (x4<(↑x3.length:Int))then(f23 (v.1,v.2.1,v.2.2.1,(x3.getD x4.toNat (0,[])).1==3,())).bind λv1=>bif !v1.1 then some (Sum.inr (Sum.inr (false,())))else some (Sum.inl (x0,x1,x2,x3,IntKind.i64.wrap (x4+1),v.2.2.2))else none else some (Sum.inl (x0,x1,x2,x3,IntKind.i64.wrap (x4+1),x5,x6,x7,x8,x9,x10,x11,x12,x13,x14,x15,x16,x17,x18,x19,x20,x21,x22,x23,x24,x25,x26,x27,x28,x29,x30,x31,x32,x33,x34,x35,x36,x37,x38,()))else none else some (Sum.inr (Sum.inl (x0,x1,x2,x5,x6,x7,x8,x9,x10,x11,x12,x13,x14,x15,x16,x17,x18,x19,x20,x21,x22,x23,x24,x25,x26,x27,x28,x29,x30,x31,x32,x33,x34,x35,x36,x37,x38,())))
theorem h5_l0(f10:T10)(f11:T11)(f12:T12)(f14:T14)(f21:T21)(f22:T22)(f23:T23)(f24:T24)(f7:T7)(f8:T8)(f9:T9):jv (K5 f10 f11 f12 f14 f21 f22 f23 f24 f7 f8 f9) 0 (subc (code f5) [1,1,1,1,1,1,1,1,0,1,0,0,1,0,0,1,1,0,0]) .nil q4k q7u (F5_l0 f10 f11 f12 f14 f21 f22 f23 f24 f7 f8 f9):=λv=>by kernel_rfl
def C5_l0:T5_l0:=loopN (F5_l0 C10 C11 C12 C14 C21 C22 C23 C24 C7 C8 C9) big
theorem k5_l0:qg 0 (subc (code f5) [1,1,1,1,1,1,1,1,0,1,0,0,1,0,0,1,1,0,0]) (E5_l0 C5_l0) :=
 frl kok5 (h5_l0 C10 C11 C12 C14 C21 C22 C23 C24 C7 C8 C9)
def N5_l1(f5_l0:T5_l0):Ann:=(.seq .nil (.seq (.blk (.seq .nil (.seq .nil (.blk (.loop (E5_l0 f5_l0)))))) .nil))
def F5_l1(f10:T10)(f11:T11)(f12:T12)(f14:T14)(f21:T21)(f22:T22)(f23:T23)(f24:T24)(f7:T7)(f8:T8)(f9:T9)(f5_l0:T5_l0):qn (List ((Int×List (qa)))×Bool×Int×qb×qc×qd×qa×Bool×qa×qa×List (qa)×Bool×Bool×Bool×Int×Int×Int×Bool×qa×qa×Int×Bool×Int×Int×Bool×Bool×Int×Int×Bool×qa×qa×Bool×qa×qa×Bool×Bool×Int×Unit) ((Bool×Unit)⊕(Bool×Unit)):=λ(x0,x1,x2,x3,x4,x5,x6,x7,x8,x9,x10,x11,x12,x13,x14,x15,x16,x17,x18,x19,x20,x21,x22,x23,x24,x25,x26,x27,x28,x29,x30,x31,x32,x33,x34,x35,x36,_)=>bif decide (x2<(↑x0.length:Int))then bif decide (0<=x2)&&decide (x2<(↑x0.length:Int))then(f14 ((x0.getD x2.toNat (0,[])).1,(x0.getD x2.toNat (0,[])).2,x3,x4,x5,x6,x7,x8,x9,x10,x11,x12,x13,x14,x15,x16,x17,x18,x19,x20,x21,x22,x23,x24,x25,x26,x27,x28,x29,x30,x31,x32,x33,x34,x35,x36,())).bind λv=>(f5_l0 (x0,x1,x2,v.1,0,v.2)).bind λv=>Sum.elim (λv=>some (Sum.inl (v.1,v.2.1,IntKind.i64.wrap (v.2.2.1+1),v.2.2.2))) (λv=>some (Sum.inr (Sum.inr (v.1,())))) v else none else some (Sum.inr (Sum.inl (x1,())))
theorem h5_l1(f10:T10)(f11:T11)(f12:T12)(f14:T14)(f21:T21)(f22:T22)(f23:T23)(f24:T24)(f7:T7)(f8:T8)(f9:T9)(f5_l0:T5_l0):jv (K5 f10 f11 f12 f14 f21 f22 f23 f24 f7 f8 f9) 0 (subc (code f5) [1,1,1,1,1,1,1,1,0,1,0,0]) (N5_l1 f5_l0) q4l q7v (F5_l1 f10 f11 f12 f14 f21 f22 f23 f24 f7 f8 f9 f5_l0):=λv=>by kernel_rfl
def C5_l1:T5_l1:=loopN (F5_l1 C10 C11 C12 C14 C21 C22 C23 C24 C7 C8 C9 C5_l0) big
theorem k5_l1:qg 0 (subc (code f5) [1,1,1,1,1,1,1,1,0,1,0,0]) (E5_l1 C5_l1) :=
 vy kok5 (And.intro k5_l0 trivial) (h5_l1 C10 C11 C12 C14 C21 C22 C23 C24 C7 C8 C9 C5_l0)
def N5_c0(f5_l1:T5_l1):Ann:=(.seq (.seq .nil (.blk (.loop (E5_l1 f5_l1)))) .nil)
def F5_c0(f10:T10)(f11:T11)(f12:T12)(f14:T14)(f21:T21)(f22:T22)(f23:T23)(f24:T24)(f7:T7)(f8:T8)(f9:T9)(f5_l1:T5_l1):T5_c0:=λ(x0,x1,x2,x3,x4,x5,x6,x7,x8,x9,x10,x11,x12,x13,x14,x15,x16,x17,x18,x19,x20,x21,x22,x23,x24,x25,x26,x27,x28,x29,x30,x31,x32,x33,x34,x35,_)=>(f5_l1 (x0,x1,0,x2,x3,x4,x5,x6,x7,x8,x9,x10,x11,x12,x13,x14,x15,x16,x17,x18,x19,x20,x21,x22,x23,x24,x25,x26,x27,x28,x29,x30,x31,x32,x33,x34,x35,())).bind λv=>Sum.elim (λv=>some (v.1,())) (λv=>some (v.1,())) v
theorem h5_c0(f10:T10)(f11:T11)(f12:T12)(f14:T14)(f21:T21)(f22:T22)(f23:T23)(f24:T24)(f7:T7)(f8:T8)(f9:T9)(f5_l1:T5_l1):jd (K5 f10 f11 f12 f14 f21 f22 f23 f24 f7 f8 f9) 0 (subc (code f5) [1,1,1,1,1,1,1,1]) (N5_c0 f5_l1) q4m zu (F5_c0 f10 f11 f12 f14 f21 f22 f23 f24 f7 f8 f9 f5_l1):=λv=>by kernel_rfl
def C5_c0:T5_c0:=F5_c0 C10 C11 C12 C14 C21 C22 C23 C24 C7 C8 C9 C5_l1
theorem k5_c0:ql 0 (subc (code f5) [1,1,1,1,1,1,1,1]) (E5_c0 C5_c0) :=
 zc kok5 (And.intro k5_l1 trivial) (h5_c0 C10 C11 C12 C14 C21 C22 C23 C24 C7 C8 C9 C5_l1)
def N5_c1(f5_c0:T5_c0):Ann:=(.seq .nil (.cut .nil (E5_c0 f5_c0)))
def F5_c1(f10:T10)(f11:T11)(f12:T12)(f14:T14)(f21:T21)(f22:T22)(f23:T23)(f24:T24)(f7:T7)(f8:T8)(f9:T9)(f5_c0:T5_c0):T5_c1:=λ(x0,x1,x2,x3,x4,x5,x6,x7,x8,x9,x10,x11,x12,x13,x14,x15,x16,x17,x18,_)=>(f12 ()).bind λv=>(f11 (v.1,v.2.1,v.2.2.1,[120],x5,x6,x7,x8,x9,x10,x11,x12,x13,x14,x15,x16,x17,x18,())).bind λv=>bif !x2 then bif x1 then some (!false,())else some (false,())else bif !x3 then bif x1 then some (!false,())else some (false,())else bif !x4 then bif x1 then some (!false,())else some (false,())else(f5_c0 (x0,x1,v)).bind λv=>some (v.1,())
theorem h5_c1(f10:T10)(f11:T11)(f12:T12)(f14:T14)(f21:T21)(f22:T22)(f23:T23)(f24:T24)(f7:T7)(f8:T8)(f9:T9)(f5_c0:T5_c0):jd (K5 f10 f11 f12 f14 f21 f22 f23 f24 f7 f8 f9) 0 (subc (code f5) [1,1,1,1,1,1]) (N5_c1 f5_c0) xe zu (F5_c1 f10 f11 f12 f14 f21 f22 f23 f24 f7 f8 f9 f5_c0):=λv=>by kernel_rfl
def C5_c1:T5_c1:=F5_c1 C10 C11 C12 C14 C21 C22 C23 C24 C7 C8 C9 C5_c0
theorem k5_c1:ql 0 (subc (code f5) [1,1,1,1,1,1]) (E5_c1 C5_c1) :=
 zc kok5 (And.intro k5_c0 trivial) (h5_c1 C10 C11 C12 C14 C21 C22 C23 C24 C7 C8 C9 C5_c0)
def N5_c2(f5_c1:T5_c1):Ann:=(.cut .nil (E5_c1 f5_c1))
def F5_c2(f10:T10)(f11:T11)(f12:T12)(f14:T14)(f21:T21)(f22:T22)(f23:T23)(f24:T24)(f7:T7)(f8:T8)(f9:T9)(f5_c1:T5_c1):T5_c2:=λ(x0,x1,x2,x3,x4,x5,x6,x7,x8,x9,x10,x11,x12,x13,x14,x15,x16,x17,x18,_)=>(f21 (x9,())).bind λv=>(f5_c1 (x0,x1,x2,x3,x4,x5,x6,x7,x8,x9,v.1,v.2.1,v.2.2.1,v.2.2.2.1,v.2.2.2.2.1,x15,x16,x17,x18,())).bind λv=>some (v.1,())
theorem h5_c2(f10:T10)(f11:T11)(f12:T12)(f14:T14)(f21:T21)(f22:T22)(f23:T23)(f24:T24)(f7:T7)(f8:T8)(f9:T9)(f5_c1:T5_c1):jd (K5 f10 f11 f12 f14 f21 f22 f23 f24 f7 f8 f9) 0 (subc (code f5) [1,1,1,1,1]) (N5_c2 f5_c1) xe zu (F5_c2 f10 f11 f12 f14 f21 f22 f23 f24 f7 f8 f9 f5_c1):=λv=>by kernel_rfl
def C5_c2:T5_c2:=F5_c2 C10 C11 C12 C14 C21 C22 C23 C24 C7 C8 C9 C5_c1
theorem k5_c2:ql 0 (subc (code f5) [1,1,1,1,1]) (E5_c2 C5_c2) :=
 zc kok5 (And.intro k5_c1 trivial) (h5_c2 C10 C11 C12 C14 C21 C22 C23 C24 C7 C8 C9 C5_c1)
def N5(f5_c2:T5_c2):Ann:=(.seq .nil (.seq .nil (.seq .nil (.seq .nil (.cut .nil (E5_c2 f5_c2))))))
def F5(f10:T10)(f11:T11)(f12:T12)(f14:T14)(f21:T21)(f22:T22)(f23:T23)(f24:T24)(f7:T7)(f8:T8)(f9:T9)(f5_c2:T5_c2):T5:=λ(x0,x1,x2,x3,x4,x5,x6,x7,x8,x9,x10,x11,x12,x13,x14,_)=>(f7 ()).bind λv=>(f8 (x0,x1,x2,x3,x4,x5,x6,x7,x8,x9,x10,())).bind λv1=>(f9 (x14,())).bind λv2=>(f10 (x12,x13,())).bind λv3=>(f5_c2 (x14,v.1,v1.1,v2.1,v3.1,x0,x1,x2,x3,x4,x5,x6,x7,x8,x9,x10,x11,x12,x13,())).bind λv=>some (v.1,())
theorem h5(f10:T10)(f11:T11)(f12:T12)(f14:T14)(f21:T21)(f22:T22)(f23:T23)(f24:T24)(f7:T7)(f8:T8)(f9:T9)(f5_c2:T5_c2):qp (K5 f10 f11 f12 f14 f21 f22 f23 f24 f7 f8 f9) 0 f5 (N5 f5_c2) q4j qe (F5 f10 f11 f12 f14 f21 f22 f23 f24 f7 f8 f9 f5_c2):=λv=>by kernel_rfl
def C5:T5:=F5 C10 C11 C12 C14 C21 C22 C23 C24 C7 C8 C9 C5_c2
theorem ok5:FO 5 (E5 C5) :=
 qo kok5 func5 (And.intro k5_c2 trivial) (h5 C10 C11 C12 C14 C21 C22 C23 C24 C7 C8 C9 C5_c2)
abbrev T134_c0:=Int×qa×Int×Int×Int×Unit->Option (Int×qa×Int×Int×Int×Unit)
abbrev T134_l0:=Int×qa×Int×Int×Int×Unit->Option (Int×qa×Int×Int×Int×Unit)
abbrev T134:=qa×Int×Int×Int×Unit->Option (qa×qa×Int×Int×Int×Unit)
def F134_c0(f133:T133):T134_c0:=λ(x0,x1,x2,x3,x4,_)=>some (x0,x1,IntKind.i64.wrap (x2+1),x3,x4,())
def C134_c0:T134_c0:=F134_c0 C133
def F134_l0(f133:T133)(f134_c0:T134_c0):qn (Int×qa×Int×Int×Int×Unit) (Int×qa×Int×Int×Int×Unit):=λ(x0,x1,x2,x3,x4,_)=>bif decide (x2<(↑x1.length:Int))then bif decide (0<=x2)&&decide (x2<(↑x1.length:Int))then(f133 ((↑(x1.getD x2.toNat 0).toNat:Int),())).bind λv=>bif v.1 then(f134_c0 (x0,x1,x2,x3,x4,())).bind λv=>some (Sum.inl (v.1,v.2.1,v.2.2.1,v.2.2.2.1,v.2.2.2.2.1,()))else some (Sum.inr (x0,x1,x2,x3,x4,()))else none else some (Sum.inr (x0,x1,x2,x3,x4,()))
def C134_l0:T134_l0:=loopN (F134_l0 C133 C134_c0) big
def F134(f133:T133)(f134_l0:T134_l0):T134:=λ(x0,x1,x2,x3,_)=>(f134_l0 (x1,x0,x1,x2,x3,())).bind λv=>bif decide (0<=v.2.2.1)&&decide (v.2.2.1<=(↑(List.length v.2.1):Int))then bif decide (0<=v.1)&&decide (v.1<=v.2.2.1)then some (List.drop (Int.toNat v.1) (List.take (Int.toNat v.2.2.1) v.2.1),v.2.1,v.2.2.1,v.2.2.2.1,v.2.2.2.2.1,())else none else none
def C134:T134:=F134 C133 C134_l0
abbrev T165:=Int×Unit->Option (Bool×Unit)
def F165(f66:T66):T165:=λ(x0,_)=>(f66 ([32,9],x0,())).bind λv=>some (decide (v.1>=0),())
def C165:T165:=F165 C66
abbrev T164:=Int×Unit->Option (Bool×Unit)
def F164(f165:T165):T164:=λ(x0,_)=>(f165 (x0,())).bind λv=>bif v.1 then some (true,())else bif decide (x0>32)then some (bif x0==127 then false else true,())else some (false,())
def C164:T164:=F164 C165
abbrev T139:=Int×Int×qa×Int×Int×Int×Unit->Option (qa×Int×Int×Int×Unit)
def F139:T139:=λ(x0,x1,x2,x3,x4,x5,_)=>some (x2,x3,x0,x1,())
def C139:T139:=F139
abbrev T135_c0:=Int×qa×Int×Int×Int×qa×Unit->Option ((qa×qa×Int×Int×Int×Unit)⊕(Int×qa×Int×Int×Int×qa×Unit))
abbrev T135_l0:=Int×qa×Int×Int×Int×qa×Unit->Option ((qa×Int×Int×Int×Unit)⊕(qa×qa×Int×Int×Int×Unit))
abbrev T135:=qa×Int×Int×Int×Unit->Option (qa×qa×Int×Int×Int×Unit)
def F135_c0(f139:T139)(f164:T164):T135_c0:=λ(x0,x1,x2,x3,x4,x5,_)=>bif decide (0<=x0)&&decide (x0<(↑x1.length:Int))then(f164 ((↑(x1.getD x0.toNat 0).toNat:Int),())).bind λv=>bif !v.1 then(f139 (x0,4,x1,x2,x3,x4,())).bind λv=>some (Sum.inl ([],v.1,v.2.1,v.2.2.1,v.2.2.2.1,()))else bif decide (0<=x0)&&decide (x0<(↑x1.length:Int))then bif decide (x5.length+[UInt8.ofNat (↑(x1.getD x0.toNat 0).toNat:Int).toNat].length<=140737488355328/1)then some (Sum.inr (x0,x1,x2,x3,x4,x5++[UInt8.ofNat (↑(x1.getD x0.toNat 0).toNat:Int).toNat],()))else none else none else none
def C135_c0:T135_c0:=F135_c0 C139 C164
def F135_l0(f139:T139)(f164:T164)(f135_c0:T135_c0):qn (Int×qa×Int×Int×Int×qa×Unit) ((qa×Int×Int×Int×Unit)⊕(qa×qa×Int×Int×Int×Unit)):=λ(x0,x1,x2,x3,x4,x5,_)=>bif decide (x0<(↑x1.length:Int))then bif decide (0<=x0)&&decide (x0<(↑x1.length:Int))then bif(↑(x1.getD x0.toNat 0).toNat:Int)==34 then some (Sum.inr (Sum.inr (x5,x1,IntKind.i64.wrap (x0+1),x3,x4,())))else bif(↑(x1.getD x0.toNat 0).toNat:Int)==92 then bif IntKind.i64.wrap (x0+1)==(↑x1.length:Int)then some (Sum.inr (Sum.inl (x1,x2,x3,x4,())))else(f135_c0 (IntKind.i64.wrap (x0+1),x1,x2,x3,x4,x5,())).bind λv=>Sum.elim (λv=>some (Sum.inr (Sum.inr (v.1,v.2.1,v.2.2.1,v.2.2.2.1,v.2.2.2.2.1,())))) (λv=>some (Sum.inl (IntKind.i64.wrap (v.1+1),v.2.1,v.2.2.1,v.2.2.2.1,v.2.2.2.2.1,v.2.2.2.2.2.1,()))) v else(f135_c0 (x0,x1,x2,x3,x4,x5,())).bind λv=>Sum.elim (λv=>some (Sum.inr (Sum.inr (v.1,v.2.1,v.2.2.1,v.2.2.2.1,v.2.2.2.2.1,())))) (λv=>some (Sum.inl (IntKind.i64.wrap (v.1+1),v.2.1,v.2.2.1,v.2.2.2.1,v.2.2.2.2.1,v.2.2.2.2.2.1,()))) v else none else some (Sum.inr (Sum.inl (x1,x2,x3,x4,())))
def C135_l0:T135_l0:=loopN (F135_l0 C139 C164 C135_c0) big
def F135(f139:T139)(f164:T164)(f135_l0:T135_l0):T135:=λ(x0,x1,x2,x3,_)=>(f135_l0 (IntKind.i64.wrap (x1+1),x0,x1,x2,x3,[],())).bind λv=>Sum.elim (λv=>(f139 (v.2.1,4,v.1,v.2.1,v.2.2.1,v.2.2.2.1,())).bind λv=>some ([],v.1,v.2.1,v.2.2.1,v.2.2.2.1,())) (λv=>some (v.1,v.2.1,v.2.2.1,v.2.2.2.1,v.2.2.2.2.1,())) v
def C135:T135:=F135 C139 C164 C135_l0
abbrev T136_c0:=Int×qa×qa×Int×Int×Int×Unit->Option (qa×qa×Int×Int×Int×Unit)
abbrev T136_l0:=Int×qa×Int×Int×Int×Unit->Option ((qa×Int×Int×Int×Unit)⊕(qa×qa×Int×Int×Int×Unit))
abbrev T136:=qa×Int×Int×Int×Unit->Option (qa×qa×Int×Int×Int×Unit)
def F136_c0(f139:T139)(f164:T164)(f165:T165):T136_c0:=λ(x0,x1,x2,x3,x4,x5,_)=>some (x1,x2,IntKind.i64.wrap (x0+1),x4,x5,())
def C136_c0:T136_c0:=F136_c0 C139 C164 C165
def F136_l0(f139:T139)(f164:T164)(f165:T165)(f136_c0:T136_c0):qn (Int×qa×Int×Int×Int×Unit) ((qa×Int×Int×Int×Unit)⊕(qa×qa×Int×Int×Int×Unit)):=λ(x0,x1,x2,x3,x4,_)=>bif decide (x0<(↑x1.length:Int))then bif decide (0<=x0)&&decide (x0<(↑x1.length:Int))then bif(↑(x1.getD x0.toNat 0).toNat:Int)==93 then bif decide (0<=x0)&&decide (x0<=(↑x1.length:Int))then bif decide (0<=IntKind.i64.wrap (x2+1))&&decide (IntKind.i64.wrap (x2+1)<=x0)then(f136_c0 (x0,List.drop (IntKind.i64.wrap (x2+1)).toNat (List.take x0.toNat x1),x1,x2,x3,x4,())).bind λv=>some (Sum.inr (Sum.inr (v.1,v.2.1,v.2.2.1,v.2.2.2.1,v.2.2.2.2.1,())))else none else none else bif(↑(x1.getD x0.toNat 0).toNat:Int)==91 then(f139 (x0,4,x1,x2,x3,x4,())).bind λv=>some (Sum.inr (Sum.inr ([],v.1,v.2.1,v.2.2.1,v.2.2.2.1,())))else bif(↑(x1.getD x0.toNat 0).toNat:Int)==92 then(f139 (x0,4,x1,x2,x3,x4,())).bind λv=>some (Sum.inr (Sum.inr ([],v.1,v.2.1,v.2.2.1,v.2.2.2.1,())))else(f165 ((↑(x1.getD x0.toNat 0).toNat:Int),())).bind λv=>bif v.1 then(f139 (x0,4,x1,x2,x3,x4,())).bind λv=>some (Sum.inr (Sum.inr ([],v.1,v.2.1,v.2.2.1,v.2.2.2.1,())))else(f164 ((↑(x1.getD x0.toNat 0).toNat:Int),())).bind λv=>bif !v.1 then(f139 (x0,4,x1,x2,x3,x4,())).bind λv=>some (Sum.inr (Sum.inr ([],v.1,v.2.1,v.2.2.1,v.2.2.2.1,())))else some (Sum.inl (IntKind.i64.wrap (x0+1),x1,x2,x3,x4,()))else none else some (Sum.inr (Sum.inl (x1,x2,x3,x4,())))
def C136_l0:T136_l0:=loopN (F136_l0 C139 C164 C165 C136_c0) big
def F136(f139:T139)(f164:T164)(f165:T165)(f136_l0:T136_l0):T136:=λ(x0,x1,x2,x3,_)=>(f136_l0 (IntKind.i64.wrap (x1+1),x0,x1,x2,x3,())).bind λv=>Sum.elim (λv=>(f139 (v.2.1,4,v.1,v.2.1,v.2.2.1,v.2.2.2.1,())).bind λv=>some ([],v.1,v.2.1,v.2.2.1,v.2.2.2.1,())) (λv=>some (v.1,v.2.1,v.2.2.1,v.2.2.2.1,v.2.2.2.2.1,())) v
def C136:T136:=F136 C139 C164 C165 C136_l0
abbrev T137_l0:=Int×Int×Int×Int×qa×Int×Int×Int×Unit->Option ((Int×Int×qa×Int×Int×Int×Unit)⊕(Int×Int×qa×Int×Int×Int×Unit)⊕(qa×qa×Int×Int×Int×Unit))
abbrev T137_g0:=Int×Int×qa×Int×Int×Int×Unit->Option (qa×qa×Int×Int×Int×Unit)
abbrev T137:=qa×Int×Int×Int×Unit->Option (qa×qa×Int×Int×Int×Unit)
def F137_l0(f139:T139)(f164:T164):qn (Int×Int×Int×Int×qa×Int×Int×Int×Unit) ((Int×Int×qa×Int×Int×Int×Unit)⊕(Int×Int×qa×Int×Int×Int×Unit)⊕(qa×qa×Int×Int×Int×Unit)):=λ(x0,x1,x2,x3,x4,x5,x6,x7,_)=>bif decide (x3<(↑x4.length:Int))then bif decide (0<=x3)&&decide (x3<(↑x4.length:Int))then bif(↑(x4.getD x3.toNat 0).toNat:Int)==40 then bif decide (IntKind.i64.wrap (x1+1)>32)then some (Sum.inr (Sum.inr (Sum.inl (6,x3,x4,x5,x6,x7,()))))else some (Sum.inl (x0,IntKind.i64.wrap (x1+1),x2,IntKind.i64.wrap (x3+1),x4,x5,x6,x7,()))else bif(↑(x4.getD x3.toNat 0).toNat:Int)==41 then bif IntKind.i64.wrap (x1-1)==0 then bif decide (0<=x3)&&decide (x3<=(↑x4.length:Int))then bif decide (0<=IntKind.i64.wrap (x0+1))&&decide (IntKind.i64.wrap (x0+1)<=x3)then some (Sum.inr (Sum.inr (Sum.inr (List.drop (IntKind.i64.wrap (x0+1)).toNat (List.take x3.toNat x4),x4,IntKind.i64.wrap (x3+1),x6,x7,()))))else none else none else some (Sum.inl (x0,IntKind.i64.wrap (x1-1),x2,IntKind.i64.wrap (x3+1),x4,x5,x6,x7,()))else bif(↑(x4.getD x3.toNat 0).toNat:Int)==92 then bif IntKind.i64.wrap (x3+1)==(↑x4.length:Int)then some (Sum.inl (x0,x1,x2,IntKind.i64.wrap (IntKind.i64.wrap (x3+1)+1),x4,x5,x6,x7,()))else bif decide (0<=IntKind.i64.wrap (x3+1))&&decide (IntKind.i64.wrap (x3+1)<(↑x4.length:Int))then(f164 ((↑(x4.getD (IntKind.i64.wrap (x3+1)).toNat 0).toNat:Int),())).bind λv=>bif !v.1 then some (Sum.inr (Sum.inr (Sum.inl (x2,IntKind.i64.wrap (x3+1),x4,x5,x6,x7,()))))else some (Sum.inl (x0,x1,x2,IntKind.i64.wrap (IntKind.i64.wrap (x3+1)+1),x4,x5,x6,x7,()))else none else(f164 ((↑(x4.getD x3.toNat 0).toNat:Int),())).bind λv=>bif !v.1 then some (Sum.inr (Sum.inr (Sum.inl (x2,x3,x4,x5,x6,x7,()))))else some (Sum.inl (x0,x1,x2,IntKind.i64.wrap (x3+1),x4,x5,x6,x7,()))else none else some (Sum.inr (Sum.inl (x0,x2,x4,x5,x6,x7,())))
def C137_l0:T137_l0:=loopN (F137_l0 C139 C164) big
def F137_g0(f139:T139)(f164:T164):qn (Int×Int×qa×Int×Int×Int×Unit) (qa×qa×Int×Int×Int×Unit):=λ(x0,x1,x2,x3,x4,x5,_)=>(f139 (x1,x0,x2,x3,x4,x5,())).bind λv=>some (Sum.inr ([],v.1,v.2.1,v.2.2.1,v.2.2.2.1,()))
def C137_g0:T137_g0:=loopN (F137_g0 C139 C164) big
def F137(f139:T139)(f164:T164)(f137_g0:T137_g0)(f137_l0:T137_l0):T137:=λ(x0,x1,x2,x3,_)=>(f137_l0 (x1,0,4,x1,x0,x1,x2,x3,())).bind λv=>Sum.elim (λv=>(f139 (v.1,v.2.1,v.2.2.1,v.2.2.2.1,v.2.2.2.2.1,v.2.2.2.2.2.1,())).bind λv=>some ([],v.1,v.2.1,v.2.2.1,v.2.2.2.1,())) (λv=>Sum.elim (λv=>(f137_g0 (v.1,v.2.1,v.2.2.1,v.2.2.2.1,v.2.2.2.2.1,v.2.2.2.2.2.1,())).bind λv=>some (v.1,v.2.1,v.2.2.1,v.2.2.2.1,v.2.2.2.2.1,())) (λv=>some (v.1,v.2.1,v.2.2.1,v.2.2.2.1,v.2.2.2.2.1,())) v) v
def C137:T137:=F137 C139 C164 C137_g0 C137_l0
abbrev T138_c0:=Int×Bool×qa×Int×Int×Int×Unit->Option ((Int×qa×Int×Int×Int×Unit)⊕(qa×qa×Int×Int×Int×Unit))
abbrev T138_l0:=Int×qa×Int×Int×Int×Unit->Option ((Int×qa×Int×Int×Int×Unit)⊕(qa×qa×Int×Int×Int×Unit))
abbrev T138:=qa×Int×Int×Int×Unit->Option (qa×qa×Int×Int×Int×Unit)
def F138_c0(f165:T165):T138_c0:=λ(x0,x1,x2,x3,x4,x5,_)=>bif x1 then some (Sum.inl (x0,x2,IntKind.i64.wrap (x3+3),x4,x5,()))else bif decide (0<=x3)&&decide (x3<=(↑x2.length:Int))then bif decide (0<=x0)&&decide (x0<=x3)then some (Sum.inr (List.drop x0.toNat (List.take x3.toNat x2),x2,x3,x4,x5,()))else none else none
def C138_c0:T138_c0:=F138_c0 C165
def F138_l0(f165:T165)(f138_c0:T138_c0):qn (Int×qa×Int×Int×Int×Unit) ((Int×qa×Int×Int×Int×Unit)⊕(qa×qa×Int×Int×Int×Unit)):=λ(x0,x1,x2,x3,x4,_)=>bif decide (x2<(↑x1.length:Int))then bif decide (0<=x2)&&decide (x2<=(↑x1.length:Int))then bif decide (0<(↑(List.drop x2.toNat x1).length:Int))then(f165 ((↑((List.drop x2.toNat x1).getD 0 0).toNat:Int),())).bind λv=>bif v.1 then some (Sum.inl (x0,x1,IntKind.i64.wrap (x2+1),x3,x4,()))else bif decide ((↑(List.drop x2.toNat x1).length:Int)>2)then bif decide (2<=(↑(List.drop x2.toNat x1).length:Int))then bif List.take 2 (List.drop x2.toNat x1)==[13,10]then bif decide (2<(↑(List.drop x2.toNat x1).length:Int))then(f165 ((↑((List.drop x2.toNat x1).getD 2 0).toNat:Int),())).bind λv=>(f138_c0 (x0,v.1,x1,x2,x3,x4,())).bind λv=>Sum.elim (λv=>some (Sum.inl (v.1,v.2.1,v.2.2.1,v.2.2.2.1,v.2.2.2.2.1,()))) (λv=>some (Sum.inr (Sum.inr (v.1,v.2.1,v.2.2.1,v.2.2.2.1,v.2.2.2.2.1,())))) v else none else(f138_c0 (x0,false,x1,x2,x3,x4,())).bind λv=>Sum.elim (λv=>some (Sum.inl (v.1,v.2.1,v.2.2.1,v.2.2.2.1,v.2.2.2.2.1,()))) (λv=>some (Sum.inr (Sum.inr (v.1,v.2.1,v.2.2.1,v.2.2.2.1,v.2.2.2.2.1,())))) v else none else(f138_c0 (x0,false,x1,x2,x3,x4,())).bind λv=>Sum.elim (λv=>some (Sum.inl (v.1,v.2.1,v.2.2.1,v.2.2.2.1,v.2.2.2.2.1,()))) (λv=>some (Sum.inr (Sum.inr (v.1,v.2.1,v.2.2.1,v.2.2.2.1,v.2.2.2.2.1,())))) v else none else none else some (Sum.inr (Sum.inl (x0,x1,x2,x3,x4,())))
def C138_l0:T138_l0:=loopN (F138_l0 C165 C138_c0) big
def F138(f165:T165)(f138_l0:T138_l0):T138:=λ(x0,x1,x2,x3,_)=>(f138_l0 (x1,x0,x1,x2,x3,())).bind λv=>Sum.elim (λv=>bif decide (0<=v.2.2.1)&&decide (v.2.2.1<=(↑(List.length v.2.1):Int))then bif decide (0<=v.1)&&decide (v.1<=v.2.2.1)then some (List.drop (Int.toNat v.1) (List.take (Int.toNat v.2.2.1) v.2.1),v.2.1,v.2.2.1,v.2.2.2.1,v.2.2.2.2.1,())else none else none) (λv=>some (v.1,v.2.1,v.2.2.1,v.2.2.2.1,v.2.2.2.2.1,())) v
def C138:T138:=F138 C165 C138_l0
abbrev T110_c0:=Int×Int×qa×Int×Int×Int×Int×qa×Int×Unit->Option (qa×Int×Int×Int×Int×qa×Int×Unit)
abbrev T110:=qa×Int×Int×Int×Unit->Option (Int×qa×Int×qa×Int×Int×Int×Unit)
def F110_c0(f133:T133)(f134:T134)(f135:T135)(f136:T136)(f137:T137)(f138:T138)(f139:T139)(f66:T66):T110_c0:=λ(x0,x1,x2,x3,x4,x5,x6,x7,x8,_)=>(f133 (x1,())).bind λv=>bif v.1 then(f134 (x2,x3,x4,x5,())).bind λv=>some (v.2.1,v.2.2.1,v.2.2.2.1,v.2.2.2.2.1,0,v.1,x0,())else(f66 ([60,62,58,59,64,44,46],x1,())).bind λv=>bif decide (v.1>=0)then bif decide (0<=IntKind.i64.wrap (x3+1))&&decide (IntKind.i64.wrap (x3+1)<=(↑x2.length:Int))then bif decide (0<=x0)&&decide (x0<=IntKind.i64.wrap (x3+1))then some (x2,IntKind.i64.wrap (x3+1),x4,x5,2,List.drop x0.toNat (List.take (IntKind.i64.wrap (x3+1)).toNat x2),x0,())else none else none else bif x1==34 then(f135 (x2,x3,x4,x5,())).bind λv=>some (v.2.1,v.2.2.1,v.2.2.2.1,v.2.2.2.2.1,1,v.1,x0,())else bif x1==91 then(f136 (x2,x3,x4,x5,())).bind λv=>some (v.2.1,v.2.2.1,v.2.2.2.1,v.2.2.2.2.1,5,v.1,x0,())else bif x1==40 then(f137 (x2,x3,x4,x5,())).bind λv=>some (v.2.1,v.2.2.1,v.2.2.2.1,v.2.2.2.2.1,3,v.1,x0,())else(f138 (x2,x3,x4,x5,())).bind λv=>bif v.1==[]then(f139 (x0,4,v.2.1,v.2.2.1,v.2.2.2.1,v.2.2.2.2.1,())).bind λv1=>some (v1.1,v1.2.1,v1.2.2.1,v1.2.2.2.1,4,v.1,x0,())else some (v.2.1,v.2.2.1,v.2.2.2.1,v.2.2.2.2.1,4,v.1,x0,())
def C110_c0:T110_c0:=F110_c0 C133 C134 C135 C136 C137 C138 C139 C66
def F110(f133:T133)(f134:T134)(f135:T135)(f136:T136)(f137:T137)(f138:T138)(f139:T139)(f66:T66)(f110_c0:T110_c0):T110:=λ(x0,x1,x2,x3,_)=>bif decide (0<=x1)&&decide (x1<(↑x0.length:Int))then(f110_c0 (x1,(↑(x0.getD x1.toNat 0).toNat:Int),x0,x1,x2,x3,0,[],0,())).bind λv=>some (v.2.2.2.2.1,v.2.2.2.2.2.1,v.2.2.2.2.2.2.1,v.1,v.2.1,v.2.2.1,v.2.2.2.1,())else none
def C110:T110:=F110 C133 C134 C135 C136 C137 C138 C139 C66 C110_c0
abbrev T73_l0:=qa×LqD×qa×Int×Int×Int×Unit->Option ((LqD×Unit)⊕(Int×Int×Unit))
abbrev T73:=qa×Unit->Option (LqD×Int×Int×Unit)
def F73_l0(f110:T110)(f65:T65):qn (qa×LqD×qa×Int×Int×Int×Unit) ((LqD×Unit)⊕(Int×Int×Unit)):=λ(x0,x1,x2,x3,x4,x5,_)=>bif decide (x3<(↑x0.length:Int))then(f110 (x2,x3,x4,x5,())).bind λv=>bif decide (x1.length+[(v.1,v.2.1,v.2.2.1)].length<=140737488355328/32)then bif v.2.2.2.2.2.2.1 != 0 then some (Sum.inr (Sum.inr (v.2.2.2.2.2.1,v.2.2.2.2.2.2.1,())))else some (Sum.inl (x0,x1++[(v.1,v.2.1,v.2.2.1)],v.2.2.2.1,v.2.2.2.2.1,v.2.2.2.2.2.1,v.2.2.2.2.2.2.1,()))else none else some (Sum.inr (Sum.inl (x1,())))
def C73_l0:T73_l0:=loopN (F73_l0 C110 C65) big
def F73(f110:T110)(f65:T65)(f73_l0:T73_l0):T73:=λ(x0,_)=>bif decide ((↑x0.length:Int)>2000)then some ([],0,5,())else(f65 (x0,())).bind λv=>bif decide (v.2.1>=0)then some ([],v.2.1,7,())else(f73_l0 (x0,[],x0,0,0,0,())).bind λv=>Sum.elim (λv=>some (v.1,0,0,())) (λv=>some ([],v.1,v.2.1,())) v
def C73:T73:=F73 C110 C65 C73_l0
end Go.Proofs.YtgkmfhhghcccjaaGreatDoorA.W
set_option linter.unusedSimpArgs false
namespace Go.Proofs.YtgkmfhhghcccjaaGreatDoorA.W
open Go Go.Ae
theorem wr{n:Int}(h1 : -9223372036854775808<=n)(h2:n<=9223372036854775807):IntKind.i64.wrap n=n:=by rw[IntKind.wrap_i64];omega
theorem wrN(n:Nat)(h:n<=9223372036854775806):IntKind.i64.wrap ((n:Int)+1)=((n+1:Nat):Int):=by rw[wr]<;>omega
theorem of_to(b:UInt8):UInt8.ofNat b.toNat=b:=by simp
theorem byte_back(b:UInt8):UInt8.ofNat ((b.toNat:Int)).toNat=b:=by simp
theorem getD_lt{α:Type}{l:List α}{i:Nat}{d:α}(h:i<l.length):l.getD i d=l[i]:=by simp[List.getD_eq_getElem?_getD,List.getElem?_eq_getElem h]
def esc1(c:UInt8):List UInt8:=if c.toNat=34\/c.toNat=92 then [92,c]else [c]
def esc(s:List UInt8):List UInt8:=s.flatMap esc1
theorem esc1_len(c:UInt8):(esc1 c).length<=2:=by unfold esc1;split<;>simp
theorem esc_len:∀s:List UInt8,(esc s).length<=2*s.length
 | []=>by simp[esc]
 | c::s=>by have:=esc_len s;have:=esc1_len c;simp[esc]at *;omega
theorem esc_append(s t:List UInt8):esc (s++t)=esc s++esc t:=by simp[esc]
theorem take_succ_get{α:Type}{s:List α}{k:Nat}(h:k<s.length):s.take (k+1)=s.take k++[s[k]]:=by
 rw[take_add_one,List.getElem?_eq_getElem h];rfl
theorem esc_take{s:List UInt8}{k:Nat}(h:k<s.length):esc (s.take (k+1))=esc (s.take k)++esc1 s[k]:=by
 rw[take_succ_get h,esc_append];simp[esc]
theorem ibT{a b:Int}(h:a=b):(a==b)=true:=by simp[h]
theorem ibF{a b:Int}(h:a≠b):(a==b)=false:=by simp[h]
theorem inT{a b:Int}(h:a≠b):(a != b)=true:=by simp[h]
theorem inF{a b:Int}(h:a=b):(a != b)=false:=by simp[h]
theorem esc1_q{c:UInt8}(h:c.toNat=34):esc1 c=[92]++[c]:=by simp[esc1,h]
theorem esc1_b{c:UInt8}(h:c.toNat=92):esc1 c=[92]++[c]:=by simp[esc1,h]
theorem esc1_n{c:UInt8}(h:¬c.toNat=34)(h2:¬c.toNat=92):esc1 c=[c]:=by simp[esc1,h,h2]
theorem r14(s:List UInt8)(k:Nat)(acc:List UInt8)(h:k<s.length)(hb:s.length<=9223372036854775806)(ha:acc.length+2<=140737488355328) :
 F233_l0 (s,(s.length:Int),(k:Int),acc,())=some (.inl (s,(s.length:Int),((k+1:Nat):Int),acc++esc1 s[k],())):=by
 by_cases e1:s[k].toNat=34
 . simp (disch:=omega) only[F233_l0,decide_eq_true,cond_true,Bool.and_self,qk,getD_lt,byte_back,wrN,toNat_natCast,ibT,esc1_q,append_assoc,of_to]
 . by_cases e2:s[k].toNat=92
   . simp (disch:=omega) only[F233_l0,decide_eq_true,cond_true,cond_false,Bool.and_self,qk,getD_lt,byte_back,wrN,toNat_natCast,ibT,ibF,esc1_b,append_assoc,of_to]
   . simp (disch:=omega) only[F233_l0,decide_eq_true,cond_true,cond_false,Bool.and_self,qk,getD_lt,byte_back,wrN,toNat_natCast,ibT,ibF,esc1_n,append_assoc,of_to]
theorem c14(s:List UInt8)(hb:s.length<=70368744177663):C233 (s,())=some (esc s,()):=by
 have key:∀(k:Nat) (n:Nat),k<=s.length->s.length-k<n->loopN F233_l0 n (s,(s.length:Int),(k:Int),esc (s.take k),())=some (esc s,()):=by
  intro k n
  induction n generalizing k with
  | zero=>intro _ h;omega
  | succ n ih =>
   intro hk hn;by_cases h:k<s.length
   . have hl:=esc_len (s.take k)
     rw[loopN_inl (r14 s k _ h (by omega) (by simp only[List.length_take]at hl;omega)),<-esc_take h];exact ih (k+1) (by omega) (by omega)
   . have:k=s.length:=by omega
     subst this;refine loopN_inr ?_;simp[F233_l0]
 have:=key 0 big (by omega) (by unfold big;omega);simp only[take_zero]at this;show F233 C233_l0 (s,())=_;simp only[F233,C233_l0];rw[show loopN F233_l0 big (s,(s.length:Int),0,[],())=some (esc s,()) from this];rfl
def src(k:Int)(s:List UInt8):List UInt8:=if k=1 then [34]++esc s++[34]else if k=3 then [40]++s++[41]else if k=5 then [91]++s++[93]else s
theorem c9(k:Int)(s:List UInt8)(a:Int)(hb:s.length<=9000):C197 (k,s,a,())=some (src k s,()):=by
 have hl:=esc_len s;show F197 C233 (k,s,a,())=_;by_cases e1:k=1
 . simp (disch:=omega) only[F197,c14,ibT,cond_true,decide_eq_true,qk,Option.bind_some,src,if_pos]
 . by_cases e3:k=3
   . simp (disch:=omega) only[F197,ibT,ibF,cond_true,cond_false,decide_eq_true,qk,Option.bind_some,src,if_pos,if_neg]
   . by_cases e5:k=5
     . simp (disch:=omega) only[F197,ibT,ibF,cond_true,cond_false,decide_eq_true,qk,Option.bind_some,src,if_pos,if_neg]
     . simp (disch:=omega) only[F197,ibT,ibF,cond_true,cond_false,src,if_neg]
theorem all256(p:UInt8->Bool)(h:(List.range 256).all (λn=>p (UInt8.ofNat n))=true)(c:UInt8):p c=true:=by
 have h1:=List.all_eq_true.1 h c.toNat (List.mem_range.2 (by have:=c.toNat_lt;omega))
 simpa using h1
def gB(o:Option (Bool×Unit)):Bool:=match o with|some (b,_)=>b|none=>false
def okB(o:Option (Bool×Unit)):Bool:=match o with|some (_,_)=>true|none=>false
theorem okB_some{o:Option (Bool×Unit)}(h:okB o=true):o=some (gB o,()):=by
 cases o with
 | none=>cases h
 | some x=>rfl
def atomB(c:UInt8):Bool:=gB (C133 ((c.toNat:Int),()))
def blankB(c:UInt8):Bool:=gB (C165 ((c.toNat:Int),()))
def mayB(c:UInt8):Bool:=gB (C164 ((c.toNat:Int),()))
def signI(c:UInt8):Int:=match C66 ([60,62,58,59,64,44,46],(c.toNat:Int),())with|some (i,_)=>i|none=>0
def signB(c:UInt8):Bool:=decide (signI c>=0)
theorem c17(c:UInt8):C133 ((c.toNat:Int),())=some (atomB c,()):=okB_some (all256 (λc=>okB (C133 ((c.toNat:Int),()))) (by kernel_rfl) c)
theorem c32(c:UInt8):C165 ((c.toNat:Int),())=some (blankB c,()):=okB_some (all256 (λc=>okB (C165 ((c.toNat:Int),()))) (by kernel_rfl) c)
theorem c31(c:UInt8):C164 ((c.toNat:Int),())=some (mayB c,()):=okB_some (all256 (λc=>okB (C164 ((c.toNat:Int),()))) (by kernel_rfl) c)
theorem c22s(c:UInt8):C66 ([60,62,58,59,64,44,46],(c.toNat:Int),())=some (signI c,()):=rfl
theorem gd{α:Type}{pre r:List α}{c d:α}{p:Nat}(h:pre.length=p):(pre++c::r).getD p d=c:=by subst h;simp
theorem dr{α:Type}{pre r:List α}{p:Nat}(h:pre.length=p):List.drop p (pre++r)=r:=by subst h;simp
theorem Sk:(∀{p:Prop} [Decidable p],p->decide p=true)/\(∀{p:Prop} [Decidable p],¬p->decide p=false)/\(∀{α:Type} (a b:α),(bif true then a else b)=a)/\(∀{α:Type} (a b:α),(bif false then a else b)=b) /\
 (∀b:Bool,(b&&b)=b)/\(∀b:Bool,(true&&b)=b)/\(∀b:Bool,(b&&true)=b)/\(∀b:Bool,(false&&b)=false)/\(∀b:Bool,(b&&false)=false)/\(!true)=false/\(!false)=true /\
 (∀{α:Type} {a b:List α},(a++b).length=a.length+b.length)/\(∀{α:Type} {a:α} {l:List α},(a::l).length=l.length+1)/\(∀{α:Type},([]:List α).length=0)/\(∀n:Nat,((n:Int)).toNat=n) /\
 (∀{a b:Int},a=b->(a==b)=true)/\(∀{a b:Int},a≠b->(a==b)=false)/\(∀{a b:Int},a≠b->(a != b)=true)/\(∀{a b:Int},a=b->(a != b)=false) /\
 (∀n:Nat,n<=9223372036854775806->IntKind.i64.wrap ((n:Int)+1)=((n+1:Nat):Int))/\(∀{α:Type} {pre r:List α} {c d:α} {p:Nat},pre.length=p->(pre++c::r).getD p d=c)/\(∀{α:Type} {pre r:List α} {p:Nat},pre.length=p->List.drop p (pre++r)=r) /\
 (∀{α β:Type} (a:α) (f:α->Option β),(some a).bind f=f a)/\(∀{α β γ:Type} (f:α->γ) (g:β->γ) (x:α),Sum.elim f g (Sum.inl x)=f x)/\(∀{α β γ:Type} (f:α->γ) (g:β->γ) (x:β),Sum.elim f g (Sum.inr x)=g x)/\(∀b:UInt8,UInt8.ofNat ((b.toNat:Int)).toNat=b)/\∀b:UInt8,UInt8.ofNat b.toNat=b :=
 ⟨@decide_eq_true,@decide_eq_false,λ_ _=>rfl,λ_ _=>rfl,Bool.and_self,Bool.true_and,Bool.and_true,Bool.false_and,Bool.and_false,rfl,rfl,@λ_ _ _=>List.length_append,@λ_ _ _=>length_cons,@λ_=>length_nil,toNat_natCast,@ibT,@ibF,@inT,@inF,wrN,@gd,@dr,@Option.bind_some,λ_ _ _=>rfl,λ_ _ _=>rfl,byte_back,of_to⟩
theorem shift{α:Type}(pre:List α)(c:α)(r:List α):pre++c::r=(pre++[c])++r:=by simp
theorem c27(k e:Int)(s:List UInt8)(at_ bad err:Int):C139 (k,e,s,at_,bad,err,())=some (s,at_,k,e,()):=rfl
def al:List UInt8->Nat
 | []=>0
 | c::r=>bif atomB c then al r+1 else 0
theorem al_le:∀r,al r<=r.length
 | []=>le_refl _
 | c::r=>by have:=al_le r;simp only[al];cases atomB c<;>simp;omega
theorem l21(f bad err:Int):∀(r pre:List UInt8) (p n:Nat),pre.length=p->r.length<n->p+r.length<=140737488355328 ->
 loopN (F134_l0 C133 C134_c0) n (f,pre++r,(p:Int),bad,err,())=some (f,pre++r,((p+al r:Nat):Int),bad,err,())
 | [],pre,p,n+1,hp,hn,hb=>by
  refine loopN_inr ?_;simp (disch:=(first|omega|(simp only[qk];omega))) only[F134_l0,C134_c0,F134_c0,Sk,al,append_nil,add_zero]
 | c::r,pre,p,n+1,hp,hn,hb=>by
  simp only[length_cons]at hn hb;cases h:atomB c with
  | true =>
   rw[loopN_inl (v':=(f,pre++c::r,((p+1:Nat):Int),bad,err,())) (by simp (disch:=(first|omega|(simp only[qk];omega))) only[F134_l0,C134_c0,F134_c0,Sk,c17,h])];rw[shift,l21 f bad err r (pre++[c]) (p+1) n (by simp[hp]) (by omega) (by omega)];simp only[al,h,cond_true,add_assoc,Nat.add_comm 1]
  | false =>
   refine loopN_inr ?_;simp (disch:=(first|omega|(simp only[qk];omega))) only[F134_l0,C134_c0,F134_c0,Sk,c17,h,al,add_zero]
theorem c21(pre r:List UInt8)(p:Nat)(bad err:Int)(hp:pre.length=p)(hb:p+r.length<=140737488355328) :
 C134 (pre++r,(p:Int),bad,err,())=some (r.take (al r),pre++r,((p+al r:Nat):Int),bad,err,()):=by
 have:=al_le r;show F134 C133 C134_l0 (pre++r,(p:Int),bad,err,())=_;have hl:C134_l0 ((p:Int),pre++r,(p:Int),bad,err,())=_:=l21 p bad err r pre p big hp (by unfold big;omega) hb;simp (disch:=(first|omega|(simp only[qk];omega))) only[F134,hl,Sk];rw[show List.drop p (List.take (p+al r) (pre++r))=r.take (al r) by rw[<-hp,List.take_append,List.take_of_length_le (by omega),List.drop_append];simp]
def wl:List UInt8->Nat
 | []=>0
 | c::r=>bif blankB c then wl r+1 else
  match r with
  | b::d::r'=>bif(c==13&&b==10)&&blankB d then wl r'+3 else 0
  | _=>0
theorem wl_le:∀r,wl r<=r.length
 | []=>le_refl _
 | [c]=>by simp only[wl];cases blankB c<;>simp
 | [c,b]=>by have:=wl_le [b];simp only[wl]at *;cases blankB c<;>cases blankB b<;>simp
 | c::b::d::r'=>by
  have h1:=wl_le (b::d::r');have h2:=wl_le r';rw[wl];cases blankB c
  . simp only[cond_false];cases (c==13&&b==10)&&blankB d<;>simp;omega
  . simp only[cond_true,length_cons]at *;omega
theorem beq2(c b:UInt8):([c,b]==[13,10])=(c==13&&b==10):=by
 rw[Bool.eq_iff_iff];simp
theorem c26c(f p:Nat)(s:List UInt8)(bad err:Int)(b:Bool)(hf:f<=p)(hp:p<=s.length)(hb:p<=140737488355328) :
 C138_c0 ((f:Int),b,s,(p:Int),bad,err,())=some (bif b then .inl ((f:Int),s,((p+3:Nat):Int),bad,err,())else .inr (List.drop f (List.take p s),s,(p:Int),bad,err,())):=by
 cases b with
 | true=>simp only[C138_c0,F138_c0,cond_true];rw[wr (by omega) (by omega)];rfl
 | false=>simp (disch:=(first|omega|(simp only[qk];omega))) only[C138_c0,F138_c0,Sk]
theorem wl_t{c:UInt8}{r:List UInt8}(h:blankB c=true):wl (c::r)=wl r+1:=by
 match r with
 | []=>simp[wl,h]
 | [b]=>simp[wl,h]
 | b::d::r=>rw[wl,h];rfl
theorem wl_stop{c:UInt8}{r:List UInt8}(h:blankB c=false)(h2:r.length<2):wl (c::r)=0:=by
 match r,h2 with
 | [],_=>simp[wl,h]
 | [b],_=>simp[wl,h]
 | b::d::r,h2=>simp at h2;omega
theorem l26(f:Nat)(bad err:Int):∀(m:Nat) (r pre:List UInt8) (p n:Nat),r.length<=m->pre.length=p->r.length<n->f<=p->p+r.length<=140737488355328 ->
 loopN (F138_l0 C165 C138_c0) n ((f:Int),pre++r,(p:Int),bad,err,())=some (.inl ((f:Int),pre++r,((p+wl r:Nat):Int),bad,err,())) \/
 loopN (F138_l0 C165 C138_c0) n ((f:Int),pre++r,(p:Int),bad,err,())=some (.inr (List.drop f (List.take (p+wl r) (pre++r)),pre++r,((p+wl r:Nat):Int),bad,err,()))
 | _,_,_,_,0,_,_,hn,_,_=>by omega
 | m,[],pre,p,n+1,hm,hp,hn,hf,hb=>by
  refine .inl (loopN_inr ?_);simp (disch:=(first|omega|(simp only[qk];omega))) only[F138_l0,Sk,wl,append_nil,add_zero]
 | 0,c::r,pre,p,n+1,hm,hp,hn,hf,hb=>by simp at hm
 | m+1,c::r,pre,p,n+1,hm,hp,hn,hf,hb=>by
  simp only[length_cons]at hn hb hm;cases h:blankB c with
  | true =>
   rw[loopN_inl (v':=((f:Int),pre++c::r,((p+1:Nat):Int),bad,err,())) (by simp (disch:=(first|omega|(simp only[qk];omega))) only[F138_l0,Sk,c32,h,getD_cons_zero])];rw[shift];have:=l26 f bad err m r (pre++[c]) (p+1) n (by omega) (by simp[hp]) (by omega) (by omega) (by omega);rw[show p+wl (c::r)=p+1+wl r by rw[wl_t h];omega];exact this
  | false =>
   have stop:∀(hw:wl (c::r)=0),F138_l0 C165 C138_c0 ((f:Int),pre++c::r,(p:Int),bad,err,())=some (.inr (.inr (List.drop f (List.take p (pre++c::r)),pre++c::r,(p:Int),bad,err,()))) ->
    loopN (F138_l0 C165 C138_c0) (n+1) ((f:Int),pre++c::r,(p:Int),bad,err,())=some (.inr (List.drop f (List.take (p+wl (c::r)) (pre++c::r)),pre++c::r,((p+wl (c::r):Nat):Int),bad,err,())):=by
    intro hw h;rw[hw];exact loopN_inr h
   match r,hm,hn,hb with
   | [],hm,hn,hb =>
    refine .inr (stop (wl_stop h (by simp)) ?_);simp (disch:=(first|omega|(simp only[qk];omega))) only[F138_l0,Sk,c32,h,getD_cons_zero,c26c]
   | [b],hm,hn,hb =>
    refine .inr (stop (wl_stop h (by simp)) ?_);simp only[length_cons,length_nil]at hn hb hm;simp (disch:=(first|omega|(simp only[qk];omega))) only[F138_l0,Sk,c32,h,getD_cons_zero,c26c]
   | b::d::r',hm,hn,hb =>
    simp only[length_cons]at hn hb hm;cases hq:(c==13&&b==10)with
    | false =>
     refine .inr (stop (by rw[wl,h,hq];rfl) ?_);simp (disch:=(first|omega|(simp only[qk];omega))) only[F138_l0,Sk,c32,h,getD_cons_zero,c26c,List.take_succ_cons,take_zero,beq2,hq]
    | true =>
     cases hd:blankB d with
     | false =>
      refine .inr (stop (by rw[wl,h,hq,hd];rfl) ?_);simp (disch:=(first|omega|(simp only[qk];omega))) only[F138_l0,Sk,c32,h,getD_cons_zero,List.getD_cons_succ,c26c,List.take_succ_cons,take_zero,beq2,hq,hd]
     | true =>
      rw[loopN_inl (v':=((f:Int),pre++c::b::d::r',((p+3:Nat):Int),bad,err,())) (by simp (disch:=(first|omega|(simp only[qk];omega))) only[F138_l0,Sk,c32,h,getD_cons_zero,List.getD_cons_succ,c26c,List.take_succ_cons,take_zero,beq2,hq,hd])];have:=l26 f bad err m r' (pre++[c,b,d]) (p+3) n (by omega) (by simp[hp]) (by omega) (by omega) (by omega);rw[show p+wl (c::b::d::r')=p+3+wl r' by rw[wl,h,hq,hd];simp only[cond_true,cond_false,Bool.and_self];omega];rw[show pre++c::b::d::r'=(pre++[c,b,d])++r' by simp];exact this
theorem text_eq{pre r:List UInt8}{p k:Nat}(hp:pre.length=p):List.drop p (List.take (p+k) (pre++r))=r.take k:=by
 rw[<-hp,List.take_append,List.take_of_length_le (by omega),List.drop_append];simp
theorem c26(pre r:List UInt8)(p:Nat)(bad err:Int)(hp:pre.length=p)(hb:p+r.length<=140737488355328) :
 C138 (pre++r,(p:Int),bad,err,())=some (r.take (wl r),pre++r,((p+wl r:Nat):Int),bad,err,()):=by
 have:=wl_le r;show F138 C165 C138_l0 (pre++r,(p:Int),bad,err,())=_;rcases l26 p bad err r.length r pre p big (le_refl _) hp (by unfold big;omega) (le_refl _) hb with hl|hl
 . have hl':C138_l0 ((p:Int),pre++r,(p:Int),bad,err,())=_:=hl
   simp (disch:=(first|omega|(simp only[qk];omega))) only[F138,hl',Sk,text_eq]
 . have hl':C138_l0 ((p:Int),pre++r,(p:Int),bad,err,())=_:=hl
   simp (disch:=(first|omega|(simp only[qk];omega))) only[F138,hl',Sk,text_eq]
inductive Tk where
 | ok (t:List UInt8) (u:Nat)
 | bad (off:Nat) (e:Int)
 | start
def Tk.push(l:List UInt8)(n:Nat):Tk->Tk
 | .ok t u => .ok (l++t) (n+u)
 | .bad off e => .bad (n+off) e
 | .start => .start
def qt:List UInt8->Tk
 | [] => .start
 | c::r=>if c.toNat=34 then .ok [] 1 else if c.toNat=92 then
  match r with
  | [] => .start
  | d::r'=>bif mayB d then(qt r').push [d] 2 else .bad 1 4
  else bif mayB c then(qt r).push [c] 1 else .bad 0 4
theorem qt_q{c:UInt8}{r:List UInt8}(h:c.toNat=34):qt (c::r) = .ok [] 1:=by cases r<;>simp[qt,h]
theorem qt_b0{c:UInt8}(h:c.toNat=92):qt [c] = .start:=by simp[qt,h]
theorem qt_b1{c d:UInt8}{r:List UInt8}(h:c.toNat=92):qt (c::d::r)=bif mayB d then(qt r).push [d] 2 else .bad 1 4:=by simp[qt,h]
theorem qt_c{c:UInt8}{r:List UInt8}(h1:¬c.toNat=34)(h2:¬c.toNat=92):qt (c::r)=bif mayB c then(qt r).push [c] 1 else .bad 0 4:=by cases r<;>simp[qt,h1,h2]
def resq(s:List UInt8)(a bad err:Int)(out:List UInt8)(q:Nat):Tk->(List UInt8×Int×Int×Int×Unit)⊕(List UInt8×List UInt8×Int×Int×Int×Unit)
 | .ok t u => .inr (out++t,s,((q+u:Nat):Int),bad,err,())
 | .bad off e => .inr ([],s,a,((q+off:Nat):Int),e,())
 | .start => .inl (s,a,bad,err,())
theorem resq_push(s:List UInt8)(a bad err:Int)(out:List UInt8)(q:Nat)(l:List UInt8)(n:Nat)(k:Tk):resq s a bad err out q (k.push l n)=resq s a bad err (out++l) (q+n) k:=by
 cases k<;>simp[Tk.push,resq,add_assoc]
theorem c23c(pre r out:List UInt8)(d:UInt8)(q:Nat)(a bad err:Int)(hq:pre.length=q)(hb:q+r.length<=140737488355320)(ho:out.length+1<=140737488355328) :
 C135_c0 ((q:Int),pre++d::r,a,bad,err,out,())=some (bif mayB d then .inr ((q:Int),pre++d::r,a,bad,err,out++[d],())else .inl ([],pre++d::r,a,(q:Int),4,())):=by
 cases h:mayB d<;>simp (disch:=(first|omega|(simp only[qk];omega))) only[C135_c0,F135_c0,Sk,c31,c27,h]
theorem l23(a bad err:Int):∀(m:Nat) (r pre out:List UInt8) (q n:Nat),r.length<=m->pre.length=q->r.length<n->q+r.length<=140737488355320->out.length+r.length<=140737488355320 ->
 loopN (F135_l0 C139 C164 C135_c0) n ((q:Int),pre++r,a,bad,err,out,())=some (resq (pre++r) a bad err out q (qt r))
 | _,_,_,_,_,0,_,_,hn,_,_=>by omega
 | m,[],pre,out,q,n+1,hm,hq,hn,hb,ho=>by
  refine loopN_inr ?_;simp (disch:=(first|omega|(simp only[qk];omega))) only[F135_l0,Sk,append_nil,qt,resq]
 | 0,c::r,pre,out,q,n+1,hm,hq,hn,hb,ho=>by simp at hm
 | m+1,c::r,pre,out,q,n+1,hm,hq,hn,hb,ho=>by
  simp only[length_cons]at hn hb hm ho;by_cases e1:c.toNat=34
  . refine loopN_inr ?_
    rw[qt_q e1];simp (disch:=(first|omega|(simp only[qk];omega))) only[F135_l0,Sk,resq,append_nil]
  . by_cases e2:c.toNat=92
    . match r,hm,hn,hb,ho with
      | [],hm,hn,hb,ho =>
       refine loopN_inr ?_;rw[qt_b0 e2];simp (disch:=(first|omega|(simp only[qk];omega))) only[F135_l0,Sk,resq,append_nil]
      | d::r',hm,hn,hb,ho =>
       simp only[length_cons]at hn hb hm ho;have hc:=c23c (pre++[c]) r' out d (q+1) a bad err (by simp[hq]) (by omega) (by omega);rw[<-shift]at hc;rw[qt_b1 e2];cases h:mayB d with
       | true =>
        rw[h]at hc;simp only[cond_true]at hc ⊢;rw[loopN_inl (v':=(((q+2:Nat):Int),pre++c::d::r',a,bad,err,out++[d],())) (by
         simp (disch:=(first|omega|(simp only[qk];omega))) only[F135_l0,Sk,hc])]
        have:=l23 a bad err m r' (pre++[c,d]) (out++[d]) (q+2) n (by omega) (by simp[hq]) (by omega) (by omega) (by simp;omega);rw[show pre++c::d::r'=(pre++[c,d])++r' by simp,this,<-resq_push]
       | false =>
        rw[h]at hc;simp only[cond_false]at hc ⊢;refine loopN_inr ?_;simp (disch:=(first|omega|(simp only[qk];omega))) only[F135_l0,Sk,hc,resq]
    . have hc:=c23c pre r out c q a bad err hq (by omega) (by omega)
      rw[qt_c e1 e2];cases h:mayB c with
      | true =>
       rw[h]at hc;simp only[cond_true]at hc ⊢;rw[loopN_inl (v':=(((q+1:Nat):Int),pre++c::r,a,bad,err,out++[c],())) (by
        simp (disch:=(first|omega|(simp only[qk];omega))) only[F135_l0,Sk,hc])]
       have:=l23 a bad err m r (pre++[c]) (out++[c]) (q+1) n (by omega) (by simp[hq]) (by omega) (by omega) (by simp;omega);rw[shift,this,<-resq_push]
      | false =>
       rw[h]at hc;simp only[cond_false]at hc ⊢;refine loopN_inr ?_;simp (disch:=(first|omega|(simp only[qk];omega))) only[F135_l0,Sk,hc,resq,add_zero]
def fin(s:List UInt8)(p:Nat)(bad err:Int)(q:Nat):Tk->List UInt8×List UInt8×Int×Int×Int×Unit
 | .ok t u=>(t,s,((q+u:Nat):Int),bad,err,())
 | .bad off e=>([],s,(p:Int),((q+off:Nat):Int),e,())
 | .start=>([],s,(p:Int),(p:Int),4,())
theorem c23(pre r:List UInt8)(c:UInt8)(p:Nat)(bad err:Int)(hp:pre.length=p)(hb:p+r.length<=140737488355000) :
 C135 (pre++c::r,(p:Int),bad,err,())=some (fin (pre++c::r) p bad err (p+1) (qt r)):=by
 show F135 C139 C164 C135_l0 (pre++c::r,(p:Int),bad,err,())=_;have hl:=l23 p bad err r.length r (pre++[c]) [] (p+1) big (le_refl _) (by simp[hp]) (by unfold big;omega) (by omega) (by simp;omega);rw[<-shift]at hl;have hl':C135_l0 (((p+1:Nat):Int),pre++c::r,(p:Int),bad,err,[],())=_:=hl;cases hq:qt r<;>rw[hq]at hl'<;>simp (disch:=(first|omega|(simp only[qk];omega))) only[F135,Sk,hl',resq,fin,c27,nil_append]
def ltk:List UInt8->Tk
 | [] => .start
 | c::r=>if c.toNat=93 then .ok [] 1 else if c.toNat=91 then .bad 0 4 else if c.toNat=92 then .bad 0 4 else
  bif blankB c then .bad 0 4 else bif mayB c then(ltk r).push [c] 1 else .bad 0 4
def resl(s:List UInt8)(a bad err:Int)(from_:Nat)(q:Nat):Tk->(List UInt8×Int×Int×Int×Unit)⊕(List UInt8×List UInt8×Int×Int×Int×Unit)
 | .ok t u => .inr (List.drop from_ (List.take (q+t.length) s),s,((q+u:Nat):Int),bad,err,())
 | .bad off e => .inr ([],s,a,((q+off:Nat):Int),e,())
 | .start => .inl (s,a,bad,err,())
theorem resl_push(s:List UInt8)(a bad err:Int)(f q:Nat)(l:List UInt8)(n:Nat)(hl:l.length=n)(k:Tk):resl s a bad err f q (k.push l n)=resl s a bad err f (q+n) k:=by
 cases k<;>simp[Tk.push,resl,add_assoc,hl]
theorem l24(a:Nat)(bad err:Int):∀(r pre:List UInt8) (q n:Nat),pre.length=q->a+1<=q->r.length<n->q+r.length<=140737488355320 ->
 loopN (F136_l0 C139 C164 C165 C136_c0) n ((q:Int),pre++r,(a:Int),bad,err,())=some (resl (pre++r) a bad err (a+1) q (ltk r))
 | _,_,_,0,_,_,hn,_=>by omega
 | [],pre,q,n+1,hq,ha,hn,hb=>by
  refine loopN_inr ?_;simp (disch:=(first|omega|(simp only[qk];omega))) only[F136_l0,C136_c0,F136_c0,Sk,append_nil,ltk,resl]
 | c::r,pre,q,n+1,hq,ha,hn,hb=>by
  simp only[length_cons]at hn hb;by_cases e1:c.toNat=93
  . refine loopN_inr ?_
    simp (disch:=(first|omega|(simp only[qk];omega))) only[F136_l0,C136_c0,F136_c0,Sk,ltk,if_pos,resl,add_zero]
  . by_cases e2:c.toNat=91
    . refine loopN_inr ?_
      simp (disch:=(first|omega|(simp only[qk];omega))) only[F136_l0,C136_c0,F136_c0,Sk,ltk,if_pos,if_neg,resl,add_zero,c27]
    . by_cases e3:c.toNat=92
      . refine loopN_inr ?_
        simp (disch:=(first|omega|(simp only[qk];omega))) only[F136_l0,C136_c0,F136_c0,Sk,ltk,if_pos,if_neg,resl,add_zero,c27]
      . cases h1:blankB c with
        | true =>
         refine loopN_inr ?_;simp (disch:=(first|omega|(simp only[qk];omega))) only[F136_l0,C136_c0,F136_c0,Sk,ltk,if_pos,if_neg,resl,add_zero,c27,c32,h1]
        | false =>
         cases h2:mayB c with
         | false =>
          refine loopN_inr ?_;simp (disch:=(first|omega|(simp only[qk];omega))) only[F136_l0,C136_c0,F136_c0,Sk,ltk,if_pos,if_neg,resl,add_zero,c27,c32,c31,h1,h2]
         | true =>
          rw[loopN_inl (v':=(((q+1:Nat):Int),pre++c::r,(a:Int),bad,err,())) (by
           simp (disch:=(first|omega|(simp only[qk];omega))) only[F136_l0,C136_c0,F136_c0,Sk,c32,c31,h1,h2])]
          have:=l24 a bad err r (pre++[c]) (q+1) n (by simp[hq]) (by omega) (by omega) (by omega);rw[shift,this,<-resl_push (l:=[c]) (n:=1) _ _ _ _ _ _ rfl];simp only[ltk,if_neg e1,if_neg e2,if_neg e3,h1,h2,cond_true,cond_false]
theorem ltk_ok:∀{r t:List UInt8} {u:Nat},ltk r = .ok t u->u=t.length+1/\t.length<r.length/\r.take t.length=t
 | [],t,u,h=>by simp[ltk]at h
 | c::r,t,u,h=>by
  unfold ltk at h;split at h
  . cases h;simp
  . split at h
    . cases h
    . split at h
      . cases h
      . cases h1:blankB c<;>cases h2:mayB c<;>rw[h1,h2]at h<;>simp only[cond_true,cond_false]at h<;>try (cases h;done)
        cases hr:ltk r with
        | ok t' u' =>
         rw[hr]at h;cases h;obtain⟨i1,i2,i3⟩:=ltk_ok hr;exact⟨by simp;omega,by simpa using i2,by simpa using i3⟩
        | bad o e=>rw[hr]at h;cases h
        | start=>rw[hr]at h;cases h
theorem c24(pre r:List UInt8)(c:UInt8)(p:Nat)(bad err:Int)(hp:pre.length=p)(hb:p+r.length<=140737488355000) :
 C136 (pre++c::r,(p:Int),bad,err,())=some (fin (pre++c::r) p bad err (p+1) (ltk r)):=by
 show F136 C139 C164 C165 C136_l0 (pre++c::r,(p:Int),bad,err,())=_;have hl:=l24 p bad err r (pre++[c]) (p+1) big (by simp[hp]) (by omega) (by unfold big;omega) (by omega);rw[<-shift]at hl;have hl':C136_l0 (((p+1:Nat):Int),pre++c::r,(p:Int),bad,err,())=_:=hl;cases hq:ltk r with
 | ok t u =>
  rw[hq]at hl';obtain⟨i1,i2,i3⟩:=ltk_ok hq;simp (disch:=(first|omega|(simp only[qk];omega))) only[F136,Sk,hl',resl,fin];rw[shift,text_eq (by simp[hp]),i3]
 | bad o e=>rw[hq]at hl';simp (disch:=(first|omega|(simp only[qk];omega))) only[F136,Sk,hl',resl,fin]
 | start=>rw[hq]at hl';simp (disch:=(first|omega|(simp only[qk];omega))) only[F136,Sk,hl',resl,fin,c27]
def nt:Nat->List UInt8->Tk
 | _,[] => .start
 | deep,c::r=>if c.toNat=40 then(if deep+1>32 then .bad 0 6 else(nt (deep+1) r).push [c] 1)
  else if c.toNat=41 then(if deep=1 then .ok [] 1 else(nt (deep-1) r).push [c] 1)
  else if c.toNat=92 then
   match r with
   | [] => .start
   | d::r'=>bif mayB d then(nt deep r').push [c,d] 2 else .bad 1 4
  else bif mayB c then(nt deep r).push [c] 1 else .bad 0 4
theorem nt_o{deep:Nat}{c:UInt8}{r:List UInt8}(h:c.toNat=40):nt deep (c::r)=if deep+1>32 then .bad 0 6 else(nt (deep+1) r).push [c] 1:=by cases r<;>simp[nt,h]
theorem nt_c{deep:Nat}{c:UInt8}{r:List UInt8}(h:c.toNat=41):nt deep (c::r)=if deep=1 then .ok [] 1 else(nt (deep-1) r).push [c] 1:=by cases r<;>simp[nt,h]
theorem nt_b0{deep:Nat}{c:UInt8}(h:c.toNat=92):nt deep [c] = .start:=by simp[nt,h]
theorem nt_b1{deep:Nat}{c d:UInt8}{r:List UInt8}(h:c.toNat=92):nt deep (c::d::r)=bif mayB d then(nt deep r).push [c,d] 2 else .bad 1 4:=by simp[nt,h]
theorem nt_m{deep:Nat}{c:UInt8}{r:List UInt8}(h1:¬c.toNat=40)(h2:¬c.toNat=41)(h3:¬c.toNat=92):nt deep (c::r)=bif mayB c then(nt deep r).push [c] 1 else .bad 0 4:=by cases r<;>simp[nt,h1,h2,h3]
theorem wrM(n:Nat)(h:n<=9223372036854775806)(h1:1<=n):IntKind.i64.wrap ((n:Int)-1)=((n-1:Nat):Int):=by rw[wr]<;>omega
def resn(s:List UInt8)(f:Nat)(a bad err:Int)(q:Nat):Tk->((Int×Int×List UInt8×Int×Int×Int×Unit)⊕(Int×Int×List UInt8×Int×Int×Int×Unit)⊕(List UInt8×List UInt8×Int×Int×Int×Unit))
 | .ok t u => .inr (.inr (List.drop (f+1) (List.take (q+t.length) s),s,((q+u:Nat):Int),bad,err,()))
 | .bad off e => .inr (.inl (e,((q+off:Nat):Int),s,a,bad,err,()))
 | .start => .inl ((f:Int),4,s,a,bad,err,())
theorem resn_push(s:List UInt8)(f:Nat)(a bad err:Int)(q:Nat)(l:List UInt8)(n:Nat)(hl:l.length=n)(k:Tk):resn s f a bad err q (k.push l n)=resn s f a bad err (q+n) k:=by
 cases k<;>simp[Tk.push,resn,add_assoc,hl]
theorem l25(f:Nat)(a bad err:Int):∀(m:Nat) (r pre:List UInt8) (deep q n:Nat),r.length<=m->1<=deep->deep<=32->pre.length=q->f+1<=q->r.length<n->q+r.length<=140737488355320 ->
 loopN (F137_l0 C139 C164) n ((f:Int),(deep:Int),4,(q:Int),pre++r,a,bad,err,())=some (resn (pre++r) f a bad err q (nt deep r))
 | _,_,_,_,_,0,_,_,_,_,_,hn,_=>by omega
 | m,[],pre,deep,q,n+1,hm,hd,hd2,hq,hf,hn,hb=>by
  refine loopN_inr ?_;simp (disch:=(first|omega|(simp only[qk];omega))) only[F137_l0,Sk,append_nil,nt,resn]
 | 0,c::r,pre,deep,q,n+1,hm,hd,hd2,hq,hf,hn,hb=>by simp at hm
 | m+1,c::r,pre,deep,q,n+1,hm,hd,hd2,hq,hf,hn,hb=>by
  simp only[length_cons]at hn hb hm;have next:∀(d':Nat),1<=d'->d'<=32->F137_l0 C139 C164 ((f:Int),(deep:Int),4,(q:Int),pre++c::r,a,bad,err,())=some (.inl ((f:Int),(d':Int),4,((q+1:Nat):Int),pre++c::r,a,bad,err,())) ->
   loopN (F137_l0 C139 C164) (n+1) ((f:Int),(deep:Int),4,(q:Int),pre++c::r,a,bad,err,())=some (resn (pre++c::r) f a bad err q ((nt d' r).push [c] 1)):=by
   intro d' h1 h2 h3;rw[loopN_inl h3,resn_push (l:=[c]) (n:=1) _ _ _ _ _ _ rfl];have:=l25 f a bad err m r (pre++[c]) d' (q+1) n (by omega) h1 h2 (by simp[hq]) (by omega) (by omega) (by omega);rw[shift,this]
  by_cases e1:c.toNat=40
  . rw[nt_o e1]
    by_cases hdd:deep+1>32
    . rw[if_pos hdd]
      refine loopN_inr ?_;simp (disch:=(first|omega|(simp only[qk];omega))) only[F137_l0,Sk,resn,add_zero]
    . rw[if_neg hdd]
      refine next (deep+1) (by omega) (by omega) ?_;simp (disch:=(first|omega|(simp only[qk];omega))) only[F137_l0,Sk]
  . by_cases e2:c.toNat=41
    . rw[nt_c e2]
      by_cases hd1:deep=1
      . rw[if_pos hd1]
        refine loopN_inr ?_;subst hd1;simp (disch:=(first|omega|(simp only[qk];omega))) only[F137_l0,Sk,resn,add_zero,wrM]
      . rw[if_neg hd1]
        refine next (deep-1) (by omega) (by omega) ?_;simp (disch:=(first|omega|(simp only[qk];omega))) only[F137_l0,Sk,wrM]
    . by_cases e3:c.toNat=92
      . match r,hm,hn,hb with
        | [],hm,hn,hb =>
         rw[nt_b0 e3];simp only[length_nil]at hn hb hm;rw[loopN_inl (v':=((f:Int),(deep:Int),4,((q+2:Nat):Int),pre++[c],a,bad,err,())) (by
          simp (disch:=(first|omega|(simp only[qk];omega))) only[F137_l0,Sk])]
         obtain⟨n',rfl⟩:∃n',n=n'+1:=⟨n-1,by omega⟩
         refine loopN_inr ?_;simp (disch:=(first|omega|(simp only[qk];omega))) only[F137_l0,Sk,resn]
        | d::r',hm,hn,hb =>
         simp only[length_cons]at hn hb hm;rw[nt_b1 e3];have hg:(pre++c::d::r').getD (q+1) 0=d:=by rw[shift];exact gd (by simp[hq])
         cases h:mayB d with
         | true =>
          rw[loopN_inl (v':=((f:Int),(deep:Int),4,((q+2:Nat):Int),pre++c::d::r',a,bad,err,())) (by
           simp (disch:=(first|omega|(simp only[qk];omega))) only[F137_l0,Sk,hg,c31,h])]
          have:=l25 f a bad err m r' (pre++[c,d]) deep (q+2) n (by omega) hd hd2 (by simp[hq]) (by omega) (by omega) (by omega);rw[show pre++c::d::r'=(pre++[c,d])++r' by simp,this,cond_true,resn_push (l:=[c,d]) (n:=2) _ _ _ _ _ _ rfl]
         | false =>
          refine loopN_inr ?_;simp (disch:=(first|omega|(simp only[qk];omega))) only[F137_l0,Sk,hg,c31,h,resn]
      . rw[nt_m e1 e2 e3]
        cases h:mayB c with
        | true =>
         refine next deep hd hd2 ?_;simp (disch:=(first|omega|(simp only[qk];omega))) only[F137_l0,Sk,c31,h]
        | false =>
         refine loopN_inr ?_;simp (disch:=(first|omega|(simp only[qk];omega))) only[F137_l0,Sk,c31,h,resn,add_zero]
theorem push_ok{k:Tk}{l t:List UInt8}{n u:Nat}(h:k.push l n = .ok t u):∃t' u',k = .ok t' u'/\t=l++t'/\u=n+u':=by
 cases k<;>simp[Tk.push]at h
 exact⟨_,_,rfl,h.1.symm,h.2.symm⟩
theorem nt_ok:∀(m:Nat) {r t:List UInt8} {u deep:Nat},r.length<=m->nt deep r = .ok t u->u=t.length+1/\t.length<r.length/\r.take t.length=t
 | _,[],t,u,deep,_,h=>by simp[nt]at h
 | 0,c::r,t,u,deep,hm,h=>by simp at hm
 | m+1,c::r,t,u,deep,hm,h=>by
  simp only[length_cons]at hm;have one:∀(d':Nat),(nt d' r).push [c] 1 = .ok t u->u=t.length+1/\t.length<(c::r).length/\(c::r).take t.length=t:=by
   intro d' h;obtain⟨t',u',h1,rfl,rfl⟩:=push_ok h;obtain⟨i1,i2,i3⟩:=nt_ok m (by omega) h1;exact⟨by simp;omega,by simpa using i2,by simpa using i3⟩
  by_cases e1:c.toNat=40
  . rw[nt_o e1]at h
    split at h
    . cases h
    . exact one _ h
  . by_cases e2:c.toNat=41
    . rw[nt_c e2]at h
      split at h
      . cases h;simp
      . exact one _ h
    . by_cases e3:c.toNat=92
      . match r,hm,h with
        | [],hm,h=>rw[nt_b0 e3]at h;cases h
        | d::r',hm,h =>
         simp only[length_cons]at hm;rw[nt_b1 e3]at h;cases hd:mayB d<;>rw[hd]at h
         . cases h
         . obtain⟨t',u',h1,rfl,rfl⟩:=push_ok h
           obtain⟨i1,i2,i3⟩:=nt_ok m (by omega) h1;exact⟨by simp;omega,by simpa using i2,by simpa using i3⟩
      . rw[nt_m e1 e2 e3]at h
        cases hd:mayB c<;>rw[hd]at h
        . cases h
        . exact one _ h
theorem c25g(k e:Int)(s:List UInt8)(a bad err:Int):C137_g0 (e,k,s,a,bad,err,())=some ([],s,a,k,e,()):=by
 show loopN _ big _=_;rw[show big=999999999999999999999+1 from rfl];exact loopN_inr rfl
theorem c25(pre r:List UInt8)(c:UInt8)(p:Nat)(bad err:Int)(hc:c.toNat=40)(hp:pre.length=p)(hb:p+r.length<=140737488355000) :
 C137 (pre++c::r,(p:Int),bad,err,())=some (fin (pre++c::r) p bad err (p+1) (nt 1 r)):=by
 show F137 C139 C164 C137_g0 C137_l0 (pre++c::r,(p:Int),bad,err,())=_;have hl:=l25 p p bad err r.length r (pre++[c]) 1 (p+1) 999999999999999999999 (le_refl _) (by omega) (by omega) (by simp[hp]) (by omega) (by omega) (by omega);rw[<-shift]at hl;have h0:C137_l0 ((p:Int),0,4,(p:Int),pre++c::r,(p:Int),bad,err,())=some (resn (pre++c::r) p p bad err (p+1) (nt 1 r)):=by
  rw[<-hl];show loopN _ (999999999999999999999+1) _=_;refine loopN_inl ?_;simp (disch:=(first|omega|(simp only[qk];omega))) only[F137_l0,Sk];rfl
 cases hq:nt 1 r with
 | ok t u =>
  rw[hq]at h0;obtain⟨i1,i2,i3⟩:=nt_ok _ (le_refl _) hq;simp (disch:=(first|omega|(simp only[qk];omega))) only[F137,Sk,h0,resn,fin];rw[shift,text_eq (by simp[hp]),i3]
 | bad o e=>rw[hq]at h0;simp (disch:=(first|omega|(simp only[qk];omega))) only[F137,Sk,h0,resn,fin,c25g]
 | start=>rw[hq]at h0;simp (disch:=(first|omega|(simp only[qk];omega))) only[F137,Sk,h0,resn,fin,c27]
end Go.Proofs.YtgkmfhhghcccjaaGreatDoorA.W
