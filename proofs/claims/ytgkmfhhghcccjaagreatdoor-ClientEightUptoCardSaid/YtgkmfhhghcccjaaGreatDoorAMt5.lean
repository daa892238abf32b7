/- The texts of the proof, one behind the other: XEnd, W3, W4, W5, W6, W7, XDom. -/
import Derived.Test.YtgkmfhhghcccjaaGreatDoorAMt4
import Derived.RangeFuncBox
import Derived.OwnWalkIn
import Derived.TacticsInMore
import Derived.LoopNIn
import Derived.LoopIn
import Derived.Sort.LoopGhostIn
import Derived.Maps.AppendAt
open Go.Proofs.Tryz
open Array (replicate_succ replicate_zero)
open List (append_toArray cons_append getElem?_eq_getElem getElem?_map length_cons length_nil nil_append push_toArray size_toArray)
open Nat (le_refl le_trans reduceAdd reduceSub zero_le)
open Option (bind_eq_some_iff map_eq_some_iff)
open Go.World (cell?)
set_option linter.unusedVariables false
set_option maxRecDepth 100000
namespace Go.Proofs.YtgkmfhhghcccjaaGreatDoorA.W
open Go Go.Ae Go.RowKit
attribute [local go_sem] Oper.semAt_some
def m0:Md:=⟨λ_=>False,λ_=>False⟩
theorem gi_keep{w w':World}(h:GI w m0)(hs:w.heap.size<=w'.heap.size)(hk:∀b∈GlobB,w'.heap[b]? = w.heap[b]?):GI w' m0 :=
 ⟨glob_st w w' hk h.i,λb hb=>⟨Nat.lt_of_lt_of_le (h.b b hb).1 hs,λh=>h⟩⟩
theorem gi_below{w w':World}(h:GI w m0)(hb:Below w.heap.size w w'):GI w' m0:=gi_keep h hb.size λb hm=>hb.block b (h.b b hm).1
theorem boxed_oth{N Bs:Nat}{A B:World}{b:Nat}{t:TypeId}{v:Value}(h:Boxed A b t v)(hne:b≠Bs)(ho:OthR N Bs A B):Boxed B b t v:=ho.keep b _ h hne (.inr rfl)
theorem below_othR{N Bs B:Nat}{A W W':World}(h:Below B A W)(hBA:B<=A.heap.size)(hN:B<=N)(hBs:B<=Bs)(ho:OthR N Bs W W'):Below B A W' :=
 ⟨ho.os.trans h.os,ho.tape.trans h.tape,ho.output.trans h.output,le_trans h.size ho.size,λk hk=>by
  have h1:=h.block k hk;obtain⟨o,h2⟩:∃o,A.heap[k]? = some o:=⟨_,Array.getElem?_eq_getElem (by omega)⟩
  rw[h2]at h1 ⊢;exact ho.keep k o h1 (by omega) (.inl (by omega))⟩
theorem setBox{X:World}{b b':Nat}{t:TypeId}{v u:Value}(h:Boxed X b t v)(hne:b≠b'):Boxed (X.setCell ⟨b',0,none⟩ u) b t v:=h.other hne u
def tabA(t0:List (Int×(Int×(Int×(Int×(Int×Int))))))(t1:List (Int×(Int×(Int×Int))))(t2:List (Int×(Int×Int))):List AV:=[.lst (.pair (.int .i32) (.pair (.int .i32) (.pair (.int .i64) (.pair (.int .i64) (.pair (.int .i64) (.int .i64)))))) t0,.lst (.pair (.int .i32) (.pair (.int .i32) (.pair (.int .i64) (.int .i64)))) t1,.lst (.pair (.int .i32) (.pair (.int .i32) (.int .i32))) t2,.opq 0,.opq 1]
def bk(l:List Int):List (Int×Int):=(List.range l.length).map λ(j:Nat)=>(((l.length:Int)-1-(j:Int)),l.getD (l.length-1-j) 0)
theorem bk_get(l:List Int)(j:Nat)(h:j<l.length):(bk l)[j]? = some (((l.length:Int)-1-(j:Int)),l.getD (l.length-1-j) 0):=by
 simp[bk,h]
theorem bk_len(l:List Int):(bk l).length=l.length:=by simp[bk]
set_option maxHeartbeats 4000000 in
theorem back_seq(n:Nat)(hn:1<=n)(Bs g o cap:Nat)(a:Option Addr)(l:List Int)(w:World)(hlen:l.length<=1000000000000)(hb:Boxed w Bs 128 (.slice a l.length cap))(ha:l≠[]->a=some ⟨g,o,none⟩)(hcl:∀(k:Nat) x,l[k]? = some x->w.cell? ⟨g,o+k,none⟩=some (.int .i32 x))(Bd:Nat) :
 SeqD Fence.wide n prog 281 #[.pointer (some ⟨Bs,0,none⟩)] (λx:Int×Int => #[Value.int .i64 x.1,Value.int .i32 x.2]) (λb=>b=Bs\/(l≠[]/\b=g)) Bd (bk l) w:=by
 intro lp J Jx W hW hJ hJx hY h0;have hb':Boxed W Bs 128 (.slice a l.length cap):=(hW.block Bs hb.lt).trans hb;have hcl':∀(k:Nat) x,l[k]? = some x->W.cell? ⟨g,o+k,none⟩=some (.int .i32 x):=λk x hk=>(hW.cell (p:=⟨g,o+k,none⟩) (World.block_lt_of_cell? _ _ (hcl k x hk))).trans (hcl k x hk);have hkl:=bk_len l;refine callsIn_of_wp func281 rfl trivial ?_ rfl;simp only[ntmps281,size_toArray,length_cons,length_nil,reduceAdd,reduceSub,replicate_succ,replicate_zero,push_toArray,append_toArray,nil_append,cons_append];have hc:=hb'.cell;generalize hN:l.length=N at *
 gi_wp2
 gi_loopw [3] (λi wr=>∃j:Nat,i = .int .i64 ((N:Int)-1-(j:Int))/\j<=N/\Hid (J ((bk l).take j) wr)/\Hid (Boxed wr Bs 128 (.slice a N cap))/\Hid (∀(k:Nat) x,l[k]? = some x->wr.cell? ⟨g,o+k,none⟩=some (.int .i32 x))) (λi _=>(intOf i+1).toNat)
 case atStart=>exact⟨0,by simp,zero_le _,h0,hb',hcl'⟩
 case round =>
  obtain⟨j,rfl,hj,hJs,hbr,hcr⟩:=hrel;by_cases hlt:j<N
  . have hx:=bk_get l j (by omega)
    rw[hN]at hx;have hl0:l≠[]:=by rintro rfl;simp at hN;omega
    have hae:=ha hl0;subst hae;have htk:(bk l).take (j+1)=(bk l).take j++[(((N:Int)-1-(j:Int)),l.getD (N-1-j) 0)]:=by rw[List.take_add_one,hx];rfl
    have hpre:(bk l).take j++[(((N:Int)-1-(j:Int)),l.getD (N-1-j) 0)] <+: bk l:=htk▸List.take_prefix _ _;have hcx:wr.cell? ⟨g,o+(N-1-j),none⟩=some (.int .i32 (l.getD (N-1-j) 0)):=hcr.out _ _ (by rw[List.getD_eq_getElem?_getD,getElem?_eq_getElem (by omega)];rfl);obtain⟨fn,tmps,assign,body,hy,hR⟩:=hY _ _ wr hpre hJs.out;have hcb:=hbr.out.cell;generalize hi:N-1-j=i at *
    generalize l.getD i 0=x at *
    have hij:(N:Int)-1-(j:Int)=(i:Int):=by omega
    rw[hij];have hiN:i<N:=by omega
    clear hcl' hcl hb' hb hc hW h0 hY;dsimp only at hy;rw[hij]at hy
    gi_wp2
    refine hR.mono ?_;rintro e W3 (⟨rfl,hJ3,hs3,hk3⟩|⟨rfl,hJx3⟩)
    . have hb3:Hid (Boxed W3 Bs 128 (.slice (some ⟨g,o,none⟩) N cap)):=(hk3 Bs (.inl rfl)).trans hbr.out
      have hc3:Hid (∀(k:Nat) x,l[k]? = some x->W3.cell? ⟨g,o+k,none⟩=some (.int .i32 x)):=λk x hk=>(World.cell?_of_block (hk3 g (.inr ⟨hl0,rfl⟩))).trans (hcr.out k x hk);have hJ4:Hid (J ((bk l).take (j+1)) W3):=by rw[htk];exact hJ3
      gi_wp2
      go_roundw
      case rel=>exact⟨j+1,by rw[show (N:Int)-1-((j+1:Nat):Int)=(i:Int)-1 by omega],by omega,hJ4,hb3,hc3⟩
      case measure=>first|(simp[intOf];done)|(simp[intOf];omega)
    . gi_wp2
      refine bodyPost_ret (results_none rfl _ _ _) rfl ?_;exact⟨⟨_,rfl⟩,.inr ⟨_,hpre,hJx3⟩⟩
  . obtain rfl:j=N:=by omega
    have hneg:¬((j:Int)-1-(j:Int)>=0):=by omega
    gi_wp2
    go_end0
    exact⟨⟨_,rfl⟩,.inl (by have:=hJs.out;rwa[List.take_of_length_le (by omega)]at this)⟩
set_option maxHeartbeats 4000000 in
theorem back_mk(a:Option Addr)(n cap:Nat)(w:World):Calls prog 229 #[.slice a n cap] w λe w'=>e = .returned (.func (.func 281) #[] #[.pointer (some ⟨w.heap.size,0,none⟩)])/\w'=w.alloc (.cells #[.slice a n cap] 128):=by
 go_enter func229,ntmps229
 go_wp2
 go_returns
 exact⟨rfl,rfl⟩
def endF(Bd:Int->Option Int):List (Int×Int)->Option Int
 | []=>some 0
 | x::xs=>(Bd x.2).bind λb=>bif b != 6 then some b else endF Bd xs
set_option maxHeartbeats 4000000 in
theorem end_walk(v0 v1 v2 v3 v4:Value)(a:Option Addr)(g o cap:Nat)(l:List Int)(Bd:Int->Option Int)(r:Int)(w:World)(hg:GI w m0)(hlen:l.length<=1000000000000)(ha:l≠[]->a=some ⟨g,o,none⟩)(hcl:∀(k:Nat) x,l[k]? = some x->w.cell? ⟨g,o+k,none⟩=some (.int .i32 x))(hres:endF Bd (bk l)=some r)(hB:∀x r,Bd x=some r->∀W,Below w.heap.size w W->Calls prog 228 #[.agg #[v0,v1,v2,v3,v4],.int .i32 x] W λe W'=>e = .returned (.int .i64 r)/\Below W.heap.size W W') :
 Calls prog 188 #[.agg #[v0,v1,v2,v3,v4],.slice a l.length cap] w λe w'=>e = .returned (.int .i64 r)/\Below w.heap.size w w':=by
 refine(callsIn_wide (n:=3)).1 ?_;refine callsIn_of_wp_marks func188 rfl trivial ?_ rfl;simp only[ntmps188,size_toArray,length_cons,length_nil,reduceAdd,reduceSub,replicate_succ,replicate_zero,push_toArray,append_toArray,nil_append,cons_append];have hW0:Below w.heap.size w ((w.alloc (.cells #[v0,v1,v2,v3,v4] 47)).alloc (.cells #[.int .i64 0] 3)):=((Below.refl _ w).alloc (le_refl _) _).alloc (by simp) _
 gi_wp2_with (refine⟨trivial,?_⟩;gi_at_call 229;refine(callsIn_wide.2 (back_mk _ _ _ _)).mono ?_;rintro e w2 ⟨rfl,rfl⟩)
 have hsz0:((w.alloc (.cells #[v0,v1,v2,v3,v4] 47)).alloc (.cells #[.int .i64 0] 3)).heap.size=w.heap.size+2:=by simp
 obtain⟨w1,hw1⟩:∃w1,(w.alloc (.cells #[v0,v1,v2,v3,v4] 47)).alloc (.cells #[.int .i64 0] 3)=w1:=⟨_,rfl⟩
 have hT:∀X,Below w1.heap.size w1 X->X.cell? ⟨w.heap.size,0,none⟩=some v0/\X.cell? ⟨w.heap.size,1,none⟩=some v1/\X.cell? ⟨w.heap.size,2,none⟩=some v2/\X.cell? ⟨w.heap.size,3,none⟩=some v3/\X.cell? ⟨w.heap.size,4,none⟩=some v4:=λX hX=>by
  have h1:X.heap[w.heap.size]? = some (.cells #[v0,v1,v2,v3,v4] 47):=by
   rw[hX.block _ (by rw[<-hw1,hsz0];omega),<-hw1,Below.heap_alloc _ _ _ (by simp),heap_alloc_new]
  exact⟨by rw[cell_of_cells h1];rfl,by rw[cell_of_cells h1];rfl,by rw[cell_of_cells h1];rfl,by rw[cell_of_cells h1];rfl,by rw[cell_of_cells h1];rfl⟩
 have hR:∀X,Below w1.heap.size w1 X->Boxed X (w.heap.size+1) 3 (.int .i64 0):=λX hX=>by
  show X.heap[_]? = _;rw[hX.block _ (by rw[<-hw1,hsz0];omega),<-hw1];have:=heap_alloc_new (w.alloc (.cells #[v0,v1,v2,v3,v4] 47)) (.cells #[.int .i64 0] 3)
  rwa[World.size_alloc]at this
 rw[hw1]at hW0 hsz0 ⊢;have hszN:(w1.alloc (.cells #[.slice a l.length cap] 128)).heap.size=w1.heap.size+1:=by simp
 have hW2:Below w1.heap.size w1 (w1.alloc (.cells #[.slice a l.length cap] 128)):=(Below.refl _ w1).alloc (le_refl _) _;have hs1:w1.heap.size=w.heap.size+1+1:=by rw[hsz0]
 have hbv:Boxed (w1.alloc (.cells #[.slice a l.length cap] 128)) (w.heap.size+1+1) 128 (.slice a l.length cap):=by rw[<-hs1];exact Boxed.new _ _ _
 have hgl:∀k,k<l.length->g<w.heap.size:=λk hk=>World.block_lt_of_cell? _ _ (hcl k l[k] (getElem?_eq_getElem hk));have hcl2:∀(k:Nat) x,l[k]? = some x->(w1.alloc (.cells #[.slice a l.length cap] 128)).cell? ⟨g,o+k,none⟩=some (.int .i32 x):=λk x hk =>
  ((hW0.trans (hW2.mono hW0.size)).cell (p:=⟨g,o+k,none⟩) (World.block_lt_of_cell? _ _ (hcl k x hk))).trans (hcl k x hk)
 refine wpIn_rangeFunc_dir (F:=Fence.wide) (n:=3) rfl (by omega) (gf:=281) (lb := #[.pointer (some ⟨w.heap.size+1+1,0,none⟩)]) rfl trivial (enters_of func281 (by kernel_rfl) rfl)
  (K:=λb=>b=w.heap.size+1+1\/(l≠[]/\b=g))
  (back_seq 2 (by omega) (w.heap.size+1+1) g o cap a l _ hlen hbv ha hcl2 (w.heap.size+1+1))
  (by rintro b (rfl|⟨hb,rfl⟩)
      . rw[hszN];omega
      . have:=hgl 0 (List.length_pos_iff.2 hb);rw[hszN,hsz0];omega) (by rw[hszN];omega) (λ_=>rfl)
  (λpre W=>∃rest,bk l=pre++rest/\endF Bd rest=some r/\Below w1.heap.size w1 W)
  (λc pre W=>c = .ret/\Boxed W (w.heap.size+1) 3 (.int .i64 r)/\Below w.heap.size w W)
  (λpre X Y hs ho=>by
   obtain⟨rest,h1,h2,h3⟩:=hs;exact⟨rest,h1,h2,below_othR h3 (le_refl _) (by rw[hszN];omega) (by omega) ho⟩)
  (λc pre X Y hs ho=>by
   obtain⟨h1,h2,h3⟩:=hs;exact⟨h1,boxed_oth h2 (by omega) ho,below_othR h3 (le_refl _) (by rw[hszN];omega) (by omega) ho⟩)
  ⟨bk l,rfl,hres,hW2⟩
  (λx=>{ tmps := #[.agg #[v0,v1,v2,v3,v4],.slice a l.length cap,.pointer (some ⟨w.heap.size,0,none⟩),undef,.pointer (some ⟨w.heap.size+1,0,none⟩),undef,.int .i32 x.2,undef,.slice a l.length cap,
   .func (.func 281) #[] #[.pointer (some ⟨w.heap.size+1+1,0,none⟩)],.int .i64 x.1,.int .i32 x.2,undef,undef,undef,undef,undef,undef],defers:=[] }) ?assign ?body ?done ?stop
 case assign =>
  intro l x W K hK
  gi_wp2
  exact hK
 case body =>
  rintro lp pre ⟨i,x⟩ W hsz hpre ⟨rest,hls,hbf,hbel⟩;obtain⟨rest',rfl⟩:∃r,rest=(i,x)::r:=by
   obtain⟨t,ht⟩:=hpre;rw[hls,List.append_assoc]at ht;have:=List.append_cancel_left ht;exact⟨t,by simpa using this.symm⟩
  simp only[endF]at hbf;obtain⟨b,hb,hbf2⟩:=bind_eq_some_iff.1 hbf;rw[hszN]at hsz;have hWw:Below w.heap.size w W:=hW0.trans (hbel.mono (by omega));have hcB:=hB x _ hb W hWw;obtain⟨t0,t1,t2,t3,t4⟩:=hT W hbel;have hls0:=hls;clear hcl hcl2 ha hls hres;by_cases hz:b=6
  . subst hz
    have hbf3:endF Bd rest'=some r:=hbf2
    gi_wp2_with (refine⟨trivial,?_⟩;gi_at_call 228;refine(CallsIn.inRound lp (callsIn_wide.2 hcB)).mono ?_;rintro e W3 ⟨rfl,hb3⟩;have hbel3:Below w1.heap.size w1 W3:=hbel.trans (hb3.mono (by omega)))
    refine⟨⟨hb3.size,λk o _ h _=>(hb3.block k (lt_of_some h)).trans h⟩,?_,rest',?_,hbf3,hbel3⟩
    . rintro b (rfl|⟨hb,rfl⟩)
      . exact hb3.block _ (by omega)
      . exact hb3.block _ (by have:=hgl 0 (List.length_pos_iff.2 hb);omega)
    . rw[hls0];simp
  . have hbf3:some b=some r:=by
     rw[<-hbf2,show (b != 6)=true by simpa using hz];rfl
    cases hbf3
    gi_wp2_with (refine⟨trivial,?_⟩;gi_at_call 228;refine(CallsIn.inRound lp (callsIn_wide.2 hcB)).mono ?_;rintro e W3 ⟨rfl,hb3⟩;have hbel3:Below w1.heap.size w1 W3:=hbel.trans (hb3.mono (by omega));have q1:=hR W3 hbel3;have q4:=q1.cell;have q5:=q1.frozen)
    refine⟨KeepsFrom.trans ⟨hb3.size,λk o _ h _=>(hb3.block k (lt_of_some h)).trans h⟩ ((KeepsOthers.setCell _ _ _).from _),rfl,?_,?_⟩
    . exact Boxed.set _ q1
    . exact(hW0.trans (hbel3.mono (by omega))).setCell (p:=⟨w.heap.size+1,0,none⟩) (show w.heap.size<=w.heap.size+1 by omega) _
 case done =>
  rintro D W hD ⟨rest,hls,hbf,hbel⟩ hK;have hrest:rest=[]:=by
   have:=congrArg List.length hls;simp at this;exact this
  subst hrest;cases hbf;have hDW:D<W.heap.size:=lt_of_some hK;rw[hszN]at hD;have q1:=hR W hbel;have q4:=q1.cell;have q5:=q1.frozen;clear hcl hcl2 ha hls hres
  gi_wp2
  have hKX:(W.setCell ⟨w.heap.size+1,0,none⟩ (.int .i64 0)).heap[D]? = some (.deferred (some [])):=by
   rw[Below.heap_setCell _ _ _ _ (show D≠w.heap.size+1 by omega)];exact hK
  refine⟨by simp,.inl ⟨_,_,rfl,run_takeDeferred hKX,?_⟩⟩;have e1:=Boxed.set (.int .i64 0) q1;have hc1:=cell_kept e1.cell (grownBy_putObj' _ D (.deferred none)) (λr e=>by cases e;exact⟨_,hKX,rfl⟩);have hbX:=(hW0.trans (hbel.mono (show w.heap.size<=w1.heap.size by omega))).setCell (p:=⟨w.heap.size+1,0,none⟩) (show w.heap.size<=w.heap.size+1 by omega) (.int .i64 0);refine⟨.int .i64 0,?_,rfl,hbX.trans (belowK_b (w:=w) (le_refl _) _ D _ _ (by omega) hKX rfl rfl)⟩;simp[results,f188,go_sem,hc1]
 case stop =>
  rintro D c pre W hD hpre ⟨rfl,h1,hbel⟩ hK
  gi_wp2
  refine⟨by simp,.inl ⟨_,_,rfl,run_takeDeferred hK,?_⟩⟩;have hc1:=cell_kept h1.cell (grownBy_putObj' _ D (.deferred none)) (λr e=>by cases e;exact⟨_,hK,rfl⟩);rw[hszN]at hD;refine⟨.int .i64 r,?_,rfl,hbel.trans (belowK_b (w:=w) (le_refl _) W D _ _ (by omega) hK rfl rfl)⟩;simp[results,f188,go_sem,hc1]
theorem tbl_bidi{t0 t1 t2}{x c:Int}(hF:C228 (t0,t1,t2,x,())=some (c,())){w:World}{m:Md}(gi:GI w m)(hlt:∀b,m.a b->b<w.heap.size){a:Array Value}(ht:RepL w m [] (tabA t0 t1 t2) a.toList) :
 Calls prog 228 #[.agg a,.int .i32 x] w λe w'=>e = .returned (.int .i64 c)/\Below w.heap.size w w':=by
 refine(FnOk.call0 (v:=(t0,t1,t2,x,())) (y:=(c,())) ok228 func228 (by kernel_rfl) (by kernel_rfl) gi hlt rfl ⟨_,_,rfl,⟨a,rfl,ht⟩,_,_,rfl,⟨rfl,λh=>(by cases h)⟩,rfl⟩ rfl hF ?_).mono λe w' ⟨rv,h1,h2,ax,l',u,h3,h4⟩ => ?_
 . intro ax l' u h3
   cases osel_one_inv h3;rfl
 . cases osel_one_inv h3
   obtain⟨v,r',e1,⟨e2,_⟩,e4⟩:=h4;have e4':r'=[]:=e4;subst e4';cases e1;subst h1 e2;exact⟨rfl,h2⟩
def C188:T188:=λ(t0,t1,t2,l,_)=>bif decide (l.length<=1000000000000)then(endF (λx=>(C228 (t0,t1,t2,x,())).map λr=>r.1) (bk l)).map λr=>(r,())else none
theorem ok188:FnOk prog 188 (E188 C188):=by
 refine hand func188 (by kernel_rfl) (by kernel_rfl) (λ_=>rfl) (λ_=>rfl) ?_;rintro⟨t0,t1,t2,l,u⟩ y hy w m args gi hn hlt hargs
 change List Int at l
 obtain⟨va,r1,e1,⟨a,rfl,ht⟩,vs,r2,e2,e3,e4⟩:=hargs;have e4':r2=[]:=e4;have e3':RepT w m (.lst (.int .i32)) l [vs]:=e3;subst e4' e2;have ha:args = #[.agg a,vs]:=by cases args;simpa using e1
 subst ha;have ht0:RepL w m [] (tabA t0 t1 t2) a.toList:=ht;have hst:∀W,Below w.heap.size w W->Stp w m W m:=λW hb=>stp_below hb λb hb=>(hn b hb).elim;have htW:∀W,Below w.heap.size w W->RepL W m [] (tabA t0 t1 t2) a.toList:=λW hb=>RepL.mono (hst W hb) (λ_ _ h=>h) _ _ ht0;have hltW:∀W,Below w.heap.size w W->∀b,m.a b->b<W.heap.size:=λW hb b h=>Nat.lt_of_lt_of_le (hlt b h) hb.size;have g0:GI w m0:=⟨gi.i,λb hb=>⟨(gi.b b hb).1,λh=>h⟩⟩
 obtain⟨v0,v1,v2,v3,v4,rfl⟩:∃v0 v1 v2 v3 v4,a = #[v0,v1,v2,v3,v4]:=by
  obtain⟨w0,q0,f0,_,w1,q1,f1,_,w2,q2,f2,_,w3,q3,f3,_,w4,q4,f4,_,f5⟩:=ht0;have f5':q4=[]:=f5;subst f5' f4 f3 f2 f1;exact⟨w0,w1,w2,w3,w4,by cases a;simpa using f0⟩
 have hy1:(bif decide (l.length<=1000000000000)then(endF (λx=>(C228 (t0,t1,t2,x,())).map λr=>r.1) (bk l)).map λr=>(r,())else none)=some y:=hy;rcases cond_some hy1 with⟨hl,hy2⟩|⟨_,hy2⟩
 case inr=>cases hy2
 have hlen:l.length<=1000000000000:=of_decide_eq_true hl;obtain⟨r,hr,rfl⟩:=map_eq_some_iff.1 hy2;obtain⟨ao,cap,hv,k1,k2,k3,k4⟩:=e3';have hvs:vs = .slice ao l.length cap:=(List.cons.inj hv).1;subst hvs;have hcells:∃g o,(l≠[]->ao=some ⟨g,o,none⟩)/\∀(k:Nat) x,l[k]? = some x->w.cell? ⟨g,o+k,none⟩=some (.int .i32 x):=by
  cases hl0:l with
  | nil=>exact⟨0,0,λh=>(h rfl).elim,λk x h=>by simp at h⟩
  | cons z zs =>
   obtain⟨b,o,us,q1,q2,q3,q4,q5,q6⟩:=k4 0 z (by rw[hl0];rfl);refine⟨b,o,λ_=>q1,λk x hk => ?_⟩;obtain⟨b',o',us',p1,p2,p3,p4,p5,p6⟩:=k4 k x (by rw[hl0];exact hk);rw[q1]at p1;cases p1;have p2':us'=[.int .i32 x]:=p2.1;subst p2';have:=p6 0 _ rfl;simpa[Ty.size]using this
 obtain⟨g,o,ha,hcl⟩:=hcells;refine(end_walk v0 v1 v2 v3 v4 ao g o cap l _ r w g0 hlen ha hcl hr ?_).mono λe w' ⟨q1,q2⟩=>⟨_,q1,q2,.ret,[.int .i64],(r,()),osel_one [.int .i64] (r,()),rfl,rfl,⟨_,[],rfl,⟨rfl,λh=>(by cases h)⟩,rfl⟩⟩
 intro x c hc W hW;obtain⟨⟨c',u'⟩,hc',rfl⟩:=map_eq_some_iff.1 hc;exact tbl_bidi hc' (gi.mono (hst W hW)) (hltW W hW) (htW W hW)
end Go.Proofs.YtgkmfhhghcccjaaGreatDoorA.W
namespace Go.Proofs.YtgkmfhhghcccjaaGreatDoorA.W
open Go Go.Ae
abbrev T112:=qa×qa×Unit->Option (Bool×Unit)
def E112(f:T112):FEnt:=⟨jb,qe,f⟩
def F112:T112:=λ(x0,x1,_)=>bif decide ((↑x0.length:Int)>=(↑x1.length:Int))then bif decide (0<=(↑x1.length:Int))&&decide ((↑x1.length:Int)<=(↑x0.length:Int))then some (List.take (↑x1.length:Int).toNat x0==x1,())else none else some (false,())
def C112:T112:=F112
theorem ok112:FO 112 (E112 C112):=zd jb qe qu F112 kn func112
abbrev T145:=qa×qa×Unit->Option (qa×Bool×Unit)
def E145(f:T145):FEnt:=⟨jb,jq,f⟩
def K145(f112:T112):=lk [(112,E112 f112)]
def F145(f112:T112):T145:=λ(x0,x1,_)=>(f112 (x0,x1,())).bind λv=>bif !v.1 then some (x0,false,())else bif decide (0<=(↑x1.length:Int))&&decide ((↑x1.length:Int)<=(↑x0.length:Int))then some (List.drop (↑x1.length:Int).toNat x0,true,())else none
def C145:T145:=F145 C112
theorem ok145:FO 145 (E145 C145):=qz jb jq K145 F145 C112 (kc ok112 kn) func145
abbrev T113:=qa×qa×Unit->Option (qa×Bool×Unit)
def E113(f:T113):FEnt:=⟨jb,jq,f⟩
def K113(f145:T145):=lk [(145,E145 f145)]
def F113(f145:T145):T113:=λ(x0,x1,_)=>(f145 (x0,x1,())).bind λv=>some (v.1,v.2.1,())
def C113:T113:=F113 C145
theorem ok113:FO 113 (E113 C113):=qz jb jq K113 F113 C145 (kc ok145 kn) func113
abbrev T125:=Int×Unit->Option (Bool×Unit)
def E125(f:T125):FEnt:=⟨jo,qe,f⟩
def F125:T125:=λ(x0,_)=>bif decide (x0>=0)then bif decide (x0<=1114111)then bif decide (x0>=55296)then some (bif decide (x0<=57343)then false else true,())else some (!false,())else some (false,())else some (false,())
def C125:T125:=F125
theorem ok125:FO 125 (E125 C125):=zd jo qe qu F125 kn func125
abbrev T96:=Int×Unit->Option (Int×Unit)
def E96(f:T96):FEnt:=⟨jo,qf,f⟩
def K96(f125:T125):=lk [(125,E125 f125)]
def F96(f125:T125):T96:=λ(x0,_)=>(f125 (x0,())).bind λv=>bif !v.1 then some (0,())else bif decide (x0<=127)then some (1,())else bif decide (x0<=2047)then some (2,())else bif decide (x0<=65535)then some (3,())else some (4,())
def C96:T96:=F96 C125
theorem ok96:FO 96 (E96 C96):=qz jo qf K96 F96 C125 (kc ok125 kn) func96
abbrev T180_l0:=List (Int)×Int×Int×qa×Unit->Option ((qa×Unit)⊕(qa×Bool×Unit))
def E180_l0(f:T180_l0):LEnt:=⟨q8s,q9p,f⟩
abbrev T180:=List (Int)×Unit->Option (qa×Bool×Unit)
def E180(f:T180):FEnt:=⟨Li4,jq,f⟩
def K180(f96:T96):=lk [(96,E96 f96)]
theorem kok180:KOk prog (K180 C96):=(kc ok96 kn)
def F180_l0(f96:T96):qn (List (Int)×Int×Int×qa×Unit) ((qa×Unit)⊕(qa×Bool×Unit)):=λ(x0,x1,x2,x3,_)=>bif decide (x2<x1)then bif decide (0<=x2)&&decide (x2<(↑x0.length:Int))then(f96 (x0.getD x2.toNat 0,())).bind λv=>bif v.1==0 then some (Sum.inr (Sum.inr ([],false,())))else bif v.1==1 then bif decide (x3.length+[UInt8.ofNat (IntKind.u8.wrap (x0.getD x2.toNat 0)).toNat].length<=140737488355328/1)then some (Sum.inl (x0,x1,IntKind.i64.wrap (x2+1),x3++[UInt8.ofNat (IntKind.u8.wrap (x0.getD x2.toNat 0)).toNat],()))else none else bif v.1==2 then bif decide (x3.length+[UInt8.ofNat (intBits BinOp.or IntKind.u8 192 (IntKind.u8.wrap (Int.fdiv (x0.getD x2.toNat 0) (2^min 6 IntKind.i32.bits)))).toNat,UInt8.ofNat (intBits BinOp.or IntKind.u8 128 (IntKind.u8.wrap (intBits BinOp.and IntKind.i32 (x0.getD x2.toNat 0) 63))).toNat].length<=140737488355328/1)then some (Sum.inl (x0,x1,IntKind.i64.wrap (x2+1),x3++[UInt8.ofNat (intBits BinOp.or IntKind.u8 192 (IntKind.u8.wrap (Int.fdiv (x0.getD x2.toNat 0) (2^min 6 IntKind.i32.bits)))).toNat,UInt8.ofNat (intBits BinOp.or IntKind.u8 128 (IntKind.u8.wrap (intBits BinOp.and IntKind.i32 (x0.getD x2.toNat 0) 63))).toNat],()))else none else bif v.1==3 then bif decide (x3.length+[UInt8.ofNat (intBits BinOp.or IntKind.u8 224 (IntKind.u8.wrap (Int.fdiv (x0.getD x2.toNat 0) (2^min 12 IntKind.i32.bits)))).toNat,UInt8.ofNat (intBits BinOp.or IntKind.u8 128 (IntKind.u8.wrap (intBits BinOp.and IntKind.i32 (Int.fdiv (x0.getD x2.toNat 0) (2^min 6 IntKind.i32.bits)) 63))).toNat,UInt8.ofNat (intBits BinOp.or IntKind.u8 128 (IntKind.u8.wrap (intBits BinOp.and IntKind.i32 (x0.getD x2.toNat 0) 63))).toNat].length<=140737488355328/1)then some (Sum.inl (x0,x1,IntKind.i64.wrap (x2+1),x3++[UInt8.ofNat (intBits BinOp.or IntKind.u8 224 (IntKind.u8.wrap (Int.fdiv (x0.getD x2.toNat 0) (2^min 12 IntKind.i32.bits)))).toNat,UInt8.ofNat (intBits BinOp.or IntKind.u8 128 (IntKind.u8.wrap (intBits BinOp.and IntKind.i32 (Int.fdiv (x0.getD x2.toNat 0) (2^min 6 IntKind.i32.bits)) 63))).toNat,UInt8.ofNat (intBits BinOp.or IntKind.u8 128 (IntKind.u8.wrap (intBits BinOp.and IntKind.i32 (x0.getD x2.toNat 0) 63))).toNat],()))else none else bif v.1==4 then bif decide (x3.length+[UInt8.ofNat (intBits BinOp.or IntKind.u8 240 (IntKind.u8.wrap (Int.fdiv (x0.getD x2.toNat 0) (2^min 18 IntKind.i32.bits)))).toNat,UInt8.ofNat (intBits BinOp.or IntKind.u8 128 (IntKind.u8.wrap (intBits BinOp.and IntKind.i32 (Int.fdiv (x0.getD x2.toNat 0) (2^min 12 IntKind.i32.bits)) 63))).toNat,UInt8.ofNat (intBits BinOp.or IntKind.u8 128 (IntKind.u8.wrap (intBits BinOp.and IntKind.i32 (Int.fdiv (x0.getD x2.toNat 0) (2^min 6 IntKind.i32.bits)) 63))).toNat,UInt8.ofNat (intBits BinOp.or IntKind.u8 128 (IntKind.u8.wrap (intBits BinOp.and IntKind.i32 (x0.getD x2.toNat 0) 63))).toNat].length<=140737488355328/1)then some (Sum.inl (x0,x1,IntKind.i64.wrap (x2+1),x3++[UInt8.ofNat (intBits BinOp.or IntKind.u8 240 (IntKind.u8.wrap (Int.fdiv (x0.getD x2.toNat 0) (2^min 18 IntKind.i32.bits)))).toNat,UInt8.ofNat (intBits BinOp.or IntKind.u8 128 (IntKind.u8.wrap (intBits BinOp.and IntKind.i32 (Int.fdiv (x0.getD x2.toNat 0) (2^min 12 IntKind.i32.bits)) 63))).toNat,UInt8.ofNat (intBits BinOp.or IntKind.u8 128 (IntKind.u8.wrap (intBits BinOp.and IntKind.i32 (Int.fdiv (x0.getD x2.toNat 0) (2^min 6 IntKind.i32.bits)) 63))).toNat,UInt8.ofNat (intBits BinOp.or IntKind.u8 128 (IntKind.u8.wrap (intBits BinOp.and IntKind.i32 (x0.getD x2.toNat 0) 63))).toNat],()))else none else some (Sum.inl (x0,x1,IntKind.i64.wrap (x2+1),x3,()))else none else some (Sum.inr (Sum.inl (x3,())))
def C180_l0:T180_l0:=loopN (F180_l0 C96) big
theorem k180_l0:qg 0 (subc (code f180) [1,1,0,1,0,0]) (E180_l0 C180_l0):=zg q8s q9p K180 F180_l0 C96 kok180
def N180(f180_l0:T180_l0):Ann:=(.seq .nil (.seq .nil (.seq (.seq .nil (.blk (.loop (E180_l0 f180_l0)))) .nil)))
def F180(f96:T96)(f180_l0:T180_l0):T180:=λ(x0,_)=>(f180_l0 (x0,(↑x0.length:Int),0,[],())).bind λv=>Sum.elim (λv=>some (v.1,true,())) (λv=>some (v.1,v.2.1,())) v
def C180:T180:=F180 C96 C180_l0
theorem ok180:FO 180 (E180 C180):=qx Li4 jq K180 N180 F180 C96 C180_l0 kok180 func180 (And.intro k180_l0 trivial)
abbrev T270:=Int×Int×Int×Int×Unit->Option (Bool×Int×Unit)
def E270(f:T270):FEnt:=⟨q8n,kz,f⟩
def F270:T270:=λ(x0,x1,x2,x3,_)=>bif decide (x0<=x3)then some (decide (x3<=x1),x3,())else some (false,x3,())
theorem h270:qp qu 1 f270 .nil q8n kz (F270):=λv=>by kernel_rfl
def C270:T270:=F270
theorem ok270:FO 270 (E270 C270) :=
 q0 kn func270 (h270)
abbrev T269_l0:=qd×Int×Int×Int×Unit->Option ((Int×Unit)⊕(Int×Int×Unit))
def E269_l0(f:T269_l0):LEnt:=⟨q8p,wb,f⟩
abbrev T269:=qd×Int×Unit->Option (Int×Int×Unit)
def E269(f:T269):FEnt:=⟨q8o,wa,f⟩
def K269(f270:T270):=lk [(270,E270 f270)]
theorem kok269:KOk prog (K269 C270):=(kc ok270 kn)
def F269_l0(f270:T270):qn (qd×Int×Int×Int×Unit) ((Int×Unit)⊕(Int×Int×Unit)):=λ(x0,x1,x2,x3,_)=>bif decide (x2<x1)then bif decide (0<=x2)&&decide (x2<(↑x0.length:Int))then(f270 ((x0.getD x2.toNat (0,(0,0))).1,(x0.getD x2.toNat (0,(0,0))).2.1,(x0.getD x2.toNat (0,(0,0))).2.2,x3,())).bind λv=>bif v.1 then some (Sum.inr (Sum.inr (x2,v.2.1,())))else some (Sum.inl (x0,x1,IntKind.i64.wrap (x2+1),v.2.1,()))else none else some (Sum.inr (Sum.inl (x3,())))
def C269_l0:T269_l0:=loopN (F269_l0 C270) big
theorem k269_l0:qg 1 (subc (code f269) [1,0,1,0,0]) (E269_l0 C269_l0):=zg q8p wb K269 F269_l0 C270 kok269
def N269(f269_l0:T269_l0):Ann:=(.seq .nil (.seq (.seq .nil (.blk (.loop (E269_l0 f269_l0)))) .nil))
def F269(f270:T270)(f269_l0:T269_l0):T269:=λ(x0,x1,_)=>(f269_l0 (x0,(↑x0.length:Int),0,x1,())).bind λv=>Sum.elim (λv=>some (-1,v.1,())) (λv=>some (v.1,v.2.1,())) v
theorem h269(f270:T270)(f269_l0:T269_l0):qp (K269 f270) 1 f269 (N269 f269_l0) q8o wa (F269 f270 f269_l0):=λv=>by kernel_rfl
def C269:T269:=F269 C270 C269_l0
theorem ok269:FO 269 (E269 C269) :=
 qo kok269 func269 (And.intro k269_l0 trivial) (h269 C270 C269_l0)
abbrev T221:=qb×qc×qd×Int×Unit->Option (Int×Unit)
def E221(f:T221):FEnt:=⟨zv,ya,f⟩
def K221(f269:T269):=lk [(269,E269 f269)]
def F221(f269:T269):T221:=λ(x0,x1,x2,x3,_)=>(f269 (x2,x3,())).bind λv=>bif decide (v.1<0)then some (v.2.1,())else bif decide (0<=v.1)&&decide (v.1<(↑x2.length:Int))then some (IntKind.i32.wrap (v.2.1+(x2.getD (Int.toNat v.1) (0,(0,0))).2.2),())else none
def C221:T221:=F221 C269
theorem ok221:FO 221 (E221 C221):=qz zv ya K221 F221 C269 (kc ok269 kn) func221
abbrev T220v1_l0:=qb×qc×qd×List (Int)×Int×Int×List (Int)×Unit->Option (List (Int)×Unit)
def E220v1_l0(f:T220v1_l0):LEnt:=⟨q8r,ky,f⟩
abbrev T220v1:=List (Int)×qb×qc×qd×Unit->Option (List (Int)×Unit)
def E220v1(f:T220v1):FEnt:=⟨q8q,jh,f⟩
def K220v1(f221:T221):=lk [(221,E221 f221)]
theorem kok220v1:KOk prog (K220v1 C221):=(kc ok221 kn)
def F220v1_l0(f221:T221):qn (qb×qc×qd×List (Int)×Int×Int×List (Int)×Unit) (List (Int)×Unit):=λ(x0,x1,x2,x3,x4,x5,x6,_)=>bif decide (x5<x4)then bif decide (0<=x5)&&decide (x5<(↑x3.length:Int))then(f221 (x0,x1,x2,x3.getD x5.toNat 0,())).bind λv=>bif decide (x6.length+[v.1].length<=140737488355328/4)then some (Sum.inl (x0,x1,x2,x3,x4,IntKind.i64.wrap (x5+1),x6++[v.1],()))else none else none else some (Sum.inr (x6,()))
def C220v1_l0:T220v1_l0:=loopN (F220v1_l0 C221) big
theorem k220v1_l0:qg 0 (subc (code f220) [1,1,0,1,0,0]) (E220v1_l0 C220v1_l0):=zg q8r ky K220v1 F220v1_l0 C221 kok220v1
def N220v1(f220v1_l0:T220v1_l0):Ann:=(.seq .nil (.seq .nil (.seq (.seq .nil (.blk (.loop (E220v1_l0 f220v1_l0)))) .nil)))
def F220v1(f221:T221)(f220v1_l0:T220v1_l0):T220v1:=λ(x0,x1,x2,x3,_)=>(f220v1_l0 (x1,x2,x3,x0,(↑x0.length:Int),0,[],())).bind λv=>some (v.1,())
def C220v1:T220v1:=F220v1 C221 C220v1_l0
theorem ok220v1:FO 220 (E220v1 C220v1):=qx q8q jh K220v1 N220v1 F220v1 C221 C220v1_l0 kok220v1 func220 (And.intro k220v1_l0 trivial)
abbrev T181:=qb×qc×qd×List (Int)×Unit->Option (List (Int)×Unit)
def E181(f:T181):FEnt:=⟨zw,jh,f⟩
def K181(f220v1:T220v1):=lk [(220,E220v1 f220v1)]
def F181(f220v1:T220v1):T181:=λ(x0,x1,x2,x3,_)=>(f220v1 (x3,x0,x1,x2,())).bind λv=>some (v.1,())
def C181:T181:=F181 C220v1
theorem ok181:FO 181 (E181 C181):=qz zw jh K181 F181 C220v1 (kc ok220v1 kn) func181
abbrev T222:=qb×qc×qd×Int×Unit->Option (Int×Unit)
def E222(f:T222):FEnt:=⟨zv,ya,f⟩
def K222(f226:T226):=lk [(226,E226 f226)]
def F222(f226:T226):T222:=λ(x0,x1,x2,x3,_)=>bif decide (x3<65281)then some (x3,())else bif decide (x3>65374)then some (x3,())else(f226 (x0,x1,x2,x3,())).bind λv=>some (v.2.1,())
def C222:T222:=F222 C226
theorem ok222:FO 222 (E222 C222):=qz zv ya K222 F222 C226 (kc ok226 kn) func222
abbrev T220_l0:=qb×qc×qd×List (Int)×Int×Int×List (Int)×Unit->Option (List (Int)×Unit)
def E220_l0(f:T220_l0):LEnt:=⟨q8m,ky,f⟩
abbrev T220:=List (Int)×qb×qc×qd×Unit->Option (List (Int)×Unit)
def E220(f:T220):FEnt:=⟨q8l,jh,f⟩
def K220(f222:T222):=lk [(222,E222 f222)]
theorem kok220:KOk prog (K220 C222):=(kc ok222 kn)
def F220_l0(f222:T222):qn (qb×qc×qd×List (Int)×Int×Int×List (Int)×Unit) (List (Int)×Unit):=λ(x0,x1,x2,x3,x4,x5,x6,_)=>bif decide (x5<x4)then bif decide (0<=x5)&&decide (x5<(↑x3.length:Int))then(f222 (x0,x1,x2,x3.getD x5.toNat 0,())).bind λv=>bif decide (x6.length+[v.1].length<=140737488355328/4)then some (Sum.inl (x0,x1,x2,x3,x4,IntKind.i64.wrap (x5+1),x6++[v.1],()))else none else none else some (Sum.inr (x6,()))
def C220_l0:T220_l0:=loopN (F220_l0 C222) big
theorem k220_l0:qg 0 (subc (code f220) [1,1,0,1,0,0]) (E220_l0 C220_l0):=zg q8m ky K220 F220_l0 C222 kok220
def N220(f220_l0:T220_l0):Ann:=(.seq .nil (.seq .nil (.seq (.seq .nil (.blk (.loop (E220_l0 f220_l0)))) .nil)))
def F220(f222:T222)(f220_l0:T220_l0):T220:=λ(x0,x1,x2,x3,_)=>(f220_l0 (x1,x2,x3,x0,(↑x0.length:Int),0,[],())).bind λv=>some (v.1,())
def C220:T220:=F220 C222 C220_l0
theorem ok220:FO 220 (E220 C220):=qx q8l jh K220 N220 F220 C222 C220_l0 kok220 func220 (And.intro k220_l0 trivial)
abbrev T182:=qb×qc×qd×List (Int)×Unit->Option (List (Int)×Unit)
def E182(f:T182):FEnt:=⟨zw,jh,f⟩
def K182(f220:T220):=lk [(220,E220 f220)]
def F182(f220:T220):T182:=λ(x0,x1,x2,x3,_)=>(f220 (x3,x0,x1,x2,())).bind λv=>some (v.1,())
def C182:T182:=F182 C220
theorem ok182:FO 182 (E182 C182):=qz zw jh K182 F182 C220 (kc ok220 kn) func182
abbrev T314:=Int×Int×Int×Int×Int×Unit->Option (Bool×Int×Unit)
def E314(f:T314):FEnt:=⟨q8z,kz,f⟩
def F314:T314:=λ(x0,x1,x2,x3,x4,_)=>bif decide (x0<=x4)then some (decide (x4<=x1),x4,())else some (false,x4,())
theorem h314:qp qu 1 f314 .nil q8z kz (F314):=λv=>by kernel_rfl
def C314:T314:=F314
theorem ok314:FO 314 (E314 C314) :=
 q0 kn func314 (h314)
abbrev T313_l0:=qc×Int×Int×Int×Unit->Option ((Int×Unit)⊕(Int×Int×Unit))
def E313_l0(f:T313_l0):LEnt:=⟨q9b,wb,f⟩
abbrev T313:=qc×Int×Unit->Option (Int×Int×Unit)
def E313(f:T313):FEnt:=⟨q9a,wa,f⟩
def K313(f314:T314):=lk [(314,E314 f314)]
theorem kok313:KOk prog (K313 C314):=(kc ok314 kn)
def F313_l0(f314:T314):qn (qc×Int×Int×Int×Unit) ((Int×Unit)⊕(Int×Int×Unit)):=λ(x0,x1,x2,x3,_)=>bif decide (x2<x1)then bif decide (0<=x2)&&decide (x2<(↑x0.length:Int))then(f314 ((x0.getD x2.toNat (0,(0,(0,0)))).1,(x0.getD x2.toNat (0,(0,(0,0)))).2.1,(x0.getD x2.toNat (0,(0,(0,0)))).2.2.1,(x0.getD x2.toNat (0,(0,(0,0)))).2.2.2,x3,())).bind λv=>bif v.1 then some (Sum.inr (Sum.inr (x2,v.2.1,())))else some (Sum.inl (x0,x1,IntKind.i64.wrap (x2+1),v.2.1,()))else none else some (Sum.inr (Sum.inl (x3,())))
def C313_l0:T313_l0:=loopN (F313_l0 C314) big
theorem k313_l0:qg 1 (subc (code f313) [1,0,1,0,0]) (E313_l0 C313_l0):=zg q9b wb K313 F313_l0 C314 kok313
def N313(f313_l0:T313_l0):Ann:=(.seq .nil (.seq (.seq .nil (.blk (.loop (E313_l0 f313_l0)))) .nil))
def F313(f314:T314)(f313_l0:T313_l0):T313:=λ(x0,x1,_)=>(f313_l0 (x0,(↑x0.length:Int),0,x1,())).bind λv=>Sum.elim (λv=>some (-1,v.1,())) (λv=>some (v.1,v.2.1,())) v
theorem h313(f314:T314)(f313_l0:T313_l0):qp (K313 f314) 1 f313 (N313 f313_l0) q9a wa (F313 f314 f313_l0):=λv=>by kernel_rfl
def C313:T313:=F313 C314 C313_l0
theorem ok313:FO 313 (E313 C313) :=
 qo kok313 func313 (And.intro k313_l0 trivial) (h313 C314 C313_l0)
abbrev T295:=qb×qc×qd×Int×Unit->Option (Int×Unit)
def E295(f:T295):FEnt:=⟨zv,qf,f⟩
def K295(f313:T313):=lk [(313,E313 f313)]
def F295(f313:T313):T295:=λ(x0,x1,x2,x3,_)=>(f313 (x1,x3,())).bind λv=>bif decide (v.1<0)then some (0,())else bif decide (0<=v.1)&&decide (v.1<(↑x1.length:Int))then some (IntKind.i64.wrap ((x1.getD (Int.toNat v.1) (0,(0,(0,0)))).2.2.1+IntKind.i64.wrap ((x1.getD (Int.toNat v.1) (0,(0,(0,0)))).2.2.2*IntKind.i64.wrap (IntKind.i32.wrap (v.2.1-(x1.getD (Int.toNat v.1) (0,(0,(0,0)))).1)))),())else none
def C295:T295:=F295 C313
theorem ok295:FO 295 (E295 C295):=qz zv qf K295 F295 C313 (kc ok313 kn) func295
abbrev T297:=Int×Int×qb×qc×qd×Unit->Option (Int×qb×qc×qd×Unit)
def E297(f:T297):FEnt:=⟨q9c,q9t,f⟩
def K297(f295:T295):=lk [(295,E295 f295)]
def F297(f295:T295):T297:=λ(x0,x1,x2,x3,x4,_)=>(f295 (x2,x3,x4,x0,())).bind λv=>(f295 (x2,x3,x4,x1,())).bind λv1=>some (IntKind.i64.wrap (v.1-v1.1),x2,x3,x4,())
theorem h297(f295:T295):qp (K297 f295) 1 f297 .nil q9c q9t (F297 f295):=λv=>by kernel_rfl
def C297:T297:=F297 C295
theorem ok297:FO 297 (E297 C297) :=
 q0 (kc ok295 kn) func297 (h297 C295)
abbrev T325_c0:=(Int×Int)×Int×Int×Int×Int×List (Int)×qb×qc×qd×Unit->Option ((Int×Int)×Int×Int×Int×Int×List (Int)×qb×qc×qd×Unit)
def E325_c0(f:T325_c0):LEnt:=⟨km,q9u,f⟩
abbrev T325_l0:=(Int×Int)×Int×Int×Int×Int×List (Int)×qb×qc×qd×Unit->Option ((Int×Int)×Int×Int×Int×List (Int)×qb×qc×qd×Unit)
def E325_l0(f:T325_l0):LEnt:=⟨km,q9v,f⟩
abbrev T325_l1:=(Int×Int)×Int×Int×Int×List (Int)×qb×qc×qd×Unit->Option (List (Int)×qb×qc×qd×Unit)
def E325_l1(f:T325_l1):LEnt:=⟨q9e,q9w,f⟩
abbrev T325:=(Int×Int)×Int×Int×List (Int)×qb×qc×qd×Unit->Option (List (Int)×qb×qc×qd×Unit)
def E325(f:T325):FEnt:=⟨q9d,jx,f⟩
def K325(f297:T297):=lk [(297,E297 f297)]
theorem kok325:KOk prog (K325 C297):=(kc ok297 kn)
def F325_c0(f297:T297):T325_c0:=λ(x0,x1,x2,x3,x4,x5,x6,x7,x8,_)=>bif decide (0<=IntKind.i64.wrap (x4-1))&&decide (IntKind.i64.wrap (x4-1)<(↑(Int.toNat x0.2):Int))then bif decide (0<=x4)&&decide (x4<(↑(Int.toNat x0.2):Int))then bif decide (0<=x4)&&decide (x4<(↑(Int.toNat x0.2):Int))then bif decide (0<=IntKind.i64.wrap (x4-1))&&decide (IntKind.i64.wrap (x4-1)<(↑(Int.toNat x0.2):Int))then some (((↑(Int.toNat x0.1):Int),(↑(Int.toNat x0.2):Int)),x1,x2,x3,IntKind.i64.wrap (x4-1),(x5.set (Int.toNat x0.1+x4.toNat) (x5.getD (Int.toNat x0.1+(IntKind.i64.wrap (x4-1)).toNat) 0)).set (Int.toNat x0.1+(IntKind.i64.wrap (x4-1)).toNat) (x5.getD (Int.toNat x0.1+x4.toNat) 0),x6,x7,x8,())else none else none else none else none
theorem h325_c0(f297:T297):jd (K325 f297) 2 (subc (code f325) [1,0,0,1,0,0,1,0,0,1]) .nil km q9u (F325_c0 f297):=λv=>by kernel_rfl
def C325_c0:T325_c0:=F325_c0 C297
theorem k325_c0:ql 2 (subc (code f325) [1,0,0,1,0,0,1,0,0,1]) (E325_c0 C325_c0) :=
 yc kok325 (h325_c0 C297)
def N325_l0(f325_c0:T325_c0):Ann:=(.cut .nil (E325_c0 f325_c0))
def F325_l0(f297:T297)(f325_c0:T325_c0):qn ((Int×Int)×Int×Int×Int×Int×List (Int)×qb×qc×qd×Unit) ((Int×Int)×Int×Int×Int×List (Int)×qb×qc×qd×Unit):=λ(x0,x1,x2,x3,x4,x5,x6,x7,x8,_)=>bif decide (x4>x1)then bif decide (0<=x4)&&decide (x4<(↑(Int.toNat x0.2):Int))then bif decide (0<=IntKind.i64.wrap (x4-1))&&decide (IntKind.i64.wrap (x4-1)<(↑(Int.toNat x0.2):Int))then(f297 (x5.getD (Int.toNat x0.1+x4.toNat) 0,x5.getD (Int.toNat x0.1+(IntKind.i64.wrap (x4-1)).toNat) 0,x6,x7,x8,())).bind λv=>bif decide (v.1<0)then(f325_c0 (((↑(Int.toNat x0.1):Int),(↑(Int.toNat x0.2):Int)),x1,x2,x3,x4,x5,v.2.1,v.2.2.1,v.2.2.2.1,())).bind λv=>some (Sum.inl (((↑(Int.toNat v.1.1):Int),(↑(Int.toNat v.1.2):Int)),v.2.1,v.2.2.1,v.2.2.2.1,v.2.2.2.2.1,v.2.2.2.2.2.1,v.2.2.2.2.2.2.1,v.2.2.2.2.2.2.2.1,v.2.2.2.2.2.2.2.2.1,()))else some (Sum.inr (((↑(Int.toNat x0.1):Int),(↑(Int.toNat x0.2):Int)),x1,x2,x3,x5,v.2.1,v.2.2.1,v.2.2.2.1,()))else none else none else some (Sum.inr (((↑(Int.toNat x0.1):Int),(↑(Int.toNat x0.2):Int)),x1,x2,x3,x5,x6,x7,x8,()))
theorem h325_l0(f297:T297)(f325_c0:T325_c0):jv (K325 f297) 2 (subc (code f325) [1,0,0,1,0,0,1,0,0]) (N325_l0 f325_c0) km q9v (F325_l0 f297 f325_c0):=λv=>by kernel_rfl
def C325_l0:T325_l0:=loopN (F325_l0 C297 C325_c0) big
theorem k325_l0:qg 2 (subc (code f325) [1,0,0,1,0,0,1,0,0]) (E325_l0 C325_l0) :=
 vy kok325 (And.intro k325_c0 trivial) (h325_l0 C297 C325_c0)
def N325_l1(f325_l0:T325_l0):Ann:=(.seq .nil (.seq (.blk (.seq .nil (.blk (.loop (E325_l0 f325_l0))))) .nil))
def F325_l1(f297:T297)(f325_l0:T325_l0):qn ((Int×Int)×Int×Int×Int×List (Int)×qb×qc×qd×Unit) (List (Int)×qb×qc×qd×Unit):=λ(x0,x1,x2,x3,x4,x5,x6,x7,_)=>bif decide (x3<x2)then(f325_l0 (((↑(Int.toNat x0.1):Int),(↑(Int.toNat x0.2):Int)),x1,x2,x3,x3,x4,x5,x6,x7,())).bind λv=>some (Sum.inl (((↑(Int.toNat v.1.1):Int),(↑(Int.toNat v.1.2):Int)),v.2.1,v.2.2.1,IntKind.i64.wrap (v.2.2.2.1+1),v.2.2.2.2.1,v.2.2.2.2.2.1,v.2.2.2.2.2.2.1,v.2.2.2.2.2.2.2.1,()))else some (Sum.inr (x4,x5,x6,x7,()))
theorem h325_l1(f297:T297)(f325_l0:T325_l0):jv (K325 f297) 2 (subc (code f325) [1,0,0]) (N325_l1 f325_l0) q9e q9w (F325_l1 f297 f325_l0):=λv=>by kernel_rfl
def C325_l1:T325_l1:=loopN (F325_l1 C297 C325_l0) big
theorem k325_l1:qg 2 (subc (code f325) [1,0,0]) (E325_l1 C325_l1) :=
 vy kok325 (And.intro k325_l0 trivial) (h325_l1 C297 C325_l0)
def N325(f325_l1:T325_l1):Ann:=(.seq .nil (.blk (.loop (E325_l1 f325_l1))))
def F325(f297:T297)(f325_l1:T325_l1):T325:=λ(x0,x1,x2,x3,x4,x5,x6,_)=>(f325_l1 (((↑(Int.toNat x0.1):Int),(↑(Int.toNat x0.2):Int)),x1,x2,IntKind.i64.wrap (x1+1),x3,x4,x5,x6,())).bind λv=>some (v.1,v.2.1,v.2.2.1,v.2.2.2.1,())
theorem h325(f297:T297)(f325_l1:T325_l1):qp (K325 f297) 2 f325 (N325 f325_l1) q9d jx (F325 f297 f325_l1):=λv=>by kernel_rfl
def C325:T325:=F325 C297 C325_l1
theorem ok325:FO 325 (E325 C325) :=
 qo kok325 func325 (And.intro k325_l1 trivial) (h325 C297 C325_l1)
abbrev T330_l0:=(Int×Int)×Int×Int×Int×Int×List (Int)×qb×qc×qd×Unit->Option (List (Int)×qb×qc×qd×Unit)
def E330_l0(f:T330_l0):LEnt:=⟨q9f,q9x,f⟩
abbrev T330:=(Int×Int)×Int×Int×Int×List (Int)×qb×qc×qd×Unit->Option (List (Int)×qb×qc×qd×Unit)
def E330(f:T330):FEnt:=⟨yg,jx,f⟩
def F330_l0:qn ((Int×Int)×Int×Int×Int×Int×List (Int)×qb×qc×qd×Unit) (List (Int)×qb×qc×qd×Unit):=λ(x0,x1,x2,x3,x4,x5,x6,x7,x8,_)=>bif decide (x4<x3)then bif decide (0<=IntKind.i64.wrap (x2+x4))&&decide (IntKind.i64.wrap (x2+x4)<(↑(Int.toNat x0.2):Int))then bif decide (0<=IntKind.i64.wrap (x1+x4))&&decide (IntKind.i64.wrap (x1+x4)<(↑(Int.toNat x0.2):Int))then bif decide (0<=IntKind.i64.wrap (x1+x4))&&decide (IntKind.i64.wrap (x1+x4)<(↑(Int.toNat x0.2):Int))then bif decide (0<=IntKind.i64.wrap (x2+x4))&&decide (IntKind.i64.wrap (x2+x4)<(↑(Int.toNat x0.2):Int))then some (Sum.inl (((↑(Int.toNat x0.1):Int),(↑(Int.toNat x0.2):Int)),x1,x2,x3,IntKind.i64.wrap (x4+1),(x5.set (Int.toNat x0.1+(IntKind.i64.wrap (x1+x4)).toNat) (x5.getD (Int.toNat x0.1+(IntKind.i64.wrap (x2+x4)).toNat) 0)).set (Int.toNat x0.1+(IntKind.i64.wrap (x2+x4)).toNat) (x5.getD (Int.toNat x0.1+(IntKind.i64.wrap (x1+x4)).toNat) 0),x6,x7,x8,()))else none else none else none else none else some (Sum.inr (x5,x6,x7,x8,()))
def C330_l0:T330_l0:=loopN (F330_l0) big
theorem k330_l0:qg 2 (subc (code f330) [1,0,0]) (E330_l0 C330_l0):=zl0 q9f q9x qu F330_l0 kn
def N330(f330_l0:T330_l0):Ann:=(.seq .nil (.blk (.loop (E330_l0 f330_l0))))
def F330(f330_l0:T330_l0):T330:=λ(x0,x1,x2,x3,x4,x5,x6,x7,_)=>(f330_l0 (((↑(Int.toNat x0.1):Int),(↑(Int.toNat x0.2):Int)),x1,x2,x3,0,x4,x5,x6,x7,())).bind λv=>some (v.1,v.2.1,v.2.2.1,v.2.2.2.1,())
theorem h330(f330_l0:T330_l0):qp qu 2 f330 (N330 f330_l0) yg jx (F330 f330_l0):=λv=>by kernel_rfl
def C330:T330:=F330 C330_l0
theorem ok330:FO 330 (E330 C330) :=
 qo kn func330 (And.intro k330_l0 trivial) (h330 C330_l0)
abbrev T329_l0:=(Int×Int)×Int×Int×Int×List (Int)×qb×qc×qd×Unit->Option ((Int×Int)×Int×Int×List (Int)×qb×qc×qd×Unit)
def E329_l0(f:T329_l0):LEnt:=⟨q9g,q9y,f⟩
abbrev T329:=(Int×Int)×Int×Int×Int×List (Int)×qb×qc×qd×Unit->Option (List (Int)×qb×qc×qd×Unit)
def E329(f:T329):FEnt:=⟨yg,jx,f⟩
def K329(f330:T330):=lk [(330,E330 f330)]
theorem kok329:KOk prog (K329 C330):=(kc ok330 kn)
def F329_l0(f330:T330):qn ((Int×Int)×Int×Int×Int×List (Int)×qb×qc×qd×Unit) ((Int×Int)×Int×Int×List (Int)×qb×qc×qd×Unit):=λ(x0,x1,x2,x3,x4,x5,x6,x7,_)=>bif x2 != x3 then bif decide (x2>x3)then(f330 (((↑(Int.toNat x0.1):Int),(↑(Int.toNat x0.2):Int)),IntKind.i64.wrap (x1-x2),x1,x3,x4,x5,x6,x7,())).bind λv=>some (Sum.inl (((↑(Int.toNat x0.1):Int),(↑(Int.toNat x0.2):Int)),x1,IntKind.i64.wrap (x2-x3),x3,v.1,v.2.1,v.2.2.1,v.2.2.2.1,()))else(f330 (((↑(Int.toNat x0.1):Int),(↑(Int.toNat x0.2):Int)),IntKind.i64.wrap (x1-x2),IntKind.i64.wrap (IntKind.i64.wrap (x1+x3)-x2),x2,x4,x5,x6,x7,())).bind λv=>some (Sum.inl (((↑(Int.toNat x0.1):Int),(↑(Int.toNat x0.2):Int)),x1,x2,IntKind.i64.wrap (x3-x2),v.1,v.2.1,v.2.2.1,v.2.2.2.1,()))else some (Sum.inr (((↑(Int.toNat x0.1):Int),(↑(Int.toNat x0.2):Int)),x1,x2,x4,x5,x6,x7,()))
def C329_l0:T329_l0:=loopN (F329_l0 C330) big
theorem k329_l0:qg 2 (subc (code f329) [1,1,0,0,0]) (E329_l0 C329_l0):=zg q9g q9y K329 F329_l0 C330 kok329
def N329(f329_l0:T329_l0):Ann:=(.seq .nil (.seq .nil (.seq (.blk (.loop (E329_l0 f329_l0))) .nil)))
def F329(f330:T330)(f329_l0:T329_l0):T329:=λ(x0,x1,x2,x3,x4,x5,x6,x7,_)=>(f329_l0 (((↑(Int.toNat x0.1):Int),(↑(Int.toNat x0.2):Int)),x2,IntKind.i64.wrap (x2-x1),IntKind.i64.wrap (x3-x2),x4,x5,x6,x7,())).bind λv=>(f330 (((↑(Int.toNat v.1.1):Int),(↑(Int.toNat v.1.2):Int)),IntKind.i64.wrap (v.2.1-v.2.2.1),v.2.1,v.2.2.1,v.2.2.2.1,v.2.2.2.2.1,v.2.2.2.2.2.1,v.2.2.2.2.2.2.1,())).bind λv=>some (v.1,v.2.1,v.2.2.1,v.2.2.2.1,())
theorem h329(f330:T330)(f329_l0:T329_l0):qp (K329 f330) 2 f329 (N329 f329_l0) yg jx (F329 f330 f329_l0):=λv=>by kernel_rfl
def C329:T329:=F329 C330 C329_l0
theorem ok329:FO 329 (E329 C329) :=
 qo kok329 func329 (And.intro k329_l0 trivial) (h329 C330 C329_l0)
abbrev T326_l0:=(Int×Int)×Int×Int×Int×List (Int)×qb×qc×qd×Unit->Option ((Int×Int)×Int×Int×List (Int)×qb×qc×qd×Unit)
def E326_l0(f:T326_l0):LEnt:=⟨ko,wc,f⟩
abbrev T326_l1:=(Int×Int)×Int×Int×List (Int)×qb×qc×qd×Unit->Option (List (Int)×qb×qc×qd×Unit)
def E326_l1(f:T326_l1):LEnt:=⟨kp,wd,f⟩
abbrev T326_l2:=(Int×Int)×Int×Int×Int×List (Int)×qb×qc×qd×Unit->Option ((Int×Int)×Int×Int×List (Int)×qb×qc×qd×Unit)
def E326_l2(f:T326_l2):LEnt:=⟨kq,we,f⟩
abbrev T326_l3:=(Int×Int)×Int×Int×List (Int)×qb×qc×qd×Unit->Option (List (Int)×qb×qc×qd×Unit)
def E326_l3(f:T326_l3):LEnt:=⟨kr,wh,f⟩
abbrev T326_l4:=(Int×Int)×Int×Int×Int×Int×Int×Int×Int×Int×List (Int)×qb×qc×qd×Unit->Option ((Int×Int)×Int×Int×Int×Int×Int×Int×List (Int)×qb×qc×qd×Unit)
def E326_l4(f:T326_l4):LEnt:=⟨ku,wi,f⟩
abbrev T326_c0:=(Int×Int)×Int×Int×Int×List (Int)×qb×qc×qd×Unit->Option (List (Int)×qb×qc×qd×Unit)
def E326_c0(f:T326_c0):LEnt:=⟨q8a,zx,f⟩
abbrev T326_c1:=(Int×Int)×Int×Int×Int×Int×Int×List (Int)×qb×qc×qd×Unit->Option (List (Int)×qb×qc×qd×Unit)
def E326_c1(f:T326_c1):LEnt:=⟨vk,zx,f⟩
abbrev T326_c2:=(Int×Int)×Int×Int×Int×Int×Int×Int×Int×List (Int)×qb×qc×qd×Unit->Option (List (Int)×qb×qc×qd×Unit)
def E326_c2(f:T326_c2):LEnt:=⟨vm,zx,f⟩
abbrev T326:=(Int×Int)×Int×Int×Int×List (Int)×qb×qc×qd×Unit->Option (List (Int)×qb×qc×qd×Unit)
def E326(f:T326):FEnt:=⟨yg,jx,f⟩
def K326(f297:T297)(f326:T326)(f329:T329):=lk [(297,E297 f297),(326,E326 f326),(329,E329 f329)]
theorem kok326(G:T326)(hG:FnOk prog 326 (E326 G)):KOk prog (K326 C297 G C329):=(kc ok297 (kc hG (kc ok329 kn)))
def F326_l0(f297:T297)(f326:T326)(f329:T329):qn ((Int×Int)×Int×Int×Int×List (Int)×qb×qc×qd×Unit) ((Int×Int)×Int×Int×List (Int)×qb×qc×qd×Unit):=λ(x0,x1,x2,x3,x4,x5,x6,x7,_)=>bif decide (x2<x3)then bif decide (0<=IntKind.i64.wrap ((IntKind.u64.wrap (IntKind.i64.wrap (x2+x3))).fdiv (2^min 1 IntKind.u64.bits)))&&decide (IntKind.i64.wrap ((IntKind.u64.wrap (IntKind.i64.wrap (x2+x3))).fdiv (2^min 1 IntKind.u64.bits))<(↑(Int.toNat x0.2):Int))then bif decide (0<=x1)&&decide (x1<(↑(Int.toNat x0.2):Int))then(f297 (x4.getD (Int.toNat x0.1+(IntKind.i64.wrap ((IntKind.u64.wrap (IntKind.i64.wrap (x2+x3))).fdiv (2^min 1 IntKind.u64.bits))).toNat) 0,x4.getD (Int.toNat x0.1+x1.toNat) 0,x5,x6,x7,())).bind λv=>bif decide (v.1<0)then some (Sum.inl (((↑(Int.toNat x0.1):Int),(↑(Int.toNat x0.2):Int)),x1,IntKind.i64.wrap (IntKind.i64.wrap ((IntKind.u64.wrap (IntKind.i64.wrap (x2+x3))).fdiv (2^min 1 IntKind.u64.bits))+1),x3,x4,v.2.1,v.2.2.1,v.2.2.2.1,()))else some (Sum.inl (((↑(Int.toNat x0.1):Int),(↑(Int.toNat x0.2):Int)),x1,x2,IntKind.i64.wrap ((IntKind.u64.wrap (IntKind.i64.wrap (x2+x3))).fdiv (2^min 1 IntKind.u64.bits)),x4,v.2.1,v.2.2.1,v.2.2.2.1,()))else none else none else some (Sum.inr (((↑(Int.toNat x0.1):Int),(↑(Int.toNat x0.2):Int)),x1,x2,x4,x5,x6,x7,()))
theorem h326_l0(f297:T297)(f326:T326)(f329:T329):jv (K326 f297 f326 f329) 2 (subc (code Tryz.f326) [0,1,0,1,1,0,0,0]) .nil ko wc (F326_l0 f297 f326 f329):=λv=>by kernel_rfl
def C326_l0(G:T326):T326_l0:=loopN (F326_l0 C297 G C329) big
theorem k326_l0(G:T326)(hG:FnOk prog 326 (E326 G)):qg 2 (subc (code f326) [0,1,0,1,1,0,0,0]) (E326_l0 (C326_l0 G)) :=
 frag_big (ins:=ko) (os:=wc) (C:=(C326_l0 G)) (frag_loop (ins:=ko) (os:=wc) (n := .nil) (F:=F326_l0 C297 G C329) hm hΓ (kok326 G hG) (λ_=>big) (ann_nil _) (h326_l0 C297 G C329)) rfl
def F326_l1(f297:T297)(f326:T326)(f329:T329):qn ((Int×Int)×Int×Int×List (Int)×qb×qc×qd×Unit) (List (Int)×qb×qc×qd×Unit):=λ(x0,x1,x2,x3,x4,x5,x6,_)=>bif decide (x2<IntKind.i64.wrap (x1-1))then bif decide (0<=IntKind.i64.wrap (x2+1))&&decide (IntKind.i64.wrap (x2+1)<(↑(Int.toNat x0.2):Int))then bif decide (0<=x2)&&decide (x2<(↑(Int.toNat x0.2):Int))then bif decide (0<=x2)&&decide (x2<(↑(Int.toNat x0.2):Int))then bif decide (0<=IntKind.i64.wrap (x2+1))&&decide (IntKind.i64.wrap (x2+1)<(↑(Int.toNat x0.2):Int))then some (Sum.inl (((↑(Int.toNat x0.1):Int),(↑(Int.toNat x0.2):Int)),x1,IntKind.i64.wrap (x2+1),(x3.set (Int.toNat x0.1+x2.toNat) (x3.getD (Int.toNat x0.1+(IntKind.i64.wrap (x2+1)).toNat) 0)).set (Int.toNat x0.1+(IntKind.i64.wrap (x2+1)).toNat) (x3.getD (Int.toNat x0.1+x2.toNat) 0),x4,x5,x6,()))else none else none else none else none else some (Sum.inr (x3,x4,x5,x6,()))
theorem h326_l1(f297:T297)(f326:T326)(f329:T329):jv (K326 f297 f326 f329) 2 (subc (code Tryz.f326) [0,1,0,1,1,1,0,1,0,0]) .nil kp wd (F326_l1 f297 f326 f329):=λv=>by kernel_rfl
def C326_l1(G:T326):T326_l1:=loopN (F326_l1 C297 G C329) big
theorem k326_l1(G:T326)(hG:FnOk prog 326 (E326 G)):qg 2 (subc (code f326) [0,1,0,1,1,1,0,1,0,0]) (E326_l1 (C326_l1 G)) :=
 frag_big (ins:=kp) (os:=wd) (C:=(C326_l1 G)) (frag_loop (ins:=kp) (os:=wd) (n := .nil) (F:=F326_l1 C297 G C329) hm hΓ (kok326 G hG) (λ_=>big) (ann_nil _) (h326_l1 C297 G C329)) rfl
def F326_l2(f297:T297)(f326:T326)(f329:T329):qn ((Int×Int)×Int×Int×Int×List (Int)×qb×qc×qd×Unit) ((Int×Int)×Int×Int×List (Int)×qb×qc×qd×Unit):=λ(x0,x1,x2,x3,x4,x5,x6,x7,_)=>bif decide (x2<x3)then bif decide (0<=x1)&&decide (x1<(↑(Int.toNat x0.2):Int))then bif decide (0<=IntKind.i64.wrap ((IntKind.u64.wrap (IntKind.i64.wrap (x2+x3))).fdiv (2^min 1 IntKind.u64.bits)))&&decide (IntKind.i64.wrap ((IntKind.u64.wrap (IntKind.i64.wrap (x2+x3))).fdiv (2^min 1 IntKind.u64.bits))<(↑(Int.toNat x0.2):Int))then(f297 (x4.getD (Int.toNat x0.1+x1.toNat) 0,x4.getD (Int.toNat x0.1+(IntKind.i64.wrap ((IntKind.u64.wrap (IntKind.i64.wrap (x2+x3))).fdiv (2^min 1 IntKind.u64.bits))).toNat) 0,x5,x6,x7,())).bind λv=>bif !decide (v.1<0)then some (Sum.inl (((↑(Int.toNat x0.1):Int),(↑(Int.toNat x0.2):Int)),x1,IntKind.i64.wrap (IntKind.i64.wrap ((IntKind.u64.wrap (IntKind.i64.wrap (x2+x3))).fdiv (2^min 1 IntKind.u64.bits))+1),x3,x4,v.2.1,v.2.2.1,v.2.2.2.1,()))else some (Sum.inl (((↑(Int.toNat x0.1):Int),(↑(Int.toNat x0.2):Int)),x1,x2,IntKind.i64.wrap ((IntKind.u64.wrap (IntKind.i64.wrap (x2+x3))).fdiv (2^min 1 IntKind.u64.bits)),x4,v.2.1,v.2.2.1,v.2.2.2.1,()))else none else none else some (Sum.inr (((↑(Int.toNat x0.1):Int),(↑(Int.toNat x0.2):Int)),x1,x2,x4,x5,x6,x7,()))
theorem h326_l2(f297:T297)(f326:T326)(f329:T329):jv (K326 f297 f326 f329) 2 (subc (code Tryz.f326) [1,0,1,0,1,1,0,0,0]) .nil kq we (F326_l2 f297 f326 f329):=λv=>by kernel_rfl
def C326_l2(G:T326):T326_l2:=loopN (F326_l2 C297 G C329) big
theorem k326_l2(G:T326)(hG:FnOk prog 326 (E326 G)):qg 2 (subc (code f326) [1,0,1,0,1,1,0,0,0]) (E326_l2 (C326_l2 G)) :=
 frag_big (ins:=kq) (os:=we) (C:=(C326_l2 G)) (frag_loop (ins:=kq) (os:=we) (n := .nil) (F:=F326_l2 C297 G C329) hm hΓ (kok326 G hG) (λ_=>big) (ann_nil _) (h326_l2 C297 G C329)) rfl
def F326_l3(f297:T297)(f326:T326)(f329:T329):qn ((Int×Int)×Int×Int×List (Int)×qb×qc×qd×Unit) (List (Int)×qb×qc×qd×Unit):=λ(x0,x1,x2,x3,x4,x5,x6,_)=>bif decide (x2>x1)then bif decide (0<=IntKind.i64.wrap (x2-1))&&decide (IntKind.i64.wrap (x2-1)<(↑(Int.toNat x0.2):Int))then bif decide (0<=x2)&&decide (x2<(↑(Int.toNat x0.2):Int))then bif decide (0<=x2)&&decide (x2<(↑(Int.toNat x0.2):Int))then bif decide (0<=IntKind.i64.wrap (x2-1))&&decide (IntKind.i64.wrap (x2-1)<(↑(Int.toNat x0.2):Int))then some (Sum.inl (((↑(Int.toNat x0.1):Int),(↑(Int.toNat x0.2):Int)),x1,IntKind.i64.wrap (x2-1),(x3.set (Int.toNat x0.1+x2.toNat) (x3.getD (Int.toNat x0.1+(IntKind.i64.wrap (x2-1)).toNat) 0)).set (Int.toNat x0.1+(IntKind.i64.wrap (x2-1)).toNat) (x3.getD (Int.toNat x0.1+x2.toNat) 0),x4,x5,x6,()))else none else none else none else none else some (Sum.inr (x3,x4,x5,x6,()))
theorem h326_l3(f297:T297)(f326:T326)(f329:T329):jv (K326 f297 f326 f329) 2 (subc (code Tryz.f326) [1,0,1,0,1,1,1,0,1,0,0]) .nil kr wh (F326_l3 f297 f326 f329):=λv=>by kernel_rfl
def C326_l3(G:T326):T326_l3:=loopN (F326_l3 C297 G C329) big
theorem k326_l3(G:T326)(hG:FnOk prog 326 (E326 G)):qg 2 (subc (code f326) [1,0,1,0,1,1,1,0,1,0,0]) (E326_l3 (C326_l3 G)) :=
 frag_big (ins:=kr) (os:=wh) (C:=(C326_l3 G)) (frag_loop (ins:=kr) (os:=wh) (n := .nil) (F:=F326_l3 C297 G C329) hm hΓ (kok326 G hG) (λ_=>big) (ann_nil _) (h326_l3 C297 G C329)) rfl
def F326_l4(f297:T297)(f326:T326)(f329:T329):qn ((Int×Int)×Int×Int×Int×Int×Int×Int×Int×Int×List (Int)×qb×qc×qd×Unit) ((Int×Int)×Int×Int×Int×Int×Int×Int×List (Int)×qb×qc×qd×Unit):=λ(x0,x1,x2,x3,x4,x5,x6,x7,x8,x9,x10,x11,x12,_)=>bif decide (x6<x7)then bif decide (0<=IntKind.i64.wrap (x8-IntKind.i64.wrap ((IntKind.u64.wrap (IntKind.i64.wrap (x6+x7))).fdiv (2^min 1 IntKind.u64.bits))))&&decide (IntKind.i64.wrap (x8-IntKind.i64.wrap ((IntKind.u64.wrap (IntKind.i64.wrap (x6+x7))).fdiv (2^min 1 IntKind.u64.bits)))<(↑(Int.toNat x0.2):Int))then bif decide (0<=IntKind.i64.wrap ((IntKind.u64.wrap (IntKind.i64.wrap (x6+x7))).fdiv (2^min 1 IntKind.u64.bits)))&&decide (IntKind.i64.wrap ((IntKind.u64.wrap (IntKind.i64.wrap (x6+x7))).fdiv (2^min 1 IntKind.u64.bits))<(↑(Int.toNat x0.2):Int))then(f297 (x9.getD (Int.toNat x0.1+(IntKind.i64.wrap (x8-IntKind.i64.wrap ((IntKind.u64.wrap (IntKind.i64.wrap (x6+x7))).fdiv (2^min 1 IntKind.u64.bits)))).toNat) 0,x9.getD (Int.toNat x0.1+(IntKind.i64.wrap ((IntKind.u64.wrap (IntKind.i64.wrap (x6+x7))).fdiv (2^min 1 IntKind.u64.bits))).toNat) 0,x10,x11,x12,())).bind λv=>bif !decide (v.1<0)then some (Sum.inl (((↑(Int.toNat x0.1):Int),(↑(Int.toNat x0.2):Int)),x1,x2,x3,x4,x5,IntKind.i64.wrap (IntKind.i64.wrap ((IntKind.u64.wrap (IntKind.i64.wrap (x6+x7))).fdiv (2^min 1 IntKind.u64.bits))+1),x7,x8,x9,v.2.1,v.2.2.1,v.2.2.2.1,()))else some (Sum.inl (((↑(Int.toNat x0.1):Int),(↑(Int.toNat x0.2):Int)),x1,x2,x3,x4,x5,x6,IntKind.i64.wrap ((IntKind.u64.wrap (IntKind.i64.wrap (x6+x7))).fdiv (2^min 1 IntKind.u64.bits)),x8,x9,v.2.1,v.2.2.1,v.2.2.2.1,()))else none else none else some (Sum.inr (((↑(Int.toNat x0.1):Int),(↑(Int.toNat x0.2):Int)),x1,x2,x3,x4,x5,x6,x9,x10,x11,x12,()))
theorem h326_l4(f297:T297)(f326:T326)(f329:T329):jv (K326 f297 f326 f329) 2 (subc (code Tryz.f326) [1,1,1,1,1,1,1,0,0,0]) .nil ku wi (F326_l4 f297 f326 f329):=λv=>by kernel_rfl
def C326_l4(G:T326):T326_l4:=loopN (F326_l4 C297 G C329) big
theorem k326_l4(G:T326)(hG:FnOk prog 326 (E326 G)):qg 2 (subc (code f326) [1,1,1,1,1,1,1,0,0,0]) (E326_l4 (C326_l4 G)) :=
 frag_big (ins:=ku) (os:=wi) (C:=(C326_l4 G)) (frag_loop (ins:=ku) (os:=wi) (n := .nil) (F:=F326_l4 C297 G C329) hm hΓ (kok326 G hG) (λ_=>big) (ann_nil _) (h326_l4 C297 G C329)) rfl
def F326_c0(f297:T297)(f326:T326)(f329:T329):T326_c0:=λ(x0,x1,x2,x3,x4,x5,x6,x7,_)=>bif decide (x2<x3)then bif decide (x3<x1)then(f326 (((↑(Int.toNat x0.1):Int),(↑(Int.toNat x0.2):Int)),x2,x3,x1,x4,x5,x6,x7,())).bind λv=>some (v.1,v.2.1,v.2.2.1,v.2.2.2.1,())else some (x4,x5,x6,x7,())else some (x4,x5,x6,x7,())
theorem h326_c0(f297:T297)(f326:T326)(f329:T329):jd (K326 f297 f326 f329) 2 (subc (code Tryz.f326) [1,1,1,1,1,1,1,1,1,1,1]) .nil q8a zx (F326_c0 f297 f326 f329):=λv=>by kernel_rfl
def C326_c0(G:T326):T326_c0:=F326_c0 C297 G C329
theorem k326_c0(G:T326)(hG:FnOk prog 326 (E326 G)):ql 2 (subc (code f326) [1,1,1,1,1,1,1,1,1,1,1]) (E326_c0 (C326_c0 G)) :=
 frag_code (ins:=q8a) (os:=zx) (n := .nil) (F:=(C326_c0 G)) hm hΓ (kok326 G hG) (ann_nil _) (h326_c0 C297 G C329)
def N326_c1(f326_c0:T326_c0):Ann:=(.cut .nil (E326_c0 f326_c0))
def F326_c1(f297:T297)(f326:T326)(f329:T329)(f326_c0:T326_c0):T326_c1:=λ(x0,x1,x2,x3,x4,x5,x6,x7,x8,x9,_)=>bif decide (x1<x4)then bif decide (x4<x3)then(f326 (((↑(Int.toNat x0.1):Int),(↑(Int.toNat x0.2):Int)),x1,x4,x3,x6,x7,x8,x9,())).bind λv=>(f326_c0 (((↑(Int.toNat x0.1):Int),(↑(Int.toNat x0.2):Int)),x2,x3,x5,v.1,v.2.1,v.2.2.1,v.2.2.2.1,())).bind λv=>some (v.1,v.2.1,v.2.2.1,v.2.2.2.1,())else(f326_c0 (((↑(Int.toNat x0.1):Int),(↑(Int.toNat x0.2):Int)),x2,x3,x5,x6,x7,x8,x9,())).bind λv=>some (v.1,v.2.1,v.2.2.1,v.2.2.2.1,())else(f326_c0 (((↑(Int.toNat x0.1):Int),(↑(Int.toNat x0.2):Int)),x2,x3,x5,x6,x7,x8,x9,())).bind λv=>some (v.1,v.2.1,v.2.2.1,v.2.2.2.1,())
theorem h326_c1(f297:T297)(f326:T326)(f329:T329)(f326_c0:T326_c0):jd (K326 f297 f326 f329) 2 (subc (code Tryz.f326) [1,1,1,1,1,1,1,1,1,1]) (N326_c1 f326_c0) vk zx (F326_c1 f297 f326 f329 f326_c0):=λv=>by kernel_rfl
def C326_c1(G:T326):T326_c1:=F326_c1 C297 G C329 (C326_c0 G)
theorem k326_c1(G:T326)(hG:FnOk prog 326 (E326 G)):ql 2 (subc (code f326) [1,1,1,1,1,1,1,1,1,1]) (E326_c1 (C326_c1 G)) :=
 frag_code (ins:=vk) (os:=zx) (n:=(N326_c1 (C326_c0 G))) (F:=(C326_c1 G)) hm hΓ (kok326 G hG) (ann_obs (And.intro (k326_c0 G hG) trivial) (by kernel_rfl)) (h326_c1 C297 G C329 (C326_c0 G))
def N326_c2(f326_c1:T326_c1)(f326_l4:T326_l4):Ann:=(.seq .nil (.seq (.blk (.loop (E326_l4 f326_l4))) (.seq .nil (.cut .nil (E326_c1 f326_c1)))))
def F326_c2(f297:T297)(f326:T326)(f329:T329)(f326_c1:T326_c1)(f326_l4:T326_l4):T326_c2:=λ(x0,x1,x2,x3,x4,x5,x6,x7,x8,x9,x10,x11,_)=>(f326_l4 (((↑(Int.toNat x0.1):Int),(↑(Int.toNat x0.2):Int)),x1,x2,x3,x4,x5,x6,x7,IntKind.i64.wrap (x5-1),x8,x9,x10,x11,())).bind λv=>bif decide (v.2.2.2.2.2.2.1<v.2.2.1)then bif decide (v.2.2.1<IntKind.i64.wrap (v.2.2.2.2.2.1-v.2.2.2.2.2.2.1))then(f329 (((↑(Int.toNat v.1.1):Int),(↑(Int.toNat v.1.2):Int)),v.2.2.2.2.2.2.1,v.2.2.1,IntKind.i64.wrap (v.2.2.2.2.2.1-v.2.2.2.2.2.2.1),v.2.2.2.2.2.2.2.1,v.2.2.2.2.2.2.2.2.1,v.2.2.2.2.2.2.2.2.2.1,v.2.2.2.2.2.2.2.2.2.2.1,())).bind λv1=>(f326_c1 (((↑(Int.toNat v.1.1):Int),(↑(Int.toNat v.1.2):Int)),v.2.1,v.2.2.2.1,v.2.2.2.2.1,v.2.2.2.2.2.2.1,IntKind.i64.wrap (v.2.2.2.2.2.1-v.2.2.2.2.2.2.1),v1.1,v1.2.1,v1.2.2.1,v1.2.2.2.1,())).bind λv=>some (v.1,v.2.1,v.2.2.1,v.2.2.2.1,())else(f326_c1 (((↑(Int.toNat v.1.1):Int),(↑(Int.toNat v.1.2):Int)),v.2.1,v.2.2.2.1,v.2.2.2.2.1,v.2.2.2.2.2.2.1,IntKind.i64.wrap (v.2.2.2.2.2.1-v.2.2.2.2.2.2.1),v.2.2.2.2.2.2.2.1,v.2.2.2.2.2.2.2.2.1,v.2.2.2.2.2.2.2.2.2.1,v.2.2.2.2.2.2.2.2.2.2.1,())).bind λv=>some (v.1,v.2.1,v.2.2.1,v.2.2.2.1,())else(f326_c1 (((↑(Int.toNat v.1.1):Int),(↑(Int.toNat v.1.2):Int)),v.2.1,v.2.2.2.1,v.2.2.2.2.1,v.2.2.2.2.2.2.1,IntKind.i64.wrap (v.2.2.2.2.2.1-v.2.2.2.2.2.2.1),v.2.2.2.2.2.2.2.1,v.2.2.2.2.2.2.2.2.1,v.2.2.2.2.2.2.2.2.2.1,v.2.2.2.2.2.2.2.2.2.2.1,())).bind λv=>some (v.1,v.2.1,v.2.2.1,v.2.2.2.1,())
theorem h326_c2(f297:T297)(f326:T326)(f329:T329)(f326_c1:T326_c1)(f326_l4:T326_l4):jd (K326 f297 f326 f329) 2 (subc (code Tryz.f326) [1,1,1,1,1,1]) (N326_c2 f326_c1 f326_l4) vm zx (F326_c2 f297 f326 f329 f326_c1 f326_l4):=λv=>by kernel_rfl
def C326_c2(G:T326):T326_c2:=F326_c2 C297 G C329 (C326_c1 G) (C326_l4 G)
theorem k326_c2(G:T326)(hG:FnOk prog 326 (E326 G)):ql 2 (subc (code f326) [1,1,1,1,1,1]) (E326_c2 (C326_c2 G)) :=
 frag_code (ins:=vm) (os:=zx) (n:=(N326_c2 (C326_c1 G) (C326_l4 G))) (F:=(C326_c2 G)) hm hΓ (kok326 G hG) (ann_obs (And.intro (k326_l4 G hG) (And.intro (k326_c1 G hG) trivial)) (by kernel_rfl)) (h326_c2 C297 G C329 (C326_c1 G) (C326_l4 G))
def N326(f326_c2:T326_c2)(f326_l0:T326_l0)(f326_l1:T326_l1)(f326_l2:T326_l2)(f326_l3:T326_l3):Ann:=(.seq (.seq .nil (.cond (.seq .nil (.seq .nil (.seq (.blk (.loop (E326_l0 f326_l0))) (.seq (.seq .nil (.blk (.loop (E326_l1 f326_l1)))) .nil)))) .nil)) (.seq (.seq .nil (.cond (.seq .nil (.seq .nil (.seq (.blk (.loop (E326_l2 f326_l2))) (.seq (.seq .nil (.blk (.loop (E326_l3 f326_l3)))) .nil)))) .nil)) (.seq .nil (.seq .nil (.seq .nil (.cut .nil (E326_c2 f326_c2)))))))
def F326(f297:T297)(f326:T326)(f329:T329)(f326_c2:T326_c2)(f326_l0:T326_l0)(f326_l1:T326_l1)(f326_l2:T326_l2)(f326_l3:T326_l3):T326:=λ(x0,x1,x2,x3,x4,x5,x6,x7,_)=>bif IntKind.i64.wrap (x2-x1)==1 then(f326_l0 (((↑(Int.toNat x0.1):Int),(↑(Int.toNat x0.2):Int)),x1,x2,x3,x4,x5,x6,x7,())).bind λv=>(f326_l1 (((↑(Int.toNat v.1.1):Int),(↑(Int.toNat v.1.2):Int)),v.2.2.1,v.2.1,v.2.2.2.1,v.2.2.2.2.1,v.2.2.2.2.2.1,v.2.2.2.2.2.2.1,())).bind λv=>some (v.1,v.2.1,v.2.2.1,v.2.2.2.1,())else bif IntKind.i64.wrap (x3-x2)==1 then(f326_l2 (((↑(Int.toNat x0.1):Int),(↑(Int.toNat x0.2):Int)),x2,x1,x2,x4,x5,x6,x7,())).bind λv=>(f326_l3 (((↑(Int.toNat v.1.1):Int),(↑(Int.toNat v.1.2):Int)),v.2.2.1,v.2.1,v.2.2.2.1,v.2.2.2.2.1,v.2.2.2.2.2.1,v.2.2.2.2.2.2.1,())).bind λv=>some (v.1,v.2.1,v.2.2.1,v.2.2.2.1,())else bif decide (x2>IntKind.i64.wrap ((IntKind.u64.wrap (IntKind.i64.wrap (x1+x3))).fdiv (2^min 1 IntKind.u64.bits)))then(f326_c2 (((↑(Int.toNat x0.1):Int),(↑(Int.toNat x0.2):Int)),x1,x2,x3,IntKind.i64.wrap ((IntKind.u64.wrap (IntKind.i64.wrap (x1+x3))).fdiv (2^min 1 IntKind.u64.bits)),IntKind.i64.wrap (IntKind.i64.wrap ((IntKind.u64.wrap (IntKind.i64.wrap (x1+x3))).fdiv (2^min 1 IntKind.u64.bits))+x2),IntKind.i64.wrap (IntKind.i64.wrap (IntKind.i64.wrap ((IntKind.u64.wrap (IntKind.i64.wrap (x1+x3))).fdiv (2^min 1 IntKind.u64.bits))+x2)-x3),IntKind.i64.wrap ((IntKind.u64.wrap (IntKind.i64.wrap (x1+x3))).fdiv (2^min 1 IntKind.u64.bits)),x4,x5,x6,x7,())).bind λv=>some (v.1,v.2.1,v.2.2.1,v.2.2.2.1,())else(f326_c2 (((↑(Int.toNat x0.1):Int),(↑(Int.toNat x0.2):Int)),x1,x2,x3,IntKind.i64.wrap ((IntKind.u64.wrap (IntKind.i64.wrap (x1+x3))).fdiv (2^min 1 IntKind.u64.bits)),IntKind.i64.wrap (IntKind.i64.wrap ((IntKind.u64.wrap (IntKind.i64.wrap (x1+x3))).fdiv (2^min 1 IntKind.u64.bits))+x2),x1,x2,x4,x5,x6,x7,())).bind λv=>some (v.1,v.2.1,v.2.2.1,v.2.2.2.1,())
theorem h326(f297:T297)(f326:T326)(f329:T329)(f326_c2:T326_c2)(f326_l0:T326_l0)(f326_l1:T326_l1)(f326_l2:T326_l2)(f326_l3:T326_l3):qp (K326 f297 f326 f329) 2 Tryz.f326 (N326 f326_c2 f326_l0 f326_l1 f326_l2 f326_l3) yg jx (F326 f297 f326 f329 f326_c2 f326_l0 f326_l1 f326_l2 f326_l3):=λv=>by kernel_rfl
def C326:T326:=recN (λG=>F326 C297 G C329 (C326_c2 G) (C326_l0 G) (C326_l1 G) (C326_l2 G) (C326_l3 G)) big
theorem ok326:FO 326 (E326 C326) :=
 fn_rec (ins:=yg) (os:=jx) (F:=λG=>F326 C297 G C329 (C326_c2 G) (C326_l0 G) (C326_l1 G) (C326_l2 G) (C326_l3 G)) (λG hG=>qo (kok326 G hG) func326 (And.intro (k326_l0 G hG) (And.intro (k326_l1 G hG) (And.intro (k326_l2 G hG) (And.intro (k326_l3 G hG) (And.intro (k326_c2 G hG) trivial))))) (h326 C297 G C329 (C326_c2 G) (C326_l0 G) (C326_l1 G) (C326_l2 G) (C326_l3 G))) big
abbrev T315_l0:=(Int×Int)×Int×Int×Int×Int×List (Int)×qb×qc×qd×Unit->Option ((Int×Int)×Int×Int×Int×List (Int)×qb×qc×qd×Unit)
def E315_l0(f:T315_l0):LEnt:=⟨yi,q4n,f⟩
abbrev T315_l1:=(Int×Int)×Int×Int×Int×Int×List (Int)×qb×qc×qd×Unit->Option ((Int×Int)×Int×Int×Int×List (Int)×qb×qc×qd×Unit)
def E315_l1(f:T315_l1):LEnt:=⟨yi,q4o,f⟩
abbrev T315_l2:=(Int×Int)×Int×Int×List (Int)×qb×qc×qd×Unit->Option (List (Int)×qb×qc×qd×Unit)
def E315_l2(f:T315_l2):LEnt:=⟨q0c,q4p,f⟩
abbrev T315:=(Int×Int)×Int×List (Int)×qb×qc×qd×Unit->Option (List (Int)×qb×qc×qd×Unit)
def E315(f:T315):FEnt:=⟨q0b,jx,f⟩
def K315(f325:T325)(f326:T326):=lk [(325,E325 f325),(326,E326 f326)]
theorem kok315:KOk prog (K315 C325 C326):=(kc ok325 (kc ok326 kn))
def F315_l0(f325:T325)(f326:T326):qn ((Int×Int)×Int×Int×Int×Int×List (Int)×qb×qc×qd×Unit) ((Int×Int)×Int×Int×Int×List (Int)×qb×qc×qd×Unit):=λ(x0,x1,x2,x3,x4,x5,x6,x7,x8,_)=>bif decide (x4<=x1)then(f325 (((↑(Int.toNat x0.1):Int),(↑(Int.toNat x0.2):Int)),x3,x4,x5,x6,x7,x8,())).bind λv=>some (Sum.inl (((↑(Int.toNat x0.1):Int),(↑(Int.toNat x0.2):Int)),x1,x2,x4,IntKind.i64.wrap (x4+x2),v.1,v.2.1,v.2.2.1,v.2.2.2.1,()))else some (Sum.inr (((↑(Int.toNat x0.1):Int),(↑(Int.toNat x0.2):Int)),x1,x2,x3,x5,x6,x7,x8,()))
def C315_l0:T315_l0:=loopN (F315_l0 C325 C326) big
theorem k315_l0:qg 2 (subc (code f315) [1,1,0,0,0]) (E315_l0 C315_l0):=kl yi q4n K315 F315_l0 C325 C326 kok315
def F315_l1(f325:T325)(f326:T326):qn ((Int×Int)×Int×Int×Int×Int×List (Int)×qb×qc×qd×Unit) ((Int×Int)×Int×Int×Int×List (Int)×qb×qc×qd×Unit):=λ(x0,x1,x2,x3,x4,x5,x6,x7,x8,_)=>bif decide (x4<=x1)then(f326 (((↑(Int.toNat x0.1):Int),(↑(Int.toNat x0.2):Int)),x3,IntKind.i64.wrap (x3+x2),x4,x5,x6,x7,x8,())).bind λv=>some (Sum.inl (((↑(Int.toNat x0.1):Int),(↑(Int.toNat x0.2):Int)),x1,x2,x4,IntKind.i64.wrap (x4+IntKind.i64.wrap (2*x2)),v.1,v.2.1,v.2.2.1,v.2.2.2.1,()))else some (Sum.inr (((↑(Int.toNat x0.1):Int),(↑(Int.toNat x0.2):Int)),x1,x2,x3,x5,x6,x7,x8,()))
def C315_l1:T315_l1:=loopN (F315_l1 C325 C326) big
theorem k315_l1:qg 2 (subc (code f315) [1,1,1,1,0,0,1,0,1,0,0,0]) (E315_l1 C315_l1):=kl yi q4o K315 F315_l1 C325 C326 kok315
def N315_l2(f315_l1:T315_l1):Ann:=(.seq .nil (.blk (.seq .nil (.seq (.blk (.loop (E315_l1 f315_l1))) .nil))))
def F315_l2(f325:T325)(f326:T326)(f315_l1:T315_l1):qn ((Int×Int)×Int×Int×List (Int)×qb×qc×qd×Unit) (List (Int)×qb×qc×qd×Unit):=λ(x0,x1,x2,x3,x4,x5,x6,_)=>bif decide (x2<x1)then(f315_l1 (((↑(Int.toNat x0.1):Int),(↑(Int.toNat x0.2):Int)),x1,x2,0,IntKind.i64.wrap (2*x2),x3,x4,x5,x6,())).bind λv=>bif decide (IntKind.i64.wrap (v.2.2.2.1+v.2.2.1)<v.2.1)then(f326 (((↑(Int.toNat v.1.1):Int),(↑(Int.toNat v.1.2):Int)),v.2.2.2.1,IntKind.i64.wrap (v.2.2.2.1+v.2.2.1),v.2.1,v.2.2.2.2.1,v.2.2.2.2.2.1,v.2.2.2.2.2.2.1,v.2.2.2.2.2.2.2.1,())).bind λv1=>some (Sum.inl (((↑(Int.toNat v.1.1):Int),(↑(Int.toNat v.1.2):Int)),v.2.1,IntKind.i64.wrap (v.2.2.1*2),v1.1,v1.2.1,v1.2.2.1,v1.2.2.2.1,()))else some (Sum.inl (((↑(Int.toNat v.1.1):Int),(↑(Int.toNat v.1.2):Int)),v.2.1,IntKind.i64.wrap (v.2.2.1*2),v.2.2.2.2.1,v.2.2.2.2.2.1,v.2.2.2.2.2.2.1,v.2.2.2.2.2.2.2.1,()))else some (Sum.inr (x3,x4,x5,x6,()))
theorem h315_l2(f325:T325)(f326:T326)(f315_l1:T315_l1):jv (K315 f325 f326) 2 (subc (code f315) [1,1,1,1,0,0]) (N315_l2 f315_l1) q0c q4p (F315_l2 f325 f326 f315_l1):=λv=>by kernel_rfl
def C315_l2:T315_l2:=loopN (F315_l2 C325 C326 C315_l1) big
theorem k315_l2:qg 2 (subc (code f315) [1,1,1,1,0,0]) (E315_l2 C315_l2) :=
 vy kok315 (And.intro k315_l1 trivial) (h315_l2 C325 C326 C315_l1)
def N315(f315_l0:T315_l0)(f315_l2:T315_l2):Ann:=(.seq .nil (.seq .nil (.seq (.blk (.loop (E315_l0 f315_l0))) (.seq .nil (.blk (.loop (E315_l2 f315_l2)))))))
def F315(f325:T325)(f326:T326)(f315_l0:T315_l0)(f315_l2:T315_l2):T315:=λ(x0,x1,x2,x3,x4,x5,_)=>(f315_l0 (((↑(Int.toNat x0.1):Int),(↑(Int.toNat x0.2):Int)),x1,20,0,20,x2,x3,x4,x5,())).bind λv=>(f325 (((↑(Int.toNat v.1.1):Int),(↑(Int.toNat v.1.2):Int)),v.2.2.2.1,v.2.1,v.2.2.2.2.1,v.2.2.2.2.2.1,v.2.2.2.2.2.2.1,v.2.2.2.2.2.2.2.1,())).bind λv1=>(f315_l2 (((↑(Int.toNat v.1.1):Int),(↑(Int.toNat v.1.2):Int)),v.2.1,v.2.2.1,v1.1,v1.2.1,v1.2.2.1,v1.2.2.2.1,())).bind λv=>some (v.1,v.2.1,v.2.2.1,v.2.2.2.1,())
theorem h315(f325:T325)(f326:T326)(f315_l0:T315_l0)(f315_l2:T315_l2):qp (K315 f325 f326) 2 f315 (N315 f315_l0 f315_l2) q0b jx (F315 f325 f326 f315_l0 f315_l2):=λv=>by kernel_rfl
def C315:T315:=F315 C325 C326 C315_l0 C315_l2
theorem ok315:FO 315 (E315 C315) :=
 qo kok315 func315 (And.intro k315_l0 (And.intro k315_l2 trivial)) (h315 C325 C326 C315_l0 C315_l2)
abbrev T296:=(Int×Int)×List (Int)×qb×qc×qd×Unit->Option (List (Int)×qb×qc×qd×Unit)
def E296(f:T296):FEnt:=⟨q0d,jx,f⟩
def K296(f315:T315):=lk [(315,E315 f315)]
def F296(f315:T315):T296:=λ(x0,x1,x2,x3,x4,_)=>(f315 (((↑(Int.toNat x0.1):Int),(↑(Int.toNat x0.2):Int)),(↑(Int.toNat x0.2):Int),x1,x2,x3,x4,())).bind λv=>some (v.1,v.2.1,v.2.2.1,v.2.2.2.1,())
theorem h296(f315:T315):qp (K296 f315) 2 f296 .nil q0d jx (F296 f315):=λv=>by kernel_rfl
def C296:T296:=F296 C315
theorem ok296:FO 296 (E296 C296) :=
 q0 (kc ok315 kn) func296 (h296 C315)
abbrev T271_c0:=Int×Int×qb×qc×qd×List (Int)×Unit->Option (Int×Int×qb×qc×qd×List (Int)×Unit)
def E271_c0(f:T271_c0):LEnt:=⟨yj,q4q,f⟩
abbrev T271_l0:=Int×Int×qb×qc×qd×List (Int)×Unit->Option (List (Int)×Unit)
def E271_l0(f:T271_l0):LEnt:=⟨yj,q4r,f⟩
abbrev T271:=qb×qc×qd×List (Int)×Unit->Option (List (Int)×Unit)
def E271(f:T271):FEnt:=⟨zw,jh,f⟩
def K271(f294:T294)(f295:T295)(f296:T296):=lk [(294,E294 f294),(295,E295 f295),(296,E296 f296)]
theorem kok271:KOk prog (K271 C294 C295 C296):=(kc ok294 (kc ok295 (kc ok296 kn)))
def F271_c0(f294:T294)(f295:T295)(f296:T296):T271_c0:=λ(x0,x1,x2,x3,x4,x5,_)=>bif decide (0<=x1)&&decide (x1<=(↑x5.length:Int))then bif decide (0<=x0)&&decide (x0<=x1)then(f296 (((↑x0.toNat:Int),(↑(x1.toNat-x0.toNat):Int)),x5,x2,x3,x4,())).bind λv=>some (IntKind.i64.wrap (x1+1),x1,v.2.1,v.2.2.1,v.2.2.2.1,v.1,())else none else none
theorem h271_c0(f294:T294)(f295:T295)(f296:T296):jd (K271 f294 f295 f296) 0 (subc (code f271) [1,1,1,0,1,0,0,1,0,0,1]) .nil yj q4q (F271_c0 f294 f295 f296):=λv=>by kernel_rfl
def C271_c0:T271_c0:=F271_c0 C294 C295 C296
theorem k271_c0:ql 0 (subc (code f271) [1,1,1,0,1,0,0,1,0,0,1]) (E271_c0 C271_c0) :=
 yc kok271 (h271_c0 C294 C295 C296)
def N271_l0(f271_c0:T271_c0):Ann:=(.seq .nil (.seq (.blk (.cut .nil (E271_c0 f271_c0))) .nil))
def F271_l0(f294:T294)(f295:T295)(f296:T296)(f271_c0:T271_c0):qn (Int×Int×qb×qc×qd×List (Int)×Unit) (List (Int)×Unit):=λ(x0,x1,x2,x3,x4,x5,_)=>bif decide (x1<=(↑x5.length:Int))then bif decide (x1<(↑x5.length:Int))then bif decide (0<=x1)&&decide (x1<(↑x5.length:Int))then(f295 (x2,x3,x4,x5.getD x1.toNat 0,())).bind λv=>bif decide (v.1>0)then some (Sum.inl (x0,IntKind.i64.wrap (x1+1),x2,x3,x4,x5,()))else(f271_c0 (x0,x1,x2,x3,x4,x5,())).bind λv=>some (Sum.inl (v.1,IntKind.i64.wrap (v.2.1+1),v.2.2.1,v.2.2.2.1,v.2.2.2.2.1,v.2.2.2.2.2.1,()))else none else(f271_c0 (x0,x1,x2,x3,x4,x5,())).bind λv=>some (Sum.inl (v.1,IntKind.i64.wrap (v.2.1+1),v.2.2.1,v.2.2.2.1,v.2.2.2.2.1,v.2.2.2.2.2.1,()))else some (Sum.inr (x5,()))
theorem h271_l0(f294:T294)(f295:T295)(f296:T296)(f271_c0:T271_c0):jv (K271 f294 f295 f296) 0 (subc (code f271) [1,1,1,0,1,0,0]) (N271_l0 f271_c0) yj q4r (F271_l0 f294 f295 f296 f271_c0):=λv=>by kernel_rfl
def C271_l0:T271_l0:=loopN (F271_l0 C294 C295 C296 C271_c0) big
theorem k271_l0:qg 0 (subc (code f271) [1,1,1,0,1,0,0]) (E271_l0 C271_l0) :=
 vy kok271 (And.intro k271_c0 trivial) (h271_l0 C294 C295 C296 C271_c0)
def N271(f271_l0:T271_l0):Ann:=(.seq .nil (.seq .nil (.seq .nil (.seq (.seq .nil (.blk (.loop (E271_l0 f271_l0)))) .nil))))
def F271(f294:T294)(f295:T295)(f296:T296)(f271_l0:T271_l0):T271:=λ(x0,x1,x2,x3,_)=>(f294 (x3,())).bind λv=>(f271_l0 (0,0,x0,x1,x2,v.1,())).bind λv=>some (v.1,())
def C271:T271:=F271 C294 C295 C296 C271_l0
theorem ok271:FO 271 (E271 C271):=yf zw jh K271 N271 F271 C294 C295 C296 C271_l0 kok271 func271 (And.intro k271_l0 trivial)
abbrev T316:=Int×Int×Int×Unit->Option (Bool×Unit)
def E316(f:T316):FEnt:=⟨q8t,qe,f⟩
def F316:T316:=λ(x0,x1,x2,_)=>bif decide (x0>=x1)then some (decide (x0<IntKind.i32.wrap (x1+IntKind.i32.wrap x2)),())else some (false,())
def C316:T316:=F316
theorem ok316:FO 316 (E316 C316):=zd q8t qe qu F316 kn func316
abbrev T317:=Int×Unit->Option (List (Int)×Unit)
def E317(f:T317):FEnt:=⟨jo,jh,f⟩
def F317:T317:=λ(x0,_)=>bif decide ((IntKind.i32.wrap (x0-44032)).tmod 28>0)then some ([IntKind.i32.wrap (4352+IntKind.i32.wrap ((IntKind.i32.wrap (x0-44032)).tdiv 588)),IntKind.i32.wrap (4449+(IntKind.i32.wrap ((IntKind.i32.wrap (x0-44032)).tdiv 28)).tmod 21)]++[IntKind.i32.wrap (4519+(IntKind.i32.wrap (x0-44032)).tmod 28)],())else some ([IntKind.i32.wrap (4352+IntKind.i32.wrap ((IntKind.i32.wrap (x0-44032)).tdiv 588)),IntKind.i32.wrap (4449+(IntKind.i32.wrap ((IntKind.i32.wrap (x0-44032)).tdiv 28)).tmod 21)],())
def C317:T317:=F317
theorem ok317:FO 317 (E317 C317):=zd jo jh qu F317 kn func317
abbrev T318_l0:=List (List (Int))×Int×List (List (Int))×Int×Int×Unit->Option (List (List (Int))×Int×Unit)
def E318_l0(f:T318_l0):LEnt:=⟨q8v,q9q,f⟩
abbrev T318_l1:=List (List (Int))×Int×Int×List (Int)×Unit->Option (List (Int)×Unit)
def E318_l1(f:T318_l1):LEnt:=⟨q8w,q9r,f⟩
abbrev T318:=List (List (Int))×Unit->Option (List (Int)×Unit)
def E318(f:T318):FEnt:=⟨q8u,jh,f⟩
def K318(f327:T327):=lk [(327,E327 f327)]
theorem kok318:KOk prog (K318 C327):=(kc ok327 kn)
def F318_l0(f327:T327):qn (List (List (Int))×Int×List (List (Int))×Int×Int×Unit) (List (List (Int))×Int×Unit):=λ(x0,x1,x2,x3,x4,_)=>bif decide (x4<x3)then bif decide (0<=x4)&&decide (x4<(↑x2.length:Int))then bif decide (IntKind.i64.wrap (x1+(↑(List.length (x2.getD x4.toNat [])):Int))<0)then none else some (Sum.inl (x0,IntKind.i64.wrap (x1+(↑(List.length (x2.getD x4.toNat [])):Int)),x2,x3,IntKind.i64.wrap (x4+1),()))else none else some (Sum.inr (x0,x1,()))
def C318_l0:T318_l0:=loopN (F318_l0 C327) big
theorem k318_l0:qg 0 (subc (code f318) [1,1,0,1,0,0]) (E318_l0 C318_l0):=zg q8v q9q K318 F318_l0 C327 kok318
def F318_l1(f327:T327):qn (List (List (Int))×Int×Int×List (Int)×Unit) (List (Int)×Unit):=λ(x0,x1,x2,x3,_)=>bif decide (x2<x1)then bif decide (0<=x2)&&decide (x2<(↑x0.length:Int))then bif decide (x3.length+List.length (x0.getD x2.toNat [])<=140737488355328/4)then some (Sum.inl (x0,x1,IntKind.i64.wrap (x2+1),x3++x0.getD x2.toNat [],()))else none else none else some (Sum.inr (x3,()))
def C318_l1:T318_l1:=loopN (F318_l1 C327) big
theorem k318_l1:qg 0 (subc (code f318) [1,1,1,1,0,1,0,0]) (E318_l1 C318_l1):=zg q8w q9r K318 F318_l1 C327 kok318
def N318(f318_l0:T318_l0)(f318_l1:T318_l1):Ann:=(.seq .nil (.seq .nil (.seq (.seq .nil (.blk (.loop (E318_l0 f318_l0)))) (.seq .nil (.seq (.seq .nil (.blk (.loop (E318_l1 f318_l1)))) .nil)))))
def F318(f327:T327)(f318_l0:T318_l0)(f318_l1:T318_l1):T318:=λ(x0,_)=>(f318_l0 (x0,0,x0,(↑x0.length:Int),0,())).bind λv=>(f327 (v.2.1,())).bind λv1=>(f318_l1 (v.1,(↑(List.length v.1):Int),0,v1.1,())).bind λv=>some (v.1,())
theorem h318(f327:T327)(f318_l0:T318_l0)(f318_l1:T318_l1):qp (K318 f327) 0 f318 (N318 f318_l0 f318_l1) q8u jh (F318 f327 f318_l0 f318_l1):=λv=>by kernel_rfl
def C318:T318:=F318 C327 C318_l0 C318_l1
theorem ok318:FO 318 (E318 C318) :=
 qo kok318 func318 (And.intro k318_l0 (And.intro k318_l1 trivial)) (h318 C327 C318_l0 C318_l1)
abbrev T298_c0:=Int×Bool×Bool×qb×qc×qd×Int×Int×Int×Bool×Bool×Unit->Option ((List (Int)×Unit)⊕(Bool×qb×qc×qd×Int×Int×Int×Bool×Bool×Unit))
def E298_c0(f:T298_c0):LEnt:=⟨q7z,q8c,f⟩
abbrev T298:=qb×qc×qd×Int×Bool×Unit->Option (List (Int)×Unit)
def E298(f:T298):FEnt:=⟨q7y,jh,f⟩
def K298(f226:T226)(f298:T298)(f316:T316)(f317:T317)(f318:T318):=lk [(226,E226 f226),(298,E298 f298),(316,E316 f316),(317,E317 f317),(318,E318 f318)]
theorem kok298(G:T298)(hG:FnOk prog 298 (E298 G)):KOk prog (K298 C226 G C316 C317 C318):=(kc ok226 (kc hG (kc ok316 (kc ok317 (kc ok318 kn)))))
def F298_c0(f226:T226)(f298:T298)(f316:T316)(f317:T317)(f318:T318):T298_c0:=λ(x0,x1,x2,x3,x4,x5,x6,x7,x8,x9,x10,_)=>bif x2 then some (Sum.inl ([x0],()))else bif x8==0 then(f298 (x3,x4,x5,x7,x1,())).bind λv=>some (Sum.inl (v.1,()))else some (Sum.inr (x1,x3,x4,x5,x6,x7,x8,x9,x10,()))
theorem h298_c0(f226:T226)(f298:T298)(f316:T316)(f317:T317)(f318:T318):jd (K298 f226 f298 f316 f317 f318) 0 (subc (code Tryz.f298) [1,1,0,0,1,1,1]) .nil q7z q8c (F298_c0 f226 f298 f316 f317 f318):=λv=>by kernel_rfl
def C298_c0(G:T298):T298_c0:=F298_c0 C226 G C316 C317 C318
theorem k298_c0(G:T298)(hG:FnOk prog 298 (E298 G)):ql 0 (subc (code f298) [1,1,0,0,1,1,1]) (E298_c0 (C298_c0 G)) :=
 frag_code (ins:=q7z) (os:=q8c) (n := .nil) (F:=(C298_c0 G)) hm hΓ (kok298 G hG) (ann_nil _) (h298_c0 C226 G C316 C317 C318)
def N298(f298_c0:T298_c0):Ann:=(.seq .nil (.seq .nil (.seq (.blk (.seq .nil (.cond .nil (.cut .nil (E298_c0 f298_c0))))) .nil)))
def F298(f226:T226)(f298:T298)(f316:T316)(f317:T317)(f318:T318)(f298_c0:T298_c0):T298:=λ(x0,x1,x2,x3,x4,_)=>(f226 (x0,x1,x2,x3,())).bind λv=>(f316 (x3,44032,11172,())).bind λv1=>bif v1.1 then(f317 (x3,())).bind λv=>some (v.1,())else bif !v.2.2.2.2.2.1 then(f298_c0 (x3,x4,true,x0,x1,x2,v.1,v.2.1,v.2.2.1,v.2.2.2.1,v.2.2.2.2.1,())).bind λv=>Sum.elim (λv=>some (v.1,())) (λv=>(f298 (v.2.1,v.2.2.1,v.2.2.2.1,v.2.2.2.2.2.1,v.1,())).bind λv2=>(f298 (v.2.1,v.2.2.1,v.2.2.2.1,v.2.2.2.2.2.2.1,v.1,())).bind λv=>(f318 ([v2.1,v.1],())).bind λv=>some (v.1,())) v else bif v.2.2.2.1 then(f298_c0 (x3,x4,!x4,x0,x1,x2,v.1,v.2.1,v.2.2.1,v.2.2.2.1,v.2.2.2.2.1,())).bind λv=>Sum.elim (λv=>some (v.1,())) (λv=>(f298 (v.2.1,v.2.2.1,v.2.2.2.1,v.2.2.2.2.2.1,v.1,())).bind λv2=>(f298 (v.2.1,v.2.2.1,v.2.2.2.1,v.2.2.2.2.2.2.1,v.1,())).bind λv=>(f318 ([v2.1,v.1],())).bind λv=>some (v.1,())) v else(f298_c0 (x3,x4,false,x0,x1,x2,v.1,v.2.1,v.2.2.1,v.2.2.2.1,v.2.2.2.2.1,())).bind λv=>Sum.elim (λv=>some (v.1,())) (λv=>(f298 (v.2.1,v.2.2.1,v.2.2.2.1,v.2.2.2.2.2.1,v.1,())).bind λv2=>(f298 (v.2.1,v.2.2.1,v.2.2.2.1,v.2.2.2.2.2.2.1,v.1,())).bind λv=>(f318 ([v2.1,v.1],())).bind λv=>some (v.1,())) v
theorem h298(f226:T226)(f298:T298)(f316:T316)(f317:T317)(f318:T318)(f298_c0:T298_c0):qp (K298 f226 f298 f316 f317 f318) 0 Tryz.f298 (N298 f298_c0) q7y jh (F298 f226 f298 f316 f317 f318 f298_c0):=λv=>by kernel_rfl
def C298:T298:=recN (λG=>F298 C226 G C316 C317 C318 (C298_c0 G)) big
theorem ok298:FO 298 (E298 C298) :=
 fn_rec (ins:=q7y) (os:=jh) (F:=λG=>F298 C226 G C316 C317 C318 (C298_c0 G)) (λG hG=>qo (kok298 G hG) func298 (And.intro (k298_c0 G hG) trivial) (h298 C226 G C316 C317 C318 (C298_c0 G))) big
abbrev T272_l0:=Bool×List (Int)×Int×Int×qb×qc×qd×List (Int)×Unit->Option (List (Int)×Unit)
def E272_l0(f:T272_l0):LEnt:=⟨q8y,q9s,f⟩
abbrev T272:=qb×qc×qd×List (Int)×Bool×Unit->Option (List (Int)×Unit)
def E272(f:T272):FEnt:=⟨q8x,jh,f⟩
def K272(f298:T298):=lk [(298,E298 f298)]
theorem kok272:KOk prog (K272 C298):=(kc ok298 kn)
def F272_l0(f298:T298):qn (Bool×List (Int)×Int×Int×qb×qc×qd×List (Int)×Unit) (List (Int)×Unit):=λ(x0,x1,x2,x3,x4,x5,x6,x7,_)=>bif decide (x3<x2)then bif decide (0<=x3)&&decide (x3<(↑x1.length:Int))then(f298 (x4,x5,x6,x1.getD x3.toNat 0,x0,())).bind λv=>bif decide (x7.length+List.length v.1<=140737488355328/4)then some (Sum.inl (x0,x1,x2,IntKind.i64.wrap (x3+1),x4,x5,x6,x7++v.1,()))else none else none else some (Sum.inr (x7,()))
def C272_l0:T272_l0:=loopN (F272_l0 C298) big
theorem k272_l0:qg 0 (subc (code f272) [1,1,0,1,0,0]) (E272_l0 C272_l0):=zg q8y q9s K272 F272_l0 C298 kok272
def N272(f272_l0:T272_l0):Ann:=(.seq .nil (.seq .nil (.seq (.seq .nil (.blk (.loop (E272_l0 f272_l0)))) .nil)))
def F272(f298:T298)(f272_l0:T272_l0):T272:=λ(x0,x1,x2,x3,x4,_)=>(f272_l0 (x4,x3,(↑x3.length:Int),0,x0,x1,x2,[],())).bind λv=>some (v.1,())
def C272:T272:=F272 C298 C272_l0
theorem ok272:FO 272 (E272 C272):=qx q8x jh K272 N272 F272 C298 C272_l0 kok272 func272 (And.intro k272_l0 trivial)
abbrev T299_c0:=Int×Int×Bool×qb×qc×qd×Unit->Option ((Int×Bool×Unit)⊕(Int×Int×qb×qc×qd×Unit))
def E299_c0(f:T299_c0):LEnt:=⟨q0e,q4s,f⟩
abbrev T299:=qb×qc×qd×Int×Int×Unit->Option (Int×Bool×Unit)
def E299(f:T299):FEnt:=⟨Li5,Lo6,f⟩
def K299(f316:T316)(f319:T319):=lk [(316,E316 f316),(319,E319 f319)]
theorem kok299:KOk prog (K299 C316 C319):=(kc ok316 (kc ok319 kn))
def F299_c0(f316:T316)(f319:T319):T299_c0:=λ(x0,x1,x2,x3,x4,x5,_)=>bif x2 then some (Sum.inl (IntKind.i32.wrap (44032+IntKind.i32.wrap (IntKind.i32.wrap (IntKind.i32.wrap (IntKind.i32.wrap (IntKind.i32.wrap (x0-4352)*21)+x1)-4449)*28)),true,()))else(f316 (x0,44032,11172,())).bind λv=>bif v.1 then bif(IntKind.i32.wrap (x0-44032)).tmod 28==0 then(f316 (x1,4520,27,())).bind λv=>bif v.1 then some (Sum.inl (IntKind.i32.wrap (IntKind.i32.wrap (x0+x1)-4519),true,()))else some (Sum.inr (x0,x1,x3,x4,x5,()))else some (Sum.inr (x0,x1,x3,x4,x5,()))else some (Sum.inr (x0,x1,x3,x4,x5,()))
def C299_c0:T299_c0:=F299_c0 C316 C319
theorem k299_c0:ql 0 (subc (code f299) [1,0,0,1]) (E299_c0 C299_c0):=zc2 q0e q4s K299 F299_c0 C316 C319 kok299
def N299(f299_c0:T299_c0):Ann:=(.seq .nil (.seq (.blk (.cut .nil (E299_c0 f299_c0))) .nil))
def F299(f316:T316)(f319:T319)(f299_c0:T299_c0):T299:=λ(x0,x1,x2,x3,x4,_)=>(f316 (x3,4352,19,())).bind λv=>bif v.1 then(f316 (x4,4449,21,())).bind λv=>(f299_c0 (x3,x4,v.1,x0,x1,x2,())).bind λv=>Sum.elim (λv=>some (v.1,v.2.1,())) (λv=>(f319 (v.2.2.1,v.2.2.2.1,v.2.2.2.2.1,v.1,v.2.1,())).bind λv=>some (v.1,v.2.1,())) v else(f299_c0 (x3,x4,false,x0,x1,x2,())).bind λv=>Sum.elim (λv=>some (v.1,v.2.1,())) (λv=>(f319 (v.2.2.1,v.2.2.2.1,v.2.2.2.2.1,v.1,v.2.1,())).bind λv=>some (v.1,v.2.1,())) v
def C299:T299:=F299 C316 C319 C299_c0
theorem ok299:FO 299 (E299 C299):=zf Li5 Lo6 K299 N299 F299 C316 C319 C299_c0 kok299 func299 (And.intro k299_c0 trivial)
abbrev T273_c0:=Int×Int×Int×Int×List (Int)×Int×Int×Bool×qb×qc×qd×List (Int)×Unit->Option ((Int×Int×List (Int)×Int×Int×qb×qc×qd×List (Int)×Unit)⊕(Int×Int×Int×Int×List (Int)×Int×Int×qb×qc×qd×List (Int)×Unit))
def E273_c0(f:T273_c0):LEnt:=⟨q0f,q4t,f⟩
abbrev T273_l0:=Int×Int×List (Int)×Int×Int×qb×qc×qd×List (Int)×Unit->Option (List (Int)×Unit)
def E273_l0(f:T273_l0):LEnt:=⟨q0g,q4u,f⟩
abbrev T273:=qb×qc×qd×List (Int)×Unit->Option (List (Int)×Unit)
def E273(f:T273):FEnt:=⟨zw,jh,f⟩
def K273(f295:T295)(f299:T299):=lk [(295,E295 f295),(299,E299 f299)]
theorem kok273:KOk prog (K273 C295 C299):=(kc ok295 (kc ok299 kn))
def F273_c0(f295:T295)(f299:T299):T273_c0:=λ(x0,x1,x2,x3,x4,x5,x6,x7,x8,x9,x10,x11,_)=>bif x7 then bif decide (0<=x0)&&decide (x0<(↑x11.length:Int))then(f299 (x8,x9,x10,x11.getD x0.toNat 0,x2,())).bind λv=>bif v.2.1 then bif decide (0<=x0)&&decide (x0<(↑x11.length:Int))then some (Sum.inl (x0,x1,x4,x5,x6,x8,x9,x10,x11.set x0.toNat v.1,()))else none else some (Sum.inr (x0,x1,x2,x3,x4,x5,x6,x8,x9,x10,x11,()))else none else some (Sum.inr (x0,x1,x2,x3,x4,x5,x6,x8,x9,x10,x11,()))
def C273_c0:T273_c0:=F273_c0 C295 C299
theorem k273_c0:ql 0 (subc (code f273) [1,1,1,0,1,0,0,1,1,0,0,1,1,0,1]) (E273_c0 C273_c0):=zc2 q0f q4t K273 F273_c0 C295 C299 kok273
def N273_l0(f273_c0:T273_c0):Ann:=(.seq .nil (.seq .nil (.seq (.blk (.seq .nil (.seq .nil (.seq (.cut .nil (E273_c0 f273_c0)) .nil)))) .nil)))
def F273_l0(f295:T295)(f299:T299)(f273_c0:T273_c0):qn (Int×Int×List (Int)×Int×Int×qb×qc×qd×List (Int)×Unit) (List (Int)×Unit):=λ(x0,x1,x2,x3,x4,x5,x6,x7,x8,_)=>bif decide (x4<x3)then bif decide (0<=x4)&&decide (x4<(↑x2.length:Int))then(f295 (x5,x6,x7,x2.getD x4.toNat 0,())).bind λv=>bif decide (x0>=0)then bif decide (x1<v.1)then(f273_c0 (x0,x1,x2.getD x4.toNat 0,v.1,x2,x3,x4,true,x5,x6,x7,x8,())).bind λv=>Sum.elim (λv=>some (Sum.inl (v.1,v.2.1,v.2.2.1,v.2.2.2.1,IntKind.i64.wrap (v.2.2.2.2.1+1),v.2.2.2.2.2.1,v.2.2.2.2.2.2.1,v.2.2.2.2.2.2.2.1,v.2.2.2.2.2.2.2.2.1,()))) (λv=>bif decide (List.length v.2.2.2.2.2.2.2.2.2.2.1+[v.2.2.1].length<=140737488355328/4)then bif v.2.2.2.1==0 then some (Sum.inl (IntKind.i64.wrap ((↑(v.2.2.2.2.2.2.2.2.2.2.1++[v.2.2.1]).length:Int)-1),0,v.2.2.2.2.1,v.2.2.2.2.2.1,IntKind.i64.wrap (v.2.2.2.2.2.2.1+1),v.2.2.2.2.2.2.2.1,v.2.2.2.2.2.2.2.2.1,v.2.2.2.2.2.2.2.2.2.1,v.2.2.2.2.2.2.2.2.2.2.1++[v.2.2.1],()))else some (Sum.inl (v.1,if v.2.2.2.1>v.2.1 then v.2.2.2.1 else v.2.1,v.2.2.2.2.1,v.2.2.2.2.2.1,IntKind.i64.wrap (v.2.2.2.2.2.2.1+1),v.2.2.2.2.2.2.2.1,v.2.2.2.2.2.2.2.2.1,v.2.2.2.2.2.2.2.2.2.1,v.2.2.2.2.2.2.2.2.2.2.1++[v.2.2.1],()))else none) v else(f273_c0 (x0,x1,x2.getD x4.toNat 0,v.1,x2,x3,x4,x0==IntKind.i64.wrap ((↑x8.length:Int)-1),x5,x6,x7,x8,())).bind λv=>Sum.elim (λv=>some (Sum.inl (v.1,v.2.1,v.2.2.1,v.2.2.2.1,IntKind.i64.wrap (v.2.2.2.2.1+1),v.2.2.2.2.2.1,v.2.2.2.2.2.2.1,v.2.2.2.2.2.2.2.1,v.2.2.2.2.2.2.2.2.1,()))) (λv=>bif decide (List.length v.2.2.2.2.2.2.2.2.2.2.1+[v.2.2.1].length<=140737488355328/4)then bif v.2.2.2.1==0 then some (Sum.inl (IntKind.i64.wrap ((↑(v.2.2.2.2.2.2.2.2.2.2.1++[v.2.2.1]).length:Int)-1),0,v.2.2.2.2.1,v.2.2.2.2.2.1,IntKind.i64.wrap (v.2.2.2.2.2.2.1+1),v.2.2.2.2.2.2.2.1,v.2.2.2.2.2.2.2.2.1,v.2.2.2.2.2.2.2.2.2.1,v.2.2.2.2.2.2.2.2.2.2.1++[v.2.2.1],()))else some (Sum.inl (v.1,if v.2.2.2.1>v.2.1 then v.2.2.2.1 else v.2.1,v.2.2.2.2.1,v.2.2.2.2.2.1,IntKind.i64.wrap (v.2.2.2.2.2.2.1+1),v.2.2.2.2.2.2.2.1,v.2.2.2.2.2.2.2.2.1,v.2.2.2.2.2.2.2.2.2.1,v.2.2.2.2.2.2.2.2.2.2.1++[v.2.2.1],()))else none) v else(f273_c0 (x0,x1,x2.getD x4.toNat 0,v.1,x2,x3,x4,false,x5,x6,x7,x8,())).bind λv=>Sum.elim (λv=>some (Sum.inl (v.1,v.2.1,v.2.2.1,v.2.2.2.1,IntKind.i64.wrap (v.2.2.2.2.1+1),v.2.2.2.2.2.1,v.2.2.2.2.2.2.1,v.2.2.2.2.2.2.2.1,v.2.2.2.2.2.2.2.2.1,()))) (λv=>bif decide (List.length v.2.2.2.2.2.2.2.2.2.2.1+[v.2.2.1].length<=140737488355328/4)then bif v.2.2.2.1==0 then some (Sum.inl (IntKind.i64.wrap ((↑(v.2.2.2.2.2.2.2.2.2.2.1++[v.2.2.1]).length:Int)-1),0,v.2.2.2.2.1,v.2.2.2.2.2.1,IntKind.i64.wrap (v.2.2.2.2.2.2.1+1),v.2.2.2.2.2.2.2.1,v.2.2.2.2.2.2.2.2.1,v.2.2.2.2.2.2.2.2.2.1,v.2.2.2.2.2.2.2.2.2.2.1++[v.2.2.1],()))else some (Sum.inl (v.1,if v.2.2.2.1>v.2.1 then v.2.2.2.1 else v.2.1,v.2.2.2.2.1,v.2.2.2.2.2.1,IntKind.i64.wrap (v.2.2.2.2.2.2.1+1),v.2.2.2.2.2.2.2.1,v.2.2.2.2.2.2.2.2.1,v.2.2.2.2.2.2.2.2.2.1,v.2.2.2.2.2.2.2.2.2.2.1++[v.2.2.1],()))else none) v else none else some (Sum.inr (x8,()))
theorem h273_l0(f295:T295)(f299:T299)(f273_c0:T273_c0):jv (K273 f295 f299) 0 (subc (code f273) [1,1,1,0,1,0,0]) (N273_l0 f273_c0) q0g q4u (F273_l0 f295 f299 f273_c0):=λv=>by kernel_rfl
def C273_l0:T273_l0:=loopN (F273_l0 C295 C299 C273_c0) big
theorem k273_l0:qg 0 (subc (code f273) [1,1,1,0,1,0,0]) (E273_l0 C273_l0) :=
 vy kok273 (And.intro k273_c0 trivial) (h273_l0 C295 C299 C273_c0)
def N273(f273_l0:T273_l0):Ann:=(.seq .nil (.seq .nil (.seq .nil (.seq (.seq .nil (.blk (.loop (E273_l0 f273_l0)))) .nil))))
def F273(f295:T295)(f299:T299)(f273_l0:T273_l0):T273:=λ(x0,x1,x2,x3,_)=>(f273_l0 (-1,0,x3,(↑x3.length:Int),0,x0,x1,x2,[],())).bind λv=>some (v.1,())
def C273:T273:=F273 C295 C299 C273_l0
theorem ok273:FO 273 (E273 C273):=zf zw jh K273 N273 F273 C295 C299 C273_l0 kok273 func273 (And.intro k273_l0 trivial)
abbrev T95_c0:=Int×Bool×Unit->Option ((Int×Int×Unit)⊕Unit)
def E95_c0(f:T95_c0):LEnt:=⟨q8h,kw,f⟩
abbrev T95_c1:=Int×Bool×Unit->Option ((Int×Int×Unit)⊕Unit)
def E95_c1(f:T95_c1):LEnt:=⟨q8i,kw,f⟩
abbrev T95:=Int×Unit->Option (Int×Int×Unit)
def E95(f:T95):FEnt:=⟨zj,q9l,f⟩
def F95_c0:T95_c0:=λ(x0,x1,_)=>bif x1 then some (Sum.inl (2,IntKind.i32.wrap (intBits BinOp.and IntKind.u8 x0 15),()))else bif decide (x0>=240)then bif decide (x0<245)then some (Sum.inl (3,IntKind.i32.wrap (intBits BinOp.and IntKind.u8 x0 7),()))else some (Sum.inr ())else some (Sum.inr ())
theorem h95_c0:jd qu 0 (subc (code f95) [1,0,0,1,1,1,1,1]) .nil q8h kw (F95_c0):=λv=>by kernel_rfl
def C95_c0:T95_c0:=F95_c0
theorem k95_c0:ql 0 (subc (code f95) [1,0,0,1,1,1,1,1]) (E95_c0 C95_c0) :=
 yc kn (h95_c0)
def N95_c1(f95_c0:T95_c0):Ann:=(.cond .nil (.cut .nil (E95_c0 f95_c0)))
def F95_c1(f95_c0:T95_c0):T95_c1:=λ(x0,x1,_)=>bif x1 then some (Sum.inl (1,IntKind.i32.wrap (intBits BinOp.and IntKind.u8 x0 31),()))else bif decide (x0>=224)then(f95_c0 (x0,decide (x0<240),())).bind λv=>Sum.elim (λv=>some (Sum.inl (v.1,v.2.1,()))) (λv=>some (Sum.inr ())) v else(f95_c0 (x0,false,())).bind λv=>Sum.elim (λv=>some (Sum.inl (v.1,v.2.1,()))) (λv=>some (Sum.inr ())) v
theorem h95_c1(f95_c0:T95_c0):jd qu 0 (subc (code f95) [1,0,0,1,1,1]) (N95_c1 f95_c0) q8i kw (F95_c1 f95_c0):=λv=>by kernel_rfl
def C95_c1:T95_c1:=F95_c1 C95_c0
theorem k95_c1:ql 0 (subc (code f95) [1,0,0,1,1,1]) (E95_c1 C95_c1) :=
 zc kn (And.intro k95_c0 trivial) (h95_c1 C95_c0)
def N95(f95_c1:T95_c1):Ann:=(.seq .nil (.seq (.blk (.seq .nil (.cond .nil (.cut .nil (E95_c1 f95_c1))))) .nil))
def F95(f95_c1:T95_c1):T95:=λ(x0,_)=>bif decide (x0<128)then some (0,IntKind.i32.wrap x0,())else bif decide (x0>=194)then(f95_c1 (x0,decide (x0<224),())).bind λv=>Sum.elim (λv=>some (v.1,v.2.1,())) (λv=>some (-1,0,())) v else(f95_c1 (x0,false,())).bind λv=>Sum.elim (λv=>some (v.1,v.2.1,())) (λv=>some (-1,0,())) v
def C95:T95:=F95 C95_c1
theorem ok95:FO 95 (E95 C95):=ji zj q9l qu N95 F95 C95_c1 kn func95 (And.intro k95_c1 trivial)
abbrev T65_l0:=qa×Int×Int×Int×Int×List (Int)×Unit->Option ((qa×Int×Int×Int×List (Int)×Unit)⊕(Int×List (Int)×Unit))
def E65_l0(f:T65_l0):LEnt:=⟨q8j,q9n,f⟩
abbrev T65_l1:=qa×Int×List (Int)×Unit->Option ((List (Int)×Unit)⊕(Int×List (Int)×Unit))
def E65_l1(f:T65_l1):LEnt:=⟨q8k,q9o,f⟩
abbrev T65_g0:=Int×List (Int)×Unit->Option (Int×List (Int)×Unit)
def E65_g0(f:T65_g0):LEnt:=⟨vh,kx,f⟩
abbrev T65:=qa×Unit->Option (List (Int)×Int×Unit)
def E65(f:T65):FEnt:=⟨qq,q9m,f⟩
def K65(f95:T95)(f96:T96):=lk [(95,E95 f95),(96,E96 f96)]
theorem kok65:KOk prog (K65 C95 C96):=(kc ok95 (kc ok96 kn))
def F65_l0(f95:T95)(f96:T96):qn (qa×Int×Int×Int×Int×List (Int)×Unit) ((qa×Int×Int×Int×List (Int)×Unit)⊕(Int×List (Int)×Unit)):=λ(x0,x1,x2,x3,x4,x5,_)=>bif decide (x4<=IntKind.i64.wrap (x3+x1))then bif decide (0<=x4)&&decide (x4<(↑x0.length:Int))then bif intBits BinOp.andNot IntKind.u8 (↑(x0.getD x4.toNat 0).toNat:Int) 63 != 128 then some (Sum.inr (Sum.inr (x3,x5,())))else bif decide (0<=x4)&&decide (x4<(↑x0.length:Int))then some (Sum.inl (x0,x1,intBits BinOp.or IntKind.i32 (IntKind.i32.wrap (x2*2^min 6 IntKind.i32.bits)) (IntKind.i32.wrap (intBits BinOp.and IntKind.u8 (↑(x0.getD x4.toNat 0).toNat:Int) 63)),x3,IntKind.i64.wrap (x4+1),x5,()))else none else none else some (Sum.inr (Sum.inl (x0,x1,x2,x3,x5,())))
def C65_l0:T65_l0:=loopN (F65_l0 C95 C96) big
theorem k65_l0:qg 0 (subc (code f65) [1,0,1,1,1,1,0,0,0,1,0,1,1,0,1,0,0]) (E65_l0 C65_l0):=kl q8j q9n K65 F65_l0 C95 C96 kok65
def N65_l1(f65_l0:T65_l0):Ann:=(.seq .nil (.blk (.seq .nil (.seq .nil (.seq (.seq .nil (.blk (.loop (E65_l0 f65_l0)))) .nil)))))
def F65_l1(f95:T95)(f96:T96)(f65_l0:T65_l0):qn (qa×Int×List (Int)×Unit) ((List (Int)×Unit)⊕(Int×List (Int)×Unit)):=λ(x0,x1,x2,_)=>bif decide (x1<(↑x0.length:Int))then bif decide (0<=x1)&&decide (x1<(↑x0.length:Int))then(f95 ((↑(x0.getD x1.toNat 0).toNat:Int),())).bind λv=>bif decide (v.1<0)then some (Sum.inr (Sum.inr (x1,x2,())))else bif decide (IntKind.i64.wrap ((↑x0.length:Int)-x1)<=v.1)then some (Sum.inr (Sum.inr (x1,x2,())))else(f65_l0 (x0,v.1,v.2.1,x1,IntKind.i64.wrap (x1+1),x2,())).bind λv=>Sum.elim (λv=>(f96 (v.2.2.1,())).bind λv1=>bif v1.1 != IntKind.i64.wrap (v.2.1+1)then some (Sum.inr (Sum.inr (v.2.2.2.1,v.2.2.2.2.1,())))else bif decide (List.length v.2.2.2.2.1+[v.2.2.1].length<=140737488355328/4)then some (Sum.inl (v.1,IntKind.i64.wrap (v.2.2.2.1+IntKind.i64.wrap (v.2.1+1)),v.2.2.2.2.1++[v.2.2.1],()))else none) (λv=>some (Sum.inr (Sum.inr (v.1,v.2.1,())))) v else none else some (Sum.inr (Sum.inl (x2,())))
theorem h65_l1(f95:T95)(f96:T96)(f65_l0:T65_l0):jv (K65 f95 f96) 0 (subc (code f65) [1,0,1,1,1,1,0,0,0]) (N65_l1 f65_l0) q8k q9o (F65_l1 f95 f96 f65_l0):=λv=>by kernel_rfl
def C65_l1:T65_l1:=loopN (F65_l1 C95 C96 C65_l0) big
theorem k65_l1:qg 0 (subc (code f65) [1,0,1,1,1,1,0,0,0]) (E65_l1 C65_l1) :=
 vy kok65 (And.intro k65_l0 trivial) (h65_l1 C95 C96 C65_l0)
def F65_g0(f95:T95)(f96:T96):qn (Int×List (Int)×Unit) (Int×List (Int)×Unit):=λ(x0,x1,_)=>some (Sum.inr (x0,x1,()))
theorem h65_g0(f95:T95)(f96:T96)(v:HS vh):aev Γ (K65 f95 f96) 0 ((findLabel (subc (code f65) [1,0]) 0).getD .skip) .nil (stof vh v) (aroundL 0 0 [] vh kx)=F65_g0 f95 f96 v:=by kernel_rfl
def C65_g0:T65_g0:=loopN (F65_g0 C95 C96) big
theorem k65_g0:FragOk prog 0 (ScopeFrom prog (subc (code f65) [1,0]) 0) (E65_g0 C65_g0) :=
 frag_big (ins:=vh) (os:=kx) (C:=C65_g0) (frag_label (ins:=vh) (os:=kx) (n := .nil) (ls:=[]) (F:=F65_g0 C95 C96) (rest:=((findLabel (subc (code f65) [1,0]) 0).getD .skip)) hm hΓ kok65 (λ_=>big) (by kernel_rfl) (ann_nil _) find_nil (h65_g0 C95 C96)) rfl
def N65(f65_g0:T65_g0)(f65_l1:T65_l1):Ann:=(.seq .nil (.scope (.seq .nil (.seq .nil (.seq .nil (.seq .nil (.seq (.blk (.loop (E65_l1 f65_l1))) .nil))))) [(0,(E65_g0 f65_g0))]))
def F65(f95:T95)(f96:T96)(f65_g0:T65_g0)(f65_l1:T65_l1):T65:=λ(x0,_)=>(f65_l1 (x0,0,[],())).bind λv=>Sum.elim (λv=>some (v.1,-1,())) (λv=>(f65_g0 (v.1,v.2.1,())).bind λv=>some (v.2.1,v.1,())) v
theorem h65(f95:T95)(f96:T96)(f65_g0:T65_g0)(f65_l1:T65_l1):qp (K65 f95 f96) 0 f65 (N65 f65_g0 f65_l1) qq q9m (F65 f95 f96 f65_g0 f65_l1):=λv=>by kernel_rfl
def C65:T65:=F65 C95 C96 C65_g0 C65_l1
theorem ok65:FO 65 (E65 C65) :=
 qo kok65 func65 (And.intro k65_l1 (And.intro k65_g0 trivial)) (h65 C95 C96 C65_g0 C65_l1)
abbrev T223:=qb×qc×qd×qa×Bool×Bool×Unit->Option (qa×Bool×Unit)
def E223(f:T223):FEnt:=⟨q0h,jq,f⟩
def K223(f180:T180)(f271:T271)(f272:T272)(f273:T273)(f65:T65):=lk [(180,E180 f180),(271,E271 f271),(272,E272 f272),(273,E273 f273),(65,E65 f65)]
def F223(f180:T180)(f271:T271)(f272:T272)(f273:T273)(f65:T65):T223:=λ(x0,x1,x2,x3,x4,x5,_)=>(f65 (x3,())).bind λv=>bif decide (v.2.1>=0)then some ([],false,())else(f272 (x0,x1,x2,v.1,x4,())).bind λv=>(f271 (x0,x1,x2,v.1,())).bind λv=>bif x5 then(f273 (x0,x1,x2,v.1,())).bind λv=>(f180 (v.1,())).bind λv=>some (v.1,v.2.1,())else(f180 (v.1,())).bind λv=>some (v.1,v.2.1,())
theorem h223(f180:T180)(f271:T271)(f272:T272)(f273:T273)(f65:T65):qp (K223 f180 f271 f272 f273 f65) 0 f223 .nil q0h jq (F223 f180 f271 f272 f273 f65):=λv=>by kernel_rfl
def C223:T223:=F223 C180 C271 C272 C273 C65
theorem ok223:FO 223 (E223 C223) :=
 q0 (kc ok180 (kc ok271 (kc ok272 (kc ok273 (kc ok65 kn))))) func223 (h223 C180 C271 C272 C273 C65)
abbrev T183:=qb×qc×qd×qa×Unit->Option (qa×Bool×Unit)
def E183(f:T183):FEnt:=⟨jg,jq,f⟩
def K183(f223:T223):=lk [(223,E223 f223)]
def F183(f223:T223):T183:=λ(x0,x1,x2,x3,_)=>(f223 (x0,x1,x2,x3,false,true,())).bind λv=>some (v.1,v.2.1,())
def C183:T183:=F183 C223
theorem ok183:FO 183 (E183 C183):=qz jg jq K183 F183 C223 (kc ok223 kn) func183
abbrev T151:=qb×qc×qd×qa×Unit->Option (qa×Bool×Unit)
def E151(f:T151):FEnt:=⟨jg,jq,f⟩
def K151(f180:T180)(f181:T181)(f182:T182)(f183:T183)(f65:T65):=lk [(180,E180 f180),(181,E181 f181),(182,E182 f182),(183,E183 f183),(65,E65 f65)]
def F151(f180:T180)(f181:T181)(f182:T182)(f183:T183)(f65:T65):T151:=λ(x0,x1,x2,x3,_)=>(f65 (x3,())).bind λv=>bif decide (v.2.1>=0)then some ([],false,())else(f182 (x0,x1,x2,v.1,())).bind λv=>(f181 (x0,x1,x2,v.1,())).bind λv=>(f180 (v.1,())).bind λv=>(f183 (x0,x1,x2,v.1,())).bind λv=>some (v.1,v.2.1,())
theorem h151(f180:T180)(f181:T181)(f182:T182)(f183:T183)(f65:T65):qp (K151 f180 f181 f182 f183 f65) 0 f151 .nil jg jq (F151 f180 f181 f182 f183 f65):=λv=>by kernel_rfl
def C151:T151:=F151 C180 C181 C182 C183 C65
theorem ok151:FO 151 (E151 C151) :=
 q0 (kc ok180 (kc ok181 (kc ok182 (kc ok183 (kc ok65 kn))))) func151 (h151 C180 C181 C182 C183 C65)
abbrev T239_l0:=Int×Int×List (Int)×Int×Int×Unit->Option (Int×Unit)
def E239_l0(f:T239_l0):LEnt:=⟨q0k,q4w,f⟩
abbrev T239:=List (Int)×Int×Unit->Option (Int×Unit)
def E239(f:T239):FEnt:=⟨q0j,ya,f⟩
def F239_l0:qn (Int×Int×List (Int)×Int×Int×Unit) (Int×Unit):=λ(x0,x1,x2,x3,x4,_)=>bif decide (x4<x3)then bif decide (0<=x4)&&decide (x4<(↑x2.length:Int))then bif decide (x2.getD x4.toNat 0>=x0)then bif decide (x1<0)then some (Sum.inl (x0,x2.getD (x4.toNat) 0,x2,x3,IntKind.i64.wrap (x4+1),()))else bif decide (x2.getD x4.toNat 0<x1)then some (Sum.inl (x0,x2.getD (x4.toNat) 0,x2,x3,IntKind.i64.wrap (x4+1),()))else some (Sum.inl (x0,x1,x2,x3,IntKind.i64.wrap (x4+1),()))else some (Sum.inl (x0,x1,x2,x3,IntKind.i64.wrap (x4+1),()))else none else some (Sum.inr (x1,()))
def C239_l0:T239_l0:=loopN (F239_l0) big
theorem k239_l0:qg 0 (subc (code f239) [1,1,0,1,0,0]) (E239_l0 C239_l0):=zl0 q0k q4w qu F239_l0 kn
def N239(f239_l0:T239_l0):Ann:=(.seq .nil (.seq .nil (.seq (.seq .nil (.blk (.loop (E239_l0 f239_l0)))) .nil)))
def F239(f239_l0:T239_l0):T239:=λ(x0,x1,_)=>(f239_l0 (x1,-1,x0,(↑x0.length:Int),0,())).bind λv=>some (v.1,())
def C239:T239:=F239 C239_l0
theorem ok239:FO 239 (E239 C239):=ji q0j ya qu N239 F239 C239_l0 kn func239 (And.intro k239_l0 trivial)
abbrev T287:=Int×Int×Unit->Option (Int×Unit)
def E287(f:T287):FEnt:=⟨q0l,qf,f⟩
def F287:T287:=λ(x0,x1,_)=>some (if(if 26<IntKind.i64.wrap (x0-x1)then 26 else IntKind.i64.wrap (x0-x1))>1 then if 26<IntKind.i64.wrap (x0-x1)then 26 else IntKind.i64.wrap (x0-x1)else 1,())
def C287:T287:=F287
theorem ok287:FO 287 (E287 C287):=zd q0l qf qu F287 kn func287
abbrev T288_c0:=Int×Bool×Unit->Option ((Int×Bool×Unit)⊕Unit)
def E288_c0(f:T288_c0):LEnt:=⟨q0m,q4y,f⟩
abbrev T288:=Int×Unit->Option (Int×Bool×Unit)
def E288(f:T288):FEnt:=⟨za,q4x,f⟩
def F288_c0:T288_c0:=λ(x0,x1,_)=>bif x1 then some (Sum.inl (IntKind.u8.wrap (97+IntKind.u8.wrap x0),true,()))else bif decide (x0>=26)then bif decide (x0<36)then some (Sum.inl (IntKind.u8.wrap (48+IntKind.u8.wrap (IntKind.i64.wrap (x0-26))),true,()))else some (Sum.inr ())else some (Sum.inr ())
theorem h288_c0:jd qu 0 (subc (code f288) [1,0,0,1]) .nil q0m q4y (F288_c0):=λv=>by kernel_rfl
def C288_c0:T288_c0:=F288_c0
theorem k288_c0:ql 0 (subc (code f288) [1,0,0,1]) (E288_c0 C288_c0) :=
 yc kn (h288_c0)
def N288(f288_c0:T288_c0):Ann:=(.seq .nil (.seq (.blk (.cut .nil (E288_c0 f288_c0))) .nil))
def F288(f288_c0:T288_c0):T288:=λ(x0,_)=>bif decide (x0>=0)then(f288_c0 (x0,decide (x0<26),())).bind λv=>Sum.elim (λv=>some (v.1,v.2.1,())) (λv=>some (0,false,())) v else(f288_c0 (x0,false,())).bind λv=>Sum.elim (λv=>some (v.1,v.2.1,())) (λv=>some (0,false,())) v
def C288:T288:=F288 C288_c0
theorem ok288:FO 288 (E288 C288):=ji za q4x qu N288 F288 C288_c0 kn func288 (And.intro k288_c0 trivial)
abbrev T240_l0:=Int×Int×Int×qa×Unit->Option (qa×Unit)
def E240_l0(f:T240_l0):LEnt:=⟨yk,xf,f⟩
abbrev T240:=Int×Int×qa×Unit->Option (qa×Unit)
def E240(f:T240):FEnt:=⟨q0n,q4z,f⟩
def K240(f287:T287)(f288:T288):=lk [(287,E287 f287),(288,E288 f288)]
theorem kok240:KOk prog (K240 C287 C288):=(kc ok287 (kc ok288 kn))
def F240_l0(f287:T287)(f288:T288):qn (Int×Int×Int×qa×Unit) (qa×Unit):=λ(x0,x1,x2,x3,_)=>(f287 (x2,x1,())).bind λv=>bif decide (x0<v.1)then(f288 (x0,())).bind λv=>bif decide (x3.length+[UInt8.ofNat (Int.toNat v.1)].length<=140737488355328/1)then some (Sum.inr (x3++[UInt8.ofNat (Int.toNat v.1)],()))else none else bif IntKind.i64.wrap (36-v.1) != 0 then(f288 (IntKind.i64.wrap (v.1+(IntKind.i64.wrap (x0-v.1)).tmod (IntKind.i64.wrap (36-v.1))),())).bind λv1=>bif decide (x3.length+[UInt8.ofNat (Int.toNat v1.1)].length<=140737488355328/1)then bif IntKind.i64.wrap (36-v.1) != 0 then some (Sum.inl (IntKind.i64.wrap ((IntKind.i64.wrap (x0-v.1)).tdiv (IntKind.i64.wrap (36-v.1))),x1,IntKind.i64.wrap (x2+36),x3++[UInt8.ofNat (Int.toNat v1.1)],()))else none else none else none
theorem h240_l0(f287:T287)(f288:T288):jv (K240 f287 f288) 1 (subc (code f240) [1,1,0,0]) .nil yk xf (F240_l0 f287 f288):=λv=>by kernel_rfl
def C240_l0:T240_l0:=loopN (F240_l0 C287 C288) big
theorem k240_l0:FragOk prog 1 (InLoop prog (subc (code f240) [1,1,0,0])) (E240_l0 C240_l0) :=
 frag_big (ins:=yk) (os:=xf) (C:=C240_l0) (frag_inLoop (ins:=yk) (os:=xf) (n := .nil) (F:=F240_l0 C287 C288) hm hΓ kok240 (λ_=>big) (ann_nil _) (h240_l0 C287 C288)) rfl
def N240(f240_l0:T240_l0):Ann:=(.seq .nil (.seq .nil (.blk (.peel .nil (E240_l0 f240_l0)))))
def F240(f287:T287)(f288:T288)(f240_l0:T240_l0):T240:=λ(x0,x1,x2,_)=>(f287 (36,x1,())).bind λv=>bif decide (x0<v.1)then(f288 (x0,())).bind λv=>bif decide (x2.length+[UInt8.ofNat (Int.toNat v.1)].length<=140737488355328/1)then some (x2++[UInt8.ofNat (Int.toNat v.1)],())else none else bif IntKind.i64.wrap (36-v.1) != 0 then(f288 (IntKind.i64.wrap (v.1+(IntKind.i64.wrap (x0-v.1)).tmod (IntKind.i64.wrap (36-v.1))),())).bind λv1=>bif decide (x2.length+[UInt8.ofNat (Int.toNat v1.1)].length<=140737488355328/1)then bif IntKind.i64.wrap (36-v.1) != 0 then(f240_l0 (IntKind.i64.wrap ((IntKind.i64.wrap (x0-v.1)).tdiv (IntKind.i64.wrap (36-v.1))),x1,IntKind.i64.wrap (36+36),x2++[UInt8.ofNat (Int.toNat v1.1)],())).bind λv=>some (v.1,())else none else none else none
theorem h240(f287:T287)(f288:T288)(f240_l0:T240_l0):qp (K240 f287 f288) 1 f240 (N240 f240_l0) q0n q4z (F240 f287 f288 f240_l0):=λv=>by kernel_rfl
def C240:T240:=F240 C287 C288 C240_l0
theorem ok240:FO 240 (E240 C240) :=
 qo kok240 func240 (And.intro k240_l0 trivial) (h240 C287 C288 C240_l0)
abbrev T241_l0:=Int×Int×Unit->Option (Int×Int×Unit)
def E241_l0(f:T241_l0):LEnt:=⟨q0p,q5a,f⟩
abbrev T241_c0:=Int×Int×Unit->Option (Int×Unit)
def E241_c0(f:T241_c0):LEnt:=⟨q0q,q5b,f⟩
abbrev T241:=Int×Int×Bool×Unit->Option (Int×Unit)
def E241(f:T241):FEnt:=⟨q0o,qf,f⟩
def F241_l0:qn (Int×Int×Unit) (Int×Int×Unit):=λ(x0,x1,_)=>bif decide (x0>455)then some (Sum.inl (IntKind.i64.wrap (x0.tdiv 35),IntKind.i64.wrap (x1+36),()))else some (Sum.inr (x0,x1,()))
def C241_l0:T241_l0:=loopN (F241_l0) big
theorem k241_l0:qg 0 (subc (code f241) [1,1,1,1,0,0,0]) (E241_l0 C241_l0):=zl0 q0p q5a qu F241_l0 kn
def N241_c0(f241_l0:T241_l0):Ann:=(.seq .nil (.seq .nil (.seq (.blk (.loop (E241_l0 f241_l0))) .nil)))
def F241_c0(f241_l0:T241_l0):T241_c0:=λ(x0,x1,_)=>bif(if x1>1 then x1 else 1) != 0 then(f241_l0 (IntKind.i64.wrap (x0+IntKind.i64.wrap (x0.tdiv (if x1>1 then x1 else 1))),0,())).bind λv=>bif IntKind.i64.wrap (v.1+38) != 0 then some (IntKind.i64.wrap (v.2.1+IntKind.i64.wrap ((IntKind.i64.wrap (36*v.1)).tdiv (IntKind.i64.wrap (v.1+38)))),())else none else none
theorem h241_c0(f241_l0:T241_l0):jd qu 0 (subc (code f241) [1,1]) (N241_c0 f241_l0) q0q q5b (F241_c0 f241_l0):=λv=>by kernel_rfl
def C241_c0:T241_c0:=F241_c0 C241_l0
theorem k241_c0:ql 0 (subc (code f241) [1,1]) (E241_c0 C241_c0) :=
 zc kn (And.intro k241_l0 trivial) (h241_c0 C241_l0)
def N241(f241_c0:T241_c0):Ann:=(.seq .nil (.cut .nil (E241_c0 f241_c0)))
def F241(f241_c0:T241_c0):T241:=λ(x0,x1,x2,_)=>bif x2 then(f241_c0 (IntKind.i64.wrap (x0.tdiv 700),x1,())).bind λv=>some (v.1,())else(f241_c0 (IntKind.i64.wrap (x0.tdiv 2),x1,())).bind λv=>some (v.1,())
def C241:T241:=F241 C241_c0
theorem ok241:FO 241 (E241 C241):=ji q0o qf qu N241 F241 C241_c0 kn func241 (And.intro k241_c0 trivial)
abbrev T206_l0:=List (Int)×List (Int)×Int×Int×qa×Unit->Option ((List (Int)×qa×Unit)⊕(qa×Bool×Unit))
def E206_l0(f:T206_l0):LEnt:=⟨q0r,q5c,f⟩
abbrev T206_l1:=List (Int)×Int×Int×Int×Int×Int×List (Int)×Int×Int×qa×Unit->Option (List (Int)×Int×Int×Int×Int×Int×qa×Unit)
def E206_l1(f:T206_l1):LEnt:=⟨q0s,q5d,f⟩
abbrev T206_l2:=List (Int)×Int×Int×Int×Int×Int×qa×Unit->Option ((qa×Unit)⊕(qa×Bool×Unit))
def E206_l2(f:T206_l2):LEnt:=⟨q0t,q5e,f⟩
abbrev T206_c0:=List (Int)×Int×qa×Unit->Option (qa×Bool×Unit)
def E206_c0(f:T206_c0):LEnt:=⟨q0u,q5f,f⟩
abbrev T206:=List (Int)×Unit->Option (qa×Bool×Unit)
def E206(f:T206):FEnt:=⟨Li4,jq,f⟩
def K206(f125:T125)(f239:T239)(f240:T240)(f241:T241):=lk [(125,E125 f125),(239,E239 f239),(240,E240 f240),(241,E241 f241)]
theorem kok206:KOk prog (K206 C125 C239 C240 C241):=(kc ok125 (kc ok239 (kc ok240 (kc ok241 kn))))
def F206_l0(f125:T125)(f239:T239)(f240:T240)(f241:T241):qn (List (Int)×List (Int)×Int×Int×qa×Unit) ((List (Int)×qa×Unit)⊕(qa×Bool×Unit)):=λ(x0,x1,x2,x3,x4,_)=>bif decide (x3<x2)then bif decide (0<=x3)&&decide (x3<(↑x1.length:Int))then(f125 (x1.getD x3.toNat 0,())).bind λv=>bif !v.1 then some (Sum.inr (Sum.inr ([],false,())))else bif decide (x1.getD x3.toNat 0<128)then bif decide (x4.length+[UInt8.ofNat (IntKind.u8.wrap (x1.getD x3.toNat 0)).toNat].length<=140737488355328/1)then some (Sum.inl (x0,x1,x2,IntKind.i64.wrap (x3+1),x4++[UInt8.ofNat (IntKind.u8.wrap (x1.getD x3.toNat 0)).toNat],()))else none else some (Sum.inl (x0,x1,x2,IntKind.i64.wrap (x3+1),x4,()))else none else some (Sum.inr (Sum.inl (x0,x4,())))
def C206_l0:T206_l0:=loopN (F206_l0 C125 C239 C240 C241) big
theorem k206_l0:qg 0 (subc (code f206) [1,1,0,1,0,0]) (E206_l0 C206_l0):=zl4 q0r q5c K206 F206_l0 C125 C239 C240 C241 kok206
def F206_l1(f125:T125)(f239:T239)(f240:T240)(f241:T241):qn (List (Int)×Int×Int×Int×Int×Int×List (Int)×Int×Int×qa×Unit) (List (Int)×Int×Int×Int×Int×Int×qa×Unit):=λ(x0,x1,x2,x3,x4,x5,x6,x7,x8,x9,_)=>bif decide (x8<x7)then bif decide (0<=x8)&&decide (x8<(↑x6.length:Int))then bif decide (x6.getD x8.toNat 0<x2)then some (Sum.inl (x0,x1,x2,IntKind.i64.wrap (x3+1),x4,x5,x6,x7,IntKind.i64.wrap (x8+1),x9,()))else bif x6.getD x8.toNat 0==x2 then(f240 (x3,x4,x9,())).bind λv=>(f241 (x3,IntKind.i64.wrap (x5+1),x5==x1,())).bind λv1=>some (Sum.inl (x0,x1,x2,0,v1.1,IntKind.i64.wrap (x5+1),x6,x7,IntKind.i64.wrap (x8+1),v.1,()))else some (Sum.inl (x0,x1,x2,x3,x4,x5,x6,x7,IntKind.i64.wrap (x8+1),x9,()))else none else some (Sum.inr (x0,x1,x2,x3,x4,x5,x9,()))
def C206_l1:T206_l1:=loopN (F206_l1 C125 C239 C240 C241) big
theorem k206_l1:qg 0 (subc (code f206) [1,1,1,1,1,1,0,1,0,0,1,0,1,1,1,1,0,1,0,0]) (E206_l1 C206_l1):=zl4 q0s q5d K206 F206_l1 C125 C239 C240 C241 kok206
def N206_l2(f206_l1:T206_l1):Ann:=(.seq .nil (.blk (.seq .nil (.seq .nil (.seq .nil (.seq .nil (.seq (.seq .nil (.blk (.loop (E206_l1 f206_l1)))) .nil)))))))
def F206_l2(f125:T125)(f239:T239)(f240:T240)(f241:T241)(f206_l1:T206_l1):qn (List (Int)×Int×Int×Int×Int×Int×qa×Unit) ((qa×Unit)⊕(qa×Bool×Unit)):=λ(x0,x1,x2,x3,x4,x5,x6,_)=>bif decide (x5<(↑x0.length:Int))then(f239 (x0,x2,())).bind λv=>bif decide (IntKind.i64.wrap (x3+IntKind.i64.wrap (IntKind.i64.wrap (IntKind.i32.wrap (v.1-x2))*IntKind.i64.wrap (x5+1)))>2147483647)then some (Sum.inr (Sum.inr ([],false,())))else(f206_l1 (x0,x1,v.1,IntKind.i64.wrap (x3+IntKind.i64.wrap (IntKind.i64.wrap (IntKind.i32.wrap (v.1-x2))*IntKind.i64.wrap (x5+1))),x4,x5,x0,(↑x0.length:Int),0,x6,())).bind λv=>some (Sum.inl (v.1,v.2.1,IntKind.i32.wrap (v.2.2.1+1),IntKind.i64.wrap (v.2.2.2.1+1),v.2.2.2.2.1,v.2.2.2.2.2.1,v.2.2.2.2.2.2.1,()))else some (Sum.inr (Sum.inl (x6,())))
theorem h206_l2(f125:T125)(f239:T239)(f240:T240)(f241:T241)(f206_l1:T206_l1):jv (K206 f125 f239 f240 f241) 0 (subc (code f206) [1,1,1,1,1,1,0,1,0,0]) (N206_l2 f206_l1) q0t q5e (F206_l2 f125 f239 f240 f241 f206_l1):=λv=>by kernel_rfl
def C206_l2:T206_l2:=loopN (F206_l2 C125 C239 C240 C241 C206_l1) big
theorem k206_l2:qg 0 (subc (code f206) [1,1,1,1,1,1,0,1,0,0]) (E206_l2 C206_l2) :=
 vy kok206 (And.intro k206_l1 trivial) (h206_l2 C125 C239 C240 C241 C206_l1)
def N206_c0(f206_l2:T206_l2):Ann:=(.seq .nil (.seq (.seq .nil (.blk (.loop (E206_l2 f206_l2)))) .nil))
def F206_c0(f125:T125)(f239:T239)(f240:T240)(f241:T241)(f206_l2:T206_l2):T206_c0:=λ(x0,x1,x2,_)=>(f206_l2 (x0,x1,128,0,72,x1,x2,())).bind λv=>Sum.elim (λv=>some (v.1,true,())) (λv=>some (v.1,v.2.1,())) v
theorem h206_c0(f125:T125)(f239:T239)(f240:T240)(f241:T241)(f206_l2:T206_l2):jd (K206 f125 f239 f240 f241) 0 (subc (code f206) [1,1,1,1,1]) (N206_c0 f206_l2) q0u q5f (F206_c0 f125 f239 f240 f241 f206_l2):=λv=>by kernel_rfl
def C206_c0:T206_c0:=F206_c0 C125 C239 C240 C241 C206_l2
theorem k206_c0:ql 0 (subc (code f206) [1,1,1,1,1]) (E206_c0 C206_c0) :=
 zc kok206 (And.intro k206_l2 trivial) (h206_c0 C125 C239 C240 C241 C206_l2)
def N206(f206_c0:T206_c0)(f206_l0:T206_l0):Ann:=(.seq .nil (.seq .nil (.seq (.seq .nil (.blk (.loop (E206_l0 f206_l0)))) (.seq .nil (.cut .nil (E206_c0 f206_c0))))))
def F206(f125:T125)(f239:T239)(f240:T240)(f241:T241)(f206_c0:T206_c0)(f206_l0:T206_l0):T206:=λ(x0,_)=>(f206_l0 (x0,x0,(↑x0.length:Int),0,[],())).bind λv=>Sum.elim (λv=>bif decide ((↑(List.length v.2.1):Int)>0)then bif decide (List.length v.2.1+[45].length<=140737488355328/1)then(f206_c0 (v.1,(↑(List.length v.2.1):Int),v.2.1++[45],())).bind λv=>some (v.1,v.2.1,())else none else(f206_c0 (v.1,(↑(List.length v.2.1):Int),v.2.1,())).bind λv=>some (v.1,v.2.1,())) (λv=>some (v.1,v.2.1,())) v
theorem h206(f125:T125)(f239:T239)(f240:T240)(f241:T241)(f206_c0:T206_c0)(f206_l0:T206_l0):qp (K206 f125 f239 f240 f241) 0 f206 (N206 f206_c0 f206_l0) Li4 jq (F206 f125 f239 f240 f241 f206_c0 f206_l0):=λv=>by kernel_rfl
def C206:T206:=F206 C125 C239 C240 C241 C206_c0 C206_l0
theorem ok206:FO 206 (E206 C206) :=
 qo kok206 func206 (And.intro k206_l0 (And.intro k206_c0 trivial)) (h206 C125 C239 C240 C241 C206_c0 C206_l0)
abbrev T243:=Int×Unit->Option (Bool×Int×Unit)
def E243(f:T243):FEnt:=⟨q0v,q5g,f⟩
def F243:T243:=λ(x0,_)=>some (decide (x0>=0),x0,())
theorem h243:qp qu 1 f243 .nil q0v q5g (F243):=λv=>by kernel_rfl
def C243:T243:=F243
theorem ok243:FO 243 (E243 C243) :=
 q0 kn func243 (h243)
abbrev T22_l0:=qa×Int×Int×Unit->Option (Unit⊕(Int×Unit))
def E22_l0(f:T22_l0):LEnt:=⟨q0i,q4v,f⟩
abbrev T22:=qa×Unit->Option (Int×Unit)
def E22(f:T22):FEnt:=⟨qq,qf,f⟩
def F22_l0:qn (qa×Int×Int×Unit) (Unit⊕(Int×Unit)):=λ(x0,x1,x2,_)=>bif decide (x2<x1)then bif decide (0<=x2)&&decide (x2<(↑x0.length:Int))then bif decide ((↑(x0.getD x2.toNat 0).toNat:Int)>=128)then some (Sum.inr (Sum.inr (x2,())))else some (Sum.inl (x0,x1,IntKind.i64.wrap (x2+1),()))else none else some (Sum.inr (Sum.inl ()))
def C22_l0:T22_l0:=loopN (F22_l0) big
theorem k22_l0:qg 0 (subc (code f22) [1,0,1,0,0]) (E22_l0 C22_l0):=zl0 q0i q4v qu F22_l0 kn
def N22(f22_l0:T22_l0):Ann:=(.seq .nil (.seq (.seq .nil (.blk (.loop (E22_l0 f22_l0)))) .nil))
def F22(f22_l0:T22_l0):T22:=λ(x0,_)=>(f22_l0 (x0,(↑x0.length:Int),0,())).bind λv=>Sum.elim (λv=>some (-1,())) (λv=>some (v.1,())) v
def C22:T22:=F22 C22_l0
theorem ok22:FO 22 (E22 C22):=ji qq qf qu N22 F22 C22_l0 kn func22 (And.intro k22_l0 trivial)
abbrev T245:=qb×qc×qd×qa×Unit->Option (Bool×Unit)
def E245(f:T245):FEnt:=⟨jg,qe,f⟩
def K245(f183:T183):=lk [(183,E183 f183)]
def F245(f183:T183):T245:=λ(x0,x1,x2,x3,_)=>(f183 (x0,x1,x2,x3,())).bind λv=>bif v.2.1 then some (v.1==x3,())else some (false,())
def C245:T245:=F245 C183
theorem ok245:FO 245 (E245 C245):=qz jg qe K245 F245 C183 (kc ok183 kn) func245
abbrev T244:=qa×qb×qc×qd×Unit->Option (Bool×qa×qb×qc×qd×Unit)
def E244(f:T244):FEnt:=⟨q0w,q5h,f⟩
def K244(f22:T22)(f245:T245):=lk [(22,E22 f22),(245,E245 f245)]
def F244(f22:T22)(f245:T245):T244:=λ(x0,x1,x2,x3,_)=>(f22 (x0,())).bind λv=>bif decide (v.1<0)then some (true,x0,x1,x2,x3,())else(f245 (x1,x2,x3,x0,())).bind λv=>some (bif v.1 then false else true,x0,x1,x2,x3,())
theorem h244(f22:T22)(f245:T245):qp (K244 f22 f245) 2 f244 .nil q0w q5h (F244 f22 f245):=λv=>by kernel_rfl
def C244:T244:=F244 C22 C245
theorem ok244:FO 244 (E244 C244) :=
 q0 (kc ok22 (kc ok245 kn)) func244 (h244 C22 C245)
abbrev T311:=qa×qa×Unit->Option (Bool×Unit)
def E311(f:T311):FEnt:=⟨jb,qe,f⟩
def F311:T311:=λ(x0,x1,_)=>bif decide ((↑x0.length:Int)>=(↑x1.length:Int))then bif decide (0<=IntKind.i64.wrap ((↑x0.length:Int)-(↑x1.length:Int)))&&decide (IntKind.i64.wrap ((↑x0.length:Int)-(↑x1.length:Int))<=(↑x0.length:Int))then some (List.drop (IntKind.i64.wrap ((↑x0.length:Int)-(↑x1.length:Int))).toNat x0==x1,())else none else some (false,())
def C311:T311:=F311
theorem ok311:FO 311 (E311 C311):=zd jb qe qu F311 kn func311
abbrev T289:=qa×qa×Unit->Option (Bool×Unit)
def E289(f:T289):FEnt:=⟨jb,qe,f⟩
def K289(f311:T311):=lk [(311,E311 f311)]
def F289(f311:T311):T289:=λ(x0,x1,_)=>(f311 (x0,x1,())).bind λv=>some (v.1,())
def C289:T289:=F289 C311
theorem ok289:FO 289 (E289 C289):=qz jb qe K289 F289 C311 (kc ok311 kn) func289
abbrev T76:=qa×qa×Unit->Option (Bool×Unit)
def E76(f:T76):FEnt:=⟨jb,qe,f⟩
def K76(f112:T112):=lk [(112,E112 f112)]
def F76(f112:T112):T76:=λ(x0,x1,_)=>(f112 (x0,x1,())).bind λv=>some (v.1,())
def C76:T76:=F76 C112
theorem ok76:FO 76 (E76 C76):=qz jb qe K76 F76 C112 (kc ok112 kn) func76
abbrev T247:=qa×Unit->Option (Bool×Unit)
def E247(f:T247):FEnt:=⟨qq,qe,f⟩
def K247(f289:T289)(f76:T76):=lk [(289,E289 f289),(76,E76 f76)]
def F247(f289:T289)(f76:T76):T247:=λ(x0,_)=>(f76 (x0,[45],())).bind λv=>bif v.1 then some (true,())else(f289 (x0,[45],())).bind λv=>bif v.1 then some (true,())else bif decide ((↑x0.length:Int)>3)then bif decide (4<=(↑x0.length:Int))then some (List.drop 2 (List.take 4 x0)==[45,45],())else none else some (false,())
def C247:T247:=F247 C289 C76
theorem ok247:FO 247 (E247 C247):=vg qq qe K247 F247 C289 C76 (kc ok289 (kc ok76 kn)) func247
abbrev T246:=qa×Unit->Option (Bool×qa×Unit)
def E246(f:T246):FEnt:=⟨jk,jl,f⟩
def K246(f247:T247):=lk [(247,E247 f247)]
def F246(f247:T247):T246:=λ(x0,_)=>(f247 (x0,())).bind λv=>some (v.1,x0,())
theorem h246(f247:T247):qp (K246 f247) 1 f246 .nil jk jl (F246 f247):=λv=>by kernel_rfl
def C246:T246:=F246 C247
theorem ok246:FO 246 (E246 C246) :=
 q0 (kc ok247 kn) func246 (h246 C247)
abbrev T225:=qb×qc×qd×Int×Unit->Option (Int×Unit)
def E225(f:T225):FEnt:=⟨zv,qf,f⟩
def K225(f280:T280):=lk [(280,E280 f280)]
def F225(f280:T280):T225:=λ(x0,x1,x2,x3,_)=>(f280 (x0,x1,x2,x3,())).bind λv=>some (v.2.2.1,())
def C225:T225:=F225 C280
theorem ok225:FO 225 (E225 C225):=qz zv qf K225 F225 C280 (kc ok280 kn) func225
abbrev T248:=qb×qc×qd×List (Int)×Unit->Option (Bool×qb×qc×qd×List (Int)×Unit)
def E248(f:T248):FEnt:=⟨zl,zo,f⟩
def K248(f225:T225):=lk [(225,E225 f225)]
def F248(f225:T225):T248:=λ(x0,x1,x2,x3,_)=>bif decide (0<(↑x3.length:Int))then(f225 (x0,x1,x2,x3.getD 0 0,())).bind λv=>some (v.1==4,x0,x1,x2,x3,())else none
theorem h248(f225:T225):qp (K248 f225) 2 f248 .nil zl zo (F248 f225):=λv=>by kernel_rfl
def C248:T248:=F248 C225
theorem ok248:FO 248 (E248 C248) :=
 q0 (kc ok225 kn) func248 (h248 C225)
abbrev T274:=Int×Unit->Option (Bool×Unit)
def E274(f:T274):FEnt:=⟨jo,qe,f⟩
def F274:T274:=λ(x0,_)=>bif decide (x0>=1632)then some (decide (x0<=1641),())else some (false,())
def C274:T274:=F274
theorem ok274:FO 274 (E274 C274):=zd jo qe qu F274 kn func274
abbrev T277:=Int×Unit->Option (Bool×Unit)
def E277(f:T277):FEnt:=⟨jo,qe,f⟩
def F277:T277:=λ(x0,_)=>bif decide (x0>=1776)then some (decide (x0<=1785),())else some (false,())
def C277:T277:=F277
theorem ok277:FO 277 (E277 C277):=zd jo qe qu F277 kn func277
abbrev T224:=Int×Unit->Option (Unit⊕Unit⊕Unit⊕Unit⊕Unit⊕Unit⊕Unit⊕Unit⊕Unit)
def E224(f:T224):FEnt:=⟨jo,q5k,f⟩
def K224(f274:T274)(f277:T277)(f279:T279):=lk [(274,E274 f274),(277,E277 f277),(279,E279 f279)]
def F224(f274:T274)(f277:T277)(f279:T279):T224:=λ(x0,_)=>(f274 (x0,())).bind λv=>bif v.1 then some (Sum.inl ())else(f277 (x0,())).bind λv=>bif v.1 then some (Sum.inr (Sum.inl ()))else(f279 ()).bind λv=>bif decide (x0=8205)then some (Sum.inr (Sum.inr (Sum.inl ())))else bif decide (x0=8204)then some (Sum.inr (Sum.inr (Sum.inr (Sum.inl ()))))else bif decide (x0=183)then some (Sum.inr (Sum.inr (Sum.inr (Sum.inr (Sum.inl ())))))else bif decide (x0=885)then some (Sum.inr (Sum.inr (Sum.inr (Sum.inr (Sum.inr (Sum.inl ()))))))else bif decide (x0=1523)then some (Sum.inr (Sum.inr (Sum.inr (Sum.inr (Sum.inr (Sum.inr (Sum.inl ())))))))else bif decide (x0=1524)then some (Sum.inr (Sum.inr (Sum.inr (Sum.inr (Sum.inr (Sum.inr (Sum.inl ())))))))else bif decide (x0=12539)then some (Sum.inr (Sum.inr (Sum.inr (Sum.inr (Sum.inr (Sum.inr (Sum.inr (Sum.inl ()))))))))else some (Sum.inr (Sum.inr (Sum.inr (Sum.inr (Sum.inr (Sum.inr (Sum.inr (Sum.inr ()))))))))
theorem h224(f274:T274)(f277:T277)(f279:T279):qp (K224 f274 f277 f279) 0 f224 .nil jo q5k (F224 f274 f277 f279):=λv=>by kernel_rfl
def C224:T224:=F224 C274 C277 C279
theorem ok224:FO 224 (E224 C224) :=
 q0 (kc ok274 (kc ok277 (kc ok279 kn))) func224 (h224 C274 C277 C279)
abbrev T300_l0:=List (Int)×Int×Int×Unit->Option (Unit⊕(Int×Unit))
def E300_l0(f:T300_l0):LEnt:=⟨q1a,jn,f⟩
abbrev T300:=List (Int)×Unit->Option (Int×Unit)
def E300(f:T300):FEnt:=⟨yl,qf,f⟩
def K300(f277:T277):=lk [(277,E277 f277)]
theorem kok300:KOk prog (K300 C277):=(kc ok277 kn)
def F300_l0(f277:T277):qn (List (Int)×Int×Int×Unit) (Unit⊕(Int×Unit)):=λ(x0,x1,x2,_)=>bif decide (x2<x1)then bif decide (0<=x2)&&decide (x2<(↑x0.length:Int))then(f277 (x0.getD x2.toNat 0,())).bind λv=>bif v.1 then some (Sum.inr (Sum.inr (x2,())))else some (Sum.inl (x0,x1,IntKind.i64.wrap (x2+1),()))else none else some (Sum.inr (Sum.inl ()))
def C300_l0:T300_l0:=loopN (F300_l0 C277) big
theorem k300_l0:qg 0 (subc (code f300) [1,0,1,0,0]) (E300_l0 C300_l0):=zg q1a jn K300 F300_l0 C277 kok300
def N300(f300_l0:T300_l0):Ann:=(.seq .nil (.seq (.seq .nil (.blk (.loop (E300_l0 f300_l0)))) .nil))
def F300(f277:T277)(f300_l0:T300_l0):T300:=λ(x0,_)=>(f300_l0 (x0,(↑x0.length:Int),0,())).bind λv=>Sum.elim (λv=>some (-1,())) (λv=>some (v.1,())) v
def C300:T300:=F300 C277 C300_l0
theorem ok300:FO 300 (E300 C300):=qx yl qf K300 N300 F300 C277 C300_l0 kok300 func300 (And.intro k300_l0 trivial)
abbrev T276:=List (Int)×Unit->Option (Bool×Unit)
def E276(f:T276):FEnt:=⟨yl,qe,f⟩
def K276(f300:T300):=lk [(300,E300 f300)]
def F276(f300:T300):T276:=λ(x0,_)=>(f300 (x0,())).bind λv=>some (decide (v.1>=0),())
def C276:T276:=F276 C300
theorem ok276:FO 276 (E276 C276):=qz yl qe K276 F276 C300 (kc ok300 kn) func276
abbrev T275:=qb×qc×qd×List (Int)×Int×Unit->Option (Bool×Unit)
def E275(f:T275):FEnt:=⟨jc,qe,f⟩
def K275(f276:T276):=lk [(276,E276 f276)]
def F275(f276:T276):T275:=λ(x0,x1,x2,x3,x4,_)=>(f276 (x3,())).bind λv=>some (bif v.1 then false else true,())
def C275:T275:=F275 C276
theorem ok275:FO 275 (E275 C275):=qz jc qe K275 F275 C276 (kc ok276 kn) func275
abbrev T300v1_l0:=List (Int)×Int×Int×Unit->Option (Unit⊕(Int×Unit))
def E300v1_l0(f:T300v1_l0):LEnt:=⟨q1b,jn,f⟩
abbrev T300v1:=List (Int)×Unit->Option (Int×Unit)
def E300v1(f:T300v1):FEnt:=⟨ym,qf,f⟩
def K300v1(f274:T274):=lk [(274,E274 f274)]
theorem kok300v1:KOk prog (K300v1 C274):=(kc ok274 kn)
def F300v1_l0(f274:T274):qn (List (Int)×Int×Int×Unit) (Unit⊕(Int×Unit)):=λ(x0,x1,x2,_)=>bif decide (x2<x1)then bif decide (0<=x2)&&decide (x2<(↑x0.length:Int))then(f274 (x0.getD x2.toNat 0,())).bind λv=>bif v.1 then some (Sum.inr (Sum.inr (x2,())))else some (Sum.inl (x0,x1,IntKind.i64.wrap (x2+1),()))else none else some (Sum.inr (Sum.inl ()))
def C300v1_l0:T300v1_l0:=loopN (F300v1_l0 C274) big
theorem k300v1_l0:qg 0 (subc (code f300) [1,0,1,0,0]) (E300v1_l0 C300v1_l0):=zg q1b jn K300v1 F300v1_l0 C274 kok300v1
def N300v1(f300v1_l0:T300v1_l0):Ann:=(.seq .nil (.seq (.seq .nil (.blk (.loop (E300v1_l0 f300v1_l0)))) .nil))
def F300v1(f274:T274)(f300v1_l0:T300v1_l0):T300v1:=λ(x0,_)=>(f300v1_l0 (x0,(↑x0.length:Int),0,())).bind λv=>Sum.elim (λv=>some (-1,())) (λv=>some (v.1,())) v
def C300v1:T300v1:=F300v1 C274 C300v1_l0
theorem ok300v1:FO 300 (E300v1 C300v1):=qx ym qf K300v1 N300v1 F300v1 C274 C300v1_l0 kok300v1 func300 (And.intro k300v1_l0 trivial)
abbrev T276v1:=List (Int)×Unit->Option (Bool×Unit)
def E276v1(f:T276v1):FEnt:=⟨ym,qe,f⟩
def K276v1(f300v1:T300v1):=lk [(300,E300v1 f300v1)]
def F276v1(f300v1:T300v1):T276v1:=λ(x0,_)=>(f300v1 (x0,())).bind λv=>some (decide (v.1>=0),())
def C276v1:T276v1:=F276v1 C300v1
theorem ok276v1:FO 276 (E276v1 C276v1):=qz ym qe K276v1 F276v1 C300v1 (kc ok300v1 kn) func276
abbrev T278:=qb×qc×qd×List (Int)×Int×Unit->Option (Bool×Unit)
def E278(f:T278):FEnt:=⟨jc,qe,f⟩
def K278(f276v1:T276v1):=lk [(276,E276v1 f276v1)]
def F278(f276v1:T276v1):T278:=λ(x0,x1,x2,x3,x4,_)=>(f276v1 (x3,())).bind λv=>some (bif v.1 then false else true,())
def C278:T278:=F278 C276v1
theorem ok278:FO 278 (E278 C278):=qz jc qe K278 F278 C276v1 (kc ok276v1 kn) func278
abbrev T320:=qb×qc×qd×List (Int)×Int×Int×Unit->Option (Int×Unit)
def E320(f:T320):FEnt:=⟨yn,ya,f⟩
def F320:T320:=λ(x0,x1,x2,x3,x4,x5,_)=>bif decide (IntKind.i64.wrap (x4+x5)<0)then some (-1,())else bif decide (IntKind.i64.wrap (x4+x5)>=(↑x3.length:Int))then some (-1,())else bif decide (0<=IntKind.i64.wrap (x4+x5))&&decide (IntKind.i64.wrap (x4+x5)<(↑x3.length:Int))then some (x3.getD ((IntKind.i64.wrap (x4+x5)).toNat) 0,())else none
def C320:T320:=F320
theorem ok320:FO 320 (E320 C320):=zd yn ya qu F320 kn func320
abbrev T301:=qb×qc×qd×List (Int)×Int×Unit->Option (Bool×Unit)
def E301(f:T301):FEnt:=⟨jc,qe,f⟩
def K301(f295:T295)(f320:T320):=lk [(295,E295 f295),(320,E320 f320)]
def F301(f295:T295)(f320:T320):T301:=λ(x0,x1,x2,x3,x4,_)=>(f320 (x0,x1,x2,x3,x4,-1,())).bind λv=>(f295 (x0,x1,x2,v.1,())).bind λv=>some (v.1==9,())
def C301:T301:=F301 C295 C320
theorem ok301:FO 301 (E301 C301):=vg jc qe K301 F301 C295 C320 (kc ok295 (kc ok320 kn)) func301
abbrev T328:=qb×qc×qd×Int×Unit->Option (Int×Unit)
def E328(f:T328):FEnt:=⟨zv,qf,f⟩
def K328(f280:T280):=lk [(280,E280 f280)]
def F328(f280:T280):T328:=λ(x0,x1,x2,x3,_)=>(f280 (x0,x1,x2,x3,())).bind λv=>some (v.2.2.2.2.1,())
def C328:T328:=F328 C280
theorem ok328:FO 328 (E328 C328):=qz zv qf K328 F328 C280 (kc ok280 kn) func328
abbrev T321_l0:=Int×Int×qb×qc×qd×List (Int)×Int×Unit->Option (Unit⊕(Int×Unit))
def E321_l0(f:T321_l0):LEnt:=⟨q1c,q5l,f⟩
abbrev T321:=qb×qc×qd×List (Int)×Int×Int×Unit->Option (Int×Unit)
def E321(f:T321):FEnt:=⟨yn,qf,f⟩
def K321(f320:T320)(f328:T328):=lk [(320,E320 f320),(328,E328 f328)]
theorem kok321:KOk prog (K321 C320 C328):=(kc ok320 (kc ok328 kn))
def F321_l0(f320:T320)(f328:T328):qn (Int×Int×qb×qc×qd×List (Int)×Int×Unit) (Unit⊕(Int×Unit)):=λ(x0,x1,x2,x3,x4,x5,x6,_)=>(f320 (x2,x3,x4,x5,x6,x1,())).bind λv=>bif decide (v.1>=0)then(f320 (x2,x3,x4,x5,x6,x1,())).bind λv=>(f328 (x2,x3,x4,v.1,())).bind λv=>bif v.1 != 3 then some (Sum.inr (Sum.inr (v.1,())))else some (Sum.inl (x0,IntKind.i64.wrap (x1+x0),x2,x3,x4,x5,x6,()))else some (Sum.inr (Sum.inl ()))
def C321_l0:T321_l0:=loopN (F321_l0 C320 C328) big
theorem k321_l0:qg 0 (subc (code f321) [1,0,1,0,0]) (E321_l0 C321_l0):=kl q1c q5l K321 F321_l0 C320 C328 kok321
def N321(f321_l0:T321_l0):Ann:=(.seq .nil (.seq (.seq .nil (.blk (.loop (E321_l0 f321_l0)))) .nil))
def F321(f320:T320)(f328:T328)(f321_l0:T321_l0):T321:=λ(x0,x1,x2,x3,x4,x5,_)=>(f321_l0 (x5,x5,x0,x1,x2,x3,x4,())).bind λv=>Sum.elim (λv=>some (0,())) (λv=>some (v.1,())) v
def C321:T321:=F321 C320 C328 C321_l0
theorem ok321:FO 321 (E321 C321):=zf yn qf K321 N321 F321 C320 C328 C321_l0 kok321 func321 (And.intro k321_l0 trivial)
abbrev T302:=qb×qc×qd×List (Int)×Int×Unit->Option (Bool×Unit)
def E302(f:T302):FEnt:=⟨jc,qe,f⟩
def K302(f301:T301)(f321:T321):=lk [(301,E301 f301),(321,E321 f321)]
def F302(f301:T301)(f321:T321):T302:=λ(x0,x1,x2,x3,x4,_)=>(f321 (x0,x1,x2,x3,x4,1,())).bind λv=>(f301 (x0,x1,x2,x3,x4,())).bind λv1=>bif v1.1 then some (true,())else(f321 (x0,x1,x2,x3,x4,-1,())).bind λv2=>bif v2.1==1 then bif v.1==1 then some (true,())else some (v.1==2,())else some (false,())
def C302:T302:=F302 C301 C321
theorem ok302:FO 302 (E302 C302):=vg jc qe K302 F302 C301 C321 (kc ok301 (kc ok321 kn)) func302
abbrev T303:=qb×qc×qd×List (Int)×Int×Unit->Option (Bool×Unit)
def E303(f:T303):FEnt:=⟨jc,qe,f⟩
def K303(f320:T320):=lk [(320,E320 f320)]
def F303(f320:T320):T303:=λ(x0,x1,x2,x3,x4,_)=>(f320 (x0,x1,x2,x3,x4,-1,())).bind λv=>bif v.1==108 then(f320 (x0,x1,x2,x3,x4,1,())).bind λv=>some (v.1==108,())else some (false,())
def C303:T303:=F303 C320
theorem ok303:FO 303 (E303 C303):=qz jc qe K303 F303 C320 (kc ok320 kn) func303
abbrev T322:=qb×qc×qd×Int×Unit->Option (Int×Unit)
def E322(f:T322):FEnt:=⟨zv,qf,f⟩
def K322(f280:T280):=lk [(280,E280 f280)]
def F322(f280:T280):T322:=λ(x0,x1,x2,x3,_)=>(f280 (x0,x1,x2,x3,())).bind λv=>some (v.2.2.2.2.2.1,())
def C322:T322:=F322 C280
theorem ok322:FO 322 (E322 C322):=qz zv qf K322 F322 C280 (kc ok280 kn) func322
abbrev T304:=qb×qc×qd×List (Int)×Int×Unit->Option (Bool×Unit)
def E304(f:T304):FEnt:=⟨jc,qe,f⟩
def K304(f320:T320)(f322:T322):=lk [(320,E320 f320),(322,E322 f322)]
def F304(f320:T320)(f322:T322):T304:=λ(x0,x1,x2,x3,x4,_)=>(f320 (x0,x1,x2,x3,x4,1,())).bind λv=>(f322 (x0,x1,x2,v.1,())).bind λv=>some (v.1==2,())
def C304:T304:=F304 C320 C322
theorem ok304:FO 304 (E304 C304):=vg jc qe K304 F304 C320 C322 (kc ok320 (kc ok322 kn)) func304
abbrev T305:=qb×qc×qd×List (Int)×Int×Unit->Option (Bool×Unit)
def E305(f:T305):FEnt:=⟨jc,qe,f⟩
def K305(f320:T320)(f322:T322):=lk [(320,E320 f320),(322,E322 f322)]
def F305(f320:T320)(f322:T322):T305:=λ(x0,x1,x2,x3,x4,_)=>(f320 (x0,x1,x2,x3,x4,-1,())).bind λv=>(f322 (x0,x1,x2,v.1,())).bind λv=>some (v.1==4,())
def C305:T305:=F305 C320 C322
theorem ok305:FO 305 (E305 C305):=vg jc qe K305 F305 C320 C322 (kc ok320 (kc ok322 kn)) func305
abbrev T323:=Int×qb×qc×qd×List (Int)×Int×Unit->Option (Bool×qb×qc×qd×List (Int)×Int×Unit)
def E323(f:T323):FEnt:=⟨q1d,xh,f⟩
def K323(f322:T322):=lk [(322,E322 f322)]
def F323(f322:T322):T323:=λ(x0,x1,x2,x3,x4,x5,_)=>(f322 (x1,x2,x3,x0,())).bind λv=>bif v.1==7 then some (true,x1,x2,x3,x4,x5,())else some (v.1==8,x1,x2,x3,x4,x5,())
theorem h323(f322:T322):qp (K323 f322) 1 f323 .nil q1d xh (F323 f322):=λv=>by kernel_rfl
def C323:T323:=F323 C322
theorem ok323:FO 323 (E323 C323) :=
 q0 (kc ok322 kn) func323 (h323 C322)
abbrev T300v2_l0:=List (Int)×Int×Int×qb×qc×qd×List (Int)×Int×Unit->Option ((qb×qc×qd×List (Int)×Int×Unit)⊕(Int×qb×qc×qd×List (Int)×Int×Unit))
def E300v2_l0(f:T300v2_l0):LEnt:=⟨q1e,q5n,f⟩
abbrev T300v2:=List (Int)×qb×qc×qd×List (Int)×Int×Unit->Option (Int×qb×qc×qd×List (Int)×Int×Unit)
def E300v2(f:T300v2):FEnt:=⟨yp,q5m,f⟩
def K300v2(f323:T323):=lk [(323,E323 f323)]
theorem kok300v2:KOk prog (K300v2 C323):=(kc ok323 kn)
def F300v2_l0(f323:T323):qn (List (Int)×Int×Int×qb×qc×qd×List (Int)×Int×Unit) ((qb×qc×qd×List (Int)×Int×Unit)⊕(Int×qb×qc×qd×List (Int)×Int×Unit)):=λ(x0,x1,x2,x3,x4,x5,x6,x7,_)=>bif decide (x2<x1)then bif decide (0<=x2)&&decide (x2<(↑x0.length:Int))then(f323 (x0.getD x2.toNat 0,x3,x4,x5,x6,x7,())).bind λv=>bif v.1 then some (Sum.inr (Sum.inr (x2,v.2.1,v.2.2.1,v.2.2.2.1,v.2.2.2.2.1,v.2.2.2.2.2.1,())))else some (Sum.inl (x0,x1,IntKind.i64.wrap (x2+1),v.2.1,v.2.2.1,v.2.2.2.1,v.2.2.2.2.1,v.2.2.2.2.2.1,()))else none else some (Sum.inr (Sum.inl (x3,x4,x5,x6,x7,())))
def C300v2_l0:T300v2_l0:=loopN (F300v2_l0 C323) big
theorem k300v2_l0:qg 1 (subc (code f300) [1,0,1,0,0]) (E300v2_l0 C300v2_l0):=zg q1e q5n K300v2 F300v2_l0 C323 kok300v2
def N300v2(f300v2_l0:T300v2_l0):Ann:=(.seq .nil (.seq (.seq .nil (.blk (.loop (E300v2_l0 f300v2_l0)))) .nil))
def F300v2(f323:T323)(f300v2_l0:T300v2_l0):T300v2:=λ(x0,x1,x2,x3,x4,x5,_)=>(f300v2_l0 (x0,(↑x0.length:Int),0,x1,x2,x3,x4,x5,())).bind λv=>Sum.elim (λv=>some (-1,v.1,v.2.1,v.2.2.1,v.2.2.2.1,v.2.2.2.2.1,())) (λv=>some (v.1,v.2.1,v.2.2.1,v.2.2.2.1,v.2.2.2.2.1,v.2.2.2.2.2.1,())) v
theorem h300v2(f323:T323)(f300v2_l0:T300v2_l0):qp (K300v2 f323) 1 f300 (N300v2 f300v2_l0) yp q5m (F300v2 f323 f300v2_l0):=λv=>by kernel_rfl
def C300v2:T300v2:=F300v2 C323 C300v2_l0
theorem ok300v2:FO 300 (E300v2 C300v2) :=
 qo kok300v2 func300 (And.intro k300v2_l0 trivial) (h300v2 C323 C300v2_l0)
abbrev T276v2:=List (Int)×qb×qc×qd×List (Int)×Int×Unit->Option (Bool×qb×qc×qd×List (Int)×Int×Unit)
def E276v2(f:T276v2):FEnt:=⟨yp,xh,f⟩
def K276v2(f300v2:T300v2):=lk [(300,E300v2 f300v2)]
def F276v2(f300v2:T300v2):T276v2:=λ(x0,x1,x2,x3,x4,x5,_)=>(f300v2 (x0,x1,x2,x3,x4,x5,())).bind λv=>some (decide (v.1>=0),v.2.1,v.2.2.1,v.2.2.2.1,v.2.2.2.2.1,v.2.2.2.2.2.1,())
theorem h276v2(f300v2:T300v2):qp (K276v2 f300v2) 1 f276 .nil yp xh (F276v2 f300v2):=λv=>by kernel_rfl
def C276v2:T276v2:=F276v2 C300v2
theorem ok276v2:FO 276 (E276v2 C276v2) :=
 q0 (kc ok300v2 kn) func276 (h276v2 C300v2)
abbrev T306:=qb×qc×qd×List (Int)×Int×Unit->Option (Bool×Unit)
def E306(f:T306):FEnt:=⟨jc,qe,f⟩
def K306(f276v2:T276v2):=lk [(276,E276v2 f276v2)]
def F306(f276v2:T276v2):T306:=λ(x0,x1,x2,x3,x4,_)=>(f276v2 (x3,x0,x1,x2,x3,x4,())).bind λv=>some (v.1,())
def C306:T306:=F306 C276v2
theorem ok306:FO 306 (E306 C306):=qz jc qe K306 F306 C276v2 (kc ok276v2 kn) func306
abbrev T185:=qb×qc×qd×List (Int)×Int×Unit->Option (Int×Unit)
def E185(f:T185):FEnt:=⟨q1f,qf,f⟩
def K185(f224:T224)(f275:T275)(f278:T278)(f301:T301)(f302:T302)(f303:T303)(f304:T304)(f305:T305)(f306:T306):=lk [(224,E224 f224),(275,E275 f275),(278,E278 f278),(301,E301 f301),(302,E302 f302),(303,E303 f303),(304,E304 f304),(305,E305 f305),(306,E306 f306)]
def F185(f224:T224)(f275:T275)(f278:T278)(f301:T301)(f302:T302)(f303:T303)(f304:T304)(f305:T305)(f306:T306):T185:=λ(x0,x1,x2,x3,x4,_)=>bif decide (x4<0)then some (0,())else bif decide (x4>=(↑x3.length:Int))then some (0,())else bif decide (0<=x4)&&decide (x4<(↑x3.length:Int))then(f224 (x3.getD x4.toNat 0,())).bind λv=>Sum.elim (λv=>(f275 (x0,x1,x2,x3,x4,())).bind λv=>bif v.1 then some (1,())else some (2,())) (λv=>Sum.elim (λv=>(f278 (x0,x1,x2,x3,x4,())).bind λv=>bif v.1 then some (1,())else some (2,())) (λv=>Sum.elim (λv=>(f301 (x0,x1,x2,x3,x4,())).bind λv=>bif v.1 then some (1,())else some (2,())) (λv=>Sum.elim (λv=>(f302 (x0,x1,x2,x3,x4,())).bind λv=>bif v.1 then some (1,())else some (2,())) (λv=>Sum.elim (λv=>(f303 (x0,x1,x2,x3,x4,())).bind λv=>bif v.1 then some (1,())else some (2,())) (λv=>Sum.elim (λv=>(f304 (x0,x1,x2,x3,x4,())).bind λv=>bif v.1 then some (1,())else some (2,())) (λv=>Sum.elim (λv=>(f305 (x0,x1,x2,x3,x4,())).bind λv=>bif v.1 then some (1,())else some (2,())) (λv=>Sum.elim (λv=>(f306 (x0,x1,x2,x3,x4,())).bind λv=>bif v.1 then some (1,())else some (2,())) (λv=>some (0,())) v) v) v) v) v) v) v) v else none
theorem h185(f224:T224)(f275:T275)(f278:T278)(f301:T301)(f302:T302)(f303:T303)(f304:T304)(f305:T305)(f306:T306):qp (K185 f224 f275 f278 f301 f302 f303 f304 f305 f306) 0 f185 .nil q1f qf (F185 f224 f275 f278 f301 f302 f303 f304 f305 f306):=λv=>by kernel_rfl
def C185:T185:=F185 C224 C275 C278 C301 C302 C303 C304 C305 C306
theorem ok185:FO 185 (E185 C185) :=
 q0 (kc ok224 (kc ok275 (kc ok278 (kc ok301 (kc ok302 (kc ok303 (kc ok304 (kc ok305 (kc ok306 kn))))))))) func185 (h185 C224 C275 C278 C301 C302 C303 C304 C305 C306)
abbrev T227:=qb×qc×qd×Int×Unit->Option (Bool×Unit)
def E227(f:T227):FEnt:=⟨zv,qe,f⟩
def K227(f225:T225)(f226:T226):=lk [(225,E225 f225),(226,E226 f226)]
def F227(f225:T225)(f226:T226):T227:=λ(x0,x1,x2,x3,_)=>(f226 (x0,x1,x2,x3,())).bind λv=>bif v.2.2.2.2.2.1 then bif v.2.2.2.1 then some (false,())else bif v.2.2.2.2.1 then some (false,())else(f225 (x0,x1,x2,x3,())).bind λv=>bif v.1==2 then some (true,())else bif v.1==3 then some (true,())else bif v.1==4 then some (true,())else bif v.1==5 then some (true,())else some (x3==45,())else(f225 (x0,x1,x2,x3,())).bind λv=>bif v.1==2 then some (true,())else bif v.1==3 then some (true,())else bif v.1==4 then some (true,())else bif v.1==5 then some (true,())else some (x3==45,())
def C227:T227:=F227 C225 C226
theorem ok227:FO 227 (E227 C227):=vg zv qe K227 F227 C225 C226 (kc ok225 (kc ok226 kn)) func227
abbrev T250_l0:=List (Int)×List (Int)×Int×Int×qb×qc×qd×Unit->Option (Unit⊕(Bool×Unit))
def E250_l0(f:T250_l0):LEnt:=⟨q1g,q5o,f⟩
abbrev T250:=qb×qc×qd×List (Int)×Unit->Option (Bool×Unit)
def E250(f:T250):FEnt:=⟨zw,qe,f⟩
def K250(f185:T185)(f227:T227):=lk [(185,E185 f185),(227,E227 f227)]
theorem kok250:KOk prog (K250 C185 C227):=(kc ok185 (kc ok227 kn))
def F250_l0(f185:T185)(f227:T227):qn (List (Int)×List (Int)×Int×Int×qb×qc×qd×Unit) (Unit⊕(Bool×Unit)):=λ(x0,x1,x2,x3,x4,x5,x6,_)=>bif decide (x3<x2)then bif decide (0<=x3)&&decide (x3<(↑x1.length:Int))then(f185 (x4,x5,x6,x0,x3,())).bind λv=>bif v.1==2 then some (Sum.inr (Sum.inr (true,())))else bif v.1==0 then(f227 (x4,x5,x6,x1.getD x3.toNat 0,())).bind λv=>bif !v.1 then some (Sum.inr (Sum.inr (true,())))else some (Sum.inl (x0,x1,x2,IntKind.i64.wrap (x3+1),x4,x5,x6,()))else some (Sum.inl (x0,x1,x2,IntKind.i64.wrap (x3+1),x4,x5,x6,()))else none else some (Sum.inr (Sum.inl ()))
def C250_l0:T250_l0:=loopN (F250_l0 C185 C227) big
theorem k250_l0:qg 0 (subc (code f250) [1,0,1,0,0]) (E250_l0 C250_l0):=kl q1g q5o K250 F250_l0 C185 C227 kok250
def N250(f250_l0:T250_l0):Ann:=(.seq .nil (.seq (.seq .nil (.blk (.loop (E250_l0 f250_l0)))) .nil))
def F250(f185:T185)(f227:T227)(f250_l0:T250_l0):T250:=λ(x0,x1,x2,x3,_)=>(f250_l0 (x3,x3,(↑x3.length:Int),0,x0,x1,x2,())).bind λv=>Sum.elim (λv=>some (false,())) (λv=>some (v.1,())) v
def C250:T250:=F250 C185 C227 C250_l0
theorem ok250:FO 250 (E250 C250):=zf zw qe K250 N250 F250 C185 C227 C250_l0 kok250 func250 (And.intro k250_l0 trivial)
abbrev T249:=qb×qc×qd×List (Int)×Unit->Option (Bool×qb×qc×qd×List (Int)×Unit)
def E249(f:T249):FEnt:=⟨zl,zo,f⟩
def K249(f250:T250):=lk [(250,E250 f250)]
def F249(f250:T250):T249:=λ(x0,x1,x2,x3,_)=>(f250 (x0,x1,x2,x3,())).bind λv=>some (v.1,x0,x1,x2,x3,())
theorem h249(f250:T250):qp (K249 f250) 2 f249 .nil zl zo (F249 f250):=λv=>by kernel_rfl
def C249:T249:=F249 C250
theorem ok249:FO 249 (E249 C249) :=
 q0 (kc ok250 kn) func249 (h249 C250)
abbrev T187_l0:=List (Int)×Int×Int×qb×qc×qd×List (Int)×List (Int)×Unit->Option (List (Int)×List (Int)×Unit)
def E187_l0(f:T187_l0):LEnt:=⟨q1h,q5q,f⟩
abbrev T187:=qb×qc×qd×List (Int)×Unit->Option (Int×Int×Int×Int×Int×Int×Int×Int×Unit)
def E187(f:T187):FEnt:=⟨zw,q5p,f⟩
def K187(f228:T228):=lk [(228,E228 f228)]
theorem kok187:KOk prog (K187 C228):=(kc ok228 kn)
def F187_l0(f228:T228):qn (List (Int)×Int×Int×qb×qc×qd×List (Int)×List (Int)×Unit) (List (Int)×List (Int)×Unit):=λ(x0,x1,x2,x3,x4,x5,x6,x7,_)=>bif decide (x2<x1)then bif decide (0<=x2)&&decide (x2<(↑x0.length:Int))then(f228 (x3,x4,x5,x0.getD x2.toNat 0,())).bind λv=>bif decide (x7.length=8)then bif decide (0<=v.1)&&decide (v.1<(↑8:Int))then bif decide (Int.toNat v.1<x7.length)then bif decide (x7.length=8)then bif decide (0<=v.1)&&decide (v.1<(↑8:Int))then bif decide (Int.toNat v.1<x7.length)then some (Sum.inl (x0,x1,IntKind.i64.wrap (x2+1),x3,x4,x5,x6,x7.set (Int.toNat v.1) (IntKind.i64.wrap (x7.getD (Int.toNat v.1) 0+1)),()))else none else none else none else none else none else none else none else some (Sum.inr (x6,x7,()))
def C187_l0:T187_l0:=loopN (F187_l0 C228) big
theorem k187_l0:qg 0 (subc (code f187) [1,1,0,1,0,0]) (E187_l0 C187_l0):=zg q1h q5q K187 F187_l0 C228 kok187
def N187(f187_l0:T187_l0):Ann:=(.seq .nil (.seq .nil (.seq (.seq .nil (.blk (.loop (E187_l0 f187_l0)))) .nil)))
def F187(f228:T228)(f187_l0:T187_l0):T187:=λ(x0,x1,x2,x3,_)=>(f187_l0 (x3,(↑x3.length:Int),0,x0,x1,x2,[0,0,0,0,0,0,0,0],[0,0,0,0,0,0,0,0],())).bind λv=>bif decide (List.length v.2.1=8)then bif decide (List.length v.1=8)then some (v.2.1.getD 0 0,v.2.1.getD 1 0,v.2.1.getD 2 0,v.2.1.getD 3 0,v.2.1.getD 4 0,v.2.1.getD 5 0,v.2.1.getD 6 0,v.2.1.getD 7 0,())else none else none
def C187:T187:=F187 C228 C187_l0
theorem ok187:FO 187 (E187 C187):=qx zw q5p K187 N187 F187 C228 C187_l0 kok187 func187 (And.intro k187_l0 trivial)
abbrev T153:=qb×qc×qd×List (Int)×Unit->Option (Bool×Unit)
def E153(f:T153):FEnt:=⟨zw,qe,f⟩
def K153(f187:T187):=lk [(187,E187 f187)]
def F153(f187:T187):T153:=λ(x0,x1,x2,x3,_)=>(f187 (x0,x1,x2,x3,())).bind λv=>some (decide (IntKind.i64.wrap (IntKind.i64.wrap ([v.1,v.2.1,v.2.2.1,v.2.2.2.1,v.2.2.2.2.1,v.2.2.2.2.2.1,v.2.2.2.2.2.2.1,v.2.2.2.2.2.2.2.1].getD 2 0+[v.1,v.2.1,v.2.2.1,v.2.2.2.1,v.2.2.2.2.1,v.2.2.2.2.2.1,v.2.2.2.2.2.2.1,v.2.2.2.2.2.2.2.1].getD 3 0)+[v.1,v.2.1,v.2.2.1,v.2.2.2.1,v.2.2.2.2.1,v.2.2.2.2.2.1,v.2.2.2.2.2.2.1,v.2.2.2.2.2.2.2.1].getD 5 0)>0),())
def C153:T153:=F153 C187
theorem ok153:FO 153 (E153 C153):=qz zw qe K153 F153 C187 (kc ok187 kn) func153
abbrev T189:=qb×qc×qd×List (Int)×Unit->Option (Int×Unit)
def E189(f:T189):FEnt:=⟨zw,qf,f⟩
def K189(f228:T228):=lk [(228,E228 f228)]
def F189(f228:T228):T189:=λ(x0,x1,x2,x3,_)=>bif(↑x3.length:Int)==0 then some (0,())else bif decide (0<(↑x3.length:Int))then(f228 (x0,x1,x2,x3.getD 0 0,())).bind λv=>bif v.1==2 then some (2,())else bif v.1==3 then some (2,())else bif v.1==1 then some (v.1,())else some (0,())else none
def C189:T189:=F189 C228
theorem ok189:FO 189 (E189 C189):=qz zw qf K189 F189 C228 (kc ok228 kn) func189
abbrev T154_c0:=Bool×Bool×List (Int)×Unit->Option (Bool×Unit)
def E154_c0(f:T154_c0):LEnt:=⟨q1i,xi,f⟩
abbrev T154_c1:=Int×Bool×List (Int)×Unit->Option (Bool×Unit)
def E154_c1(f:T154_c1):LEnt:=⟨q1j,xi,f⟩
abbrev T154:=qb×qc×qd×List (Int)×Unit->Option (Bool×Unit)
def E154(f:T154):FEnt:=⟨zw,qe,f⟩
def K154(f153:T153)(f187:T187)(f188:T188)(f189:T189):=lk [(153,E153 f153),(187,E187 f187),(188,E188 f188),(189,E189 f189)]
theorem kok154:KOk prog (K154 C153 C187 C188 C189):=(kc ok153 (kc ok187 (kc ok188 (kc ok189 kn))))
def F154_c0(f153:T153)(f187:T187)(f188:T188)(f189:T189):T154_c0:=λ(x0,x1,x2,_)=>bif decide (x2.length=8)then bif decide (Int.toNat 1<x2.length)then bif x2.getD 1 0==0 then bif x1 then some (bif x0 then false else true,())else some (false,())else some (false,())else none else none
theorem h154_c0(f153:T153)(f187:T187)(f188:T188)(f189:T189):jd (K154 f153 f187 f188 f189) 0 (subc (code f154) [1,1,0,1,0,1,0,1,1]) .nil q1i xi (F154_c0 f153 f187 f188 f189):=λv=>by kernel_rfl
def C154_c0:T154_c0:=F154_c0 C153 C187 C188 C189
theorem k154_c0:ql 0 (subc (code f154) [1,1,0,1,0,1,0,1,1]) (E154_c0 C154_c0) :=
 yc kok154 (h154_c0 C153 C187 C188 C189)
def N154_c1(f154_c0:T154_c0):Ann:=(.cut .nil (E154_c0 f154_c0))
def F154_c1(f153:T153)(f187:T187)(f188:T188)(f189:T189)(f154_c0:T154_c0):T154_c1:=λ(x0,x1,x2,_)=>bif x0==2 then(f154_c0 (x1,true,x2,())).bind λv=>some (v.1,())else bif x0==3 then(f154_c0 (x1,true,x2,())).bind λv=>some (v.1,())else bif x0==4 then(f154_c0 (x1,true,x2,())).bind λv=>some (v.1,())else(f154_c0 (x1,x0==5,x2,())).bind λv=>some (v.1,())
theorem h154_c1(f153:T153)(f187:T187)(f188:T188)(f189:T189)(f154_c0:T154_c0):jd (K154 f153 f187 f188 f189) 0 (subc (code f154) [1,1,0,1,0,1,0,1]) (N154_c1 f154_c0) q1j xi (F154_c1 f153 f187 f188 f189 f154_c0):=λv=>by kernel_rfl
def C154_c1:T154_c1:=F154_c1 C153 C187 C188 C189 C154_c0
theorem k154_c1:ql 0 (subc (code f154) [1,1,0,1,0,1,0,1]) (E154_c1 C154_c1) :=
 zc kok154 (And.intro k154_c0 trivial) (h154_c1 C153 C187 C188 C189 C154_c0)
def N154(f154_c1:T154_c1):Ann:=(.seq .nil (.seq .nil (.seq (.seq .nil (.blk (.seq .nil (.cond (.cut .nil (E154_c1 f154_c1)) .nil)))) .nil)))
def F154(f153:T153)(f187:T187)(f188:T188)(f189:T189)(f154_c1:T154_c1):T154:=λ(x0,x1,x2,x3,_)=>(f187 (x0,x1,x2,x3,())).bind λv=>(f188 (x0,x1,x2,x3,())).bind λv1=>(f189 (x0,x1,x2,x3,())).bind λv2=>bif v2.1==2 then bif decide ([v.1,v.2.1,v.2.2.1,v.2.2.2.1,v.2.2.2.2.1,v.2.2.2.2.2.1,v.2.2.2.2.2.2.1,v.2.2.2.2.2.2.2.1].getD 4 0>0)then(f154_c1 (v1.1,decide ([v.1,v.2.1,v.2.2.1,v.2.2.2.1,v.2.2.2.2.1,v.2.2.2.2.2.1,v.2.2.2.2.2.2.1,v.2.2.2.2.2.2.2.1].getD 5 0>0),[v.1,v.2.1,v.2.2.1,v.2.2.2.1,v.2.2.2.2.1,v.2.2.2.2.2.1,v.2.2.2.2.2.2.1,v.2.2.2.2.2.2.2.1],())).bind λv=>some (v.1,())else(f154_c1 (v1.1,false,[v.1,v.2.1,v.2.2.1,v.2.2.2.1,v.2.2.2.2.1,v.2.2.2.2.2.1,v.2.2.2.2.2.2.1,v.2.2.2.2.2.2.2.1],())).bind λv=>some (v.1,())else bif v2.1==1 then(f153 (x0,x1,x2,x3,())).bind λv=>bif !v.1 then bif v1.1==1 then some (true,())else some (v1.1==4,())else some (false,())else some ((↑x3.length:Int)==0,())
theorem h154(f153:T153)(f187:T187)(f188:T188)(f189:T189)(f154_c1:T154_c1):qp (K154 f153 f187 f188 f189) 0 f154 (N154 f154_c1) zw qe (F154 f153 f187 f188 f189 f154_c1):=λv=>by kernel_rfl
def C154:T154:=F154 C153 C187 C188 C189 C154_c1
theorem ok154:FO 154 (E154 C154) :=
 qo kok154 func154 (And.intro k154_c1 trivial) (h154 C153 C187 C188 C189 C154_c1)
abbrev T251:=qb×qc×qd×List (Int)×Unit->Option (Bool×qb×qc×qd×List (Int)×Unit)
def E251(f:T251):FEnt:=⟨zl,zo,f⟩
def K251(f153:T153)(f154:T154):=lk [(153,E153 f153),(154,E154 f154)]
def F251(f153:T153)(f154:T154):T251:=λ(x0,x1,x2,x3,_)=>(f153 (x0,x1,x2,x3,())).bind λv=>bif v.1 then(f154 (x0,x1,x2,x3,())).bind λv=>some (bif v.1 then false else true,x0,x1,x2,x3,())else some (false,x0,x1,x2,x3,())
theorem h251(f153:T153)(f154:T154):qp (K251 f153 f154) 2 f251 .nil zl zo (F251 f153 f154):=λv=>by kernel_rfl
def C251:T251:=F251 C153 C154
theorem ok251:FO 251 (E251 C251) :=
 q0 (kc ok153 (kc ok154 kn)) func251 (h251 C153 C154)
abbrev T252:=List (Int)×qa×Bool×Unit->Option (Bool×List (Int)×qa×Bool×Unit)
def E252(f:T252):FEnt:=⟨q1k,q5r,f⟩
def K252(f206:T206):=lk [(206,E206 f206)]
def F252(f206:T206):T252:=λ(x0,x1,x2,_)=>(f206 (x0,())).bind λv=>some (bif v.2.1 then false else true,x0,v.1,v.2.1,())
theorem h252(f206:T206):qp (K252 f206) 3 f252 .nil q1k q5r (F252 f206):=λv=>by kernel_rfl
def C252:T252:=F252 C206
theorem ok252:FO 252 (E252 C252) :=
 q0 (kc ok206 kn) func252 (h252 C206)
abbrev T253:=qa×Unit->Option (Bool×qa×Unit)
def E253(f:T253):FEnt:=⟨jk,jl,f⟩
def F253:T253:=λ(x0,_)=>some (decide (IntKind.i64.wrap (4+(↑x0.length:Int))>63),x0,())
theorem h253:qp qu 1 f253 .nil jk jl (F253):=λv=>by kernel_rfl
def C253:T253:=F253
theorem ok253:FO 253 (E253 C253) :=
 q0 kn func253 (h253)
abbrev T242:=Int×Int×Int×Int×Int×Int×Int×Int×Int×qa×qb×qc×qd×List (Int)×qa×Bool×Unit->Option (Int×Int×Int×Int×Int×Int×Int×Int×Int×Int×qa×qb×qc×qd×List (Int)×qa×Bool×Unit)
def E242(f:T242):FEnt:=⟨q1l,q5s,f⟩
def K242(f243:T243)(f244:T244)(f246:T246)(f248:T248)(f249:T249)(f251:T251)(f252:T252)(f253:T253):=lk [(243,E243 f243),(244,E244 f244),(246,E246 f246),(248,E248 f248),(249,E249 f249),(251,E251 f251),(252,E252 f252),(253,E253 f253)]
def N242:Ann:=(.seq .nil (.seq (.seq .nil (.blk (.unroll 10 .nil))) .nil))
def F242(f243:T243)(f244:T244)(f246:T246)(f248:T248)(f249:T249)(f251:T251)(f252:T252)(f253:T253):T242:=λ(x0,x1,x2,x3,x4,x5,x6,x7,x8,x9,x10,x11,x12,x13,x14,x15,_)=>(f243 (x8,())).bind λv=>bif v.1 then some (x0,x0,x1,x2,x3,x4,x5,x6,x7,v.2.1,x9,x10,x11,x12,x13,x14,x15,())else(f244 (x9,x10,x11,x12,())).bind λv1=>bif v1.1 then some (x1,x0,x1,x2,x3,x4,x5,x6,x7,v.2.1,v1.2.1,v1.2.2.1,v1.2.2.2.1,v1.2.2.2.2.1,x13,x14,x15,())else(f246 (v1.2.1,())).bind λv2=>bif v2.1 then some (x2,x0,x1,x2,x3,x4,x5,x6,x7,v.2.1,v2.2.1,v1.2.2.1,v1.2.2.2.1,v1.2.2.2.2.1,x13,x14,x15,())else(f248 (v1.2.2.1,v1.2.2.2.1,v1.2.2.2.2.1,x13,())).bind λv3=>bif v3.1 then some (x3,x0,x1,x2,x3,x4,x5,x6,x7,v.2.1,v2.2.1,v3.2.1,v3.2.2.1,v3.2.2.2.1,v3.2.2.2.2.1,x14,x15,())else(f249 (v3.2.1,v3.2.2.1,v3.2.2.2.1,v3.2.2.2.2.1,())).bind λv4=>bif v4.1 then some (x4,x0,x1,x2,x3,x4,x5,x6,x7,v.2.1,v2.2.1,v4.2.1,v4.2.2.1,v4.2.2.2.1,v4.2.2.2.2.1,x14,x15,())else(f251 (v4.2.1,v4.2.2.1,v4.2.2.2.1,v4.2.2.2.2.1,())).bind λv5=>bif v5.1 then some (x5,x0,x1,x2,x3,x4,x5,x6,x7,v.2.1,v2.2.1,v5.2.1,v5.2.2.1,v5.2.2.2.1,v5.2.2.2.2.1,x14,x15,())else(f252 (v5.2.2.2.2.1,x14,x15,())).bind λv6=>bif v6.1 then some (x6,x0,x1,x2,x3,x4,x5,x6,x7,v.2.1,v2.2.1,v5.2.1,v5.2.2.1,v5.2.2.2.1,v6.2.1,v6.2.2.1,v6.2.2.2.1,())else(f253 (v6.2.2.1,())).bind λv7=>bif v7.1 then some (x7,x0,x1,x2,x3,x4,x5,x6,x7,v.2.1,v2.2.1,v5.2.1,v5.2.2.1,v5.2.2.2.1,v6.2.1,v7.2.1,v6.2.2.2.1,())else some (0,x0,x1,x2,x3,x4,x5,x6,x7,v.2.1,v2.2.1,v5.2.1,v5.2.2.1,v5.2.2.2.1,v6.2.1,v7.2.1,v6.2.2.2.1,())
theorem h242(f243:T243)(f244:T244)(f246:T246)(f248:T248)(f249:T249)(f251:T251)(f252:T252)(f253:T253):qp (K242 f243 f244 f246 f248 f249 f251 f252 f253) 7 f242 N242 q1l q5s (F242 f243 f244 f246 f248 f249 f251 f252 f253):=λv=>by kernel_rfl
def C242:T242:=F242 C243 C244 C246 C248 C249 C251 C252 C253
theorem ok242:FO 242 (E242 C242) :=
 qo (kc ok243 (kc ok244 (kc ok246 (kc ok248 (kc ok249 (kc ok251 (kc ok252 (kc ok253 kn)))))))) func242 trivial (h242 C243 C244 C246 C248 C249 C251 C252 C253)
abbrev T207:=qb×qc×qd×qa×Unit->Option (Int×Unit)
def E207(f:T207):FEnt:=⟨jg,qf,f⟩
def K207(f242:T242)(f65:T65):=lk [(242,E242 f242),(65,E65 f65)]
def F207(f242:T242)(f65:T65):T207:=λ(x0,x1,x2,x3,_)=>(f65 (x3,())).bind λv=>(f242 (7,4,11,10,8,9,12,5,v.2.1,x3,x0,x1,x2,v.1,[],false,())).bind λv=>some (v.1,())
def C207:T207:=F207 C242 C65
theorem ok207:FO 207 (E207 C207):=vg jg qf K207 F207 C242 C65 (kc ok242 (kc ok65 kn)) func207
abbrev T254:=qa×Unit->Option (Bool×qa×Unit)
def E254(f:T254):FEnt:=⟨jk,jl,f⟩
def F254:T254:=λ(x0,_)=>some (x0==[],x0,())
theorem h254:qp qu 1 f254 .nil jk jl (F254):=λv=>by kernel_rfl
def C254:T254:=F254
theorem ok254:FO 254 (E254 C254) :=
 q0 kn func254 (h254)
abbrev T255:=qa×Unit->Option (Bool×qa×Unit)
def E255(f:T255):FEnt:=⟨jk,jl,f⟩
def F255:T255:=λ(x0,_)=>some (decide ((↑x0.length:Int)>63),x0,())
theorem h255:qp qu 1 f255 .nil jk jl (F255):=λv=>by kernel_rfl
def C255:T255:=F255
theorem ok255:FO 255 (E255 C255) :=
 q0 kn func255 (h255)
abbrev T257_c0:=Int×Bool×Unit->Option (Bool×Unit)
def E257_c0(f:T257_c0):LEnt:=⟨yq,xj,f⟩
abbrev T257_c1:=Int×Bool×Unit->Option (Bool×Unit)
def E257_c1(f:T257_c1):LEnt:=⟨yq,xj,f⟩
abbrev T257:=Int×Unit->Option (Bool×Unit)
def E257(f:T257):FEnt:=⟨jo,qe,f⟩
def F257_c0:T257_c0:=λ(x0,x1,_)=>bif x1 then some (true,())else bif decide (x0>=48)then bif decide (x0<=57)then some (true,())else some (x0==45,())else some (x0==45,())
theorem h257_c0:jd qu 0 (subc (code f257) [1,0,0,0,1,1,1]) .nil yq xj (F257_c0):=λv=>by kernel_rfl
def C257_c0:T257_c0:=F257_c0
theorem k257_c0:ql 0 (subc (code f257) [1,0,0,0,1,1,1]) (E257_c0 C257_c0) :=
 yc kn (h257_c0)
def N257_c1(f257_c0:T257_c0):Ann:=(.cond .nil (.cut .nil (E257_c0 f257_c0)))
def F257_c1(f257_c0:T257_c0):T257_c1:=λ(x0,x1,_)=>bif x1 then some (true,())else bif decide (x0>=65)then(f257_c0 (x0,decide (x0<=90),())).bind λv=>some (v.1,())else(f257_c0 (x0,false,())).bind λv=>some (v.1,())
theorem h257_c1(f257_c0:T257_c0):jd qu 0 (subc (code f257) [1,0,0,0,1]) (N257_c1 f257_c0) yq xj (F257_c1 f257_c0):=λv=>by kernel_rfl
def C257_c1:T257_c1:=F257_c1 C257_c0
theorem k257_c1:ql 0 (subc (code f257) [1,0,0,0,1]) (E257_c1 C257_c1) :=
 zc kn (And.intro k257_c0 trivial) (h257_c1 C257_c0)
def N257(f257_c1:T257_c1):Ann:=(.seq .nil (.seq (.blk (.seq (.cut .nil (E257_c1 f257_c1)) .nil)) .nil))
def F257(f257_c1:T257_c1):T257:=λ(x0,_)=>bif decide (x0>=97)then(f257_c1 (x0,decide (x0<=122),())).bind λv=>bif v.1 then some (false,())else some (true,())else(f257_c1 (x0,false,())).bind λv=>bif v.1 then some (false,())else some (true,())
def C257:T257:=F257 C257_c1
theorem ok257:FO 257 (E257 C257):=ji jo qe qu N257 F257 C257_c1 kn func257 (And.intro k257_c1 trivial)
abbrev T132_l0:=Bool×(qa×Int)×Unit->Option ((Int×Unit)⊕Unit)
def E132_l0(f:T132_l0):LEnt:=⟨q1n,xk,f⟩
abbrev T132:=qa×Bool×Unit->Option (Int×Unit)
def E132(f:T132):FEnt:=⟨q1m,qf,f⟩
def K132(f257:T257):=lk [(257,E257 f257)]
theorem kok132:KOk prog (K132 C257):=(kc ok257 kn)
def F132_l0(f257:T257):qn (Bool×(qa×Int)×Unit) ((Int×Unit)⊕Unit):=λ(x0,x1,_)=>bif decide (Int.toNat x1.2<List.length x1.1)then(f257 ((↑(decR x1.1 (Int.toNat x1.2)).1:Int),())).bind λv=>bif v.1==x0 then some (Sum.inr (Sum.inl ((↑(Int.toNat x1.2):Int),())))else some (Sum.inl (x0,(x1.1,(↑(Int.toNat x1.2+(decR x1.1 (Int.toNat x1.2)).2):Int)),()))else some (Sum.inr (Sum.inr ()))
def C132_l0:T132_l0:=loopN (F132_l0 C257) big
theorem k132_l0:qg 0 (subc (code f132) [1,0,1,0,0]) (E132_l0 C132_l0):=zg q1n xk K132 F132_l0 C257 kok132
def N132(f132_l0:T132_l0):Ann:=(.seq .nil (.seq (.seq .nil (.blk (.loop (E132_l0 f132_l0)))) .nil))
def F132(f257:T257)(f132_l0:T132_l0):T132:=λ(x0,x1,_)=>(f132_l0 (x1,(x0,(↑0:Int)),())).bind λv=>Sum.elim (λv=>some (v.1,())) (λv=>some (-1,())) v
def C132:T132:=F132 C257 C132_l0
theorem ok132:FO 132 (E132 C132):=qx q1m qf K132 N132 F132 C257 C132_l0 kok132 func132 (And.intro k132_l0 trivial)
abbrev T109:=qa×Unit->Option (Int×Unit)
def E109(f:T109):FEnt:=⟨yr,qf,f⟩
def K109(f132:T132):=lk [(132,E132 f132)]
def F109(f132:T132):T109:=λ(x0,_)=>(f132 (x0,true,())).bind λv=>some (v.1,())
def C109:T109:=F109 C132
theorem ok109:FO 109 (E109 C109):=qz yr qf K109 F109 C132 (kc ok132 kn) func109
abbrev T70:=qa×Unit->Option (Bool×Unit)
def E70(f:T70):FEnt:=⟨yr,qe,f⟩
def K70(f109:T109):=lk [(109,E109 f109)]
def F70(f109:T109):T70:=λ(x0,_)=>(f109 (x0,())).bind λv=>some (decide (v.1>=0),())
def C70:T70:=F70 C109
theorem ok70:FO 70 (E70 C70):=qz yr qe K70 F70 C109 (kc ok109 kn) func70
abbrev T256:=qa×Unit->Option (Bool×qa×Unit)
def E256(f:T256):FEnt:=⟨jk,jl,f⟩
def K256(f70:T70):=lk [(70,E70 f70)]
def F256(f70:T70):T256:=λ(x0,_)=>(f70 (x0,())).bind λv=>some (v.1,x0,())
theorem h256(f70:T70):qp (K256 f70) 1 f256 .nil jk jl (F256 f70):=λv=>by kernel_rfl
def C256:T256:=F256 C70
theorem ok256:FO 256 (E256 C256) :=
 q0 (kc ok70 kn) func256 (h256 C70)
abbrev T258:=qa×Unit->Option (Bool×qa×Unit)
def E258(f:T258):FEnt:=⟨jk,jl,f⟩
def K258(f247:T247):=lk [(247,E247 f247)]
def F258(f247:T247):T258:=λ(x0,_)=>(f247 (x0,())).bind λv=>some (v.1,x0,())
theorem h258(f247:T247):qp (K258 f247) 1 f258 .nil jk jl (F258 f247):=λv=>by kernel_rfl
def C258:T258:=F258 C247
theorem ok258:FO 258 (E258 C258) :=
 q0 (kc ok247 kn) func258 (h258 C247)
abbrev T242v1:=Int×Int×Int×Int×qa×Unit->Option (Int×Int×Int×Int×Int×qa×Unit)
def E242v1(f:T242v1):FEnt:=⟨q1o,q5t,f⟩
def K242v1(f254:T254)(f255:T255)(f256:T256)(f258:T258):=lk [(254,E254 f254),(255,E255 f255),(256,E256 f256),(258,E258 f258)]
def N242v1:Ann:=(.seq .nil (.seq (.seq .nil (.blk (.unroll 6 .nil))) .nil))
def F242v1(f254:T254)(f255:T255)(f256:T256)(f258:T258):T242v1:=λ(x0,x1,x2,x3,x4,_)=>(f254 (x4,())).bind λv=>bif v.1 then some (x0,x0,x1,x2,x3,v.2.1,())else(f255 (v.2.1,())).bind λv=>bif v.1 then some (x1,x0,x1,x2,x3,v.2.1,())else(f256 (v.2.1,())).bind λv=>bif v.1 then some (x2,x0,x1,x2,x3,v.2.1,())else(f258 (v.2.1,())).bind λv=>bif v.1 then some (x3,x0,x1,x2,x3,v.2.1,())else some (0,x0,x1,x2,x3,v.2.1,())
theorem h242v1(f254:T254)(f255:T255)(f256:T256)(f258:T258):qp (K242v1 f254 f255 f256 f258) 2 f242 N242v1 q1o q5t (F242v1 f254 f255 f256 f258):=λv=>by kernel_rfl
def C242v1:T242v1:=F242v1 C254 C255 C256 C258
theorem ok242v1:FO 242 (E242v1 C242v1) :=
 qo (kc ok254 (kc ok255 (kc ok256 (kc ok258 kn)))) func242 trivial (h242v1 C254 C255 C256 C258)
abbrev T208:=qa×Unit->Option (Int×Unit)
def E208(f:T208):FEnt:=⟨qq,qf,f⟩
def K208(f242v1:T242v1):=lk [(242,E242v1 f242v1)]
def F208(f242v1:T242v1):T208:=λ(x0,_)=>(f242v1 (13,5,8,11,x0,())).bind λv=>some (v.1,())
def C208:T208:=F208 C242v1
theorem ok208:FO 208 (E208 C208):=qz qq qf K208 F208 C242v1 (kc ok242v1 kn) func208
abbrev T290_l0:=qa×Int×Int×Unit->Option (Unit⊕(Int×Unit))
def E290_l0(f:T290_l0):LEnt:=⟨q1p,jn,f⟩
abbrev T290:=qa×Int×Unit->Option (Int×Unit)
def E290(f:T290):FEnt:=⟨zi,qf,f⟩
def F290_l0:qn (qa×Int×Int×Unit) (Unit⊕(Int×Unit)):=λ(x0,x1,x2,_)=>bif decide (x2>=0)then bif decide (0<=x2)&&decide (x2<(↑x0.length:Int))then bif(↑(x0.getD x2.toNat 0).toNat:Int)==x1 then some (Sum.inr (Sum.inr (x2,())))else some (Sum.inl (x0,x1,IntKind.i64.wrap (x2-1),()))else none else some (Sum.inr (Sum.inl ()))
def C290_l0:T290_l0:=loopN (F290_l0) big
theorem k290_l0:qg 0 (subc (code f290) [1,0,1,0,0]) (E290_l0 C290_l0):=zl0 q1p jn qu F290_l0 kn
def N290(f290_l0:T290_l0):Ann:=(.seq .nil (.seq (.seq .nil (.blk (.loop (E290_l0 f290_l0)))) .nil))
def F290(f290_l0:T290_l0):T290:=λ(x0,x1,_)=>(f290_l0 (x0,x1,IntKind.i64.wrap ((↑x0.length:Int)-1),())).bind λv=>Sum.elim (λv=>some (-1,())) (λv=>some (v.1,())) v
def C290:T290:=F290 C290_l0
theorem ok290:FO 290 (E290 C290):=ji zi qf qu N290 F290 C290_l0 kn func290 (And.intro k290_l0 trivial)
abbrev T259:=qa×Int×Unit->Option (Int×Unit)
def E259(f:T259):FEnt:=⟨zi,qf,f⟩
def K259(f290:T290):=lk [(290,E290 f290)]
def F259(f290:T290):T259:=λ(x0,x1,_)=>(f290 (x0,x1,())).bind λv=>some (v.1,())
def C259:T259:=F259 C290
theorem ok259:FO 259 (E259 C259):=qz zi qf K259 F259 C290 (kc ok290 kn) func259
abbrev T291_c0:=Int×Bool×Unit->Option ((Int×Bool×Unit)⊕Unit)
def E291_c0(f:T291_c0):LEnt:=⟨q1q,xl,f⟩
abbrev T291_c1:=Int×Bool×Unit->Option ((Int×Bool×Unit)⊕Unit)
def E291_c1(f:T291_c1):LEnt:=⟨q1r,xl,f⟩
abbrev T291:=Int×Unit->Option (Int×Bool×Unit)
def E291(f:T291):FEnt:=⟨zj,xg,f⟩
def F291_c0:T291_c0:=λ(x0,x1,_)=>bif x1 then some (Sum.inl (IntKind.i64.wrap (IntKind.u8.wrap (x0-65)),true,()))else bif decide (x0>=97)then bif decide (x0<=122)then some (Sum.inl (IntKind.i64.wrap (IntKind.u8.wrap (x0-97)),true,()))else some (Sum.inr ())else some (Sum.inr ())
theorem h291_c0:jd qu 0 (subc (code f291) [1,0,0,1,1,1]) .nil q1q xl (F291_c0):=λv=>by kernel_rfl
def C291_c0:T291_c0:=F291_c0
theorem k291_c0:ql 0 (subc (code f291) [1,0,0,1,1,1]) (E291_c0 C291_c0) :=
 yc kn (h291_c0)
def N291_c1(f291_c0:T291_c0):Ann:=(.cond .nil (.cut .nil (E291_c0 f291_c0)))
def F291_c1(f291_c0:T291_c0):T291_c1:=λ(x0,x1,_)=>bif x1 then some (Sum.inl (IntKind.i64.wrap (IntKind.i64.wrap (IntKind.u8.wrap (x0-48))+26),true,()))else bif decide (x0>=65)then(f291_c0 (x0,decide (x0<=90),())).bind λv=>Sum.elim (λv=>some (Sum.inl (v.1,v.2.1,()))) (λv=>some (Sum.inr ())) v else(f291_c0 (x0,false,())).bind λv=>Sum.elim (λv=>some (Sum.inl (v.1,v.2.1,()))) (λv=>some (Sum.inr ())) v
theorem h291_c1(f291_c0:T291_c0):jd qu 0 (subc (code f291) [1,0,0,1]) (N291_c1 f291_c0) q1r xl (F291_c1 f291_c0):=λv=>by kernel_rfl
def C291_c1:T291_c1:=F291_c1 C291_c0
theorem k291_c1:ql 0 (subc (code f291) [1,0,0,1]) (E291_c1 C291_c1) :=
 zc kn (And.intro k291_c0 trivial) (h291_c1 C291_c0)
def N291(f291_c1:T291_c1):Ann:=(.seq .nil (.seq (.blk (.cut .nil (E291_c1 f291_c1))) .nil))
def F291(f291_c1:T291_c1):T291:=λ(x0,_)=>bif decide (x0>=48)then(f291_c1 (x0,decide (x0<=57),())).bind λv=>Sum.elim (λv=>some (v.1,v.2.1,())) (λv=>some (0,false,())) v else(f291_c1 (x0,false,())).bind λv=>Sum.elim (λv=>some (v.1,v.2.1,())) (λv=>some (0,false,())) v
def C291:T291:=F291 C291_c1
theorem ok291:FO 291 (E291 C291):=ji zj xg qu N291 F291 C291_c1 kn func291 (And.intro k291_c1 trivial)
abbrev T260_l0:=qa×Int×Int×Int×Int×Int×Unit->Option (Unit⊕Unit⊕(Int×qa×Unit))
def E260_l0(f:T260_l0):LEnt:=⟨q1s,q5v,f⟩
abbrev T260_g0:=Unit->Option (Int×qa×Unit)
def E260_g0(f:T260_g0):LEnt:=⟨zm,xm,f⟩
abbrev T260:=qa×Int×Unit->Option (Int×qa×Unit)
def E260(f:T260):FEnt:=⟨yt,q5u,f⟩
def K260(f287:T287)(f291:T291):=lk [(287,E287 f287),(291,E291 f291)]
theorem kok260:KOk prog (K260 C287 C291):=(kc ok287 (kc ok291 kn))
def F260_l0(f287:T287)(f291:T291):qn (qa×Int×Int×Int×Int×Int×Unit) (Unit⊕Unit⊕(Int×qa×Unit)):=λ(x0,x1,x2,x3,x4,x5,_)=>bif decide (x5<x4)then bif decide (0<=x5)&&decide (x5<(↑x0.length:Int))then(f291 ((↑(x0.getD x5.toNat 0).toNat:Int),())).bind λv=>bif !v.2.1 then some (Sum.inr (Sum.inr (Sum.inl ())))else bif decide (x3>2147483647)then some (Sum.inr (Sum.inr (Sum.inl ())))else bif decide (IntKind.i64.wrap (x2+IntKind.i64.wrap (v.1*x3))>2147483647)then some (Sum.inr (Sum.inr (Sum.inl ())))else(f287 (IntKind.i64.wrap (36*IntKind.i64.wrap (x5+1)),x1,())).bind λv1=>bif decide (v.1<v1.1)then bif decide (0<=IntKind.i64.wrap (x5+1))&&decide (IntKind.i64.wrap (x5+1)<=(↑x0.length:Int))then some (Sum.inr (Sum.inr (Sum.inr (IntKind.i64.wrap (x2+IntKind.i64.wrap (v.1*x3)),List.drop (IntKind.i64.wrap (x5+1)).toNat x0,()))))else none else some (Sum.inl (x0,x1,IntKind.i64.wrap (x2+IntKind.i64.wrap (v.1*x3)),IntKind.i64.wrap (x3*IntKind.i64.wrap (36-v1.1)),x4,IntKind.i64.wrap (x5+1),()))else none else some (Sum.inr (Sum.inl ()))
def C260_l0:T260_l0:=loopN (F260_l0 C287 C291) big
theorem k260_l0:qg 0 (subc (code Tryz.f260) [1,0,1,0,1,0,0]) (E260_l0 C260_l0):=kl q1s q5v K260 F260_l0 C287 C291 kok260
def F260_g0(f287:T287)(f291:T291):qn (Unit) (Int×qa×Unit):=λ(_)=>some (Sum.inr (-1,[],()))
theorem h260_g0(f287:T287)(f291:T291)(v:HS zm):aev Γ (K260 f287 f291) 0 ((findLabel (subc (code Tryz.f260) [1,0]) 0).getD .skip) .nil (stof zm v) (aroundL 0 0 [] zm xm)=F260_g0 f287 f291 v:=by kernel_rfl
def C260_g0:T260_g0:=loopN (F260_g0 C287 C291) big
theorem k260_g0:FragOk prog 0 (ScopeFrom prog (subc (code Tryz.f260) [1,0]) 0) (E260_g0 C260_g0) :=
 frag_big (ins:=zm) (os:=xm) (C:=C260_g0) (frag_label (ins:=zm) (os:=xm) (n := .nil) (ls:=[]) (F:=F260_g0 C287 C291) (rest:=((findLabel (subc (code Tryz.f260) [1,0]) 0).getD .skip)) hm hΓ kok260 (λ_=>big) (by kernel_rfl) (ann_nil _) find_nil (h260_g0 C287 C291)) rfl
def N260(f260_g0:T260_g0)(f260_l0:T260_l0):Ann:=(.seq .nil (.scope (.seq .nil (.seq (.seq .nil (.blk (.loop (E260_l0 f260_l0)))) .nil)) [(0,(E260_g0 f260_g0))]))
def F260(f287:T287)(f291:T291)(f260_g0:T260_g0)(f260_l0:T260_l0):T260:=λ(x0,x1,_)=>(f260_l0 (x0,x1,0,1,(↑x0.length:Int),0,())).bind λv=>Sum.elim (λv=>some (-1,[],())) (λv=>Sum.elim (λv=>(f260_g0 ()).bind λv=>some (v.1,v.2.1,())) (λv=>some (v.1,v.2.1,())) v) v
theorem h260(f287:T287)(f291:T291)(f260_g0:T260_g0)(f260_l0:T260_l0):qp (K260 f287 f291) 0 Tryz.f260 (N260 f260_g0 f260_l0) yt q5u (F260 f287 f291 f260_g0 f260_l0):=λv=>by kernel_rfl
def C260:T260:=F260 C287 C291 C260_g0 C260_l0
theorem ok260:FO 260 (E260 C260) :=
 qo kok260 func260 (And.intro k260_l0 (And.intro k260_g0 trivial)) (h260 C287 C291 C260_g0 C260_l0)
abbrev T209_l0:=qa×Int×Int×Int×Bool×List (Int)×Unit->Option ((List (Int)×Unit)⊕(Bool×Unit))
def E209_l0(f:T209_l0):LEnt:=⟨q1t,q5x,f⟩
abbrev T209_c0:=qa×List (Int)×Unit->Option (Bool×List (Int)×Unit)
def E209_c0(f:T209_c0):LEnt:=⟨q1u,q5y,f⟩
abbrev T209:=qa×Unit->Option (List (Int)×Bool×Unit)
def E209(f:T209):FEnt:=⟨qq,q5w,f⟩
def K209(f125:T125)(f22:T22)(f241:T241)(f259:T259)(f260:T260)(f261:T261):=lk [(125,E125 f125),(22,E22 f22),(241,E241 f241),(259,E259 f259),(260,E260 f260),(261,E261 f261)]
theorem kok209:KOk prog (K209 C125 C22 C241 C259 C260 C261):=(kc ok125 (kc ok22 (kc ok241 (kc ok259 (kc ok260 (kc ok261 kn))))))
def F209_l0(f125:T125)(f22:T22)(f241:T241)(f259:T259)(f260:T260)(f261:T261):qn (qa×Int×Int×Int×Bool×List (Int)×Unit) ((List (Int)×Unit)⊕(Bool×Unit)):=λ(x0,x1,x2,x3,x4,x5,_)=>bif !x0==[]then(f260 (x0,x3,())).bind λv=>bif decide (v.1<0)then some (Sum.inr (Sum.inr (false,())))else bif decide (IntKind.i64.wrap (x2+v.1)>2147483647)then some (Sum.inr (Sum.inr (false,())))else(f241 (v.1,IntKind.i64.wrap ((↑x5.length:Int)+1),x4,())).bind λv1=>bif IntKind.i64.wrap ((↑x5.length:Int)+1) != 0 then bif decide (IntKind.i64.wrap (x1+IntKind.i64.wrap ((IntKind.i64.wrap (x2+v.1)).tdiv (IntKind.i64.wrap ((↑x5.length:Int)+1))))>1114111)then some (Sum.inr (Sum.inr (false,())))else(f125 (IntKind.i32.wrap (IntKind.i64.wrap (x1+IntKind.i64.wrap ((IntKind.i64.wrap (x2+v.1)).tdiv (IntKind.i64.wrap ((↑x5.length:Int)+1))))),())).bind λv2=>bif !v2.1 then some (Sum.inr (Sum.inr (false,())))else bif IntKind.i64.wrap ((↑x5.length:Int)+1) != 0 then(f261 ((IntKind.i64.wrap (x2+v.1)).tmod (IntKind.i64.wrap ((↑x5.length:Int)+1)),x5,[IntKind.i32.wrap (IntKind.i64.wrap (x1+IntKind.i64.wrap ((IntKind.i64.wrap (x2+v.1)).tdiv (IntKind.i64.wrap ((↑x5.length:Int)+1)))))],())).bind λv3=>some (Sum.inl (v.2.1,IntKind.i64.wrap (x1+IntKind.i64.wrap ((IntKind.i64.wrap (x2+v.1)).tdiv (IntKind.i64.wrap ((↑x5.length:Int)+1)))),IntKind.i64.wrap ((IntKind.i64.wrap (x2+v.1)).tmod (IntKind.i64.wrap ((↑x5.length:Int)+1))+1),v1.1,false,v3.1,()))else none else none else some (Sum.inr (Sum.inl (x5,())))
theorem h209_l0(f125:T125)(f22:T22)(f241:T241)(f259:T259)(f260:T260)(f261:T261):jv (K209 f125 f22 f241 f259 f260 f261) 0 (subc (code f209) [1,1,1,1,1,0,1,0,0]) .nil q1t q5x (F209_l0 f125 f22 f241 f259 f260 f261):=λv=>by kernel_rfl
def C209_l0:T209_l0:=loopN (F209_l0 C125 C22 C241 C259 C260 C261) big
theorem k209_l0:qg 0 (subc (code f209) [1,1,1,1,1,0,1,0,0]) (E209_l0 C209_l0) :=
 frl kok209 (h209_l0 C125 C22 C241 C259 C260 C261)
def N209_c0(f209_l0:T209_l0):Ann:=(.seq .nil (.seq (.seq .nil (.blk (.loop (E209_l0 f209_l0)))) .nil))
def F209_c0(f125:T125)(f22:T22)(f241:T241)(f259:T259)(f260:T260)(f261:T261)(f209_l0:T209_l0):T209_c0:=λ(x0,x1,_)=>(f209_l0 (x0,128,0,72,true,x1,())).bind λv=>Sum.elim (λv=>some (true,v.1,())) (λv=>some (v.1,[],())) v
theorem h209_c0(f125:T125)(f22:T22)(f241:T241)(f259:T259)(f260:T260)(f261:T261)(f209_l0:T209_l0):jd (K209 f125 f22 f241 f259 f260 f261) 0 (subc (code f209) [1,1,1,1]) (N209_c0 f209_l0) q1u q5y (F209_c0 f125 f22 f241 f259 f260 f261 f209_l0):=λv=>by kernel_rfl
def C209_c0:T209_c0:=F209_c0 C125 C22 C241 C259 C260 C261 C209_l0
theorem k209_c0:ql 0 (subc (code f209) [1,1,1,1]) (E209_c0 C209_c0) :=
 zc kok209 (And.intro k209_l0 trivial) (h209_c0 C125 C22 C241 C259 C260 C261 C209_l0)
def N209(f209_c0:T209_c0):Ann:=(.seq .nil (.seq .nil (.seq .nil (.cut .nil (E209_c0 f209_c0)))))
def F209(f125:T125)(f22:T22)(f241:T241)(f259:T259)(f260:T260)(f261:T261)(f209_c0:T209_c0):T209:=λ(x0,_)=>(f22 (x0,())).bind λv=>bif decide (v.1>=0)then some ([],false,())else(f259 (x0,45,())).bind λv=>bif decide (v.1>0)then bif decide (0<=v.1)&&decide (v.1<=(↑x0.length:Int))then bif decide ((List.take (Int.toNat v.1) x0).length<=70368744177664)&&(List.take (Int.toNat v.1) x0).all λb=>decide (b.toNat<128)then bif decide (0<=IntKind.i64.wrap (v.1+1))&&decide (IntKind.i64.wrap (v.1+1)<=(↑x0.length:Int))then(f209_c0 (List.drop (IntKind.i64.wrap (v.1+1)).toNat x0,List.map (λb=>(↑b.toNat:Int)) (List.take (Int.toNat v.1) x0),())).bind λv=>some (v.2.1,v.1,())else none else none else none else(f209_c0 (x0,[],())).bind λv=>some (v.2.1,v.1,())
theorem h209(f125:T125)(f22:T22)(f241:T241)(f259:T259)(f260:T260)(f261:T261)(f209_c0:T209_c0):qp (K209 f125 f22 f241 f259 f260 f261) 0 f209 (N209 f209_c0) qq q5w (F209 f125 f22 f241 f259 f260 f261 f209_c0):=λv=>by kernel_rfl
def C209:T209:=F209 C125 C22 C241 C259 C260 C261 C209_c0
theorem ok209:FO 209 (E209 C209) :=
 qo kok209 func209 (And.intro k209_c0 trivial) (h209 C125 C22 C241 C259 C260 C261 C209_c0)
abbrev T170:=qb×qc×qd×qa×Unit->Option (qa×qa×Int×Unit)
def E170(f:T170):FEnt:=⟨jg,q8b,f⟩
def K170(f113:T113)(f151:T151)(f180:T180)(f206:T206)(f207:T207)(f208:T208)(f209:T209)(f22:T22)(f65:T65):=lk [(113,E113 f113),(151,E151 f151),(180,E180 f180),(206,E206 f206),(207,E207 f207),(208,E208 f208),(209,E209 f209),(22,E22 f22),(65,E65 f65)]
def F170(f113:T113)(f151:T151)(f180:T180)(f206:T206)(f207:T207)(f208:T208)(f209:T209)(f22:T22)(f65:T65):T170:=λ(x0,x1,x2,x3,_)=>(f151 (x0,x1,x2,x3,())).bind λv=>(f113 (v.1,[120,110,45,45],())).bind λv1=>bif !v.2.1 then some ([],[],7,())else(f22 (v.1,())).bind λv2=>bif decide (v2.1>=0)then(f65 (v.1,())).bind λv3=>(f206 (v3.1,())).bind λv4=>bif decide ([120,110,45,45].length+List.length v4.1<=9223372036854775807)then(f207 (x0,x1,x2,v.1,())).bind λv5=>some ([120,110,45,45]++v4.1,v.1,v5.1,())else none else bif !v1.2.1 then(f208 (v.1,())).bind λv3=>some (v.1,v.1,v3.1,())else(f209 (v1.1,())).bind λv3=>bif !v3.2.1 then some ([],[],12,())else bif decide ((↑(List.length v.1):Int)>63)then some ([],[],5,())else(f180 (v3.1,())).bind λv4=>(f207 (x0,x1,x2,v4.1,())).bind λv5=>bif v5.1 != 0 then some ([],[],v5.1,())else(f206 (v3.1,())).bind λv6=>bif !v6.1==v1.1 then some ([],[],12,())else some (v.1,v4.1,0,())
theorem h170(f113:T113)(f151:T151)(f180:T180)(f206:T206)(f207:T207)(f208:T208)(f209:T209)(f22:T22)(f65:T65):qp (K170 f113 f151 f180 f206 f207 f208 f209 f22 f65) 0 f170 .nil jg q8b (F170 f113 f151 f180 f206 f207 f208 f209 f22 f65):=λv=>by kernel_rfl
def C170:T170:=F170 C113 C151 C180 C206 C207 C208 C209 C22 C65
theorem ok170:FO 170 (E170 C170) :=
 q0 (kc ok113 (kc ok151 (kc ok180 (kc ok206 (kc ok207 (kc ok208 (kc ok209 (kc ok22 (kc ok65 kn))))))))) func170 (h170 C113 C151 C180 C206 C207 C208 C209 C22 C65)
abbrev T142:=qb×qc×qd×qa×Unit->Option (qa×Int×Unit)
def E142(f:T142):FEnt:=⟨jg,jr,f⟩
def K142(f170:T170):=lk [(170,E170 f170)]
def F142(f170:T170):T142:=λ(x0,x1,x2,x3,_)=>(f170 (x0,x1,x2,x3,())).bind λv=>bif v.2.2.1 != 0 then some ([],v.2.2.1,())else some (v.1,0,())
def C142:T142:=F142 C170
theorem ok142:FO 142 (E142 C142):=qz jg jr K142 F142 C170 (kc ok170 kn) func142
abbrev T143:=qb×qc×qd×qa×Unit->Option (qa×Int×Unit)
def E143(f:T143):FEnt:=⟨jg,jr,f⟩
def K143(f170:T170):=lk [(170,E170 f170)]
def F143(f170:T170):T143:=λ(x0,x1,x2,x3,_)=>(f170 (x0,x1,x2,x3,())).bind λv=>bif v.2.2.1 != 0 then some ([],v.2.2.1,())else some (v.2.1,0,())
def C143:T143:=F143 C170
theorem ok143:FO 143 (E143 C143):=qz jg jr K143 F143 C170 (kc ok170 kn) func143
abbrev T97:=qa×Int×Unit->Option (Int×Unit)
def E97(f:T97):FEnt:=⟨zi,qf,f⟩
def K97(f126:T126):=lk [(126,E126 f126)]
def F97(f126:T126):T97:=λ(x0,x1,_)=>(f126 (x0,x1,())).bind λv=>some (v.1,())
def C97:T97:=F97 C126
theorem ok97:FO 97 (E97 C97):=qz zi qf K97 F97 C126 (kc ok126 kn) func97
abbrev T160_c0:=qa×qa×Int×Bool×Unit->Option (Int×Unit)
def E160_c0(f:T160_c0):LEnt:=⟨q1v,q5z,f⟩
abbrev T160:=qa×qa×Unit->Option (Int×Unit)
def E160(f:T160):FEnt:=⟨jb,qf,f⟩
def K160(f97:T97):=lk [(97,E97 f97)]
theorem kok160:KOk prog (K160 C97):=(kc ok97 kn)
def F160_c0(f97:T97):T160_c0:=λ(x0,x1,x2,x3,_)=>bif x3 then some (0,())else bif x2==1 then bif decide (0<(↑x1.length:Int))then(f97 (x0,(↑(x1.getD 0 0).toNat:Int),())).bind λv=>some (v.1,())else none else bif decide (x2>=(↑x0.length:Int))then some (-1,())else none
theorem h160_c0(f97:T97):jd (K160 f97) 0 (subc (code f160) [1,1,0,0,1]) .nil q1v q5z (F160_c0 f97):=λv=>by kernel_rfl
def C160_c0:T160_c0:=F160_c0 C97
theorem k160_c0:ql 0 (subc (code f160) [1,1,0,0,1]) (E160_c0 C160_c0) :=
 yc kok160 (h160_c0 C97)
def N160(f160_c0:T160_c0):Ann:=(.seq .nil (.seq .nil (.seq (.blk (.cut .nil (E160_c0 f160_c0))) .nil)))
def F160(f97:T97)(f160_c0:T160_c0):T160:=λ(x0,x1,_)=>bif(↑x1.length:Int)==0 then(f160_c0 (x0,x1,(↑x1.length:Int),true,())).bind λv=>some (v.1,())else(f160_c0 (x0,x1,(↑x1.length:Int),x1==x0,())).bind λv=>some (v.1,())
def C160:T160:=F160 C97 C160_c0
theorem ok160:FO 160 (E160 C160):=qx jb qf K160 N160 F160 C97 C160_c0 kok160 func160 (And.intro k160_c0 trivial)
abbrev T127:=qa×qa×Unit->Option (qa×qa×Bool×Unit)
def E127(f:T127):FEnt:=⟨jb,zp,f⟩
def K127(f160:T160):=lk [(160,E160 f160)]
def F127(f160:T160):T127:=λ(x0,x1,_)=>(f160 (x0,x1,())).bind λv=>bif decide (v.1>=0)then bif decide (0<=v.1)&&decide (v.1<=(↑x0.length:Int))then bif decide (0<=IntKind.i64.wrap (v.1+(↑x1.length:Int)))&&decide (IntKind.i64.wrap (v.1+(↑x1.length:Int))<=(↑x0.length:Int))then some (List.take (Int.toNat v.1) x0,List.drop (IntKind.i64.wrap (v.1+(↑x1.length:Int))).toNat x0,true,())else none else none else some (x0,[],false,())
def C127:T127:=F127 C160
theorem ok127:FO 127 (E127 C127):=qz jb zp K127 F127 C160 (kc ok160 kn) func127
abbrev T98:=qa×qa×Unit->Option (qa×qa×Bool×Unit)
def E98(f:T98):FEnt:=⟨jb,zp,f⟩
def K98(f127:T127):=lk [(127,E127 f127)]
def F98(f127:T127):T98:=λ(x0,x1,_)=>(f127 (x0,x1,())).bind λv=>some (v.1,v.2.1,v.2.2.1,())
def C98:T98:=F98 C127
theorem ok98:FO 98 (E98 C98):=qz jb zp K98 F98 C127 (kc ok127 kn) func98
end Go.Proofs.YtgkmfhhghcccjaaGreatDoorA.W
namespace Go.Proofs.YtgkmfhhghcccjaaGreatDoorA.W
open Go Go.Ae Go.RowKit
attribute [local go_sem] Oper.semAt_some
theorem cut_call{s sep l r:List UInt8}{ok:Bool}(h:C98 (s,sep,())=some (l,r,ok,())){w:World}(hg:GI w m0) :
 Calls prog 98 #[.string ⟨⟨s⟩⟩,.string ⟨⟨sep⟩⟩] w λe w'=>e = .returned (.tuple #[.string ⟨⟨l⟩⟩,.string ⟨⟨r⟩⟩,.bool ok])/\Below w.heap.size w w':=by
 refine(FnOk.call0 (v:=(s,sep,())) (y:=(l,r,ok,())) ok98 func98 (by kernel_rfl) (by kernel_rfl) hg (λ_ h=>h.elim) rfl ⟨_,_,rfl,rfl,_,_,rfl,rfl,rfl⟩ rfl h ?_).mono λe w' ⟨rv,h1,h2,ax,l',u,h3,h4⟩ => ?_
 . intro ax l' u h3
   cases osel_one_inv h3;rfl
 . cases osel_one_inv h3
   obtain⟨v,r',e1,⟨a,e2,e3⟩,e4⟩:=h4;have e4':r'=[]:=e4;subst e4';cases e1;subst h1 e2;refine⟨?_,h2⟩;obtain⟨v1,q1,f1,rfl,v2,q2,f2,rfl,v3,q3,f3,rfl,f4⟩:=e3;have f4':q3=[]:=f4;subst f4' f3 f2;cases a;cases f1;rfl
def partsC:Nat->List UInt8->Option (List (List UInt8))
 | 0,_=>none
 | n+1,s=>(C98 (s,[46],())).bind λa=>bif a.2.2.1 then(partsC n a.2.1).map (a.1 :: ·)else some [a.1]
theorem box_of_block{W W':World}{b:Nat}{t:TypeId}{v:Value}(h:Boxed W b t v)(hk:W'.heap[b]? = W.heap[b]?):Boxed W' b t v:=hk.trans h
set_option maxHeartbeats 4000000 in
theorem parts_seq(n:Nat)(hn:1<=n)(Bs:Nat)(s:List UInt8)(xs:List (List UInt8))(N:Nat)(hxs:partsC N s=some xs)(w:World)(hb:Boxed w Bs 9 (.string ⟨⟨s⟩⟩))(hg:GI w m0)(hnb:∀b∈GlobB,b≠Bs) :
 SeqD Fence.wide n prog 205 #[.pointer (some ⟨Bs,0,none⟩)] (λx:List UInt8 => #[.string ⟨⟨x⟩⟩]) (λb=>b=Bs\/b∈GlobB) Bs xs w:=by
 intro l J Jx W hW hJ hJx hY h0;have hb':Boxed W Bs 9 (.string ⟨⟨s⟩⟩):=(hW.block Bs hb.lt).trans hb;have hg':GI W m0:=gi_below hg hW;refine callsIn_of_wp func205 rfl trivial ?_ rfl;simp only[ntmps205,size_toArray,length_cons,length_nil,reduceAdd,reduceSub,replicate_succ,replicate_zero,push_toArray,append_toArray,nil_append,cons_append]
 gi_wp2
 gi_loopg [] N (λk wr=>∃(pre t:List (List UInt8)) (rest:List UInt8),xs=pre++t/\partsC k rest=some t/\J pre wr/\Boxed wr Bs 9 (.string ⟨⟨rest⟩⟩)/\GI wr m0)
 case atStart=>exact⟨[],xs,s,rfl,hxs,h0,hb',hg'⟩
 case round =>
  rename_i JJ KK hJJ hKK;obtain⟨pre,t,rest,hx,hp,hJs,hbx,hgr⟩:=hrel;cases gk with
  | zero=>cases hp
  | succ k =>
   simp only[partsC]at hp;obtain⟨⟨lf,rt,ok,u⟩,hc,hp2⟩:=bind_eq_some_iff.1 hp;simp only at hp2;have hcell:=hbx.cell;have hpre:pre++[lf] <+: xs:=by
    rw[hx];cases ok with
    | true =>
     obtain⟨t',h1,rfl⟩:=map_eq_some_iff.1 hp2;exact⟨t',by simp⟩
    | false =>
     have:t=[lf]:=(Option.some.inj hp2).symm;exact⟨[],by simp[this]⟩
   gi_wp2_with (refine⟨trivial,?_⟩;gi_at_call 98;refine(callsIn_wide.2 (cut_call hc hgr)).mono ?_;rintro e w' ⟨rfl,hbel⟩;obtain⟨fn,tmps,assign,body,hy,hR⟩:=hY pre lf w' hpre (hJ _ _ _ hJs (Oth.of_below hbel)))
   refine hR.mono ?_;rintro e W3 (⟨rfl,hJ3,hs3,hk3⟩|⟨rfl,hJx3⟩)
   . have hbx3:Boxed W3 Bs 9 (.string ⟨⟨rest⟩⟩):=(hk3 Bs (.inl rfl)).trans ((hbel.block Bs hbx.lt).trans hbx)
     have hg3:GI W3 m0:=gi_keep (gi_below hgr hbel) hs3 λb hb=>hk3 b (.inr hb);have hc3:=hbx3.cell;have hf3:=hbx3.frozen;cases ok with
     | true =>
      obtain⟨t',h1,rfl⟩:=map_eq_some_iff.1 hp2
      gi_wp2
      gi_roundg k
      case rel=>exact⟨pre++[lf],t',rt,by simp[hx],h1,hJ _ _ _ hJ3 (Oth.set Bs 0 W3 _),Boxed.set _ hbx3,gi_keep hg3 (by simp) λb hb=>Below.heap_setCell _ _ _ _ (hnb b hb)⟩
      case measure=>omega
     | false =>
      have ht:t=[lf]:=(Option.some.inj hp2).symm;subst ht
      gi_wp2
      refine bodyPost_ret (results_none rfl _ _ _) rfl ?_;exact⟨⟨_,rfl⟩,.inl (hx▸hJ3)⟩
   . gi_wp2
     refine bodyPost_ret (results_none rfl _ _ _) rfl ?_;exact⟨⟨_,rfl⟩,.inr ⟨_,hpre,hJx3⟩⟩
def encS(x:List UInt8):Value := .string ⟨⟨x⟩⟩
theorem ownsRow_oth{N Bs base:Nat}{A B:World}{e:TypeId}{size k:Nat}{v:Value}{xs:List Value}(hBs:Bs<base)(h:A.ownsRow base e size v k xs)(ho:OthR N Bs A B):B.ownsRow base e size v k xs:=by
 refine⟨h.1,?_⟩;rcases h.2 with h|⟨g,cap,cur,e1,h2,h3,h4⟩
 . exact .inl h
 . exact .inr ⟨g,cap,cur,e1,h2,ho.keep g _ h3 (by omega) (.inr rfl),h4⟩
theorem oth_othR{N Bs:Nat}{W0 A B:World}(hN:W0.heap.size<=N)(h:Oth Bs W0 A)(ho:OthR N Bs A B):Oth Bs W0 B :=
 ⟨ho.os.trans h.os,ho.tape.trans h.tape,ho.output.trans h.output,le_trans h.size ho.size,λb hb hne=>by
  have h1:=h.keep b hb hne;obtain⟨o,h2⟩:∃o,W0.heap[b]? = some o:=⟨_,Array.getElem?_eq_getElem hb⟩
  rw[h2]at h1 ⊢;exact ho.keep b o h1 hne (.inl (by omega))⟩
theorem info_string:(prog.info? 9).map (λi=>(i.zero,i.size,i.bytes))=some (some (.string ⟨#[]⟩),1,16):=by kernel_rfl
set_option maxHeartbeats 4000000 in
theorem gather_walk(gf:Nat)(hgf:∀args w,(callFunc gf args).run prog w = .ok (.enter gf args) w)(Bs:Nat)(xs:List (List UInt8))(w:World)(hBs:Bs<w.heap.size)(hg:GI w m0)(hlen:xs.length<=1000000000000)(hseq:∀W,Below w.heap.size w W->SeqD Fence.wide 2 prog gf #[.pointer (some ⟨Bs,0,none⟩)] (λx:List UInt8 => #[Value.string ⟨⟨x⟩⟩]) (λb=>b=Bs\/b∈GlobB) Bs xs W) :
 CallsIn Fence.wide 3 prog 204 #[.slice none 0 0,.func (.func gf) #[] #[.pointer (some ⟨Bs,0,none⟩)]] w λe W' =>
  ∃v,e = .returned v/\W'.ownsRow w.heap.size 9 1 v xs.length (xs.map encS)/\Oth Bs w W':=by
 obtain⟨i0,hi,hz0,hz1,hz2⟩:=info_parts info_string;refine callsIn_of_wp_marks func204 rfl trivial ?_ rfl;simp only[ntmps204,size_toArray,length_cons,length_nil,reduceAdd,reduceSub,replicate_succ,replicate_zero,push_toArray,append_toArray,nil_append,cons_append]
 gi_wp2
 have hB0:Below w.heap.size w (w.alloc (.cells #[.slice none 0 0] 27)):=(Below.refl _ w).alloc (le_refl _) _;refine wpIn_rangeFunc_dir (F:=Fence.wide) rfl (by omega) (gf:=gf) (lb := #[.pointer (some ⟨Bs,0,none⟩)]) rfl trivial hgf (hseq _ hB0)
  (by rintro b (rfl|hb);· (rw[World.size_alloc];omega)
      . (have:=(hg.b b hb).1;rw[World.size_alloc];omega)) (by rw[World.size_alloc];omega) (λ_=>rfl)
  (λpre W=>(∃v,Boxed W w.heap.size 27 v/\W.ownsRow w.heap.size 9 1 v pre.length (pre.map encS))/\Oth Bs w W)
  (λ_ _ _=>False)
  (λs A B hs ho=>by
   obtain⟨⟨v,h1,h2⟩,h3⟩:=hs;exact⟨⟨v,boxed_oth h1 (by omega) ho,ownsRow_oth hBs h2 ho⟩,oth_othR (by rw[World.size_alloc];omega) h3 ho⟩)
  (λ_ _ _ _ hs _=>hs)
  ⟨⟨_,Boxed.new _ _ _,World.ownsRow_nil _ _ _ _⟩,Oth.of_below hB0⟩
  (λx=>{ tmps := #[.slice none 0 0,.func (.func gf) #[] #[.pointer (some ⟨Bs,0,none⟩)],.pointer (some ⟨w.heap.size,0,none⟩),undef,.slice none 0 0,.string ⟨⟨x⟩⟩,.func (.func gf) #[] #[.pointer (some ⟨Bs,0,none⟩)],.string ⟨⟨x⟩⟩,undef,undef,undef,undef,undef],defers:=[] }) ?assign ?body ?done ?stop
 case assign =>
  intro l x W K hK
  gi_wp2
  exact hK
 case body =>
  rintro l pre x W hsz hpre ⟨⟨v,hv,hrow⟩,hoth⟩;have hc:=hv.cell;have hpl:pre.length<xs.length:=by have:=hpre.length_le;simp at this;omega
  have hsz2:=hoth.size
  gi_wp2_with (gi_at_builtin;refine wpListIn_append_own _ rfl _ _ 27 rfl w.heap.size 9 i0 (.string ⟨#[]⟩) 1 16 underlying27 hi hz0 hz1 hz2 rfl (by decide) _ _ _ rfl (hrow.alloc _) ⟨W.heap.size,0,none⟩ 1 1 [.string ⟨⟨x⟩⟩] rfl rfl (cell_one_new _ _ _) (by simp[Value.oneCell']) (by simp only[maxLen];omega) (by omega) (by simp;omega) ?_;intro v' w1 hown' hgrow _;obtain⟨g',cap',rfl⟩:=ownsRow_succ hown';obtain⟨hv1,hv2,hr2,hk2,hb2⟩:=hv.appended (by decide) hrow hsz2 (le_refl _) hown' hgrow;have hc1:=hv1.cell;have hf1:=hv1.frozen)
  exact⟨hk2.from _,λb hb=>hb2.block b (by
   rcases hb with rfl|hb
   . exact hBs
   . exact(hg.b b hb).1),⟨_,hv2,by simpa[encS]using hr2⟩,hb2.os.trans hoth.os,hb2.tape.trans hoth.tape,hb2.output.trans hoth.output,le_trans hoth.size hb2.size,λb hb hne=>(hb2.block b hb).trans (hoth.keep b hb hne)⟩
 case done =>
  rintro D W hD ⟨⟨v,hv,hrow⟩,hoth⟩ hK;have hc:=hv.cell
  gi_wp2
  refine⟨by simp,.inl ⟨_,_,rfl,run_takeDeferred hK,?_⟩⟩;have hD':w.heap.size+1<=D:=by rw[World.size_alloc]at hD;exact hD
  exact⟨_,results_tmp rfl _ _ _,v,rfl,ownsRow_putObj hrow _ hK rfl,hoth.os,hoth.tape,hoth.output,by simpa[World.putObj]using hoth.size,λb hb hne=>(World.putObj_heap_other (by omega)).trans (hoth.keep b hb hne)⟩
 case stop =>
  rintro D c pre W _ _ h _;exact h.elim
set_option maxHeartbeats 4000000 in
theorem parts_mk(s:List UInt8)(w:World):Calls prog 168 #[.string ⟨⟨s⟩⟩] w λe w'=>e = .returned (.func (.func 205) #[] #[.pointer (some ⟨w.heap.size,0,none⟩)])/\w'=w.alloc (.cells #[.string ⟨⟨s⟩⟩] 9):=by
 go_enter func168,ntmps168
 go_wp2
 go_returns
 exact⟨rfl,rfl⟩
theorem collect_call(gf Bs:Nat)(hgf:∀args w,(callFunc gf args).run prog w = .ok (.enter gf args) w)(xs:List (List UInt8))(w:World)(hBs:Bs<w.heap.size)(hg:GI w m0)(hlen:xs.length<=1000000000000)(hseq:∀W,Below w.heap.size w W->SeqD Fence.wide 2 prog gf #[.pointer (some ⟨Bs,0,none⟩)] (λx:List UInt8 => #[Value.string ⟨⟨x⟩⟩]) (λb=>b=Bs\/b∈GlobB) Bs xs W) :
 Calls prog 167 #[.func (.func gf) #[] #[.pointer (some ⟨Bs,0,none⟩)]] w λe W' =>
  ∃v,e = .returned v/\W'.ownsRow w.heap.size 9 1 v xs.length (xs.map encS)/\Oth Bs w W':=by
 go_enter func167,ntmps167
 go_wp2_with (go_at_call 204;refine(callsIn_wide.1 (gather_walk gf hgf Bs xs w hBs hg hlen hseq)).mono ?_;rintro e W' ⟨v,rfl,h1,h2⟩)
 go_returns
 exact⟨v,rfl,h1,h2⟩
def labelsF(f:List UInt8)(ok:Bool):Option (List (List UInt8)×Int) :=
 bif !ok then some ([],7)else bif f.isEmpty then some ([],13)else
 bif decide (f.length<=1000000000)then
  (partsC (f.length+2) (Lib.replaceAll f [227,128,130] [46])).bind λps=>bif decide (ps.length<=1000000000000)then(bif decide (32<ps.length)then some ([],2)else some (ps,0))else none
 else none
theorem max_len{w:World}(hg:GI w m0):∃m,w.cell? ⟨1,0,none⟩=some (.int .i64 m):=by first|exact hg.i|exact hg.i.1
theorem replace_call(f:List UInt8)(hf:f.length<=1000000000)(w:World)(hg:GI w m0) :
 Calls prog 166 #[.string ⟨⟨f⟩⟩,.string ⟨#[227,128,130]⟩,.string ⟨#[46]⟩] w λe w'=>e = .returned (.string ⟨⟨Lib.replaceAll f [227,128,130] [46]⟩⟩)/\Below w.heap.size w w':=by
 obtain⟨m,hm⟩:=max_len hg;have hcnt:=Lib.count_le f [227,128,130];refine(Go.Proofs.Any.strings_ReplaceAll lays155 Builder_Extra_155 ⟨⟨f⟩⟩ ⟨#[227,128,130]⟩ ⟨#[46]⟩ m w ?_ hm ?_ ?_).mono ?_
 . show f.length<_
   omega
 . decide
 . show f.length+Lib.count f [227,128,130]*1<=_
   omega
 . rintro e w' ⟨h1,h2⟩
   exact⟨h1,h2⟩
theorem below_oth{Bs B:Nat}{A W W':World}(h:Below B A W)(hB:B<=W.heap.size)(hBs:B<=Bs)(ho:Oth Bs W W'):Below B A W' :=
 h.trans ⟨ho.os,ho.tape,ho.output,ho.size,λk hk=>ho.keep k (by omega) (by omega)⟩
theorem row_slice{W:World}{base:Nat}{e:TypeId}{v:Value}{n:Nat}{xs:List Value}(h:W.ownsRow base e 1 v n xs):∃a cap,v = .slice a n cap:=by
 rcases h.2 with⟨h1,h2⟩|⟨g,cap,cur,h1,_⟩
 . subst h2;exact⟨_,_,h1⟩
 . exact⟨_,_,h1⟩
set_option maxHeartbeats 4000000 in
theorem labels_walk(v0 v1 v2 v3 v4:Value)(s f:List UInt8)(ok:Bool)(ls:List (List UInt8))(c:Int)(w:World)(hg:GI w m0)(hC:labelsF f ok=some (ls,c))(hfold:∀W,Below w.heap.size w W->Calls prog 151 #[.agg #[v0,v1,v2,v3,v4],.string ⟨⟨s⟩⟩] W λe W'=>e = .returned (.tuple #[.string ⟨⟨f⟩⟩,.bool ok])/\Below W.heap.size W W') :
 Calls prog 140 #[.agg #[v0,v1,v2,v3,v4],.string ⟨⟨s⟩⟩] w λe w'=>∃v,e = .returned (.tuple #[v,.int .i64 c])/\Below w.heap.size w w'/\w'.ownsRow w.heap.size 9 1 v ls.length (ls.map encS):=by
 have hW0:Below w.heap.size w (w.alloc (.cells #[v0,v1,v2,v3,v4] 47)):=(Below.refl _ w).alloc (le_refl _) _;have hF:=hfold _ hW0;clear hfold;cases ok with
 | false =>
  have hC':(([]:List (List UInt8)),(7:Int))=(ls,c):=Option.some.inj hC;cases hC'
  go_enter func140,ntmps140
  go_wp2_with (go_at_call 151;refine hF.mono ?_;rintro e w1 ⟨rfl,hb1⟩)
  go_returns
  exact⟨_,rfl,hW0.trans (hb1.mono hW0.size),World.ownsRow_nil _ _ _ _⟩
 | true =>
  cases f with
  | nil =>
   have hC':(([]:List (List UInt8)),(13:Int))=(ls,c):=Option.some.inj hC;cases hC'
   go_enter func140,ntmps140
   go_wp2_with (go_at_call 151;refine hF.mono ?_;rintro e w1 ⟨rfl,hb1⟩)
   go_returns
   exact⟨_,rfl,hW0.trans (hb1.mono hW0.size),World.ownsRow_nil _ _ _ _⟩
  | cons f0 f1 =>
   have hC1:(bif decide ((f0::f1).length<=1000000000)then
    (partsC ((f0::f1).length+2) (Lib.replaceAll (f0::f1) [227,128,130] [46])).bind λps=>bif decide (ps.length<=1000000000000)then(bif decide (32<ps.length)then some (([]:List (List UInt8)),(2:Int))else some (ps,0))else none
    else none)=some (ls,c):=hC
   rcases cond_some hC1 with⟨hlen,hC2⟩|⟨_,hC2⟩
   case inr=>cases hC2
   have hlen':=of_decide_eq_true hlen;obtain⟨ps,hps,hC3⟩:=bind_eq_some_iff.1 hC2;rcases cond_some hC3 with⟨hl2,hC4⟩|⟨_,hC4⟩
   case inr=>cases hC4
   have hl2':=of_decide_eq_true hl2;have hcc:∀W:World,GI W m0->Calls prog 167 #[.func (.func 205) #[] #[.pointer (some ⟨W.heap.size,0,none⟩)]] (W.alloc (.cells #[.string ⟨⟨Lib.replaceAll (f0::f1) [227,128,130] [46]⟩⟩] 9)) λe W' =>
    ∃v,e = .returned v/\W'.ownsRow (W.alloc (.cells #[.string ⟨⟨Lib.replaceAll (f0::f1) [227,128,130] [46]⟩⟩] 9)).heap.size 9 1 v ps.length (ps.map encS)/\Oth W.heap.size (W.alloc (.cells #[.string ⟨⟨Lib.replaceAll (f0::f1) [227,128,130] [46]⟩⟩] 9)) W':=λW hgW=>by
    have hbW:Below W.heap.size W (W.alloc (.cells #[.string ⟨⟨Lib.replaceAll (f0::f1) [227,128,130] [46]⟩⟩] 9)):=(Below.refl _ W).alloc (le_refl _) _;have hgW':=gi_below hgW hbW;refine collect_call 205 W.heap.size (enters_of func205 (by kernel_rfl) rfl) ps _ (by rw[World.size_alloc];omega) hgW' hl2' λW2 hb2 => ?_;exact parts_seq 2 (by omega) W.heap.size _ ps _ hps W2 (box_of_block (Boxed.new _ _ _) (hb2.block _ (by rw[World.size_alloc];omega))) (gi_below hgW' hb2) λb hb=>by have:=(hgW.b b hb).1;omega
   have hg1:=λW hb=>replace_call (f0::f1) hlen' W (gi_below hg hb);generalize Lib.replaceAll (f0::f1) [227,128,130] [46]=r at hps hcc hg1;have fin:∀{w1 w2 w4:World} {v:Value},Below (w.alloc (.cells #[v0,v1,v2,v3,v4] 47)).heap.size (w.alloc (.cells #[v0,v1,v2,v3,v4] 47)) w1->Below w1.heap.size w1 w2->w4.ownsRow (w2.alloc (.cells #[.string ⟨⟨r⟩⟩] 9)).heap.size 9 1 v ps.length (ps.map encS)->Oth w2.heap.size (w2.alloc (.cells #[.string ⟨⟨r⟩⟩] 9)) w4->Below w.heap.size w w4/\w4.ownsRow w.heap.size 9 1 v ps.length (ps.map encS):=by
    intro w1 w2 w4 v h1 h2 h3 h4;have b2:Below w.heap.size w w2:=(hW0.trans (h1.mono hW0.size)).trans (h2.mono (by have:=hW0.size;have:=h1.size;omega));have b3:Below w.heap.size w (w2.alloc (.cells #[.string ⟨⟨r⟩⟩] 9)):=b2.alloc b2.size _;refine⟨below_oth b3 b3.size b2.size h4,h3.1,?_⟩;rcases h3.2 with h|⟨g,cap,cur,e1,e2,e3⟩
    . exact .inl h
    . exact .inr ⟨g,cap,cur,e1,le_trans b3.size e2,e3⟩
   have Fin:Hid _ := @fin;clear fin;by_cases h32:32<ps.length
   . rw[decide_eq_true h32,cond_true]at hC4
     have hC':(([]:List (List UInt8)),(2:Int))=(ls,c):=Option.some.inj hC4;cases hC';clear hC hC1 hC2 hC3 hC4
     go_enter func140,ntmps140
     go_wp2_with (first
      | (go_at_call 151;refine hF.mono ?_;rintro e w1 ⟨rfl,hb1⟩)
      | (go_at_call 166;refine(hg1 _ (hW0.trans (hb1.mono hW0.size))).mono ?_;rintro e w2 ⟨rfl,hb2⟩)
      | (go_at_call 168;refine(parts_mk r _).mono ?_;rintro e w3 ⟨rfl,rfl⟩)
      | (go_at_call 167;have hgw2:GI w2 m0:=gi_below (gi_below (gi_below hg hW0) hb1) hb2;refine(hcc _ hgw2).mono ?_;rintro e w4 ⟨v,rfl,hrow,hoth⟩;obtain⟨sa,sc,rfl⟩:=row_slice hrow)
      | go_in)
     go_returns
     exact⟨_,rfl,(Fin.out hb1 hb2 hrow hoth).1,World.ownsRow_nil _ _ _ _⟩
   . rw[decide_eq_false h32,cond_false]at hC4
     have hC':(ps,(0:Int))=(ls,c):=Option.some.inj hC4;cases hC';clear hC hC1 hC2 hC3 hC4
     go_enter func140,ntmps140
     go_wp2_with (first
      | (go_at_call 151;refine hF.mono ?_;rintro e w1 ⟨rfl,hb1⟩)
      | (go_at_call 166;refine(hg1 _ (hW0.trans (hb1.mono hW0.size))).mono ?_;rintro e w2 ⟨rfl,hb2⟩)
      | (go_at_call 168;refine(parts_mk r _).mono ?_;rintro e w3 ⟨rfl,rfl⟩)
      | (go_at_call 167;have hgw2:GI w2 m0:=gi_below (gi_below (gi_below hg hW0) hb1) hb2;refine(hcc _ hgw2).mono ?_;rintro e w4 ⟨v,rfl,hrow,hoth⟩;obtain⟨sa,sc,rfl⟩:=row_slice hrow)
      | go_in)
     go_returns
     exact⟨_,rfl,(Fin.out hb1 hb2 hrow hoth).1,(Fin.out hb1 hb2 hrow hoth).2⟩
set_option maxHeartbeats 4000000 in
theorem values_seq(n:Nat)(hn:1<=n)(Bs base:Nat)(v:Value)(xs:List (List UInt8))(K:Nat->Prop)(w:World)(hb:Boxed w Bs 27 v)(hrow:w.ownsRow base 9 1 v xs.length (xs.map encS))(hlen:xs.length<=1000000000000)(hKb:K Bs)(hKv:∀b,v.ownBlock=some b->K b)(Bd:Nat) :
 SeqD Fence.wide n prog 169 #[.pointer (some ⟨Bs,0,none⟩)] (λx:List UInt8 => #[Value.string ⟨⟨x⟩⟩]) K Bd xs w:=by
 intro l J Jx W hW hJ hJx hY h0;have hb':Boxed W Bs 27 v:=(hW.block Bs hb.lt).trans hb;have hc:=hb'.cell;rcases hrow.2 with⟨rfl,hn0⟩|⟨g,cap,cur,rfl,hg1,hg2,hg3,hg4,hg5,hg6⟩
 . have hx:xs=[]:=List.eq_nil_of_length_eq_zero hn0
   subst hx;refine callsIn_of_wp func169 rfl trivial ?_ rfl;simp only[ntmps169,size_toArray,length_cons,length_nil,reduceAdd,reduceSub,replicate_succ,replicate_zero,push_toArray,append_toArray,nil_append,cons_append]
   gi_wp2
   gi_loopw [7] (λi wr=>i = .int .i64 0/\J [] wr) (λ_ _=>0)
   case atStart=>exact⟨rfl,h0⟩
   case round =>
    obtain⟨rfl,hJs⟩:=hrel
    gi_wp2
    go_end0
    exact⟨⟨_,rfl⟩,.inl hJs⟩
 . have hKg:K g:=hKv g rfl
   have hgW:W.heap[g]? = some (.cells cur 9 (0,0)):=(hW.block g (lt_of_some hg2)).trans hg2;have hcur:∀(k:Nat) x,xs[k]? = some x->cur[k]? = some (.string ⟨⟨x⟩⟩):=λk x hk=>by
    have hlt:k<xs.length:=(List.getElem?_eq_some_iff.1 hk).1;have h1:(cur.toList.take (xs.length*1))[k]? = some (encS x):=by rw[hg6,getElem?_map,hk];rfl
    rw[List.getElem?_take_of_lt (by omega),Array.getElem?_toList]at h1;exact h1
   refine callsIn_of_wp func169 rfl trivial ?_ rfl;simp only[ntmps169,size_toArray,length_cons,length_nil,reduceAdd,reduceSub,replicate_succ,replicate_zero,push_toArray,append_toArray,nil_append,cons_append];generalize hN:xs.length=N at *
   gi_wp2
   gi_loopw [7] (λi wr=>∃k:Nat,i = .int .i64 k/\k<=N/\Hid (J (xs.take k) wr)/\Hid (wr.heap[g]? = some (.cells cur 9 (0,0)))) (λi _=>N-(intOf i).toNat)
   case atStart=>exact⟨0,rfl,zero_le _,h0,hgW⟩
   case round =>
    obtain⟨k,rfl,hk,hJs,hgr⟩:=hrel;by_cases hlt:k<N
    . obtain⟨x,hx⟩:∃x,xs[k]? = some x:=⟨_,getElem?_eq_getElem (by omega)⟩
      have htk:xs.take (k+1)=xs.take k++[x]:=by rw[List.take_add_one,hx];rfl
      have hpre:xs.take k++[x] <+: xs:=htk▸List.take_prefix _ _;have hcx:wr.cell? ⟨g,k,none⟩=some (.string ⟨⟨x⟩⟩):=by simp only[cell?,hgr.out];exact hcur k x hx
      obtain⟨fn,tmps,assign,body,hy,hR⟩:=hY _ x wr hpre hJs.out;clear hcur
      gi_wp2
      refine hR.mono ?_;rintro e W3 (⟨rfl,hJ3,hs3,hk3⟩|⟨rfl,hJx3⟩)
      . have hg3:Hid (W3.heap[g]? = some (.cells cur 9 (0,0))):=(hk3 g hKg).trans hgr.out
        have hJ4:Hid (J (xs.take (k+1)) W3):=by rw[htk];exact hJ3
        gi_wp2
        go_roundw
        case rel=>exact⟨k+1,by simp,by omega,hJ4,hg3⟩
        case measure=>simp[intOf];omega
      . gi_wp2
        refine bodyPost_ret (results_none rfl _ _ _) rfl ?_;exact⟨⟨_,rfl⟩,.inr ⟨_,hpre,hJx3⟩⟩
    . obtain rfl:k=N:=by omega
      gi_wp2
      go_end0
      exact⟨⟨_,rfl⟩,.inl (by have:=hJs.out;rwa[List.take_of_length_le (by omega)]at this)⟩
set_option maxHeartbeats 4000000 in
theorem values_mk(a:Option Addr)(n cap:Nat)(w:World):Calls prog 141 #[.slice a n cap] w λe w'=>e = .returned (.func (.func 169) #[] #[.pointer (some ⟨w.heap.size,0,none⟩)])/\w'=w.alloc (.cells #[.slice a n cap] 27):=by
 go_enter func141,ntmps141
 go_wp2
 go_returns
 exact⟨rfl,rfl⟩
def K0:Calls':=λf=>Ae.lookA f []
theorem kok0:KOk prog K0:=kok_nil _
noncomputable def body124:Code:=match subc (code f111) [1,1,1,1,0,1,0]with | .rangeFunc _ _ _ b=>b|c=>c
noncomputable def ops11:Array Oper:=match subc body124 [0,1,1,1]with | .region _ ops _=>ops|_ => #[]
def t11(x y:List UInt8):List AV:=[.top,.top,.top,.top,.top,.top,.top,.top,.top,.ptr 2 0,.ptr 3 0,.top,.str x,.top,.str y]++List.replicate 45 .top
def o11(ps qs:List (List UInt8)):Store:=[[.rowc 9 .str ps],[.rowc 9 .str qs],[.row 0],[.row 1]]
def o11'(ps qs:List (List UInt8))(x y:List UInt8):Store:=[[],[],[.row 5],[.row 7],[.rowc 9 .str [x]],[.rowc 9 .str (ps++[x])],[.rowc 9 .str [y]],[.rowc 9 .str (qs++[y])]]
theorem r11(ps qs:List (List UInt8))(x y:List UInt8):dregion Γ K0 ops11 ⟨t11 x y,o11 ps qs⟩ (λs=>some s.o) =
 bif decide (ps.length+1<=140737488355328/16)then(bif decide (qs.length+1<=140737488355328/16)then some (o11' ps qs x y)else none)else none:=by kernel_rfl
theorem nd11:∀(i:Nat) o,ops11[i]? = some o->∀c,o.op ≠ .defer c:=by
 have h:(ops11.toList.all λo=>match o.op with | .defer _=>false|_=>true)=true:=by kernel_rfl
 intro i o ho c hc;have:=List.all_eq_true.1 h o (Array.mem_toList_iff.2 (Array.mem_of_getElem? ho));rw[hc]at this;cases this
theorem repL_of{w:World}{m:Md}{g:List Value}:∀(av:List AV) (vs:List Value),av.length=vs.length->(∀(i:Nat) v,vs[i]? = some v->RepV w m g (av.getD i .top) v)->RepL w m g av vs
 | [],[],_,_=>rfl
 | a::av,v::vs,hl,h=>⟨v,vs,rfl,h 0 v rfl,repL_of av vs (by simpa using hl) λi u hu=>h (i+1) u hu⟩
structure Two (base A9 A10:Nat) (W:World) (ps qs:List (List UInt8)):Prop where
 ex:∃va vu t9 t10,Boxed W A9 t9 va/\Boxed W A10 t10 vu/\W.ownsRow base 9 1 va ps.length (ps.map encS)/\W.ownsRow base 9 1 vu qs.length (qs.map encS) /\
  (∀b,va.ownBlock=some b->b≠A9/\b≠A10/\vu.ownBlock≠some b)/\∀b,vu.ownBlock=some b->b≠A9/\b≠A10
def TwoB(A9 A10:Nat)(va vu:Value)(b:Nat):Prop:=b=A9\/b=A10\/va.ownBlock=some b\/vu.ownBlock=some b
theorem repE_enc{w:World}{m:Md}{l:List (List UInt8)}{xs:List Value}(h:RepE w m .str l xs)(hl:xs.length=l.length*1):xs=l.map encS:=by
 apply List.ext_getElem?;intro j;rw[getElem?_map];by_cases hj:j<l.length
 . have h1:((xs.drop (j*1)).take 1)=[.string ⟨⟨l[j]⟩⟩]:=h j l[j] (getElem?_eq_getElem hj)
   have h2:((xs.drop (j*1)).take 1)[0]? = some (.string ⟨⟨l[j]⟩⟩):=by rw[h1];rfl
   rw[List.getElem?_take_of_lt (by omega),List.getElem?_drop]at h2;simp only[Nat.mul_one,Nat.add_zero]at h2;rw[h2,getElem?_eq_getElem hj];rfl
 . rw[List.getElem?_eq_none (by omega),List.getElem?_eq_none (by omega)]
   rfl
theorem enc_repE{w:World}{m:Md}(l:List (List UInt8)):RepE w m .str l (l.map encS):=by
 intro j x hj
 change List UInt8 at x
 change l[j]? = some x at hj
 show ((l.map encS).drop (j*1)).take 1=[.string ⟨⟨x⟩⟩]
 have hlt:=(List.getElem?_eq_some_iff.1 hj).1;have:((l.map encS).drop j)=encS x::(l.map encS).drop (j+1):=by
  rw[<-List.map_drop,List.drop_eq_getElem_cons hlt,List.map_cons,List.map_drop];rw[(List.getElem?_eq_some_iff.1 hj).2]
 rw[Nat.mul_one,this];rfl
theorem row_zero{W:World}{base:Nat}{e:TypeId}{size n:Nat}{v:Value}{xs:List Value}(h:W.ownsRow base e size v n xs):W.ownsRow 0 e size v n xs:=by
 refine⟨h.1,?_⟩;rcases h.2 with h|⟨g,cap,cur,e1,h2,h3⟩
 . exact .inl h
 . exact .inr ⟨g,cap,cur,e1,zero_le _,h3⟩
theorem row_ge{W:World}{base:Nat}{e:TypeId}{size n:Nat}{v:Value}{xs:List Value}(h:W.ownsRow base e size v n xs):∀b,v.ownBlock=some b->base<=b/\b<W.heap.size/\∃o,W.heap[b]? = some o/\o.isCells=true:=by
 rcases h.2 with⟨rfl,_⟩|⟨g,cap,cur,rfl,h2,h3,_⟩
 . intro b hb;cases hb
 . intro b hb;cases hb;exact⟨h2,lt_of_some h3,_,h3,rfl⟩
theorem box_repO{w:World}{m:Md}{g:List Value}{A:Nat}{t:TypeId}{v:Value}{i:Nat}(h:Boxed w A t v)(hi:g[i]? = some v)(hv:∃ao n c,v = .slice ao n c):RepO w m g (.pointer (some ⟨A,0,none⟩)) [.row i] :=
 ⟨λ_ _ _ e=>(by cases e),λ_ _ e=>(by cases e),λ_=>⟨A,t,_,rfl,h,v,[],rfl,⟨hi,hv⟩,rfl⟩,λ_ _ e=>(by cases e),trivial⟩
theorem row_repO{w:World}{m:Md}{g:List Value}{base:Nat}{v:Value}{l:List (List UInt8)}(h:w.ownsRow base 9 1 v l.length (l.map encS)):RepO w m g v [.rowc 9 .str l] :=
 ⟨λ_ _ _ e=>(by cases e;exact⟨_,row_zero h,enc_repE l⟩),λ_ _ e=>(by cases e),λe=>(by cases e),λ_ _ e=>(by cases e),trivial⟩
theorem region11(l n0:Nat)(ps qs:List (List UInt8))(x y:List UInt8)(hp:ps.length<=1000000000000)(hq:qs.length<=1000000000000)(tm:List Value)(base R A9 A10:Nat)(hR:base<=R)(W:World)(hg:GI W m0)(hgb:∀b∈GlobB,b<base)(hne:A9≠A10)(h9:base<=A9)(h10:base<=A10)(h:Two R A9 A10 W ps qs)(hlen:tm.length=60)(hbase:R<=W.heap.size)(e9:tm[9]? = some (.pointer (some ⟨A9,0,none⟩)))(e10:tm[10]? = some (.pointer (some ⟨A10,0,none⟩)))(e12:tm[12]? = some (.string ⟨⟨x⟩⟩))(e14:tm[14]? = some (.string ⟨⟨y⟩⟩)) :
 (Code.region 11 ops11 true).wpIn (Fence.wide.inRound l) n0 prog (λe a' w'=>e = .normal/\Two R A9 A10 w' (ps++[x]) (qs++[y])/\w'.os=W.os/\w'.tape=W.tape/\w'.output=W.output/\W.heap.size<=w'.heap.size /\
  (∀b,b<R->b≠A9->b≠A10->w'.heap[b]? = W.heap[b]?)/\∀(b:Nat) (o:Obj),W.heap[b]? = some o->o.isCells=false->w'.heap[b]? = some o) { tmps:=tm.toArray,defers:=[] } W:=by
 obtain⟨va,vu,t9,t10,b9,b10,r9,r10,s1,s2⟩:=h.ex;have g1:=row_ge r9;have g2:=row_ge r10;obtain⟨sa1,sc1,es1⟩:=row_slice r9;obtain⟨sa2,sc2,es2⟩:=row_slice r10;have hmu:∀b,TwoB A9 A10 va vu b->base<=b/\b<W.heap.size/\∃o,W.heap[b]? = some o/\o.isCells=true:=by
  rintro b (rfl|rfl|hb|hb)
  . exact⟨h9,b9.lt,_,b9,rfl⟩
  . exact⟨h10,b10.lt,_,b10,rfl⟩
  . have:=g1 b hb;exact⟨by omega,this.2⟩
  . have:=g2 b hb;exact⟨by omega,this.2⟩
 have hrep:Rep W ⟨TwoB A9 A10 va vu,TwoB A9 A10 va vu⟩ [va,vu,.pointer (some ⟨A9,0,none⟩),.pointer (some ⟨A10,0,none⟩)] ⟨t11 x y,o11 ps qs⟩ { tmps:=tm.toArray,defers:=[] }:=by
  refine⟨?_,rfl,?_⟩
  . refine repL_of _ _ (by simp[t11,hlen]) λi v hv => ?_
    have hv':tm[i]? = some v:=hv;have hi:i<60:=hlen▸(List.getElem?_eq_some_iff.1 hv').1;by_cases i9:i=9
    . subst i9;rw[e9]at hv';cases hv';exact⟨A9,rfl,rfl⟩
    by_cases i10:i=10
    . subst i10;rw[e10]at hv';cases hv';exact⟨A10,rfl,rfl⟩
    by_cases i12:i=12
    . subst i12;rw[e12]at hv';cases hv';rfl
    by_cases i14:i=14
    . subst i14;rw[e14]at hv';cases hv';rfl
    have ht:(t11 x y).getD i .top = .top:=by
     have hc:i=0\/i=1\/i=2\/i=3\/i=4\/i=5\/i=6\/i=7\/i=8\/i=11\/i=13\/15<=i:=by omega
     rcases hc with rfl|rfl|rfl|rfl|rfl|rfl|rfl|rfl|rfl|rfl|rfl|hc
     iterate 11 rfl
     unfold t11;rw[List.getD_eq_getElem?_getD,List.getElem?_append_right (by simpa using hc),List.getElem?_replicate];split<;>rfl
    rw[ht];trivial
  . refine⟨⟨hg.i,λb hb=>⟨(hg.b b hb).1,λhc => ?_⟩⟩,rfl,?_,λ_ h=>h,λb hb=>(hmu b hb).2.1,?_,?_⟩
    . have:=(hmu b hc).1;have:=hgb b hb;omega
    . rintro b ⟨i,gi,cs,k1,k2,k3⟩
      match i with
      | 0=>cases k1;cases k2;exact .inr (.inr (.inl k3))
      | 1=>cases k1;cases k2;exact .inr (.inr (.inr k3))
      | 2=>cases k1;cases k2;cases k3;exact .inl rfl
      | 3=>cases k1;cases k2;cases k3;exact .inr (.inl rfl)
      | i+4=>cases k1
    . intro i gi cs k1 k2
      match i with
      | 0=>cases k1;cases k2;exact row_repO r9
      | 1=>cases k1;cases k2;exact row_repO r10
      | 2=>cases k1;cases k2;exact box_repO b9 rfl ⟨_,_,_,es1⟩
      | 3=>cases k1;cases k2;exact box_repO b10 rfl ⟨_,_,_,es2⟩
      | i+4=>cases k1
    . intro i j gi gj ci cj b hij k1 k2 k3 k4 k5 k6
      match i,j with
      | 0,0|1,1|2,2|3,3=>exact hij rfl
      | 0,1=>cases k1;cases k2;cases k3;cases k4;exact(s1 b k5).2.2 k6
      | 1,0=>cases k1;cases k2;cases k3;cases k4;exact(s1 b k6).2.2 k5
      | 0,2=>cases k1;cases k2;cases k3;cases k4;cases k6;exact(s1 _ k5).1 rfl
      | 0,3=>cases k1;cases k2;cases k3;cases k4;cases k6;exact(s1 _ k5).2.1 rfl
      | 1,2=>cases k1;cases k2;cases k3;cases k4;cases k6;exact(s2 _ k5).1 rfl
      | 1,3=>cases k1;cases k2;cases k3;cases k4;cases k6;exact(s2 _ k5).2 rfl
      | 2,0=>cases k1;cases k2;cases k3;cases k4;cases k5;exact(s1 _ k6).1 rfl
      | 3,0=>cases k1;cases k2;cases k3;cases k4;cases k5;exact(s1 _ k6).2.1 rfl
      | 2,1=>cases k1;cases k2;cases k3;cases k4;cases k5;exact(s2 _ k6).1 rfl
      | 3,1=>cases k1;cases k2;cases k3;cases k4;cases k5;exact(s2 _ k6).2 rfl
      | 2,3=>cases k1;cases k2;cases k3;cases k4;cases k5;cases k6;exact hne rfl
      | 3,2=>cases k1;cases k2;cases k3;cases k4;cases k5;cases k6;exact hne rfl
      | i+4,_=>cases k1
      | _,j+4=>cases k3
 have hlim:(140737488355328:Nat)/16=8796093022208:=rfl;have hrun:dregion Γ K0 ops11 ⟨t11 x y,o11 ps qs⟩ (λs=>some s.o)=some (o11' ps qs x y):=by
  rw[r11,hlim,decide_eq_true (show ps.length+1<=8796093022208 by omega),decide_eq_true (show qs.length+1<=8796093022208 by omega)];rfl
 refine wpIn_mono (dregion_in l n0 nd11 hm hΓ kok0 hrep hrun (Q:=λa' w'=>Two R A9 A10 w' (ps++[x]) (qs++[y])/\w'.os=W.os/\w'.tape=W.tape/\w'.output=W.output/\W.heap.size<=w'.heap.size /\
  (∀b,b<R->b≠A9->b≠A10->w'.heap[b]? = W.heap[b]?)/\∀(b:Nat) (o:Obj),W.heap[b]? = some o->o.isCells=false->w'.heap[b]? = some o) ?_) λe a' w' h=>h
 intro st' a' w' m' g' k1 k2 k3 k4;have ho:st'.o=o11' ps qs x y:=Option.some.inj k1;have hob:=k2.obj;rw[ho]at hob;have q2:g'[2]? = some (.pointer (some ⟨A9,0,none⟩)):=k4 2 _ rfl;have q3:g'[3]? = some (.pointer (some ⟨A10,0,none⟩)):=k4 3 _ rfl;have hlen8:g'.length=8:=hob.len;obtain⟨v5,q5⟩:∃v,g'[5]? = some v:=⟨_,getElem?_eq_getElem (by omega)⟩
 obtain⟨v7,q7⟩:∃v,g'[7]? = some v:=⟨_,getElem?_eq_getElem (by omega)⟩
 obtain⟨b2,ty2,arr2,z1,z2,z3⟩:=(hob.obj 2 _ [.row 5] q2 rfl).box rfl;obtain⟨b3,ty3,arr3,y1,y2,y3⟩:=(hob.obj 3 _ [.row 7] q3 rfl).box rfl;cases z1;cases y1;obtain⟨u5,r5,z4,⟨z5,z6⟩,z7⟩:=z3;obtain⟨u7,r7,y4,⟨y5,y6⟩,y7⟩:=y3;rw[q5]at z5;rw[q7]at y5;cases z5;cases y5;have z7':r5=[]:=z7;have y7':r7=[]:=y7;subst z7' y7';obtain⟨xs5,o5,p5⟩:=(hob.obj 5 _ [.rowc 9 .str (ps++[x])] q5 rfl).rowc _ _ _ rfl;obtain⟨xs7,o7,p7⟩:=(hob.obj 7 _ [.rowc 9 .str (qs++[y])] q7 rfl).rowc _ _ _ rfl;have hx5:=repE_enc p5 o5.1;have hx7:=repE_enc p7 o7.1;subst hx5 hx7;have hge:∀(i:Nat) gi cs b,i≠2->i≠3->g'[i]? = some gi->(o11' ps qs x y)[i]? = some cs->blk gi cs=some b->R<=b:=λi gi cs b n2 n3 c1 c2 c3=>by
  by_cases hlt:b<W.heap.size
  . rcases k3.mutb b hlt (hob.nm b (hob.sub b ⟨i,gi,cs,c1,c2,c3⟩))with h|h|h|h
    . exact(hob.sep i 2 _ _ _ _ _ n2 c1 c2 q2 rfl c3 (by rw[h];rfl)).elim
    . exact(hob.sep i 3 _ _ _ _ _ n3 c1 c2 q3 rfl c3 (by rw[h];rfl)).elim
    . exact(g1 b h).1
    . exact(g2 b h).1
  . omega
 have hkeep:∀(b:Nat) (o:Obj),W.heap[b]? = some o->¬TwoB A9 A10 va vu b->w'.heap[b]? = some o:=λb o hb hn=>(k3.keep b (lt_of_some hb) hn).trans hb;refine⟨⟨v5,v7,ty2,ty3,?_,?_,?_,?_,?_,?_⟩,k3.os,k3.tape,k3.output,k3.size,?_,?_⟩
 . have:arr2 = #[v5]:=by cases arr2;simpa using z4
   subst this;exact z2
 . have:arr3 = #[v7]:=by cases arr3;simpa using y4
   subst this;exact y2
 . exact own_base o5 λb hb=>hge 5 _ _ b (by decide) (by decide) q5 rfl hb
 . exact own_base o7 λb hb=>hge 7 _ _ b (by decide) (by decide) q7 rfl hb
 . intro b hb
   refine⟨?_,?_,λhc => ?_⟩
   . rintro rfl;exact hob.sep 5 2 _ _ _ _ _ (by decide) q5 rfl q2 rfl hb rfl
   . rintro rfl;exact hob.sep 5 3 _ _ _ _ _ (by decide) q5 rfl q3 rfl hb rfl
   . exact hob.sep 5 7 _ _ _ _ _ (by decide) q5 rfl q7 rfl hb hc
 . intro b hb
   refine⟨?_,?_⟩
   . rintro rfl;exact hob.sep 7 2 _ _ _ _ _ (by decide) q7 rfl q2 rfl hb rfl
   . rintro rfl;exact hob.sep 7 3 _ _ _ _ _ (by decide) q7 rfl q3 rfl hb rfl
 . intro b hb hn9 hn10
   refine k3.keep b (by omega) λhc => ?_;rcases hc with h|h|h|h
   . exact hn9 h
   . exact hn10 h
   . have:=(g1 b h).1;omega
   . have:=(g2 b h).1;omega
 . intro b o hb hc
   refine hkeep b o hb λhcc => ?_;obtain⟨_,_,o',e1,e2⟩:=hmu b hcc;rw[hb]at e1;cases e1;rw[hc]at e2;cases e2
def bothF(A U:List UInt8->Option (List UInt8×Int)):List (List UInt8)->List (List UInt8)->List (List UInt8)->Option (Int×List (List UInt8)×List (List UInt8))
 | [],ps,qs=>some (0,ps,qs)
 | x::xs,ps,qs=>(A x).bind λa=>bif a.2 != 0 then some (a.2,[],[])else(U x).bind λu=>bothF A U xs (ps++[a.1]) (qs++[u.1])
theorem two_othR{N Bs R A9 A10:Nat}{W W':World}{ps qs:List (List UInt8)}(h:Two R A9 A10 W ps qs)(h9:A9≠Bs)(h10:A10≠Bs)(hR:Bs<R)(ho:OthR N Bs W W'):Two R A9 A10 W' ps qs:=by
 obtain⟨va,vu,t9,t10,b9,b10,r9,r10,s1,s2⟩:=h.ex;exact⟨va,vu,t9,t10,boxed_oth b9 h9 ho,boxed_oth b10 h10 ho,ownsRow_oth hR r9 ho,ownsRow_oth hR r10 ho,s1,s2⟩
theorem row_repT{W:World}{base:Nat}{v:Value}{l:List (List UInt8)}(h:W.ownsRow base 9 1 v l.length (l.map encS)):RepT W m0 (.lst .str) l [v]:=by
 rcases h.2 with⟨rfl,h0⟩|⟨g,cap,cur,rfl,h2,h3,h4,h5,h6,h7⟩
 . have hl:l=[]:=List.eq_nil_of_length_eq_zero h0
   subst hl;exact⟨none,0,rfl,le_refl _,by omega,λ_=>rfl,λj x hj=>by
    have hj':([]:List (List UInt8))[j]? = some x:=hj;simp at hj'⟩
 . refine⟨_,cap,rfl,h4,by simp only[maxLen]at h5;omega,λe=>(by cases e),λj x hj => ?_⟩
   change List UInt8 at x
   change l[j]? = some x at hj
   refine⟨g,0,[.string ⟨⟨x⟩⟩],rfl,rfl,rfl,lt_of_some h3,λhm=>hm,λi u hu => ?_⟩;have hlt:=(List.getElem?_eq_some_iff.1 hj).1
   match i with
   | i+1=>cases hu
   | 0 =>
    cases hu;have h1:(cur.toList.take (l.length*1))[j]? = some (encS x):=by rw[h7,getElem?_map,hj];rfl
    rw[List.getElem?_take_of_lt (by omega),Array.getElem?_toList]at h1;simp only[cell?,h3];show cur[0+j*1+0]? = _;rw[show 0+j*1+0=j by omega];exact h1
theorem join_call{W:World}{base:Nat}{v:Value}{l:List (List UInt8)}{r:List UInt8}(h:W.ownsRow base 9 1 v l.length (l.map encS))(hj:joinF (l,[46],())=some (r,()))(hg:GI W m0) :
 Calls prog 144 #[v,.string ⟨#[46]⟩] W λe W'=>e = .returned (.string ⟨⟨r⟩⟩)/\Below W.heap.size W W':=by
 have hj':C144 (l,[46],())=some (r,()):=hj;refine(FnOk.call0 (v:=(l,[46],())) (y:=(r,())) ok144 func144 (by kernel_rfl) (by kernel_rfl) hg (λ_ h=>h.elim) rfl ⟨v,_,rfl,row_repT h,_,_,rfl,rfl,rfl⟩ rfl hj' ?_).mono λe w' ⟨rv,h1,h2,ax,l',u,h3,h4⟩ => ?_
 . intro ax l' u h3
   cases osel_one_inv h3;rfl
 . cases osel_one_inv h3
   obtain⟨v,r',e1,e2,e4⟩:=h4;have e4':r'=[]:=e4;subst e4';cases e1;subst h1 e2;exact⟨rfl,h2⟩
def outF(res:Int×List (List UInt8)×List (List UInt8)):Option (List UInt8×List UInt8×Int) :=
 bif res.1 != 0 then some ([],[],res.1)else(joinF (res.2.1,[46],())).bind λja=>bif decide (253<ja.1.length)then some ([],[],5)else(joinF (res.2.2,[46],())).bind λju=>some (ja.1,ju.1,0)
set_option maxHeartbeats 4000000 in
theorem both_walk(v0 v1 v2 v3 v4:Value)(s:List UInt8)(ls:List (List UInt8))(A U:List UInt8->Option (List UInt8×Int))(res:Int×List (List UInt8)×List (List UInt8))(w:World)(hg:GI w m0)(hll:ls.length<=32)(hres:bothF A U ls [] []=some res)(oa ou:List UInt8)(oc:Int)(hout:outF res=some (oa,ou,oc))(hlab:∀W,Below w.heap.size w W->Calls prog 140 #[.agg #[v0,v1,v2,v3,v4],.string ⟨⟨s⟩⟩] W λe w'=>∃v,e = .returned (.tuple #[v,.int .i64 0])/\Below W.heap.size W w'/\w'.ownsRow W.heap.size 9 1 v ls.length (ls.map encS))(hA:∀x r,A x=some r->∀W,Below w.heap.size w W->Calls prog 142 #[.agg #[v0,v1,v2,v3,v4],.string ⟨⟨x⟩⟩] W λe W'=>e = .returned (.tuple #[.string ⟨⟨r.1⟩⟩,.int .i64 r.2])/\Below W.heap.size W W')(hU:∀x r,U x=some r->∀W,Below w.heap.size w W->Calls prog 143 #[.agg #[v0,v1,v2,v3,v4],.string ⟨⟨x⟩⟩] W λe W'=>e = .returned (.tuple #[.string ⟨⟨r.1⟩⟩,.int .i64 r.2])/\Below W.heap.size W W') :
 Calls prog 111 #[.agg #[v0,v1,v2,v3,v4],.string ⟨⟨s⟩⟩] w λe w'=>e = .returned (.tuple #[.string ⟨⟨oa⟩⟩,.string ⟨⟨ou⟩⟩,.int .i64 oc])/\Below w.heap.size w w':=by
 refine(callsIn_wide (n:=3)).1 ?_;refine callsIn_of_wp_marks func111 rfl trivial ?_ rfl;simp only[ntmps111,size_toArray,length_cons,length_nil,reduceAdd,reduceSub,replicate_succ,replicate_zero,push_toArray,append_toArray,nil_append,cons_append];have hW0:Below w.heap.size w ((((w.alloc (.cells #[v0,v1,v2,v3,v4] 47)).alloc (.cells #[.string ⟨#[]⟩] 9)).alloc (.cells #[.string ⟨#[]⟩] 9)).alloc (.cells #[.int .i64 0] 69)) :=
  ((((Below.refl _ w).alloc (le_refl _) _).alloc (by simp) _).alloc (by simp<;>omega) _).alloc (by simp<;>omega) _
 gi_wp2_with (first
  | (refine⟨trivial,?_⟩;gi_at_call 140;refine(callsIn_wide.2 (hlab _ hW0)).mono ?_;rintro e w1 ⟨lv,rfl,hb1,hrow⟩;obtain⟨la,lc,rfl⟩:=row_slice hrow)
  | (refine⟨trivial,?_⟩;gi_at_call 141;refine(callsIn_wide.2 (values_mk _ _ _ _)).mono ?_;rintro e w2 ⟨rfl,rfl⟩))
 have hb0:Below w.heap.size w w1:=hW0.trans (hb1.mono hW0.size);have hsz1:w.heap.size+4<=w1.heap.size:=by have:=hb1.size;simp at this;omega
 have hT:∀X,Below w1.heap.size w1 X->X.cell? ⟨w.heap.size,0,none⟩=some v0/\X.cell? ⟨w.heap.size,1,none⟩=some v1/\X.cell? ⟨w.heap.size,2,none⟩=some v2/\X.cell? ⟨w.heap.size,3,none⟩=some v3/\X.cell? ⟨w.heap.size,4,none⟩=some v4:=λX hX=>by
  have h1:X.heap[w.heap.size]? = some (.cells #[v0,v1,v2,v3,v4] 47):=by
   rw[hX.block _ (by omega),hb1.block _ (by simp<;>omega),Below.heap_alloc _ _ _ (by simp<;>omega),Below.heap_alloc _ _ _ (by simp<;>omega),Below.heap_alloc _ _ _ (by simp),heap_alloc_new]
  exact⟨by rw[cell_of_cells h1];rfl,by rw[cell_of_cells h1];rfl,by rw[cell_of_cells h1];rfl,by rw[cell_of_cells h1];rfl,by rw[cell_of_cells h1];rfl⟩
 have hR:∀X,Below w1.heap.size w1 X->Boxed X (w.heap.size+1) 9 (.string ⟨#[]⟩)/\Boxed X (w.heap.size+1+1) 9 (.string ⟨#[]⟩)/\Boxed X (w.heap.size+1+1+1) 69 (.int .i64 0):=λX hX=>by
  refine⟨?_,?_,?_⟩
  . show X.heap[_]? = _
    rw[hX.block _ (by omega),hb1.block _ (by simp<;>omega),Below.heap_alloc _ _ _ (by simp<;>omega),Below.heap_alloc _ _ _ (by simp)];have:=heap_alloc_new (w.alloc (.cells #[v0,v1,v2,v3,v4] 47)) (.cells #[.string ⟨#[]⟩] 9)
    rwa[World.size_alloc]at this
  . show X.heap[_]? = _
    rw[hX.block _ (by omega),hb1.block _ (by simp<;>omega),Below.heap_alloc _ _ _ (by simp)];have:=heap_alloc_new ((w.alloc (.cells #[v0,v1,v2,v3,v4] 47)).alloc (.cells #[.string ⟨#[]⟩] 9)) (.cells #[.string ⟨#[]⟩] 9)
    rwa[World.size_alloc,World.size_alloc]at this
  . show X.heap[_]? = _
    rw[hX.block _ (by omega),hb1.block _ (by simp)];have:=heap_alloc_new (((w.alloc (.cells #[v0,v1,v2,v3,v4] 47)).alloc (.cells #[.string ⟨#[]⟩] 9)).alloc (.cells #[.string ⟨#[]⟩] 9)) (.cells #[.int .i64 0] 69)
    rwa[World.size_alloc,World.size_alloc,World.size_alloc]at this
 have hg1:GI w1 m0:=gi_below hg hb0;have hW2:Below w1.heap.size w1 (((w1.alloc (.cells #[.slice none 0 0] 27)).alloc (.cells #[.slice none 0 0] 27)).alloc (.cells #[.slice la ls.length lc] 27)) :=
  (((Below.refl _ w1).alloc (le_refl _) _).alloc (by simp) _).alloc (by simp<;>omega) _
 have hszN:(((w1.alloc (.cells #[.slice none 0 0] 27)).alloc (.cells #[.slice none 0 0] 27)).alloc (.cells #[.slice la ls.length lc] 27)).heap.size=w1.heap.size+3:=by simp
 have hbv:Boxed (((w1.alloc (.cells #[.slice none 0 0] 27)).alloc (.cells #[.slice none 0 0] 27)).alloc (.cells #[.slice la ls.length lc] 27)) (w1.heap.size+1+1) 27 (.slice la ls.length lc):=by
  have:=Boxed.new ((w1.alloc (.cells #[.slice none 0 0] 27)).alloc (.cells #[.slice none 0 0] 27)) 27 (.slice la ls.length lc)
  rwa[World.size_alloc,World.size_alloc]at this
 have hb9:Boxed (((w1.alloc (.cells #[.slice none 0 0] 27)).alloc (.cells #[.slice none 0 0] 27)).alloc (.cells #[.slice la ls.length lc] 27)) w1.heap.size 27 (.slice none 0 0) :=
  ((Boxed.new w1 27 (.slice none 0 0)).alloc _).alloc _
 have hb10:Boxed (((w1.alloc (.cells #[.slice none 0 0] 27)).alloc (.cells #[.slice none 0 0] 27)).alloc (.cells #[.slice la ls.length lc] 27)) (w1.heap.size+1) 27 (.slice none 0 0):=by
  have:=(Boxed.new (w1.alloc (.cells #[.slice none 0 0] 27)) 27 (.slice none 0 0)).alloc (.cells #[.slice la ls.length lc] 27)
  rwa[World.size_alloc]at this
 have hrow2:(((w1.alloc (.cells #[.slice none 0 0] 27)).alloc (.cells #[.slice none 0 0] 27)).alloc (.cells #[.slice la ls.length lc] 27)).ownsRow 0 9 1 (.slice la ls.length lc) ls.length (ls.map encS):=by
  have:=row_zero hrow;exact((this.alloc _).alloc _).alloc _
 have hown:∀b,(Value.slice la ls.length lc).ownBlock=some b->b<w1.heap.size:=λb hb=>((row_ge hrow) b hb).2.1;clear hlab;refine wpIn_rangeFunc_dir (F:=Fence.wide) (n:=3) rfl (by omega) (gf:=169) (lb := #[.pointer (some ⟨w1.heap.size+1+1,0,none⟩)]) rfl trivial (enters_of func169 (by kernel_rfl) rfl)
  (K:=λb=>b=w1.heap.size+1+1\/(Value.slice la ls.length lc).ownBlock=some b)
  (values_seq 2 (by omega) (w1.heap.size+1+1) 0 _ ls _ _ hbv hrow2 (by omega) (.inl rfl) (λb hb => .inr hb) (w1.heap.size+1+1))
  (by rintro b (rfl|hb)
      . rw[hszN];omega
      . have:=hown b hb;rw[hszN];omega) (by rw[hszN];omega) (λ_=>rfl)
  (λpre W=>∃ps qs rest,ls=pre++rest/\bothF A U rest ps qs=some res/\ps.length=pre.length/\qs.length=pre.length/\Two (w1.heap.size+3) w1.heap.size (w1.heap.size+1) W ps qs/\Below w1.heap.size w1 W)
  (λc pre W=>c = .ret/\res.1≠0/\Boxed W (w.heap.size+1) 9 (.string ⟨#[]⟩)/\Boxed W (w.heap.size+1+1) 9 (.string ⟨#[]⟩)/\Boxed W (w.heap.size+1+1+1) 69 (.int .i64 res.1)/\Below w.heap.size w W)
  (λpre X Y hs ho=>by
   obtain⟨ps,qs,rest,h1,h2,h3,h4,h5,h6⟩:=hs;exact⟨ps,qs,rest,h1,h2,h3,h4,two_othR h5 (by omega) (by omega) (by omega) ho,below_othR h6 (le_refl _) (by rw[hszN];omega) (by omega) ho⟩)
  (λc pre X Y hs ho=>by
   obtain⟨h1,h2,h3,h4,h5,h6⟩:=hs;exact⟨h1,h2,boxed_oth h3 (by omega) ho,boxed_oth h4 (by omega) ho,boxed_oth h5 (by omega) ho,below_othR h6 (le_refl _) (by rw[hszN];omega) (by omega) ho⟩)
  ⟨[],[],ls,rfl,hres,rfl,rfl,⟨_,_,_,_,hb9,hb10,World.ownsRow_nil _ _ _ _,World.ownsRow_nil _ _ _ _,λb hb=>(by cases hb),λb hb=>(by cases hb)⟩,hW2⟩
  (λx=>{ tmps := #[.agg #[v0,v1,v2,v3,v4],.string ⟨⟨s⟩⟩,.pointer (some ⟨w.heap.size,0,none⟩),undef,.pointer (some ⟨w.heap.size+1,0,none⟩),.pointer (some ⟨w.heap.size+1+1,0,none⟩),.pointer (some ⟨w.heap.size+1+1+1,0,none⟩),.slice la ls.length lc,.int .i64 0,
   .pointer (some ⟨w1.heap.size,0,none⟩),.pointer (some ⟨w1.heap.size+1,0,none⟩),.string ⟨⟨x⟩⟩,undef,undef,undef,undef,undef,.tuple #[.slice la ls.length lc,.int .i64 0],.agg #[v0,v1,v2,v3,v4],.string ⟨⟨s⟩⟩,.tuple #[.slice la ls.length lc,.int .i64 0],.slice la ls.length lc,.int .i64 0,.int .i64 0,.bool false,undef,.slice la ls.length lc,
   .func (.func 169) #[] #[.pointer (some ⟨w1.heap.size+1+1,0,none⟩)],.string ⟨⟨x⟩⟩,undef,undef,undef,undef,undef,undef,undef,undef,undef,undef,undef,undef,undef,undef,undef,undef,undef,undef,undef,undef,undef,undef,undef,undef,undef,undef,undef,undef,undef,undef,undef],defers:=[] }) ?assign ?body ?done ?stop
 case assign =>
  intro l x W K hK
  gi_wp2
  exact hK
 case body =>
  rintro l pre x W hsz hpre ⟨ps,qs,rest,hls,hbf,hlp,hlq,hTwo,hbel⟩;obtain⟨rest',rfl⟩:∃r,rest=x::r:=by
   obtain⟨t,ht⟩:=hpre;rw[hls,List.append_assoc]at ht;have:=List.append_cancel_left ht;exact⟨t,by simpa using this.symm⟩
  simp only[bothF]at hbf;obtain⟨⟨a1,a2⟩,ha,hbf2⟩:=bind_eq_some_iff.1 hbf;simp only at hbf2;rw[hszN]at hsz;have hWw:Below w.heap.size w W:=hb0.trans (hbel.mono (by omega));have hcA:=hA x _ ha W hWw;obtain⟨t0,t1,t2,t3,t4⟩:=hT W hbel;by_cases hz:a2=0
  . subst hz
    have hbf3:((U x).bind λu=>bothF A U rest' (ps++[a1]) (qs++[u.1]))=some res:=hbf2;obtain⟨⟨u1,u2⟩,hu,hbf4⟩:=bind_eq_some_iff.1 hbf3;simp only at hbf4;have hcU:=hU x _ hu
    gi_wp2_with (first
     | (refine⟨trivial,?_⟩;gi_at_call 142;refine(CallsIn.inRound l (callsIn_wide.2 hcA)).mono ?_;rintro e W3 ⟨rfl,hb3⟩;have hbel3:Below w1.heap.size w1 W3:=hbel.trans (hb3.mono (by omega));obtain⟨t5,t6,t7,t8,t9⟩:=hT W3 hbel3)
     | (refine⟨trivial,?_⟩;gi_at_call 143;refine(CallsIn.inRound l (callsIn_wide.2 (hcU W3 (hb0.trans (hbel3.mono (by omega)))))).mono ?_;rintro e W4 ⟨rfl,hb4⟩))
    have hb34:Below W.heap.size W W4:=hb3.trans (hb4.mono hb3.size);have hTwo4:Two (w1.heap.size+3) w1.heap.size (w1.heap.size+1) W4 ps qs:=two_othR (N:=0) (Bs:=w1.heap.size+1+1) hTwo (by omega) (by omega) (by omega) (Oth.of_below hb34).toR;have hll2:pre.length<=32:=by have:=hpre.length_le;simp at this;omega
    refine wpIn_mono (c:=Code.region 11 ops11 true) (region11 l _ ps qs a1 u1 (by omega) (by omega) _ w1.heap.size (w1.heap.size+3) w1.heap.size (w1.heap.size+1) (by omega) W4 (gi_below hg1 (hbel3.trans (hb4.mono (by have:=hbel3.size;omega)))) (λb hb=>(hg1.b b hb).1) (by omega) (le_refl _) (by omega) hTwo4 rfl (by have:=hb34.size;omega) rfl rfl rfl rfl) ?_;rintro e a' w' ⟨rfl,hTwo',o1,o2,o3,o4,o5,o6⟩;refine⟨⟨le_trans hb34.size o4,λk o _ hk hc=>o6 k o ((hb34.block k (lt_of_some hk)).trans hk) hc⟩,?_,ps++[a1],qs++[u1],rest',by simp[hls],hbf4,by simp;omega,by simp;omega,hTwo',?_⟩
    . rintro b (rfl|hb)
      . rw[o5 _ (by omega) (by omega) (by omega),hb34.block _ (by omega)]
      . have:=hown b hb
        rw[o5 _ (by omega) (by omega) (by omega),hb34.block _ (by omega)]
    . exact(hbel.trans (hb34.mono (by omega))).trans ⟨o1,o2,o3,o4,λk hk=>o5 k (by omega) (by omega) (by omega)⟩
  . have hbf3:some (a2,([]:List (List UInt8)),([]:List (List UInt8)))=some res:=by
     rw[<-hbf2,show (a2 != 0)=true by simpa using hz];rfl
    cases hbf3
    gi_wp2_with (refine⟨trivial,?_⟩;gi_at_call 142;refine(CallsIn.inRound l (callsIn_wide.2 hcA)).mono ?_;rintro e W3 ⟨rfl,hb3⟩;have hbel3:Below w1.heap.size w1 W3:=hbel.trans (hb3.mono (by omega));obtain⟨q1,q2,q3⟩:=hR W3 hbel3;have q4:=q1.cell;have q5:=q1.frozen;have q6:=q2.cell;have q7:=q2.frozen;have q8:=q3.cell;have q9:=q3.frozen)
    refine⟨KeepsFrom.trans ⟨hb3.size,λk o _ h _=>(hb3.block k (lt_of_some h)).trans h⟩ ((((KeepsOthers.setCell _ _ _).trans (KeepsOthers.setCell _ _ _)).trans (KeepsOthers.setCell _ _ _)).from _),rfl,?_,?_,?_,?_⟩
    . exact setBox (setBox (Boxed.set _ q1) (by omega)) (by omega)
    . exact setBox (Boxed.set _ (setBox q2 (by omega))) (by omega)
    . exact Boxed.set _ (setBox (setBox q3 (by omega)) (by omega))
    . exact(((hb0.trans (hbel3.mono (by omega))).setCell (p:=⟨w.heap.size+1,0,none⟩) (show w.heap.size<=w.heap.size+1 by omega) _).setCell (p:=⟨w.heap.size+1+1,0,none⟩) (show w.heap.size<=w.heap.size+1+1 by omega) _).setCell (p:=⟨w.heap.size+1+1+1,0,none⟩) (show w.heap.size<=w.heap.size+1+1+1 by omega) _
 case done =>
  rintro D W hD ⟨ps,qs,rest,hls,hbf,hlp,hlq,hTwo,hbel⟩ hK;have hrest:rest=[]:=by
   have:=congrArg List.length hls;simp at this;exact this
  subst hrest;have hres':(0,ps,qs)=res:=Option.some.inj hbf;subst hres';have ho:((joinF (ps,[46],())).bind λja=>bif decide (253<ja.1.length)then some (([]:List UInt8),([]:List UInt8),(5:Int))else(joinF (qs,[46],())).bind λju=>some (ja.1,ju.1,0))=some (oa,ou,oc):=hout;obtain⟨⟨ja,ju0⟩,hja,ho2⟩:=bind_eq_some_iff.1 ho;obtain⟨va,vu,ta,tu,bx9,bx10,rw9,rw10,_,_⟩:=hTwo.ex;have hcj:=join_call rw9 hja (gi_below hg1 hbel);have c9:=bx9.cell;have c10:=bx10.cell;have hDW:D<W.heap.size:=lt_of_some hK;rw[hszN]at hD;have hs8:w1.heap.size<=W.heap.size:=hbel.size;clear hls hbf hout ho hres hll hlp hlq;by_cases h253:253<ja.length
  . have ho3:some (([]:List UInt8),([]:List UInt8),(5:Int))=some (oa,ou,oc):=by rw[<-ho2];simp only;rw[decide_eq_true h253];rfl
    cases ho3
    gi_wp2_with (refine⟨trivial,?_⟩;gi_at_call 144;refine(callsIn_wide.2 hcj).mono ?_;rintro e W5 ⟨rfl,hb5⟩;have hbel5:Below w1.heap.size w1 W5:=hbel.trans (hb5.mono (by have:=hbel.size;omega));obtain⟨q1,q2,q3⟩:=hR W5 hbel5;have q4:=q1.cell;have q5:=q1.frozen;have q6:=q2.cell;have q7:=q2.frozen;have q8:=q3.cell;have q9:=q3.frozen)
    have hKX:((((W5.setCell ⟨w.heap.size+1,0,none⟩ (.string ⟨#[]⟩)).setCell ⟨w.heap.size+1+1,0,none⟩ (.string ⟨#[]⟩)).setCell ⟨w.heap.size+1+1+1,0,none⟩ (.int .i64 5))).heap[D]? = some (.deferred (some [])):=by
     rw[Below.heap_setCell _ _ _ _ (show D≠w.heap.size+1+1+1 by omega),Below.heap_setCell _ _ _ _ (show D≠w.heap.size+1+1 by omega),Below.heap_setCell _ _ _ _ (show D≠w.heap.size+1 by omega)];exact(hb5.block D hDW).trans hK
    refine⟨by simp,.inl ⟨_,_,rfl,run_takeDeferred hKX,?_⟩⟩;have e1:=setBox (b':=w.heap.size+1+1+1) (u:=(.int .i64 5)) (setBox (b':=w.heap.size+1+1) (u:=(.string ⟨#[]⟩)) (Boxed.set (.string ⟨#[]⟩) q1) (by omega)) (by omega);have e2:=setBox (b':=w.heap.size+1+1+1) (u:=(.int .i64 5)) (Boxed.set (.string ⟨#[]⟩) (setBox (b':=w.heap.size+1) (u:=(.string ⟨#[]⟩)) q2 (by omega))) (by omega);have e3:=Boxed.set (.int .i64 5) (setBox (b':=w.heap.size+1+1) (u:=(.string ⟨#[]⟩)) (setBox (b':=w.heap.size+1) (u:=(.string ⟨#[]⟩)) q3 (by omega)) (by omega));have hc1:=cell_kept e1.cell (grownBy_putObj' _ D (.deferred none)) (λr e=>by cases e;exact⟨_,hKX,rfl⟩);have hc2:=cell_kept e2.cell (grownBy_putObj' _ D (.deferred none)) (λr e=>by cases e;exact⟨_,hKX,rfl⟩);have hc3:=cell_kept e3.cell (grownBy_putObj' _ D (.deferred none)) (λr e=>by cases e;exact⟨_,hKX,rfl⟩);have hbX:=(((hb0.trans (hbel5.mono (show w.heap.size<=w1.heap.size by omega))).setCell (p:=⟨w.heap.size+1,0,none⟩) (show w.heap.size<=w.heap.size+1 by omega) (.string ⟨#[]⟩)).setCell (p:=⟨w.heap.size+1+1,0,none⟩) (show w.heap.size<=w.heap.size+1+1 by omega) (.string ⟨#[]⟩)).setCell (p:=⟨w.heap.size+1+1+1,0,none⟩) (show w.heap.size<=w.heap.size+1+1+1 by omega) (.int .i64 5);refine⟨.tuple #[(.string ⟨#[]⟩),(.string ⟨#[]⟩),(.int .i64 5)],?_,rfl,hbX.trans (belowK_b (w:=w) (le_refl _) _ D _ _ (by omega) hKX rfl rfl)⟩;simp[results,f111,go_sem,hc1,hc2,hc3]
  . have ho3:((joinF (qs,[46],())).bind λju=>some (ja,ju.1,(0:Int)))=some (oa,ou,oc):=by rw[<-ho2];simp only;rw[decide_eq_false h253];rfl
    obtain⟨⟨ju,ju1⟩,hju,ho4⟩:=bind_eq_some_iff.1 ho3;cases ho4
    gi_wp2_with (first
     | (refine⟨trivial,?_⟩;gi_at_call 144;refine(callsIn_wide.2 hcj).mono ?_;clear hcj;rintro e W5 ⟨rfl,hb5⟩;have hbel5:Below w1.heap.size w1 W5:=hbel.trans (hb5.mono (by have:=hbel.size;omega));have c11:W5.cell? ⟨w1.heap.size+1,0,none⟩=some vu:=(hb5.cell (p:=⟨w1.heap.size+1,0,none⟩) bx10.lt).trans c10;have hcj2:=join_call (ownsRow_oth (N:=0) (Bs:=w1.heap.size+1+1) (by omega) rw10 (Oth.of_below hb5).toR) hju (gi_below hg1 hbel5))
     | (refine⟨trivial,?_⟩;gi_at_call 144;refine(callsIn_wide.2 hcj2).mono ?_;clear hcj2;rintro e W6 ⟨rfl,hb6⟩;have hbel6:Below w1.heap.size w1 W6:=hbel5.trans (hb6.mono (by have:=hbel5.size;omega));obtain⟨q1,q2,q3⟩:=hR W6 hbel6;have q4:=q1.cell;have q5:=q1.frozen;have q6:=q2.cell;have q7:=q2.frozen;have q8:=q3.cell;have q9:=q3.frozen))
    have hKX:((((W6.setCell ⟨w.heap.size+1,0,none⟩ (.string ⟨⟨oa⟩⟩)).setCell ⟨w.heap.size+1+1,0,none⟩ (.string ⟨⟨ju⟩⟩)).setCell ⟨w.heap.size+1+1+1,0,none⟩ (.int .i64 0))).heap[D]? = some (.deferred (some [])):=by
     rw[Below.heap_setCell _ _ _ _ (show D≠w.heap.size+1+1+1 by omega),Below.heap_setCell _ _ _ _ (show D≠w.heap.size+1+1 by omega),Below.heap_setCell _ _ _ _ (show D≠w.heap.size+1 by omega)];exact(hb6.block D (Nat.lt_of_lt_of_le hDW hb5.size)).trans ((hb5.block D hDW).trans hK)
    refine⟨by simp,.inl ⟨_,_,rfl,run_takeDeferred hKX,?_⟩⟩;have e1:=setBox (b':=w.heap.size+1+1+1) (u:=(.int .i64 0)) (setBox (b':=w.heap.size+1+1) (u:=(.string ⟨⟨ju⟩⟩)) (Boxed.set (.string ⟨⟨oa⟩⟩) q1) (by omega)) (by omega);have e2:=setBox (b':=w.heap.size+1+1+1) (u:=(.int .i64 0)) (Boxed.set (.string ⟨⟨ju⟩⟩) (setBox (b':=w.heap.size+1) (u:=(.string ⟨⟨oa⟩⟩)) q2 (by omega))) (by omega);have e3:=Boxed.set (.int .i64 0) (setBox (b':=w.heap.size+1+1) (u:=(.string ⟨⟨ju⟩⟩)) (setBox (b':=w.heap.size+1) (u:=(.string ⟨⟨oa⟩⟩)) q3 (by omega)) (by omega));have hc1:=cell_kept e1.cell (grownBy_putObj' _ D (.deferred none)) (λr e=>by cases e;exact⟨_,hKX,rfl⟩);have hc2:=cell_kept e2.cell (grownBy_putObj' _ D (.deferred none)) (λr e=>by cases e;exact⟨_,hKX,rfl⟩);have hc3:=cell_kept e3.cell (grownBy_putObj' _ D (.deferred none)) (λr e=>by cases e;exact⟨_,hKX,rfl⟩);have hbX:=(((hb0.trans (hbel6.mono (show w.heap.size<=w1.heap.size by omega))).setCell (p:=⟨w.heap.size+1,0,none⟩) (show w.heap.size<=w.heap.size+1 by omega) (.string ⟨⟨oa⟩⟩)).setCell (p:=⟨w.heap.size+1+1,0,none⟩) (show w.heap.size<=w.heap.size+1+1 by omega) (.string ⟨⟨ju⟩⟩)).setCell (p:=⟨w.heap.size+1+1+1,0,none⟩) (show w.heap.size<=w.heap.size+1+1+1 by omega) (.int .i64 0);refine⟨.tuple #[(.string ⟨⟨oa⟩⟩),(.string ⟨⟨ju⟩⟩),(.int .i64 0)],?_,rfl,hbX.trans (belowK_b (w:=w) (le_refl _) _ D _ _ (by omega) hKX rfl rfl)⟩;simp[results,f111,go_sem,hc1,hc2,hc3]
 case stop =>
  rintro D c pre W hD hpre ⟨rfl,hne,h1,h2,h3,hbel⟩ hK;have ho:some (([]:List UInt8),([]:List UInt8),res.1)=some (oa,ou,oc):=by
   rw[<-hout];unfold outF;rw[show (res.1 != 0)=true by simpa using hne];rfl
  cases ho
  gi_wp2
  refine⟨by simp,.inl ⟨_,_,rfl,run_takeDeferred hK,?_⟩⟩;have hc1:=cell_kept h1.cell (grownBy_putObj' _ D (.deferred none)) (λr e=>by cases e;exact⟨_,hK,rfl⟩);have hc2:=cell_kept h2.cell (grownBy_putObj' _ D (.deferred none)) (λr e=>by cases e;exact⟨_,hK,rfl⟩);have hc3:=cell_kept h3.cell (grownBy_putObj' _ D (.deferred none)) (λr e=>by cases e;exact⟨_,hK,rfl⟩);rw[hszN]at hD;refine⟨.tuple #[.string ⟨#[]⟩,.string ⟨#[]⟩,.int .i64 res.1],?_,rfl,hbel.trans (belowK_b (w:=w) (le_refl _) W D _ _ (by omega) hK rfl rfl)⟩;simp[results,f111,go_sem,hc1,hc2,hc3]
set_option maxHeartbeats 4000000 in
theorem both_err(v0 v1 v2 v3 v4:Value)(s:List UInt8)(c:Int)(hc:c≠0)(w:World)(hlab:∀W,Below w.heap.size w W->Calls prog 140 #[.agg #[v0,v1,v2,v3,v4],.string ⟨⟨s⟩⟩] W λe w'=>∃v,e = .returned (.tuple #[v,.int .i64 c])/\Below W.heap.size W w') :
 Calls prog 111 #[.agg #[v0,v1,v2,v3,v4],.string ⟨⟨s⟩⟩] w λe w'=>e = .returned (.tuple #[.string ⟨#[]⟩,.string ⟨#[]⟩,.int .i64 c])/\Below w.heap.size w w':=by
 have hW0:Below w.heap.size w ((((w.alloc (.cells #[v0,v1,v2,v3,v4] 47)).alloc (.cells #[.string ⟨#[]⟩] 9)).alloc (.cells #[.string ⟨#[]⟩] 9)).alloc (.cells #[.int .i64 0] 69)) :=
  ((((Below.refl _ w).alloc (le_refl _) _).alloc (by simp) _).alloc (by simp<;>omega) _).alloc (by simp<;>omega) _
 have hR:∀X,Below (w.heap.size+4) ((((w.alloc (.cells #[v0,v1,v2,v3,v4] 47)).alloc (.cells #[.string ⟨#[]⟩] 9)).alloc (.cells #[.string ⟨#[]⟩] 9)).alloc (.cells #[.int .i64 0] 69)) X->Boxed X (w.heap.size+1) 9 (.string ⟨#[]⟩)/\Boxed X (w.heap.size+1+1) 9 (.string ⟨#[]⟩)/\Boxed X (w.heap.size+1+1+1) 69 (.int .i64 0):=λX hX=>by
  refine⟨?_,?_,?_⟩
  . show X.heap[_]? = _
    rw[hX.block _ (by omega),Below.heap_alloc _ _ _ (by simp<;>omega),Below.heap_alloc _ _ _ (by simp)];have:=heap_alloc_new (w.alloc (.cells #[v0,v1,v2,v3,v4] 47)) (.cells #[.string ⟨#[]⟩] 9)
    rwa[World.size_alloc]at this
  . show X.heap[_]? = _
    rw[hX.block _ (by omega),Below.heap_alloc _ _ _ (by simp)];have:=heap_alloc_new ((w.alloc (.cells #[v0,v1,v2,v3,v4] 47)).alloc (.cells #[.string ⟨#[]⟩] 9)) (.cells #[.string ⟨#[]⟩] 9)
    rwa[World.size_alloc,World.size_alloc]at this
  . show X.heap[_]? = _
    rw[hX.block _ (by omega)];have:=heap_alloc_new (((w.alloc (.cells #[v0,v1,v2,v3,v4] 47)).alloc (.cells #[.string ⟨#[]⟩] 9)).alloc (.cells #[.string ⟨#[]⟩] 9)) (.cells #[.int .i64 0] 69)
    rwa[World.size_alloc,World.size_alloc,World.size_alloc]at this
 have hl:=hlab _ hW0;clear hlab
 go_enter func111,ntmps111
 go_wp2_with (go_at_call 140;refine hl.mono ?_;rintro e w1 ⟨lv,rfl,hb1⟩;obtain⟨q1,q2,q3⟩:=hR w1 (hb1.mono (by simp));have q4:=q1.cell;have q5:=q1.frozen;have q6:=q2.cell;have q7:=q2.frozen;have q8:=q3.cell;have q9:=q3.frozen)
 have e1:=setBox (b':=w.heap.size+1+1+1) (u:=(.int .i64 c)) (setBox (b':=w.heap.size+1+1) (u:=(.string ⟨#[]⟩)) (Boxed.set (.string ⟨#[]⟩) q1) (by omega)) (by omega);have e2:=setBox (b':=w.heap.size+1+1+1) (u:=(.int .i64 c)) (Boxed.set (.string ⟨#[]⟩) (setBox (b':=w.heap.size+1) (u:=(.string ⟨#[]⟩)) q2 (by omega))) (by omega);have e3:=Boxed.set (.int .i64 c) (setBox (b':=w.heap.size+1+1) (u:=(.string ⟨#[]⟩)) (setBox (b':=w.heap.size+1) (u:=(.string ⟨#[]⟩)) q3 (by omega)) (by omega));have hc1:=e1.cell;have hc2:=e2.cell;have hc3:=e3.cell;have hbX:=(((hW0.trans (hb1.mono (by simp<;>omega))).setCell (p:=⟨w.heap.size+1,0,none⟩) (show w.heap.size<=w.heap.size+1 by omega) (.string ⟨#[]⟩)).setCell (p:=⟨w.heap.size+1+1,0,none⟩) (show w.heap.size<=w.heap.size+1+1 by omega) (.string ⟨#[]⟩)).setCell (p:=⟨w.heap.size+1+1+1,0,none⟩) (show w.heap.size<=w.heap.size+1+1+1 by omega) (.int .i64 c)
 (try simp only[Exit.inBlock,Exit.then])
 refine bodyPost_ret (by simp[results,results124,go_sem,hc1,hc2,hc3];try rfl) rfl ?_;exact⟨rfl,hbX⟩
theorem tbl_int{f:FuncId}{fn:Func}{F:T142}(h:FnOk prog f ⟨jg,jr,F⟩)(hf:prog.funcs[f]? = some fn)(hb:fn.body.isSome=true)(hname:(fn.name == "runtime.NumGoroutine")=false){t0 t1 t2}{x r:List UInt8}{c:Int}(hF:F (t0,t1,t2,x,())=some (r,c,())){w:World}{m:Md}(gi:GI w m)(hlt:∀b,m.a b->b<w.heap.size){a:Array Value}(ht:RepL w m [] (tabA t0 t1 t2) a.toList) :
 Calls prog f #[.agg a,.string ⟨⟨x⟩⟩] w λe w'=>e = .returned (.tuple #[.string ⟨⟨r⟩⟩,.int .i64 c])/\Below w.heap.size w w':=by
 refine(FnOk.call0 (v:=(t0,t1,t2,x,())) (y:=(r,c,())) h hf hb hname gi hlt rfl ⟨_,_,rfl,⟨a,rfl,ht⟩,_,_,rfl,rfl,rfl⟩ rfl hF ?_).mono λe w' ⟨rv,h1,h2,ax,l',u,h3,h4⟩ => ?_
 . intro ax l' u h3
   cases osel_one_inv h3;rfl
 . cases osel_one_inv h3
   obtain⟨v,r',e1,⟨b,e2,e3⟩,e4⟩:=h4;have e4':r'=[]:=e4;subst e4';cases e1;subst h1 e2;refine⟨?_,h2⟩;obtain⟨v1,q1,f1,rfl,v2,q2,f2,⟨rfl,_⟩,f4⟩:=e3;have f4':q2=[]:=f4;subst f4' f2;cases b;cases f1;rfl
theorem tbl_bool{f:FuncId}{fn:Func}{F:T151}(h:FnOk prog f ⟨jg,jq,F⟩)(hf:prog.funcs[f]? = some fn)(hb:fn.body.isSome=true)(hname:(fn.name == "runtime.NumGoroutine")=false){t0 t1 t2}{x r:List UInt8}{c:Bool}(hF:F (t0,t1,t2,x,())=some (r,c,())){w:World}{m:Md}(gi:GI w m)(hlt:∀b,m.a b->b<w.heap.size){a:Array Value}(ht:RepL w m [] (tabA t0 t1 t2) a.toList) :
 Calls prog f #[.agg a,.string ⟨⟨x⟩⟩] w λe w'=>e = .returned (.tuple #[.string ⟨⟨r⟩⟩,.bool c])/\Below w.heap.size w w':=by
 refine(FnOk.call0 (v:=(t0,t1,t2,x,())) (y:=(r,c,())) h hf hb hname gi hlt rfl ⟨_,_,rfl,⟨a,rfl,ht⟩,_,_,rfl,rfl,rfl⟩ rfl hF ?_).mono λe w' ⟨rv,h1,h2,ax,l',u,h3,h4⟩ => ?_
 . intro ax l' u h3
   cases osel_one_inv h3;rfl
 . cases osel_one_inv h3
   obtain⟨v,r',e1,⟨b,e2,e3⟩,e4⟩:=h4;have e4':r'=[]:=e4;subst e4';cases e1;subst h1 e2;refine⟨?_,h2⟩;obtain⟨v1,q1,f1,rfl,v2,q2,f2,rfl,f4⟩:=e3;have f4':q2=[]:=f4;subst f4' f2;cases b;cases f1;rfl
def C111:T111:=λ(t0,t1,t2,s,_)=>(C151 (t0,t1,t2,s,())).bind λf=>(labelsF f.1 f.2.1).bind λlc=>bif lc.2 != 0 then some ([],[],lc.2,())else bif decide (lc.1.length<=32)then(bothF (λx=>(C142 (t0,t1,t2,x,())).map λr=>(r.1,r.2.1)) (λx=>(C143 (t0,t1,t2,x,())).map λr=>(r.1,r.2.1)) lc.1 [] []).bind λres=>(outF res).map λo=>(o.1,o.2.1,o.2.2,())else none
theorem ok111:FnOk prog 111 (E111 C111):=by
 refine hand func111 (by kernel_rfl) (by kernel_rfl) (λ_=>rfl) (λ_=>rfl) ?_;rintro⟨t0,t1,t2,s,u⟩ y hy w m args gi hn hlt hargs;obtain⟨va,r1,e1,⟨a,rfl,ht⟩,vs,r2,e2,e3,e4⟩:=hargs;have e4':r2=[]:=e4;have e3':vs = .string ⟨⟨s⟩⟩:=e3;subst e4' e3' e2;have ha:args = #[.agg a,.string ⟨⟨s⟩⟩]:=by cases args;simpa using e1
 subst ha;have ht0:RepL w m [] (tabA t0 t1 t2) a.toList:=ht;have hst:∀W,Below w.heap.size w W->Stp w m W m:=λW hb=>stp_below hb λb hb=>(hn b hb).elim;have htW:∀W,Below w.heap.size w W->RepL W m [] (tabA t0 t1 t2) a.toList:=λW hb=>RepL.mono (hst W hb) (λ_ _ h=>h) _ _ ht0;have hltW:∀W,Below w.heap.size w W->∀b,m.a b->b<W.heap.size:=λW hb b h=>Nat.lt_of_lt_of_le (hlt b h) hb.size;have g0:GI w m0:=⟨gi.i,λb hb=>⟨(gi.b b hb).1,λh=>h⟩⟩
 obtain⟨v0,v1,v2,v3,v4,rfl⟩:∃v0 v1 v2 v3 v4,a = #[v0,v1,v2,v3,v4]:=by
  obtain⟨w0,q0,f0,_,w1,q1,f1,_,w2,q2,f2,_,w3,q3,f3,_,w4,q4,f4,_,f5⟩:=ht0;have f5':q4=[]:=f5;subst f5' f4 f3 f2 f1;exact⟨w0,w1,w2,w3,w4,by cases a;simpa using f0⟩
 have hy1:((C151 (t0,t1,t2,s,())).bind λf=>(labelsF f.1 f.2.1).bind λlc =>
  bif lc.2 != 0 then some ([],[],lc.2,())else
  bif decide (lc.1.length<=32)then
   (bothF (λx=>(C142 (t0,t1,t2,x,())).map λr=>(r.1,r.2.1)) (λx=>(C143 (t0,t1,t2,x,())).map λr=>(r.1,r.2.1)) lc.1 [] []).bind λres=>(outF res).map λo=>(o.1,o.2.1,o.2.2,())
  else none)=some y:=hy
 obtain⟨⟨f,ok,u0⟩,hf,hy2⟩:=bind_eq_some_iff.1 hy1;obtain⟨⟨ls,c⟩,hls,hy3⟩:=bind_eq_some_iff.1 hy2;simp only at hls hy3;have hfold:∀W,Below w.heap.size w W->Calls prog 151 #[.agg #[v0,v1,v2,v3,v4],.string ⟨⟨s⟩⟩] W λe W'=>e = .returned (.tuple #[.string ⟨⟨f⟩⟩,.bool ok])/\Below W.heap.size W W' :=
  λW hb=>tbl_bool ok151 func151 (by kernel_rfl) (by kernel_rfl) hf (gi.mono (hst W hb)) (hltW W hb) (htW W hb)
 have hlab:∀W,Below w.heap.size w W->Calls prog 140 #[.agg #[v0,v1,v2,v3,v4],.string ⟨⟨s⟩⟩] W λe w'=>∃v,e = .returned (.tuple #[v,.int .i64 c])/\Below W.heap.size W w'/\w'.ownsRow W.heap.size 9 1 v ls.length (ls.map encS) :=
  λW hb=>labels_walk v0 v1 v2 v3 v4 s f ok ls c W (gi_below g0 hb) hls λW2 hb2=>hfold W2 (hb.trans (hb2.mono hb.size))
 suffices hmain:∃oa ou oc,y=(oa,ou,oc,())/\Calls prog 111 #[.agg #[v0,v1,v2,v3,v4],.string ⟨⟨s⟩⟩] w λe w'=>e = .returned (.tuple #[.string ⟨⟨oa⟩⟩,.string ⟨⟨ou⟩⟩,.int .i64 oc])/\Below w.heap.size w w' by
  obtain⟨oa,ou,oc,rfl,hc⟩:=hmain;refine hc.mono λe w' ⟨k1,k2⟩=>⟨_,k1,k2,.ret,[.tuple 3,.str,.str,.int .i64],(oa,ou,oc,()),osel_one [.tuple 3,.str,.str,.int .i64] (oa,ou,oc,()),rfl,rfl,?_⟩
  exact⟨_,[],rfl,⟨_,rfl,_,_,rfl,rfl,_,_,rfl,rfl,_,_,rfl,⟨rfl,λh=>(by cases h)⟩,rfl⟩,rfl⟩
 by_cases hc:c=0
 . subst hc
   have hy4:(bif decide (ls.length<=32)then
    (bothF (λx=>(C142 (t0,t1,t2,x,())).map λr=>(r.1,r.2.1)) (λx=>(C143 (t0,t1,t2,x,())).map λr=>(r.1,r.2.1)) ls [] []).bind λres=>(outF res).map λo=>(o.1,o.2.1,o.2.2,())
    else none)=some y:=hy3
   rcases cond_some hy4 with⟨h32,hy5⟩|⟨_,hy5⟩
   case inr=>cases hy5
   obtain⟨res,hres,hy6⟩:=bind_eq_some_iff.1 hy5;obtain⟨⟨oa,ou,oc⟩,hout,hy7⟩:=map_eq_some_iff.1 hy6;refine⟨oa,ou,oc,hy7.symm,?_⟩;refine both_walk v0 v1 v2 v3 v4 s ls _ _ res w g0 (of_decide_eq_true h32) hres oa ou oc hout (λW hb=>hlab W hb) ?_ ?_
   . intro x r hr W hb
     obtain⟨⟨r1,r2,r3⟩,hq,rfl⟩:=map_eq_some_iff.1 hr;exact tbl_int ok142 func142 (by kernel_rfl) (by kernel_rfl) hq (gi.mono (hst W hb)) (hltW W hb) (htW W hb)
   . intro x r hr W hb
     obtain⟨⟨r1,r2,r3⟩,hq,rfl⟩:=map_eq_some_iff.1 hr;exact tbl_int ok143 func143 (by kernel_rfl) (by kernel_rfl) hq (gi.mono (hst W hb)) (hltW W hb) (htW W hb)
 . rcases cond_some hy3 with⟨_,hy4⟩|⟨h0,_⟩
   case inr=>exact(hc (by simpa using h0)).elim
   cases hy4;exact⟨[],[],c,rfl,both_err v0 v1 v2 v3 v4 s c hc w λW hb=>(hlab W hb).mono λe w' ⟨v,k1,k2,_⟩=>⟨v,k1,k2⟩⟩
end Go.Proofs.YtgkmfhhghcccjaaGreatDoorA.W
