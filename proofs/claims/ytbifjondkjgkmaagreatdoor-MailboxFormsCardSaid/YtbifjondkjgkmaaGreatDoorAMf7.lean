/- The texts of the proof, one behind the other: PR1, PS1, PS2, PS3, PS4, PS5, PU1, PU2, PU3, PL1, PL2, PL3, PL4, PL5, PUE, PR2. -/
import Derived.Test.YtbifjondkjgkmaaGreatDoorAMf6
import Derived.Test.YtbifjondkjgkmaaGreatDoorAMf3
open Bool (not_eq_true)
open Int (le_of_lt mul_add mul_assoc mul_comm mul_nonneg mul_zero tdiv_eq_ediv_of_nonneg toNat_natCast)
open List (all_eq_true append_assoc append_nil drop_drop ext_getElem? filter_append filter_cons getD_cons_zero getD_eq_getElem?_getD getElem?_drop getElem?_eq_none getElem?_set_ne getElem?_take_of_lt getElem_drop getElem_mem getElem_take length_append length_cons length_drop length_filter_le length_nil length_set length_take mem_append mem_iff_getElem mem_range mem_singleton nil_append take_append_drop take_of_length_le take_zero)
open Nat (add_assoc add_zero blt_eq le_refl pow_succ zero_le)
open Option (getD_some)
open Sum (elim_inl)
set_option linter.unusedVariables false
set_option linter.unusedSimpArgs false
set_option maxRecDepth 100000
namespace Go.Proofs.YtbifjondkjgkmaaGreatDoorA.W
open Go Go.Ae
def Fr(o n:Nat)(r r':List Int):Prop:=r'.length=r.length/\(∀i:Nat,i<o\/o+n<=i->r'[i]? = r[i]?)/\∀x∈r',x=0\/x∈r
theorem fr_refl{o n:Nat}{r:List Int}:Fr o n r r:=⟨rfl,λ_ _=>rfl,λ_ h => .inr h⟩
theorem gd0(r:List Int)(i:Nat):r.getD i 0=0\/r.getD i 0∈r:=by
 by_cases h:i<r.length
 . rw[getD_lt h];exact .inr (getElem_mem _)
 . refine .inl ?_
   rw[getD_eq_getElem?_getD,getElem?_eq_none (by omega)];rfl
theorem fr_sw{o n k m:Nat}{r r':List Int}{x y:Int}(h:Fr o n r r')(hk:k<n)(hm:m<n)(hx:x=0\/x∈r')(hy:y=0\/y∈r'):Fr o n r ((r'.set (o+k) x).set (o+m) y) :=
 ⟨by rw[length_set,length_set];exact h.1,λi hi=>by
  rw[getElem?_set_ne (by omega),getElem?_set_ne (by omega)];exact h.2.1 i hi,λz hz=>by
  have key:∀z,z∈r'->z=0\/z∈r:=h.2.2;rcases List.mem_or_eq_of_mem_set hz with hz|rfl
  . rcases List.mem_or_eq_of_mem_set hz with hz|rfl
    . exact key z hz
    . exact hx.elim .inl (key _)
  . exact hy.elim .inl (key _)⟩
section
variable {T:List R6} {A:List R4} {B:List R3}
theorem p278(a b:Int):Pf (C177 (a,b,T,A,B,())) (λy=>y.2=(T,A,B,())):=by
 unfold C177 F177;dsimp only;exact pZ pT λ_ _=>pZ pT λ_ _=>pP rfl
theorem p310_0(o n:Nat)(a b i j:Int)(row r:List Int)(h:Fr o n row r) :
 Pf (C242_c0 (((o:Int),(n:Int)),a,b,i,j,r,T,A,B,())) (λy=>∃(a b i j:Int) (r':List Int),Fr o n row r'/\y=(((o:Int),(n:Int)),a,b,i,j,r',T,A,B,())):=by
 unfold C242_c0 F242_c0;dsimp only;simp only[toNat_natCast];with_reducible repeat' (first|exact pN|apply pP|apply pX<;>intro _)
 exact⟨_,_,_,_,_,fr_sw h (by omega) (by omega) (gd0 _ _) (gd0 _ _),rfl⟩
theorem p310_1(o n:Nat)(a b i j:Int)(row r:List Int)(h:Fr o n row r) :
 Pf (C242_l0 (((o:Int),(n:Int)),a,b,i,j,r,T,A,B,())) (λy=>∃(a b i:Int) (r':List Int),Fr o n row r'/\y=(((o:Int),(n:Int)),a,b,i,r',T,A,B,())):=by
 refine pL ?I ?h _ ?hv
 case I=>exact(λv=>∃(a b i j:Int) (r':List Int),Fr o n row r'/\v=(((o:Int),(n:Int)),a,b,i,j,r',T,A,B,()))
 case hv=>exact⟨_,_,_,_,_,h,rfl⟩
 rintro v ⟨a,b,i,j,r',h1,rfl⟩;unfold F242_l0;dsimp only;simp only[toNat_natCast];with_reducible repeat' (first|exact pN|apply pP|apply pX<;>intro _)
 . refine pZ (p278 _ _) ?_
   rintro⟨c,t,a',b',u⟩ hc;simp only[Prod.mk.injEq]at hc;obtain⟨rfl,rfl,rfl,-⟩:=hc;dsimp only;with_reducible repeat' (first|exact pN|apply pP|apply pX<;>intro _)
   . refine pZ (p310_0 o n a b i j row r' h1) ?_
     rintro y ⟨a,b,i,j,r2,h4,rfl⟩;dsimp only;simp only[toNat_natCast];exact pP ⟨_,_,_,_,_,h4,rfl⟩
   . exact⟨_,_,_,_,h1,rfl⟩
 . exact⟨_,_,_,_,h1,rfl⟩
theorem p310(o n:Nat)(a b:Int)(row r:List Int)(h:Fr o n row r) :
 Pf (C242 (((o:Int),(n:Int)),a,b,r,T,A,B,())) (λy=>∃(r':List Int),Fr o n row r'/\y=(r',T,A,B,())):=by
 unfold C242 F242;dsimp only;simp only[toNat_natCast];refine pZ (P:=λy=>∃(r':List Int),Fr o n row r'/\y=(r',T,A,B,())) ?_ ?_
 . refine pL ?I ?h _ ?hv
   case I=>exact(λv=>∃(a b i:Int) (r':List Int),Fr o n row r'/\v=(((o:Int),(n:Int)),a,b,i,r',T,A,B,()))
   case hv=>exact⟨_,_,_,_,h,rfl⟩
   rintro v ⟨a,b,i,r',h2,rfl⟩;unfold F242_l1;dsimp only;simp only[toNat_natCast];with_reducible repeat' (first|exact pN|apply pP|apply pX<;>intro _)
   . refine pZ (p310_1 o n a b i i row r' h2) ?_
     rintro y ⟨a,b,i,r2,h4,rfl⟩;dsimp only;simp only[toNat_natCast];exact pP ⟨_,_,_,_,h4,rfl⟩
   . exact⟨_,h2,rfl⟩
 . rintro y ⟨r',h,rfl⟩
   exact pP ⟨_,h,rfl⟩
theorem p316(o n:Nat)(a b k:Int)(row r:List Int)(h:Fr o n row r) :
 Pf (C255 (((o:Int),(n:Int)),a,b,k,r,T,A,B,())) (λy=>∃(r':List Int),Fr o n row r'/\y=(r',T,A,B,())):=by
 unfold C255 F255;dsimp only;simp only[toNat_natCast];refine pZ (P:=λy=>∃(r':List Int),Fr o n row r'/\y=(r',T,A,B,())) ?_ ?_
 . refine pL ?I ?h _ ?hv
   case I=>exact(λv=>∃(a b k i:Int) (r':List Int),Fr o n row r'/\v=(((o:Int),(n:Int)),a,b,k,i,r',T,A,B,()))
   case hv=>exact⟨_,_,_,_,_,h,rfl⟩
   rintro v ⟨a,b,k,i,r',h2,rfl⟩;unfold F255_l0;dsimp only;simp only[toNat_natCast];with_reducible repeat' (first|exact pN|apply pP|apply pX<;>intro _)
   . exact⟨_,_,_,_,_,fr_sw h2 (by omega) (by omega) (gd0 _ _) (gd0 _ _),rfl⟩
   . exact⟨_,h2,rfl⟩
 . rintro y ⟨r',h,rfl⟩
   exact pP ⟨_,h,rfl⟩
theorem p315(o n:Nat)(a m b:Int)(row r:List Int)(h:Fr o n row r) :
 Pf (C249 (((o:Int),(n:Int)),a,m,b,r,T,A,B,())) (λy=>∃(r':List Int),Fr o n row r'/\y=(r',T,A,B,())):=by
 unfold C249 F249;dsimp only;simp only[toNat_natCast];refine pZ (P:=λy=>∃(m i:Int) (r':List Int),Fr o n row r'/\y=(((o:Int),(n:Int)),m,i,r',T,A,B,())) ?_ ?_
 . refine pL ?I ?h _ ?hv
   case I=>exact(λv=>∃(m i j:Int) (r':List Int),Fr o n row r'/\v=(((o:Int),(n:Int)),m,i,j,r',T,A,B,()))
   case hv=>exact⟨_,_,_,_,h,rfl⟩
   rintro v ⟨m,i,j,r',h5,rfl⟩;unfold F249_l0;dsimp only;simp only[toNat_natCast];with_reducible repeat' (first|exact pN|apply pP|apply pX<;>intro _)
   . refine pZ (p316 o n _ _ _ row r' h5) ?_
     rintro y ⟨r2,h6,rfl⟩;exact pP ⟨_,_,_,_,h6,rfl⟩
   . refine pZ (p316 o n _ _ _ row r' h5) ?_
     rintro y ⟨r2,h6,rfl⟩;exact pP ⟨_,_,_,_,h6,rfl⟩
   . exact⟨_,_,_,h5,rfl⟩
 . rintro y ⟨m,i,r',h4,rfl⟩
   dsimp only;simp only[toNat_natCast];refine pZ (p316 o n _ _ _ row r' h4) ?_;rintro y ⟨r2,h6,rfl⟩;exact pP ⟨_,h6,rfl⟩
theorem p311_0(G:T243)(o n:Nat)(a i j:Int)(row:List Int) :
 Pf (C243_l0 G (((o:Int),(n:Int)),a,i,j,row,T,A,B,())) (λy=>∃(a i':Int),y=(((o:Int),(n:Int)),a,i',row,T,A,B,())):=by
 refine pL ?I ?h _ ?hv
 case I=>exact(λv=>∃(a i' j':Int),v=(((o:Int),(n:Int)),a,i',j',row,T,A,B,()))
 case hv=>exact⟨_,_,_,rfl⟩
 rintro v ⟨a,i',j',rfl⟩;unfold F243_l0;dsimp only;simp only[toNat_natCast];with_reducible repeat' (first|exact pN|apply pP|apply pX<;>intro _)
 . refine pZ (p278 _ _) ?_
   rintro⟨c,t,a',b',u⟩ hc;simp only[Prod.mk.injEq]at hc;obtain⟨rfl,rfl,rfl,-⟩:=hc;dsimp only;with_reducible repeat' (first|exact pN|apply pP|apply pX<;>intro _)
   all_goals exact⟨_,_,_,rfl⟩
 . exact⟨_,_,rfl⟩
theorem p311_2(G:T243)(o n:Nat)(a i j:Int)(row:List Int) :
 Pf (C243_l2 G (((o:Int),(n:Int)),a,i,j,row,T,A,B,())) (λy=>∃(a i':Int),y=(((o:Int),(n:Int)),a,i',row,T,A,B,())):=by
 refine pL ?I ?h _ ?hv
 case I=>exact(λv=>∃(a i' j':Int),v=(((o:Int),(n:Int)),a,i',j',row,T,A,B,()))
 case hv=>exact⟨_,_,_,rfl⟩
 rintro v ⟨a,i',j',rfl⟩;unfold F243_l2;dsimp only;simp only[toNat_natCast];with_reducible repeat' (first|exact pN|apply pP|apply pX<;>intro _)
 . refine pZ (p278 _ _) ?_
   rintro⟨c,t,a',b',u⟩ hc;simp only[Prod.mk.injEq]at hc;obtain⟨rfl,rfl,rfl,-⟩:=hc;dsimp only;with_reducible repeat' (first|exact pN|apply pP|apply pX<;>intro _)
   all_goals exact⟨_,_,_,rfl⟩
 . exact⟨_,_,rfl⟩
theorem p311_1(G:T243)(o n:Nat)(i k:Int)(row r:List Int)(h:Fr o n row r) :
 Pf (C243_l1 G (((o:Int),(n:Int)),i,k,r,T,A,B,())) (λy=>∃(r':List Int),Fr o n row r'/\y=(r',T,A,B,())):=by
 refine pL ?I ?h _ ?hv
 case I=>exact(λv=>∃(i k:Int) (r':List Int),Fr o n row r'/\v=(((o:Int),(n:Int)),i,k,r',T,A,B,()))
 case hv=>exact⟨_,_,_,h,rfl⟩
 rintro v ⟨i,k,r',h2,rfl⟩;unfold F243_l1;dsimp only;simp only[toNat_natCast];with_reducible repeat' (first|exact pN|apply pP|apply pX<;>intro _)
 . exact⟨_,_,_,fr_sw h2 (by omega) (by omega) (gd0 _ _) (gd0 _ _),rfl⟩
 . exact⟨_,h2,rfl⟩
theorem p311_3(G:T243)(o n:Nat)(i k:Int)(row r:List Int)(h:Fr o n row r) :
 Pf (C243_l3 G (((o:Int),(n:Int)),i,k,r,T,A,B,())) (λy=>∃(r':List Int),Fr o n row r'/\y=(r',T,A,B,())):=by
 refine pL ?I ?h _ ?hv
 case I=>exact(λv=>∃(i k:Int) (r':List Int),Fr o n row r'/\v=(((o:Int),(n:Int)),i,k,r',T,A,B,()))
 case hv=>exact⟨_,_,_,h,rfl⟩
 rintro v ⟨i,k,r',h2,rfl⟩;unfold F243_l3;dsimp only;simp only[toNat_natCast];with_reducible repeat' (first|exact pN|apply pP|apply pX<;>intro _)
 . exact⟨_,_,_,fr_sw h2 (by omega) (by omega) (gd0 _ _) (gd0 _ _),rfl⟩
 . exact⟨_,h2,rfl⟩
theorem p311_4(G:T243)(o n:Nat)(a m b mid s st r p:Int)(row:List Int) :
 Pf (C243_l4 G (((o:Int),(n:Int)),a,m,b,mid,s,st,r,p,row,T,A,B,())) (λy=>∃(a m b mid s st':Int),y=(((o:Int),(n:Int)),a,m,b,mid,s,st',row,T,A,B,())):=by
 refine pL ?I ?h _ ?hv
 case I=>exact(λv=>∃(a m b mid s i' j' p:Int),v=(((o:Int),(n:Int)),a,m,b,mid,s,i',j',p,row,T,A,B,()))
 case hv=>exact⟨_,_,_,_,_,_,_,_,rfl⟩
 rintro v ⟨a,m,b,mid,s,i',j',p,rfl⟩;unfold F243_l4;dsimp only;simp only[toNat_natCast];with_reducible repeat' (first|exact pN|apply pP|apply pX<;>intro _)
 . refine pZ (p278 _ _) ?_
   rintro⟨c,t,a',b',u⟩ hc;simp only[Prod.mk.injEq]at hc;obtain⟨rfl,rfl,rfl,-⟩:=hc;dsimp only;with_reducible repeat' (first|exact pN|apply pP|apply pX<;>intro _)
   all_goals exact⟨_,_,_,_,_,_,_,_,rfl⟩
 . exact⟨_,_,_,_,_,_,rfl⟩
def Mq(T:List R6)(A:List R4)(B:List R3)(G:T243)(o n:Nat):Prop:=∀(a m b:Int) (row r:List Int),Fr o n row r ->
 Pf (G (((o:Int),(n:Int)),a,m,b,r,T,A,B,())) (λy=>∃(r':List Int),Fr o n row r'/\y=(r',T,A,B,()))
theorem p311_c0(G:T243)(o n:Nat)(hG:Mq T A B G o n)(b mid e:Int)(row r:List Int)(h:Fr o n row r) :
 Pf (C243_c0 G (((o:Int),(n:Int)),b,mid,e,r,T,A,B,())) (λy=>∃(r':List Int),Fr o n row r'/\y=(r',T,A,B,())):=by
 show Pf (F243_c0 C177 G C249 _) _;unfold F243_c0;dsimp only;simp only[toNat_natCast];with_reducible repeat' (first|exact pN|apply pP|apply pX<;>intro _)
 . refine pZ (hG mid e b row r h) ?_
   rintro y ⟨r',h,rfl⟩;exact pP ⟨_,h,rfl⟩
 . exact⟨_,h,rfl⟩
 . exact⟨_,h,rfl⟩
theorem p311_c1(G:T243)(o n:Nat)(hG:Mq T A B G o n)(a b mid st e:Int)(row r:List Int)(h:Fr o n row r) :
 Pf (C243_c1 G (((o:Int),(n:Int)),a,b,mid,st,e,r,T,A,B,())) (λy=>∃(r':List Int),Fr o n row r'/\y=(r',T,A,B,())):=by
 show Pf (F243_c1 C177 G C249 (C243_c0 G) _) _;unfold F243_c1;dsimp only;simp only[toNat_natCast];have fin:∀r0:List Int,Fr o n row r0->Pf ((C243_c0 G (((o:Int),(n:Int)),b,mid,e,r0,T,A,B,())).bind λval=>some (val.fst,val.snd.fst,val.snd.snd.fst,val.snd.snd.snd.fst,())) (λy=>∃(r':List Int),Fr o n row r'/\y=(r',T,A,B,())):=by
  intro r0 hr;refine pZ (p311_c0 G o n hG b mid e row r0 hr) ?_;rintro y ⟨r',h,rfl⟩;exact pP ⟨_,h,rfl⟩
 with_reducible repeat' (first|exact pN|apply pP|apply pX<;>intro _)
 . refine pZ (hG a st mid row r h) ?_
   rintro y ⟨r',h,rfl⟩;exact fin r' h
 . exact fin r h
 . exact fin r h
theorem p311_c2(G:T243)(o n:Nat)(hG:Mq T A B G o n)(a m b mid s st q:Int)(row r:List Int)(h:Fr o n row r) :
 Pf (C243_c2 G (((o:Int),(n:Int)),a,m,b,mid,s,st,q,r,T,A,B,())) (λy=>∃(r':List Int),Fr o n row r'/\y=(r',T,A,B,())):=by
 show Pf (F243_c2 C177 G C249 (C243_c1 G) (C243_l4 G) _) _;unfold F243_c2;dsimp only;simp only[toNat_natCast];refine pZ (p311_4 G o n a m b mid s st q _ r) ?_;rintro y ⟨a,m,b,mid,s,st',rfl⟩;dsimp only;simp only[toNat_natCast];have fin:∀(e:Int) (r0:List Int),Fr o n row r0->Pf ((C243_c1 G (((o:Int),(n:Int)),a,b,mid,st',e,r0,T,A,B,())).bind λval=>some (val.fst,val.snd.fst,val.snd.snd.fst,val.snd.snd.snd.fst,())) (λy=>∃(r':List Int),Fr o n row r'/\y=(r',T,A,B,())):=by
  intro e r0 hr0;refine pZ (p311_c1 G o n hG a b mid st' e row r0 hr0) ?_;rintro y ⟨r',h,rfl⟩;exact pP ⟨_,h,rfl⟩
 with_reducible repeat' (first|exact pN|apply pP|apply pX<;>intro _)
 . refine pZ (p315 o n _ _ _ row r h) ?_
   rintro y ⟨r',h,rfl⟩;exact fin _ r' h
 . exact fin _ r h
 . exact fin _ r h
theorem p311r(o n:Nat):∀k:Nat,Mq T A B (recN FF311 k) o n
 | 0=>λa m b row r h=>λ_ e=>by cases e
 | k+1=>λa m b row r h=>by
  have hG:=p311r o n k;show Pf (FF311 (recN FF311 k) _) _;generalize recN FF311 k=G at hG ⊢;show Pf (F243 C177 G C249 (C243_c2 G) (C243_l0 G) (C243_l1 G) (C243_l2 G) (C243_l3 G) _) _;unfold F243;dsimp only;simp only[toNat_natCast];have fin:∀{x:Option (List Int×List R6×List R4×List R3×Unit)},Pf x (λy=>∃(r':List Int),Fr o n row r'/\y=(r',T,A,B,()))->Pf (x.bind λval=>some (val.fst,val.snd.fst,val.snd.snd.fst,val.snd.snd.snd.fst,())) (λy=>∃(r':List Int),Fr o n row r'/\y=(r',T,A,B,())):=by
   intro x hx;refine pZ hx ?_;rintro y ⟨r',h,rfl⟩;exact pP ⟨_,h,rfl⟩
  with_reducible repeat' (first|exact pN|apply pP|apply pX<;>intro _)
  . refine pZ (p311_0 G o n _ _ _ r) ?_
    rintro y ⟨a',i',rfl⟩;dsimp only;simp only[toNat_natCast];exact fin (p311_1 G o n _ _ row r h)
  . refine pZ (p311_2 G o n _ _ _ r) ?_
    rintro y ⟨a',i',rfl⟩;dsimp only;simp only[toNat_natCast];exact fin (p311_3 G o n _ _ row r h)
  . exact fin (p311_c2 G o n hG _ _ _ _ _ _ _ row r h)
  . exact fin (p311_c2 G o n hG _ _ _ _ _ _ _ row r h)
theorem p311(o n:Nat)(a m b:Int)(row r:List Int)(h:Fr o n row r) :
 Pf (C243 (((o:Int),(n:Int)),a,m,b,r,T,A,B,())) (λy=>∃(r':List Int),Fr o n row r'/\y=(r',T,A,B,())):=by
 show Pf (recN FF311 big _) _;exact p311r o n big a m b row r h
theorem p299_0(o n:Nat)(x y' z w:Int)(row r:List Int)(h:Fr o n row r) :
 Pf (C224_l0 (((o:Int),(n:Int)),x,y',z,w,r,T,A,B,())) (λy=>∃(x y' a:Int) (r':List Int),Fr o n row r'/\y=(((o:Int),(n:Int)),x,y',a,r',T,A,B,())):=by
 refine pL ?I ?h _ ?hv
 case I=>exact(λv=>∃(x y' z w:Int) (r':List Int),Fr o n row r'/\v=(((o:Int),(n:Int)),x,y',z,w,r',T,A,B,()))
 case hv=>exact⟨_,_,_,_,_,h,rfl⟩
 rintro v ⟨x,y',z,w,r',h3,rfl⟩;unfold F224_l0;dsimp only;simp only[toNat_natCast];with_reducible repeat' (first|exact pN|apply pP|apply pX<;>intro _)
 . refine pZ (p310 o n _ _ row r' h3) ?_
   rintro y ⟨r2,h4,rfl⟩;exact pP ⟨_,_,_,_,_,h4,rfl⟩
 . exact⟨_,_,_,_,h3,rfl⟩
theorem p299_1(o n:Nat)(x y' z w:Int)(row r:List Int)(h:Fr o n row r) :
 Pf (C224_l1 (((o:Int),(n:Int)),x,y',z,w,r,T,A,B,())) (λy=>∃(x y' a:Int) (r':List Int),Fr o n row r'/\y=(((o:Int),(n:Int)),x,y',a,r',T,A,B,())):=by
 refine pL ?I ?h _ ?hv
 case I=>exact(λv=>∃(x y' z w:Int) (r':List Int),Fr o n row r'/\v=(((o:Int),(n:Int)),x,y',z,w,r',T,A,B,()))
 case hv=>exact⟨_,_,_,_,_,h,rfl⟩
 rintro v ⟨x,y',z,w,r',h3,rfl⟩;unfold F224_l1;dsimp only;simp only[toNat_natCast];with_reducible repeat' (first|exact pN|apply pP|apply pX<;>intro _)
 . refine pZ (p311 o n _ _ _ row r' h3) ?_
   rintro y ⟨r2,h4,rfl⟩;exact pP ⟨_,_,_,_,_,h4,rfl⟩
 . exact⟨_,_,_,_,h3,rfl⟩
theorem p299(o n:Nat)(x:Int)(row r:List Int)(h:Fr o n row r) :
 Pf (C224 (((o:Int),(n:Int)),x,r,T,A,B,())) (λy=>∃(r':List Int),Fr o n row r'/\y=(r',T,A,B,())):=by
 unfold C224 F224;dsimp only;simp only[toNat_natCast];refine pZ (p299_0 o n _ _ _ _ row r h) ?_;rintro y ⟨x,z,a,r1,h3,rfl⟩;dsimp only;simp only[toNat_natCast];refine pZ (p310 o n _ _ row r1 h3) ?_;rintro y ⟨r2,h4,rfl⟩;dsimp only;refine pZ (P:=λy=>∃(r':List Int),Fr o n row r'/\y=(r',T,A,B,())) ?_ ?_
 . refine pL ?I ?h _ ?hv
   case I=>exact(λv=>∃(x bs:Int) (r':List Int),Fr o n row r'/\v=(((o:Int),(n:Int)),x,bs,r',T,A,B,()))
   case hv=>exact⟨_,_,r2,h4,rfl⟩
   rintro v ⟨x,bs,r',h7,rfl⟩;unfold F224_l2;dsimp only;simp only[toNat_natCast];with_reducible repeat' (first|exact pN|apply pP|apply pX<;>intro _)
   . refine pZ (p299_1 o n _ _ _ _ row r' h7) ?_
     rintro y ⟨x,bs,a,r3,h10,rfl⟩;dsimp only;simp only[toNat_natCast];with_reducible repeat' (first|exact pN|apply pP|apply pX<;>intro _)
     . refine pZ (p311 o n _ _ _ row r3 h10) ?_
       rintro y ⟨r4,h11,rfl⟩;exact pP ⟨_,_,_,h11,rfl⟩
     . exact⟨_,_,_,h10,rfl⟩
   . exact⟨_,h7,rfl⟩
 . rintro y ⟨r',h,rfl⟩
   exact pP ⟨_,h,rfl⟩
theorem p277(o n:Nat)(row:List Int) :
 Pf (C176 (((o:Int),(n:Int)),row,T,A,B,())) (λy=>∃(r':List Int),Fr o n row r'/\y=(r',T,A,B,())):=by
 unfold C176 F176;dsimp only;simp only[toNat_natCast];refine pZ (p299 o n _ row row fr_refl) ?_;rintro y ⟨r',h,rfl⟩;exact pP ⟨_,h,rfl⟩
structure KT (T:List R6) (A:List R4) (B:List R3):Prop where
 cl:∀x,kk x=true->C175 (T,A,B,x,())=some (0,())
 lo:∀x,kk x=true->C114 (T,A,B,x,())=some (x,())
 ca:∀x,kk x=true->C120 (T,A,B,x,())=some (false,())
theorem p239_0(f k:Int)(row:List Int) :
 Pf (C142_c0 (f,k,T,A,B,row,())) (λy=>∃(r':List Int),0<=f/\Fr f.toNat (k.toNat-f.toNat) row r'/\y=(IntKind.i64.wrap (k+1),k,T,A,B,r',())):=by
 unfold C142_c0 F142_c0;dsimp only;with_reducible repeat' (first|exact pN|apply pP|apply pX<;>intro _)
 rename_i h1 h2;refine pZ (p277 f.toNat (k.toNat-f.toNat) row) ?_;rintro y ⟨r',h,rfl⟩;exact pP ⟨_,h2.1,h,rfl⟩
theorem p239(hK:KT T A B)(l:List Int)(hl:l.length<=35184372088832):Pf (C142 (T,A,B,l,())) (λy=>Rr l y.1):=by
 unfold C142 F142;dsimp only;refine pZ (P:=λy=>y.1=l) ?_ ?_
 . unfold C174
   dsimp only;with_reducible repeat' (first|exact pN|apply pP|apply pX<;>intro _)
   rfl
 rintro⟨l',u⟩ hl';dsimp only at hl' ⊢;subst hl';refine pZ (P:=λy=>Rr l' y.1) ?_ (λ_ h=>pP h);refine pL ?I ?h _ ?hv
 case I=>exact(λv=>∃(f:Int) (k:Int) (r':List Int),0<=f/\f<=k/\k<=l'.length+1/\r'.length=l'.length/\(∀(i:Nat) (x:Int),l'[i]? = some x->kk x=true->r'[i]? = some x)/\(∀i:Nat,f<=i->i<k->∀x,r'[i]? = some x->kk x=false)/\v=(f,k,T,A,B,r',()))
 case hv=>exact⟨0,0,l',Int.le_refl _,Int.le_refl _,by omega,rfl,λ_ _ h _=>h,λi _ h=>by omega,rfl⟩
 rintro v ⟨f,k,r',h1,h2,h3,h4,h5,h6,rfl⟩;unfold F142_l0;dsimp only;have fin:k<=r'.length->Pf ((C142_c0 (f,k,T,A,B,r',())).bind λval=>some (Sum.inl (val.fst,IntKind.i64.wrap (val.snd.fst+1),val.snd.snd.fst,val.snd.snd.snd.fst,val.snd.snd.snd.snd.fst,val.snd.snd.snd.snd.snd.fst,())))
  (Sum.elim (λv':Int×Int×List R6×List R4×List R3×List Int×Unit=>∃(f:Int) (k:Int) (r':List Int),0<=f/\f<=k/\k<=l'.length+1/\r'.length=l'.length/\(∀(i:Nat) (x:Int),l'[i]? = some x->kk x=true->r'[i]? = some x)/\(∀i:Nat,f<=i->i<k->∀x,r'[i]? = some x->kk x=false)/\v'=(f,k,T,A,B,r',())) (λy:List Int×Unit=>Rr l' y.1)):=by
  intro hk;refine pZ (p239_0 f k r') ?_;rintro y ⟨r2,h7,h8,rfl⟩;dsimp only;rw[w64s (n:=k+1) (by omega)];refine pP ⟨_,_,_,by omega,Int.le_refl _,by omega,h8.1.trans h4,?_,λi _ _=>by omega,rfl⟩;intro i x hi hx;have hr:=h5 i x hi hx;rw[h8.2.1 i]
  . exact hr
  . by_cases hik:f<=i/\(i:Int)<k
    . have:=h6 i hik.1 hik.2 x hr
      rw[this]at hx;cases hx
    . omega
 with_reducible repeat' (first|exact pN|apply pP|apply pX<;>intro _)
 . rename_i h7 h8 h9
   refine pZ (pM (P:=λy=>kk (r'.getD k.toNat 0)=true->y.1=0) (λy e hk=>by
    rw[hK.cl _ hk]at e;cases e;rfl) λ_ h=>h) ?_
   rintro⟨c,u⟩ hc;dsimp only at hc ⊢;with_reducible repeat' (first|exact pN|apply pP|apply pX<;>intro _)
   . rename_i h10
     rw[w64s (n:=k+1) (by omega)];refine⟨_,_,_,h1,by omega,by omega,h4,h5,λi hi hik x hx => ?_,rfl⟩;by_cases hlt:(i:Int)<k
     . exact h6 i hi hlt x hx
     . have hik':i=k.toNat:=by omega
       subst hik';cases hkx:kk x with
       | false=>rfl
       | true =>
        have:r'.getD k.toNat 0=x:=by rw[getD_eq_getElem?_getD,hx];rfl
        rw[this]at hc;have:=hc hkx;omega
   . exact fin (by omega)
 . exact fin (by omega)
 . exact Rr.pt h4 h5
end
def vv(o:Nat)(r:List Int)(i:Int):Int:=r.getD (o+i.toNat) 0
def sw(o:Nat)(r:List Int)(i j:Int):List Int:=(r.set (o+i.toNat) (vv o r j)).set (o+j.toNat) (vv o r i)
theorem sw_len(o:Nat)(r:List Int)(i j:Int):(sw o r i j).length=r.length:=by unfold sw;rw[length_set,length_set]
theorem getD_set'(r:List Int)(k:Nat)(x:Int)(m:Nat)(h:k<r.length):(r.set k x).getD m 0=if m=k then x else r.getD m 0:=by
 rw[getD_eq_getElem?_getD,List.getElem?_set];by_cases e:m=k
 . subst e;rw[if_pos rfl,if_pos h,if_pos rfl];rfl
 . rw[if_neg (λh=>e h.symm),if_neg e,<-getD_eq_getElem?_getD]
theorem v_sw{o:Nat}{r:List Int}{i j:Int}(hi:0<=i)(hj:0<=j)(li:o+i.toNat<r.length)(lj:o+j.toNat<r.length){p:Int}(hp:0<=p):vv o (sw o r i j) p=if p=j then vv o r i else if p=i then vv o r j else vv o r p:=by
 unfold sw;show ((r.set (o+i.toNat) (vv o r j)).set (o+j.toNat) (vv o r i)).getD (o+p.toNat) 0=_;rw[getD_set' _ _ _ _ (by rw[length_set];exact lj),getD_set' _ _ _ _ li];by_cases e:p=j
 . rw[if_pos (by rw[e]),if_pos e]
 . rw[if_neg (by omega),if_neg e]
   by_cases e':p=i
   . rw[if_pos (by rw[e']),if_pos e']
   . rw[if_neg (by omega),if_neg e'];rfl
theorem sw_comm{o:Nat}{r:List Int}{i j:Int}(h:i.toNat≠j.toNat):sw o r i j=sw o r j i:=by
 unfold sw;rw[List.set_comm _ _ (by omega)]
theorem set_two(x y x' y':Int)(B:List Int):∀A:List Int,((A++x::y::B).set A.length y').set (A.length+1) x'=A++y'::x'::B
 | []=>rfl
 | a::A=>by
  have:=set_two x y x' y' B A;simp only[List.cons_append,length_cons,List.set_cons_succ];rw[this]
theorem two_at{r:List Int}{p:Nat}(h:p+1<r.length):r=r.take p++r.getD p 0::r.getD (p+1) 0::r.drop (p+2):=by
 rw[getD_lt (show p<r.length by omega),getD_lt h];conv=>lhs;rw[<-take_append_drop p r,List.drop_eq_getElem_cons (by omega),List.drop_eq_getElem_cons h]
structure Pm (cl:Int->Int) (o:Nat) (a b:Int) (r r':List Int):Prop where
 len:r'.length=r.length
 out:∀i:Int,0<=i->(i<a\/b<=i)->vv o r' i=vv o r i
 pre:∀p:Nat,p<o->r'[p]? = r[p]?
 mem:∀i:Int,a<=i->i<b->∃j,a<=j/\j<b/\vv o r' i=vv o r j
 fil:∀c:Int,r'.filter (λx=>cl x==c)=r.filter (λx=>cl x==c)
theorem Pm.refl{cl:Int->Int}{o:Nat}{a b:Int}{r:List Int}:Pm cl o a b r r:=⟨rfl,λ_ _ _=>rfl,λ_ _=>rfl,λi h1 h2=>⟨i,h1,h2,rfl⟩,λ_=>rfl⟩
theorem Pm.tr{cl:Int->Int}{o:Nat}{a b:Int}{r r' r2:List Int}(h:Pm cl o a b r r')(h':Pm cl o a b r' r2):Pm cl o a b r r2 :=
 ⟨h'.len.trans h.len,λi h0 hi=>(h'.out i h0 hi).trans (h.out i h0 hi),λp hp=>(h'.pre p hp).trans (h.pre p hp),λi h1 h2=>by
  obtain⟨j,j1,j2,e⟩:=h'.mem i h1 h2;obtain⟨k,k1,k2,e'⟩:=h.mem j j1 j2;exact⟨k,k1,k2,e.trans e'⟩,λc=>(h'.fil c).trans (h.fil c)⟩
theorem Pm.mono{cl:Int->Int}{o:Nat}{a b a' b':Int}{r r':List Int}(h:Pm cl o a b r r')(h0:0<=a')(ha:a'<=a)(hb:b<=b'):Pm cl o a' b' r r' :=
 ⟨h.len,λi h0 hi=>h.out i h0 (by omega),h.pre,λi h1 h2=>by
  by_cases hi:a<=i/\i<b
  . obtain⟨j,j1,j2,e⟩:=h.mem i hi.1 hi.2
    exact⟨j,by omega,by omega,e⟩
  . exact⟨i,h1,h2,h.out i (by omega) (by omega)⟩,h.fil⟩
theorem Pm.swap{cl:Int->Int}{o:Nat}{r:List Int}{i j:Int}(hi:0<=i)(hj:0<=j)(li:o+i.toNat<r.length)(lj:o+j.toNat<r.length)(hij:j=i+1\/i=j+1)(hc:cl (vv o r i)≠cl (vv o r j)){a b:Int}(h0:0<=a)(ha:a<=i/\a<=j)(hb:i<b/\j<b):Pm cl o a b r (sw o r i j):=by
 refine⟨sw_len o r i j,λp hp h => ?_,λp hp => ?_,λp h1 h2 => ?_,λc => ?_⟩
 . rw[v_sw hi hj li lj hp,if_neg (by omega),if_neg (by omega)]
 . unfold sw
   rw[getElem?_set_ne (by omega),getElem?_set_ne (by omega)]
 . rw[v_sw hi hj li lj (by omega)]
   by_cases e:p=j
   . exact⟨i,ha.1,hb.1,by rw[if_pos e]⟩
   . by_cases e':p=i
     . exact⟨j,ha.2,hb.2,by rw[if_neg e,if_pos e']⟩
     . exact⟨p,h1,h2,by rw[if_neg e,if_neg e']⟩
 . have key:∀i:Int,0<=i->o+(i+1).toNat<r.length->cl (vv o r i)≠cl (vv o r (i+1))->(sw o r i (i+1)).filter (λx=>cl x==c)=r.filter (λx=>cl x==c):=by
    intro i hi li hc;have e1:o+(i+1).toNat=o+i.toNat+1:=by omega
    have e:=two_at (r:=r) (p:=o+i.toNat) (by omega)
    have hA:(r.take (o+i.toNat)).length=o+i.toNat:=by rw[length_take];omega
    have e2:sw o r i (i+1)=r.take (o+i.toNat)++vv o r (i+1)::vv o r i::r.drop (o+i.toNat+2):=by
     have:=set_two (r.getD (o+i.toNat) 0) (r.getD (o+i.toNat+1) 0) (vv o r i) (vv o r (i+1)) (r.drop (o+i.toNat+2)) (r.take (o+i.toNat));rw[hA,<-e]at this;unfold sw;rw[e1];exact this
    have e3:r=r.take (o+i.toNat)++vv o r i::vv o r (i+1)::r.drop (o+i.toNat+2):=by
     unfold vv;rw[e1];exact e
    rw[e2];conv=>rhs;rw[e3]
    generalize vv o r i=x at hc ⊢;generalize vv o r (i+1)=y at hc ⊢;rw[filter_append,filter_append];congr 1;simp only[filter_cons];by_cases hx:cl x=c
    . by_cases hy:cl y=c
      . exact(hc (hx.trans hy.symm)).elim
      . rw[ibF hy,ibT hx];rfl
    . rw[ibF hx];rfl
   rcases hij with rfl|rfl
   . exact key i hi lj hc
   . rw[sw_comm (by omega)]
     exact key j hj li (λh=>hc h.symm)
def So(cl:Int->Int)(o:Nat)(r:List Int)(a b:Int):Prop:=∀i j:Int,a<=i->i<=j->j<b->cl (vv o r i)<=cl (vv o r j)
theorem So.out{cl:Int->Int}{o:Nat}{r r':List Int}{a b x y:Int}(h:So cl o r a b)(hp:Pm cl o x y r r')(h0:0<=a)(hd:b<=x\/y<=a):So cl o r' a b:=by
 intro i j h1 h2 h3;rw[hp.out i (by omega) (by omega),hp.out j (by omega) (by omega)];exact h i j h1 h2 h3
theorem So.one{cl:Int->Int}{o:Nat}{r:List Int}{a b:Int}(h:b<=a+1):So cl o r a b:=by
 intro i j h1 h2 h3;rw[show i=j by omega];exact Int.le_refl _
theorem So.sub{cl:Int->Int}{o:Nat}{r:List Int}{a b x y:Int}(h:So cl o r a b)(h1:a<=x)(h2:y<=b):So cl o r x y:=λi j g1 g2 g3=>h i j (by omega) g2 (by omega)
theorem So.glue{cl:Int->Int}{o:Nat}{r:List Int}{a m b:Int}(h:So cl o r a m)(h':So cl o r m b)(hx:∀i j:Int,a<=i->i<m->m<=j->j<b->cl (vv o r i)<=cl (vv o r j)):So cl o r a b:=by
 intro i j h1 h2 h3;by_cases hj:j<m
 . exact h i j h1 h2 hj
 . by_cases hi:i<m
   . exact hx i j h1 hi (by omega) h3
   . exact h' i j (by omega) h2 h3
structure Tn (o:Nat) (a m b:Int) (r r':List Int):Prop where
 len:r'.length=r.length
 pre:∀p:Nat,p<o->r'[p]? = r[p]?
 val:∀i:Int,0<=i->vv o r' i=if i<a\/b<=i then vv o r i else if i<a+(b-m)then vv o r (i+(m-a))else vv o r (i-(b-m))
theorem get_v{o:Nat}{r:List Int}{k:Nat}(h:k<r.length)(ho:o<=k):r[k]? = some (vv o r ((k:Int)-o)):=by
 unfold vv;rw[getD_eq_getElem?_getD,show o+((k:Int)-o).toNat=k by omega,List.getElem?_eq_getElem h];rfl
theorem Tn.pm{cl:Int->Int}{o:Nat}{a m b:Int}{r r':List Int}(h:Tn o a m b r r')(h0:0<=a)(ha:a<=m)(hm:m<=b)(hb:o+b.toNat<=r.length)(hc:∀i j:Int,a<=i->i<m->m<=j->j<b->cl (vv o r j)<cl (vv o r i)):Pm cl o a b r r':=by
 refine⟨h.len,λi hi ho=>by rw[h.val i hi,if_pos ho],h.pre,λi h1 h2 => ?_,λc => ?_⟩
 . rw[h.val i (by omega),if_neg (by omega)]
   by_cases e:i<a+(b-m)
   . rw[if_pos e];exact⟨_,by omega,by omega,rfl⟩
   . rw[if_neg e];exact⟨_,by omega,by omega,rfl⟩
 . have e:r=r.take (o+a.toNat)++((r.drop (o+a.toNat)).take (m-a).toNat++((r.drop (o+m.toNat)).take (b-m).toNat++r.drop (o+b.toNat))):=by
    have e1:=take_append_drop (o+a.toNat) r;have e2:=take_append_drop (m-a).toNat (r.drop (o+a.toNat))
    have e3:=take_append_drop (b-m).toNat (r.drop (o+m.toNat))
    rw[drop_drop,show o+a.toNat+(m-a).toNat=o+m.toNat by omega]at e2;rw[drop_drop,show o+m.toNat+(b-m).toNat=o+b.toNat by omega]at e3;rw[e3,e2,e1]
   have e':r'=r.take (o+a.toNat)++((r.drop (o+m.toNat)).take (b-m).toNat++((r.drop (o+a.toNat)).take (m-a).toNat++r.drop (o+b.toNat))):=by
    have l1:(r.take (o+a.toNat)).length=o+a.toNat:=by rw[length_take];omega
    have l2:((r.drop (o+m.toNat)).take (b-m).toNat).length=(b-m).toNat:=by rw[length_take,length_drop];omega
    have l3:((r.drop (o+a.toNat)).take (m-a).toNat).length=(m-a).toNat:=by rw[length_take,length_drop];omega
    refine ext_getElem? λk => ?_;by_cases hk:k<r.length
    . by_cases ho:k<o
      . rw[h.pre k ho,List.getElem?_append_left (by omega),getElem?_take_of_lt (by omega)]
      . rw[get_v (o:=o) (r:=r') (k:=k) (by rw[h.len];exact hk) (by omega),h.val _ (by omega)]
        by_cases c1:(k:Int)-o<a
        . rw[if_pos (.inl c1),List.getElem?_append_left (by omega),getElem?_take_of_lt (by omega),get_v (o:=o) hk (by omega)]
        . rw[List.getElem?_append_right (by omega),l1]
          by_cases c2:(k:Int)-o<a+(b-m)
          . rw[if_neg (by omega),if_pos c2,List.getElem?_append_left (by omega),getElem?_take_of_lt (by omega),getElem?_drop,get_v (o:=o) (by omega) (by omega)]
            congr 2;omega
          . rw[List.getElem?_append_right (by omega),l2]
            by_cases c3:(k:Int)-o<b
            . rw[if_neg (by omega),if_neg c2,List.getElem?_append_left (by omega),getElem?_take_of_lt (by omega),getElem?_drop,get_v (o:=o) (by omega) (by omega)]
              congr 2;omega
            . rw[if_pos (.inr (by omega)),List.getElem?_append_right (by omega),l3,getElem?_drop,<-get_v (o:=o) hk (by omega)]
              congr 1;omega
    . rw[getElem?_eq_none (by rw[h.len];omega),getElem?_eq_none]
      simp only[length_append,l1,l2,l3,length_drop];omega
   rw[e'];conv=>rhs;rw[e]
   have hL:∀x∈(r.drop (o+a.toNat)).take (m-a).toNat,∃i:Int,a<=i/\i<m/\x=vv o r i:=by
    intro x hx;obtain⟨k,hk,rfl⟩:=mem_iff_getElem.1 hx;rw[length_take,length_drop]at hk;refine⟨a+k,by omega,by omega,?_⟩;rw[getElem_take,getElem_drop];unfold vv;rw[show o+(a+(k:Int)).toNat=o+a.toNat+k by omega,getD_lt (by omega)]
   have hR:∀x∈(r.drop (o+m.toNat)).take (b-m).toNat,∃i:Int,m<=i/\i<b/\x=vv o r i:=by
    intro x hx;obtain⟨k,hk,rfl⟩:=mem_iff_getElem.1 hx;rw[length_take,length_drop]at hk;refine⟨m+k,by omega,by omega,?_⟩;rw[getElem_take,getElem_drop];unfold vv;rw[show o+(m+(k:Int)).toNat=o+m.toNat+k by omega,getD_lt (by omega)]
   generalize (r.drop (o+a.toNat)).take (m-a).toNat=L at hL ⊢;generalize (r.drop (o+m.toNat)).take (b-m).toNat=R at hR ⊢;simp only[filter_append];congr 1;rw[<-append_assoc,<-append_assoc];congr 1;by_cases hx:∃x∈R,cl x=c
   . obtain⟨x,hx,hxc⟩:=hx
     obtain⟨j,j1,j2,rfl⟩:=hR x hx;have:L.filter (λx=>cl x==c)=[]:=by
      refine List.filter_eq_nil_iff.2 λy hy => ?_;obtain⟨i,i1,i2,rfl⟩:=hL y hy;have:=hc i j i1 i2 j1 j2;rw[ibF (by omega)];simp
     rw[this,append_nil,nil_append]
   . have:R.filter (λx=>cl x==c)=[]:=by
      refine List.filter_eq_nil_iff.2 λy hy => ?_;rw[ibF (λe=>hx ⟨y,hy,e⟩)];simp
     rw[this,append_nil,nil_append]
def clx(T:List R6)(A:List R4)(B:List R3)(x:Int):Int:=((C175 (T,A,B,x,())).getD (0,())).1
structure CK (T:List R6) (A:List R4) (B:List R3):Prop where
 eq:∀x,C175 (T,A,B,x,())=some (clx T A B x,())
 bd:∀x,0<=clx T A B x/\clx T A B x<=255
section
variable {T:List R6} {A:List R4} {B:List R3}
theorem e278(h:CK T A B)(a b:Int):C177 (a,b,T,A,B,())=some (clx T A B a-clx T A B b,T,A,B,()):=by
 show F177 C175 _=_;have:=h.bd a;have:=h.bd b;simp only[F177,h.eq,Option.bind_some];rw[w64s (by omega)]
theorem s310_0(o n:Nat)(a b i j:Int)(r:List Int)(hj:1<=j/\j<n)(hn:n<=100000000000000) :
 Pf (C242_c0 (((o:Int),(n:Int)),a,b,i,j,r,T,A,B,())) (λy=>y=(((o:Int),(n:Int)),a,b,i,j-1,sw o r j (j-1),T,A,B,())):=by
 unfold C242_c0 F242_c0;dsimp only;simp only[toNat_natCast];rw[w64s (n:=j-1) (by omega)];with_reducible repeat' (first|exact pN|apply pP|apply pX<;>intro _)
 exact rfl
theorem s310_1(h:CK T A B)(o n:Nat)(a b i:Int)(row:List Int)(h0:0<=a)(ha:a<=i)(hi:i<n)(hn:n<=100000000000000)(hr:o+n<=row.length)(hs:So (clx T A B) o row a i) :
 Pf (C242_l0 (((o:Int),(n:Int)),a,b,i,i,row,T,A,B,())) (λy=>∃r':List Int,Pm (clx T A B) o a (i+1) row r'/\So (clx T A B) o r' a (i+1)/\y=(((o:Int),(n:Int)),a,b,i,r',T,A,B,())):=by
 refine pL ?I ?h _ ?hv
 case I=>exact(λv=>∃(j:Int) (r':List Int),(a<=j/\j<=i)/\Pm (clx T A B) o a (i+1) row r'/\(∀p q:Int,a<=p->p<=q->q<=i->p≠j->q≠j->clx T A B (vv o r' p)<=clx T A B (vv o r' q))/\(∀q:Int,j<q->q<=i->clx T A B (vv o r' j)<clx T A B (vv o r' q))/\v=(((o:Int),(n:Int)),a,b,i,j,r',T,A,B,()))
 case hv=>exact⟨i,row,⟨ha,Int.le_refl _⟩,Pm.refl,λp q h1 h2 h3 h4 h5=>hs p q h1 h2 (by omega),λq h1 h2=>by omega,rfl⟩
 rintro _ ⟨j,r',⟨j1,j2⟩,hP,hA,hB,rfl⟩;unfold F242_l0;dsimp only;simp only[toNat_natCast];rw[w64s (n:=j-1) (by omega)];have hlen:=hP.len;refine pX (λhgt => ?_) (λhle => ?_)
 . refine pX (λ_ => ?_) (λ_=>pN)
   refine pX (λ_ => ?_) (λ_=>pN);rw[e278 h];simp only[Option.bind_some];have li:o+j.toNat<r'.length:=by omega
   have lj:o+(j-1).toNat<r'.length:=by omega
   refine pX (λhlt => ?_) (λhge => ?_)
   . have hlt':clx T A B (vv o r' j)<clx T A B (vv o r' (j-1)):=by
      have:clx T A B (vv o r' j)-clx T A B (vv o r' (j-1))<0:=hlt;omega
     refine pZ (s310_0 o n a b i j r' (by omega) hn) ?_;rintro _ rfl;dsimp only;simp only[toNat_natCast];have hv:∀p:Int,0<=p->vv o (sw o r' j (j-1)) p=if p=j-1 then vv o r' j else if p=j then vv o r' (j-1)else vv o r' p:=λp hp=>v_sw (by omega) (by omega) li lj hp
     refine pP ⟨j-1,_,by omega,hP.tr (Pm.swap (by omega) (by omega) li lj (.inr (by omega)) (by omega) h0 (by omega) (by omega)),λp q h1 h2 h3 h4 h5 => ?_,λq h1 h2 => ?_,rfl⟩
     . rw[hv p (by omega),hv q (by omega),if_neg h4,if_neg h5]
       by_cases e1:p=j
       . rw[if_pos e1]
         by_cases e2:q=j
         . rw[if_pos e2];exact Int.le_refl _
         . rw[if_neg e2];exact hA (j-1) q (by omega) (by omega) h3 (by omega) e2
       . rw[if_neg e1]
         by_cases e2:q=j
         . rw[if_pos e2];exact hA p (j-1) h1 (by omega) (by omega) e1 (by omega)
         . rw[if_neg e2];exact hA p q h1 h2 h3 e1 e2
     . rw[hv (j-1) (by omega),hv q (by omega),if_pos rfl,if_neg (by omega)]
       by_cases e2:q=j
       . rw[if_pos e2];exact hlt'
       . rw[if_neg e2];exact hB q (by omega) h2
   . have hge':clx T A B (vv o r' (j-1))<=clx T A B (vv o r' j):=by
      have:¬clx T A B (vv o r' j)-clx T A B (vv o r' (j-1))<0:=hge;omega
     refine pP ⟨r',hP,λp q h1 h2 h3 => ?_,rfl⟩;by_cases e1:p=j
     . by_cases e2:q=j
       . rw[e1,e2];exact Int.le_refl _
       . rw[e1];exact le_of_lt (hB q (by omega) (by omega))
     . by_cases e2:q=j
       . rw[e2]
         refine Int.le_trans ?_ hge';exact hA p (j-1) h1 (by omega) (by omega) e1 (by omega)
       . exact hA p q h1 h2 (by omega) e1 e2
 . refine pP ⟨r',hP,λp q h1 h2 h3 => ?_,rfl⟩
   by_cases e1:p=j
   . by_cases e2:q=j
     . rw[e1,e2];exact Int.le_refl _
     . rw[e1];exact le_of_lt (hB q (by omega) (by omega))
   . exact hA p q h1 h2 (by omega) e1 (by omega)
theorem s310(h:CK T A B)(o n:Nat)(a b:Int)(row:List Int)(h0:0<=a)(hab:a<=b)(hb:b<=n)(hn:n<=100000000000000)(hr:o+n<=row.length) :
 Pf (C242 (((o:Int),(n:Int)),a,b,row,T,A,B,())) (λy=>∃r':List Int,Pm (clx T A B) o a b row r'/\So (clx T A B) o r' a b/\y=(r',T,A,B,())):=by
 unfold C242 F242;dsimp only;simp only[toNat_natCast];rw[w64s (n:=a+1) (by omega)];refine pZ (P:=λy=>∃r':List Int,Pm (clx T A B) o a b row r'/\So (clx T A B) o r' a b/\y=(r',T,A,B,())) ?_ ?_
 . refine pL ?I ?h _ ?hv
   case I=>exact(λv=>∃(i:Int) (r':List Int),(a+1<=i/\(i<=b\/i=a+1))/\Pm (clx T A B) o a b row r'/\So (clx T A B) o r' a i/\v=(((o:Int),(n:Int)),a,b,i,r',T,A,B,()))
   case hv=>exact⟨a+1,row,by omega,Pm.refl,So.one (by omega),rfl⟩
   rintro _ ⟨i,r',⟨i1,i2⟩,hP,hS,rfl⟩;unfold F242_l1;dsimp only;simp only[toNat_natCast];have hlen:=hP.len;refine pX (λhlt => ?_) (λhge => ?_)
   . refine pZ (s310_1 h o n a b i r' h0 (by omega) (by omega) hn (by omega) hS) ?_
     rintro _ ⟨r2,hP2,hS2,rfl⟩;dsimp only;simp only[toNat_natCast];rw[w64s (n:=i+1) (by omega)];exact pP ⟨i+1,r2,by omega,hP.tr (hP2.mono h0 (by omega) (by omega)),hS2,rfl⟩
   . exact pP ⟨r',hP,hS.sub (Int.le_refl _) (by omega),rfl⟩
 . rintro _ ⟨r',hP,hS,rfl⟩
   exact pP ⟨r',hP,hS,rfl⟩
theorem s316(o n:Nat)(a b k:Int)(row:List Int)(ha:0<=a)(hk:0<=k)(hab:a+k<=b)(hb:b+k<=n)(hn:n<=100000000000000)(hr:o+n<=row.length) :
 Pf (C255 (((o:Int),(n:Int)),a,b,k,row,T,A,B,())) (λy=>∃r':List Int,r'.length=row.length/\(∀p:Nat,p<o->r'[p]? = row[p]?)/\(∀p:Int,0<=p->vv o r' p=if a<=p/\p<a+k then vv o row (p-a+b)else if b<=p/\p<b+k then vv o row (p-b+a)else vv o row p)/\y=(r',T,A,B,())):=by
 unfold C255 F255;dsimp only;simp only[toNat_natCast];refine pZ (P:=λy=>∃r':List Int,r'.length=row.length/\(∀p:Nat,p<o->r'[p]? = row[p]?)/\(∀p:Int,0<=p->vv o r' p=if a<=p/\p<a+k then vv o row (p-a+b)else if b<=p/\p<b+k then vv o row (p-b+a)else vv o row p)/\y=(r',T,A,B,())) ?_ ?_
 . refine pL ?I ?h _ ?hv
   case I=>exact(λv=>∃(i:Int) (r':List Int),(0<=i/\i<=k)/\r'.length=row.length/\(∀p:Nat,p<o->r'[p]? = row[p]?)/\(∀p:Int,0<=p->vv o r' p=if a<=p/\p<a+i then vv o row (p-a+b)else if b<=p/\p<b+i then vv o row (p-b+a)else vv o row p)/\v=(((o:Int),(n:Int)),a,b,k,i,r',T,A,B,()))
   case hv=>exact⟨0,row,by omega,rfl,λ_ _=>rfl,λp hp=>by rw[if_neg (by omega),if_neg (by omega)],rfl⟩
   rintro _ ⟨i,r',⟨i1,i2⟩,hl,hp,hv,rfl⟩;unfold F255_l0;dsimp only;simp only[toNat_natCast];refine pX (λhlt => ?_) (λhge => ?_)
   . rw[w64s (n:=b+i) (by omega),w64s (n:=a+i) (by omega),w64s (n:=i+1) (by omega)]
     refine pX (λ_ => ?_) (λ_=>pN);refine pX (λ_ => ?_) (λ_=>pN);refine pX (λ_ => ?_) (λ_=>pN);refine pX (λ_ => ?_) (λ_=>pN);have hw:∀p:Int,0<=p->vv o (sw o r' (a+i) (b+i)) p=if p=b+i then vv o r' (a+i)else if p=a+i then vv o r' (b+i)else vv o r' p:=λp hp=>v_sw (by omega) (by omega) (by omega) (by omega) hp
     refine pP ⟨i+1,sw o r' (a+i) (b+i),by omega,(sw_len _ _ _ _).trans hl,λp ho => ?_,λp hp0 => ?_,rfl⟩
     . unfold sw
       rw[getElem?_set_ne (by omega),getElem?_set_ne (by omega)];exact hp p ho
     . rw[hw p hp0]
       by_cases e1:p=b+i
       . rw[if_pos e1,if_neg (by omega),if_pos (by omega),hv _ (by omega),if_neg (by omega),if_neg (by omega)]
         congr 1;omega
       . rw[if_neg e1]
         by_cases e2:p=a+i
         . rw[if_pos e2,if_pos (by omega),hv _ (by omega),if_neg (by omega),if_neg (by omega)]
           congr 1;omega
         . rw[if_neg e2,hv p hp0]
           by_cases c1:a<=p/\p<a+i
           . rw[if_pos c1,if_pos (by omega)]
           . rw[if_neg c1,if_neg (show ¬(a<=p/\p<a+(i+1)) by omega)]
             by_cases c2:b<=p/\p<b+i
             . rw[if_pos c2,if_pos (by omega)]
             . rw[if_neg c2,if_neg (show ¬(b<=p/\p<b+(i+1)) by omega)]
   . have:i=k:=by omega
     subst this;exact pP ⟨r',hl,hp,hv,rfl⟩
 . rintro _ ⟨r',h1,h2,h3,rfl⟩
   exact pP ⟨r',h1,h2,h3,rfl⟩
theorem s315(o n:Nat)(a m b:Int)(row:List Int)(ha:0<=a)(ham:a<m)(hmb:m<b)(hb:b<=n)(hn:n<=100000000000000)(hr:o+n<=row.length) :
 Pf (C249 (((o:Int),(n:Int)),a,m,b,row,T,A,B,())) (λy=>∃r':List Int,Tn o a m b row r'/\y=(r',T,A,B,())):=by
 unfold C249 F249;dsimp only;simp only[toNat_natCast];rw[w64s (n:=m-a) (by omega),w64s (n:=b-m) (by omega)]
 let F:Int->Int:=λp=>if p<a\/b<=p then vv o row p else if p<a+(b-m)then vv o row (p+(m-a))else vv o row (p-(b-m))
 have hF:∀p,F p=if p<a\/b<=p then vv o row p else if p<a+(b-m)then vv o row (p+(m-a))else vv o row (p-(b-m)):=λp=>rfl
 clear_value F
 let J:Int->Int->List Int->Prop:=λi j r=>(1<=i/\a<=m-i)/\(1<=j/\m+j<=b)/\r.length=row.length/\(∀p:Nat,p<o->r[p]? = row[p]?)/\(∀p:Int,0<=p->(p<m-i\/m+j<=p)->vv o r p=F p)/\(∀p:Int,m-i<=p->p<m-i+j->F p=vv o r (p+i))/\(∀p:Int,m-i+j<=p->p<m+j->F p=vv o r (p-j))
 have hJ0:J (m-a) (b-m) row:=by
  refine⟨by omega,by omega,rfl,λ_ _=>rfl,λp h0 hp => ?_,λp h1 h2 => ?_,λp h1 h2 => ?_⟩
  . rw[hF,if_pos (by omega)]
  . rw[hF,if_neg (by omega),if_pos (by omega)]
  . rw[hF,if_neg (by omega),if_neg (by omega)]
 refine pZ (P:=λy=>∃(i:Int) (r':List Int),J i i r'/\y=(((o:Int),(n:Int)),m,i,r',T,A,B,())) ?_ ?_
 . refine pL ?I ?h _ ?hv
   case I=>exact(λv=>∃(i j:Int) (r':List Int),J i j r'/\v=(((o:Int),(n:Int)),m,i,j,r',T,A,B,()))
   case hv=>exact⟨m-a,b-m,row,hJ0,rfl⟩
   rintro _ ⟨i,j,r',⟨⟨i1,i2⟩,⟨j1,j2⟩,hl,hp,hO,hX,hY⟩,rfl⟩;unfold F249_l0;dsimp only;simp only[toNat_natCast];refine pX (λhne => ?_) (λhe => ?_)
   . rw[w64s (n:=m-i) (by omega),w64s (n:=m+j) (by omega),w64s (n:=m+j-i) (by omega),w64s (n:=i-j) (by omega),w64s (n:=j-i) (by omega)]
     refine pX (λhgt => ?_) (λhle => ?_)
     . refine pZ (s316 o n (m-i) m j r' (by omega) (by omega) (by omega) (by omega) hn (by omega)) ?_
       rintro _ ⟨r2,hl2,hp2,hv2,rfl⟩;dsimp only;refine pP ⟨i-j,j,r2,⟨by omega,by omega,hl2.trans hl,λp ho=>(hp2 p ho).trans (hp p ho),λp h0 h1 => ?_,λp h1 h2 => ?_,λp h1 h2 => ?_⟩,rfl⟩
       . rw[hv2 p h0]
         by_cases c:m-i<=p/\p<m-i+j
         . rw[if_pos c,hX p c.1 c.2]
           congr 1;omega
         . rw[if_neg c,if_neg (by omega)]
           exact hO p h0 (by omega)
       . rw[hv2 _ (by omega),if_neg (by omega),if_pos (by omega),hY p (by omega) (by omega)]
         congr 1;omega
       . rw[hv2 _ (by omega),if_neg (by omega),if_neg (by omega),hY p (by omega) (by omega)]
     . refine pZ (s316 o n (m-i) (m+j-i) i r' (by omega) (by omega) (by omega) (by omega) hn (by omega)) ?_
       rintro _ ⟨r2,hl2,hp2,hv2,rfl⟩;dsimp only;refine pP ⟨i,j-i,r2,⟨by omega,by omega,hl2.trans hl,λp ho=>(hp2 p ho).trans (hp p ho),λp h0 h1 => ?_,λp h1 h2 => ?_,λp h1 h2 => ?_⟩,rfl⟩
       . rw[hv2 p h0]
         by_cases c:m+j-i<=p/\p<m+j-i+i
         . rw[if_neg (by omega),if_pos c,hY p (by omega) (by omega)]
           congr 1;omega
         . rw[if_neg (by omega),if_neg c]
           exact hO p h0 (by omega)
       . rw[hv2 _ (by omega),if_neg (by omega),if_neg (by omega),hX p (by omega) (by omega)]
       . rw[hv2 _ (by omega),if_pos (by omega),hX p (by omega) (by omega)]
         congr 1;omega
   . have he':i=j:=by omega
     subst he';exact pP ⟨i,r',⟨⟨i1,i2⟩,⟨j1,j2⟩,hl,hp,hO,hX,hY⟩,rfl⟩
 . rintro _ ⟨i,r',⟨⟨i1,i2⟩,⟨j1,j2⟩,hl,hp,hO,hX,hY⟩,rfl⟩
   dsimp only;simp only[toNat_natCast];rw[w64s (n:=m-i) (by omega)];refine pZ (s316 o n (m-i) m i r' (by omega) (by omega) (by omega) (by omega) hn (by omega)) ?_;rintro _ ⟨r2,hl2,hp2,hv2,rfl⟩;refine pP ⟨r2,⟨hl2.trans hl,λp ho=>(hp2 p ho).trans (hp p ho),λp h0 => ?_⟩,rfl⟩;rw[<-hF];rw[hv2 p h0];by_cases c:m-i<=p/\p<m-i+i
   . rw[if_pos c,hX p (by omega) (by omega)]
     congr 1;omega
   . rw[if_neg c]
     by_cases c2:m<=p/\p<m+i
     . rw[if_pos c2,hY p (by omega) (by omega)]
       congr 1;omega
     . rw[if_neg c2]
       exact hO p h0 (by omega)
end
section
variable {T:List R6} {A:List R4} {B:List R3}
theorem s311_0(h:CK T A B)(G:T243)(o n:Nat)(a i j:Int)(row:List Int)(ha:0<=a/\a<n)(hi:0<=i/\i<=j)(hj:j<=n)(hn:n<=100000000000000)(hs:So (clx T A B) o row i j) :
 Pf (C243_l0 G (((o:Int),(n:Int)),a,i,j,row,T,A,B,())) (λy=>∃k:Int,(i<=k/\k<=j)/\(∀p:Int,i<=p->p<k->clx T A B (vv o row p)<clx T A B (vv o row a))/\(∀p:Int,k<=p->p<j->clx T A B (vv o row a)<=clx T A B (vv o row p))/\y=(((o:Int),(n:Int)),a,k,row,T,A,B,())):=by
 refine pL ?I ?h _ ?hv
 case I=>exact(λv=>∃(i' j':Int),(i<=i'/\i'<=j'/\j'<=j)/\(∀p:Int,i<=p->p<i'->clx T A B (vv o row p)<clx T A B (vv o row a))/\(∀p:Int,j'<=p->p<j->clx T A B (vv o row a)<=clx T A B (vv o row p))/\v=(((o:Int),(n:Int)),a,i',j',row,T,A,B,()))
 case hv=>exact⟨i,j,by omega,λp h1 h2=>by omega,λp h1 h2=>by omega,rfl⟩
 rintro _ ⟨i',j',⟨h1,h2,h3⟩,hA,hB,rfl⟩;unfold F243_l0;dsimp only;simp only[toNat_natCast];rw[mid2 (by omega) (by omega) (by omega),w64s (n:=(i'+j')/2+1) (by omega)];refine pX (λhlt => ?_) (λhge => ?_)
 . refine pX (λ_ => ?_) (λ_=>pN)
   refine pX (λ_ => ?_) (λ_=>pN);rw[e278 h];simp only[Option.bind_some];generalize hm:(i'+j')/2=m;have m1:i'<=m/\m<j':=by omega
   refine pX (λhl => ?_) (λhl => ?_)
   . have hl':clx T A B (vv o row m)<clx T A B (vv o row a):=by
      have:clx T A B (vv o row m)-clx T A B (vv o row a)<0:=hl;omega
     exact pP ⟨m+1,j',by omega,λp p1 p2=>Int.lt_of_le_of_lt (hs p m p1 (by omega) (by omega)) hl',hB,rfl⟩
   . have hl':clx T A B (vv o row a)<=clx T A B (vv o row m):=by
      have:¬clx T A B (vv o row m)-clx T A B (vv o row a)<0:=hl;omega
     exact pP ⟨i',m,by omega,hA,λp p1 p2=>Int.le_trans hl' (hs m p (by omega) p1 p2),rfl⟩
 . have:i'=j':=by omega
   subst this;exact pP ⟨i',by omega,hA,hB,rfl⟩
theorem s311_2(h:CK T A B)(G:T243)(o n:Nat)(a i j:Int)(row:List Int)(ha:0<=a/\a<n)(hi:0<=i/\i<=j)(hj:j<=n)(hn:n<=100000000000000)(hs:So (clx T A B) o row i j) :
 Pf (C243_l2 G (((o:Int),(n:Int)),a,i,j,row,T,A,B,())) (λy=>∃k:Int,(i<=k/\k<=j)/\(∀p:Int,i<=p->p<k->clx T A B (vv o row p)<=clx T A B (vv o row a))/\(∀p:Int,k<=p->p<j->clx T A B (vv o row a)<clx T A B (vv o row p))/\y=(((o:Int),(n:Int)),a,k,row,T,A,B,())):=by
 refine pL ?I ?h _ ?hv
 case I=>exact(λv=>∃(i' j':Int),(i<=i'/\i'<=j'/\j'<=j)/\(∀p:Int,i<=p->p<i'->clx T A B (vv o row p)<=clx T A B (vv o row a))/\(∀p:Int,j'<=p->p<j->clx T A B (vv o row a)<clx T A B (vv o row p))/\v=(((o:Int),(n:Int)),a,i',j',row,T,A,B,()))
 case hv=>exact⟨i,j,by omega,λp h1 h2=>by omega,λp h1 h2=>by omega,rfl⟩
 rintro _ ⟨i',j',⟨h1,h2,h3⟩,hA,hB,rfl⟩;unfold F243_l2;dsimp only;simp only[toNat_natCast];rw[mid2 (by omega) (by omega) (by omega),w64s (n:=(i'+j')/2+1) (by omega)];refine pX (λhlt => ?_) (λhge => ?_)
 . refine pX (λ_ => ?_) (λ_=>pN)
   refine pX (λ_ => ?_) (λ_=>pN);rw[e278 h];simp only[Option.bind_some];generalize hm:(i'+j')/2=m;have m1:i'<=m/\m<j':=by omega
   refine pX (λhl => ?_) (λhl => ?_)
   . have hl':clx T A B (vv o row m)<=clx T A B (vv o row a):=by
      have:¬clx T A B (vv o row a)-clx T A B (vv o row m)<0:=hl;omega
     exact pP ⟨m+1,j',by omega,λp p1 p2=>Int.le_trans (hs p m p1 (by omega) (by omega)) hl',hB,rfl⟩
   . have hl':clx T A B (vv o row a)<clx T A B (vv o row m):=by
      have:clx T A B (vv o row a)-clx T A B (vv o row m)<0:=hl;omega
     exact pP ⟨i',m,by omega,hA,λp p1 p2=>Int.lt_of_lt_of_le hl' (hs m p (by omega) p1 p2),rfl⟩
 . have:i'=j':=by omega
   subst this;exact pP ⟨i',by omega,hA,hB,rfl⟩
theorem s311_1(G:T243)(o n:Nat)(a b k:Int)(row:List Int)(ha:0<=a)(hk:a+1<=k/\k<=b)(hb:b<=n)(hn:n<=100000000000000)(hr:o+n<=row.length)(hs:So (clx T A B) o row (a+1) b)(hA:∀p:Int,a+1<=p->p<k->clx T A B (vv o row p)<clx T A B (vv o row a))(hB:∀p:Int,k<=p->p<b->clx T A B (vv o row a)<=clx T A B (vv o row p)) :
 Pf (C243_l1 G (((o:Int),(n:Int)),k,a,row,T,A,B,())) (λy=>∃r':List Int,Pm (clx T A B) o a b row r'/\So (clx T A B) o r' a b/\y=(r',T,A,B,())):=by
 have hi0:∀p:Int,0<=p->vv o row p=if a<=p/\p<a then vv o row (p+1)else if p=a then vv o row a else vv o row p:=by
  intro p hp;by_cases c:p=a
  . rw[if_neg (by omega),if_pos c,c]
  . rw[if_neg (by omega),if_neg c]
 refine pL ?I ?h _ ?hv
 case I=>exact(λv=>∃(q:Int) (r':List Int),(a<=q/\q<k)/\Pm (clx T A B) o a b row r'/\(∀p:Int,0<=p->vv o r' p=if a<=p/\p<q then vv o row (p+1)else if p=q then vv o row a else vv o row p)/\v=(((o:Int),(n:Int)),k,q,r',T,A,B,()))
 case hv=>exact⟨a,row,by omega,Pm.refl,hi0,rfl⟩
 . rintro _ ⟨q,r',⟨q1,q2⟩,hP,hv,rfl⟩
   unfold F243_l1;dsimp only;simp only[toNat_natCast];rw[w64s (n:=k-1) (by omega),w64s (n:=q+1) (by omega)];have hlen:=hP.len;refine pX (λhlt => ?_) (λhge => ?_)
   . refine pX (λ_ => ?_) (λ_=>pN)
     refine pX (λ_ => ?_) (λ_=>pN);refine pX (λ_ => ?_) (λ_=>pN);refine pX (λ_ => ?_) (λ_=>pN);have li:o+q.toNat<r'.length:=by omega
     have lj:o+(q+1).toNat<r'.length:=by omega
     have e1:vv o r' q=vv o row a:=by rw[hv q (by omega),if_neg (by omega),if_pos rfl]
     have e2:vv o r' (q+1)=vv o row (q+1):=by rw[hv (q+1) (by omega),if_neg (by omega),if_neg (by omega)]
     have hlt2:=hA (q+1) (by omega) (by omega);refine pP ⟨q+1,sw o r' q (q+1),by omega,hP.tr (Pm.swap (by omega) (by omega) li lj (.inl rfl) (by rw[e1,e2];omega) ha (by omega) (by omega)),λp hp => ?_,rfl⟩;rw[v_sw (by omega) (by omega) li lj hp];by_cases c1:p=q+1
     . rw[if_pos c1,if_neg (by omega),if_pos c1,e1]
     . rw[if_neg c1]
       by_cases c2:p=q
       . rw[if_pos c2,if_pos (by omega),e2,c2]
       . rw[if_neg c2,hv p hp]
         by_cases c3:a<=p/\p<q
         . rw[if_pos c3,if_pos (by omega)]
         . rw[if_neg c3,if_neg c2,if_neg (by omega),if_neg c1]
   . have hq:q=k-1:=by omega
     subst hq;refine pP ⟨r',hP,λi j h1 h2 h3 => ?_,rfl⟩;rw[hv i (by omega),hv j (by omega)];by_cases c1:a<=i/\i<k-1
     . rw[if_pos c1]
       by_cases c2:a<=j/\j<k-1
       . rw[if_pos c2];exact hs _ _ (by omega) (by omega) (by omega)
       . rw[if_neg c2]
         by_cases c3:j=k-1
         . rw[if_pos c3];exact le_of_lt (hA _ (by omega) (by omega))
         . rw[if_neg c3];exact hs _ _ (by omega) (by omega) (by omega)
     . rw[if_neg c1,if_neg (show ¬(a<=j/\j<k-1) by omega)]
       by_cases c3:i=k-1
       . rw[if_pos c3]
         by_cases c4:j=k-1
         . rw[if_pos c4];exact Int.le_refl _
         . rw[if_neg c4];exact hB _ (by omega) (by omega)
       . rw[if_neg c3,if_neg (by omega)];exact hs _ _ (by omega) (by omega) (by omega)
theorem s311_3(G:T243)(o n:Nat)(a m k:Int)(row:List Int)(ha:0<=a)(hk:a<=k/\k<=m)(hm:m<n)(hn:n<=100000000000000)(hr:o+n<=row.length)(hs:So (clx T A B) o row a m)(hA:∀p:Int,a<=p->p<k->clx T A B (vv o row p)<=clx T A B (vv o row m))(hB:∀p:Int,k<=p->p<m->clx T A B (vv o row m)<clx T A B (vv o row p)) :
 Pf (C243_l3 G (((o:Int),(n:Int)),k,m,row,T,A,B,())) (λy=>∃r':List Int,Pm (clx T A B) o a (m+1) row r'/\So (clx T A B) o r' a (m+1)/\y=(r',T,A,B,())):=by
 have hi0:∀p:Int,0<=p->vv o row p=if m<p/\p<=m then vv o row (p-1)else if p=m then vv o row m else vv o row p:=by
  intro p hp;by_cases c:p=m
  . rw[if_neg (by omega),if_pos c,c]
  . rw[if_neg (by omega),if_neg c]
 refine pL ?I ?h _ ?hv
 case I=>exact(λv=>∃(q:Int) (r':List Int),(k<=q/\q<=m)/\Pm (clx T A B) o a (m+1) row r'/\(∀p:Int,0<=p->vv o r' p=if q<p/\p<=m then vv o row (p-1)else if p=q then vv o row m else vv o row p)/\v=(((o:Int),(n:Int)),k,q,r',T,A,B,()))
 case hv=>exact⟨m,row,by omega,Pm.refl,hi0,rfl⟩
 . rintro _ ⟨q,r',⟨q1,q2⟩,hP,hv,rfl⟩
   unfold F243_l3;dsimp only;simp only[toNat_natCast];rw[w64s (n:=q-1) (by omega)];have hlen:=hP.len;refine pX (λhlt => ?_) (λhge => ?_)
   . refine pX (λ_ => ?_) (λ_=>pN)
     refine pX (λ_ => ?_) (λ_=>pN);refine pX (λ_ => ?_) (λ_=>pN);refine pX (λ_ => ?_) (λ_=>pN);have li:o+q.toNat<r'.length:=by omega
     have lj:o+(q-1).toNat<r'.length:=by omega
     have e1:vv o r' q=vv o row m:=by rw[hv q (by omega),if_neg (by omega),if_pos rfl]
     have e2:vv o r' (q-1)=vv o row (q-1):=by rw[hv (q-1) (by omega),if_neg (by omega),if_neg (by omega)]
     have hlt2:=hB (q-1) (by omega) (by omega);refine pP ⟨q-1,sw o r' q (q-1),by omega,hP.tr (Pm.swap (by omega) (by omega) li lj (.inr (by omega)) (by rw[e1,e2];omega) ha (by omega) (by omega)),λp hp => ?_,rfl⟩;rw[v_sw (by omega) (by omega) li lj hp];by_cases c1:p=q-1
     . rw[if_pos c1,if_neg (by omega),if_pos c1,e1]
     . rw[if_neg c1]
       by_cases c2:p=q
       . rw[if_pos c2,if_pos (by omega),e2,c2]
       . rw[if_neg c2,hv p hp]
         by_cases c3:q<p/\p<=m
         . rw[if_pos c3,if_pos (by omega)]
         . rw[if_neg c3,if_neg c2,if_neg (by omega),if_neg c1]
   . have hq:q=k:=by omega
     subst hq;refine pP ⟨r',hP,λi j h1 h2 h3 => ?_,rfl⟩;rw[hv i (by omega),hv j (by omega)];by_cases c1:q<j/\j<=m
     . rw[if_pos c1]
       by_cases c2:q<i/\i<=m
       . rw[if_pos c2];exact hs _ _ (by omega) (by omega) (by omega)
       . rw[if_neg c2]
         by_cases c3:i=q
         . rw[if_pos c3];exact le_of_lt (hB _ (by omega) (by omega))
         . rw[if_neg c3];exact hs _ _ (by omega) (by omega) (by omega)
     . rw[if_neg c1,if_neg (show ¬(q<i/\i<=m) by omega)]
       by_cases c3:j=q
       . rw[if_pos c3]
         by_cases c4:i=q
         . rw[if_pos c4];exact Int.le_refl _
         . rw[if_neg c4];exact hA _ (by omega) (by omega)
       . rw[if_neg c3,if_neg (by omega)];exact hs _ _ (by omega) (by omega) (by omega)
theorem s311_4(h:CK T A B)(G:T243)(o n:Nat)(a m b mid s st r:Int)(row:List Int)(h0:0<=st/\st<=r)(hr:r<=n)(hp:0<=s-r/\s-1-st<n)(hn:n<=100000000000000) :
 Pf (C243_l4 G (((o:Int),(n:Int)),a,m,b,mid,s,st,r,s-1,row,T,A,B,())) (λy=>∃k:Int,(st<=k/\k<=r)/\(k=st\/clx T A B (vv o row (k-1))<=clx T A B (vv o row (s-k)))/\(k=r\/clx T A B (vv o row (s-1-k))<clx T A B (vv o row k))/\y=(((o:Int),(n:Int)),a,m,b,mid,s,k,row,T,A,B,())):=by
 refine pL ?I ?h _ ?hv
 case I=>exact(λv=>∃(i j:Int),(st<=i/\i<=j/\j<=r)/\(i=st\/clx T A B (vv o row (i-1))<=clx T A B (vv o row (s-i)))/\(j=r\/clx T A B (vv o row (s-1-j))<clx T A B (vv o row j))/\v=(((o:Int),(n:Int)),a,m,b,mid,s,i,j,s-1,row,T,A,B,()))
 case hv=>exact⟨st,r,by omega,.inl rfl,.inl rfl,rfl⟩
 rintro _ ⟨i,j,⟨h1,h2,h3⟩,hA,hB,rfl⟩;unfold F243_l4;dsimp only;simp only[toNat_natCast];rw[mid2 (by omega) (by omega) (by omega),w64s (n:=(i+j)/2+1) (by omega),w64s (n:=s-1-(i+j)/2) (by omega)];refine pX (λhlt => ?_) (λhge => ?_)
 . refine pX (λ_ => ?_) (λ_=>pN)
   refine pX (λ_ => ?_) (λ_=>pN);rw[e278 h];simp only[Option.bind_some];generalize hm:(i+j)/2=c;have m1:i<=c/\c<j:=by omega
   refine pX (λhl => ?_) (λhl => ?_)
   . have hl':clx T A B (vv o row c)<=clx T A B (vv o row (s-1-c)):=by
      have:¬clx T A B (vv o row (s-1-c))-clx T A B (vv o row c)<0:=hl;omega
     refine pP ⟨c+1,j,by omega,.inr ?_,hB,rfl⟩;rw[show c+1-1=c by omega,show s-(c+1)=s-1-c by omega];exact hl'
   . have hl':clx T A B (vv o row (s-1-c))<clx T A B (vv o row c):=by
      have:clx T A B (vv o row (s-1-c))-clx T A B (vv o row c)<0:=hl;omega
     exact pP ⟨i,c,by omega,hA,.inr hl',rfl⟩
 . have:i=j:=by omega
   subst this;exact pP ⟨i,by omega,hA,hB,rfl⟩
def Ms(T:List R6)(A:List R4)(B:List R3)(G:T243)(o n:Nat):Prop:=∀(a m b:Int) (row:List Int),0<=a->a<m->m<b->b<=n->o+n<=row.length->So (clx T A B) o row a m->So (clx T A B) o row m b ->
 Pf (G (((o:Int),(n:Int)),a,m,b,row,T,A,B,())) (λy=>∃r':List Int,Pm (clx T A B) o a b row r'/\So (clx T A B) o r' a b/\y=(r',T,A,B,()))
theorem s311_c0(G:T243)(o n:Nat)(hG:Ms T A B G o n)(b mid e:Int)(row:List Int)(h0:0<=mid)(hb:b<=n)(hm:mid<=e/\e<=b)(hr:o+n<=row.length)(h1:So (clx T A B) o row mid e)(h2:So (clx T A B) o row e b) :
 Pf (C243_c0 G (((o:Int),(n:Int)),b,mid,e,row,T,A,B,())) (λy=>∃r':List Int,Pm (clx T A B) o mid b row r'/\So (clx T A B) o r' mid b/\y=(r',T,A,B,())):=by
 show Pf (F243_c0 C177 G C249 _) _;unfold F243_c0;dsimp only;simp only[toNat_natCast];refine pX (λg1 => ?_) (λg1 => ?_)
 . refine pX (λg2 => ?_) (λg2 => ?_)
   . refine pZ (hG mid e b row h0 g1 g2 hb hr h1 h2) ?_
     rintro _ ⟨r',hP,hS,rfl⟩;exact pP ⟨r',hP,hS,rfl⟩
   . rw[show e=b by omega]at h1
     exact pP ⟨row,Pm.refl,h1,rfl⟩
 . rw[show e=mid by omega]at h2
   exact pP ⟨row,Pm.refl,h2,rfl⟩
theorem s311_c1(G:T243)(o n:Nat)(hG:Ms T A B G o n)(a b mid st e:Int)(row:List Int)(ha:0<=a)(h1:a<=st/\st<=mid)(h2:mid<=e/\e<=b)(hb:b<=n)(hr:o+n<=row.length)(s1:So (clx T A B) o row a st)(s2:So (clx T A B) o row st mid)(s3:So (clx T A B) o row mid e)(s4:So (clx T A B) o row e b)(hx:∀i j:Int,a<=i->i<mid->mid<=j->j<b->clx T A B (vv o row i)<=clx T A B (vv o row j)) :
 Pf (C243_c1 G (((o:Int),(n:Int)),a,b,mid,st,e,row,T,A,B,())) (λy=>∃r':List Int,Pm (clx T A B) o a b row r'/\So (clx T A B) o r' a b/\y=(r',T,A,B,())):=by
 show Pf (F243_c1 C177 G C249 (C243_c0 G) _) _;unfold F243_c1;dsimp only;simp only[toNat_natCast];have fin:∀r0:List Int,Pm (clx T A B) o a mid row r0->So (clx T A B) o r0 a mid->Pf ((C243_c0 G (((o:Int),(n:Int)),b,mid,e,r0,T,A,B,())).bind λval=>some (val.fst,val.snd.fst,val.snd.snd.fst,val.snd.snd.snd.fst,())) (λy=>∃r':List Int,Pm (clx T A B) o a b row r'/\So (clx T A B) o r' a b/\y=(r',T,A,B,())):=by
  intro r0 hP hS;have hl:=hP.len;refine pZ (s311_c0 G o n hG b mid e r0 (by omega) hb h2 (by omega) (s3.out hP (by omega) (.inr (by omega))) (s4.out hP (by omega) (.inr (by omega)))) ?_;rintro _ ⟨r',hP',hS',rfl⟩;refine pP ⟨r',(hP.mono ha (by omega) (by omega)).tr (hP'.mono ha (by omega) (by omega)),(hS.out hP' ha (.inl (by omega))).glue hS' λi j i1 i2 j1 j2 => ?_,rfl⟩;rw[hP'.out i (by omega) (.inl i2)];obtain⟨k,k1,k2,ek⟩:=hP'.mem j j1 j2;obtain⟨l,l1,l2,el⟩:=hP.mem i i1 i2;rw[ek,el,hP.out k (by omega) (.inr k1)];exact hx l k l1 l2 k1 k2
 refine pX (λg1 => ?_) (λg1 => ?_)
 . refine pX (λg2 => ?_) (λg2 => ?_)
   . refine pZ (hG a st mid row ha g1 g2 (by omega) hr s1 s2) ?_
     rintro _ ⟨r',hP,hS,rfl⟩;exact fin r' hP hS
   . rw[show st=mid by omega]at s1
     exact fin row Pm.refl s1
 . rw[show st=a by omega]at s2
   exact fin row Pm.refl s2
end
section
variable {T:List R6} {A:List R4} {B:List R3}
theorem s311_c2(h:CK T A B)(G:T243)(o n:Nat)(hG:Ms T A B G o n)(a m b mid s st r:Int)(row:List Int)(h0:0<=a)(ham:a<m)(hmb:m<b)(hb:b<=n)(hn:n<=100000000000000)(hr:o+n<=row.length)(hmid:mid=(a+b)/2)(hs:s=mid+m)(hst:(mid<m/\st=s-b/\r=mid)\/(m<=mid/\st=a/\r=m))(s1:So (clx T A B) o row a m)(s2:So (clx T A B) o row m b) :
 Pf (C243_c2 G (((o:Int),(n:Int)),a,m,b,mid,s,st,r,row,T,A,B,())) (λy=>∃r':List Int,Pm (clx T A B) o a b row r'/\So (clx T A B) o r' a b/\y=(r',T,A,B,())):=by
 show Pf (F243_c2 C177 G C249 (C243_c1 G) (C243_l4 G) _) _;unfold F243_c2;dsimp only;simp only[toNat_natCast];rw[w64s (n:=s-1) (by omega)];refine pZ (s311_4 h G o n a m b mid s st r row (by omega) (by omega) (by omega) hn) ?_;rintro _ ⟨k,⟨k1,k2⟩,f1,f2,rfl⟩;dsimp only;simp only[toNat_natCast];rw[w64s (n:=s-k) (by omega)];generalize he:s-k=e at *
 have he1:s-1-k=e-1:=by omega
 rw[he1]at f2;have b1:a<=k/\k<=m/\k<=mid/\m<=e/\mid<=e/\e<=b/\k+(e-m)=mid:=by omega
 obtain⟨b1,b2,b3,b4,b5,b6,b7⟩:=b1;have x14:∀i j:Int,a<=i->i<k->e<=j->j<b->clx T A B (vv o row i)<=clx T A B (vv o row j):=by
  intro i j i1 i2 j1 j2;rcases f1 with f1|f1
  . omega
  . exact Int.le_trans (s1 i (k-1) i1 (by omega) (by omega)) (Int.le_trans f1 (s2 e j b4 j1 j2))
 have x32:∀i j:Int,k<=i->i<m->m<=j->j<e->clx T A B (vv o row j)<clx T A B (vv o row i):=by
  intro i j i1 i2 j1 j2;rcases f2 with f2|f2
  . omega
  . exact Int.lt_of_le_of_lt (s2 j (e-1) j1 (by omega) (by omega)) (Int.lt_of_lt_of_le f2 (s1 k i b1 i1 i2))
 have fin:∀r':List Int,Tn o k m e row r'->Pf ((C243_c1 G (((o:Int),(n:Int)),a,b,mid,k,e,r',T,A,B,())).bind λval=>some (val.fst,val.snd.fst,val.snd.snd.fst,val.snd.snd.snd.fst,())) (λy=>∃r':List Int,Pm (clx T A B) o a b row r'/\So (clx T A B) o r' a b/\y=(r',T,A,B,())):=by
  intro r' ht;have hP:Pm (clx T A B) o k e row r':=ht.pm (by omega) b2 b4 (by omega) x32;have hl:=hP.len;have v1:∀i:Int,0<=i->(i<k\/e<=i)->vv o r' i=vv o row i:=λi h0 hi=>by rw[ht.val i h0,if_pos hi]
  have v2:∀i:Int,k<=i->i<mid->vv o r' i=vv o row (i+(m-k)):=λi h1 h2=>by rw[ht.val i (by omega),if_neg (by omega),if_pos (by omega)]
  have v3:∀i:Int,mid<=i->i<e->vv o r' i=vv o row (i-(e-m)):=λi h1 h2=>by rw[ht.val i (by omega),if_neg (by omega),if_neg (by omega)]
  refine pZ (s311_c1 G o n hG a b mid k e r' h0 (by omega) (by omega) hb (by omega) ?_ ?_ ?_ ?_ ?_) ?_
  . exact(s1.sub (Int.le_refl _) b2).out hP h0 (.inl (Int.le_refl _))
  . intro i j i1 i2 i3
    rw[v2 i i1 (by omega),v2 j (by omega) i3];exact s2 _ _ (by omega) (by omega) (by omega)
  . intro i j i1 i2 i3
    rw[v3 i i1 (by omega),v3 j (by omega) i3];exact s1 _ _ (by omega) (by omega) (by omega)
  . exact(s2.sub b4 (Int.le_refl _)).out hP (by omega) (.inr (Int.le_refl _))
  . intro i j i1 i2 j1 j2
    by_cases ci:i<k
    . rw[v1 i (by omega) (.inl ci)]
      by_cases cj:j<e
      . rw[v3 j j1 cj];exact s1 _ _ i1 (by omega) (by omega)
      . rw[v1 j (by omega) (.inr (by omega))];exact x14 i j i1 ci (by omega) j2
    . rw[v2 i (by omega) i2]
      by_cases cj:j<e
      . rw[v3 j j1 cj];exact le_of_lt (x32 _ _ (by omega) (by omega) (by omega) (by omega))
      . rw[v1 j (by omega) (.inr (by omega))];exact s2 _ _ (by omega) (by omega) j2
  . rintro _ ⟨r2,hP2,hS2,rfl⟩
    exact pP ⟨r2,(hP.mono h0 b1 b6).tr hP2,hS2,rfl⟩
 have triv:(k=m\/e=m)->Tn o k m e row row:=λhc=>⟨rfl,λ_ _=>rfl,λi hi=>by
  by_cases c1:i<k\/e<=i
  . rw[if_pos c1]
  . rw[if_neg c1]
    rcases hc with hc|hc
    . rw[if_pos (by omega),show i+(m-k)=i by omega]
    . rw[if_neg (by omega),show i-(e-m)=i by omega]⟩
 refine pX (λg1 => ?_) (λg1=>fin row (triv (by omega)));refine pX (λg2 => ?_) (λg2=>fin row (triv (by omega)));refine pZ (s315 o n k m e row (by omega) g1 g2 (by omega) hn hr) ?_;rintro _ ⟨r',ht,rfl⟩;exact fin r' ht
theorem s311r(h:CK T A B)(o n:Nat)(hn:n<=100000000000000):∀k:Nat,Ms T A B (recN FF311 k) o n
 | 0=>λa m b row _ _ _ _ _ _ _=>λ_ e=>by cases e
 | k+1=>λa m b row h0 ham hmb hb hr s1 s2=>by
  have hG:=s311r h o n hn k;show Pf (FF311 (recN FF311 k) _) _;generalize recN FF311 k=G at hG ⊢;show Pf (F243 C177 G C249 (C243_c2 G) (C243_l0 G) (C243_l1 G) (C243_l2 G) (C243_l3 G) _) _;unfold F243;dsimp only;simp only[toNat_natCast];rw[w64s (n:=m-a) (by omega),w64s (n:=b-m) (by omega),mid2 h0 (by omega) (by omega)];refine pX (λg1 => ?_) (λg1 => ?_)
  . have hm:m=a+1:=by omega
    subst hm;refine pZ (s311_0 h G o n a (a+1) b row (by omega) (by omega) hb hn s2) ?_;rintro _ ⟨k,⟨k1,k2⟩,hA,hB,rfl⟩;dsimp only;simp only[toNat_natCast];refine pZ (s311_1 G o n a b k row h0 ⟨k1,k2⟩ hb hn hr s2 hA hB) ?_;rintro _ ⟨r',hP,hS,rfl⟩;exact pP ⟨r',hP,hS,rfl⟩
  refine pX (λg2 => ?_) (λg2 => ?_)
  . have hm:b=m+1:=by omega
    subst hm;refine pZ (s311_2 h G o n m a m row (by omega) (by omega) (by omega) hn s1) ?_;rintro _ ⟨k,⟨k1,k2⟩,hA,hB,rfl⟩;dsimp only;simp only[toNat_natCast];refine pZ (s311_3 G o n a m k row h0 ⟨k1,k2⟩ (by omega) hn hr s1 hA hB) ?_;rintro _ ⟨r',hP,hS,rfl⟩;exact pP ⟨r',hP,hS,rfl⟩
  generalize hmid:(a+b)/2=mid;rw[w64s (n:=mid+m) (by omega),w64s (n:=mid+m-b) (by omega)];refine pX (λg3 => ?_) (λg3 => ?_)
  . refine pZ (s311_c2 h G o n hG a m b mid (mid+m) (mid+m-b) mid row h0 ham hmb hb hn hr hmid.symm rfl (.inl ⟨g3,rfl,rfl⟩) s1 s2) ?_
    rintro _ ⟨r',hP,hS,rfl⟩;exact pP ⟨r',hP,hS,rfl⟩
  . refine pZ (s311_c2 h G o n hG a m b mid (mid+m) a m row h0 ham hmb hb hn hr hmid.symm rfl (.inr ⟨by omega,rfl,rfl⟩) s1 s2) ?_
    rintro _ ⟨r',hP,hS,rfl⟩;exact pP ⟨r',hP,hS,rfl⟩
theorem s311(h:CK T A B)(o n:Nat)(hn:n<=100000000000000):Ms T A B C243 o n:=by
 intro a m b row h0 h1 h2 h3 h4 h5 h6;show Pf (recN FF311 big _) _;exact s311r h o n hn big a m b row h0 h1 h2 h3 h4 h5 h6
theorem blk_lt{s k q:Int}(hs:0<s)(h:k<s*q):k/s<q:=Int.ediv_lt_of_lt_mul hs (by rw[mul_comm];exact h)
theorem blk_ge{s k q:Int}(hs:0<s)(h:s*q<=k):q<=k/s:=Int.le_ediv_of_mul_le hs (by rw[mul_comm];exact h)
theorem blk_eq{s k q:Int}(hs:0<s)(h:s*q<=k)(h':k<s*q+s):k/s=q:=by
 have h1:=blk_ge hs h;have h2:k/s<q+1:=blk_lt hs (by rw[mul_add,Int.mul_one];exact h');omega
def Sb(cl:Int->Int)(o:Nat)(r:List Int)(s a b:Int):Prop:=∀i j:Int,a<=i->i<=j->j<b->i/s=j/s->cl (vv o r i)<=cl (vv o r j)
theorem Sb.snoc{cl:Int->Int}{o:Nat}{r r':List Int}{s q b:Int}(hs:0<s)(hq:0<=s*q)(h:Sb cl o r s 0 (s*q))(hP:Pm cl o (s*q) b r r')(hS:So cl o r' (s*q) b):Sb cl o r' s 0 b:=by
 intro i j h1 h2 h3 h4;by_cases ci:i<s*q
 . have:=blk_lt hs ci
   have cj:j<s*q:=by
    by_cases cj:j<s*q
    . exact cj
    . have:=blk_ge (q:=q) hs (show s*q<=j by omega)
      omega
   rw[hP.out i h1 (.inl ci),hP.out j (by omega) (.inl cj)];exact h i j h1 h2 cj h4
 . exact hS i j (by omega) h2 h3
theorem Sb.so{cl:Int->Int}{o:Nat}{r:List Int}{s q a b:Int}(hs:0<s)(h:Sb cl o r s a b)(x y:Int)(h1:a<=x)(h2:s*q<=x)(h3:y<=s*q+s)(h4:y<=b):So cl o r x y:=by
 intro i j i1 i2 i3;exact h i j (by omega) i2 (by omega) (by rw[blk_eq hs (q:=q) (by omega) (by omega),blk_eq hs (q:=q) (by omega) (by omega)])
theorem s299_0(h:CK T A B)(o n:Nat)(hn:n<=100000000000)(row:List Int)(hr:o+n<=row.length) :
 Pf (C224_l0 (((o:Int),(n:Int)),(n:Int),20,0,20,row,T,A,B,())) (λy=>∃(q:Int) (r':List Int),(0<=q/\20*q<=n/\n<20*q+20)/\Pm (clx T A B) o 0 n row r'/\Sb (clx T A B) o r' 20 0 (20*q)/\y=(((o:Int),(n:Int)),(n:Int),20,20*q,r',T,A,B,())):=by
 refine pL ?I ?h _ ?hv
 case I=>exact(λv=>∃(q:Int) (r':List Int),(0<=q/\20*q<=n)/\Pm (clx T A B) o 0 n row r'/\Sb (clx T A B) o r' 20 0 (20*q)/\v=(((o:Int),(n:Int)),(n:Int),20,20*q,20*q+20,r',T,A,B,()))
 case hv=>exact⟨0,row,by omega,Pm.refl,λi j h1 h2 h3=>by omega,rfl⟩
 rintro _ ⟨q,r',⟨q0,q1⟩,hP,hS,rfl⟩;unfold F224_l0;dsimp only;simp only[toNat_natCast];have hl:=hP.len;refine pX (λg => ?_) (λg => ?_)
 . refine pZ (s310 h o n (20*q) (20*q+20) r' (by omega) (by omega) g (by omega) (by omega)) ?_
   rintro _ ⟨r2,hP2,hS2,rfl⟩;dsimp only;rw[w64s (n:=20*q+20+20) (by omega)];refine pP ⟨q+1,r2,by omega,hP.tr (hP2.mono (by omega) (by omega) g),?_,?_⟩
   . rw[show 20*(q+1)=20*q+20 by omega]
     exact hS.snoc (by omega) (by omega) hP2 hS2
   . rw[show 20*(q+1)=20*q+20 by omega]
 . exact pP ⟨q,r',by omega,hP,hS,rfl⟩
theorem s299_1(h:CK T A B)(o n:Nat)(hn:n<=100000000000)(s:Int)(hs:1<=s/\s<=n)(row:List Int)(hr:o+n<=row.length)(hS:Sb (clx T A B) o row s 0 n) :
 Pf (C224_l1 (((o:Int),(n:Int)),(n:Int),s,0,2*s,row,T,A,B,())) (λy=>∃(q:Int) (r':List Int),(0<=q/\2*s*q<=n/\n<2*s*q+2*s)/\Pm (clx T A B) o 0 n row r'/\Sb (clx T A B) o r' (2*s) 0 (2*s*q)/\Sb (clx T A B) o r' s (2*s*q) n/\y=(((o:Int),(n:Int)),(n:Int),s,2*s*q,r',T,A,B,())):=by
 refine pL ?I ?h _ ?hv
 case I=>exact(λv=>∃(q:Int) (r':List Int),(0<=q/\0<=2*s*q/\2*s*q<=n)/\Pm (clx T A B) o 0 n row r'/\Sb (clx T A B) o r' (2*s) 0 (2*s*q)/\Sb (clx T A B) o r' s (2*s*q) n/\v=(((o:Int),(n:Int)),(n:Int),s,2*s*q,2*s*q+2*s,r',T,A,B,()))
 case hv=>exact⟨0,row,by rw[mul_zero];omega,Pm.refl,by rw[mul_zero];exact λi j h1 h2 h3=>by omega,by rw[mul_zero];exact hS,by rw[mul_zero,Int.zero_add]⟩
 rintro _ ⟨q,r',⟨q0,q1,q2⟩,hP,hS1,hS2,rfl⟩;unfold F224_l1;dsimp only;simp only[toNat_natCast];have hl:=hP.len;have e2:s*(2*q)=2*s*q:=by rw[<-mul_assoc,mul_comm s 2]
 have e3:s*(2*q+1)=2*s*q+s:=by rw[mul_add,e2,Int.mul_one]
 have e4:2*s*(q+1)=2*s*q+2*s:=by rw[mul_add,Int.mul_one]
 generalize ha:2*s*q=a at *
 refine pX (λg => ?_) (λg => ?_)
 . rw[w64s (n:=a+s) (by omega),w64s (n:=2*s) (by omega),w64s (n:=a+2*s+2*s) (by omega)]
   refine pZ (s311 h o n (by omega) a (a+s) (a+2*s) r' q1 (by omega) (by omega) g (by omega) (hS2.so (q:=2*q) (by omega) _ _ (Int.le_refl _) (by omega) (by omega) (by omega)) (hS2.so (q:=2*q+1) (by omega) _ _ (by omega) (by omega) (by omega) (by omega))) ?_;rintro _ ⟨r2,hP2,hS3,rfl⟩;refine pP ⟨q+1,r2,by omega,hP.tr (hP2.mono (by omega) q1 g),?_,?_,?_⟩
   . rw[e4]
     rw[<-ha]at hP2 hS3 hS1;have:=hS1.snoc (by omega) (by omega) hP2 hS3;rw[ha]at this;exact this
   . rw[e4]
     intro i j h1 h2 h3 h4;rw[hP2.out i (by omega) (.inr h1),hP2.out j (by omega) (.inr (by omega))];exact hS2 i j (by omega) h2 h3 h4
   . rw[e4]
 . exact pP ⟨q,r',by omega,hP,by rw[ha];exact hS1,by rw[ha];exact hS2,by rw[ha]⟩
theorem s299(h:CK T A B)(o n:Nat)(hn:n<=100000000000)(row:List Int)(hr:o+n<=row.length) :
 Pf (C224 (((o:Int),(n:Int)),(n:Int),row,T,A,B,())) (λy=>∃r':List Int,Pm (clx T A B) o 0 n row r'/\So (clx T A B) o r' 0 n/\y=(r',T,A,B,())):=by
 unfold C224 F224;dsimp only;simp only[toNat_natCast];refine pZ (s299_0 h o n hn row hr) ?_;rintro _ ⟨q,r1,⟨q0,q1,q2⟩,hP1,hS1,rfl⟩;dsimp only;simp only[toNat_natCast];have hl1:=hP1.len;refine pZ (s310 h o n (20*q) n r1 (by omega) q1 (Int.le_refl _) (by omega) (by omega)) ?_;rintro _ ⟨r2,hP2,hS2,rfl⟩;dsimp only;have hS20:Sb (clx T A B) o r2 20 0 n:=hS1.snoc (by omega) (by omega) hP2 hS2;refine pZ (P:=λy=>∃r':List Int,Pm (clx T A B) o 0 n row r'/\So (clx T A B) o r' 0 n/\y=(r',T,A,B,())) ?_ ?_
 . refine pL ?I ?h _ ?hv
   case I=>exact(λv=>∃(s:Int) (r':List Int),(1<=s/\s<=300000000000)/\Pm (clx T A B) o 0 n row r'/\Sb (clx T A B) o r' s 0 n/\v=(((o:Int),(n:Int)),(n:Int),s,r',T,A,B,()))
   case hv=>exact⟨20,r2,by omega,hP1.tr (hP2.mono (by omega) (by omega) (Int.le_refl _)),hS20,rfl⟩
   rintro _ ⟨s,r',⟨s0,s1⟩,hP,hS,rfl⟩;unfold F224_l2;dsimp only;simp only[toNat_natCast];have hl:=hP.len;refine pX (λg => ?_) (λg => ?_)
   . rw[w64s (n:=2*s) (by omega)]
     refine pZ (s299_1 h o n hn s (by omega) r' (by omega) hS) ?_;rintro _ ⟨q,r3,⟨q0,q1,q2⟩,hP3,hS3,hS4,rfl⟩;dsimp only;simp only[toNat_natCast];have hl3:=hP3.len;have hq0:0<=2*s*q:=mul_nonneg (by omega) q0;have e2:s*(2*q)=2*s*q:=by rw[<-mul_assoc,mul_comm s 2]
     have e3:s*(2*q+1)=2*s*q+s:=by rw[mul_add,e2,Int.mul_one]
     rw[w64s (n:=2*s*q+s) (by omega),w64s (n:=s*2) (by omega)];refine pX (λg2 => ?_) (λg2 => ?_)
     . refine pZ (s311 h o n (by omega) (2*s*q) (2*s*q+s) n r3 hq0 (by omega) g2 (Int.le_refl _) (by omega) (hS4.so (q:=2*q) (by omega) _ _ (Int.le_refl _) (by omega) (by omega) (by omega)) (hS4.so (q:=2*q+1) (by omega) _ _ (by omega) (by omega) (by omega) (by omega))) ?_
       rintro _ ⟨r4,hP4,hS5,rfl⟩;refine pP ⟨s*2,r4,by omega,(hP.tr hP3).tr (hP4.mono (by omega) hq0 (Int.le_refl _)),?_,rfl⟩;rw[mul_comm s 2];exact hS3.snoc (by omega) hq0 hP4 hS5
     . refine pP ⟨s*2,r3,by omega,hP.tr hP3,?_,rfl⟩
       rw[mul_comm s 2];exact hS3.snoc (by omega) hq0 Pm.refl (hS4.so (q:=2*q) (by omega) _ _ (Int.le_refl _) (by omega) (by omega) (Int.le_refl _))
   . refine pP ⟨r',hP,?_,rfl⟩
     exact hS.so (q:=0) (by omega) _ _ (Int.le_refl _) (by omega) (by omega) (Int.le_refl _)
 . rintro _ ⟨r',hP,hS,rfl⟩
   exact pP ⟨r',hP,hS,rfl⟩
theorem s277(h:CK T A B)(o n:Nat)(hn:n<=100000000000)(row:List Int)(hr:o+n<=row.length) :
 Pf (C176 (((o:Int),(n:Int)),row,T,A,B,())) (λy=>∃r':List Int,Pm (clx T A B) o 0 n row r'/\So (clx T A B) o r' 0 n/\y=(r',T,A,B,())):=by
 unfold C176 F176;dsimp only;simp only[toNat_natCast];refine pZ (s299 h o n hn row hr) ?_;rintro _ ⟨r',hP,hS,rfl⟩;exact pP ⟨r',hP,hS,rfl⟩
end
def BS(cl:Int->Int):List Int->Prop
 | []=>True
 | [_]=>True
 | a::b::l=>(cl b=0\/cl a<=cl b)/\BS cl (b::l)
def pj(cl:Int->Int)(c:Int)(l:List Int):List Int:=l.filter λx=>cl x==0||cl x==c
theorem pj_app(cl:Int->Int)(c:Int)(l r:List Int):pj cl c (l++r)=pj cl c l++pj cl c r:=filter_append ..
theorem pj_in{cl:Int->Int}{c x:Int}{l:List Int}(h:cl x=0\/cl x=c):pj cl c (x::l)=x::pj cl c l:=by
 unfold pj;rw[filter_cons,if_pos];rcases h with h|h<;>simp[h]
theorem pj_out{cl:Int->Int}{c x:Int}{l:List Int}(h:cl x≠0)(h':cl x≠c):pj cl c (x::l)=pj cl c l:=by
 unfold pj;rw[filter_cons,if_neg];simp[h,h']
def Al(cl:Int->Int)(l r:List Int):Prop:=∀c:Int,0<c->pj cl c l=pj cl c r
theorem Al.refl{cl:Int->Int}{l:List Int}:Al cl l l:=λ_ _=>rfl
theorem Al.symm{cl:Int->Int}{l r:List Int}(h:Al cl l r):Al cl r l:=λc hc=>(h c hc).symm
theorem Al.trans{cl:Int->Int}{l r s:List Int}(h:Al cl l r)(h':Al cl r s):Al cl l s:=λc hc=>(h c hc).trans (h' c hc)
theorem Al.app{cl:Int->Int}{l r l' r':List Int}(h:Al cl l r)(h':Al cl l' r'):Al cl (l++l') (r++r'):=λc hc=>by rw[pj_app,pj_app,h c hc,h' c hc]
theorem Al.past{cl:Int->Int}{x:Int}(hx:cl x≠0):∀{m:List Int},(∀y∈m,cl y≠0/\cl y≠cl x)->Al cl (x::m) (m++[x])
 | [],_=>Al.refl
 | y::m,h=>by
  have hy:=h y List.mem_cons_self;have ih:=Al.past hx (m:=m) λz hz=>h z (List.mem_cons_of_mem _ hz);refine Al.trans (r:=y::x::m) (λc hc => ?_) (Al.app (l:=[y]) (r:=[y]) Al.refl ih);by_cases h1:cl x=c
  . rw[pj_in (.inr h1),pj_out hy.1 (by omega),pj_out (x:=y) hy.1 (by omega),pj_in (.inr h1)]
  . rw[pj_out hx h1]
    by_cases h2:cl y=c
    . rw[pj_in (.inr h2),pj_in (.inr h2),pj_out hx h1]
    . rw[pj_out hy.1 h2,pj_out hy.1 h2,pj_out hx h1]
theorem bs_head{cl:Int->Int}(h0:∀x,0<=cl x){c:Int}(hc:0<c){x:Int}{t:List Int}(hx:cl x=c):∀(l:List Int) (y:Int),BS cl (y::l)->pj cl c l=x::t->cl y<=c
 | [],y,_,h=>by cases h
 | z::l,y,hb,h=>by
  obtain⟨h1,h2⟩:=hb;by_cases hz0:cl z=0
  . rw[pj_in (.inl hz0)]at h
    injection h with e1 e2
    subst e1;omega
  . have hyz:cl y<=cl z:=h1.resolve_left hz0
    by_cases hzc:cl z=c
    . omega
    . rw[pj_out hz0 hzc]at h
      have:=bs_head h0 hc hx l z h2 h;omega
theorem bs_uniq{cl:Int->Int}(h0:∀x,0<=cl x):∀(l r:List Int),BS cl l->BS cl r->Al cl l r->l=r
 | [],[],_,_,_=>rfl
 | [],y::r,_,_,h=>by
  exfalso;by_cases hy:cl y=0
  . have:=h 1 (by omega)
    rw[pj_in (.inl hy)]at this;cases this
  . have:=h (cl y) (by have:=h0 y;omega)
    rw[pj_in (.inr rfl)]at this;cases this
 | x::l,[],_,_,h=>by
  exfalso;by_cases hx:cl x=0
  . have:=h 1 (by omega)
    rw[pj_in (.inl hx)]at this;cases this
  . have:=h (cl x) (by have:=h0 x;omega)
    rw[pj_in (.inr rfl)]at this;cases this
 | x::l,y::r,hl,hr,h=>by
  have key:x=y:=by
   by_cases hx:cl x=0
   . by_cases hy:cl y=0
     . have:=h 1 (by omega)
       rw[pj_in (.inl hx),pj_in (.inl hy)]at this;injection this
     . have:=h (cl y) (by have:=h0 y;omega)
       rw[pj_in (.inl hx),pj_in (.inr rfl)]at this;injection this
   . have hx0:0<cl x:=by have:=h0 x;omega
     by_cases hy:cl y=0
     . have:=h (cl x) hx0
       rw[pj_in (.inr rfl),pj_in (.inl hy)]at this;injection this
     . have hy0:0<cl y:=by have:=h0 y;omega
       by_cases hxy:cl x=cl y
       . have:=h (cl x) hx0
         rw[pj_in (.inr rfl),pj_in (.inr hxy.symm)]at this;injection this
       . exfalso
         have e1:=h (cl x) hx0;rw[pj_in (.inr rfl),pj_out hy (λe=>hxy e.symm)]at e1;have l1:=bs_head h0 hx0 rfl r y hr e1.symm;have e2:=h (cl y) hy0;rw[pj_out hx hxy,pj_in (.inr rfl)]at e2;have l2:=bs_head h0 hy0 rfl l x hl e2;omega
  subst key;have tl:∀(l:List Int),BS cl (x::l)->BS cl l:=λl h=>by
   cases l with
   | nil=>trivial
   | cons z l=>exact h.2
  congr 1;refine bs_uniq h0 l r (tl l hl) (tl r hr) λc hc => ?_;have:=h c hc;by_cases hx:cl x=0\/cl x=c
  . rw[pj_in hx,pj_in hx]at this
    injection this
  . rw[pj_out (λe=>hx (.inl e)) (λe=>hx (.inr e)),pj_out (λe=>hx (.inl e)) (λe=>hx (.inr e))]at this
    exact this
theorem bs_of{cl:Int->Int}:∀(l:List Int),(∀i:Nat,i+1<l.length->cl (l.getD (i+1) 0)=0\/cl (l.getD i 0)<=cl (l.getD (i+1) 0))->BS cl l
 | [],_=>trivial
 | [a],_=>trivial
 | a::b::l,h=>by
  refine⟨h 0 (by simp),bs_of (b::l) λi hi => ?_⟩;have:=h (i+1) (by simp only[length_cons]at hi ⊢;omega);exact this
section
variable {T:List R6} {A:List R4} {B:List R3}
theorem s239_0(h:CK T A B)(f k:Nat)(row:List Int)(hf:f<=k)(hk:k<=row.length)(hn:row.length<=100000000000)(hns:∀i:Nat,f<=i->i<k->clx T A B (row.getD i 0)≠0) :
 Pf (C142_c0 ((f:Int),(k:Int),T,A,B,row,())) (λy=>∃r':List Int,r'.length=row.length/\(∀i:Nat,i<f\/k<=i->r'.getD i 0=row.getD i 0)/\(∀i:Nat,f<=i->i+1<k->clx T A B (r'.getD i 0)<=clx T A B (r'.getD (i+1) 0))/\Al (clx T A B) r' row/\y=((k:Int)+1,(k:Int),T,A,B,r',())):=by
 unfold C142_c0 F142_c0;dsimp only;simp only[toNat_natCast];refine pX (λ_ => ?_) (λ_=>pN);refine pX (λ_ => ?_) (λ_=>pN);refine pZ (s277 h f (k-f) (by omega) row (by omega)) ?_;rintro _ ⟨r',hP,hS,rfl⟩;rw[w64s (n:=(k:Int)+1) (by omega)];have hv:∀(r:List Int) (i:Nat),f<=i->vv f r ((i:Int)-f)=r.getD i 0:=λr i hi=>by
  unfold vv;rw[show f+((i:Int)-f).toNat=i by omega]
 have hout:∀i:Nat,i<f\/k<=i->r'.getD i 0=row.getD i 0:=by
  intro i hi;by_cases c:i<f
  . rw[getD_eq_getElem?_getD,hP.pre i c,<-getD_eq_getElem?_getD]
  . rw[<-hv r' i (by omega),<-hv row i (by omega)]
    exact hP.out _ (by omega) (.inr (by omega))
 refine pP ⟨r',hP.len,hout,λi h1 h2 => ?_,λc hc => ?_,rfl⟩
 . have:=hS ((i:Int)-f) ((i:Int)+1-f) (by omega) (by omega) (by omega)
   rw[hv r' i h1,show (i:Int)+1-f=((i+1:Nat):Int)-f by omega,hv r' (i+1) (by omega)]at this;exact this
 . have dec:∀r:List Int,r.length=row.length->r=r.take f++((r.drop f).take (k-f)++r.drop k):=by
    intro r hr;have e1:=take_append_drop f r;have e2:=take_append_drop (k-f) (r.drop f);rw[drop_drop,show f+(k-f)=k by omega]at e2;rw[e2,e1]
   have et:r'.take f=row.take f:=by
    refine ext_getElem? λi => ?_;by_cases hi:i<f
    . rw[getElem?_take_of_lt hi,getElem?_take_of_lt hi];exact hP.pre i hi
    . rw[getElem?_eq_none (by rw[length_take];omega),getElem?_eq_none (by rw[length_take];omega)]
   have ed:r'.drop k=row.drop k:=by
    refine ext_getElem? λi => ?_;rw[getElem?_drop,getElem?_drop];by_cases hi:k+i<row.length
    . rw[get_v (o:=f) (by rw[hP.len];exact hi) (by omega),get_v (o:=f) hi (by omega),hP.out _ (by omega) (.inr (by omega))]
    . rw[getElem?_eq_none (by rw[hP.len];omega),getElem?_eq_none (by omega)]
   have hm:∀x∈(row.drop f).take (k-f),clx T A B x≠0:=by
    intro x hx;obtain⟨i,hi,rfl⟩:=mem_iff_getElem.1 hx;rw[length_take,length_drop]at hi;rw[getElem_take,getElem_drop];have:=hns (f+i) (by omega) (by omega);rw[getD_lt (by omega)]at this;exact this
   have hm':∀x∈(r'.drop f).take (k-f),clx T A B x≠0:=by
    intro x hx;obtain⟨i,hi,rfl⟩:=mem_iff_getElem.1 hx;rw[length_take,length_drop,hP.len]at hi;rw[getElem_take,getElem_drop];obtain⟨j,j1,j2,ej⟩:=hP.mem (i:Int) (by omega) (by omega);have:=hns (f+j.toNat) (by omega) (by omega);unfold vv at ej;rw[<-ej,toNat_natCast,getD_lt (by rw[hP.len];omega)]at this;exact this
   have hfil:=hP.fil c;rw[dec r' hP.len,dec row rfl]at hfil ⊢;rw[et,ed]at hfil ⊢;generalize (row.drop f).take (k-f)=w at hm hfil ⊢;generalize (r'.drop f).take (k-f)=w' at hm' hfil ⊢;rw[pj_app,pj_app,pj_app,pj_app];simp only[filter_append]at hfil;have h3:=List.append_cancel_left hfil;have h4:=List.append_cancel_right h3;have pw:∀w:List Int,(∀x∈w,clx T A B x≠0)->pj (clx T A B) c w=w.filter λx=>clx T A B x==c:=by
    intro w hw;unfold pj;refine List.filter_congr λx hx => ?_;rw[ibF (hw x hx),Bool.false_or]
   rw[pw w hm,pw w' hm',h4]
theorem s239(h:CK T A B)(hA:A.length<=1000000000000)(l:List Int)(hl:l.length<=100000000000):Pf (C142 (T,A,B,l,())) (λy=>BS (clx T A B) y.1/\Al (clx T A B) y.1 l/\y.1.length=l.length):=by
 unfold C142 F142;dsimp only;refine pZ (P:=λy=>y.1=l) ?_ ?_
 . unfold C174
   dsimp only;with_reducible repeat' (first|exact pN|apply pP|apply pX<;>intro _)
   rfl
 rintro⟨l',u⟩ hl';dsimp only at hl' ⊢;subst hl';refine pZ (P:=λy=>BS (clx T A B) y.1/\Al (clx T A B) y.1 l'/\y.1.length=l'.length) ?_ (λ_ h=>pP h);refine pL ?I ?h _ ?hv
 case I=>exact(λv=>∃(f k:Nat) (r:List Int),(f<=k/\k<=r.length+1/\(f<=r.length\/k=r.length+1))/\r.length=l'.length/\(∀i:Nat,f<=i->i<k->i<r.length->clx T A B (r.getD i 0)≠0)/\(0<f->f<=r.length->clx T A B (r.getD (f-1) 0)=0)/\(∀i:Nat,i+1<f->i+1<r.length->clx T A B (r.getD (i+1) 0)=0\/clx T A B (r.getD i 0)<=clx T A B (r.getD (i+1) 0))/\Al (clx T A B) r l'/\(k=r.length+1->f=k)/\v=((f:Int),(k:Int),T,A,B,r,()))
 case hv=>exact⟨0,0,l',by omega,rfl,λi h1 h2=>by omega,λh=>by omega,λi h1=>by omega,Al.refl,λ_=>by omega,rfl⟩
 rintro _ ⟨f,k,r,⟨h1,h2,h3⟩,hlen,hN,hZ,hB,hAl,hE,rfl⟩;unfold F142_l0;dsimp only;simp only[toNat_natCast];have fin:k<=r.length->(k<r.length->clx T A B (r.getD k 0)=0)->Pf ((C142_c0 ((f:Int),(k:Int),T,A,B,r,())).bind λval=>some (Sum.inl (val.fst,IntKind.i64.wrap (val.snd.fst+1),val.snd.snd.fst,val.snd.snd.snd.fst,val.snd.snd.snd.snd.fst,val.snd.snd.snd.snd.snd.fst,())))
  (Sum.elim (λv':Int×Int×List R6×List R4×List R3×List Int×Unit=>∃(f k:Nat) (r:List Int),(f<=k/\k<=r.length+1/\(f<=r.length\/k=r.length+1))/\r.length=l'.length/\(∀i:Nat,f<=i->i<k->i<r.length->clx T A B (r.getD i 0)≠0)/\(0<f->f<=r.length->clx T A B (r.getD (f-1) 0)=0)/\(∀i:Nat,i+1<f->i+1<r.length->clx T A B (r.getD (i+1) 0)=0\/clx T A B (r.getD i 0)<=clx T A B (r.getD (i+1) 0))/\Al (clx T A B) r l'/\(k=r.length+1->f=k)/\v'=((f:Int),(k:Int),T,A,B,r,())) (λy:List Int×Unit=>BS (clx T A B) y.1/\Al (clx T A B) y.1 l'/\y.1.length=l'.length)):=by
  intro hk hz;refine pZ (s239_0 h f k r (by omega) hk (by omega) λi i1 i2=>hN i i1 i2 (by omega)) ?_;rintro _ ⟨r2,g1,g2,g3,g4,rfl⟩;dsimp only;rw[wrN k (by omega)];refine pP ⟨k+1,k+1,r2,by omega,g1.trans hlen,λi i1 i2=>by omega,λ_ hle => ?_,λi i1 i2 => ?_,g4.trans hAl,λ_=>rfl,?_⟩
  . rw[show k+1-1=k by omega,g2 k (.inr (le_refl _))]
    exact hz (by omega)
  . by_cases c1:i+1<f
    . rw[g2 i (.inl (by omega)),g2 (i+1) (.inl c1)]
      exact hB i c1 (by omega)
    . by_cases c2:i+1=f
      . by_cases c3:f<k
        . right
          rw[g2 i (.inl (by omega))];have:=hZ (by omega) (by omega);rw[show f-1=i by omega]at this;rw[this];exact(h.bd _).1
        . left
          rw[g2 (i+1) (.inr (by omega)),show i+1=k by omega];exact hz (by omega)
      . by_cases c3:i+1<k
        . exact .inr (g3 i (by omega) c3)
        . left
          rw[g2 (i+1) (.inr (by omega)),show i+1=k by omega];exact hz (by omega)
  . simp only[Prod.mk.injEq,and_true]
    omega
 refine pX (λhle => ?_) (λhgt => ?_)
 . refine pX (λhlt => ?_) (λhge => ?_)
   . refine pX (λ_ => ?_) (λ_=>pN)
     rw[h.eq];simp only[Option.bind_some];refine pX (λhpos => ?_) (λhnp => ?_)
     . rw[wrN k (by omega)]
       refine pP ⟨f,k+1,r,by omega,hlen,λi i1 i2 i3 => ?_,hZ,hB,hAl,λ_=>by omega,rfl⟩;by_cases c:i<k
       . exact hN i i1 c i3
       . rw[show i=k by omega];omega
     . exact fin (by omega) λ_=>by have:=(h.bd (r.getD k 0)).1;omega
   . exact fin (by omega) λhc=>by omega
 . have hk:k=r.length+1:=by omega
   have hf:=hE hk;refine pP ⟨bs_of r λi hi=>hB i (by omega) hi,hAl,hlen⟩
end
def th(k b:Int):Int:=if(if 26<k-b then 26 else k-b)>1 then(if 26<k-b then 26 else k-b)else 1
theorem th_rng(k b:Int):1<=th k b/\th k b<=26:=by
 unfold th;repeat' split
 all_goals omega
theorem th_mono(k b:Int):th k b<=th (k+36) b:=by
 unfold th;repeat' split
 all_goals omega
theorem c290(k b:Int)(hk : -1000000000000<=k/\k<=1000000000000)(hb : -1000000000000<=b/\b<=1000000000000):C233 (k,b,())=some (th k b,()):=by
 show F233 _=_;simp only[F233,w64s (n:=k-b) (by omega)];rfl
def dgN(n:Int):UInt8:=if n<26 then UInt8.ofNat (97+n.toNat)else UInt8.ofNat (48+(n-26).toNat)
def dgK(n:Nat):Bool:=(match C234 ((n:Int),())with|some (d,true,_)=>UInt8.ofNat d.toNat==dgN (n:Int)|_=>false)&&((match C237 (((dgN (n:Int)).toNat:Int),())with|some (m,true,_)=>m==(n:Int)|_=>false)&&(decide (97<=(dgN (n:Int)).toNat/\(dgN (n:Int)).toNat<=122)||decide (48<=(dgN (n:Int)).toNat/\(dgN (n:Int)).toNat<=57)))
theorem dg_k:((List.range 36).all dgK)=true:=by kernel_rfl
theorem dg_all{n:Int}(h0:0<=n)(h1:n<36):(∃d:Int,C234 (n,())=some (d,true,())/\UInt8.ofNat d.toNat=dgN n)/\C237 (((dgN n).toNat:Int),())=some (n,true,())/\((97<=(dgN n).toNat/\(dgN n).toNat<=122)\/(48<=(dgN n).toNat/\(dgN n).toNat<=57)):=by
 obtain⟨m,rfl⟩:∃m:Nat,n=(m:Int):=⟨n.toNat,by omega⟩
 have h:=all_eq_true.1 dg_k m (mem_range.2 (by omega));unfold dgK at h;simp only[Bool.and_eq_true,Bool.or_eq_true,decide_eq_true_eq]at h;obtain⟨k1,k2,k3⟩:=h;refine⟨?_,?_,k3⟩
 . split at k1
   . rename_i d u e
     exact⟨d,e,eq_of_beq k1⟩
   . cases k1
 . split at k2
   . rename_i d u e
     rw[e,show d=(m:Int) from eq_of_beq k2]
   . cases k2
def wrt:Nat->Int->Int->Int->List UInt8
 | 0,_,_,_=>[]
 | f+1,n,k,b=>if n<th k b then [dgN n]else dgN (th k b+(n-th k b)%(36-th k b))::wrt f ((n-th k b)/(36-th k b)) (k+36) b
theorem dv{n t:Int}(ht:1<=t/\t<=26)(hn:t<=n):0<=(n-t)/(36-t)/\(n-t)/(36-t)*10<=n/\0<=(n-t)%(36-t)/\(n-t)%(36-t)<36-t/\(n-t)%(36-t)+(n-t)/(36-t)*(36-t)=n-t:=by
 have q0:0<=(n-t)/(36-t):=Int.ediv_nonneg (by omega) (by omega);have q1:(n-t)/(36-t)*(36-t)<=n-t:=Int.ediv_mul_le _ (by omega);have q2:(n-t)/(36-t)*10<=(n-t)/(36-t)*(36-t):=Int.mul_le_mul_of_nonneg_left (by omega) q0;have q3:=Int.emod_nonneg (n-t) (show 36-t≠0 by omega);have q4:=Int.emod_lt_of_pos (n-t) (show 0<36-t by omega);have q5:=Int.emod_def (n-t) (36-t);rw[mul_comm (36-t)]at q5;exact⟨q0,by omega,q3,q4,by omega⟩
theorem stp251(n k b:Int)(out:List UInt8)(hn:th k b<=n/\n<=1000000000000)(hk : -1000000000000<=k/\k<=100000000000)(hb : -1000000000000<=b/\b<=1000000000000)(ho:out.length<=1000000) :
 F191_l0 C233 C234 (n,b,k,out,())=some (.inl ((n-th k b)/(36-th k b),b,k+36,out++[dgN (th k b+(n-th k b)%(36-th k b))],())):=by
 have ht:=th_rng k b;obtain⟨q0,q1,q2,q3,q4⟩:=dv ht hn.1;obtain⟨⟨d,e1,e2⟩,-,-⟩:=dg_all (n:=th k b+(n-th k b)%(36-th k b)) (by omega) (by omega);have w1:=w64s (n:=36-th k b) (by omega);have w2:=w64s (n:=n-th k b) (by omega);have w3:=w64s (n:=th k b+(n-th k b)%(36-th k b)) (by omega);have w4:=w64s (n:=(n-th k b)/(36-th k b)) (by omega);have w5:=w64s (n:=k+36) (by omega);simp only[F191_l0,c290 k b (by omega) hb,Option.bind_some];rw[decide_eq_false (show ¬n<th k b by omega)];simp only[cond_false,w1,w2,Int.tmod_eq_emod_of_nonneg (show 0<=n-th k b by omega),tdiv_eq_ediv_of_nonneg (show 0<=n-th k b by omega),w3,w4,w5,inT (show 36-th k b≠0 by omega),cond_true,e1,Option.bind_some,e2];rw[decide_eq_true (by simp only[length_cons,length_nil];omega)];rfl
theorem end251(n k b:Int)(out:List UInt8)(h0:0<=n)(hn:n<th k b)(hk : -1000000000000<=k/\k<=1000000000000)(hb : -1000000000000<=b/\b<=1000000000000)(ho:out.length<=1000000) :
 F191_l0 C233 C234 (n,b,k,out,())=some (.inr (out++[dgN n],())):=by
 have ht:=th_rng k b;obtain⟨⟨d,e1,e2⟩,-,-⟩:=dg_all (n:=n) (by omega) (by omega);simp only[F191_l0,c290 k b hk hb,Option.bind_some];rw[decide_eq_true hn];simp only[cond_true,e1,Option.bind_some,e2];rw[decide_eq_true (by simp only[length_cons,length_nil];omega)];rfl
theorem l251(b:Int)(hb : -1000000000000<=b/\b<=1000000000000):∀(f m:Nat) (n k:Int) (out:List UInt8),0<=n->n<(10^f:Nat)->f<m->f<=12->0<=k->k+36*f<=10000->out.length+f<=900000 ->
 loopN (F191_l0 C233 C234) m (n,b,k,out,())=some (out++wrt (f+1) n k b,())
 | f,0,n,k,out,h0,h1,hm,hf,hk,hk',ho=>by omega
 | 0,m+1,n,k,out,h0,h1,hm,hf,hk,hk',ho=>by
  have ht:=th_rng k b;have:n=0:=by simp at h1;omega
  subst this;rw[loopN_inr (end251 0 k b out (by omega) (by omega) (by omega) hb (by omega))];unfold wrt;rw[if_pos (by omega)]
 | f+1,m+1,n,k,out,h0,h1,hm,hf,hk,hk',ho=>by
  have ht:=th_rng k b;by_cases hn:n<th k b
  . rw[loopN_inr (end251 n k b out h0 hn (by omega) hb (by omega))]
    unfold wrt;rw[if_pos hn]
  . have hp:10^(f+1)=10^f*10:=pow_succ ..
    have hle:10^(f+1)<=10^12:=Nat.pow_le_pow_right (by decide) hf;obtain⟨q0,q1,-,-,-⟩:=dv ht (show th k b<=n by omega);rw[loopN_inl (stp251 n k b out (by omega) (by omega) hb (by omega)),l251 b hb f m _ (k+36) _ q0 (by omega) (by omega) (by omega) (by omega) (by omega) (by simp only[vl];omega)];conv=>rhs;unfold wrt
    rw[if_neg hn];simp
theorem c251(n b:Int)(out:List UInt8)(h0:0<=n)(h1:n<=100000000)(hb : -1000000000000<=b/\b<=1000000000000)(ho:out.length<=800000):C191 (n,b,out,())=some (out++wrt 10 n 36 b,()):=by
 have ht:=th_rng 36 b;by_cases hn:n<th 36 b
 . obtain⟨⟨d,e1,e2⟩,-,-⟩:=dg_all (n:=n) (by omega) (by omega)
   show F191 C233 C234 C191_l0 _=_;simp only[F191,c290 36 b (by omega) hb,Option.bind_some];rw[decide_eq_true hn];simp only[cond_true,e1,Option.bind_some,e2];rw[decide_eq_true (by simp only[length_cons,length_nil];omega)];unfold wrt;rw[if_pos hn];rfl
 . obtain⟨q0,q1,q2,q3,q4⟩:=dv ht (show th 36 b<=n by omega)
   obtain⟨⟨d,e1,e2⟩,-,-⟩:=dg_all (n:=th 36 b+(n-th 36 b)%(36-th 36 b)) (by omega) (by omega);have w1:=w64s (n:=36-th 36 b) (by omega);have w2:=w64s (n:=n-th 36 b) (by omega);have w3:=w64s (n:=th 36 b+(n-th 36 b)%(36-th 36 b)) (by omega);have w4:=w64s (n:=(n-th 36 b)/(36-th 36 b)) (by omega);have hl:C191_l0 ((n-th 36 b)/(36-th 36 b),b,36+36,out++[dgN (th 36 b+(n-th 36 b)%(36-th 36 b))],())=some (out++[dgN (th 36 b+(n-th 36 b)%(36-th 36 b))]++wrt 9 ((n-th 36 b)/(36-th 36 b)) (36+36) b,()) :=
    l251 b hb 8 big _ _ _ q0 (by omega) (by unfold big;omega) (by omega) (by omega) (by omega) (by simp only[vl];omega)
   show F191 C233 C234 C191_l0 _=_;simp only[F191,c290 36 b (by omega) hb,Option.bind_some];rw[decide_eq_false hn];simp only[cond_false,w1,w2,Int.tmod_eq_emod_of_nonneg (show 0<=n-th 36 b by omega),tdiv_eq_ediv_of_nonneg (show 0<=n-th 36 b by omega),w3,w4,inT (show 36-th 36 b≠0 by omega),cond_true,e1,Option.bind_some,e2,w64s (n:=36+36) (by omega),hl];rw[decide_eq_true (by simp only[length_cons,length_nil];omega)];conv=>rhs;unfold wrt
   rw[if_neg hn];simp
theorem wr_bytes:∀(f:Nat) (n k b:Int),0<=n->∀c∈wrt f n k b,(97<=c.toNat/\c.toNat<=122)\/(48<=c.toNat/\c.toNat<=57)
 | 0,n,k,b,h0,c,hc=>by cases hc
 | f+1,n,k,b,h0,c,hc=>by
  have ht:=th_rng k b;unfold wrt at hc;split at hc
  . rename_i h
    rw[mem_singleton.1 hc];exact(dg_all (n:=n) h0 (by omega)).2.2
  . rename_i h
    obtain⟨q0,q1,q2,q3,q4⟩:=dv ht (show th k b<=n by omega);rcases List.mem_cons.1 hc with rfl|hc
    . exact(dg_all (n:=th k b+(n-th k b)%(36-th k b)) (by omega) (by omega)).2.2
    . exact wr_bytes f _ _ b q0 c hc
theorem wr_len(f:Nat)(n k b:Int):1<=(wrt (f+1) n k b).length:=by unfold wrt;split<;>simp
def Wt(b w k:Int):Prop:=(∃j:Nat,w=((35^j:Nat):Int))\/2<=th k b
theorem wt_next{b w k n:Int}(hw:Wt b w k)(h1:1<=w)(hn:th k b<=n)(hm:n*w<=67000000):w*(36-th k b)<=2147483647/\Wt b (w*(36-th k b)) (k+36):=by
 have ht:=th_rng k b;have hmono:=th_mono k b;have htw:th k b*w<=67000000:=Int.le_trans (Int.mul_le_mul_of_nonneg_right hn (by omega)) hm;by_cases h2:2<=th k b
 . have h3:2*w<=th k b*w:=Int.mul_le_mul_of_nonneg_right h2 (by omega)
   have h4:w*(36-th k b)<=w*34:=Int.mul_le_mul_of_nonneg_left (by omega) (by omega);exact⟨by omega,.inr (by omega)⟩
 . have e:th k b=1:=by omega
   rw[e]at htw ⊢;rcases hw with⟨j,rfl⟩|hw
   . have hj:j<=5:=by
      rcases Nat.lt_or_ge j 6 with h|h
      . omega
      . have:35^6<=35^j:=Nat.pow_le_pow_right (by decide) h
        omega
     have:35^j<=35^5:=Nat.pow_le_pow_right (by decide) hj;have hp:35^(j+1)=35^j*35:=pow_succ ..;exact⟨by omega,.inl ⟨j+1,by rw[hp];omega⟩⟩
   . omega
theorem l271(b:Int)(hb : -1000000000000<=b/\b<=1000000000000)(rest:List UInt8):∀(f m:Nat) (n acc w:Int) (pre:List UInt8) (p:Nat),0<=n->n<(10^f:Nat)->f<m->f<=12->0<=acc->1<=w->w<=2147483647->acc+n*w<=67000000->Wt b w (36*((p:Int)+1))->pre.length=p->p+f<=200->rest.length<=900000 ->
 loopN (F211_l0 C233 C237) m (pre++(wrt (f+1) n (36*((p:Int)+1)) b++rest),b,acc,w,((pre++(wrt (f+1) n (36*((p:Int)+1)) b++rest)).length:Int),(p:Int),())=some (.inr (.inr (acc+n*w,rest,())))
 | f,0,n,acc,w,pre,p,h0,h1,hm,hf,ha,hw,hw',hs,hW,hp,hpf,hr=>by omega
 | f,m+1,n,acc,w,pre,p,h0,h1,hm,hf,ha,hw,hw',hs,hW,hp,hpf,hr=>by
  have ht:=th_rng (36*((p:Int)+1)) b;have hnw:0<=n*w:=mul_nonneg h0 (by omega);have w1:=w64s (n:=36*((p:Int)+1)) (by omega);by_cases hn:n<th (36*((p:Int)+1)) b
  . have hd:=(dg_all (n:=n) h0 (by omega)).2.1
    have ew:wrt (f+1) n (36*((p:Int)+1)) b=[dgN n]:=by unfold wrt;rw[if_pos hn]
    rw[ew];refine loopN_inr ?_;have hlen:(pre++([dgN n]++rest)).length=p+1+rest.length:=by simp[hp];omega
    have hg:(pre++([dgN n]++rest)).getD p 0=dgN n:=by subst hp;simp
    have w2:=w64s (n:=n*w) (by omega);have w3:=w64s (n:=acc+n*w) (by omega);simp only[F211_l0,hlen,toNat_natCast,hg,hd,Option.bind_some,Bool.not_true,cond_false,wrN p (by omega)];rw[show (((p+1:Nat):Int))=(p:Int)+1 by omega];simp only[w1,w2,w3,c290 _ b (show -1000000000000<=36*((p:Int)+1)/\36*((p:Int)+1)<=1000000000000 by omega) hb,Option.bind_some];rw[decide_eq_true (show (p:Int)<((p+1+rest.length:Nat):Int) by omega),decide_eq_true (show (0:Int)<=(p:Int) by omega),decide_eq_false (show ¬w>2147483647 by omega),decide_eq_false (show ¬acc+n*w>2147483647 by omega),decide_eq_true hn,decide_eq_true (show (0:Int)<=(p:Int)+1 by omega),decide_eq_true (show (p:Int)+1<=((p+1+rest.length:Nat):Int) by omega)];simp only[Bool.and_self,cond_true,cond_false];rw[show (pre++([dgN n]++rest)).drop (p+1)=rest by subst hp;simp]
  . have hfp:1<=f:=by
     rcases Nat.eq_zero_or_pos f with rfl|h
     . simp at h1;omega
     . exact h
    obtain⟨f,rfl⟩:∃f',f=f'+1:=⟨f-1,by omega⟩
    have hpw:10^(f+1)=10^f*10:=pow_succ ..;obtain⟨q0,q1,q2,q3,q4⟩:=dv ht (show th (36*((p:Int)+1)) b<=n by omega);have ew:wrt (f+1+1) n (36*((p:Int)+1)) b=dgN (th (36*((p:Int)+1)) b+(n-th (36*((p:Int)+1)) b)%(36-th (36*((p:Int)+1)) b))::wrt (f+1) ((n-th (36*((p:Int)+1)) b)/(36-th (36*((p:Int)+1)) b)) (36*(((p+1:Nat):Int)+1)) b:=by
     conv=>lhs;unfold wrt
     rw[if_neg hn,show 36*((p:Int)+1)+36=36*(((p+1:Nat):Int)+1) by omega]
    rw[ew];have hwn:=wt_next hW hw (show th (36*((p:Int)+1)) b<=n by omega) (by omega);rw[show 36*((p:Int)+1)+36=36*(((p+1:Nat):Int)+1) by omega]at hwn;have hd:=(dg_all (n:=th (36*((p:Int)+1)) b+(n-th (36*((p:Int)+1)) b)%(36-th (36*((p:Int)+1)) b)) (by omega) (by omega)).2.1;have hge:0<=(n-th (36*((p:Int)+1)) b)%(36-th (36*((p:Int)+1)) b):=q2;generalize hQ:(n-th (36*((p:Int)+1)) b)/(36-th (36*((p:Int)+1)) b)=q at q0 q1 q4 ⊢;generalize hR:(n-th (36*((p:Int)+1)) b)%(36-th (36*((p:Int)+1)) b)=r at q2 q3 q4 hd hge ⊢;have hk290:=c290 (36*((p:Int)+1)) b (by omega) hb;generalize th (36*((p:Int)+1)) b=t at *
    have hX:q*(w*(36-t))=q*(36-t)*w:=by rw[mul_comm w,mul_assoc]
    have hn2:n*w=(t+r)*w+q*(36-t)*w:=by
     rw[<-Int.add_mul];congr 1;omega
    have hXn:0<=q*(36-t)*w:=mul_nonneg (mul_nonneg q0 (by omega)) (by omega);have hdw:0<=(t+r)*w:=mul_nonneg (by omega) (by omega);have hw2:1*1<=w*(36-t):=Int.mul_le_mul hw (by omega) (by omega) (by omega);have ih:=l271 b hb rest f m q (acc+(t+r)*w) (w*(36-t)) (pre++[dgN (t+r)]) (p+1) q0 (by omega) (by omega) (by omega) (by omega) (by omega) hwn.1 (by rw[hX];omega) hwn.2 (by simp[hp]) (by omega) hr;rw[show pre++(dgN (t+r)::wrt (f+1) q (36*(((p+1:Nat):Int)+1)) b++rest)=(pre++[dgN (t+r)])++(wrt (f+1) q (36*(((p+1:Nat):Int)+1)) b++rest) by simp];generalize hs2:(pre++[dgN (t+r)])++(wrt (f+1) q (36*(((p+1:Nat):Int)+1)) b++rest)=S at ih ⊢;have hlen:p+1<=S.length:=by rw[<-hs2];simp[hp]
    have hlen':S.length<=10000000:=by
     rw[<-hs2];have:(wrt (f+1) q (36*(((p+1:Nat):Int)+1)) b).length<=f+1:=by
      have:∀(f:Nat) (n k b:Int),(wrt f n k b).length<=f:=by
       intro f
       induction f with
       | zero=>intro n k b;exact le_refl _
       | succ f ih =>
        intro n k b;unfold wrt;split
        . simp
        . have:=ih ((n-th k b)/(36-th k b)) (k+36) b
          simp only[length_cons];omega
      exact this _ _ _ _
     simp only[vl];omega
    have hg:S.getD p 0=dgN (t+r):=by rw[<-hs2];subst hp;simp
    rw[loopN_inl (v':=(S,b,acc+(t+r)*w,w*(36-t),(S.length:Int),((p+1:Nat):Int),())) ?_]
    . rw[ih,hX,hn2]
      congr 4;omega
    . have w2:=w64s (n:=(t+r)*w) (by omega)
      have w3:=w64s (n:=acc+(t+r)*w) (by omega);have w4:=w64s (n:=36-t) (by omega);have w5:=w64s (n:=w*(36-t)) (by omega);simp only[F211_l0,toNat_natCast,hg,hd,Option.bind_some,Bool.not_true,cond_false,wrN p (show p<=9223372036854775806 by omega)];rw[show (((p+1:Nat):Int))=(p:Int)+1 by omega];simp only[w1,w2,w3,w4,w5,hk290,Option.bind_some];rw[decide_eq_true (show (p:Int)<(S.length:Int) by omega),decide_eq_true (show (0:Int)<=(p:Int) by omega),decide_eq_false (show ¬w>2147483647 by omega),decide_eq_false (show ¬acc+(t+r)*w>2147483647 by omega),decide_eq_false (show ¬t+r<t by omega)];rfl
theorem c271(n b:Int)(rest:List UInt8)(h0:0<=n)(h1:n<=67000000)(hb : -1000000000000<=b/\b<=1000000000000)(hr:rest.length<=900000):C211 (wrt 10 n 36 b++rest,b,())=some (n,rest,()):=by
 have h:=l271 b hb rest 9 big n 0 1 [] 0 h0 (by omega) (by unfold big;omega) (by omega) (by omega) (by omega) (by omega) (by omega) (.inl ⟨0,rfl⟩) rfl (by omega) hr;have h':C211_l0 (wrt 10 n 36 b++rest,b,0,1,((wrt 10 n 36 b++rest).length:Int),0,())=some (.inr (.inr (n,rest,()))):=by
  have e:(36:Int)*(((0:Nat):Int)+1)=36:=rfl;rw[e,nil_append,Int.mul_one,Int.zero_add]at h;exact h
 show F211 C233 C237 C211_g0 C211_l0 _=_;simp only[F211,h',Option.bind_some,Sum.elim_inr]
theorem b252_l(a b:Int)(h0:0<=a)(h1:a<=1000000000)(hb:0<=b/\b<=1000):Df (C192_l0 (a,b,())) (λy=>0<=y.1/\y.1<=455/\0<=y.2.1/\y.2.1<=2000000000):=by
 refine dL ?I ?m ?h _ ?hv ?hn
 case I=>exact(λv=>0<=v.1/\0<=v.2.1/\v.1+v.2.1<=1000001000)
 case m=>exact(λv=>v.1.toNat)
 case hv=>exact⟨h0,hb.1,by(try dsimp only);omega⟩
 case hn=>exact(by(try dsimp only);omega)
 rintro⟨x0,x1,u⟩ hI;dsimp only at hI;unfold F192_l0;dsimp only;with_reducible repeat' (first|apply dP|apply dX<;>intro _)
 . rw[tdiv_eq_ediv_of_nonneg (by omega),w64s (n:=x0/35) (by omega),w64s (n:=x1+36) (by omega)]
   exact⟨⟨by(try dsimp only);omega,by(try dsimp only);omega,by(try dsimp only);omega⟩,by(try dsimp only);omega⟩
 . exact⟨by(try dsimp only);omega,by(try dsimp only);omega,by(try dsimp only);omega,by(try dsimp only);omega⟩
theorem b252_0(a c:Int)(h0:0<=a)(h1:a<=400000000):Df (C192_c0 (a,c,())) (λy=>0<=y.1/\y.1<=10000000000):=by
 show Df (F192_c0 C192_l0 _) _;unfold F192_c0;dsimp only;have hm:1<=(if c>1 then c else 1):=by split<;>omega
 generalize (if c>1 then c else 1)=m at hm;have q0:0<=a/m:=Int.ediv_nonneg h0 (by omega);have q1:a/m<=a:=Int.ediv_le_self _ h0;rw[tdiv_eq_ediv_of_nonneg h0,w64s (n:=a/m) (by omega),w64s (n:=a+a/m) (by omega)];with_reducible repeat' (first|apply dP|apply dX<;>intro _)
 . refine dZ (b252_l _ _ (by omega) (by omega) (by omega)) ?_
   rintro⟨x,y,u⟩ h;dsimp only at h ⊢;rw[w64s (n:=x+38) (by omega),w64s (n:=36*x) (by omega),tdiv_eq_ediv_of_nonneg (show 0<=36*x by omega)];have r0:0<=36*x/(x+38):=Int.ediv_nonneg (by omega) (by omega);have r1:36*x/(x+38)<=36*x:=Int.ediv_le_self _ (by omega);rw[w64s (n:=36*x/(x+38)) (by omega),w64s (n:=y+36*x/(x+38)) (by omega)];with_reducible repeat' (first|apply dP|apply dX<;>intro _)
   . exact⟨by(try dsimp only);omega,by(try dsimp only);omega⟩
   . refine dO ?_;omega
 . refine dO ?_;omega
theorem b252(a c:Int)(f:Bool)(h0:0<=a)(h1:a<=400000000):Df (C192 (a,c,f,())) (λy=>0<=y.1/\y.1<=10000000000):=by
 show Df (F192 C192_c0 _) _;unfold F192;dsimp only;rw[tdiv_eq_ediv_of_nonneg h0,tdiv_eq_ediv_of_nonneg h0,w64s (n:=a/700) (by omega),w64s (n:=a/2) (by omega)];with_reducible repeat' (first|apply dP|apply dX<;>intro _)
 . exact dZ (b252_0 _ _ (by omega) (by omega)) λ_ h=>dP h
 . exact dZ (b252_0 _ _ (by omega) (by omega)) λ_ h=>dP h
abbrev Dst:=List UInt8×Int×Int×Int×Bool×List Int×Unit
def Fd:Dst->Option (Dst⊕((List Int×Unit)⊕(Bool×Unit))):=F160_l0 C12 C192 C210 C211 C212 C98
def Rch(j:Nat)(v w:Dst):Prop:=∀m,loopN Fd (m+j) v=loopN Fd m w
theorem Rch.next{j:Nat}{v w u:Dst}(h:Rch j v w)(h1:Fd w=some (.inl u)):Rch (j+1) v u:=λm=>by
 rw[show m+(j+1)=(m+1)+j by omega,h (m+1),loopN_inl h1]
theorem dstep(nd id b d Q i b':Int)(fst:Bool)(od:List Int)(rest:List UInt8)(h1:0<=id/\id<=1000)(h2:0<=d/\d<=67000000)(h3:od.length<=1000)(h4:id+d=Q*((od.length:Int)+1)+i)(h5:0<=i/\i<=od.length)(h6:0<=Q)(h7:0<=nd/\nd+Q<=1114111)(h8:C98 (nd+Q,())=some (true,()))(h9:C192 (d,(od.length:Int)+1,fst,())=some (b',()))(hb:0<=b/\b<=10000000000)(hr:rest.length<=900000) :
 Fd (wrt 10 d 36 b++rest,nd,id,b,fst,od,())=some (.inl (rest,nd+Q,i+1,b',false,od.take i.toNat++[nd+Q]++od.drop i.toNat,())):=by
 have h271:=c271 d b rest h2.1 h2.2 (by omega) hr;have hne:(wrt 10 d 36 b++rest==[])=false:=by
  have:=wr_len 9 d 36 b;cases hw:wrt 10 d 36 b with
  | nil=>rw[hw]at this;simp at this
  | cons c r=>rfl
 have w1:=w64s (n:=(od.length:Int)+1) (by omega);have w2:=w64s (n:=id+d) (by omega);have hc:0<(od.length:Int)+1:=by omega
 have eq:(id+d).tdiv ((od.length:Int)+1)=Q:=by
  rw[tdiv_eq_ediv_of_nonneg (by omega),h4,Int.add_comm,Int.add_mul_ediv_right _ _ (by omega),Int.ediv_eq_zero_of_lt h5.1 (by omega),Int.zero_add]
 have em:(id+d).tmod ((od.length:Int)+1)=i:=by
  rw[Int.tmod_eq_emod_of_nonneg (by omega),h4,Int.add_comm,Int.add_mul_emod_self_right,Int.emod_eq_of_lt h5.1 (by omega)]
 have w3:=w64s (n:=Q) (by omega);have w4:=w64s (n:=nd+Q) (by omega);have w5:=w32s (n:=nd+Q) (by omega);have w6:=w64s (n:=i+1) (by omega);have h272:C212 (i,od,[nd+Q],())=some (od.take i.toNat++[nd+Q]++od.drop i.toNat,()):=by
  unfold C212;dsimp only;rw[decide_eq_true h5.1,decide_eq_true h5.2,decide_eq_true (show [nd+Q].length=1 from rfl),decide_eq_true (show od.length<=1000000000000 by omega)];rfl
 unfold Fd;simp only[F160_l0,hne,Bool.not_false,cond_true,h271,Option.bind_some,w1,w2,h9,eq,em,w3,w4,w5,w6,h8,Bool.not_true,cond_false,inT (show (od.length:Int)+1≠0 by omega),h272];rw[decide_eq_false (show ¬d<0 by omega),decide_eq_false (show ¬id+d>2147483647 by omega),decide_eq_false (show ¬nd+Q>1114111 by omega)];rfl
def lo(n:Int)(l:List Int):List Int:=l.filter λr=>decide (r<=n)
def lt'(n:Int)(l:List Int):List Int:=l.filter λr=>decide (r<n)
def hd'(l:List Int)(n:Int)(p:Nat):List Int:=lo n (l.take p)++lt' n (l.drop p)
theorem lo_lt(n:Int):∀l:List Int,lo n l=lt' (n+1) l:=λl=>by
 unfold lo lt';congr 1;funext r;exact decide_eq_decide.2 (by omega)
theorem lt_same{n m:Int}(h:n<=m){l:List Int}(hl:∀r∈l,n<=r->m<=r):lt' m l=lt' n l:=by
 unfold lt';refine List.filter_congr λr hr=>decide_eq_decide.2 ⟨λh1 => ?_,λh1=>by omega⟩;by_cases h2:n<=r
 . have:=hl r hr h2;omega
 . omega
theorem hd0(l:List Int)(n:Int):hd' l n 0=lt' n l:=by simp[hd',lo]
theorem hd_len(l:List Int)(n:Int):hd' l n l.length=lo n l:=by simp[hd',lt']
theorem take_s{l:List Int}{p:Nat}(h:p<l.length):l.take (p+1)=l.take p++[l[p]]:=take_succ_get h
theorem drop_s{l:List Int}{p:Nat}(h:p<l.length):l.drop p=l[p]::l.drop (p+1):=by rw[List.drop_eq_getElem_cons h]
theorem hd_lt{l:List Int}{n:Int}{p:Nat}(h:p<l.length)(hr:l[p]<n):hd' l n (p+1)=hd' l n p/\(lo n (l.take (p+1))).length=(lo n (l.take p)).length+1:=by
 have h1:lo n [l[p]]=[l[p]]:=by simp[lo];omega
 have h2:lo n (l.take (p+1))=lo n (l.take p)++[l[p]]:=by rw[take_s h];unfold lo at *;rw[filter_append,h1]
 have h3:lt' n (l.drop p)=l[p]::lt' n (l.drop (p+1)):=by rw[drop_s h];unfold lt';rw[filter_cons,if_pos (by simpa using hr)]
 refine⟨?_,by rw[h2];simp⟩;unfold hd';rw[h2,h3];simp
theorem hd_gt{l:List Int}{n:Int}{p:Nat}(h:p<l.length)(hr:n<l[p]):hd' l n (p+1)=hd' l n p/\(lo n (l.take (p+1))).length=(lo n (l.take p)).length:=by
 have h1:lo n [l[p]]=[]:=by simp[lo];omega
 have h2:lo n (l.take (p+1))=lo n (l.take p):=by rw[take_s h];unfold lo at *;rw[filter_append,h1,append_nil]
 have h3:lt' n (l.drop p)=lt' n (l.drop (p+1)):=by rw[drop_s h];unfold lt';rw[filter_cons,if_neg (by simp;omega)]
 refine⟨?_,by rw[h2]⟩;unfold hd';rw[h2,h3]
theorem hd_eq{l:List Int}{n:Int}{p:Nat}(h:p<l.length)(hr:l[p]=n):hd' l n (p+1)=lo n (l.take p)++[n]++lt' n (l.drop p)/\(lo n (l.take (p+1))).length=(lo n (l.take p)).length+1:=by
 have h1:lo n [l[p]]=[n]:=by simp[lo,hr]
 have h2:lo n (l.take (p+1))=lo n (l.take p)++[n]:=by rw[take_s h];unfold lo at *;rw[filter_append,h1]
 have h3:lt' n (l.drop p)=lt' n (l.drop (p+1)):=by rw[drop_s h];unfold lt';rw[filter_cons,if_neg (by simp;omega)]
 refine⟨?_,by rw[h2];simp⟩;unfold hd';rw[h2,h3]
theorem hd_le(l:List Int)(n:Int)(p:Nat):(hd' l n p).length<=l.length:=by
 have h1:=length_filter_le (λr:Int=>decide (r<=n)) (l.take p);have h2:=length_filter_le (λr:Int=>decide (r<n)) (l.drop p);unfold hd' lo lt';simp only[length_append,length_take,length_drop]at *
 omega
def St(l:List Int)(P:Nat)(pl:List Int)(pre:List UInt8)(n:Int)(p:Nat)(delta bias h:Int)(o:List UInt8):Prop :=
 ∃(e:List UInt8) (nd id:Int) (j:Nat),o=pre++e/\((hd' l n p).length:Int)=h/\(j:Int)+P=h/\(0<=id/\id<=h)/\(128<=nd/\nd<=n)/\0<=delta/\delta=(n-nd)*(h+1)+((lo n (l.take p)).length:Int)-id /\
  (∀rest:List UInt8,e.length+rest.length<=800000->Rch j (e++rest,128,0,72,true,pl,()) (rest,nd,id,bias,h==(P:Int),hd' l n p,()))/\(0<=bias/\bias<=10000000000)/\(e.length<=10*j/\j<=e.length)/\∀c∈e,(97<=c.toNat/\c.toNat<=122)\/(48<=c.toNat/\c.toNat<=57)
theorem wrt_le:∀(f:Nat) (n k b:Int),(wrt f n k b).length<=f:=by
 intro f
 induction f with
 | zero=>intro n k b;exact le_refl _
 | succ f ih =>
  intro n k b;unfold wrt;split
  . simp
  . have:=ih ((n-th k b)/(36-th k b)) (k+36) b
    simp only[length_cons];omega
theorem mul_le{a b c:Int}(ha:0<=a/\a<=b)(hc:0<=c/\c<=60):0<=a*c/\a*c<=b*60:=⟨mul_nonneg ha.1 hc.1,Int.le_trans (Int.mul_le_mul_of_nonneg_right ha.2 hc.1) (Int.mul_le_mul_of_nonneg_left hc.2 (by omega))⟩
theorem st_delta{l:List Int}{P:Nat}{pl:List Int}{pre:List UInt8}{n:Int}{p:Nat}{delta bias h:Int}{o:List UInt8}(hs:St l P pl pre n p delta bias h o)(hn:n<=1114112)(hl:l.length<=59):0<=delta/\delta<=66900000/\0<=h/\h<=59/\(P:Int)<=h/\o.length<=pre.length+600/\128<=n:=by
 obtain⟨e,nd,id,j,rfl,hh,hj,hi,hnd,hd0',hd,-,-,he,-⟩:=hs;have h1:=hd_le l n p;have h2:=length_filter_le (λr:Int=>decide (r<=n)) (l.take p);have h3:(lo n (l.take p)).length<=59:=by unfold lo;simp only[length_take]at h2;omega
 have h4:=mul_le (a:=n-nd) (b:=1113984) (c:=h+1) (by omega) (by omega);simp only[length_append];omega
theorem pl223_1(l:List Int)(P:Nat)(pl:List Int)(pre:List UInt8)(n delta bias h:Int)(o:List UInt8)(hl:l.length<=59)(hpre:pre.length<=1000)(hR:∀r∈l,C98 (r,())=some (true,())/\0<=r/\r<=1114111)(hn:n<=1114111)(hs:St l P pl pre n 0 delta bias h o) :
 Pf (C157_l1 (l,(P:Int),n,delta,bias,h,l,(l.length:Int),0,o,())) (λy=>∃delta' bias' h' o',y=(l,(P:Int),n,delta',bias',h',o',())/\St l P pl pre n l.length delta' bias' h' o'):=by
 refine pL ?I ?h _ ?hv
 case I=>exact(λv=>∃(p:Nat) (delta bias h:Int) (o:List UInt8),p<=l.length/\v=(l,(P:Int),n,delta,bias,h,l,(l.length:Int),(p:Int),o,())/\St l P pl pre n p delta bias h o)
 case hv=>exact⟨0,delta,bias,h,o,zero_le _,rfl,hs⟩
 rintro _ ⟨p,delta,bias,h,o,hp,rfl,hs⟩;obtain⟨b1,b2,b3,b4,b5,b6,b7⟩:=st_delta hs (by omega) hl;unfold F157_l1;dsimp only;simp only[toNat_natCast];refine pX (λhlt => ?_) (λhge => ?_)
 . have hlt':p<l.length:=by omega
   refine pX (λ_ => ?_) (λ_=>pN);have hg:l.getD p 0=l[p]:=getD_lt hlt';simp only[hg,wrN p (show p<=9223372036854775806 by omega)];obtain⟨r1,r2,r3⟩:=hR _ (getElem_mem hlt');refine pX (λhr => ?_) (λhr => ?_)
   . obtain⟨k1,k2⟩:=hd_lt hlt' hr
     obtain⟨e,nd,id,j,ho,hh,hj,hi,hnd,hd0',hd,hr,hb,he,hc⟩:=hs;refine pP ⟨p+1,_,bias,h,o,by omega,rfl,e,nd,id,j,ho,by rw[k1];exact hh,hj,hi,hnd,?_,?_,by rw[k1];exact hr,hb,he,hc⟩
     . rw[w64s (by omega)];omega
     . rw[w64s (by omega),hd,k2];omega
   refine pX (λhr => ?_) (λhr' => ?_)
   . have hr':l[p]=n:=by simpa using hr
     obtain⟨k1,k2⟩:=hd_eq hlt' hr';obtain⟨e,nd,id,j,rfl,hh,hj,hi,hnd,hd0',hd,hrc,hb,he,hc⟩:=hs;have hA:(lo n (l.take p)).length<=(hd' l n p).length:=by unfold hd';simp
     have hd2:id+delta=(n-nd)*(h+1)+((lo n (l.take p)).length:Int):=by omega
     have hmn:0<=(n-nd)*(h+1):=mul_nonneg (by omega) (by omega);have h251:=c251 delta bias (pre++e) (by omega) (by omega) (by omega) (by omega);have w1:=w64s (n:=h+1) (by omega);obtain⟨⟨b',u'⟩,h252,hb'⟩:=b252 delta (h+1) (h==(P:Int)) (by omega) (by omega);rw[h251];simp only[Option.bind_some,w1,h252];refine pP ⟨p+1,0,b',h+1,_,by omega,rfl,e++wrt 10 delta 36 bias,n,((lo n (l.take p)).length:Int)+1,j+1,by simp,?_,by omega,by omega,by omega,Int.le_refl _,?_,?_,hb',?_,?_⟩
     . rw[k1]
       have:(hd' l n p).length=(lo n (l.take p)).length+(lt' n (l.drop p)).length:=by unfold hd';simp
       simp only[vl];omega
     . rw[k2];omega
     . intro rest hrest
       have hw:=wrt_le 10 delta 36 bias;simp only[length_append]at hrest;have h1:=hrc (wrt 10 delta 36 bias++rest) (by simp only[length_append];omega);have h2:=dstep nd id bias delta (n-nd) ((lo n (l.take p)).length:Int) b' (h==(P:Int)) (hd' l n p) rest (by omega) (by omega) (by omega) (by rw[hh];exact hd2) (by omega) (by omega) (by omega) (by rw[show nd+(n-nd)=n by omega,<-hr'];exact r1) (by rw[hh];exact h252) hb (by omega);rw[show nd+(n-nd)=n by omega,toNat_natCast]at h2;have h3:=h1.next h2;rw[show e++wrt 10 delta 36 bias++rest=e++(wrt 10 delta 36 bias++rest) by simp,k1,show (h+1==(P:Int))=false from ibF (by omega)];have e1:(hd' l n p).take (lo n (l.take p)).length=lo n (l.take p):=by unfold hd';exact List.take_left
       have e2:(hd' l n p).drop (lo n (l.take p)).length=lt' n (l.drop p):=by unfold hd';exact List.drop_left
       rw[e1,e2]at h3;exact h3
     . have hw:=wrt_le 10 delta 36 bias
       have hw':1<=(wrt 10 delta 36 bias).length:=wr_len 9 delta 36 bias;simp only[length_append];omega
     . intro c hc'
       rcases mem_append.1 hc' with hc'|hc'
       . exact hc c hc'
       . exact wr_bytes 10 delta 36 bias (by omega) c hc'
   . have hr'':l[p]≠n:=by simpa using hr'
     obtain⟨k1,k2⟩:=hd_gt hlt' (show n<l[p] by omega);obtain⟨e,nd,id,j,ho,hh,hj,hi,hnd,hd0',hd,hr,hb,he,hc⟩:=hs;exact pP ⟨p+1,delta,bias,h,o,by omega,rfl,e,nd,id,j,ho,by rw[k1];exact hh,hj,hi,hnd,hd0',by rw[hd,k2],by rw[k1];exact hr,hb,he,hc⟩
 . have:p=l.length:=by omega
   subst this;exact pP ⟨delta,bias,h,o,rfl,hs⟩
theorem lt_full{n:Int}:∀{l:List Int},l.length<=(lt' n l).length->lt' n l=l
 | [],_=>rfl
 | x::l,h=>by
  have hle:=length_filter_le (λr:Int=>decide (r<n)) l;unfold lt' at h ⊢;rw[filter_cons]at h ⊢;by_cases hx:x<n
  . rw[if_pos (by simpa using hx)]at h ⊢
    have:=lt_full (n:=n) (l:=l) (by unfold lt';simp only[length_cons]at h;omega);unfold lt' at this;rw[this]
  . rw[if_neg (by simpa using hx)]at h
    simp only[length_cons]at h;omega
theorem pl223_2(l:List Int)(P:Nat)(pl:List Int)(pre:List UInt8)(hl:l.length<=59)(hpre:pre.length<=1000)(hR:∀r∈l,C98 (r,())=some (true,())/\0<=r/\r<=1114111)(h0:St l P pl pre 128 0 0 72 (P:Int) pre) :
 Pf (C157_l2 (l,(P:Int),128,0,72,(P:Int),pre,())) (Sum.elim (λy=>∃(e:List UInt8) (nd id bias:Int) (b:Bool) (j:Nat),y.1=pre++e/\(j:Int)+P=l.length/\Rch j (e,128,0,72,true,pl,()) ([],nd,id,bias,b,l,())/\(e.length<=10*j/\j<=e.length)/\∀c∈e,(97<=c.toNat/\c.toNat<=122)\/(48<=c.toNat/\c.toNat<=57)) (λy=>y.2.1=false)):=by
 refine pL ?I ?h _ ?hv
 case I=>exact(λv=>∃(n delta bias h:Int) (o:List UInt8),n<=1114112/\v=(l,(P:Int),n,delta,bias,h,o,())/\St l P pl pre n 0 delta bias h o)
 case hv=>exact⟨128,0,72,P,pre,by omega,rfl,h0⟩
 rintro _ ⟨n,delta,bias,h,o,hn,rfl,hs⟩;obtain⟨b1,b2,b3,b4,b5,b6,b7⟩:=st_delta hs (by omega) hl;unfold F157_l2;dsimp only;refine pX (λhlt => ?_) (λhge => ?_)
 . refine pZ (d250 l n (by omega) (by omega)).pf ?_
   rintro⟨m,u⟩ hm;dsimp only at hm ⊢;rcases hm with⟨hm0,hall⟩|⟨hmem,hnm,hmin⟩
   . exfalso
     obtain⟨e,nd,id,j,ho,hh,-⟩:=hs;rw[hd0]at hh;have:lt' n l=l:=by
      unfold lt';exact List.filter_eq_self.2 λr hr=>by simpa using hall r hr
     rw[this]at hh;omega
   . obtain⟨-,m0,m1⟩:=hR m hmem
     have hmul:=mul_le (a:=m-n) (b:=1114111) (c:=h+1) (by omega) (by omega);have w1:=w32s (n:=m-n) (by omega);have w2:=w64s (n:=m-n) (by omega);have w3:=w64s (n:=h+1) (by omega);have w4:=w64s (n:=(m-n)*(h+1)) (by omega);have w5:=w64s (n:=delta+(m-n)*(h+1)) (by omega);simp only[w1,w2,w3,w4,w5];refine pX (λ_=>pP rfl) (λ_ => ?_);have hsm:St l P pl pre m 0 (delta+(m-n)*(h+1)) bias h o:=by
      obtain⟨e,nd,id,j,ho,hh,hj,hi,hnd,hd0',hd,hrc,hb,he,hc⟩:=hs;have e1:hd' l m 0=hd' l n 0:=by rw[hd0,hd0];exact lt_same hnm hmin
      have e2:(m-nd)*(h+1)=(n-nd)*(h+1)+(m-n)*(h+1):=by rw[<-Int.add_mul];congr 1;omega
      refine⟨e,nd,id,j,ho,by rw[e1];exact hh,hj,hi,by omega,by omega,?_,by rw[e1];exact hrc,hb,he,hc⟩;rw[e2,hd];simp only[take_zero];have:lo m []=lo n []:=rfl;rw[this];omega
     refine pZ (pl223_1 l P pl pre m _ bias h o hl hpre hR m1 hsm) ?_;rintro _ ⟨delta',bias',h',o',rfl,hs'⟩;obtain⟨c1,c2,c3,c4,c5,c6,c7⟩:=st_delta hs' (by omega) hl;dsimp only;rw[w32s (n:=m+1) (by omega),w64s (n:=delta'+1) (by omega)];refine pP ⟨m+1,delta'+1,bias',h',o',by omega,rfl,?_⟩;obtain⟨e,nd,id,j,ho,hh,hj,hi,hnd,hd0',hd,hrc,hb,he,hc⟩:=hs';have e1:hd' l (m+1) 0=hd' l m l.length:=by rw[hd0,hd_len,lo_lt]
     have e2:((lo m (l.take l.length)).length:Int)=h':=by rw[<-hh,hd_len,List.take_length]
     have e3:(m+1-nd)*(h'+1)=(m-nd)*(h'+1)+(h'+1):=by
      rw[show m+1-nd=(m-nd)+1 by omega,Int.add_mul,Int.one_mul]
     refine⟨e,nd,id,j,ho,by rw[e1];exact hh,hj,hi,by omega,by omega,?_,by rw[e1];exact hrc,hb,he,hc⟩;rw[e3,hd,e2];simp only[take_zero];have:(lo (m+1) []).length=0:=rfl;rw[this];omega
 . obtain⟨e,nd,id,j,ho,hh,hj,hi,hnd,hd0',hd,hrc,hb,he,hc⟩:=hs
   have hle:=hd_le l n 0;have e1:hd' l n 0=l:=by
    rw[hd0]at hh ⊢;exact lt_full (by omega)
   rw[e1]at hrc hh;have:=hrc [] (by simp only[length_nil];omega);rw[append_nil]at this;exact pP ⟨e,nd,id,bias,_,j,ho,by omega,this,he,hc⟩
def pb(l:List Int):List UInt8:=l.map λr=>UInt8.ofNat (IntKind.u8.wrap r).toNat
theorem pl223_0(l:List Int)(hl:l.length<=1000000000000):Pf (C157_l0 (l,l,(l.length:Int),0,[],())) (Sum.elim (λy=>y=(l,pb (lt' 128 l),())/\∀r∈l,C98 (r,())=some (true,())) (λy=>y.2.1=false)):=by
 refine pL ?I ?h _ ?hv
 case I=>exact(λv=>∃p:Nat,p<=l.length/\v=(l,l,(l.length:Int),(p:Int),pb (lt' 128 (l.take p)),())/\∀r∈l.take p,C98 (r,())=some (true,()))
 case hv=>exact⟨0,zero_le _,rfl,λr h=>by simp at h⟩
 rintro _ ⟨p,hp,rfl,hall⟩;unfold F157_l0;dsimp only;simp only[toNat_natCast];refine pX (λhlt => ?_) (λhge => ?_)
 . have hlt':p<l.length:=by omega
   have hg:l.getD p 0=l[p]:=getD_lt hlt';refine pX (λ_ => ?_) (λ_=>pN);simp only[hg,wrN p (show p<=9223372036854775806 by omega)];refine pZ (P:=λy=>C98 (l[p],())=some (y.1,())) (λy e=>by rw[e]) ?_;rintro⟨b,u⟩ hb;dsimp only at hb ⊢;cases b with
   | false=>exact pP rfl
   | true =>
    simp only[Bool.not_true,cond_false];have hall':∀r∈l.take (p+1),C98 (r,())=some (true,()):=by
     intro r hr;rw[take_s hlt']at hr;rcases mem_append.1 hr with hr|hr
     . exact hall r hr
     . rw[mem_singleton.1 hr];exact hb
    refine pX (λh => ?_) (λh => ?_)
    . refine pX (λ_ => ?_) (λ_=>pN)
      refine pP ⟨p+1,by omega,?_,hall'⟩;have:lt' 128 (l.take (p+1))=lt' 128 (l.take p)++[l[p]]:=by
       rw[take_s hlt'];unfold lt';rw[filter_append,filter_cons,if_pos (by simpa using h)];rfl
      rw[this];simp[pb]
    . refine pP ⟨p+1,by omega,?_,hall'⟩
      have:lt' 128 (l.take (p+1))=lt' 128 (l.take p):=by
       rw[take_s hlt'];unfold lt';rw[filter_append,filter_cons,if_neg (by simpa using h)];simp
      rw[this]
 . have:p=l.length:=by omega
   subst this;rw[List.take_length]at hall ⊢;exact pP ⟨rfl,hall⟩
theorem p155(r:Int)(h:C98 (r,())=some (true,())):0<=r/\r<=1114111:=by
 have:Pf (C98 (r,())) (λy=>y.1=true->0<=r/\r<=1114111):=by
  unfold C98 F98;dsimp only;with_reducible repeat' (first|exact pN|apply pP|apply pX<;>intro _)
  . exact λ_=>⟨by omega,by omega⟩
  . exact λ_=>⟨by omega,by omega⟩
  . intro h;cases h
  . intro h;cases h
 exact this _ h rfl
theorem p223(l:List Int)(hl:l.length<=59):Pf (C157 (l,())) (λy=>y.2.1=true->(∀r∈l,C98 (r,())=some (true,()))/\∃(e:List UInt8) (nd id bias:Int) (b:Bool) (j:Nat),y.1=(pb (lt' 128 l)++if lt' 128 l=[]then []else [45])++e/\(j:Int)+(lt' 128 l).length=l.length/\Rch j (e,128,0,72,true,lt' 128 l,()) ([],nd,id,bias,b,l,())/\(e.length<=10*j/\j<=e.length)/\∀c∈e,(97<=c.toNat/\c.toNat<=122)\/(48<=c.toNat/\c.toNat<=57)):=by
 unfold C157 F157;dsimp only;refine pZ (pl223_0 l (by omega)) ?_;intro z hz;refine pS hz ?_ (λy h=>pP λh'=>by rw[h]at h';cases h');rintro _ ⟨rfl,hR⟩;have hR':∀r∈l,C98 (r,())=some (true,())/\0<=r/\r<=1114111:=λr hr=>⟨hR r hr,p155 r (hR r hr)⟩
 have hle:=length_filter_le (λr:Int=>decide (r<128)) l;have hlen:(pb (lt' 128 l)).length=(lt' 128 l).length:=by simp[pb]
 have hle':(lt' 128 l).length<=59:=by unfold lt';omega
 have key:∀pre:List UInt8,pre.length<=1000->Pf (C157_c0 (l,((pb (lt' 128 l)).length:Int),pre,())) (λy=>y.2.1=true->∃(e:List UInt8) (nd id bias:Int) (b:Bool) (j:Nat),y.1=pre++e/\(j:Int)+(lt' 128 l).length=l.length/\Rch j (e,128,0,72,true,lt' 128 l,()) ([],nd,id,bias,b,l,())/\(e.length<=10*j/\j<=e.length)/\∀c∈e,(97<=c.toNat/\c.toNat<=122)\/(48<=c.toNat/\c.toNat<=57)):=by
  intro pre hpre;unfold C157_c0 F157_c0;dsimp only;rw[hlen];have h0:St l (lt' 128 l).length (lt' 128 l) pre 128 0 0 72 ((lt' 128 l).length:Int) pre:=by
   refine⟨[],128,0,0,by simp,by rw[hd0],by omega,by omega,by omega,by omega,?_,?_,by omega,by simp,λc hc=>by cases hc⟩
   . rw[show (128:Int)-128=0 from rfl,Int.zero_mul]
     rfl
   . intro rest _ m
     rw[hd0,ibT rfl];rfl
  refine pZ (pl223_2 l _ (lt' 128 l) pre hl hpre hR' h0) ?_;intro z hz;refine pS hz ?_ (λy h=>pP λh'=>by rw[h]at h';cases h');intro y h;exact pP λ_=>h
 dsimp only;refine pX (λhpos => ?_) (λhpos => ?_)
 . refine pX (λ_ => ?_) (λ_=>pN)
   refine pZ (key _ (by simp only[vl];omega)) ?_;intro y hy;refine pP λh=>⟨hR,?_⟩
   have hne:lt' 128 l≠[]:=λe=>by rw[e]at hpos;simp[pb]at hpos
   rw[if_neg hne];exact hy h
 . refine pZ (key _ (by omega)) ?_
   intro y hy;refine pP λh=>⟨hR,?_⟩
   have he:lt' 128 l=[]:=by
    rw[hlen]at hpos;exact List.length_eq_zero_iff.1 (by omega)
   rw[if_pos he,append_nil];exact hy h
theorem c293(s:List UInt8)(k:UInt8):∀(i:Nat) (n:Nat),i<=s.length->i<n->s.length<=1000000->(∀q,i<=q->∀h:q<s.length,s[q]≠k)->∃y,loopN F236_l0 n (s,(k.toNat:Int),(i:Int)-1,())=some y/\((∃p:Nat,p<i/\y = .inr ((p:Int),())/\s[p]? = some k/\∀q,p<q->∀h:q<s.length,s[q]≠k)\/(y = .inl ()/\∀q,∀h:q<s.length,s[q]≠k))
 | 0,n+1,hi,hn,hs,hno=>by
  refine⟨.inl (),loopN_inr ?_,.inr ⟨rfl,λq h=>hno q (zero_le _) h⟩⟩;rfl
 | i+1,n+1,hi,hn,hs,hno=>by
  have hg:s.getD i 0=s[i]:=getD_lt (by omega);have e1:(((i+1:Nat):Int)-1)=(i:Int):=by omega
  rw[e1];by_cases hk:s[i]=k
  . refine⟨.inr ((i:Int),()),loopN_inr ?_,.inl ⟨i,by omega,rfl,by rw[List.getElem?_eq_getElem (by omega),hk],λq hq h=>hno q (by omega) h⟩⟩
    simp only[F236_l0,toNat_natCast,hg,hk];rw[decide_eq_true (by omega),decide_eq_true (by omega),ibT rfl];rfl
  . obtain⟨y,h1,h2⟩:=c293 s k i n (by omega) (by omega) hs (λq hq h=>by
     by_cases hqi:q=i
     . subst hqi;exact hk
     . exact hno q (by omega) h)
    refine⟨y,?_,?_⟩
    . rw[loopN_inl (v':=(s,(k.toNat:Int),(i:Int)-1,())) ?_]
      . exact h1
      . simp only[F236_l0,toNat_natCast,hg]
        have hne:((s[i].toNat:Int))≠(k.toNat:Int):=λe=>hk (UInt8.toNat_inj.1 (by omega));rw[decide_eq_true (by omega),decide_eq_true (by omega),ibF hne,w64s (by omega)];rfl
    . rcases h2 with⟨p,hp,h3⟩|h3
      . exact .inl ⟨p,by omega,h3⟩
      . exact .inr h3
theorem c270(s:List UInt8)(k:UInt8)(hs:s.length<=1000000):(∃p:Nat,C210 (s,(k.toNat:Int),())=some ((p:Int),())/\s[p]? = some k/\∀q,p<q->∀h:q<s.length,s[q]≠k)\/(C210 (s,(k.toNat:Int),())=some (-1,())/\∀q,∀h:q<s.length,s[q]≠k):=by
 obtain⟨y,h1,h2⟩:=c293 s k s.length big (le_refl _) (by unfold big;omega) hs (λq hq h=>by omega);have h1':C236_l0 (s,(k.toNat:Int),IntKind.i64.wrap ((s.length:Int)-1),())=some y:=by rw[w64s (by omega)];exact h1
 have h3:∀r,(Sum.elim (λ(_:Unit)=>some ((-1:Int),())) (λ(val:Int×Unit)=>some (val.1,())) y)=some r->C210 (s,(k.toNat:Int),())=some r:=by
  intro r hr;have:C236 (s,(k.toNat:Int),())=some r:=by
   show F236 C236_l0 _=_;simp only[F236,h1',Option.bind_some];exact hr
  show F210 C236 _=_;simp only[F210,this,Option.bind_some]
 rcases h2 with⟨p,hp,rfl,h4,h5⟩|⟨rfl,h4⟩
 . exact .inl ⟨p,h3 _ rfl,h4,h5⟩
 . exact .inr ⟨h3 _ rfl,h4⟩
theorem c21y(s:List UInt8)(hs:s.length<=1000000)(ha:∀c∈s,c.toNat<128):C12 (s,())=some (-1,()):=by
 suffices h:Df (C12 (s,())) (λy=>y=(-1,())) by
  obtain⟨y,e,rfl⟩:=h;exact e
 unfold C12 F12;dsimp only;refine dZ (P:=λz=>z = .inl ()) ?_ ?_
 . refine dL ?I ?m ?h _ ?hv ?hn
   case I=>exact(λv=>v.1=s/\v.2.1=s.length/\0<=v.2.2.1)
   case m=>exact(λv=>(s.length-v.2.2.1).toNat)
   case hv=>exact⟨rfl,rfl,Int.le_refl _⟩
   case hn=>exact(by(try dsimp only);omega)
   rintro⟨s',n,k,u⟩ ⟨h1,h2,h3⟩;dsimp only at h1 h2 h3;subst h1;subst h2;unfold F12_l0;dsimp only;with_reducible repeat' (first|apply dP|apply dX<;>intro _)
   . rename_i hc
     have hg:(s'.getD k.toNat 0)∈s':=by rw[getD_lt (by omega)];exact getElem_mem _
     have:=ha _ hg;omega
   . rw[w64s (by omega)]
     exact⟨⟨rfl,rfl,by(try dsimp only);omega⟩,by(try dsimp only);omega⟩
   . refine dO ?_;omega
   . rfl
 . rintro z rfl
   exact dP rfl
theorem pb_back:∀{l:List Int},(∀r∈l,0<=r/\r<128)->(pb l).map (λb=>(b.toNat:Int))=l/\∀c∈pb l,c.toNat<128
 | [],_=>⟨rfl,λc hc=>by cases hc⟩
 | r::l,h=>by
  obtain⟨h1,h2⟩:=pb_back (l:=l) λx hx=>h x (by simp[hx]);obtain⟨a1,a2⟩:=h r (by simp);have e:(UInt8.ofNat (IntKind.u8.wrap r).toNat).toNat=r.toNat:=by
   have:IntKind.u8.wrap r=r:=by
    simp[IntKind.wrap,IntKind.bits,IntKind.signed];omega
   rw[this,UInt8.toNat_ofNat'];exact Nat.mod_eq_of_lt (by omega)
  refine⟨?_,?_⟩
  . show ((UInt8.ofNat (IntKind.u8.wrap r).toNat).toNat:Int)::(pb l).map _=_
    rw[h1,e];congr 1;omega
  . intro c hc
    rcases List.mem_cons.1 hc with rfl|hc
    . rw[e];omega
    . exact h2 c hc
theorem puny(l:List Int)(hl:l.length<=59)(s:List UInt8)(h:C157 (l,())=some (s,true,())):C160 (s,())=some (l,true,())/\l.length<=s.length/\(∀r∈l,C98 (r,())=some (true,()))/\(∀c∈s,c.toNat<128)/\s.length<=700/\∀c∈s,c=45\/((97<=c.toNat/\c.toNat<=122)\/(48<=c.toNat/\c.toNat<=57))\/((c.toNat:Int)∈l):=by
 obtain⟨hR,e,nd,id,bias,b,j,hs,hj,hrc,he,hc⟩:=p223 l hl _ h rfl;dsimp only at hs;have hlo:∀r∈lt' 128 l,0<=r/\r<128:=by
  intro r hr;have hm:=List.mem_filter.1 hr;exact⟨(p155 r (hR r hm.1)).1,by simpa using hm.2⟩
 have hlin:∀r∈lt' 128 l,r∈l:=λr hr=>(List.mem_filter.1 hr).1;obtain⟨g1,g2⟩:=pb_back hlo;have hlen:(pb (lt' 128 l)).length=(lt' 128 l).length:=by simp[pb]
 have hle:(lt' 128 l).length<=59:=by
  have:=length_filter_le (λr:Int=>decide (r<128)) l;unfold lt';omega
 have he128:∀c∈e,c.toNat<128:=λc hce=>by rcases hc c hce with h|h<;>omega
 have he45:∀c∈e,c≠45:=λc hce h45=>by
  have:=hc c hce;rw[h45]at this;rcases this with h|h
  . exact absurd h.1 (by decide)
  . exact absurd h.1 (by decide)
 generalize lt' 128 l=pl at *
 have hsa:∀c∈s,c.toNat<128:=by
  intro c hcs;rw[hs]at hcs;rcases mem_append.1 hcs with hcs|hcs
  . rcases mem_append.1 hcs with hcs|hcs
    . exact g2 c hcs
    . split at hcs
      . cases hcs
      . rw[mem_singleton.1 hcs];decide
  . exact he128 c hcs
 have hsl:s.length<=700:=by
  rw[hs];simp only[length_append];have:(if pl=[]then([]:List UInt8)else [45]).length<=1:=by split<;>simp
  omega
 have hbig:∃m,big=(m+1)+j:=⟨big-j-1,by unfold big;omega⟩
 obtain⟨m,hm⟩:=hbig;have hl0:C160_l0 (e,128,0,72,true,pl,())=some (.inl (l,())):=by
  show loopN Fd big _=_;rw[hm,hrc (m+1)];exact loopN_inr rfl
 have hc0:C160_c0 (e,pl,())=some (true,l,()):=by
  show F160_c0 C12 C192 C210 C211 C212 C98 C160_l0 _=_;simp only[F160_c0,hl0,Option.bind_some,elim_inl]
 refine⟨?_,?_,hR,hsa,hsl,?_⟩
 . have h21:=c21y s (by omega) hsa
   show F160 C12 C192 C210 C211 C212 C98 C160_c0 _=_;simp only[F160,h21,Option.bind_some];rw[decide_eq_false (by omega)];simp only[cond_false];by_cases hp:pl=[]
   . subst hp
     have hse:s=e:=by rw[hs];simp[pb]
     have h270:C210 (s,45,())=some (-1,()):=by
      rcases c270 s 45 (by omega)with⟨p,h1,h2,-⟩|⟨h1,-⟩
      . exfalso
        rw[hse]at h2;exact he45 45 (List.mem_of_getElem? h2) rfl
      . exact h1
     rw[h270];simp only[Option.bind_some];rw[decide_eq_false (by omega),hse];simp only[cond_false,hc0,Option.bind_some]
   . rw[if_neg hp]at hs
     have hpl:1<=pl.length:=List.length_pos_iff.2 hp;have h270:C210 (s,45,())=some (((pb pl).length:Int),()):=by
      have hat:s[(pb pl).length]? = some 45:=by rw[hs];simp
      have hno:∀q,(pb pl).length<q->∀h:q<s.length,s[q]≠45:=by
       intro q hq h;have:s[q]=e[q-((pb pl).length+1)]'(by rw[hs]at h;simp at h;omega):=by
        simp only[hs];rw[List.getElem_append_right (by simp;omega)];simp
       rw[this];exact he45 _ (getElem_mem _)
      rcases c270 s 45 (by omega)with⟨p,h1,h2,h3⟩|⟨h1,h3⟩
      . have:p=(pb pl).length:=by
         rcases Nat.lt_trichotomy p (pb pl).length with hlt|heq|hgt
         . exfalso
           obtain⟨hh,hv⟩:=List.getElem?_eq_some_iff.1 hat
           exact h3 _ hlt hh hv
         . exact heq
         . exfalso
           obtain⟨hh,hv⟩:=List.getElem?_eq_some_iff.1 h2;exact hno p hgt hh hv
        rw[this]at h1;exact h1
      . exfalso
        obtain⟨hh,hv⟩:=List.getElem?_eq_some_iff.1 hat
        exact h3 _ hh hv
     rw[h270];simp only[Option.bind_some,toNat_natCast];have ht:s.take (pb pl).length=pb pl:=by rw[hs,append_assoc];exact List.take_left
     have hd:s.drop ((pb pl).length+1)=e:=by
      rw[hs,show (pb pl).length+1=(pb pl++[45]).length by simp];exact List.drop_left
     have hsl2:s.length=(pb pl).length+1+e.length:=by rw[hs];simp;omega
     have hall:(pb pl).all (λb=>decide (b.toNat<128))=true:=all_eq_true.2 λc hcp=>by simpa using g2 c hcp
     have w1:=w64s (n:=((pb pl).length:Int)+1) (by omega);have t1:(((pb pl).length:Int)+1).toNat=(pb pl).length+1:=by omega
     simp only[w1,t1,ht,hall,hd,g1,hc0,Option.bind_some];rw[decide_eq_true (show ((pb pl).length:Int)>0 by omega),decide_eq_true (show (0:Int)<=((pb pl).length:Int) by omega),decide_eq_true (show ((pb pl).length:Int)<=(s.length:Int) by omega),decide_eq_true (show (pb pl).length<=70368744177664 by omega),decide_eq_true (show (0:Int)<=((pb pl).length:Int)+1 by omega),decide_eq_true (show ((pb pl).length:Int)+1<=(s.length:Int) by omega)];rfl
 . rw[hs]
   simp only[length_append];omega
 . intro c hcs
   rw[hs]at hcs;rcases mem_append.1 hcs with hcs|hcs
   . rcases mem_append.1 hcs with hcs|hcs
     . right;right
       refine hlin _ ?_;have:(c.toNat:Int)∈(pb pl).map (λb=>(b.toNat:Int)):=List.mem_map_of_mem hcs;rw[g1]at this;exact this
     . split at hcs
       . cases hcs
       . exact .inl (mem_singleton.1 hcs)
   . exact .inr (.inl (hc c hcs))
theorem all256(p:UInt8->Bool)(h:(List.range 256).all (λn=>p (UInt8.ofNat n))=true)(c:UInt8):p c=true:=by
 have h1:=all_eq_true.1 h c.toNat (mem_range.2 (by have:=c.toNat_lt;omega))
 simpa using h1
def gB(o:Option (Bool×Unit)):Bool:=match o with|some (b,_)=>b|none=>false
def okB(o:Option (Bool×Unit)):Bool:=match o with|some (_,_)=>true|none=>false
theorem okB_some{o:Option (Bool×Unit)}(h:okB o=true):o=some (gB o,()):=by
 cases o with
 | none=>cases h
 | some x=>rfl
def atomB(c:UInt8):Bool:=gB (C100 ((c.toNat:Int),()))
def blankB(c:UInt8):Bool:=gB (C133 ((c.toNat:Int),()))
def mayB(c:UInt8):Bool:=gB (C132 ((c.toNat:Int),()))
def signI(c:UInt8):Int:=match C102 ([60,62,58,59,64,44,46],(c.toNat:Int),())with|some (i,_)=>i|none=>0
def signB(c:UInt8):Bool:=decide (signI c>=0)
theorem c17(c:UInt8):C100 ((c.toNat:Int),())=some (atomB c,()):=okB_some (all256 (λc=>okB (C100 ((c.toNat:Int),()))) (by kernel_rfl) c)
theorem c32(c:UInt8):C133 ((c.toNat:Int),())=some (blankB c,()):=okB_some (all256 (λc=>okB (C133 ((c.toNat:Int),()))) (by kernel_rfl) c)
theorem c31(c:UInt8):C132 ((c.toNat:Int),())=some (mayB c,()):=okB_some (all256 (λc=>okB (C132 ((c.toNat:Int),()))) (by kernel_rfl) c)
theorem c22s(c:UInt8):C102 ([60,62,58,59,64,44,46],(c.toNat:Int),())=some (signI c,()):=rfl
theorem gd{α:Type}{pre r:List α}{c d:α}{p:Nat}(h:pre.length=p):(pre++c::r).getD p d=c:=by subst h;simp
theorem dr{α:Type}{pre r:List α}{p:Nat}(h:pre.length=p):List.drop p (pre++r)=r:=by subst h;simp
theorem Sk:(∀{p:Prop} [Decidable p],p->decide p=true)/\(∀{p:Prop} [Decidable p],¬p->decide p=false)/\(∀{α:Type} (a b:α),(bif true then a else b)=a)/\(∀{α:Type} (a b:α),(bif false then a else b)=b) /\
 (∀b:Bool,(b&&b)=b)/\(∀b:Bool,(true&&b)=b)/\(∀b:Bool,(b&&true)=b)/\(∀b:Bool,(false&&b)=false)/\(∀b:Bool,(b&&false)=false)/\(!true)=false/\(!false)=true /\
 (∀{α:Type} {a b:List α},(a++b).length=a.length+b.length)/\(∀{α:Type} {a:α} {l:List α},(a::l).length=l.length+1)/\(∀{α:Type},([]:List α).length=0)/\(∀n:Nat,((n:Int)).toNat=n) /\
 (∀{a b:Int},a=b->(a==b)=true)/\(∀{a b:Int},a≠b->(a==b)=false)/\(∀{a b:Int},a≠b->(a != b)=true)/\(∀{a b:Int},a=b->(a != b)=false) /\
 (∀n:Nat,n<=9223372036854775806->IntKind.i64.wrap ((n:Int)+1)=((n+1:Nat):Int))/\(∀{α:Type} {pre r:List α} {c d:α} {p:Nat},pre.length=p->(pre++c::r).getD p d=c)/\(∀{α:Type} {pre r:List α} {p:Nat},pre.length=p->List.drop p (pre++r)=r) /\
 (∀{α β:Type} (a:α) (f:α->Option β),(some a).bind f=f a)/\(∀{α β γ:Type} (f:α->γ) (g:β->γ) (x:α),Sum.elim f g (Sum.inl x)=f x)/\(∀{α β γ:Type} (f:α->γ) (g:β->γ) (x:β),Sum.elim f g (Sum.inr x)=g x)/\(∀b:UInt8,UInt8.ofNat ((b.toNat:Int)).toNat=b)/\∀b:UInt8,UInt8.ofNat b.toNat=b :=
 ⟨@decide_eq_true,@decide_eq_false,λ_ _=>rfl,λ_ _=>rfl,Bool.and_self,Bool.true_and,Bool.and_true,Bool.false_and,Bool.and_false,rfl,rfl,@λ_ _ _=>length_append,@λ_ _ _=>length_cons,@λ_=>length_nil,toNat_natCast,@ibT,@ibF,@inT,@inF,wrN,@gd,@dr,@Option.bind_some,λ_ _ _=>rfl,λ_ _ _=>rfl,byte_back,of_to⟩
theorem shift{α:Type}(pre:List α)(c:α)(r:List α):pre++c::r=(pre++[c])++r:=by simp
theorem c27(k e:Int)(s:List UInt8)(at_ bad err:Int):C107 (k,e,s,at_,bad,err,())=some (s,at_,k,e,()):=rfl
def al:List UInt8->Nat
 | []=>0
 | c::r=>bif atomB c then al r+1 else 0
theorem al_le:∀r,al r<=r.length
 | []=>le_refl _
 | c::r=>by have:=al_le r;simp only[al];cases atomB c<;>simp;omega
theorem l21(f bad err:Int):∀(r pre:List UInt8) (p n:Nat),pre.length=p->r.length<n->p+r.length<=140737488355328 ->
 loopN (F101_l0 C100 C101_c0) n (f,pre++r,(p:Int),bad,err,())=some (f,pre++r,((p+al r:Nat):Int),bad,err,())
 | [],pre,p,n+1,hp,hn,hb=>by
  refine loopN_inr ?_;simp (disch:=(first|omega|(simp only[vl];omega))) only[F101_l0,C101_c0,F101_c0,Sk,al,append_nil,add_zero]
 | c::r,pre,p,n+1,hp,hn,hb=>by
  simp only[length_cons]at hn hb;cases h:atomB c with
  | true =>
   rw[loopN_inl (v':=(f,pre++c::r,((p+1:Nat):Int),bad,err,())) (by simp (disch:=(first|omega|(simp only[vl];omega))) only[F101_l0,C101_c0,F101_c0,Sk,c17,h])];rw[shift,l21 f bad err r (pre++[c]) (p+1) n (by simp[hp]) (by omega) (by omega)];simp only[al,h,cond_true,add_assoc,Nat.add_comm 1]
  | false =>
   refine loopN_inr ?_;simp (disch:=(first|omega|(simp only[vl];omega))) only[F101_l0,C101_c0,F101_c0,Sk,c17,h,al,add_zero]
theorem c21(pre r:List UInt8)(p:Nat)(bad err:Int)(hp:pre.length=p)(hb:p+r.length<=140737488355328) :
 C101 (pre++r,(p:Int),bad,err,())=some (r.take (al r),pre++r,((p+al r:Nat):Int),bad,err,()):=by
 have:=al_le r;show F101 C100 C101_l0 (pre++r,(p:Int),bad,err,())=_;have hl:C101_l0 ((p:Int),pre++r,(p:Int),bad,err,())=_:=l21 p bad err r pre p big hp (by unfold big;omega) hb;simp (disch:=(first|omega|(simp only[vl];omega))) only[F101,hl,Sk];rw[show List.drop p (List.take (p+al r) (pre++r))=r.take (al r) by rw[<-hp,List.take_append,take_of_length_le (by omega),List.drop_append];simp]
def wl:List UInt8->Nat
 | []=>0
 | c::r=>bif blankB c then wl r+1 else
  match r with
  | b::d::r'=>bif(c==13&&b==10)&&blankB d then wl r'+3 else 0
  | _=>0
theorem wl_le:∀r,wl r<=r.length
 | []=>le_refl _
 | [c]=>by simp only[wl];cases blankB c<;>simp
 | [c,b]=>by have:=wl_le [b];simp only[wl]at *;cases blankB c<;>cases blankB b<;>simp
 | c::b::d::r'=>by
  have h1:=wl_le (b::d::r');have h2:=wl_le r';rw[wl];cases blankB c
  . simp only[cond_false];cases (c==13&&b==10)&&blankB d<;>simp;omega
  . simp only[cond_true,length_cons]at *;omega
theorem beq2(c b:UInt8):([c,b]==[13,10])=(c==13&&b==10):=by
 rw[Bool.eq_iff_iff];simp
theorem c26c(f p:Nat)(s:List UInt8)(bad err:Int)(b:Bool)(hf:f<=p)(hp:p<=s.length)(hb:p<=140737488355328) :
 C106_c0 ((f:Int),b,s,(p:Int),bad,err,())=some (bif b then .inl ((f:Int),s,((p+3:Nat):Int),bad,err,())else .inr (List.drop f (List.take p s),s,(p:Int),bad,err,())):=by
 cases b with
 | true=>simp only[C106_c0,F106_c0,cond_true];rw[wr (by omega) (by omega)];rfl
 | false=>simp (disch:=(first|omega|(simp only[vl];omega))) only[C106_c0,F106_c0,Sk]
theorem wl_t{c:UInt8}{r:List UInt8}(h:blankB c=true):wl (c::r)=wl r+1:=by
 match r with
 | []=>simp[wl,h]
 | [b]=>simp[wl,h]
 | b::d::r=>rw[wl,h];rfl
theorem wl_stop{c:UInt8}{r:List UInt8}(h:blankB c=false)(h2:r.length<2):wl (c::r)=0:=by
 match r,h2 with
 | [],_=>simp[wl,h]
 | [b],_=>simp[wl,h]
 | b::d::r,h2=>simp at h2;omega
theorem l26(f:Nat)(bad err:Int):∀(m:Nat) (r pre:List UInt8) (p n:Nat),r.length<=m->pre.length=p->r.length<n->f<=p->p+r.length<=140737488355328 ->
 loopN (F106_l0 C133 C106_c0) n ((f:Int),pre++r,(p:Int),bad,err,())=some (.inl ((f:Int),pre++r,((p+wl r:Nat):Int),bad,err,())) \/
 loopN (F106_l0 C133 C106_c0) n ((f:Int),pre++r,(p:Int),bad,err,())=some (.inr (List.drop f (List.take (p+wl r) (pre++r)),pre++r,((p+wl r:Nat):Int),bad,err,()))
 | _,_,_,_,0,_,_,hn,_,_=>by omega
 | m,[],pre,p,n+1,hm,hp,hn,hf,hb=>by
  refine .inl (loopN_inr ?_);simp (disch:=(first|omega|(simp only[vl];omega))) only[F106_l0,Sk,wl,append_nil,add_zero]
 | 0,c::r,pre,p,n+1,hm,hp,hn,hf,hb=>by simp at hm
 | m+1,c::r,pre,p,n+1,hm,hp,hn,hf,hb=>by
  simp only[length_cons]at hn hb hm;cases h:blankB c with
  | true =>
   rw[loopN_inl (v':=((f:Int),pre++c::r,((p+1:Nat):Int),bad,err,())) (by simp (disch:=(first|omega|(simp only[vl];omega))) only[F106_l0,Sk,c32,h,getD_cons_zero])];rw[shift];have:=l26 f bad err m r (pre++[c]) (p+1) n (by omega) (by simp[hp]) (by omega) (by omega) (by omega);rw[show p+wl (c::r)=p+1+wl r by rw[wl_t h];omega];exact this
  | false =>
   have stop:∀(hw:wl (c::r)=0),F106_l0 C133 C106_c0 ((f:Int),pre++c::r,(p:Int),bad,err,())=some (.inr (.inr (List.drop f (List.take p (pre++c::r)),pre++c::r,(p:Int),bad,err,()))) ->
    loopN (F106_l0 C133 C106_c0) (n+1) ((f:Int),pre++c::r,(p:Int),bad,err,())=some (.inr (List.drop f (List.take (p+wl (c::r)) (pre++c::r)),pre++c::r,((p+wl (c::r):Nat):Int),bad,err,())):=by
    intro hw h;rw[hw];exact loopN_inr h
   match r,hm,hn,hb with
   | [],hm,hn,hb =>
    refine .inr (stop (wl_stop h (by simp)) ?_);simp (disch:=(first|omega|(simp only[vl];omega))) only[F106_l0,Sk,c32,h,getD_cons_zero,c26c]
   | [b],hm,hn,hb =>
    refine .inr (stop (wl_stop h (by simp)) ?_);simp only[length_cons,length_nil]at hn hb hm;simp (disch:=(first|omega|(simp only[vl];omega))) only[F106_l0,Sk,c32,h,getD_cons_zero,c26c]
   | b::d::r',hm,hn,hb =>
    simp only[length_cons]at hn hb hm;cases hq:(c==13&&b==10)with
    | false =>
     refine .inr (stop (by rw[wl,h,hq];rfl) ?_);simp (disch:=(first|omega|(simp only[vl];omega))) only[F106_l0,Sk,c32,h,getD_cons_zero,c26c,List.take_succ_cons,take_zero,beq2,hq]
    | true =>
     cases hd:blankB d with
     | false =>
      refine .inr (stop (by rw[wl,h,hq,hd];rfl) ?_);simp (disch:=(first|omega|(simp only[vl];omega))) only[F106_l0,Sk,c32,h,getD_cons_zero,List.getD_cons_succ,c26c,List.take_succ_cons,take_zero,beq2,hq,hd]
     | true =>
      rw[loopN_inl (v':=((f:Int),pre++c::b::d::r',((p+3:Nat):Int),bad,err,())) (by simp (disch:=(first|omega|(simp only[vl];omega))) only[F106_l0,Sk,c32,h,getD_cons_zero,List.getD_cons_succ,c26c,List.take_succ_cons,take_zero,beq2,hq,hd])];have:=l26 f bad err m r' (pre++[c,b,d]) (p+3) n (by omega) (by simp[hp]) (by omega) (by omega) (by omega);rw[show p+wl (c::b::d::r')=p+3+wl r' by rw[wl,h,hq,hd];simp only[cond_true,cond_false,Bool.and_self];omega];rw[show pre++c::b::d::r'=(pre++[c,b,d])++r' by simp];exact this
theorem text_eq{pre r:List UInt8}{p k:Nat}(hp:pre.length=p):List.drop p (List.take (p+k) (pre++r))=r.take k:=by
 rw[<-hp,List.take_append,take_of_length_le (by omega),List.drop_append];simp
theorem c26(pre r:List UInt8)(p:Nat)(bad err:Int)(hp:pre.length=p)(hb:p+r.length<=140737488355328) :
 C106 (pre++r,(p:Int),bad,err,())=some (r.take (wl r),pre++r,((p+wl r:Nat):Int),bad,err,()):=by
 have:=wl_le r;show F106 C133 C106_l0 (pre++r,(p:Int),bad,err,())=_;rcases l26 p bad err r.length r pre p big (le_refl _) hp (by unfold big;omega) (le_refl _) hb with hl|hl
 . have hl':C106_l0 ((p:Int),pre++r,(p:Int),bad,err,())=_:=hl
   simp (disch:=(first|omega|(simp only[vl];omega))) only[F106,hl',Sk,text_eq]
 . have hl':C106_l0 ((p:Int),pre++r,(p:Int),bad,err,())=_:=hl
   simp (disch:=(first|omega|(simp only[vl];omega))) only[F106,hl',Sk,text_eq]
inductive Tk where
 | ok (t:List UInt8) (u:Nat)
 | bad (off:Nat) (e:Int)
 | start
def Tk.push(l:List UInt8)(n:Nat):Tk->Tk
 | .ok t u => .ok (l++t) (n+u)
 | .bad off e => .bad (n+off) e
 | .start => .start
def qt:List UInt8->Tk
 | [] => .start
 | c::r=>if c.toNat=34 then .ok [] 1 else if c.toNat=92 then
  match r with
  | [] => .start
  | d::r'=>bif mayB d then(qt r').push [d] 2 else .bad 1 4
  else bif mayB c then(qt r).push [c] 1 else .bad 0 4
theorem qt_q{c:UInt8}{r:List UInt8}(h:c.toNat=34):qt (c::r) = .ok [] 1:=by cases r<;>simp[qt,h]
theorem qt_b0{c:UInt8}(h:c.toNat=92):qt [c] = .start:=by simp[qt,h]
theorem qt_b1{c d:UInt8}{r:List UInt8}(h:c.toNat=92):qt (c::d::r)=bif mayB d then(qt r).push [d] 2 else .bad 1 4:=by simp[qt,h]
theorem qt_c{c:UInt8}{r:List UInt8}(h1:¬c.toNat=34)(h2:¬c.toNat=92):qt (c::r)=bif mayB c then(qt r).push [c] 1 else .bad 0 4:=by cases r<;>simp[qt,h1,h2]
def resq(s:List UInt8)(a bad err:Int)(out:List UInt8)(q:Nat):Tk->(List UInt8×Int×Int×Int×Unit)⊕(List UInt8×List UInt8×Int×Int×Int×Unit)
 | .ok t u => .inr (out++t,s,((q+u:Nat):Int),bad,err,())
 | .bad off e => .inr ([],s,a,((q+off:Nat):Int),e,())
 | .start => .inl (s,a,bad,err,())
theorem resq_push(s:List UInt8)(a bad err:Int)(out:List UInt8)(q:Nat)(l:List UInt8)(n:Nat)(k:Tk):resq s a bad err out q (k.push l n)=resq s a bad err (out++l) (q+n) k:=by
 cases k<;>simp[Tk.push,resq,add_assoc]
theorem c23c(pre r out:List UInt8)(d:UInt8)(q:Nat)(a bad err:Int)(hq:pre.length=q)(hb:q+r.length<=140737488355320)(ho:out.length+1<=140737488355328) :
 C103_c0 ((q:Int),pre++d::r,a,bad,err,out,())=some (bif mayB d then .inr ((q:Int),pre++d::r,a,bad,err,out++[d],())else .inl ([],pre++d::r,a,(q:Int),4,())):=by
 cases h:mayB d<;>simp (disch:=(first|omega|(simp only[vl];omega))) only[C103_c0,F103_c0,Sk,c31,c27,h]
theorem l23(a bad err:Int):∀(m:Nat) (r pre out:List UInt8) (q n:Nat),r.length<=m->pre.length=q->r.length<n->q+r.length<=140737488355320->out.length+r.length<=140737488355320 ->
 loopN (F103_l0 C107 C132 C103_c0) n ((q:Int),pre++r,a,bad,err,out,())=some (resq (pre++r) a bad err out q (qt r))
 | _,_,_,_,_,0,_,_,hn,_,_=>by omega
 | m,[],pre,out,q,n+1,hm,hq,hn,hb,ho=>by
  refine loopN_inr ?_;simp (disch:=(first|omega|(simp only[vl];omega))) only[F103_l0,Sk,append_nil,qt,resq]
 | 0,c::r,pre,out,q,n+1,hm,hq,hn,hb,ho=>by simp at hm
 | m+1,c::r,pre,out,q,n+1,hm,hq,hn,hb,ho=>by
  simp only[length_cons]at hn hb hm ho;by_cases e1:c.toNat=34
  . refine loopN_inr ?_
    rw[qt_q e1];simp (disch:=(first|omega|(simp only[vl];omega))) only[F103_l0,Sk,resq,append_nil]
  . by_cases e2:c.toNat=92
    . match r,hm,hn,hb,ho with
      | [],hm,hn,hb,ho =>
       refine loopN_inr ?_;rw[qt_b0 e2];simp (disch:=(first|omega|(simp only[vl];omega))) only[F103_l0,Sk,resq,append_nil]
      | d::r',hm,hn,hb,ho =>
       simp only[length_cons]at hn hb hm ho;have hc:=c23c (pre++[c]) r' out d (q+1) a bad err (by simp[hq]) (by omega) (by omega);rw[<-shift]at hc;rw[qt_b1 e2];cases h:mayB d with
       | true =>
        rw[h]at hc;simp only[cond_true]at hc ⊢;rw[loopN_inl (v':=(((q+2:Nat):Int),pre++c::d::r',a,bad,err,out++[d],())) (by
         simp (disch:=(first|omega|(simp only[vl];omega))) only[F103_l0,Sk,hc])]
        have:=l23 a bad err m r' (pre++[c,d]) (out++[d]) (q+2) n (by omega) (by simp[hq]) (by omega) (by omega) (by simp;omega);rw[show pre++c::d::r'=(pre++[c,d])++r' by simp,this,<-resq_push]
       | false =>
        rw[h]at hc;simp only[cond_false]at hc ⊢;refine loopN_inr ?_;simp (disch:=(first|omega|(simp only[vl];omega))) only[F103_l0,Sk,hc,resq]
    . have hc:=c23c pre r out c q a bad err hq (by omega) (by omega)
      rw[qt_c e1 e2];cases h:mayB c with
      | true =>
       rw[h]at hc;simp only[cond_true]at hc ⊢;rw[loopN_inl (v':=(((q+1:Nat):Int),pre++c::r,a,bad,err,out++[c],())) (by
        simp (disch:=(first|omega|(simp only[vl];omega))) only[F103_l0,Sk,hc])]
       have:=l23 a bad err m r (pre++[c]) (out++[c]) (q+1) n (by omega) (by simp[hq]) (by omega) (by omega) (by simp;omega);rw[shift,this,<-resq_push]
      | false =>
       rw[h]at hc;simp only[cond_false]at hc ⊢;refine loopN_inr ?_;simp (disch:=(first|omega|(simp only[vl];omega))) only[F103_l0,Sk,hc,resq,add_zero]
def fin(s:List UInt8)(p:Nat)(bad err:Int)(q:Nat):Tk->List UInt8×List UInt8×Int×Int×Int×Unit
 | .ok t u=>(t,s,((q+u:Nat):Int),bad,err,())
 | .bad off e=>([],s,(p:Int),((q+off:Nat):Int),e,())
 | .start=>([],s,(p:Int),(p:Int),4,())
theorem c23(pre r:List UInt8)(c:UInt8)(p:Nat)(bad err:Int)(hp:pre.length=p)(hb:p+r.length<=140737488355000) :
 C103 (pre++c::r,(p:Int),bad,err,())=some (fin (pre++c::r) p bad err (p+1) (qt r)):=by
 show F103 C107 C132 C103_l0 (pre++c::r,(p:Int),bad,err,())=_;have hl:=l23 p bad err r.length r (pre++[c]) [] (p+1) big (le_refl _) (by simp[hp]) (by unfold big;omega) (by omega) (by simp;omega);rw[<-shift]at hl;have hl':C103_l0 (((p+1:Nat):Int),pre++c::r,(p:Int),bad,err,[],())=_:=hl;cases hq:qt r<;>rw[hq]at hl'<;>simp (disch:=(first|omega|(simp only[vl];omega))) only[F103,Sk,hl',resq,fin,c27,nil_append]
def ltk:List UInt8->Tk
 | [] => .start
 | c::r=>if c.toNat=93 then .ok [] 1 else if c.toNat=91 then .bad 0 4 else if c.toNat=92 then .bad 0 4 else
  bif blankB c then .bad 0 4 else bif mayB c then(ltk r).push [c] 1 else .bad 0 4
def resl(s:List UInt8)(a bad err:Int)(from_:Nat)(q:Nat):Tk->(List UInt8×Int×Int×Int×Unit)⊕(List UInt8×List UInt8×Int×Int×Int×Unit)
 | .ok t u => .inr (List.drop from_ (List.take (q+t.length) s),s,((q+u:Nat):Int),bad,err,())
 | .bad off e => .inr ([],s,a,((q+off:Nat):Int),e,())
 | .start => .inl (s,a,bad,err,())
theorem resl_push(s:List UInt8)(a bad err:Int)(f q:Nat)(l:List UInt8)(n:Nat)(hl:l.length=n)(k:Tk):resl s a bad err f q (k.push l n)=resl s a bad err f (q+n) k:=by
 cases k<;>simp[Tk.push,resl,add_assoc,hl]
theorem l24(a:Nat)(bad err:Int):∀(r pre:List UInt8) (q n:Nat),pre.length=q->a+1<=q->r.length<n->q+r.length<=140737488355320 ->
 loopN (F104_l0 C107 C132 C133 C104_c0) n ((q:Int),pre++r,(a:Int),bad,err,())=some (resl (pre++r) a bad err (a+1) q (ltk r))
 | _,_,_,0,_,_,hn,_=>by omega
 | [],pre,q,n+1,hq,ha,hn,hb=>by
  refine loopN_inr ?_;simp (disch:=(first|omega|(simp only[vl];omega))) only[F104_l0,C104_c0,F104_c0,Sk,append_nil,ltk,resl]
 | c::r,pre,q,n+1,hq,ha,hn,hb=>by
  simp only[length_cons]at hn hb;by_cases e1:c.toNat=93
  . refine loopN_inr ?_
    simp (disch:=(first|omega|(simp only[vl];omega))) only[F104_l0,C104_c0,F104_c0,Sk,ltk,if_pos,resl,add_zero]
  . by_cases e2:c.toNat=91
    . refine loopN_inr ?_
      simp (disch:=(first|omega|(simp only[vl];omega))) only[F104_l0,C104_c0,F104_c0,Sk,ltk,if_pos,if_neg,resl,add_zero,c27]
    . by_cases e3:c.toNat=92
      . refine loopN_inr ?_
        simp (disch:=(first|omega|(simp only[vl];omega))) only[F104_l0,C104_c0,F104_c0,Sk,ltk,if_pos,if_neg,resl,add_zero,c27]
      . cases h1:blankB c with
        | true =>
         refine loopN_inr ?_;simp (disch:=(first|omega|(simp only[vl];omega))) only[F104_l0,C104_c0,F104_c0,Sk,ltk,if_pos,if_neg,resl,add_zero,c27,c32,h1]
        | false =>
         cases h2:mayB c with
         | false =>
          refine loopN_inr ?_;simp (disch:=(first|omega|(simp only[vl];omega))) only[F104_l0,C104_c0,F104_c0,Sk,ltk,if_pos,if_neg,resl,add_zero,c27,c32,c31,h1,h2]
         | true =>
          rw[loopN_inl (v':=(((q+1:Nat):Int),pre++c::r,(a:Int),bad,err,())) (by
           simp (disch:=(first|omega|(simp only[vl];omega))) only[F104_l0,C104_c0,F104_c0,Sk,c32,c31,h1,h2])]
          have:=l24 a bad err r (pre++[c]) (q+1) n (by simp[hq]) (by omega) (by omega) (by omega);rw[shift,this,<-resl_push (l:=[c]) (n:=1) _ _ _ _ _ _ rfl];simp only[ltk,if_neg e1,if_neg e2,if_neg e3,h1,h2,cond_true,cond_false]
theorem ltk_ok:∀{r t:List UInt8} {u:Nat},ltk r = .ok t u->u=t.length+1/\t.length<r.length/\r.take t.length=t
 | [],t,u,h=>by simp[ltk]at h
 | c::r,t,u,h=>by
  unfold ltk at h;split at h
  . cases h;simp
  . split at h
    . cases h
    . split at h
      . cases h
      . cases h1:blankB c<;>cases h2:mayB c<;>rw[h1,h2]at h<;>simp only[cond_true,cond_false]at h<;>try (cases h;done)
        cases hr:ltk r with
        | ok t' u' =>
         rw[hr]at h;cases h;obtain⟨i1,i2,i3⟩:=ltk_ok hr;exact⟨by simp;omega,by simpa using i2,by simpa using i3⟩
        | bad o e=>rw[hr]at h;cases h
        | start=>rw[hr]at h;cases h
theorem c24(pre r:List UInt8)(c:UInt8)(p:Nat)(bad err:Int)(hp:pre.length=p)(hb:p+r.length<=140737488355000) :
 C104 (pre++c::r,(p:Int),bad,err,())=some (fin (pre++c::r) p bad err (p+1) (ltk r)):=by
 show F104 C107 C132 C133 C104_l0 (pre++c::r,(p:Int),bad,err,())=_;have hl:=l24 p bad err r (pre++[c]) (p+1) big (by simp[hp]) (by omega) (by unfold big;omega) (by omega);rw[<-shift]at hl;have hl':C104_l0 (((p+1:Nat):Int),pre++c::r,(p:Int),bad,err,())=_:=hl;cases hq:ltk r with
 | ok t u =>
  rw[hq]at hl';obtain⟨i1,i2,i3⟩:=ltk_ok hq;simp (disch:=(first|omega|(simp only[vl];omega))) only[F104,Sk,hl',resl,fin];rw[shift,text_eq (by simp[hp]),i3]
 | bad o e=>rw[hq]at hl';simp (disch:=(first|omega|(simp only[vl];omega))) only[F104,Sk,hl',resl,fin]
 | start=>rw[hq]at hl';simp (disch:=(first|omega|(simp only[vl];omega))) only[F104,Sk,hl',resl,fin,c27]
def nt:Nat->List UInt8->Tk
 | _,[] => .start
 | deep,c::r=>if c.toNat=40 then(if deep+1>32 then .bad 0 6 else(nt (deep+1) r).push [c] 1)
  else if c.toNat=41 then(if deep=1 then .ok [] 1 else(nt (deep-1) r).push [c] 1)
  else if c.toNat=92 then
   match r with
   | [] => .start
   | d::r'=>bif mayB d then(nt deep r').push [c,d] 2 else .bad 1 4
  else bif mayB c then(nt deep r).push [c] 1 else .bad 0 4
theorem nt_o{deep:Nat}{c:UInt8}{r:List UInt8}(h:c.toNat=40):nt deep (c::r)=if deep+1>32 then .bad 0 6 else(nt (deep+1) r).push [c] 1:=by cases r<;>simp[nt,h]
theorem nt_c{deep:Nat}{c:UInt8}{r:List UInt8}(h:c.toNat=41):nt deep (c::r)=if deep=1 then .ok [] 1 else(nt (deep-1) r).push [c] 1:=by cases r<;>simp[nt,h]
theorem nt_b0{deep:Nat}{c:UInt8}(h:c.toNat=92):nt deep [c] = .start:=by simp[nt,h]
theorem nt_b1{deep:Nat}{c d:UInt8}{r:List UInt8}(h:c.toNat=92):nt deep (c::d::r)=bif mayB d then(nt deep r).push [c,d] 2 else .bad 1 4:=by simp[nt,h]
theorem nt_m{deep:Nat}{c:UInt8}{r:List UInt8}(h1:¬c.toNat=40)(h2:¬c.toNat=41)(h3:¬c.toNat=92):nt deep (c::r)=bif mayB c then(nt deep r).push [c] 1 else .bad 0 4:=by cases r<;>simp[nt,h1,h2,h3]
theorem wrM(n:Nat)(h:n<=9223372036854775806)(h1:1<=n):IntKind.i64.wrap ((n:Int)-1)=((n-1:Nat):Int):=by rw[wr]<;>omega
def resn(s:List UInt8)(f:Nat)(a bad err:Int)(q:Nat):Tk->((Int×Int×List UInt8×Int×Int×Int×Unit)⊕(Int×Int×List UInt8×Int×Int×Int×Unit)⊕(List UInt8×List UInt8×Int×Int×Int×Unit))
 | .ok t u => .inr (.inr (List.drop (f+1) (List.take (q+t.length) s),s,((q+u:Nat):Int),bad,err,()))
 | .bad off e => .inr (.inl (e,((q+off:Nat):Int),s,a,bad,err,()))
 | .start => .inl ((f:Int),4,s,a,bad,err,())
theorem resn_push(s:List UInt8)(f:Nat)(a bad err:Int)(q:Nat)(l:List UInt8)(n:Nat)(hl:l.length=n)(k:Tk):resn s f a bad err q (k.push l n)=resn s f a bad err (q+n) k:=by
 cases k<;>simp[Tk.push,resn,add_assoc,hl]
theorem l25(f:Nat)(a bad err:Int):∀(m:Nat) (r pre:List UInt8) (deep q n:Nat),r.length<=m->1<=deep->deep<=32->pre.length=q->f+1<=q->r.length<n->q+r.length<=140737488355320 ->
 loopN (F105_l0 C107 C132) n ((f:Int),(deep:Int),4,(q:Int),pre++r,a,bad,err,())=some (resn (pre++r) f a bad err q (nt deep r))
 | _,_,_,_,_,0,_,_,_,_,_,hn,_=>by omega
 | m,[],pre,deep,q,n+1,hm,hd,hd2,hq,hf,hn,hb=>by
  refine loopN_inr ?_;simp (disch:=(first|omega|(simp only[vl];omega))) only[F105_l0,Sk,append_nil,nt,resn]
 | 0,c::r,pre,deep,q,n+1,hm,hd,hd2,hq,hf,hn,hb=>by simp at hm
 | m+1,c::r,pre,deep,q,n+1,hm,hd,hd2,hq,hf,hn,hb=>by
  simp only[length_cons]at hn hb hm;have next:∀(d':Nat),1<=d'->d'<=32->F105_l0 C107 C132 ((f:Int),(deep:Int),4,(q:Int),pre++c::r,a,bad,err,())=some (.inl ((f:Int),(d':Int),4,((q+1:Nat):Int),pre++c::r,a,bad,err,())) ->
   loopN (F105_l0 C107 C132) (n+1) ((f:Int),(deep:Int),4,(q:Int),pre++c::r,a,bad,err,())=some (resn (pre++c::r) f a bad err q ((nt d' r).push [c] 1)):=by
   intro d' h1 h2 h3;rw[loopN_inl h3,resn_push (l:=[c]) (n:=1) _ _ _ _ _ _ rfl];have:=l25 f a bad err m r (pre++[c]) d' (q+1) n (by omega) h1 h2 (by simp[hq]) (by omega) (by omega) (by omega);rw[shift,this]
  by_cases e1:c.toNat=40
  . rw[nt_o e1]
    by_cases hdd:deep+1>32
    . rw[if_pos hdd]
      refine loopN_inr ?_;simp (disch:=(first|omega|(simp only[vl];omega))) only[F105_l0,Sk,resn,add_zero]
    . rw[if_neg hdd]
      refine next (deep+1) (by omega) (by omega) ?_;simp (disch:=(first|omega|(simp only[vl];omega))) only[F105_l0,Sk]
  . by_cases e2:c.toNat=41
    . rw[nt_c e2]
      by_cases hd1:deep=1
      . rw[if_pos hd1]
        refine loopN_inr ?_;subst hd1;simp (disch:=(first|omega|(simp only[vl];omega))) only[F105_l0,Sk,resn,add_zero,wrM]
      . rw[if_neg hd1]
        refine next (deep-1) (by omega) (by omega) ?_;simp (disch:=(first|omega|(simp only[vl];omega))) only[F105_l0,Sk,wrM]
    . by_cases e3:c.toNat=92
      . match r,hm,hn,hb with
        | [],hm,hn,hb =>
         rw[nt_b0 e3];simp only[length_nil]at hn hb hm;rw[loopN_inl (v':=((f:Int),(deep:Int),4,((q+2:Nat):Int),pre++[c],a,bad,err,())) (by
          simp (disch:=(first|omega|(simp only[vl];omega))) only[F105_l0,Sk])]
         obtain⟨n',rfl⟩:∃n',n=n'+1:=⟨n-1,by omega⟩
         refine loopN_inr ?_;simp (disch:=(first|omega|(simp only[vl];omega))) only[F105_l0,Sk,resn]
        | d::r',hm,hn,hb =>
         simp only[length_cons]at hn hb hm;rw[nt_b1 e3];have hg:(pre++c::d::r').getD (q+1) 0=d:=by rw[shift];exact gd (by simp[hq])
         cases h:mayB d with
         | true =>
          rw[loopN_inl (v':=((f:Int),(deep:Int),4,((q+2:Nat):Int),pre++c::d::r',a,bad,err,())) (by
           simp (disch:=(first|omega|(simp only[vl];omega))) only[F105_l0,Sk,hg,c31,h])]
          have:=l25 f a bad err m r' (pre++[c,d]) deep (q+2) n (by omega) hd hd2 (by simp[hq]) (by omega) (by omega) (by omega);rw[show pre++c::d::r'=(pre++[c,d])++r' by simp,this,cond_true,resn_push (l:=[c,d]) (n:=2) _ _ _ _ _ _ rfl]
         | false =>
          refine loopN_inr ?_;simp (disch:=(first|omega|(simp only[vl];omega))) only[F105_l0,Sk,hg,c31,h,resn]
      . rw[nt_m e1 e2 e3]
        cases h:mayB c with
        | true =>
         refine next deep hd hd2 ?_;simp (disch:=(first|omega|(simp only[vl];omega))) only[F105_l0,Sk,c31,h]
        | false =>
         refine loopN_inr ?_;simp (disch:=(first|omega|(simp only[vl];omega))) only[F105_l0,Sk,c31,h,resn,add_zero]
theorem push_ok{k:Tk}{l t:List UInt8}{n u:Nat}(h:k.push l n = .ok t u):∃t' u',k = .ok t' u'/\t=l++t'/\u=n+u':=by
 cases k<;>simp[Tk.push]at h
 exact⟨_,_,rfl,h.1.symm,h.2.symm⟩
theorem nt_ok:∀(m:Nat) {r t:List UInt8} {u deep:Nat},r.length<=m->nt deep r = .ok t u->u=t.length+1/\t.length<r.length/\r.take t.length=t
 | _,[],t,u,deep,_,h=>by simp[nt]at h
 | 0,c::r,t,u,deep,hm,h=>by simp at hm
 | m+1,c::r,t,u,deep,hm,h=>by
  simp only[length_cons]at hm;have one:∀(d':Nat),(nt d' r).push [c] 1 = .ok t u->u=t.length+1/\t.length<(c::r).length/\(c::r).take t.length=t:=by
   intro d' h;obtain⟨t',u',h1,rfl,rfl⟩:=push_ok h;obtain⟨i1,i2,i3⟩:=nt_ok m (by omega) h1;exact⟨by simp;omega,by simpa using i2,by simpa using i3⟩
  by_cases e1:c.toNat=40
  . rw[nt_o e1]at h
    split at h
    . cases h
    . exact one _ h
  . by_cases e2:c.toNat=41
    . rw[nt_c e2]at h
      split at h
      . cases h;simp
      . exact one _ h
    . by_cases e3:c.toNat=92
      . match r,hm,h with
        | [],hm,h=>rw[nt_b0 e3]at h;cases h
        | d::r',hm,h =>
         simp only[length_cons]at hm;rw[nt_b1 e3]at h;cases hd:mayB d<;>rw[hd]at h
         . cases h
         . obtain⟨t',u',h1,rfl,rfl⟩:=push_ok h
           obtain⟨i1,i2,i3⟩:=nt_ok m (by omega) h1;exact⟨by simp;omega,by simpa using i2,by simpa using i3⟩
      . rw[nt_m e1 e2 e3]at h
        cases hd:mayB c<;>rw[hd]at h
        . cases h
        . exact one _ h
theorem c25g(k e:Int)(s:List UInt8)(a bad err:Int):C105_g0 (e,k,s,a,bad,err,())=some ([],s,a,k,e,()):=by
 show loopN _ big _=_;rw[show big=999999999999999999999+1 from rfl];exact loopN_inr rfl
theorem c25(pre r:List UInt8)(c:UInt8)(p:Nat)(bad err:Int)(hc:c.toNat=40)(hp:pre.length=p)(hb:p+r.length<=140737488355000) :
 C105 (pre++c::r,(p:Int),bad,err,())=some (fin (pre++c::r) p bad err (p+1) (nt 1 r)):=by
 show F105 C107 C132 C105_g0 C105_l0 (pre++c::r,(p:Int),bad,err,())=_;have hl:=l25 p p bad err r.length r (pre++[c]) 1 (p+1) 999999999999999999999 (le_refl _) (by omega) (by omega) (by simp[hp]) (by omega) (by omega) (by omega);rw[<-shift]at hl;have h0:C105_l0 ((p:Int),0,4,(p:Int),pre++c::r,(p:Int),bad,err,())=some (resn (pre++c::r) p p bad err (p+1) (nt 1 r)):=by
  rw[<-hl];show loopN _ (999999999999999999999+1) _=_;refine loopN_inl ?_;simp (disch:=(first|omega|(simp only[vl];omega))) only[F105_l0,Sk];rfl
 cases hq:nt 1 r with
 | ok t u =>
  rw[hq]at h0;obtain⟨i1,i2,i3⟩:=nt_ok _ (le_refl _) hq;simp (disch:=(first|omega|(simp only[vl];omega))) only[F105,Sk,h0,resn,fin];rw[shift,text_eq (by simp[hp]),i3]
 | bad o e=>rw[hq]at h0;simp (disch:=(first|omega|(simp only[vl];omega))) only[F105,Sk,h0,resn,fin,c25g]
 | start=>rw[hq]at h0;simp (disch:=(first|omega|(simp only[vl];omega))) only[F105,Sk,h0,resn,fin,c27]
def g1(o:Option (Int×Int×Unit)):Int:=match o with|some (n,_,_)=>n|none=>0
def g2(o:Option (Int×Int×Unit)):Int:=match o with|some (_,v,_)=>v|none=>0
def ok2(o:Option (Int×Int×Unit)):Bool:=match o with|some _=>true|none=>false
theorem ok2_some{o:Option (Int×Int×Unit)}(h:ok2 o=true):o=some (g1 o,g2 o,()):=by
 cases o with
 | none=>cases h
 | some x=>rfl
def leadN(c:UInt8):Int:=g1 (C63 ((c.toNat:Int),()))
def leadV(c:UInt8):Int:=g2 (C63 ((c.toNat:Int),()))
theorem c19k:((List.range 256).all λn=>(λc:UInt8=>ok2 (C63 ((c.toNat:Int),()))) (UInt8.ofNat n))=true:=by kernel_rfl
theorem c19(c:UInt8):C63 ((c.toNat:Int),())=some (leadN c,leadV c,()):=ok2_some (all256 (λc=>ok2 (C63 ((c.toNat:Int),()))) c19k c)
def rngB:Int->Bool
 | .ofNat n=>Nat.ble n 3
 | .negSucc n=>Nat.beq n 0
theorem lead_k:((List.range 256).all λn=>(λc:UInt8=>rngB (leadN c)) (UInt8.ofNat n))=true:=by kernel_rfl
theorem lead_rng(c:UInt8):leadN c = -1\/0<=leadN c/\leadN c<=3:=by
 have h:rngB (leadN c)=true:=all256 (λc=>rngB (leadN c)) lead_k c;generalize leadN c=x at h;cases x with
 | ofNat n=>have:=Nat.le_of_ble_eq_true h;right;simp;omega
 | negSucc n=>have:=Nat.eq_of_beq_eq_true h;subst this;left;rfl
def lenR(v:Int):Int:=match C64 (v,())with|some (n,_)=>n|none=>0
theorem c20(v:Int):C64 (v,())=some (lenR v,()):=by
 have h:∃n,C64 (v,())=some (n,()):=by
  show ∃n,F64 C98 (v,())=some (n,());have h29:∃b,C98 (v,())=some (b,()):=by
   simp only[C98,F98];cases decide (v>=0)<;>cases decide (v<=1114111)<;>cases decide (v>=55296)<;>exact⟨_,rfl⟩
  obtain⟨b,hb⟩:=h29;simp only[F64,hb,Option.bind_some];cases b<;>cases decide (v<=127)<;>cases decide (v<=2047)<;>cases decide (v<=65535)<;>exact⟨_,rfl⟩
 obtain⟨n,hn⟩:=h;rw[lenR,hn]
def contB(c:UInt8):Bool := !(intBits BinOp.andNot IntKind.u8 (c.toNat:Int) 63 != 128)
def stepV(v:Int)(c:UInt8):Int:=intBits BinOp.or IntKind.i32 (IntKind.i32.wrap (v*2^min 6 IntKind.i32.bits)) (IntKind.i32.wrap (intBits BinOp.and IntKind.u8 (c.toNat:Int) 63))
def conts:Nat->List UInt8->Int->Option Int
 | 0,_,v=>some v
 | _+1,[],_=>none
 | n+1,c::r,v=>bif contB c then conts n r (stepV v c)else none
def ch:List UInt8->Nat
 | []=>0
 | c::r=>if leadN c<0 then 0 else if r.length<(leadN c).toNat then 0 else
  match conts (leadN c).toNat r (leadV c)with
  | none=>0
  | some v=>if lenR v=leadN c+1 then(leadN c).toNat+1 else 0
theorem ch_le:∀s,ch s<=s.length
 | []=>le_refl _
 | c::r=>by
  simp only[ch,length_cons];split
  . omega
  . split
    . omega
    . split
      . omega
      . split<;>omega
def res0(s:List UInt8)(n a:Int)(out:List Int):Option Int->(List UInt8×Int×Int×Int×List Int×Unit)⊕(Int×List Int×Unit)
 | some v => .inl (s,n,v,a,out,())
 | none => .inr (a,out,())
theorem l150(a:Nat)(m:Nat)(out:List Int):∀(j:Nat) (r pre:List UInt8) (v:Int) (k n:Nat),pre.length=k->k+j=a+m+1->j<=r.length->j<n->k+r.length<=140737488355320->m<=3 ->
 loopN (F34_l0 C63 C64) n (pre++r,(m:Int),v,(a:Int),(k:Int),out,())=some (res0 (pre++r) m a out (conts j r v))
 | _,_,_,_,_,0,_,_,_,hn,_,_=>by omega
 | 0,r,pre,v,k,n+1,hk,hj,hr,hn,hb,hm=>by
  refine loopN_inr ?_;have h:IntKind.i64.wrap ((a:Int)+(m:Int))=(a:Int)+m:=wr (by omega) (by omega);simp (disch:=(first|omega|(simp only[vl];omega))) only[F34_l0,h,Sk,conts,res0]
 | j+1,[],pre,v,k,n+1,hk,hj,hr,hn,hb,hm=>by simp at hr
 | j+1,c::r,pre,v,k,n+1,hk,hj,hr,hn,hb,hm=>by
  simp only[length_cons]at hr hb;have h:IntKind.i64.wrap ((a:Int)+(m:Int))=(a:Int)+m:=wr (by omega) (by omega);cases hc:contB c with
  | true =>
   have hc':(intBits BinOp.andNot IntKind.u8 (c.toNat:Int) 63 != 128)=false:=by simpa[contB]using hc
   rw[loopN_inl (v':=(pre++c::r,(m:Int),stepV v c,(a:Int),((k+1:Nat):Int),out,())) (by
    simp (disch:=(first|omega|(simp only[vl];omega))) only[F34_l0,h,Sk,hc'];rfl)]
   rw[shift,l150 a m out j r (pre++[c]) (stepV v c) (k+1) n (by simp[hk]) (by omega) (by omega) (by omega) (by omega) hm];simp only[conts,hc,cond_true]
  | false =>
   have hc':(intBits BinOp.andNot IntKind.u8 (c.toNat:Int) 63 != 128)=true:=by simpa[contB]using hc
   refine loopN_inr ?_;simp (disch:=(first|omega|(simp only[vl];omega))) only[F34_l0,h,Sk,hc',conts,hc,res0]
def ut:Nat->List UInt8->Nat->Option Nat
 | 0,_,_=>none
 | n+1,s,p=>if s=[]then none else if ch s=0 then some p else ut n (s.drop (ch s)) (p+ch s)
def r15(out:List Int):Option Nat->(List Int×Unit)⊕(Int×List Int×Unit)
 | none => .inl (out,())
 | some b => .inr ((b:Int),out,())
theorem r151(c:UInt8)(r pre:List UInt8)(out:List Int)(p:Nat)(hp:pre.length=p)(hb:p+r.length<=140737488355000)(ho:out.length<=1000000000) :
 F34_l1 C63 C64 C34_l0 (pre++c::r,(p:Int),out,())=some (if ch (c::r)=0 then .inr (.inr ((p:Int),out,()))else
  .inl (pre++c::r,((p+ch (c::r):Nat):Int),out++[((conts (leadN c).toNat r (leadV c)).getD 0)],())):=by
 have hrng:=lead_rng c;by_cases h1:leadN c<0
 . have:ch (c::r)=0:=by simp[ch,h1]
   rw[if_pos this];simp (disch:=(first|omega|(simp only[vl];omega))) only[F34_l1,Sk,c19]
 . have hw:IntKind.i64.wrap (((pre.length+(r.length+1):Nat):Int)-(p:Int))=(r.length:Int)+1:=by rw[wr]<;>omega
   obtain⟨m,hm⟩:∃m:Nat,leadN c=m:=⟨(leadN c).toNat,by omega⟩
   by_cases h2:r.length<m
   . have:ch (c::r)=0:=by simp[ch,hm,h2]
     rw[if_pos this];simp (disch:=(first|omega|(simp only[vl];omega))) only[F34_l1,Sk,c19,hw,hm]
   . have hl:=l150 p m out m r (pre++[c]) (leadV c) (p+1) big (by simp[hp]) (by omega) (by omega) (by unfold big;omega) (by omega) (by omega)
     rw[<-shift]at hl;have hl':C34_l0 (pre++c::r,(m:Int),leadV c,(p:Int),((p+1:Nat):Int),out,())=_:=hl;cases hc:conts m r (leadV c)with
     | none =>
      have:ch (c::r)=0:=by simp[ch,hm,h2,hc]
      rw[if_pos this];simp (disch:=(first|omega|(simp only[vl];omega))) only[F34_l1,Sk,c19,hw,hm,hl',hc,res0]
     | some v =>
      have hw2:IntKind.i64.wrap ((m:Int)+1)=(m:Int)+1:=wr (by omega) (by omega);by_cases h3:lenR v=m+1
      . have hch:ch (c::r)=m+1:=by simp[ch,hm,h2,hc,h3]
        have hw3:IntKind.i64.wrap ((p:Int)+((m:Int)+1))=((p+(m+1):Nat):Int):=by rw[wr]<;>omega
        rw[if_neg (by omega),hch];simp (disch:=(first|omega|(simp only[vl];omega))) only[F34_l1,hw2,hw3,decide_eq_true,decide_eq_false,cond_true,cond_false,Bool.and_self,vl,toNat_natCast,inF,gd,Option.bind_some,elim_inl,wrN,c19,hw,hm,hl',hc,res0,c20,getD_some]
      . have:ch (c::r)=0:=by simp[ch,hm,h2,hc,h3]
        rw[if_pos this];simp (disch:=(first|omega|(simp only[vl];omega))) only[F34_l1,hw2,Sk,c19,hw,hm,hl',hc,res0,c20]
theorem l151:∀(m:Nat) (r pre:List UInt8) (out:List Int) (p n:Nat),r.length<=m->pre.length=p->r.length<n->p+r.length<=140737488355000->out.length+r.length<=1000000000 ->
 ∃o,loopN (F34_l1 C63 C64 C34_l0) n (pre++r,(p:Int),out,())=some (r15 o (ut n r p))
 | _,_,_,_,_,0,_,_,hn,_,_=>by omega
 | m,[],pre,out,p,n+1,hm,hp,hn,hb,ho=>by
  refine⟨out,loopN_inr ?_⟩;simp (disch:=(first|omega|(simp only[vl];omega))) only[F34_l1,Sk,append_nil,ut,if_true,r15]
 | 0,c::r,pre,out,p,n+1,hm,hp,hn,hb,ho=>by simp at hm
 | m+1,c::r,pre,out,p,n+1,hm,hp,hn,hb,ho=>by
  simp only[length_cons]at hm hn hb ho;have hr:=r151 c r pre out p hp (by omega) (by omega);by_cases h:ch (c::r)=0
  . rw[if_pos h]at hr
    refine⟨out,?_⟩;rw[loopN_inr hr];simp[ut,h,r15]
  . rw[if_neg h]at hr
    have hle:=ch_le (c::r);simp only[length_cons]at hle;have hsplit:pre++c::r=(pre++(c::r).take (ch (c::r)))++(c::r).drop (ch (c::r)):=by rw[append_assoc,take_append_drop]
    obtain⟨o,ho'⟩:=l151 m ((c::r).drop (ch (c::r))) (pre++(c::r).take (ch (c::r))) (out++[((conts (leadN c).toNat r (leadV c)).getD 0)]) (p+ch (c::r)) n (by simp;omega) (by simp[hp];omega) (by simp;omega) (by simp;omega) (by simp;omega);refine⟨o,?_⟩;rw[loopN_inl hr];rw[<-hsplit]at ho';rw[ho'];simp[ut,h]
def utf(s:List UInt8):Option Nat:=ut big s 0
theorem c15(s:List UInt8)(hb:s.length<=1000000):∃o,C34 (s,())=some (o,(match utf s with|none => -1|some b=>(b:Int)),()):=by
 obtain⟨o,h⟩:=l151 s.length s [] [] 0 big (le_refl _) rfl (by unfold big;omega) (by omega) (by simp;omega);have h':C34_l1 (s,0,[],())=some (r15 o (utf s)):=h;refine⟨o,?_⟩;show F34 C63 C64 C34_g0 C34_l1 (s,())=_;have hg:∀(b:Int) (o:List Int),C34_g0 (b,o,())=some (b,o,()):=by
  intro b o;show loopN _ big _=_;rw[show big=999999999999999999999+1 from rfl];exact loopN_inr rfl
 simp only[F34,h',Option.bind_some];cases utf s<;>simp[r15,hg]
end Go.Proofs.YtbifjondkjgkmaaGreatDoorA.W
namespace Go.Proofs.YtbifjondkjgkmaaGreatDoorA.W
open Go Go.Ae Go.Pl
theorem c155(v:Int):C98 (v,())=some (rightB v,()):=by
 simp only[C98,F98,rightB];by_cases h1:v>=0<;>by_cases h2:v<=1114111<;>by_cases h3:v>=55296<;>by_cases h4:v<=57343<;>simp[h1,h2,h3,h4]<;>omega
theorem lenR_eq(v:Int):lenR v=(lenE v:Int):=by
 have h:=c20 v;simp only[C64,F64,c155,Option.bind_some]at h;have h':(some (((lenE v:Nat):Int),()):Option (Int×Unit))=some (lenR v,()):=by
  rw[<-h];unfold lenE;cases rightB v with
  | false=>rfl
  | true=>cases decide (v<=127)<;>cases decide (v<=2047)<;>cases decide (v<=65535)<;>rfl
 simp only[Option.some.injEq,Prod.mk.injEq,and_true]at h';exact h'.symm
def ldB(c:UInt8):Bool :=
 bif Nat.blt c.toNat 128 then decide (leadN c=0)&&decide (leadV c=(c.toNat:Int))
 else bif Nat.blt c.toNat 194 then decide (leadN c = -1)
 else bif Nat.blt c.toNat 224 then decide (leadN c=1)&&decide (leadV c=((c.toNat-192:Nat):Int))
 else bif Nat.blt c.toNat 240 then decide (leadN c=2)&&decide (leadV c=((c.toNat-224:Nat):Int))
 else bif Nat.blt c.toNat 245 then decide (leadN c=3)&&decide (leadV c=((c.toNat-240:Nat):Int))
 else decide (leadN c = -1)
theorem ldB_k:((List.range 256).all λn=>ldB (UInt8.ofNat n))=true:=by kernel_rfl
theorem ld1{c:UInt8}(h:cv c<128):leadN c=0/\leadV c=cv c:=by
 have k:=all256 ldB ldB_k c;unfold cv at *
 have h1:Nat.blt c.toNat 128=true:=by rw[blt_eq];omega
 simpa[ldB,h1]using k
theorem ld0{c:UInt8}(h:128<=cv c)(h2:cv c<194\/245<=cv c):leadN c = -1:=by
 have k:=all256 ldB ldB_k c;unfold cv at *
 have h1:Nat.blt c.toNat 128=false:=by rw[<-not_eq_true,blt_eq];omega
 rcases h2 with h2|h2
 . have h3:Nat.blt c.toNat 194=true:=by rw[blt_eq];omega
   simpa[ldB,h1,h3]using k
 . have h3:Nat.blt c.toNat 194=false:=by rw[<-not_eq_true,blt_eq];omega
   have h4:Nat.blt c.toNat 224=false:=by rw[<-not_eq_true,blt_eq];omega
   have h5:Nat.blt c.toNat 240=false:=by rw[<-not_eq_true,blt_eq];omega
   have h6:Nat.blt c.toNat 245=false:=by rw[<-not_eq_true,blt_eq];omega
   simpa[ldB,h1,h3,h4,h5,h6]using k
theorem ld2{c:UInt8}(h:194<=cv c)(h2:cv c<224):leadN c=1/\leadV c=cv c-192:=by
 have k:=all256 ldB ldB_k c;unfold cv at *
 have h1:Nat.blt c.toNat 128=false:=by rw[<-not_eq_true,blt_eq];omega
 have h3:Nat.blt c.toNat 194=false:=by rw[<-not_eq_true,blt_eq];omega
 have h4:Nat.blt c.toNat 224=true:=by rw[blt_eq];omega
 simp[ldB,h1,h3,h4]at k;exact⟨k.1,by rw[k.2];omega⟩
theorem ld3{c:UInt8}(h:224<=cv c)(h2:cv c<240):leadN c=2/\leadV c=cv c-224:=by
 have k:=all256 ldB ldB_k c;unfold cv at *
 have h1:Nat.blt c.toNat 128=false:=by rw[<-not_eq_true,blt_eq];omega
 have h3:Nat.blt c.toNat 194=false:=by rw[<-not_eq_true,blt_eq];omega
 have h4:Nat.blt c.toNat 224=false:=by rw[<-not_eq_true,blt_eq];omega
 have h5:Nat.blt c.toNat 240=true:=by rw[blt_eq];omega
 simp[ldB,h1,h3,h4,h5]at k;exact⟨k.1,by rw[k.2];omega⟩
theorem ld4{c:UInt8}(h:240<=cv c)(h2:cv c<245):leadN c=3/\leadV c=cv c-240:=by
 have k:=all256 ldB ldB_k c;unfold cv at *
 have h1:Nat.blt c.toNat 128=false:=by rw[<-not_eq_true,blt_eq];omega
 have h3:Nat.blt c.toNat 194=false:=by rw[<-not_eq_true,blt_eq];omega
 have h4:Nat.blt c.toNat 224=false:=by rw[<-not_eq_true,blt_eq];omega
 have h5:Nat.blt c.toNat 240=false:=by rw[<-not_eq_true,blt_eq];omega
 have h6:Nat.blt c.toNat 245=true:=by rw[blt_eq];omega
 simp[ldB,h1,h3,h4,h5,h6]at k;exact⟨k.1,by rw[k.2];omega⟩
def ctB(c:UInt8):Bool:=bif contB c then(Nat.ble 128 c.toNat&&Nat.blt c.toNat 192)else !(Nat.ble 128 c.toNat&&Nat.blt c.toNat 192)
def ctV(c:UInt8):Bool := !(Nat.ble 128 c.toNat&&Nat.blt c.toNat 192)||decide (IntKind.i32.wrap (intBits BinOp.and IntKind.u8 (c.toNat:Int) 63)=((c.toNat-128:Nat):Int))
theorem ctB_k:((List.range 256).all λn=>ctB (UInt8.ofNat n))=true:=by kernel_rfl
theorem ctV_k:((List.range 256).all λn=>ctV (UInt8.ofNat n))=true:=by kernel_rfl
theorem contB_eq(c:UInt8):contB c=contC c:=by
 have k:=all256 ctB ctB_k c;have k2:contB c=(Nat.ble 128 c.toNat&&Nat.blt c.toNat 192):=by
  unfold ctB at k;revert k;cases contB c<;>cases (Nat.ble 128 c.toNat&&Nat.blt c.toNat 192)<;>simp
 rw[k2];unfold contC cv;by_cases h1:128<=c.toNat<;>by_cases h2:c.toNat<192
 . have e1:Nat.ble 128 c.toNat=true:=Nat.ble_eq_true_of_le h1
   have e2:Nat.blt c.toNat 192=true:=by rw[blt_eq];exact h2
   rw[e1,e2];simp;omega
 . have e2:Nat.blt c.toNat 192=false:=by rw[<-not_eq_true,blt_eq];exact h2
   rw[e2];simp;omega
 . have e1:Nat.ble 128 c.toNat=false:=by rw[<-not_eq_true,Nat.ble_eq];exact h1
   rw[e1];simp;omega
 . have e1:Nat.ble 128 c.toNat=false:=by rw[<-not_eq_true,Nat.ble_eq];exact h1
   rw[e1];simp;omega
theorem stepV_eq{c:UInt8}(hc:contC c=true){v:Int}(h0:0<=v)(h1:v<33554432):stepV v c=v*64+(cv c-128):=by
 have h:=contC_iff.1 hc;have k:=all256 ctV ctV_k c;unfold cv at *
 have e1:Nat.ble 128 c.toNat=true:=Nat.ble_eq_true_of_le (by omega);have e2:Nat.blt c.toNat 192=true:=by rw[blt_eq];omega
 have e3:IntKind.i32.wrap (intBits BinOp.and IntKind.u8 (c.toNat:Int) 63)=((c.toNat-128:Nat):Int):=by simpa[ctV,e1,e2]using k
 unfold stepV;rw[e3];have e4:IntKind.i32.wrap (v*2^min 6 IntKind.i32.bits)=v*64:=by
  have:(2:Int)^min 6 IntKind.i32.bits=64:=by decide
  rw[this];simp only[IntKind.wrap,IntKind.signed,IntKind.bits];simp;omega
 rw[e4,or_shift h0 h1 (by omega) (by omega)];omega
theorem ch_dec(c:UInt8)(r:List UInt8):match dec (c::r)with
 | some v=>ch (c::r)=lenE v/\conts (leadN c).toNat r (leadV c)=some v
 | none=>ch (c::r)=0:=by
 have hr:=cv_rng c;rw[dec_cons,decC];by_cases h1:cv c<128
 . obtain⟨e1,e2⟩:=ld1 h1
   have hl:=lenE1 hr.1 (by omega:cv c<=127);simp only[h1,decide_true,cond_true];simp[ch,e1,e2,conts,lenR_eq,hl]
 . by_cases h2:cv c<194
   . have e1:=ld0 (by omega) (.inl h2)
     simp[h1,h2,ch,e1]
   . by_cases h3:cv c<224
     . obtain⟨e1,e2⟩:=ld2 (by omega) h3
       simp only[h1,h2,h3,decide_true,decide_false,cond_true,cond_false];cases r with
       | nil=>simp[dec2,ch,e1]
       | cons b t =>
        rw[dec2_cons];cases hb:contC b with
        | false=>simp[ch,e1,e2,conts,contB_eq,hb]
        | true =>
         have hb':=contC_iff.1 hb;have es:=stepV_eq hb (v:=cv c-192) (by omega) (by omega);simp only[cond_true,ifLen];cases hl:Nat.beq (lenE ((cv c-192)*64+(cv b-128))) 2 with
         | true =>
          have hl':=Nat.eq_of_beq_eq_true hl;simp[ch,e1,e2,conts,contB_eq,hb,es,lenR_eq,hl']
         | false =>
          have hl':=Nat.ne_of_beq_eq_false hl;simp[ch,e1,e2,conts,contB_eq,hb,es,lenR_eq];omega
     . by_cases h4:cv c<240
       . obtain⟨e1,e2⟩:=ld3 (by omega) h4
         simp only[h1,h2,h3,h4,decide_true,decide_false,cond_true,cond_false];rcases r with _|⟨b,_|⟨d,t⟩⟩
         . simp[dec3,ch,e1]
         . simp[dec3,ch,e1]
         . rw[dec3_cons]
           cases hb:contC b with
           | false=>simp[ch,e1,e2,conts,contB_eq,hb]
           | true =>
            have hb':=contC_iff.1 hb;have es:=stepV_eq hb (v:=cv c-224) (by omega) (by omega);cases hd:contC d with
            | false=>simp[ch,e1,e2,conts,contB_eq,hb,hd]
            | true =>
             have hd':=contC_iff.1 hd;have es2:=stepV_eq hd (v:=(cv c-224)*64+(cv b-128)) (by omega) (by omega);have ev:((cv c-224)*64+(cv b-128))*64+(cv d-128)=(cv c-224)*4096+(cv b-128)*64+(cv d-128):=by omega
             simp only[Bool.and_self,cond_true,ifLen];cases hl:Nat.beq (lenE ((cv c-224)*4096+(cv b-128)*64+(cv d-128))) 3 with
             | true =>
              have hl':=Nat.eq_of_beq_eq_true hl;simp[ch,e1,e2,conts,contB_eq,hb,hd,es,es2,ev,lenR_eq,hl']
             | false =>
              have hl':=Nat.ne_of_beq_eq_false hl;simp[ch,e1,e2,conts,contB_eq,hb,hd,es,es2,ev,lenR_eq];omega
       . by_cases h5:cv c<245
         . obtain⟨e1,e2⟩:=ld4 (by omega) h5
           simp only[h1,h2,h3,h4,h5,decide_true,decide_false,cond_true,cond_false];rcases r with _|⟨b,_|⟨d,_|⟨e,t⟩⟩⟩
           . simp[dec4,ch,e1]
           . simp[dec4,ch,e1]
           . simp[dec4,ch,e1]
           . rw[dec4_cons]
             cases hb:contC b with
             | false=>simp[ch,e1,e2,conts,contB_eq,hb]
             | true =>
              have hb':=contC_iff.1 hb;have es:=stepV_eq hb (v:=cv c-240) (by omega) (by omega);cases hd:contC d with
              | false=>simp[ch,e1,e2,conts,contB_eq,hb,hd]
              | true =>
               have hd':=contC_iff.1 hd;have es2:=stepV_eq hd (v:=(cv c-240)*64+(cv b-128)) (by omega) (by omega);cases he:contC e with
               | false=>simp[ch,e1,e2,conts,contB_eq,hb,hd,he]
               | true =>
                have he':=contC_iff.1 he;have es3:=stepV_eq he (v:=((cv c-240)*64+(cv b-128))*64+(cv d-128)) (by omega) (by omega);have ev:(((cv c-240)*64+(cv b-128))*64+(cv d-128))*64+(cv e-128)=(cv c-240)*262144+(cv b-128)*4096+(cv d-128)*64+(cv e-128):=by omega
                simp only[Bool.and_self,cond_true,ifLen];cases hl:Nat.beq (lenE ((cv c-240)*262144+(cv b-128)*4096+(cv d-128)*64+(cv e-128))) 4 with
                | true =>
                 have hl':=Nat.eq_of_beq_eq_true hl;simp[ch,e1,e2,conts,contB_eq,hb,hd,he,es,es2,es3,ev,lenR_eq,hl']
                | false =>
                 have hl':=Nat.ne_of_beq_eq_false hl;simp[ch,e1,e2,conts,contB_eq,hb,hd,he,es,es2,es3,ev,lenR_eq];omega
         . have e1:=ld0 (c:=c) (by omega) (.inr (by omega))
           simp[h1,h2,h3,h4,h5,ch,e1]
theorem prun:∀(m:Nat) (r pre:List UInt8) (out:List Int) (p n:Nat),r.length<=m->pre.length=p->r.length<n->p+r.length<=140737488355000->out.length+r.length<=1000000000 ->
 loopN (F34_l1 C63 C64 C34_l0) n (pre++r,(p:Int),out,())=some (if rr r=[]then .inl (out++rl r,())else .inr (((p+(r.length-(rr r).length):Nat):Int),out++rl r,()))
 | _,_,_,_,_,0,_,_,hn,_,_=>by omega
 | m,[],pre,out,p,n+1,hm,hp,hn,hb,ho=>by
  have h:=runes_none (s:=[]) rfl;rw[h.1,h.2,if_pos rfl];refine loopN_inr ?_;simp (disch:=(first|omega|(simp only[vl];omega))) only[F34_l1,decide_eq_true,decide_eq_false,cond_true,cond_false,Bool.and_self,Bool.true_and,Bool.and_true,Bool.false_and,Bool.and_false,Bool.not_true,Bool.not_false,vl,toNat_natCast,ibT,ibF,inT,inF,wrN,gd,dr,Option.bind_some,elim_inl,Sum.elim_inr,byte_back,of_to,append_nil]
 | 0,c::r,pre,out,p,n+1,hm,hp,hn,hb,ho=>by simp at hm
 | m+1,c::r,pre,out,p,n+1,hm,hp,hn,hb,ho=>by
  simp only[length_cons]at hm hn hb ho;have hr:=r151 c r pre out p hp (by omega) (by omega);have hd:=ch_dec c r;cases he:dec (c::r)with
  | none =>
   rw[he]at hd;have h:=runes_none he;rw[if_pos hd]at hr;rw[h.1,h.2,if_neg (by simp),loopN_inr hr];simp
  | some v =>
   rw[he]at hd;obtain⟨h1,h2⟩:=hd;have h:=runes_some he;have hl:=dec_len he;rw[if_neg (by omega),h1,h2]at hr;simp only[length_cons]at hl;have hsplit:pre++c::r=(pre++(c::r).take (lenE v))++(c::r).drop (lenE v):=by rw[append_assoc,take_append_drop]
   have ih:=prun m ((c::r).drop (lenE v)) (pre++(c::r).take (lenE v)) (out++[v]) (p+lenE v) n (by simp;omega) (by simp[hp];omega) (by simp;omega) (by simp;omega) (by simp;omega);rw[loopN_inl hr];rw[<-hsplit]at ih;rw[getD_some,ih,h.1,h.2];have hle:=rr_le ((c::r).drop (lenE v));simp only[length_drop,length_cons]at hle ⊢;split
   . simp
   . rw[append_assoc]
     have:p+lenE v+(r.length+1-lenE v-(rr ((c::r).drop (lenE v))).length)=p+(r.length+1-(rr ((c::r).drop (lenE v))).length):=by omega
     rw[this];rfl
theorem x83(s:List UInt8)(hb:s.length<=1000000000):C34 (s,())=some (rl s,badAt s,()):=by
 have h:=prun s.length s [] [] 0 big (le_refl _) rfl (by unfold big;omega) (by omega) (by simp;omega);have h':C34_l1 (s,0,[],())=_:=h;have hg:∀(b:Int) (o:List Int),C34_g0 (b,o,())=some (b,o,()):=by
  intro b o;show loopN _ big _=_;rw[show big=999999999999999999999+1 from rfl];exact loopN_inr rfl
 simp only[C34,F34,h',Option.bind_some];by_cases hr:rr s=[]
 . rw[if_pos hr,badAt_nil hr];simp
 . rw[if_neg hr,badAt_some hr];simp[hg]
theorem wu8{n:Int}(h0:0<=n)(h1:n<=255):IntKind.u8.wrap n=n:=by
 simp only[IntKind.wrap,IntKind.signed,IntKind.bits];simp;omega
def or8B(c:UInt8):Bool :=
 ((!Nat.blt c.toNat 32||decide (intBits BinOp.or IntKind.u8 192 (c.toNat:Int)=((192+c.toNat:Nat):Int)))&&(!Nat.blt c.toNat 16||decide (intBits BinOp.or IntKind.u8 224 (c.toNat:Int)=((224+c.toNat:Nat):Int)))) &&
 ((!Nat.blt c.toNat 8||decide (intBits BinOp.or IntKind.u8 240 (c.toNat:Int)=((240+c.toNat:Nat):Int)))&&(!Nat.blt c.toNat 64||decide (intBits BinOp.or IntKind.u8 128 (c.toNat:Int)=((128+c.toNat:Nat):Int))))
theorem or8_k:((List.range 256).all λn=>or8B (UInt8.ofNat n))=true:=by kernel_rfl
theorem or8(x:Int)(h0:0<=x):(x<32->intBits BinOp.or IntKind.u8 192 x=192+x)/\(x<16->intBits BinOp.or IntKind.u8 224 x=224+x)/\(x<8->intBits BinOp.or IntKind.u8 240 x=240+x)/\(x<64->intBits BinOp.or IntKind.u8 128 x=128+x):=by
 have key:∀m:Nat,m<256->or8B (UInt8.ofNat m)=true:=λm hm=>all_eq_true.1 or8_k m (mem_range.2 hm);have val:∀m:Nat,m<256->(UInt8.ofNat m).toNat=m:=λm hm=>by simp;omega
 refine⟨λh => ?_,λh => ?_,λh => ?_,λh => ?_⟩;all_goals
  have k:=key x.toNat (by omega)
  unfold or8B at k;rw[val _ (by omega)]at k;have e:((x.toNat:Nat):Int)=x:=by omega
  rw[e]at k
 . have hb:Nat.blt x.toNat 32=true:=by rw[blt_eq];omega
   simp[hb]at k;rw[k.1.1];omega
 . have hb:Nat.blt x.toNat 16=true:=by rw[blt_eq];omega
   simp[hb]at k;rw[k.1.2];omega
 . have hb:Nat.blt x.toNat 8=true:=by rw[blt_eq];omega
   simp[hb]at k;rw[k.2.1];omega
 . have hb:Nat.blt x.toNat 64=true:=by rw[blt_eq];omega
   simp[hb]at k;rw[k.2.2];omega
theorem fdiv_nn{a:Int}{b:Int}(h:0<=b):a.fdiv b=a/b:=Int.fdiv_eq_ediv_of_nonneg a h
theorem p6:(2:Int)^min 6 IntKind.i32.bits=64:=by decide
theorem p12:(2:Int)^min 12 IntKind.i32.bits=4096:=by decide
theorem p18:(2:Int)^min 18 IntKind.i32.bits=262144:=by decide
def strE:List Int->Option (List UInt8)
 | []=>some []
 | v::l=>if rightB v=true then(strE l).map (enc v ++ ·)else none
theorem strE_all:∀l:List Int,strE l=if l.all rightB=true then some (l.flatMap enc)else none
 | []=>rfl
 | v::l=>by
  rw[strE,strE_all l,List.all_cons,List.flatMap_cons];cases rightB v<;>cases l.all rightB<;>rfl
theorem sstep(v:Int)(pre r:List Int)(N:Int)(out:List UInt8)(hN:N=((pre++v::r).length:Int))(hl:pre.length+r.length<=1000000000)(ho:out.length<=100000000000000) :
 F82_l0 C64 (pre++v::r,N,(pre.length:Int),out,())=some (if rightB v=true then .inl (pre++v::r,N,((pre.length+1:Nat):Int),out++enc v,())else .inr (.inr ([],false,()))):=by
 subst hN;have hi:decide ((pre.length:Int)<((pre++v::r).length:Int))=true:=by simp;omega
 have hi0:decide (0<=(pre.length:Int))=true:=by simp
 have hw:IntKind.i64.wrap ((pre.length:Int)+1)=((pre.length+1:Nat):Int):=wrN _ (by omega);have hg:(pre++v::r).getD ((pre.length:Int)).toNat 0=v:=by rw[toNat_natCast];exact gd rfl
 cases hr:rightB v with
 | false =>
  simp only[F82_l0,hi,hi0,hg,c20,lenR_eq,lenE0 hr,Option.bind_some,cond_true,Bool.and_self];rfl
 | true =>
  have ol:∀k:Nat,k<=4->decide (out.length+k<=140737488355328/1)=true:=λk hk=>by simp;omega
  have f6:Int.fdiv v (2^min 6 IntKind.i32.bits)=v/64:=by rw[p6,fdiv_nn (by omega)]
  have f12:Int.fdiv v (2^min 12 IntKind.i32.bits)=v/4096:=by rw[p12,fdiv_nn (by omega)]
  have f18:Int.fdiv v (2^min 18 IntKind.i32.bits)=v/262144:=by rw[p18,fdiv_nn (by omega)]
  have hi':=rightB_iff.1 hr;have a0:=and63 (x:=v) (by omega) (by omega);have a6:=and63 (x:=v/64) (by omega) (by omega);have a12:=and63 (x:=v/4096) (by omega) (by omega);have u0:IntKind.u8.wrap (v%64)=v%64:=wu8 (by omega) (by omega);have u6:IntKind.u8.wrap (v/64%64)=v/64%64:=wu8 (by omega) (by omega);have u12:IntKind.u8.wrap (v/4096%64)=v/4096%64:=wu8 (by omega) (by omega);have o0:=(or8 (v%64) (by omega)).2.2.2 (by omega);have o6:=(or8 (v/64%64) (by omega)).2.2.2 (by omega);have o12:=(or8 (v/4096%64) (by omega)).2.2.2 (by omega);rcases lenE_cases hr with⟨h,h1,h2⟩|⟨h,h1,h2⟩|⟨h,h1,h2⟩|⟨h,h1,h2⟩
  . have e0:(((1:Nat):Int)==0)=false:=rfl
    have e1:(((1:Nat):Int)==1)=true:=rfl;simp only[F82_l0,hi,hi0,hg,hw,c20,lenR_eq,h,e0,e1,Option.bind_some,cond_true,cond_false,Bool.and_self,length_cons,length_nil,ol 1 (by omega),enc1 h,if_true,wu8 h1 (by omega:v<=255)];rfl
  . have e0:(((2:Nat):Int)==0)=false:=rfl
    have e1:(((2:Nat):Int)==1)=false:=rfl;have e2:(((2:Nat):Int)==2)=true:=rfl;have u:IntKind.u8.wrap (v/64)=v/64:=wu8 (by omega) (by omega);have o:=(or8 (v/64) (by omega)).1 (by omega);simp only[F82_l0,hi,hi0,hg,hw,c20,lenR_eq,h,e0,e1,e2,Option.bind_some,cond_true,cond_false,Bool.and_self,length_cons,length_nil,ol 2 (by omega),enc2 h,if_true,f6,a0,u,u0,o,o0];rfl
  . have e0:(((3:Nat):Int)==0)=false:=rfl
    have e1:(((3:Nat):Int)==1)=false:=rfl;have e2:(((3:Nat):Int)==2)=false:=rfl;have e3:(((3:Nat):Int)==3)=true:=rfl;have u:IntKind.u8.wrap (v/4096)=v/4096:=wu8 (by omega) (by omega);have o:=(or8 (v/4096) (by omega)).2.1 (by omega);simp only[F82_l0,hi,hi0,hg,hw,c20,lenR_eq,h,e0,e1,e2,e3,Option.bind_some,cond_true,cond_false,Bool.and_self,length_cons,length_nil,ol 3 (by omega),enc3 h,if_true,f6,f12,a0,a6,u,u0,u6,o,o0,o6];rfl
  . have e0:(((4:Nat):Int)==0)=false:=rfl
    have e1:(((4:Nat):Int)==1)=false:=rfl;have e2:(((4:Nat):Int)==2)=false:=rfl;have e3:(((4:Nat):Int)==3)=false:=rfl;have e4:(((4:Nat):Int)==4)=true:=rfl;have u:IntKind.u8.wrap (v/262144)=v/262144:=wu8 (by omega) (by omega);have o:=(or8 (v/262144) (by omega)).2.2.1 (by omega);simp only[F82_l0,hi,hi0,hg,hw,c20,lenR_eq,h,e0,e1,e2,e3,e4,Option.bind_some,cond_true,cond_false,Bool.and_self,length_cons,length_nil,ol 4 (by omega),enc4 h,if_true,f6,f12,f18,a0,a6,a12,u,u0,u6,u12,o,o0,o6,o12];rfl
theorem srun:∀(r pre:List Int) (N:Int) (out:List UInt8) (n:Nat),N=((pre++r).length:Int)->pre.length+r.length<=1000000000->out.length+4*r.length<=100000000000000->r.length<n ->
 loopN (F82_l0 C64) n (pre++r,N,(pre.length:Int),out,())=some (match strE r with|some e => .inl (out++e,())|none => .inr ([],false,()))
 | _,_,_,_,0,_,_,_,hn=>by omega
 | [],pre,N,out,n+1,hN,hl,ho,hn=>by
  subst hN;refine loopN_inr ?_;have hi:decide ((pre.length:Int)<(pre.length:Int))=false:=by simp
  simp only[F82_l0,hi,cond_false,strE,append_nil]
 | v::r,pre,N,out,n+1,hN,hl,ho,hn=>by
  simp only[length_cons]at hl ho hn;have hs:=sstep v pre r N out hN (by omega) (by omega);cases hr:rightB v with
  | false =>
   rw[hr,if_neg (by simp)]at hs;rw[loopN_inr hs];simp[strE,hr]
  | true =>
   rw[hr,if_pos rfl]at hs;have hl4:=(lenE_pos hr).2;rw[loopN_inl hs,shift,show ((pre.length+1:Nat):Int)=((pre++[v]).length:Int) by simp,srun r (pre++[v]) N (out++enc v) n (by rw[hN];simp) (by simp;omega) (by rw[length_append,enc_len];omega) (by omega)];rw[strE,if_pos hr];cases strE r<;>simp
theorem c178(l:List Int)(hl:l.length<=1000000000):C82 (l,())=some (match strE l with|some e=>(e,true,())|none=>([],false,())):=by
 have h:=srun l [] (l.length:Int) [] big (by simp) (by simp;omega) (by simp;omega) (by unfold big;omega);have h':C82_l0 (l,(l.length:Int),0,[],())=_:=h;simp only[C82,F82,h',Option.bind_some];cases strE l<;>rfl
end Go.Proofs.YtbifjondkjgkmaaGreatDoorA.W
namespace Go.Proofs.YtbifjondkjgkmaaGreatDoorA.W
open Go Go.Ae
theorem p121_0(x:Int)(b:Bool):Pf (C63_c0 (x,b,())) (Sum.elim (λy=>1<=y.1) (λ_=>True)):=by
 show Pf (F63_c0 _) _;unfold F63_c0;dsimp only;with_reducible repeat' (first|exact pN|apply pP|apply pX<;>intro _)
 all_goals first|trivial|exact(by decide:(1:Int)<=2)|exact(by decide:(1:Int)<=3)
theorem p121_1(x:Int)(b:Bool):Pf (C63_c1 (x,b,())) (Sum.elim (λy=>1<=y.1) (λ_=>True)):=by
 show Pf (F63_c1 C63_c0 _) _;unfold F63_c1;dsimp only;with_reducible repeat' (first|exact pN|apply pP|apply pX<;>intro _)
 all_goals first|trivial|exact(by decide:(1:Int)<=1)|(refine pZ (p121_0 _ _) ?_;intro s hs;exact pS hs (λa ha=>pP ha) (λ_ _=>pP trivial))
theorem p121(x:Int)(hx:0<=x):Pf (C63 (x,())) (λy=>(y.1=0->x<128/\y.2.1=x)/\(0<y.1->128<=x)):=by
 show Pf (F63 C63_c1 _) _;unfold F63;dsimp only;with_reducible repeat' (first|exact pN|apply pP|apply pX<;>intro _)
 . rename_i h
   exact⟨λ_=>⟨h,w32s (by omega)⟩,λh=>by cases h⟩
 all_goals
  refine pZ (p121_1 _ _) ?_;intro s hs;exact pS hs (λa ha=>pP ⟨λh=>by have h':a.1=0:=h;have ha':1<=a.1:=ha;omega,λ_=>by omega⟩) (λ_ _=>pP ⟨λh=>(by cases h),λh=>by cases h⟩)
theorem bits_k:((List.range 256).all λn => !(intBits BinOp.andNot IntKind.u8 (n:Int) 63==128)||decide (128<=n))=true:=by kernel_rfl
theorem bits_hi(c:UInt8)(h:intBits BinOp.andNot IntKind.u8 (c.toNat:Int) 63=128):128<=c.toNat:=by
 have:=all_eq_true.1 bits_k c.toNat (mem_range.2 c.toNat_lt)
 rw[h]at this;simpa using this
theorem p83_0(s:List UInt8)(n r at_:Int)(o:List Int)(h:0<=at_)(hn:0<=n/\n<=3)(hb:s.length<=1000000000000)(ha:at_<=s.length) :
 Pf (C34_l0 (s,n,r,at_,at_+1,o,())) (Sum.elim (λy=>∃r',y=(s,n,r',at_,o,())/\(n=0->r'=r)/\∀j:Nat,at_+1<=j->j<=at_+n->128<=(s.getD j 0).toNat) (λy=>y.1=at_)):=by
 refine pL ?I ?h _ ?hv
 case I=>exact(λv=>∃(k r':Int),v=(s,n,r',at_,k,o,())/\at_+1<=k/\(n=0->r'=r)/\∀j:Nat,at_+1<=j->j<k->128<=(s.getD j 0).toNat)
 case hv=>exact⟨_,_,rfl,Int.le_refl _,λ_=>rfl,λj h1 h2=>by omega⟩
 rintro v ⟨k,r',rfl,h1,h2,h3⟩;unfold F34_l0;dsimp only;rw[w64s (n:=at_+n) (by omega)];with_reducible repeat' (first|exact pN|apply pP|apply pX<;>intro _)
 . exact rfl
 . rename_i h4 h5 h6 h7
   rw[w64s (n:=k+1) (by omega)];refine⟨_,_,rfl,by omega,λh0=>by omega,λj h8 h9 => ?_⟩;by_cases hjk:(j:Int)<k
   . exact h3 j h8 hjk
   . have hj:j=k.toNat:=by omega
     subst hj;exact bits_hi _ h6
 . exact⟨_,rfl,h2,λj h8 h9=>h3 j h8 (by omega)⟩
theorem chunk_hi(s:List UInt8)(k m:Nat)(h:∀j,k<=j->j<k+m->128<=(s.getD j 0).toNat):∀x∈bi ((s.drop k).take m),kk x=false:=by
 intro x hx;obtain⟨c,hc,rfl⟩:=List.mem_map.1 hx;obtain⟨i,hi,rfl⟩:=mem_iff_getElem.1 hc;rw[length_take,length_drop]at hi;rw[getElem_take,getElem_drop];have:=h (k+i) (by omega) (by omega);rw[getD_lt (by omega)]at this;exact kk_hi (by omega)
theorem p83(s:List UInt8)(hb:s.length<=1000000000000):Pf (C34 (s,())) (λy=>y.2.1<0->Rr (bi s) y.1):=by
 show Pf (F34 C63 C64 C34_g0 C34_l1 _) _;unfold F34;dsimp only;refine pZ (P:=Sum.elim (λy=>Rr (bi s) y.1) (λy=>0<=y.1)) ?_ ?_
 . refine pL ?I ?h _ ?hv
   case I=>exact(λv=>∃(k:Int) (o:List Int),0<=k/\k<=s.length/\Rr (bi (s.take k.toNat)) o/\v=(s,k,o,()))
   case hv=>exact⟨0,[],Int.le_refl _,by omega,Rr.refl _,rfl⟩
   rintro v ⟨k,o,h0,h1,h2,rfl⟩;unfold F34_l1;dsimp only;with_reducible repeat' (first|exact pN|apply pP|apply pX<;>intro _)
   . rename_i h3 h4
     have hlt:k.toNat<s.length:=by omega
     refine pZ (pA (d121 _).pf (p121 _ (by omega))) ?_;rintro⟨n,r,u⟩ ⟨hn,hn0,hn1⟩;dsimp only at hn hn0 hn1 ⊢;rw[w64s (n:=(s.length:Int)-k) (by omega)];with_reducible repeat' (first|exact pN|apply pP|apply pX<;>intro _)
     . exact h0
     . exact h0
     . rename_i h5 h6
       rw[w64s (n:=k+1) (by omega)];refine pZ (p83_0 s n r k o h0 (by omega) hb h1) ?_;intro z hz;refine pS hz ?_ ?_
       . rintro y ⟨r',rfl,h7,h8⟩
         dsimp only;refine pZ pT ?_;rintro⟨m,u⟩ -
         dsimp only;rw[w64s (n:=n+1) (by omega),w64s (n:=k+(n+1)) (by omega)];with_reducible repeat' (first|exact pN|apply pP|apply pX<;>intro _)
         . exact h0
         . refine⟨_,_,by omega,by omega,?_,rfl⟩
           have e:s.take (k+(n+1)).toNat=s.take k.toNat++(s.drop k.toNat).take (n+1).toNat:=by
            rw[show (k+(n+1)).toNat=k.toNat+(n+1).toNat by omega,List.take_add]
           rw[e,bi_app];by_cases hz:n=0
           . have h9:=hn0 hz
             have e2:(s.drop k.toNat).take (n+1).toNat=[s[k.toNat]]:=by
              rw[show (n+1).toNat=1 by omega,List.drop_eq_getElem_cons hlt];rfl
             rw[e2];refine ap _ _ h2 λ_ => ?_;rw[h7 hz,h9.2,getD_lt hlt]
           . refine apn _ _ h2 ?_ (chunk_hi s k.toNat (n+1).toNat λj hj1 hj2 => ?_)
             . intro he
               have:=congrArg List.length he;simp only[bi,List.length_map,length_take,length_drop,length_nil]at this;omega
             . by_cases hjk:j=k.toNat
               . subst hjk
                 have:=hn1 (by omega);omega
               . exact h8 j (by omega) (by omega)
       . rintro⟨a,b,u⟩ ha
         dsimp only at ha ⊢;exact pP (by rw[ha];exact h0)
   . rw[take_of_length_le (by omega)]at h2
     exact h2
 . intro r hr
   refine pS hr ?_ ?_
   . rintro⟨a,u⟩ ha
     exact pP λ_=>ha
   . rintro⟨a,b,u⟩ ha
     exact pP λh=>by
      have h':a<0:=h;have ha':0<=a:=ha;omega
theorem p122(x:Int):Pf (C64 (x,())) (λy=>(y.1=1->0<=x/\x<=127)/\(y.1≠1->y.1=0\/127<x)):=by
 show Pf (F64 C98 _) _;unfold F64;dsimp only;refine pZ (d155 x).pf ?_;rintro⟨b,u⟩ hb;dsimp only at hb ⊢;with_reducible repeat' (first|exact pN|apply pP|apply pX<;>intro _)
 all_goals (dsimp only;refine⟨λh => ?_,λh => ?_⟩;all_goals first|omega|(have:=hb (by assumption);omega)|(cases h))
theorem bi1{r:Int}(h0:0<=r)(h1:r<=127):bi [UInt8.ofNat (IntKind.u8.wrap r).toNat]=[r]:=by
 have e:(UInt8.ofNat (IntKind.u8.wrap r).toNat).toNat=r.toNat:=by
  rw[wu8',UInt8.toNat_ofNat'];omega
 unfold bi;rw[List.map_cons,List.map_nil,e];congr 1;omega
theorem p178(l:List Int)(hb:l.length<=20000000000000):Pf (C82 (l,())) (λy=>(y.2.1=true->Rr l (bi y.1))/\(y.2.1=false->y.1=[])):=by
 show Pf (F82 C64 C82_l0 _) _;unfold F82;dsimp only;refine pZ (P:=Sum.elim (λy=>Rr l (bi y.1)) (λy=>y.1=[]/\y.2.1=false)) ?_ ?_
 . refine pL ?I ?h _ ?hv
   case I=>exact(λv=>∃(k:Int) (o:List UInt8),0<=k/\k<=l.length/\Rr (l.take k.toNat) (bi o)/\v=(l,(l.length:Int),k,o,()))
   case hv=>exact⟨0,[],Int.le_refl _,by omega,Rr.refl _,rfl⟩
   rintro v ⟨k,o,h0,h1,h2,rfl⟩;unfold F82_l0;dsimp only;with_reducible repeat' (first|exact pN|apply pP|apply pX<;>intro _)
   . rename_i h3 h4
     have hlt:k.toNat<l.length:=by omega
     refine pZ (p122 _) ?_;rintro⟨m,u⟩ ⟨hm1,hm2⟩;dsimp only at hm1 hm2 ⊢;have fin:∀ys:List UInt8,(kk (l.getD k.toNat 0)=true->bi ys=[l.getD k.toNat 0])->∃(k':Int) (o':List UInt8),0<=k'/\k'<=l.length/\Rr (l.take k'.toNat) (bi o')/\(l,(l.length:Int),IntKind.i64.wrap (k+1),o++ys,())=(l,(l.length:Int),k',o',()):=by
      intro ys hys;rw[w64s (n:=k+1) (by omega)];refine⟨_,_,by omega,by omega,?_,rfl⟩;rw[show (k+1).toNat=k.toNat+1 by omega,take_succ_get hlt,bi_app];rw[getD_lt hlt]at hys;exact ap _ _ h2 hys
     have hi:127<l.getD k.toNat 0->kk (l.getD k.toNat 0)=true->∀ys:List UInt8,bi ys=[l.getD k.toNat 0]:=λh hk=>by
      have:=(kk_iff _).1 hk;omega
     with_reducible repeat' (first|exact pN|apply pP|apply pX<;>intro _)
     . exact⟨rfl,rfl⟩
     . rename_i h5 h6 _
       have:=hm1 h6;exact fin _ λ_=>bi1 this.1 this.2
     . rename_i h5 h6 h7 _
       exact fin _ λhk=>hi (by have:=hm2 h6;omega) hk _
     . rename_i h5 h6 h7 h8 _
       exact fin _ λhk=>hi (by have:=hm2 h6;omega) hk _
     . rename_i h5 h6 h7 h8 h9 _
       exact fin _ λhk=>hi (by have:=hm2 h6;omega) hk _
     . rename_i h5 h6 h7 h8 h9
       have:=fin [] λhk=>hi (by have:=hm2 h6;omega) hk _;rw[append_nil]at this;exact this
   . rw[take_of_length_le (by omega)]at h2
     exact h2
 . intro r hr
   refine pS hr ?_ ?_
   . rintro⟨a,u⟩ ha
     exact pP ⟨λ_=>ha,λh=>by cases h⟩
   . rintro⟨a,b,u⟩ ⟨ha,hb⟩
     exact pP ⟨λh=>(by rw[hb]at h;cases h),λ_=>ha⟩
section
variable {T:List R6} {A:List R4} {B:List R3}
theorem p212(r:Int):Pf (C115 (T,A,B,r,())) (λy=>kk r=true->y.1=r):=by
 show Pf (F115 C119 _) _;unfold F115;dsimp only;with_reducible repeat' (first|exact pN|apply pP|apply pX<;>intro _)
 . exact λ_=>rfl
 . exact λ_=>rfl
 . exact pZ pT λ_ _=>pP λhk=>by have:=(kk_iff _).1 hk;omega
theorem p210(l:List Int)(hl:l.length<=1000000000000):Pf (C113 (l,T,A,B,())) (λy=>Rr l y.1):=by
 show Pf (F113 C115 C113_l0 _) _;unfold F113;dsimp only;refine pZ (P:=λy=>Rr l y.1) ?_ (λ_ h=>pP h);refine pL ?I ?h _ ?hv
 case I=>exact(λv=>∃(k:Int) (o:List Int),0<=k/\k<=l.length/\Rr (l.take k.toNat) o/\v=(T,A,B,l,(l.length:Int),k,o,()))
 case hv=>exact⟨0,[],Int.le_refl _,by omega,Rr.refl _,rfl⟩
 rintro v ⟨k,o,h0,h1,h2,rfl⟩;unfold F113_l0;dsimp only;with_reducible repeat' (first|exact pN|apply pP|apply pX<;>intro _)
 . have hlt:k.toNat<l.length:=by omega
   refine pZ (p212 _) ?_;rintro⟨m,u⟩ hm;dsimp only at hm ⊢;rw[w64s (n:=k+1) (by omega)];with_reducible repeat' (first|exact pN|apply pP|apply pX<;>intro _)
   refine⟨_,_,by omega,by omega,?_,rfl⟩;rw[show (k+1).toNat=k.toNat+1 by omega,take_succ_get hlt];rw[getD_lt hlt]at hm;exact ap _ _ h2 λhk=>by rw[hm hk]
 . rw[take_of_length_le (by omega)]at h2
   exact h2
theorem p210v1(hK:KT T A B)(l:List Int)(hl:l.length<=1000000000000):Pf (C113v1 (l,T,A,B,())) (λy=>Rr l y.1):=by
 show Pf (F113v1 C114 C113v1_l0 _) _;unfold F113v1;dsimp only;refine pZ (P:=λy=>Rr l y.1) ?_ (λ_ h=>pP h);refine pL ?I ?h _ ?hv
 case I=>exact(λv=>∃(k:Int) (o:List Int),0<=k/\k<=l.length/\Rr (l.take k.toNat) o/\v=(T,A,B,l,(l.length:Int),k,o,()))
 case hv=>exact⟨0,[],Int.le_refl _,by omega,Rr.refl _,rfl⟩
 rintro v ⟨k,o,h0,h1,h2,rfl⟩;unfold F113v1_l0;dsimp only;with_reducible repeat' (first|exact pN|apply pP|apply pX<;>intro _)
 . have hlt:k.toNat<l.length:=by omega
   refine pZ (P:=λy=>kk (l.getD k.toNat 0)=true->y.1=l.getD k.toNat 0) (λy e hk=>by rw[hK.lo _ hk]at e;cases e;rfl) ?_;rintro⟨m,u⟩ hm;dsimp only at hm ⊢;rw[w64s (n:=k+1) (by omega)];with_reducible repeat' (first|exact pN|apply pP|apply pX<;>intro _)
   refine⟨_,_,by omega,by omega,?_,rfl⟩;rw[show (k+1).toNat=k.toNat+1 by omega,take_succ_get hlt];rw[getD_lt hlt]at hm;exact ap _ _ h2 λhk=>by rw[hm hk]
 . rw[take_of_length_le (by omega)]at h2
   exact h2
theorem p180(l:List Int)(hl:l.length<=1000000000000):Pf (C84 (T,A,B,l,())) (λy=>Rr l y.1):=by
 unfold C84 F84;dsimp only;exact pZ (p210 l hl) λ_ h=>pP h
theorem p179(hK:KT T A B)(l:List Int)(hl:l.length<=1000000000000):Pf (C83 (T,A,B,l,())) (λy=>Rr l y.1):=by
 unfold C83 F83;dsimp only;exact pZ (p210v1 hK l hl) λ_ h=>pP h
theorem split_k1:(splitT.all λs => !kk s.1)=true:=by kernel_rfl
theorem pair_k:((splitT.filter λs => !s.2.2.2.1 && !s.2.2.2.2).all λs => !kk s.2.1 && !kk s.2.2.1)=true:=by kernel_rfl
theorem c216k{r:Int}(hk:kk r=true):C119 (T,A,B,r,())=some (0,0,0,false,false,false,()):=by
 have h:=(kk_iff r).1 hk;unfold C119;dsimp only;have e:(decide (65281<=r)&&decide (r<=65374))=false:=by simp;omega
 rw[e];have hs:splitD r=none:=by
  unfold splitD;rw[List.find?_eq_none];intro s hs he;have h1:=all_eq_true.1 split_k1 s hs;have h2:r=s.1:=by simpa using he
  rw[<-h2,hk]at h1;cases h1
 rw[hs];rfl
theorem p300(a b c:Int):Pf (C225 (a,b,c,())) (λy=>y.1=true->b<=a):=by
 show Pf (F225 _) _;unfold F225;dsimp only;with_reducible repeat' (first|exact pN|apply pP|apply pX<;>intro _)
 . exact λ_=>by omega
 . exact λh=>by cases h
theorem c300k{r:Int}(hk:kk r=true):C225 (r,44032,11172,())=some (false,()):=by
 have h:=(kk_iff r).1 hk;show F225 _=_;unfold F225;dsimp only;rw[decide_eq_false (by omega)];rfl
theorem p279(r:Int)(sf:Bool):Pf (C178 (T,A,B,r,sf,())) (λy=>kk r=true->y.1=[r]):=by
 show Pf (recN (λG=>F178 C119 G C225 C226 C227 (F178_c0 C119 G C225 C226 C227)) big _) _;refine pRn (P:=λ(v:List R6×List R4×List R3×Int×Bool×Unit) (y:List Int×Unit)=>kk v.2.2.2.1=true->y.1=[v.2.2.2.1]) ?_ big _;rintro G - ⟨T,A,B,r,sf,u⟩;by_cases hk:kk r=true
 . show Pf (F178 C119 G C225 C226 C227 (F178_c0 C119 G C225 C226 C227) (T,A,B,r,sf,())) _
   unfold F178;dsimp only;simp only[c216k hk,Option.bind_some,c300k hk,Bool.not_false,cond_true,cond_false];unfold F178_c0;dsimp only;simp only[cond_true,Option.bind_some,elim_inl];exact pP λ_=>rfl
 . exact pM pT λ_ _ h=>absurd h hk
theorem p240(l:List Int)(sf:Bool)(hl:l.length<=100000000000):Pf (C143 (T,A,B,l,sf,())) (λy=>Rr l y.1):=by
 show Pf (F143 C178 C143_l0 _) _;unfold F143;dsimp only;refine pZ (P:=λy=>Rr l y.1) ?_ (λ_ h=>pP h);refine pL ?I ?h _ ?hv
 case I=>exact(λv=>∃(k:Int) (o:List Int),0<=k/\k<=l.length/\Rr (l.take k.toNat) o/\v=(sf,l,(l.length:Int),k,T,A,B,o,()))
 case hv=>exact⟨0,[],Int.le_refl _,by omega,Rr.refl _,rfl⟩
 rintro v ⟨k,o,h0,h1,h2,rfl⟩;unfold F143_l0;dsimp only;with_reducible repeat' (first|exact pN|apply pP|apply pX<;>intro _)
 . have hlt:k.toNat<l.length:=by omega
   refine pZ (p279 _ _) ?_;rintro⟨z,u⟩ hz;dsimp only at hz ⊢;rw[w64s (n:=k+1) (by omega)];with_reducible repeat' (first|exact pN|apply pP|apply pX<;>intro _)
   refine⟨_,_,by omega,by omega,?_,rfl⟩;rw[show (k+1).toNat=k.toNat+1 by omega,take_succ_get hlt];rw[getD_lt hlt]at hz;exact ap _ _ h2 hz
 . rw[take_of_length_le (by omega)]at h2
   exact h2
theorem p303(a b:Int):Pf (C228 (T,A,B,a,b,())) (λy=>y.2.1=true->kk a=false/\kk b=false):=by
 unfold C228;dsimp only;cases hp:pairD a b with
 | none=>exact pP λh=>by cases h
 | some s =>
  refine pP λ_ => ?_;unfold pairD at hp;have h1:=all_eq_true.1 pair_k s (List.mem_of_find?_eq_some hp);have h2:=List.find?_some hp;simp only[Bool.and_eq_true,beq_iff_eq,Bool.not_eq_true']at h1 h2;rw[h2.1,h2.2];exact h1
theorem p280_0(a b:Int)(f:Bool)(hf:f=true->128<=a/\128<=b):Pf (C179_c0 (a,b,f,T,A,B,())) (Sum.elim (λy=>y.2.1=true->kk a=false/\kk b=false) (λy=>y=(a,b,T,A,B,()))):=by
 show Pf (F179_c0 C225 C228 _) _;unfold F179_c0;dsimp only;with_reducible repeat' (first|exact pN|apply pP|apply pX<;>intro _)
 . rename_i h
   have:=hf h;exact λ_=>⟨kk_hi this.1,kk_hi this.2⟩
 . refine pZ (p300 _ _ _) ?_
   rintro⟨z,u⟩ hz;dsimp only at hz ⊢;with_reducible repeat' (first|exact pN|apply pP|apply pX<;>intro _)
   . rename_i h1 h2
     have h3:=hz h1;refine pZ (p300 _ _ _) ?_;rintro⟨z,u⟩ hz';dsimp only at hz' ⊢;with_reducible repeat' (first|exact pN|apply pP|apply pX<;>intro _)
     . rename_i h4
       have h5:=hz' h4;exact λ_=>⟨kk_hi (by omega),kk_hi (by omega)⟩
     . exact rfl
   all_goals exact rfl
theorem p280(a b:Int):Pf (C179 (T,A,B,a,b,())) (λy=>y.2.1=true->kk a=false/\kk b=false):=by
 show Pf (F179 C225 C228 C179_c0 _) _;unfold F179;dsimp only;have fin:∀f,(f=true->128<=a/\128<=b)->Pf ((C179_c0 (a,b,f,T,A,B,())).bind λval=>Sum.elim (λval=>some (val.fst,val.snd.fst,())) (λval=>(C228 (val.snd.snd.fst,val.snd.snd.snd.fst,val.snd.snd.snd.snd.fst,val.fst,val.snd.fst,())).bind λval=>some (val.fst,val.snd.fst,())) val) (λy=>y.2.1=true->kk a=false/\kk b=false):=by
  intro f hf;refine pZ (p280_0 a b f hf) ?_;intro z hz;refine pS hz ?_ ?_
  . rintro⟨y1,y2,u⟩ h
    exact pP h
  . rintro y rfl
    refine pZ (p303 a b) ?_;rintro⟨y1,y2,u⟩ h;exact pP h
 refine pZ (p300 _ _ _) ?_;rintro⟨z,u⟩ hz;dsimp only at hz ⊢;with_reducible repeat' (first|exact pN|apply pP|apply pX<;>intro _)
 . rename_i h1
   have h2:=hz h1;refine pZ (p300 _ _ _) ?_;rintro⟨z,u⟩ hz';dsimp only at hz' ⊢;exact fin _ λh=>⟨by omega,by have:=hz' h;omega⟩
 . exact fin _ λh=>by cases h
theorem p241_0(x0 x1 x2 x3:Int)(x4:List Int)(x5 x6:Int)(x7:Bool)(x8:List R6)(x9:List R4)(x10:List R3)(x11:List Int) :
 Pf (C144_c0 (x0,x1,x2,x3,x4,x5,x6,x7,x8,x9,x10,x11,())) (Sum.elim (λy=>∃v,kk (x11.getD x0.toNat 0)=false/\kk x2=false/\y=(x0,x1,x4,x5,x6,x8,x9,x10,x11.set x0.toNat v,())) (λy=>y=(x0,x1,x2,x3,x4,x5,x6,x8,x9,x10,x11,()))):=by
 show Pf (F144_c0 C175 C179 _) _;unfold F144_c0;dsimp only;with_reducible repeat' (first|exact pN|apply pP|apply pX<;>intro _)
 . refine pZ (p280 _ _) ?_
   rintro⟨a,b,u⟩ hab;dsimp only at hab ⊢;with_reducible repeat' (first|exact pN|apply pP|apply pX<;>intro _)
   . rename_i h1 _
     have:=hab h1;exact⟨_,this.1,this.2,rfl⟩
   . exact rfl
 . exact rfl
theorem p241(l:List Int)(hl:l.length<=10000000000000):Pf (C144 (T,A,B,l,())) (λy=>Rr l y.1):=by
 show Pf (F144 C175 C179 C144_l0 _) _;unfold F144;dsimp only;refine pZ (P:=λy=>Rr l y.1) ?_ (λ_ h=>pP h);refine pL ?I ?h _ ?hv
 case I=>exact(λv=>∃(st la k:Int) (o:List Int),0<=k/\k<=l.length/\Rr (l.take k.toNat) o/\v=(st,la,l,(l.length:Int),k,T,A,B,o,()))
 case hv=>exact⟨-1,0,0,[],Int.le_refl _,by omega,Rr.refl _,rfl⟩
 rintro v ⟨st,la,k,o,h0,h1,h2,rfl⟩;have fin:∀(cl:Int) (f:Bool),k<l.length->Pf ((C144_c0 (st,la,l.getD k.toNat 0,cl,l,(l.length:Int),k,f,T,A,B,o,())).bind λval =>
  Sum.elim (λval=>some (Sum.inl (val.fst,val.snd.fst,val.snd.snd.fst,val.snd.snd.snd.fst,IntKind.i64.wrap (val.snd.snd.snd.snd.fst+1),val.snd.snd.snd.snd.snd.fst,val.snd.snd.snd.snd.snd.snd.fst,val.snd.snd.snd.snd.snd.snd.snd.fst,val.snd.snd.snd.snd.snd.snd.snd.snd.fst,())))
   (λval=>bif decide (List.length val.snd.snd.snd.snd.snd.snd.snd.snd.snd.snd.fst+[val.snd.snd.fst].length<=140737488355328/4)then
    bif val.snd.snd.snd.fst==0 then some (Sum.inl (IntKind.i64.wrap ((↑(val.snd.snd.snd.snd.snd.snd.snd.snd.snd.snd.fst++[val.snd.snd.fst]).length:Int)-1),0,val.snd.snd.snd.snd.fst,val.snd.snd.snd.snd.snd.fst,IntKind.i64.wrap (val.snd.snd.snd.snd.snd.snd.fst+1),val.snd.snd.snd.snd.snd.snd.snd.fst,val.snd.snd.snd.snd.snd.snd.snd.snd.fst,val.snd.snd.snd.snd.snd.snd.snd.snd.snd.fst,val.snd.snd.snd.snd.snd.snd.snd.snd.snd.snd.fst++[val.snd.snd.fst],()))
    else some (Sum.inl (val.fst,if val.snd.snd.snd.fst>val.snd.fst then val.snd.snd.snd.fst else val.snd.fst,val.snd.snd.snd.snd.fst,val.snd.snd.snd.snd.snd.fst,IntKind.i64.wrap (val.snd.snd.snd.snd.snd.snd.fst+1),val.snd.snd.snd.snd.snd.snd.snd.fst,val.snd.snd.snd.snd.snd.snd.snd.snd.fst,val.snd.snd.snd.snd.snd.snd.snd.snd.snd.fst,val.snd.snd.snd.snd.snd.snd.snd.snd.snd.snd.fst++[val.snd.snd.fst],()))
    else none) val)
  (Sum.elim (λv':Int×Int×List Int×Int×Int×List R6×List R4×List R3×List Int×Unit=>∃(st la k:Int) (o:List Int),0<=k/\k<=l.length/\Rr (l.take k.toNat) o/\v'=(st,la,l,(l.length:Int),k,T,A,B,o,())) (λy:List Int×Unit=>Rr l y.1)):=by
  intro cl f hlt;have hlt':k.toNat<l.length:=by omega
  refine pZ (p241_0 _ _ _ _ _ _ _ _ _ _ _ _) ?_;intro z hz;refine pS hz ?_ ?_
  . rintro y ⟨v,h3,h4,rfl⟩
    dsimp only;rw[w64s (n:=k+1) (by omega)];refine pP ⟨_,_,_,_,by omega,by omega,?_,rfl⟩;rw[show (k+1).toNat=k.toNat+1 by omega,take_succ_get hlt'];rw[getD_lt hlt']at h4;exact Rr.set _ h2 h4 _ _ h3
  . rintro y rfl
    dsimp only;rw[w64s (n:=k+1) (by omega)];with_reducible repeat' (first|exact pN|apply pP|apply pX<;>intro _)
    all_goals
     refine⟨_,_,_,_,by omega,by omega,?_,rfl⟩;rw[show (k+1).toNat=k.toNat+1 by omega,take_succ_get hlt',getD_lt hlt'];exact ap _ _ h2 λ_=>rfl
 unfold F144_l0;dsimp only;with_reducible repeat' (first|exact pN|apply pP|apply pX<;>intro _)
 . rename_i h4 h5
   refine pZ pT ?_;rintro⟨cl,u⟩ -
   dsimp only;with_reducible repeat' (first|exact pN|apply pP|apply pX<;>intro _)
   all_goals exact fin _ _ (by omega)
 . rw[take_of_length_le (by omega)]at h2
   exact h2
theorem p213(h:TK T A B)(hK:KT T A B)(s:List UInt8)(a:Bool)(hs:s.length<=100000000000):Pf (C116 (T,A,B,s,a,true,())) (λy=>y.2.1=true->Rr (bi s) (bi y.1)):=by
 unfold C116 F116;dsimp only;refine pZ (pA (d83 s (by omega)).pf (p83 s (by omega))) ?_;rintro⟨l,at_,u⟩ ⟨hl,hl'⟩;dsimp only at hl hl' ⊢;with_reducible repeat' (first|exact pN|apply pP|apply pX<;>intro _)
 . exact λh=>by cases h
 . rename_i hat
   have r1:=hl' (by omega);refine pZ (pA (d240 T A B l a (by omega)).pf (p240 l a (by omega))) ?_;rintro⟨l2,u⟩ ⟨h2,r2⟩;dsimp only at h2 r2 ⊢;refine pZ (pA (d239 h.a l2 (by omega)).pf (p239 hK l2 (by omega))) ?_;rintro⟨l3,u⟩ ⟨h3,r3⟩;dsimp only at h3 r3 ⊢;refine pZ (pA (d241 T A B l3 (by omega) h.a).pf (p241 l3 (by omega))) ?_;rintro⟨l4,u⟩ ⟨h4,r4⟩;dsimp only at h4 r4 ⊢;refine pZ (p178 l4 (by omega)) ?_;rintro⟨s5,b5,u⟩ ⟨h5,-⟩;exact pP λhb=>((r1.trans r2).trans (r3.trans r4)).trans (h5 hb)
theorem p181(h:TK T A B)(hK:KT T A B)(s:List UInt8)(hs:s.length<=100000000000):Pf (C85 (T,A,B,s,())) (λy=>y.2.1=true->Rr (bi s) (bi y.1)):=by
 unfold C85 F85;dsimp only;refine pZ (p213 h hK s false hs) ?_;rintro⟨x,b,u⟩ hx;exact pP hx
theorem p151(h:TK T A B)(hK:KT T A B)(s:List UInt8)(hs:s.length<=10000000000):Pf (C55 (T,A,B,s,())) (λy=>y.2.1=true->y.1=[]\/Rr (bi s) (bi y.1)):=by
 unfold C55 F55;dsimp only;refine pZ (pA (d83 s (by omega)).pf (p83 s (by omega))) ?_;rintro⟨l,at_,u⟩ ⟨hl,hl'⟩;dsimp only at hl hl' ⊢;with_reducible repeat' (first|exact pN|apply pP|apply pX<;>intro _)
 . exact λh=>by cases h
 . have r1:=hl' (by omega)
   refine pZ (pA (d180 T A B l (by omega)).pf (p180 l (by omega))) ?_;rintro⟨l2,u⟩ ⟨h2,r2⟩;dsimp only at h2 r2 ⊢;refine pZ (pA (d179 T A B h.b l2 (by omega)).pf (p179 hK l2 (by omega))) ?_;rintro⟨l3,u⟩ ⟨h3,r3⟩;dsimp only at h3 r3 ⊢;refine pZ (pA (d178 l3 (by omega)).pf (p178 l3 (by omega))) ?_;rintro⟨s4,b4,u⟩ ⟨h4,h5,h6⟩;dsimp only at h4 h5 h6 ⊢;refine pZ (pA (d181 h s4 (by omega)).pf (p181 h hK s4 (by omega))) ?_;rintro⟨s5,b5,u⟩ ⟨h7,h8⟩;refine pP λhb => ?_;dsimp only at h7 h8 hb ⊢;cases b4 with
   | true=>exact .inr ((r1.trans r2).trans ((r3.trans (h5 rfl)).trans (h8 hb)))
   | false =>
    rw[h6 rfl]at h7;exact .inl (List.eq_nil_of_length_eq_zero (by simpa using h7))
end
end Go.Proofs.YtbifjondkjgkmaaGreatDoorA.W
