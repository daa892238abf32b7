/- The texts of the proof, one behind the other: PR0, PR1, PS1, PS2, PS3, PS4, PS5, PU1, PU2, PU3, PL1, PL2, PL3, PL4, PL5, PUE, PR2, PF1, PS6, PR3, PR4, PF2. -/
import Derived.Test.YtbifjondkjgkmaaGreatDoorAMp6
import Derived.Test.YtbifjondkjgkmaaGreatDoorAMp3
set_option linter.unusedVariables false
set_option linter.unusedSimpArgs false
set_option maxRecDepth 100000
namespace Go.Proofs.YtbifjondkjgkmaaGreatDoorA.W
open Go Go.Ae
def Pf {α:Type} (x:Option α) (Q:α→Prop):Prop:=∀y,x=some y→Q y
section
variable {α β γ:Type} {Q:α→Prop}
theorem pP {y:α} (h:Q y):Pf (some y) Q:=fun _ e=>by cases e;exact h
theorem pN:Pf (none:Option α) Q:=fun _ e=>by cases e
theorem pT {x:Option α}:Pf x (fun _=>True):=fun _ _=>trivial
theorem pZ {x:Option β} {f:β→Option α} {P:β→Prop} (h:Pf x P) (hf:∀a,P a→Pf (f a) Q):Pf (x.bind f) Q:=by
 intro y e;cases x with
 | none=>cases e
 | some a=>exact hf a (h a rfl) y e
theorem pM {x:Option α} {P:α→Prop} (h:Pf x P) (hf:∀a,P a→Q a):Pf x Q:=fun y e=>hf y (h y e)
theorem pA {x:Option α} {P P':α→Prop} (h:Pf x P) (h':Pf x P'):Pf x fun y=>P y∧P' y:=fun y e=>⟨h y e,h' y e⟩
theorem pX {b:Bool} {p q:Prop} [r:Rd b p q] {x y:Option α} (h1:p→Pf x Q) (h2:q→Pf y Q):Pf (bif b then x else y) Q:=by
 have h:b=true∨b=false:=by cases b<;>simp
 rcases h with h|h
 · rw [h];exact h1 (r.t h)
 · rw [h];exact h2 (r.f h)
theorem pS {f:β→Option α} {g:γ→Option α} {s:β⊕γ} {P:β→Prop} {P':γ→Prop} (hs:Sum.elim P P' s) (h1:∀a,P a→Pf (f a) Q) (h2:∀b,P' b→Pf (g b) Q):Pf (Sum.elim f g s) Q:=by
 cases s with
 | inl a=>exact h1 a hs
 | inr b=>exact h2 b hs
theorem pLn {F:β→Option (β⊕α)} (I:β→Prop) (h:∀v,I v→Pf (F v) (Sum.elim I Q)):∀(n:Nat) (v:β),I v→Pf (loopN F n v) Q
 | 0,v,_=>fun _ e=>by cases e
 | n+1,v,hv=>by
  intro y e;simp only [loopN] at e;cases hF:F v with
  | none=>rw [hF] at e;cases e
  | some z =>
   have hz:=h v hv z hF;rw [hF] at e;cases z with
   | inl v'=>exact pLn I h n v' hz y e
   | inr y' =>
    have e':some y'=some y:=e;cases e';exact hz
theorem pL {F:β→Option (β⊕α)} (I:β→Prop) (h:∀v,I v→Pf (F v) (Sum.elim I Q)) (v:β) (hv:I v):Pf (loopN F big v) Q:=pLn I h big v hv
theorem pRn {F:(β→Option α)→β→Option α} {P:β→α→Prop} (h:∀G,(∀v,Pf (G v) (P v))→∀v,Pf (F G v) (P v)):∀(n:Nat) (v:β),Pf (recN F n v) (P v)
 | 0,v=>fun _ e=>by cases e
 | n+1,v=>h (recN F n) (pRn h n) v
theorem Df.pf {x:Option α} {P:α→Prop} (h:Df x P):Pf x P:=by
 obtain ⟨y,e,h⟩:=h;intro z ez;rw [e] at ez;cases ez;exact h
end
def kk (x:Int):Bool:=decide (0≤x)&&decide (x<128) && !(decide (97≤x)&&decide (x≤122)) && !(decide (65≤x)&&decide (x≤90)) && !(decide (48≤x)&&decide (x≤57)) && !decide (x=45)
theorem kk_iff (x:Int):kk x=true↔0≤x∧x<128∧(x<97∨122<x)∧(x<65∨90<x)∧(x<48∨57<x)∧x≠45:=by
 unfold kk;simp only [Bool.and_eq_true,Bool.not_eq_true',decide_eq_true_eq,Bool.and_eq_false_iff,decide_eq_false_iff_not];omega
theorem kk_hi {x:Int} (h:128≤x):kk x=false:=by
 cases hk:kk x with
 | false=>rfl
 | true=>have:=(kk_iff x).1 hk;omega
def stp (d:Bool) (s:Nat) (x:Int):Nat:=if 2≤s then 2 else if kk x=true then (if x=46∧d=true then s+1 else 2) else 0
def run (d:Bool) (s:Nat) (l:List Int):Nat:=l.foldl (stp d) s
theorem stp_mono (d:Bool) {s s':Nat} (h:s≤s') (x:Int):stp d s x≤stp d s' x:=by
 unfold stp;repeat' split
 all_goals omega
theorem stp_non (d:Bool) {s:Nat} {x:Int} (h:kk x=false):stp d s x=if 2≤s then 2 else 0:=by
 unfold stp;rw [h];simp
theorem stp_two (d:Bool) {s:Nat} (x:Int) (h:2≤s):stp d s x=2:=by
 unfold stp;rw [if_pos h]
theorem run_two (d:Bool):∀(l:List Int) {s:Nat},2≤s→2≤run d s l
 | [],_,h=>h
 | x::l,s,h=>run_two d l (Nat.le_of_eq (stp_two d x h).symm)
theorem run_app (d:Bool) (s:Nat) (p q:List Int):run d s (p++q)=run d (run d s p) q:=List.foldl_append
theorem run_cons (d:Bool) (s:Nat) (x:Int) (q:List Int):run d s (x::q)=run d (stp d s x) q:=rfl
def Rr (p q:List Int):Prop:=∀d,run d 1 p≤run d 1 q
theorem Rr.refl (p:List Int):Rr p p:=fun d=>Nat.le_refl _
theorem Rr.trans {p q r:List Int} (h:Rr p q) (h':Rr q r):Rr p r:=fun d=>Nat.le_trans (h d) (h' d)
theorem run_nons (d:Bool):∀(l:List Int) (s:Nat),l≠[]→(∀x∈l,kk x=false)→run d s l=if 2≤s then 2 else 0
 | [x],s,_,h=>stp_non d (h x List.mem_cons_self)
 | x::y::l,s,_,h=>by
  rw [run_cons,run_nons d (y::l) _ (by simp) fun z hz=>h z (List.mem_cons_of_mem _ hz),stp_non d (h x List.mem_cons_self)];split<;>simp
theorem ap {p q:List Int} (x:Int) (ys:List Int) (h:Rr p q) (hk:kk x=true→ys=[x]):Rr (p++[x]) (q++ys):=by
 intro d;rw [run_app,run_app];cases hx:kk x with
 | true=>rw [hk hx];exact stp_mono d (h d) x
 | false =>
  show stp d _ x≤_;rw [stp_non d hx];split
  · rename_i h2
    exact run_two d ys (Nat.le_trans h2 (h d))
  · exact Nat.zero_le _
theorem apn {p q:List Int} (xs ys:List Int) (h:Rr p q) (hn:xs≠[]) (hx:∀x∈xs,kk x=false):Rr (p++xs) (q++ys):=by
 intro d;rw [run_app,run_app,run_nons d xs _ hn hx];split
 · rename_i h2
   exact run_two d ys (Nat.le_trans h2 (h d))
 · exact Nat.zero_le _
theorem run_pt (d:Bool):∀(l r:List Int) (s s':Nat),s≤s'→r.length=l.length→(∀(i:Nat) (x:Int),l[i]? = some x→kk x=true→r[i]? = some x)→run d s l≤run d s' r
 | [],[],s,s',h,_,_=>h
 | [],_::_,_,_,_,h,_=>by simp at h
 | _::_,[],_,_,_,h,_=>by simp at h
 | x::l,y::r,s,s',h,hl,hp=>by
  have hl':r.length=l.length:=by simpa using hl
  have hp':∀(i:Nat) (x:Int),l[i]? = some x→kk x=true→r[i]? = some x:=fun i z h1 h2=>by
   have:=hp (i+1) z (by simpa using h1) h2;simpa using this
  rw [run_cons,run_cons];refine run_pt d l r _ _ ?_ hl' hp';cases hx:kk x with
  | true =>
   have:=hp 0 x (by simp) hx;simp only [List.getElem?_cons_zero,Option.some.injEq] at this;subst this;exact stp_mono d h y
  | false =>
   rw [stp_non d hx];split
   · rename_i h2
     rw [stp_two d y (by omega)];exact Nat.le_refl _
   · exact Nat.zero_le _
theorem Rr.pt {l r:List Int} (h:r.length=l.length) (hp:∀(i:Nat) (x:Int),l[i]? = some x→kk x=true→r[i]? = some x):Rr l r:=fun d=>run_pt d l r 1 1 (Nat.le_refl _) h hp
theorem Rr.set {p q:List Int} (x:Int) (h:Rr p q) (hx:kk x=false) (i:Nat) (v:Int) (hi:kk (q.getD i 0)=false):Rr (p++[x]) (q.set i v):=by
 intro d;rw [run_app];show stp d _ x≤_;rw [stp_non d hx];split
 · rename_i h2
   have h3:Rr q (q.set i v):=by
    refine Rr.pt List.length_set fun j z hj hz => ?_;by_cases hij:i=j
    · subst hij
      rw [List.getD_eq_getElem?_getD,hj] at hi;simp only [Option.getD_some] at hi;rw [hi] at hz;cases hz
    · rw [List.getElem?_set_ne hij];exact hj
   exact Nat.le_trans h2 (Nat.le_trans (h d) (h3 d))
 · exact Nat.zero_le _
def bi (s:List UInt8):List Int:=s.map fun c=>(c.toNat:Int)
theorem bi_app (p q:List UInt8):bi (p++q)=bi p++bi q:=List.map_append
theorem run_f (l:List Int):∀s:Nat,2≤run false s l↔2≤s∨∃x∈l,kk x=true:=by
 induction l with
 | nil=>intro s;simp [run]
 | cons y l ih =>
  intro s;rw [run_cons,ih];by_cases h2:2≤s
  · rw [stp_two _ _ h2];simp [h2]
  · cases hy:kk y with
    | true =>
     have:stp false s y=2:=by unfold stp;rw [if_neg h2,if_pos hy];simp
     rw [this];simp only [Nat.le_refl,true_or,true_iff];exact .inr ⟨y,List.mem_cons_self,hy⟩
    | false =>
     rw [stp_non _ hy,if_neg h2];constructor
     · rintro (h|⟨x,hx,hk⟩)
       · omega
       · exact .inr ⟨x,List.mem_cons_of_mem _ hx,hk⟩
     · rintro (h|⟨x,hx,hk⟩)
       · exact (h2 h).elim
       · rcases List.mem_cons.1 hx with rfl|hx
         · rw [hy] at hk;cases hk
         · exact .inr ⟨x,hx,hk⟩
theorem Rr.mem {p q:List Int} (h:Rr p q) (hp:∃x∈p,kk x=true):∃x∈q,kk x=true:=by
 have h1:=(run_f p 1).2 (.inr hp);rcases (run_f q 1).1 (Nat.le_trans h1 (h false)) with h|h
 · omega
 · exact h
def Fr (o n:Nat) (r r':List Int):Prop:=r'.length=r.length∧(∀i:Nat,i<o∨o+n≤i→r'[i]? = r[i]?)∧∀x∈r',x=0∨x∈r
theorem fr_refl {o n:Nat} {r:List Int}:Fr o n r r:=⟨rfl,fun _ _=>rfl,fun _ h => .inr h⟩
theorem gd0 (r:List Int) (i:Nat):r.getD i 0=0∨r.getD i 0∈r:=by
 by_cases h:i<r.length
 · rw [getD_lt h];exact .inr (List.getElem_mem _)
 · refine .inl ?_
   rw [List.getD_eq_getElem?_getD,List.getElem?_eq_none (by omega)];rfl
theorem fr_sw {o n k m:Nat} {r r':List Int} {x y:Int} (h:Fr o n r r') (hk:k<n) (hm:m<n) (hx:x=0∨x∈r') (hy:y=0∨y∈r'):Fr o n r ((r'.set (o+k) x).set (o+m) y) :=
 ⟨by rw [List.length_set,List.length_set];exact h.1,fun i hi=>by
  rw [List.getElem?_set_ne (by omega),List.getElem?_set_ne (by omega)];exact h.2.1 i hi,fun z hz=>by
  have key:∀z,z∈r'→z=0∨z∈r:=h.2.2;rcases List.mem_or_eq_of_mem_set hz with hz|rfl
  · rcases List.mem_or_eq_of_mem_set hz with hz|rfl
    · exact key z hz
    · exact hx.elim .inl (key _)
  · exact hy.elim .inl (key _)⟩
section
variable {T:List R6} {A:List R4} {B:List R3}
theorem p278 (a b:Int):Pf (C177 (a,b,T,A,B,())) (fun y=>y.2=(T,A,B,())):=by
 unfold C177 F177;dsimp only;exact pZ pT fun _ _=>pZ pT fun _ _=>pP rfl
theorem p310_0 (o n:Nat) (a b i j:Int) (row r:List Int) (h:Fr o n row r) :
 Pf (C242_c0 (((o:Int),(n:Int)),a,b,i,j,r,T,A,B,())) (fun y=>∃(a b i j:Int) (r':List Int),Fr o n row r'∧y=(((o:Int),(n:Int)),a,b,i,j,r',T,A,B,())):=by
 unfold C242_c0 F242_c0;dsimp only;simp only [Int.toNat_natCast];with_reducible repeat' (first|exact pN|apply pP|apply pX<;>intro _)
 exact ⟨_,_,_,_,_,fr_sw h (by omega) (by omega) (gd0 _ _) (gd0 _ _),rfl⟩
theorem p310_1 (o n:Nat) (a b i j:Int) (row r:List Int) (h:Fr o n row r) :
 Pf (C242_l0 (((o:Int),(n:Int)),a,b,i,j,r,T,A,B,())) (fun y=>∃(a b i:Int) (r':List Int),Fr o n row r'∧y=(((o:Int),(n:Int)),a,b,i,r',T,A,B,())):=by
 refine pL ?I ?h _ ?hv
 case I=>exact (fun v=>∃(a b i j:Int) (r':List Int),Fr o n row r'∧v=(((o:Int),(n:Int)),a,b,i,j,r',T,A,B,()))
 case hv=>exact ⟨_,_,_,_,_,h,rfl⟩
 rintro v ⟨a,b,i,j,r',h1,rfl⟩;unfold F242_l0;dsimp only;simp only [Int.toNat_natCast];with_reducible repeat' (first|exact pN|apply pP|apply pX<;>intro _)
 · refine pZ (p278 _ _) ?_
   rintro ⟨c,t,a',b',u⟩ hc;simp only [Prod.mk.injEq] at hc;obtain ⟨rfl,rfl,rfl,-⟩:=hc;dsimp only;with_reducible repeat' (first|exact pN|apply pP|apply pX<;>intro _)
   · refine pZ (p310_0 o n a b i j row r' h1) ?_
     rintro y ⟨a,b,i,j,r2,h4,rfl⟩;dsimp only;simp only [Int.toNat_natCast];exact pP ⟨_,_,_,_,_,h4,rfl⟩
   · exact ⟨_,_,_,_,h1,rfl⟩
 · exact ⟨_,_,_,_,h1,rfl⟩
theorem p310 (o n:Nat) (a b:Int) (row r:List Int) (h:Fr o n row r) :
 Pf (C242 (((o:Int),(n:Int)),a,b,r,T,A,B,())) (fun y=>∃(r':List Int),Fr o n row r'∧y=(r',T,A,B,())):=by
 unfold C242 F242;dsimp only;simp only [Int.toNat_natCast];refine pZ (P:=fun y=>∃(r':List Int),Fr o n row r'∧y=(r',T,A,B,())) ?_ ?_
 · refine pL ?I ?h _ ?hv
   case I=>exact (fun v=>∃(a b i:Int) (r':List Int),Fr o n row r'∧v=(((o:Int),(n:Int)),a,b,i,r',T,A,B,()))
   case hv=>exact ⟨_,_,_,_,h,rfl⟩
   rintro v ⟨a,b,i,r',h2,rfl⟩;unfold F242_l1;dsimp only;simp only [Int.toNat_natCast];with_reducible repeat' (first|exact pN|apply pP|apply pX<;>intro _)
   · refine pZ (p310_1 o n a b i i row r' h2) ?_
     rintro y ⟨a,b,i,r2,h4,rfl⟩;dsimp only;simp only [Int.toNat_natCast];exact pP ⟨_,_,_,_,h4,rfl⟩
   · exact ⟨_,h2,rfl⟩
 · rintro y ⟨r',h,rfl⟩
   exact pP ⟨_,h,rfl⟩
theorem p316 (o n:Nat) (a b k:Int) (row r:List Int) (h:Fr o n row r) :
 Pf (C255 (((o:Int),(n:Int)),a,b,k,r,T,A,B,())) (fun y=>∃(r':List Int),Fr o n row r'∧y=(r',T,A,B,())):=by
 unfold C255 F255;dsimp only;simp only [Int.toNat_natCast];refine pZ (P:=fun y=>∃(r':List Int),Fr o n row r'∧y=(r',T,A,B,())) ?_ ?_
 · refine pL ?I ?h _ ?hv
   case I=>exact (fun v=>∃(a b k i:Int) (r':List Int),Fr o n row r'∧v=(((o:Int),(n:Int)),a,b,k,i,r',T,A,B,()))
   case hv=>exact ⟨_,_,_,_,_,h,rfl⟩
   rintro v ⟨a,b,k,i,r',h2,rfl⟩;unfold F255_l0;dsimp only;simp only [Int.toNat_natCast];with_reducible repeat' (first|exact pN|apply pP|apply pX<;>intro _)
   · exact ⟨_,_,_,_,_,fr_sw h2 (by omega) (by omega) (gd0 _ _) (gd0 _ _),rfl⟩
   · exact ⟨_,h2,rfl⟩
 · rintro y ⟨r',h,rfl⟩
   exact pP ⟨_,h,rfl⟩
theorem p315 (o n:Nat) (a m b:Int) (row r:List Int) (h:Fr o n row r) :
 Pf (C249 (((o:Int),(n:Int)),a,m,b,r,T,A,B,())) (fun y=>∃(r':List Int),Fr o n row r'∧y=(r',T,A,B,())):=by
 unfold C249 F249;dsimp only;simp only [Int.toNat_natCast];refine pZ (P:=fun y=>∃(m i:Int) (r':List Int),Fr o n row r'∧y=(((o:Int),(n:Int)),m,i,r',T,A,B,())) ?_ ?_
 · refine pL ?I ?h _ ?hv
   case I=>exact (fun v=>∃(m i j:Int) (r':List Int),Fr o n row r'∧v=(((o:Int),(n:Int)),m,i,j,r',T,A,B,()))
   case hv=>exact ⟨_,_,_,_,h,rfl⟩
   rintro v ⟨m,i,j,r',h5,rfl⟩;unfold F249_l0;dsimp only;simp only [Int.toNat_natCast];with_reducible repeat' (first|exact pN|apply pP|apply pX<;>intro _)
   · refine pZ (p316 o n _ _ _ row r' h5) ?_
     rintro y ⟨r2,h6,rfl⟩;exact pP ⟨_,_,_,_,h6,rfl⟩
   · refine pZ (p316 o n _ _ _ row r' h5) ?_
     rintro y ⟨r2,h6,rfl⟩;exact pP ⟨_,_,_,_,h6,rfl⟩
   · exact ⟨_,_,_,h5,rfl⟩
 · rintro y ⟨m,i,r',h4,rfl⟩
   dsimp only;simp only [Int.toNat_natCast];refine pZ (p316 o n _ _ _ row r' h4) ?_;rintro y ⟨r2,h6,rfl⟩;exact pP ⟨_,h6,rfl⟩
theorem p311_0 (G:T243) (o n:Nat) (a i j:Int) (row:List Int) :
 Pf (C243_l0 G (((o:Int),(n:Int)),a,i,j,row,T,A,B,())) (fun y=>∃(a i':Int),y=(((o:Int),(n:Int)),a,i',row,T,A,B,())):=by
 refine pL ?I ?h _ ?hv
 case I=>exact (fun v=>∃(a i' j':Int),v=(((o:Int),(n:Int)),a,i',j',row,T,A,B,()))
 case hv=>exact ⟨_,_,_,rfl⟩
 rintro v ⟨a,i',j',rfl⟩;unfold F243_l0;dsimp only;simp only [Int.toNat_natCast];with_reducible repeat' (first|exact pN|apply pP|apply pX<;>intro _)
 · refine pZ (p278 _ _) ?_
   rintro ⟨c,t,a',b',u⟩ hc;simp only [Prod.mk.injEq] at hc;obtain ⟨rfl,rfl,rfl,-⟩:=hc;dsimp only;with_reducible repeat' (first|exact pN|apply pP|apply pX<;>intro _)
   all_goals exact ⟨_,_,_,rfl⟩
 · exact ⟨_,_,rfl⟩
theorem p311_2 (G:T243) (o n:Nat) (a i j:Int) (row:List Int) :
 Pf (C243_l2 G (((o:Int),(n:Int)),a,i,j,row,T,A,B,())) (fun y=>∃(a i':Int),y=(((o:Int),(n:Int)),a,i',row,T,A,B,())):=by
 refine pL ?I ?h _ ?hv
 case I=>exact (fun v=>∃(a i' j':Int),v=(((o:Int),(n:Int)),a,i',j',row,T,A,B,()))
 case hv=>exact ⟨_,_,_,rfl⟩
 rintro v ⟨a,i',j',rfl⟩;unfold F243_l2;dsimp only;simp only [Int.toNat_natCast];with_reducible repeat' (first|exact pN|apply pP|apply pX<;>intro _)
 · refine pZ (p278 _ _) ?_
   rintro ⟨c,t,a',b',u⟩ hc;simp only [Prod.mk.injEq] at hc;obtain ⟨rfl,rfl,rfl,-⟩:=hc;dsimp only;with_reducible repeat' (first|exact pN|apply pP|apply pX<;>intro _)
   all_goals exact ⟨_,_,_,rfl⟩
 · exact ⟨_,_,rfl⟩
theorem p311_1 (G:T243) (o n:Nat) (i k:Int) (row r:List Int) (h:Fr o n row r) :
 Pf (C243_l1 G (((o:Int),(n:Int)),i,k,r,T,A,B,())) (fun y=>∃(r':List Int),Fr o n row r'∧y=(r',T,A,B,())):=by
 refine pL ?I ?h _ ?hv
 case I=>exact (fun v=>∃(i k:Int) (r':List Int),Fr o n row r'∧v=(((o:Int),(n:Int)),i,k,r',T,A,B,()))
 case hv=>exact ⟨_,_,_,h,rfl⟩
 rintro v ⟨i,k,r',h2,rfl⟩;unfold F243_l1;dsimp only;simp only [Int.toNat_natCast];with_reducible repeat' (first|exact pN|apply pP|apply pX<;>intro _)
 · exact ⟨_,_,_,fr_sw h2 (by omega) (by omega) (gd0 _ _) (gd0 _ _),rfl⟩
 · exact ⟨_,h2,rfl⟩
theorem p311_3 (G:T243) (o n:Nat) (i k:Int) (row r:List Int) (h:Fr o n row r) :
 Pf (C243_l3 G (((o:Int),(n:Int)),i,k,r,T,A,B,())) (fun y=>∃(r':List Int),Fr o n row r'∧y=(r',T,A,B,())):=by
 refine pL ?I ?h _ ?hv
 case I=>exact (fun v=>∃(i k:Int) (r':List Int),Fr o n row r'∧v=(((o:Int),(n:Int)),i,k,r',T,A,B,()))
 case hv=>exact ⟨_,_,_,h,rfl⟩
 rintro v ⟨i,k,r',h2,rfl⟩;unfold F243_l3;dsimp only;simp only [Int.toNat_natCast];with_reducible repeat' (first|exact pN|apply pP|apply pX<;>intro _)
 · exact ⟨_,_,_,fr_sw h2 (by omega) (by omega) (gd0 _ _) (gd0 _ _),rfl⟩
 · exact ⟨_,h2,rfl⟩
theorem p311_4 (G:T243) (o n:Nat) (a m b mid s st r p:Int) (row:List Int) :
 Pf (C243_l4 G (((o:Int),(n:Int)),a,m,b,mid,s,st,r,p,row,T,A,B,())) (fun y=>∃(a m b mid s st':Int),y=(((o:Int),(n:Int)),a,m,b,mid,s,st',row,T,A,B,())):=by
 refine pL ?I ?h _ ?hv
 case I=>exact (fun v=>∃(a m b mid s i' j' p:Int),v=(((o:Int),(n:Int)),a,m,b,mid,s,i',j',p,row,T,A,B,()))
 case hv=>exact ⟨_,_,_,_,_,_,_,_,rfl⟩
 rintro v ⟨a,m,b,mid,s,i',j',p,rfl⟩;unfold F243_l4;dsimp only;simp only [Int.toNat_natCast];with_reducible repeat' (first|exact pN|apply pP|apply pX<;>intro _)
 · refine pZ (p278 _ _) ?_
   rintro ⟨c,t,a',b',u⟩ hc;simp only [Prod.mk.injEq] at hc;obtain ⟨rfl,rfl,rfl,-⟩:=hc;dsimp only;with_reducible repeat' (first|exact pN|apply pP|apply pX<;>intro _)
   all_goals exact ⟨_,_,_,_,_,_,_,_,rfl⟩
 · exact ⟨_,_,_,_,_,_,rfl⟩
def Mq (T:List R6) (A:List R4) (B:List R3) (G:T243) (o n:Nat):Prop:=∀(a m b:Int) (row r:List Int),Fr o n row r →
 Pf (G (((o:Int),(n:Int)),a,m,b,r,T,A,B,())) (fun y=>∃(r':List Int),Fr o n row r'∧y=(r',T,A,B,()))
theorem p311_c0 (G:T243) (o n:Nat) (hG:Mq T A B G o n) (b mid e:Int) (row r:List Int) (h:Fr o n row r) :
 Pf (C243_c0 G (((o:Int),(n:Int)),b,mid,e,r,T,A,B,())) (fun y=>∃(r':List Int),Fr o n row r'∧y=(r',T,A,B,())):=by
 show Pf (F243_c0 C177 G C249 _) _;unfold F243_c0;dsimp only;simp only [Int.toNat_natCast];with_reducible repeat' (first|exact pN|apply pP|apply pX<;>intro _)
 · refine pZ (hG mid e b row r h) ?_
   rintro y ⟨r',h,rfl⟩;exact pP ⟨_,h,rfl⟩
 · exact ⟨_,h,rfl⟩
 · exact ⟨_,h,rfl⟩
theorem p311_c1 (G:T243) (o n:Nat) (hG:Mq T A B G o n) (a b mid st e:Int) (row r:List Int) (h:Fr o n row r) :
 Pf (C243_c1 G (((o:Int),(n:Int)),a,b,mid,st,e,r,T,A,B,())) (fun y=>∃(r':List Int),Fr o n row r'∧y=(r',T,A,B,())):=by
 show Pf (F243_c1 C177 G C249 (C243_c0 G) _) _;unfold F243_c1;dsimp only;simp only [Int.toNat_natCast];have fin:∀r0:List Int,Fr o n row r0→Pf ((C243_c0 G (((o:Int),(n:Int)),b,mid,e,r0,T,A,B,())).bind fun val=>some (val.fst,val.snd.fst,val.snd.snd.fst,val.snd.snd.snd.fst,())) (fun y=>∃(r':List Int),Fr o n row r'∧y=(r',T,A,B,())):=by
  intro r0 hr;refine pZ (p311_c0 G o n hG b mid e row r0 hr) ?_;rintro y ⟨r',h,rfl⟩;exact pP ⟨_,h,rfl⟩
 with_reducible repeat' (first|exact pN|apply pP|apply pX<;>intro _)
 · refine pZ (hG a st mid row r h) ?_
   rintro y ⟨r',h,rfl⟩;exact fin r' h
 · exact fin r h
 · exact fin r h
theorem p311_c2 (G:T243) (o n:Nat) (hG:Mq T A B G o n) (a m b mid s st q:Int) (row r:List Int) (h:Fr o n row r) :
 Pf (C243_c2 G (((o:Int),(n:Int)),a,m,b,mid,s,st,q,r,T,A,B,())) (fun y=>∃(r':List Int),Fr o n row r'∧y=(r',T,A,B,())):=by
 show Pf (F243_c2 C177 G C249 (C243_c1 G) (C243_l4 G) _) _;unfold F243_c2;dsimp only;simp only [Int.toNat_natCast];refine pZ (p311_4 G o n a m b mid s st q _ r) ?_;rintro y ⟨a,m,b,mid,s,st',rfl⟩;dsimp only;simp only [Int.toNat_natCast];have fin:∀(e:Int) (r0:List Int),Fr o n row r0→Pf ((C243_c1 G (((o:Int),(n:Int)),a,b,mid,st',e,r0,T,A,B,())).bind fun val=>some (val.fst,val.snd.fst,val.snd.snd.fst,val.snd.snd.snd.fst,())) (fun y=>∃(r':List Int),Fr o n row r'∧y=(r',T,A,B,())):=by
  intro e r0 hr0;refine pZ (p311_c1 G o n hG a b mid st' e row r0 hr0) ?_;rintro y ⟨r',h,rfl⟩;exact pP ⟨_,h,rfl⟩
 with_reducible repeat' (first|exact pN|apply pP|apply pX<;>intro _)
 · refine pZ (p315 o n _ _ _ row r h) ?_
   rintro y ⟨r',h,rfl⟩;exact fin _ r' h
 · exact fin _ r h
 · exact fin _ r h
theorem p311r (o n:Nat):∀k:Nat,Mq T A B (recN FF311 k) o n
 | 0=>fun a m b row r h=>fun _ e=>by cases e
 | k+1=>fun a m b row r h=>by
  have hG:=p311r o n k;show Pf (FF311 (recN FF311 k) _) _;generalize recN FF311 k=G at hG ⊢;show Pf (F243 C177 G C249 (C243_c2 G) (C243_l0 G) (C243_l1 G) (C243_l2 G) (C243_l3 G) _) _;unfold F243;dsimp only;simp only [Int.toNat_natCast];have fin:∀{x:Option (List Int×List R6×List R4×List R3×Unit)},Pf x (fun y=>∃(r':List Int),Fr o n row r'∧y=(r',T,A,B,()))→Pf (x.bind fun val=>some (val.fst,val.snd.fst,val.snd.snd.fst,val.snd.snd.snd.fst,())) (fun y=>∃(r':List Int),Fr o n row r'∧y=(r',T,A,B,())):=by
   intro x hx;refine pZ hx ?_;rintro y ⟨r',h,rfl⟩;exact pP ⟨_,h,rfl⟩
  with_reducible repeat' (first|exact pN|apply pP|apply pX<;>intro _)
  · refine pZ (p311_0 G o n _ _ _ r) ?_
    rintro y ⟨a',i',rfl⟩;dsimp only;simp only [Int.toNat_natCast];exact fin (p311_1 G o n _ _ row r h)
  · refine pZ (p311_2 G o n _ _ _ r) ?_
    rintro y ⟨a',i',rfl⟩;dsimp only;simp only [Int.toNat_natCast];exact fin (p311_3 G o n _ _ row r h)
  · exact fin (p311_c2 G o n hG _ _ _ _ _ _ _ row r h)
  · exact fin (p311_c2 G o n hG _ _ _ _ _ _ _ row r h)
theorem p311 (o n:Nat) (a m b:Int) (row r:List Int) (h:Fr o n row r) :
 Pf (C243 (((o:Int),(n:Int)),a,m,b,r,T,A,B,())) (fun y=>∃(r':List Int),Fr o n row r'∧y=(r',T,A,B,())):=by
 show Pf (recN FF311 big _) _;exact p311r o n big a m b row r h
theorem p299_0 (o n:Nat) (x y' z w:Int) (row r:List Int) (h:Fr o n row r) :
 Pf (C224_l0 (((o:Int),(n:Int)),x,y',z,w,r,T,A,B,())) (fun y=>∃(x y' a:Int) (r':List Int),Fr o n row r'∧y=(((o:Int),(n:Int)),x,y',a,r',T,A,B,())):=by
 refine pL ?I ?h _ ?hv
 case I=>exact (fun v=>∃(x y' z w:Int) (r':List Int),Fr o n row r'∧v=(((o:Int),(n:Int)),x,y',z,w,r',T,A,B,()))
 case hv=>exact ⟨_,_,_,_,_,h,rfl⟩
 rintro v ⟨x,y',z,w,r',h3,rfl⟩;unfold F224_l0;dsimp only;simp only [Int.toNat_natCast];with_reducible repeat' (first|exact pN|apply pP|apply pX<;>intro _)
 · refine pZ (p310 o n _ _ row r' h3) ?_
   rintro y ⟨r2,h4,rfl⟩;exact pP ⟨_,_,_,_,_,h4,rfl⟩
 · exact ⟨_,_,_,_,h3,rfl⟩
theorem p299_1 (o n:Nat) (x y' z w:Int) (row r:List Int) (h:Fr o n row r) :
 Pf (C224_l1 (((o:Int),(n:Int)),x,y',z,w,r,T,A,B,())) (fun y=>∃(x y' a:Int) (r':List Int),Fr o n row r'∧y=(((o:Int),(n:Int)),x,y',a,r',T,A,B,())):=by
 refine pL ?I ?h _ ?hv
 case I=>exact (fun v=>∃(x y' z w:Int) (r':List Int),Fr o n row r'∧v=(((o:Int),(n:Int)),x,y',z,w,r',T,A,B,()))
 case hv=>exact ⟨_,_,_,_,_,h,rfl⟩
 rintro v ⟨x,y',z,w,r',h3,rfl⟩;unfold F224_l1;dsimp only;simp only [Int.toNat_natCast];with_reducible repeat' (first|exact pN|apply pP|apply pX<;>intro _)
 · refine pZ (p311 o n _ _ _ row r' h3) ?_
   rintro y ⟨r2,h4,rfl⟩;exact pP ⟨_,_,_,_,_,h4,rfl⟩
 · exact ⟨_,_,_,_,h3,rfl⟩
theorem p299 (o n:Nat) (x:Int) (row r:List Int) (h:Fr o n row r) :
 Pf (C224 (((o:Int),(n:Int)),x,r,T,A,B,())) (fun y=>∃(r':List Int),Fr o n row r'∧y=(r',T,A,B,())):=by
 unfold C224 F224;dsimp only;simp only [Int.toNat_natCast];refine pZ (p299_0 o n _ _ _ _ row r h) ?_;rintro y ⟨x,z,a,r1,h3,rfl⟩;dsimp only;simp only [Int.toNat_natCast];refine pZ (p310 o n _ _ row r1 h3) ?_;rintro y ⟨r2,h4,rfl⟩;dsimp only;refine pZ (P:=fun y=>∃(r':List Int),Fr o n row r'∧y=(r',T,A,B,())) ?_ ?_
 · refine pL ?I ?h _ ?hv
   case I=>exact (fun v=>∃(x bs:Int) (r':List Int),Fr o n row r'∧v=(((o:Int),(n:Int)),x,bs,r',T,A,B,()))
   case hv=>exact ⟨_,_,r2,h4,rfl⟩
   rintro v ⟨x,bs,r',h7,rfl⟩;unfold F224_l2;dsimp only;simp only [Int.toNat_natCast];with_reducible repeat' (first|exact pN|apply pP|apply pX<;>intro _)
   · refine pZ (p299_1 o n _ _ _ _ row r' h7) ?_
     rintro y ⟨x,bs,a,r3,h10,rfl⟩;dsimp only;simp only [Int.toNat_natCast];with_reducible repeat' (first|exact pN|apply pP|apply pX<;>intro _)
     · refine pZ (p311 o n _ _ _ row r3 h10) ?_
       rintro y ⟨r4,h11,rfl⟩;exact pP ⟨_,_,_,h11,rfl⟩
     · exact ⟨_,_,_,h10,rfl⟩
   · exact ⟨_,h7,rfl⟩
 · rintro y ⟨r',h,rfl⟩
   exact pP ⟨_,h,rfl⟩
theorem p277 (o n:Nat) (row:List Int) :
 Pf (C176 (((o:Int),(n:Int)),row,T,A,B,())) (fun y=>∃(r':List Int),Fr o n row r'∧y=(r',T,A,B,())):=by
 unfold C176 F176;dsimp only;simp only [Int.toNat_natCast];refine pZ (p299 o n _ row row fr_refl) ?_;rintro y ⟨r',h,rfl⟩;exact pP ⟨_,h,rfl⟩
structure KT (T:List R6) (A:List R4) (B:List R3):Prop where
 cl:∀x,kk x=true→C175 (T,A,B,x,())=some (0,())
 lo:∀x,kk x=true→C114 (T,A,B,x,())=some (x,())
 ca:∀x,kk x=true→C120 (T,A,B,x,())=some (false,())
theorem p239_0 (f k:Int) (row:List Int) :
 Pf (C142_c0 (f,k,T,A,B,row,())) (fun y=>∃(r':List Int),0≤f∧Fr f.toNat (k.toNat-f.toNat) row r'∧y=(IntKind.i64.wrap (k+1),k,T,A,B,r',())):=by
 unfold C142_c0 F142_c0;dsimp only;with_reducible repeat' (first|exact pN|apply pP|apply pX<;>intro _)
 rename_i h1 h2;refine pZ (p277 f.toNat (k.toNat-f.toNat) row) ?_;rintro y ⟨r',h,rfl⟩;exact pP ⟨_,h2.1,h,rfl⟩
theorem p239 (hK:KT T A B) (l:List Int) (hl:l.length≤35184372088832):Pf (C142 (T,A,B,l,())) (fun y=>Rr l y.1):=by
 unfold C142 F142;dsimp only;refine pZ (P:=fun y=>y.1=l) ?_ ?_
 · unfold C174
   dsimp only;with_reducible repeat' (first|exact pN|apply pP|apply pX<;>intro _)
   rfl
 rintro ⟨l',u⟩ hl';dsimp only at hl' ⊢;subst hl';refine pZ (P:=fun y=>Rr l' y.1) ?_ (fun _ h=>pP h);refine pL ?I ?h _ ?hv
 case I=>exact (fun v=>∃(f:Int) (k:Int) (r':List Int),0≤f∧f≤k∧k≤l'.length+1∧r'.length=l'.length∧(∀(i:Nat) (x:Int),l'[i]? = some x→kk x=true→r'[i]? = some x)∧(∀i:Nat,f≤i→i<k→∀x,r'[i]? = some x→kk x=false)∧v=(f,k,T,A,B,r',()))
 case hv=>exact ⟨0,0,l',Int.le_refl _,Int.le_refl _,by omega,rfl,fun _ _ h _=>h,fun i _ h=>by omega,rfl⟩
 rintro v ⟨f,k,r',h1,h2,h3,h4,h5,h6,rfl⟩;unfold F142_l0;dsimp only;have fin:k≤r'.length→Pf ((C142_c0 (f,k,T,A,B,r',())).bind fun val=>some (Sum.inl (val.fst,IntKind.i64.wrap (val.snd.fst+1),val.snd.snd.fst,val.snd.snd.snd.fst,val.snd.snd.snd.snd.fst,val.snd.snd.snd.snd.snd.fst,())))
  (Sum.elim (fun v':Int×Int×List R6×List R4×List R3×List Int×Unit=>∃(f:Int) (k:Int) (r':List Int),0≤f∧f≤k∧k≤l'.length+1∧r'.length=l'.length∧(∀(i:Nat) (x:Int),l'[i]? = some x→kk x=true→r'[i]? = some x)∧(∀i:Nat,f≤i→i<k→∀x,r'[i]? = some x→kk x=false)∧v'=(f,k,T,A,B,r',())) (fun y:List Int×Unit=>Rr l' y.1)):=by
  intro hk;refine pZ (p239_0 f k r') ?_;rintro y ⟨r2,h7,h8,rfl⟩;dsimp only;rw [w64s (n:=k+1) (by omega)];refine pP ⟨_,_,_,by omega,Int.le_refl _,by omega,h8.1.trans h4,?_,fun i _ _=>by omega,rfl⟩;intro i x hi hx;have hr:=h5 i x hi hx;rw [h8.2.1 i]
  · exact hr
  · by_cases hik:f≤i∧(i:Int)<k
    · have:=h6 i hik.1 hik.2 x hr
      rw [this] at hx;cases hx
    · omega
 with_reducible repeat' (first|exact pN|apply pP|apply pX<;>intro _)
 · rename_i h7 h8 h9
   refine pZ (pM (P:=fun y=>kk (r'.getD k.toNat 0)=true→y.1=0) (fun y e hk=>by
    rw [hK.cl _ hk] at e;cases e;rfl) fun _ h=>h) ?_
   rintro ⟨c,u⟩ hc;dsimp only at hc ⊢;with_reducible repeat' (first|exact pN|apply pP|apply pX<;>intro _)
   · rename_i h10
     rw [w64s (n:=k+1) (by omega)];refine ⟨_,_,_,h1,by omega,by omega,h4,h5,fun i hi hik x hx => ?_,rfl⟩;by_cases hlt:(i:Int)<k
     · exact h6 i hi hlt x hx
     · have hik':i=k.toNat:=by omega
       subst hik';cases hkx:kk x with
       | false=>rfl
       | true =>
        have:r'.getD k.toNat 0=x:=by rw [List.getD_eq_getElem?_getD,hx];rfl
        rw [this] at hc;have:=hc hkx;omega
   · exact fin (by omega)
 · exact fin (by omega)
 · exact Rr.pt h4 h5
end
def vv (o:Nat) (r:List Int) (i:Int):Int:=r.getD (o+i.toNat) 0
structure Pm (cl:Int→Int) (o:Nat) (a b:Int) (r r':List Int):Prop where
 len:r'.length=r.length
 out:∀i:Int,0≤i→(i<a∨b≤i)→vv o r' i=vv o r i
 pre:∀p:Nat,p<o→r'[p]? = r[p]?
 mem:∀i:Int,a≤i→i<b→∃j,a≤j∧j<b∧vv o r' i=vv o r j
 fil:∀c:Int,r'.filter (fun x=>cl x==c)=r.filter (fun x=>cl x==c)
theorem Pm.refl {cl:Int→Int} {o:Nat} {a b:Int} {r:List Int}:Pm cl o a b r r:=⟨rfl,fun _ _ _=>rfl,fun _ _=>rfl,fun i h1 h2=>⟨i,h1,h2,rfl⟩,fun _=>rfl⟩
theorem Pm.mono {cl:Int→Int} {o:Nat} {a b a' b':Int} {r r':List Int} (h:Pm cl o a b r r') (h0:0≤a') (ha:a'≤a) (hb:b≤b'):Pm cl o a' b' r r' :=
 ⟨h.len,fun i h0 hi=>h.out i h0 (by omega),h.pre,fun i h1 h2=>by
  by_cases hi:a≤i∧i<b
  · obtain ⟨j,j1,j2,e⟩:=h.mem i hi.1 hi.2
    exact ⟨j,by omega,by omega,e⟩
  · exact ⟨i,h1,h2,h.out i (by omega) (by omega)⟩,h.fil⟩
def So (cl:Int→Int) (o:Nat) (r:List Int) (a b:Int):Prop:=∀i j:Int,a≤i→i≤j→j<b→cl (vv o r i)≤cl (vv o r j)
theorem So.out {cl:Int→Int} {o:Nat} {r r':List Int} {a b x y:Int} (h:So cl o r a b) (hp:Pm cl o x y r r') (h0:0≤a) (hd:b≤x∨y≤a):So cl o r' a b:=by
 intro i j h1 h2 h3;rw [hp.out i (by omega) (by omega),hp.out j (by omega) (by omega)];exact h i j h1 h2 h3
theorem So.one {cl:Int→Int} {o:Nat} {r:List Int} {a b:Int} (h:b≤a+1):So cl o r a b:=by
 intro i j h1 h2 h3;rw [show i=j by omega];exact Int.le_refl _
theorem So.sub {cl:Int→Int} {o:Nat} {r:List Int} {a b x y:Int} (h:So cl o r a b) (h1:a≤x) (h2:y≤b):So cl o r x y:=fun i j g1 g2 g3=>h i j (by omega) g2 (by omega)
structure Tn (o:Nat) (a m b:Int) (r r':List Int):Prop where
 len:r'.length=r.length
 pre:∀p:Nat,p<o→r'[p]? = r[p]?
 val:∀i:Int,0≤i→vv o r' i=if i<a∨b≤i then vv o r i else if i<a+(b-m) then vv o r (i+(m-a)) else vv o r (i-(b-m))
def clx (T:List R6) (A:List R4) (B:List R3) (x:Int):Int:=((C175 (T,A,B,x,())).getD (0,())).1
structure CK (T:List R6) (A:List R4) (B:List R3):Prop where
 eq:∀x,C175 (T,A,B,x,())=some (clx T A B x,())
 bd:∀x,0≤clx T A B x∧clx T A B x≤255
section
variable {T:List R6} {A:List R4} {B:List R3}
end
section
variable {T:List R6} {A:List R4} {B:List R3}
end
section
variable {T:List R6} {A:List R4} {B:List R3}
theorem blk_lt {s k q:Int} (hs:0<s) (h:k<s*q):k/s<q:=Int.ediv_lt_of_lt_mul hs (by rw [Int.mul_comm];exact h)
theorem blk_ge {s k q:Int} (hs:0<s) (h:s*q≤k):q≤k/s:=Int.le_ediv_of_mul_le hs (by rw [Int.mul_comm];exact h)
theorem blk_eq {s k q:Int} (hs:0<s) (h:s*q≤k) (h':k<s*q+s):k/s=q:=by
 have h1:=blk_ge hs h;have h2:k/s<q+1:=blk_lt hs (by rw [Int.mul_add,Int.mul_one];exact h');omega
def Sb (cl:Int→Int) (o:Nat) (r:List Int) (s a b:Int):Prop:=∀i j:Int,a≤i→i≤j→j<b→i/s=j/s→cl (vv o r i)≤cl (vv o r j)
theorem Sb.so {cl:Int→Int} {o:Nat} {r:List Int} {s q a b:Int} (hs:0<s) (h:Sb cl o r s a b) (x y:Int) (h1:a≤x) (h2:s*q≤x) (h3:y≤s*q+s) (h4:y≤b):So cl o r x y:=by
 intro i j i1 i2 i3;exact h i j (by omega) i2 (by omega) (by rw [blk_eq hs (q:=q) (by omega) (by omega),blk_eq hs (q:=q) (by omega) (by omega)])
end
def BS (cl:Int→Int):List Int→Prop
 | []=>True
 | [_]=>True
 | a::b::l=>(cl b=0∨cl a≤cl b)∧BS cl (b::l)
def pj (cl:Int→Int) (c:Int) (l:List Int):List Int:=l.filter fun x=>cl x==0||cl x==c
theorem pj_app (cl:Int→Int) (c:Int) (l r:List Int):pj cl c (l++r)=pj cl c l++pj cl c r:=List.filter_append ..
theorem pj_in {cl:Int→Int} {c x:Int} {l:List Int} (h:cl x=0∨cl x=c):pj cl c (x::l)=x::pj cl c l:=by
 unfold pj;rw [List.filter_cons,if_pos];rcases h with h|h<;>simp [h]
theorem pj_out {cl:Int→Int} {c x:Int} {l:List Int} (h:cl x≠0) (h':cl x≠c):pj cl c (x::l)=pj cl c l:=by
 unfold pj;rw [List.filter_cons,if_neg];simp [h,h']
def Al (cl:Int→Int) (l r:List Int):Prop:=∀c:Int,0<c→pj cl c l=pj cl c r
theorem Al.refl {cl:Int→Int} {l:List Int}:Al cl l l:=fun _ _=>rfl
theorem Al.symm {cl:Int→Int} {l r:List Int} (h:Al cl l r):Al cl r l:=fun c hc=>(h c hc).symm
theorem Al.trans {cl:Int→Int} {l r s:List Int} (h:Al cl l r) (h':Al cl r s):Al cl l s:=fun c hc=>(h c hc).trans (h' c hc)
theorem Al.app {cl:Int→Int} {l r l' r':List Int} (h:Al cl l r) (h':Al cl l' r'):Al cl (l++l') (r++r'):=fun c hc=>by rw [pj_app,pj_app,h c hc,h' c hc]
theorem Al.past {cl:Int→Int} {x:Int} (hx:cl x≠0):∀{m:List Int},(∀y∈m,cl y≠0∧cl y≠cl x)→Al cl (x::m) (m++[x])
 | [],_=>Al.refl
 | y::m,h=>by
  have hy:=h y List.mem_cons_self;have ih:=Al.past hx (m:=m) fun z hz=>h z (List.mem_cons_of_mem _ hz);refine Al.trans (r:=y::x::m) (fun c hc => ?_) (Al.app (l:=[y]) (r:=[y]) Al.refl ih);by_cases h1:cl x=c
  · rw [pj_in (.inr h1),pj_out hy.1 (by omega),pj_out (x:=y) hy.1 (by omega),pj_in (.inr h1)]
  · rw [pj_out hx h1]
    by_cases h2:cl y=c
    · rw [pj_in (.inr h2),pj_in (.inr h2),pj_out hx h1]
    · rw [pj_out hy.1 h2,pj_out hy.1 h2,pj_out hx h1]
section
variable {T:List R6} {A:List R4} {B:List R3}
end
def th (k b:Int):Int:=if (if 26<k-b then 26 else k-b)>1 then (if 26<k-b then 26 else k-b) else 1
theorem th_rng (k b:Int):1≤th k b∧th k b≤26:=by
 unfold th;repeat' split
 all_goals omega
theorem th_mono (k b:Int):th k b≤th (k+36) b:=by
 unfold th;repeat' split
 all_goals omega
theorem c290 (k b:Int) (hk : -1000000000000≤k∧k≤1000000000000) (hb : -1000000000000≤b∧b≤1000000000000):C233 (k,b,())=some (th k b,()):=by
 show F233 _=_;simp only [F233,w64s (n:=k-b) (by omega)];rfl
def dgN (n:Int):UInt8:=if n<26 then UInt8.ofNat (97+n.toNat) else UInt8.ofNat (48+(n-26).toNat)
def dgK (n:Nat):Bool:=(match C234 ((n:Int),()) with|some (d,true,_)=>UInt8.ofNat d.toNat==dgN (n:Int)|_=>false)&&((match C237 (((dgN (n:Int)).toNat:Int),()) with|some (m,true,_)=>m==(n:Int)|_=>false)&&(decide (97≤(dgN (n:Int)).toNat∧(dgN (n:Int)).toNat≤122)||decide (48≤(dgN (n:Int)).toNat∧(dgN (n:Int)).toNat≤57)))
theorem dg_k:((List.range 36).all dgK)=true:=by kernel_rfl
theorem dg_all {n:Int} (h0:0≤n) (h1:n<36):(∃d:Int,C234 (n,())=some (d,true,())∧UInt8.ofNat d.toNat=dgN n)∧C237 (((dgN n).toNat:Int),())=some (n,true,())∧((97≤(dgN n).toNat∧(dgN n).toNat≤122)∨(48≤(dgN n).toNat∧(dgN n).toNat≤57)):=by
 obtain ⟨m,rfl⟩:∃m:Nat,n=(m:Int):=⟨n.toNat,by omega⟩
 have h:=List.all_eq_true.1 dg_k m (List.mem_range.2 (by omega));unfold dgK at h;simp only [Bool.and_eq_true,Bool.or_eq_true,decide_eq_true_eq] at h;obtain ⟨k1,k2,k3⟩:=h;refine ⟨?_,?_,k3⟩
 · split at k1
   · rename_i d u e
     exact ⟨d,e,eq_of_beq k1⟩
   · cases k1
 · split at k2
   · rename_i d u e
     rw [e,show d=(m:Int) from eq_of_beq k2]
   · cases k2
def wrt:Nat→Int→Int→Int→List UInt8
 | 0,_,_,_=>[]
 | f+1,n,k,b=>if n<th k b then [dgN n] else dgN (th k b+(n-th k b)%(36-th k b))::wrt f ((n-th k b)/(36-th k b)) (k+36) b
theorem dv {n t:Int} (ht:1≤t∧t≤26) (hn:t≤n):0≤(n-t)/(36-t)∧(n-t)/(36-t)*10≤n∧0≤(n-t)%(36-t)∧(n-t)%(36-t)<36-t∧(n-t)%(36-t)+(n-t)/(36-t)*(36-t)=n-t:=by
 have q0:0≤(n-t)/(36-t):=Int.ediv_nonneg (by omega) (by omega);have q1:(n-t)/(36-t)*(36-t)≤n-t:=Int.ediv_mul_le _ (by omega);have q2:(n-t)/(36-t)*10≤(n-t)/(36-t)*(36-t):=Int.mul_le_mul_of_nonneg_left (by omega) q0;have q3:=Int.emod_nonneg (n-t) (show 36-t≠0 by omega);have q4:=Int.emod_lt_of_pos (n-t) (show 0<36-t by omega);have q5:=Int.emod_def (n-t) (36-t);rw [Int.mul_comm (36-t)] at q5;exact ⟨q0,by omega,q3,q4,by omega⟩
theorem stp251 (n k b:Int) (out:List UInt8) (hn:th k b≤n∧n≤1000000000000) (hk : -1000000000000≤k∧k≤100000000000) (hb : -1000000000000≤b∧b≤1000000000000) (ho:out.length≤1000000) :
 F191_l0 C233 C234 (n,b,k,out,())=some (.inl ((n-th k b)/(36-th k b),b,k+36,out++[dgN (th k b+(n-th k b)%(36-th k b))],())):=by
 have ht:=th_rng k b;obtain ⟨q0,q1,q2,q3,q4⟩:=dv ht hn.1;obtain ⟨⟨d,e1,e2⟩,-,-⟩:=dg_all (n:=th k b+(n-th k b)%(36-th k b)) (by omega) (by omega);have w1:=w64s (n:=36-th k b) (by omega);have w2:=w64s (n:=n-th k b) (by omega);have w3:=w64s (n:=th k b+(n-th k b)%(36-th k b)) (by omega);have w4:=w64s (n:=(n-th k b)/(36-th k b)) (by omega);have w5:=w64s (n:=k+36) (by omega);simp only [F191_l0,c290 k b (by omega) hb,Option.bind_some];rw [decide_eq_false (show ¬n<th k b by omega)];simp only [cond_false,w1,w2,Int.tmod_eq_emod_of_nonneg (show 0≤n-th k b by omega),Int.tdiv_eq_ediv_of_nonneg (show 0≤n-th k b by omega),w3,w4,w5,inT (show 36-th k b≠0 by omega),cond_true,e1,Option.bind_some,e2];rw [decide_eq_true (by simp only [List.length_cons,List.length_nil];omega)];rfl
theorem end251 (n k b:Int) (out:List UInt8) (h0:0≤n) (hn:n<th k b) (hk : -1000000000000≤k∧k≤1000000000000) (hb : -1000000000000≤b∧b≤1000000000000) (ho:out.length≤1000000) :
 F191_l0 C233 C234 (n,b,k,out,())=some (.inr (out++[dgN n],())):=by
 have ht:=th_rng k b;obtain ⟨⟨d,e1,e2⟩,-,-⟩:=dg_all (n:=n) (by omega) (by omega);simp only [F191_l0,c290 k b hk hb,Option.bind_some];rw [decide_eq_true hn];simp only [cond_true,e1,Option.bind_some,e2];rw [decide_eq_true (by simp only [List.length_cons,List.length_nil];omega)];rfl
theorem l251 (b:Int) (hb : -1000000000000≤b∧b≤1000000000000):∀(f m:Nat) (n k:Int) (out:List UInt8),0≤n→n<(10^f:Nat)→f<m→f≤12→0≤k→k+36*f≤10000→out.length+f≤900000 →
 loopN (F191_l0 C233 C234) m (n,b,k,out,())=some (out++wrt (f+1) n k b,())
 | f,0,n,k,out,h0,h1,hm,hf,hk,hk',ho=>by omega
 | 0,m+1,n,k,out,h0,h1,hm,hf,hk,hk',ho=>by
  have ht:=th_rng k b;have:n=0:=by simp at h1;omega
  subst this;rw [loopN_inr (end251 0 k b out (by omega) (by omega) (by omega) hb (by omega))];unfold wrt;rw [if_pos (by omega)]
 | f+1,m+1,n,k,out,h0,h1,hm,hf,hk,hk',ho=>by
  have ht:=th_rng k b;by_cases hn:n<th k b
  · rw [loopN_inr (end251 n k b out h0 hn (by omega) hb (by omega))]
    unfold wrt;rw [if_pos hn]
  · have hp:10^(f+1)=10^f*10:=Nat.pow_succ ..
    have hle:10^(f+1)≤10^12:=Nat.pow_le_pow_right (by decide) hf;obtain ⟨q0,q1,-,-,-⟩:=dv ht (show th k b≤n by omega);rw [loopN_inl (stp251 n k b out (by omega) (by omega) hb (by omega)),l251 b hb f m _ (k+36) _ q0 (by omega) (by omega) (by omega) (by omega) (by omega) (by simp only [vl];omega)];conv=>rhs;unfold wrt
    rw [if_neg hn];simp
theorem c251 (n b:Int) (out:List UInt8) (h0:0≤n) (h1:n≤100000000) (hb : -1000000000000≤b∧b≤1000000000000) (ho:out.length≤800000):C191 (n,b,out,())=some (out++wrt 10 n 36 b,()):=by
 have ht:=th_rng 36 b;by_cases hn:n<th 36 b
 · obtain ⟨⟨d,e1,e2⟩,-,-⟩:=dg_all (n:=n) (by omega) (by omega)
   show F191 C233 C234 C191_l0 _=_;simp only [F191,c290 36 b (by omega) hb,Option.bind_some];rw [decide_eq_true hn];simp only [cond_true,e1,Option.bind_some,e2];rw [decide_eq_true (by simp only [List.length_cons,List.length_nil];omega)];unfold wrt;rw [if_pos hn];rfl
 · obtain ⟨q0,q1,q2,q3,q4⟩:=dv ht (show th 36 b≤n by omega)
   obtain ⟨⟨d,e1,e2⟩,-,-⟩:=dg_all (n:=th 36 b+(n-th 36 b)%(36-th 36 b)) (by omega) (by omega);have w1:=w64s (n:=36-th 36 b) (by omega);have w2:=w64s (n:=n-th 36 b) (by omega);have w3:=w64s (n:=th 36 b+(n-th 36 b)%(36-th 36 b)) (by omega);have w4:=w64s (n:=(n-th 36 b)/(36-th 36 b)) (by omega);have hl:C191_l0 ((n-th 36 b)/(36-th 36 b),b,36+36,out++[dgN (th 36 b+(n-th 36 b)%(36-th 36 b))],())=some (out++[dgN (th 36 b+(n-th 36 b)%(36-th 36 b))]++wrt 9 ((n-th 36 b)/(36-th 36 b)) (36+36) b,()) :=
    l251 b hb 8 big _ _ _ q0 (by omega) (by unfold big;omega) (by omega) (by omega) (by omega) (by simp only [vl];omega)
   show F191 C233 C234 C191_l0 _=_;simp only [F191,c290 36 b (by omega) hb,Option.bind_some];rw [decide_eq_false hn];simp only [cond_false,w1,w2,Int.tmod_eq_emod_of_nonneg (show 0≤n-th 36 b by omega),Int.tdiv_eq_ediv_of_nonneg (show 0≤n-th 36 b by omega),w3,w4,inT (show 36-th 36 b≠0 by omega),cond_true,e1,Option.bind_some,e2,w64s (n:=36+36) (by omega),hl];rw [decide_eq_true (by simp only [List.length_cons,List.length_nil];omega)];conv=>rhs;unfold wrt
   rw [if_neg hn];simp
theorem wr_bytes:∀(f:Nat) (n k b:Int),0≤n→∀c∈wrt f n k b,(97≤c.toNat∧c.toNat≤122)∨(48≤c.toNat∧c.toNat≤57)
 | 0,n,k,b,h0,c,hc=>by cases hc
 | f+1,n,k,b,h0,c,hc=>by
  have ht:=th_rng k b;unfold wrt at hc;split at hc
  · rename_i h
    rw [List.mem_singleton.1 hc];exact (dg_all (n:=n) h0 (by omega)).2.2
  · rename_i h
    obtain ⟨q0,q1,q2,q3,q4⟩:=dv ht (show th k b≤n by omega);rcases List.mem_cons.1 hc with rfl|hc
    · exact (dg_all (n:=th k b+(n-th k b)%(36-th k b)) (by omega) (by omega)).2.2
    · exact wr_bytes f _ _ b q0 c hc
theorem wr_len (f:Nat) (n k b:Int):1≤(wrt (f+1) n k b).length:=by unfold wrt;split<;>simp
def Wt (b w k:Int):Prop:=(∃j:Nat,w=((35^j:Nat):Int))∨2≤th k b
theorem wt_next {b w k n:Int} (hw:Wt b w k) (h1:1≤w) (hn:th k b≤n) (hm:n*w≤67000000):w*(36-th k b)≤2147483647∧Wt b (w*(36-th k b)) (k+36):=by
 have ht:=th_rng k b;have hmono:=th_mono k b;have htw:th k b*w≤67000000:=Int.le_trans (Int.mul_le_mul_of_nonneg_right hn (by omega)) hm;by_cases h2:2≤th k b
 · have h3:2*w≤th k b*w:=Int.mul_le_mul_of_nonneg_right h2 (by omega)
   have h4:w*(36-th k b)≤w*34:=Int.mul_le_mul_of_nonneg_left (by omega) (by omega);exact ⟨by omega,.inr (by omega)⟩
 · have e:th k b=1:=by omega
   rw [e] at htw ⊢;rcases hw with ⟨j,rfl⟩|hw
   · have hj:j≤5:=by
      rcases Nat.lt_or_ge j 6 with h|h
      · omega
      · have:35^6≤35^j:=Nat.pow_le_pow_right (by decide) h
        omega
     have:35^j≤35^5:=Nat.pow_le_pow_right (by decide) hj;have hp:35^(j+1)=35^j*35:=Nat.pow_succ ..;exact ⟨by omega,.inl ⟨j+1,by rw [hp];omega⟩⟩
   · omega
theorem l271 (b:Int) (hb : -1000000000000≤b∧b≤1000000000000) (rest:List UInt8):∀(f m:Nat) (n acc w:Int) (pre:List UInt8) (p:Nat),0≤n→n<(10^f:Nat)→f<m→f≤12→0≤acc→1≤w→w≤2147483647→acc+n*w≤67000000→Wt b w (36*((p:Int)+1))→pre.length=p→p+f≤200→rest.length≤900000 →
 loopN (F211_l0 C233 C237) m (pre++(wrt (f+1) n (36*((p:Int)+1)) b++rest),b,acc,w,((pre++(wrt (f+1) n (36*((p:Int)+1)) b++rest)).length:Int),(p:Int),())=some (.inr (.inr (acc+n*w,rest,())))
 | f,0,n,acc,w,pre,p,h0,h1,hm,hf,ha,hw,hw',hs,hW,hp,hpf,hr=>by omega
 | f,m+1,n,acc,w,pre,p,h0,h1,hm,hf,ha,hw,hw',hs,hW,hp,hpf,hr=>by
  have ht:=th_rng (36*((p:Int)+1)) b;have hnw:0≤n*w:=Int.mul_nonneg h0 (by omega);have w1:=w64s (n:=36*((p:Int)+1)) (by omega);by_cases hn:n<th (36*((p:Int)+1)) b
  · have hd:=(dg_all (n:=n) h0 (by omega)).2.1
    have ew:wrt (f+1) n (36*((p:Int)+1)) b=[dgN n]:=by unfold wrt;rw [if_pos hn]
    rw [ew];refine loopN_inr ?_;have hlen:(pre++([dgN n]++rest)).length=p+1+rest.length:=by simp [hp];omega
    have hg:(pre++([dgN n]++rest)).getD p 0=dgN n:=by subst hp;simp
    have w2:=w64s (n:=n*w) (by omega);have w3:=w64s (n:=acc+n*w) (by omega);simp only [F211_l0,hlen,Int.toNat_natCast,hg,hd,Option.bind_some,Bool.not_true,cond_false,wrN p (by omega)];rw [show (((p+1:Nat):Int))=(p:Int)+1 by omega];simp only [w1,w2,w3,c290 _ b (show -1000000000000≤36*((p:Int)+1)∧36*((p:Int)+1)≤1000000000000 by omega) hb,Option.bind_some];rw [decide_eq_true (show (p:Int)<((p+1+rest.length:Nat):Int) by omega),decide_eq_true (show (0:Int)≤(p:Int) by omega),decide_eq_false (show ¬w>2147483647 by omega),decide_eq_false (show ¬acc+n*w>2147483647 by omega),decide_eq_true hn,decide_eq_true (show (0:Int)≤(p:Int)+1 by omega),decide_eq_true (show (p:Int)+1≤((p+1+rest.length:Nat):Int) by omega)];simp only [Bool.and_self,cond_true,cond_false];rw [show (pre++([dgN n]++rest)).drop (p+1)=rest by subst hp;simp]
  · have hfp:1≤f:=by
     rcases Nat.eq_zero_or_pos f with rfl|h
     · simp at h1;omega
     · exact h
    obtain ⟨f,rfl⟩:∃f',f=f'+1:=⟨f-1,by omega⟩
    have hpw:10^(f+1)=10^f*10:=Nat.pow_succ ..;obtain ⟨q0,q1,q2,q3,q4⟩:=dv ht (show th (36*((p:Int)+1)) b≤n by omega);have ew:wrt (f+1+1) n (36*((p:Int)+1)) b=dgN (th (36*((p:Int)+1)) b+(n-th (36*((p:Int)+1)) b)%(36-th (36*((p:Int)+1)) b))::wrt (f+1) ((n-th (36*((p:Int)+1)) b)/(36-th (36*((p:Int)+1)) b)) (36*(((p+1:Nat):Int)+1)) b:=by
     conv=>lhs;unfold wrt
     rw [if_neg hn,show 36*((p:Int)+1)+36=36*(((p+1:Nat):Int)+1) by omega]
    rw [ew];have hwn:=wt_next hW hw (show th (36*((p:Int)+1)) b≤n by omega) (by omega);rw [show 36*((p:Int)+1)+36=36*(((p+1:Nat):Int)+1) by omega] at hwn;have hd:=(dg_all (n:=th (36*((p:Int)+1)) b+(n-th (36*((p:Int)+1)) b)%(36-th (36*((p:Int)+1)) b)) (by omega) (by omega)).2.1;have hge:0≤(n-th (36*((p:Int)+1)) b)%(36-th (36*((p:Int)+1)) b):=q2;generalize hQ:(n-th (36*((p:Int)+1)) b)/(36-th (36*((p:Int)+1)) b)=q at q0 q1 q4 ⊢;generalize hR:(n-th (36*((p:Int)+1)) b)%(36-th (36*((p:Int)+1)) b)=r at q2 q3 q4 hd hge ⊢;have hk290:=c290 (36*((p:Int)+1)) b (by omega) hb;generalize th (36*((p:Int)+1)) b=t at *
    have hX:q*(w*(36-t))=q*(36-t)*w:=by rw [Int.mul_comm w,Int.mul_assoc]
    have hn2:n*w=(t+r)*w+q*(36-t)*w:=by
     rw [←Int.add_mul];congr 1;omega
    have hXn:0≤q*(36-t)*w:=Int.mul_nonneg (Int.mul_nonneg q0 (by omega)) (by omega);have hdw:0≤(t+r)*w:=Int.mul_nonneg (by omega) (by omega);have hw2:1*1≤w*(36-t):=Int.mul_le_mul hw (by omega) (by omega) (by omega);have ih:=l271 b hb rest f m q (acc+(t+r)*w) (w*(36-t)) (pre++[dgN (t+r)]) (p+1) q0 (by omega) (by omega) (by omega) (by omega) (by omega) hwn.1 (by rw [hX];omega) hwn.2 (by simp [hp]) (by omega) hr;rw [show pre++(dgN (t+r)::wrt (f+1) q (36*(((p+1:Nat):Int)+1)) b++rest)=(pre++[dgN (t+r)])++(wrt (f+1) q (36*(((p+1:Nat):Int)+1)) b++rest) by simp];generalize hs2:(pre++[dgN (t+r)])++(wrt (f+1) q (36*(((p+1:Nat):Int)+1)) b++rest)=S at ih ⊢;have hlen:p+1≤S.length:=by rw [←hs2];simp [hp]
    have hlen':S.length≤10000000:=by
     rw [←hs2];have:(wrt (f+1) q (36*(((p+1:Nat):Int)+1)) b).length≤f+1:=by
      have:∀(f:Nat) (n k b:Int),(wrt f n k b).length≤f:=by
       intro f
       induction f with
       | zero=>intro n k b;exact Nat.le_refl _
       | succ f ih =>
        intro n k b;unfold wrt;split
        · simp
        · have:=ih ((n-th k b)/(36-th k b)) (k+36) b
          simp only [List.length_cons];omega
      exact this _ _ _ _
     simp only [vl];omega
    have hg:S.getD p 0=dgN (t+r):=by rw [←hs2];subst hp;simp
    rw [loopN_inl (v':=(S,b,acc+(t+r)*w,w*(36-t),(S.length:Int),((p+1:Nat):Int),())) ?_]
    · rw [ih,hX,hn2]
      congr 4;omega
    · have w2:=w64s (n:=(t+r)*w) (by omega)
      have w3:=w64s (n:=acc+(t+r)*w) (by omega);have w4:=w64s (n:=36-t) (by omega);have w5:=w64s (n:=w*(36-t)) (by omega);simp only [F211_l0,Int.toNat_natCast,hg,hd,Option.bind_some,Bool.not_true,cond_false,wrN p (show p≤9223372036854775806 by omega)];rw [show (((p+1:Nat):Int))=(p:Int)+1 by omega];simp only [w1,w2,w3,w4,w5,hk290,Option.bind_some];rw [decide_eq_true (show (p:Int)<(S.length:Int) by omega),decide_eq_true (show (0:Int)≤(p:Int) by omega),decide_eq_false (show ¬w>2147483647 by omega),decide_eq_false (show ¬acc+(t+r)*w>2147483647 by omega),decide_eq_false (show ¬t+r<t by omega)];rfl
theorem c271 (n b:Int) (rest:List UInt8) (h0:0≤n) (h1:n≤67000000) (hb : -1000000000000≤b∧b≤1000000000000) (hr:rest.length≤900000):C211 (wrt 10 n 36 b++rest,b,())=some (n,rest,()):=by
 have h:=l271 b hb rest 9 big n 0 1 [] 0 h0 (by omega) (by unfold big;omega) (by omega) (by omega) (by omega) (by omega) (by omega) (.inl ⟨0,rfl⟩) rfl (by omega) hr;have h':C211_l0 (wrt 10 n 36 b++rest,b,0,1,((wrt 10 n 36 b++rest).length:Int),0,())=some (.inr (.inr (n,rest,()))):=by
  have e:(36:Int)*(((0:Nat):Int)+1)=36:=rfl;rw [e,List.nil_append,Int.mul_one,Int.zero_add] at h;exact h
 show F211 C233 C237 C211_g0 C211_l0 _=_;simp only [F211,h',Option.bind_some,Sum.elim_inr]
theorem b252_l (a b:Int) (h0:0≤a) (h1:a≤1000000000) (hb:0≤b∧b≤1000):Df (C192_l0 (a,b,())) (fun y=>0≤y.1∧y.1≤455∧0≤y.2.1∧y.2.1≤2000000000):=by
 refine dL ?I ?m ?h _ ?hv ?hn
 case I=>exact (fun v=>0≤v.1∧0≤v.2.1∧v.1+v.2.1≤1000001000)
 case m=>exact (fun v=>v.1.toNat)
 case hv=>exact ⟨h0,hb.1,by (try dsimp only);omega⟩
 case hn=>exact (by (try dsimp only);omega)
 rintro ⟨x0,x1,u⟩ hI;dsimp only at hI;unfold F192_l0;dsimp only;with_reducible repeat' (first|apply dP|apply dX<;>intro _)
 · rw [Int.tdiv_eq_ediv_of_nonneg (by omega),w64s (n:=x0/35) (by omega),w64s (n:=x1+36) (by omega)]
   exact ⟨⟨by (try dsimp only);omega,by (try dsimp only);omega,by (try dsimp only);omega⟩,by (try dsimp only);omega⟩
 · exact ⟨by (try dsimp only);omega,by (try dsimp only);omega,by (try dsimp only);omega,by (try dsimp only);omega⟩
theorem b252_0 (a c:Int) (h0:0≤a) (h1:a≤400000000):Df (C192_c0 (a,c,())) (fun y=>0≤y.1∧y.1≤10000000000):=by
 show Df (F192_c0 C192_l0 _) _;unfold F192_c0;dsimp only;have hm:1≤(if c>1 then c else 1):=by split<;>omega
 generalize (if c>1 then c else 1)=m at hm;have q0:0≤a/m:=Int.ediv_nonneg h0 (by omega);have q1:a/m≤a:=Int.ediv_le_self _ h0;rw [Int.tdiv_eq_ediv_of_nonneg h0,w64s (n:=a/m) (by omega),w64s (n:=a+a/m) (by omega)];with_reducible repeat' (first|apply dP|apply dX<;>intro _)
 · refine dZ (b252_l _ _ (by omega) (by omega) (by omega)) ?_
   rintro ⟨x,y,u⟩ h;dsimp only at h ⊢;rw [w64s (n:=x+38) (by omega),w64s (n:=36*x) (by omega),Int.tdiv_eq_ediv_of_nonneg (show 0≤36*x by omega)];have r0:0≤36*x/(x+38):=Int.ediv_nonneg (by omega) (by omega);have r1:36*x/(x+38)≤36*x:=Int.ediv_le_self _ (by omega);rw [w64s (n:=36*x/(x+38)) (by omega),w64s (n:=y+36*x/(x+38)) (by omega)];with_reducible repeat' (first|apply dP|apply dX<;>intro _)
   · exact ⟨by (try dsimp only);omega,by (try dsimp only);omega⟩
   · refine dO ?_;omega
 · refine dO ?_;omega
theorem b252 (a c:Int) (f:Bool) (h0:0≤a) (h1:a≤400000000):Df (C192 (a,c,f,())) (fun y=>0≤y.1∧y.1≤10000000000):=by
 show Df (F192 C192_c0 _) _;unfold F192;dsimp only;rw [Int.tdiv_eq_ediv_of_nonneg h0,Int.tdiv_eq_ediv_of_nonneg h0,w64s (n:=a/700) (by omega),w64s (n:=a/2) (by omega)];with_reducible repeat' (first|apply dP|apply dX<;>intro _)
 · exact dZ (b252_0 _ _ (by omega) (by omega)) fun _ h=>dP h
 · exact dZ (b252_0 _ _ (by omega) (by omega)) fun _ h=>dP h
abbrev Dst:=List UInt8×Int×Int×Int×Bool×List Int×Unit
def Fd:Dst→Option (Dst⊕((List Int×Unit)⊕(Bool×Unit))):=F160_l0 C12 C192 C210 C211 C212 C98
def Rch (j:Nat) (v w:Dst):Prop:=∀m,loopN Fd (m+j) v=loopN Fd m w
theorem Rch.next {j:Nat} {v w u:Dst} (h:Rch j v w) (h1:Fd w=some (.inl u)):Rch (j+1) v u:=fun m=>by
 rw [show m+(j+1)=(m+1)+j by omega,h (m+1),loopN_inl h1]
theorem dstep (nd id b d Q i b':Int) (fst:Bool) (od:List Int) (rest:List UInt8) (h1:0≤id∧id≤1000) (h2:0≤d∧d≤67000000) (h3:od.length≤1000) (h4:id+d=Q*((od.length:Int)+1)+i) (h5:0≤i∧i≤od.length) (h6:0≤Q) (h7:0≤nd∧nd+Q≤1114111) (h8:C98 (nd+Q,())=some (true,())) (h9:C192 (d,(od.length:Int)+1,fst,())=some (b',())) (hb:0≤b∧b≤10000000000) (hr:rest.length≤900000) :
 Fd (wrt 10 d 36 b++rest,nd,id,b,fst,od,())=some (.inl (rest,nd+Q,i+1,b',false,od.take i.toNat++[nd+Q]++od.drop i.toNat,())):=by
 have h271:=c271 d b rest h2.1 h2.2 (by omega) hr;have hne:(wrt 10 d 36 b++rest==[])=false:=by
  have:=wr_len 9 d 36 b;cases hw:wrt 10 d 36 b with
  | nil=>rw [hw] at this;simp at this
  | cons c r=>rfl
 have w1:=w64s (n:=(od.length:Int)+1) (by omega);have w2:=w64s (n:=id+d) (by omega);have hc:0<(od.length:Int)+1:=by omega
 have eq:(id+d).tdiv ((od.length:Int)+1)=Q:=by
  rw [Int.tdiv_eq_ediv_of_nonneg (by omega),h4,Int.add_comm,Int.add_mul_ediv_right _ _ (by omega),Int.ediv_eq_zero_of_lt h5.1 (by omega),Int.zero_add]
 have em:(id+d).tmod ((od.length:Int)+1)=i:=by
  rw [Int.tmod_eq_emod_of_nonneg (by omega),h4,Int.add_comm,Int.add_mul_emod_self_right,Int.emod_eq_of_lt h5.1 (by omega)]
 have w3:=w64s (n:=Q) (by omega);have w4:=w64s (n:=nd+Q) (by omega);have w5:=w32s (n:=nd+Q) (by omega);have w6:=w64s (n:=i+1) (by omega);have h272:C212 (i,od,[nd+Q],())=some (od.take i.toNat++[nd+Q]++od.drop i.toNat,()):=by
  unfold C212;dsimp only;rw [decide_eq_true h5.1,decide_eq_true h5.2,decide_eq_true (show [nd+Q].length=1 from rfl),decide_eq_true (show od.length≤1000000000000 by omega)];rfl
 unfold Fd;simp only [F160_l0,hne,Bool.not_false,cond_true,h271,Option.bind_some,w1,w2,h9,eq,em,w3,w4,w5,w6,h8,Bool.not_true,cond_false,inT (show (od.length:Int)+1≠0 by omega),h272];rw [decide_eq_false (show ¬d<0 by omega),decide_eq_false (show ¬id+d>2147483647 by omega),decide_eq_false (show ¬nd+Q>1114111 by omega)];rfl
def lo (n:Int) (l:List Int):List Int:=l.filter fun r=>decide (r≤n)
def lt' (n:Int) (l:List Int):List Int:=l.filter fun r=>decide (r<n)
def hd' (l:List Int) (n:Int) (p:Nat):List Int:=lo n (l.take p)++lt' n (l.drop p)
theorem lo_lt (n:Int):∀l:List Int,lo n l=lt' (n+1) l:=fun l=>by
 unfold lo lt';congr 1;funext r;exact decide_eq_decide.2 (by omega)
theorem lt_same {n m:Int} (h:n≤m) {l:List Int} (hl:∀r∈l,n≤r→m≤r):lt' m l=lt' n l:=by
 unfold lt';refine List.filter_congr fun r hr=>decide_eq_decide.2 ⟨fun h1 => ?_,fun h1=>by omega⟩;by_cases h2:n≤r
 · have:=hl r hr h2;omega
 · omega
theorem hd0 (l:List Int) (n:Int):hd' l n 0=lt' n l:=by simp [hd',lo]
theorem hd_len (l:List Int) (n:Int):hd' l n l.length=lo n l:=by simp [hd',lt']
theorem take_s {l:List Int} {p:Nat} (h:p<l.length):l.take (p+1)=l.take p++[l[p]]:=take_succ_get h
theorem drop_s {l:List Int} {p:Nat} (h:p<l.length):l.drop p=l[p]::l.drop (p+1):=by rw [List.drop_eq_getElem_cons h]
theorem hd_lt {l:List Int} {n:Int} {p:Nat} (h:p<l.length) (hr:l[p]<n):hd' l n (p+1)=hd' l n p∧(lo n (l.take (p+1))).length=(lo n (l.take p)).length+1:=by
 have h1:lo n [l[p]]=[l[p]]:=by simp [lo];omega
 have h2:lo n (l.take (p+1))=lo n (l.take p)++[l[p]]:=by rw [take_s h];unfold lo at *;rw [List.filter_append,h1]
 have h3:lt' n (l.drop p)=l[p]::lt' n (l.drop (p+1)):=by rw [drop_s h];unfold lt';rw [List.filter_cons,if_pos (by simpa using hr)]
 refine ⟨?_,by rw [h2];simp⟩;unfold hd';rw [h2,h3];simp
theorem hd_gt {l:List Int} {n:Int} {p:Nat} (h:p<l.length) (hr:n<l[p]):hd' l n (p+1)=hd' l n p∧(lo n (l.take (p+1))).length=(lo n (l.take p)).length:=by
 have h1:lo n [l[p]]=[]:=by simp [lo];omega
 have h2:lo n (l.take (p+1))=lo n (l.take p):=by rw [take_s h];unfold lo at *;rw [List.filter_append,h1,List.append_nil]
 have h3:lt' n (l.drop p)=lt' n (l.drop (p+1)):=by rw [drop_s h];unfold lt';rw [List.filter_cons,if_neg (by simp;omega)]
 refine ⟨?_,by rw [h2]⟩;unfold hd';rw [h2,h3]
theorem hd_eq {l:List Int} {n:Int} {p:Nat} (h:p<l.length) (hr:l[p]=n):hd' l n (p+1)=lo n (l.take p)++[n]++lt' n (l.drop p)∧(lo n (l.take (p+1))).length=(lo n (l.take p)).length+1:=by
 have h1:lo n [l[p]]=[n]:=by simp [lo,hr]
 have h2:lo n (l.take (p+1))=lo n (l.take p)++[n]:=by rw [take_s h];unfold lo at *;rw [List.filter_append,h1]
 have h3:lt' n (l.drop p)=lt' n (l.drop (p+1)):=by rw [drop_s h];unfold lt';rw [List.filter_cons,if_neg (by simp;omega)]
 refine ⟨?_,by rw [h2];simp⟩;unfold hd';rw [h2,h3]
theorem hd_le (l:List Int) (n:Int) (p:Nat):(hd' l n p).length≤l.length:=by
 have h1:=List.length_filter_le (fun r:Int=>decide (r≤n)) (l.take p);have h2:=List.length_filter_le (fun r:Int=>decide (r<n)) (l.drop p);unfold hd' lo lt';simp only [List.length_append,List.length_take,List.length_drop] at *
 omega
def St (l:List Int) (P:Nat) (pl:List Int) (pre:List UInt8) (n:Int) (p:Nat) (delta bias h:Int) (o:List UInt8):Prop :=
 ∃(e:List UInt8) (nd id:Int) (j:Nat),o=pre++e∧((hd' l n p).length:Int)=h∧(j:Int)+P=h∧(0≤id∧id≤h)∧(128≤nd∧nd≤n)∧0≤delta∧delta=(n-nd)*(h+1)+((lo n (l.take p)).length:Int)-id ∧
  (∀rest:List UInt8,e.length+rest.length≤800000→Rch j (e++rest,128,0,72,true,pl,()) (rest,nd,id,bias,h==(P:Int),hd' l n p,()))∧(0≤bias∧bias≤10000000000)∧(e.length≤10*j∧j≤e.length)∧∀c∈e,(97≤c.toNat∧c.toNat≤122)∨(48≤c.toNat∧c.toNat≤57)
theorem wrt_le:∀(f:Nat) (n k b:Int),(wrt f n k b).length≤f:=by
 intro f
 induction f with
 | zero=>intro n k b;exact Nat.le_refl _
 | succ f ih =>
  intro n k b;unfold wrt;split
  · simp
  · have:=ih ((n-th k b)/(36-th k b)) (k+36) b
    simp only [List.length_cons];omega
theorem mul_le {a b c:Int} (ha:0≤a∧a≤b) (hc:0≤c∧c≤60):0≤a*c∧a*c≤b*60:=⟨Int.mul_nonneg ha.1 hc.1,Int.le_trans (Int.mul_le_mul_of_nonneg_right ha.2 hc.1) (Int.mul_le_mul_of_nonneg_left hc.2 (by omega))⟩
theorem st_delta {l:List Int} {P:Nat} {pl:List Int} {pre:List UInt8} {n:Int} {p:Nat} {delta bias h:Int} {o:List UInt8} (hs:St l P pl pre n p delta bias h o) (hn:n≤1114112) (hl:l.length≤59):0≤delta∧delta≤66900000∧0≤h∧h≤59∧(P:Int)≤h∧o.length≤pre.length+600∧128≤n:=by
 obtain ⟨e,nd,id,j,rfl,hh,hj,hi,hnd,hd0',hd,-,-,he,-⟩:=hs;have h1:=hd_le l n p;have h2:=List.length_filter_le (fun r:Int=>decide (r≤n)) (l.take p);have h3:(lo n (l.take p)).length≤59:=by unfold lo;simp only [List.length_take] at h2;omega
 have h4:=mul_le (a:=n-nd) (b:=1113984) (c:=h+1) (by omega) (by omega);simp only [List.length_append];omega
theorem pl223_1 (l:List Int) (P:Nat) (pl:List Int) (pre:List UInt8) (n delta bias h:Int) (o:List UInt8) (hl:l.length≤59) (hpre:pre.length≤1000) (hR:∀r∈l,C98 (r,())=some (true,())∧0≤r∧r≤1114111) (hn:n≤1114111) (hs:St l P pl pre n 0 delta bias h o) :
 Pf (C157_l1 (l,(P:Int),n,delta,bias,h,l,(l.length:Int),0,o,())) (fun y=>∃delta' bias' h' o',y=(l,(P:Int),n,delta',bias',h',o',())∧St l P pl pre n l.length delta' bias' h' o'):=by
 refine pL ?I ?h _ ?hv
 case I=>exact (fun v=>∃(p:Nat) (delta bias h:Int) (o:List UInt8),p≤l.length∧v=(l,(P:Int),n,delta,bias,h,l,(l.length:Int),(p:Int),o,())∧St l P pl pre n p delta bias h o)
 case hv=>exact ⟨0,delta,bias,h,o,Nat.zero_le _,rfl,hs⟩
 rintro _ ⟨p,delta,bias,h,o,hp,rfl,hs⟩;obtain ⟨b1,b2,b3,b4,b5,b6,b7⟩:=st_delta hs (by omega) hl;unfold F157_l1;dsimp only;simp only [Int.toNat_natCast];refine pX (fun hlt => ?_) (fun hge => ?_)
 · have hlt':p<l.length:=by omega
   refine pX (fun _ => ?_) (fun _=>pN);have hg:l.getD p 0=l[p]:=getD_lt hlt';simp only [hg,wrN p (show p≤9223372036854775806 by omega)];obtain ⟨r1,r2,r3⟩:=hR _ (List.getElem_mem hlt');refine pX (fun hr => ?_) (fun hr => ?_)
   · obtain ⟨k1,k2⟩:=hd_lt hlt' hr
     obtain ⟨e,nd,id,j,ho,hh,hj,hi,hnd,hd0',hd,hr,hb,he,hc⟩:=hs;refine pP ⟨p+1,_,bias,h,o,by omega,rfl,e,nd,id,j,ho,by rw [k1];exact hh,hj,hi,hnd,?_,?_,by rw [k1];exact hr,hb,he,hc⟩
     · rw [w64s (by omega)];omega
     · rw [w64s (by omega),hd,k2];omega
   refine pX (fun hr => ?_) (fun hr' => ?_)
   · have hr':l[p]=n:=by simpa using hr
     obtain ⟨k1,k2⟩:=hd_eq hlt' hr';obtain ⟨e,nd,id,j,rfl,hh,hj,hi,hnd,hd0',hd,hrc,hb,he,hc⟩:=hs;have hA:(lo n (l.take p)).length≤(hd' l n p).length:=by unfold hd';simp
     have hd2:id+delta=(n-nd)*(h+1)+((lo n (l.take p)).length:Int):=by omega
     have hmn:0≤(n-nd)*(h+1):=Int.mul_nonneg (by omega) (by omega);have h251:=c251 delta bias (pre++e) (by omega) (by omega) (by omega) (by omega);have w1:=w64s (n:=h+1) (by omega);obtain ⟨⟨b',u'⟩,h252,hb'⟩:=b252 delta (h+1) (h==(P:Int)) (by omega) (by omega);rw [h251];simp only [Option.bind_some,w1,h252];refine pP ⟨p+1,0,b',h+1,_,by omega,rfl,e++wrt 10 delta 36 bias,n,((lo n (l.take p)).length:Int)+1,j+1,by simp,?_,by omega,by omega,by omega,Int.le_refl _,?_,?_,hb',?_,?_⟩
     · rw [k1]
       have:(hd' l n p).length=(lo n (l.take p)).length+(lt' n (l.drop p)).length:=by unfold hd';simp
       simp only [vl];omega
     · rw [k2];omega
     · intro rest hrest
       have hw:=wrt_le 10 delta 36 bias;simp only [List.length_append] at hrest;have h1:=hrc (wrt 10 delta 36 bias++rest) (by simp only [List.length_append];omega);have h2:=dstep nd id bias delta (n-nd) ((lo n (l.take p)).length:Int) b' (h==(P:Int)) (hd' l n p) rest (by omega) (by omega) (by omega) (by rw [hh];exact hd2) (by omega) (by omega) (by omega) (by rw [show nd+(n-nd)=n by omega,←hr'];exact r1) (by rw [hh];exact h252) hb (by omega);rw [show nd+(n-nd)=n by omega,Int.toNat_natCast] at h2;have h3:=h1.next h2;rw [show e++wrt 10 delta 36 bias++rest=e++(wrt 10 delta 36 bias++rest) by simp,k1,show (h+1==(P:Int))=false from ibF (by omega)];have e1:(hd' l n p).take (lo n (l.take p)).length=lo n (l.take p):=by unfold hd';exact List.take_left
       have e2:(hd' l n p).drop (lo n (l.take p)).length=lt' n (l.drop p):=by unfold hd';exact List.drop_left
       rw [e1,e2] at h3;exact h3
     · have hw:=wrt_le 10 delta 36 bias
       have hw':1≤(wrt 10 delta 36 bias).length:=wr_len 9 delta 36 bias;simp only [List.length_append];omega
     · intro c hc'
       rcases List.mem_append.1 hc' with hc'|hc'
       · exact hc c hc'
       · exact wr_bytes 10 delta 36 bias (by omega) c hc'
   · have hr'':l[p]≠n:=by simpa using hr'
     obtain ⟨k1,k2⟩:=hd_gt hlt' (show n<l[p] by omega);obtain ⟨e,nd,id,j,ho,hh,hj,hi,hnd,hd0',hd,hr,hb,he,hc⟩:=hs;exact pP ⟨p+1,delta,bias,h,o,by omega,rfl,e,nd,id,j,ho,by rw [k1];exact hh,hj,hi,hnd,hd0',by rw [hd,k2],by rw [k1];exact hr,hb,he,hc⟩
 · have:p=l.length:=by omega
   subst this;exact pP ⟨delta,bias,h,o,rfl,hs⟩
theorem lt_full {n:Int}:∀{l:List Int},l.length≤(lt' n l).length→lt' n l=l
 | [],_=>rfl
 | x::l,h=>by
  have hle:=List.length_filter_le (fun r:Int=>decide (r<n)) l;unfold lt' at h ⊢;rw [List.filter_cons] at h ⊢;by_cases hx:x<n
  · rw [if_pos (by simpa using hx)] at h ⊢
    have:=lt_full (n:=n) (l:=l) (by unfold lt';simp only [List.length_cons] at h;omega);unfold lt' at this;rw [this]
  · rw [if_neg (by simpa using hx)] at h
    simp only [List.length_cons] at h;omega
theorem pl223_2 (l:List Int) (P:Nat) (pl:List Int) (pre:List UInt8) (hl:l.length≤59) (hpre:pre.length≤1000) (hR:∀r∈l,C98 (r,())=some (true,())∧0≤r∧r≤1114111) (h0:St l P pl pre 128 0 0 72 (P:Int) pre) :
 Pf (C157_l2 (l,(P:Int),128,0,72,(P:Int),pre,())) (Sum.elim (fun y=>∃(e:List UInt8) (nd id bias:Int) (b:Bool) (j:Nat),y.1=pre++e∧(j:Int)+P=l.length∧Rch j (e,128,0,72,true,pl,()) ([],nd,id,bias,b,l,())∧(e.length≤10*j∧j≤e.length)∧∀c∈e,(97≤c.toNat∧c.toNat≤122)∨(48≤c.toNat∧c.toNat≤57)) (fun y=>y.2.1=false)):=by
 refine pL ?I ?h _ ?hv
 case I=>exact (fun v=>∃(n delta bias h:Int) (o:List UInt8),n≤1114112∧v=(l,(P:Int),n,delta,bias,h,o,())∧St l P pl pre n 0 delta bias h o)
 case hv=>exact ⟨128,0,72,P,pre,by omega,rfl,h0⟩
 rintro _ ⟨n,delta,bias,h,o,hn,rfl,hs⟩;obtain ⟨b1,b2,b3,b4,b5,b6,b7⟩:=st_delta hs (by omega) hl;unfold F157_l2;dsimp only;refine pX (fun hlt => ?_) (fun hge => ?_)
 · refine pZ (d250 l n (by omega) (by omega)).pf ?_
   rintro ⟨m,u⟩ hm;dsimp only at hm ⊢;rcases hm with ⟨hm0,hall⟩|⟨hmem,hnm,hmin⟩
   · exfalso
     obtain ⟨e,nd,id,j,ho,hh,-⟩:=hs;rw [hd0] at hh;have:lt' n l=l:=by
      unfold lt';exact List.filter_eq_self.2 fun r hr=>by simpa using hall r hr
     rw [this] at hh;omega
   · obtain ⟨-,m0,m1⟩:=hR m hmem
     have hmul:=mul_le (a:=m-n) (b:=1114111) (c:=h+1) (by omega) (by omega);have w1:=w32s (n:=m-n) (by omega);have w2:=w64s (n:=m-n) (by omega);have w3:=w64s (n:=h+1) (by omega);have w4:=w64s (n:=(m-n)*(h+1)) (by omega);have w5:=w64s (n:=delta+(m-n)*(h+1)) (by omega);simp only [w1,w2,w3,w4,w5];refine pX (fun _=>pP rfl) (fun _ => ?_);have hsm:St l P pl pre m 0 (delta+(m-n)*(h+1)) bias h o:=by
      obtain ⟨e,nd,id,j,ho,hh,hj,hi,hnd,hd0',hd,hrc,hb,he,hc⟩:=hs;have e1:hd' l m 0=hd' l n 0:=by rw [hd0,hd0];exact lt_same hnm hmin
      have e2:(m-nd)*(h+1)=(n-nd)*(h+1)+(m-n)*(h+1):=by rw [←Int.add_mul];congr 1;omega
      refine ⟨e,nd,id,j,ho,by rw [e1];exact hh,hj,hi,by omega,by omega,?_,by rw [e1];exact hrc,hb,he,hc⟩;rw [e2,hd];simp only [List.take_zero];have:lo m []=lo n []:=rfl;rw [this];omega
     refine pZ (pl223_1 l P pl pre m _ bias h o hl hpre hR m1 hsm) ?_;rintro _ ⟨delta',bias',h',o',rfl,hs'⟩;obtain ⟨c1,c2,c3,c4,c5,c6,c7⟩:=st_delta hs' (by omega) hl;dsimp only;rw [w32s (n:=m+1) (by omega),w64s (n:=delta'+1) (by omega)];refine pP ⟨m+1,delta'+1,bias',h',o',by omega,rfl,?_⟩;obtain ⟨e,nd,id,j,ho,hh,hj,hi,hnd,hd0',hd,hrc,hb,he,hc⟩:=hs';have e1:hd' l (m+1) 0=hd' l m l.length:=by rw [hd0,hd_len,lo_lt]
     have e2:((lo m (l.take l.length)).length:Int)=h':=by rw [←hh,hd_len,List.take_length]
     have e3:(m+1-nd)*(h'+1)=(m-nd)*(h'+1)+(h'+1):=by
      rw [show m+1-nd=(m-nd)+1 by omega,Int.add_mul,Int.one_mul]
     refine ⟨e,nd,id,j,ho,by rw [e1];exact hh,hj,hi,by omega,by omega,?_,by rw [e1];exact hrc,hb,he,hc⟩;rw [e3,hd,e2];simp only [List.take_zero];have:(lo (m+1) []).length=0:=rfl;rw [this];omega
 · obtain ⟨e,nd,id,j,ho,hh,hj,hi,hnd,hd0',hd,hrc,hb,he,hc⟩:=hs
   have hle:=hd_le l n 0;have e1:hd' l n 0=l:=by
    rw [hd0] at hh ⊢;exact lt_full (by omega)
   rw [e1] at hrc hh;have:=hrc [] (by simp only [List.length_nil];omega);rw [List.append_nil] at this;exact pP ⟨e,nd,id,bias,_,j,ho,by omega,this,he,hc⟩
def pb (l:List Int):List UInt8:=l.map fun r=>UInt8.ofNat (IntKind.u8.wrap r).toNat
theorem pl223_0 (l:List Int) (hl:l.length≤1000000000000):Pf (C157_l0 (l,l,(l.length:Int),0,[],())) (Sum.elim (fun y=>y=(l,pb (lt' 128 l),())∧∀r∈l,C98 (r,())=some (true,())) (fun y=>y.2.1=false)):=by
 refine pL ?I ?h _ ?hv
 case I=>exact (fun v=>∃p:Nat,p≤l.length∧v=(l,l,(l.length:Int),(p:Int),pb (lt' 128 (l.take p)),())∧∀r∈l.take p,C98 (r,())=some (true,()))
 case hv=>exact ⟨0,Nat.zero_le _,rfl,fun r h=>by simp at h⟩
 rintro _ ⟨p,hp,rfl,hall⟩;unfold F157_l0;dsimp only;simp only [Int.toNat_natCast];refine pX (fun hlt => ?_) (fun hge => ?_)
 · have hlt':p<l.length:=by omega
   have hg:l.getD p 0=l[p]:=getD_lt hlt';refine pX (fun _ => ?_) (fun _=>pN);simp only [hg,wrN p (show p≤9223372036854775806 by omega)];refine pZ (P:=fun y=>C98 (l[p],())=some (y.1,())) (fun y e=>by rw [e]) ?_;rintro ⟨b,u⟩ hb;dsimp only at hb ⊢;cases b with
   | false=>exact pP rfl
   | true =>
    simp only [Bool.not_true,cond_false];have hall':∀r∈l.take (p+1),C98 (r,())=some (true,()):=by
     intro r hr;rw [take_s hlt'] at hr;rcases List.mem_append.1 hr with hr|hr
     · exact hall r hr
     · rw [List.mem_singleton.1 hr];exact hb
    refine pX (fun h => ?_) (fun h => ?_)
    · refine pX (fun _ => ?_) (fun _=>pN)
      refine pP ⟨p+1,by omega,?_,hall'⟩;have:lt' 128 (l.take (p+1))=lt' 128 (l.take p)++[l[p]]:=by
       rw [take_s hlt'];unfold lt';rw [List.filter_append,List.filter_cons,if_pos (by simpa using h)];rfl
      rw [this];simp [pb]
    · refine pP ⟨p+1,by omega,?_,hall'⟩
      have:lt' 128 (l.take (p+1))=lt' 128 (l.take p):=by
       rw [take_s hlt'];unfold lt';rw [List.filter_append,List.filter_cons,if_neg (by simpa using h)];simp
      rw [this]
 · have:p=l.length:=by omega
   subst this;rw [List.take_length] at hall ⊢;exact pP ⟨rfl,hall⟩
theorem p155 (r:Int) (h:C98 (r,())=some (true,())):0≤r∧r≤1114111:=by
 have:Pf (C98 (r,())) (fun y=>y.1=true→0≤r∧r≤1114111):=by
  unfold C98 F98;dsimp only;with_reducible repeat' (first|exact pN|apply pP|apply pX<;>intro _)
  · exact fun _=>⟨by omega,by omega⟩
  · exact fun _=>⟨by omega,by omega⟩
  · intro h;cases h
  · intro h;cases h
 exact this _ h rfl
theorem p223 (l:List Int) (hl:l.length≤59):Pf (C157 (l,())) (fun y=>y.2.1=true→(∀r∈l,C98 (r,())=some (true,()))∧∃(e:List UInt8) (nd id bias:Int) (b:Bool) (j:Nat),y.1=(pb (lt' 128 l)++if lt' 128 l=[] then [] else [45])++e∧(j:Int)+(lt' 128 l).length=l.length∧Rch j (e,128,0,72,true,lt' 128 l,()) ([],nd,id,bias,b,l,())∧(e.length≤10*j∧j≤e.length)∧∀c∈e,(97≤c.toNat∧c.toNat≤122)∨(48≤c.toNat∧c.toNat≤57)):=by
 unfold C157 F157;dsimp only;refine pZ (pl223_0 l (by omega)) ?_;intro z hz;refine pS hz ?_ (fun y h=>pP fun h'=>by rw [h] at h';cases h');rintro _ ⟨rfl,hR⟩;have hR':∀r∈l,C98 (r,())=some (true,())∧0≤r∧r≤1114111:=fun r hr=>⟨hR r hr,p155 r (hR r hr)⟩
 have hle:=List.length_filter_le (fun r:Int=>decide (r<128)) l;have hlen:(pb (lt' 128 l)).length=(lt' 128 l).length:=by simp [pb]
 have hle':(lt' 128 l).length≤59:=by unfold lt';omega
 have key:∀pre:List UInt8,pre.length≤1000→Pf (C157_c0 (l,((pb (lt' 128 l)).length:Int),pre,())) (fun y=>y.2.1=true→∃(e:List UInt8) (nd id bias:Int) (b:Bool) (j:Nat),y.1=pre++e∧(j:Int)+(lt' 128 l).length=l.length∧Rch j (e,128,0,72,true,lt' 128 l,()) ([],nd,id,bias,b,l,())∧(e.length≤10*j∧j≤e.length)∧∀c∈e,(97≤c.toNat∧c.toNat≤122)∨(48≤c.toNat∧c.toNat≤57)):=by
  intro pre hpre;unfold C157_c0 F157_c0;dsimp only;rw [hlen];have h0:St l (lt' 128 l).length (lt' 128 l) pre 128 0 0 72 ((lt' 128 l).length:Int) pre:=by
   refine ⟨[],128,0,0,by simp,by rw [hd0],by omega,by omega,by omega,by omega,?_,?_,by omega,by simp,fun c hc=>by cases hc⟩
   · rw [show (128:Int)-128=0 from rfl,Int.zero_mul]
     rfl
   · intro rest _ m
     rw [hd0,ibT rfl];rfl
  refine pZ (pl223_2 l _ (lt' 128 l) pre hl hpre hR' h0) ?_;intro z hz;refine pS hz ?_ (fun y h=>pP fun h'=>by rw [h] at h';cases h');intro y h;exact pP fun _=>h
 dsimp only;refine pX (fun hpos => ?_) (fun hpos => ?_)
 · refine pX (fun _ => ?_) (fun _=>pN)
   refine pZ (key _ (by simp only [vl];omega)) ?_;intro y hy;refine pP fun h=>⟨hR,?_⟩
   have hne:lt' 128 l≠[]:=fun e=>by rw [e] at hpos;simp [pb] at hpos
   rw [if_neg hne];exact hy h
 · refine pZ (key _ (by omega)) ?_
   intro y hy;refine pP fun h=>⟨hR,?_⟩
   have he:lt' 128 l=[]:=by
    rw [hlen] at hpos;exact List.length_eq_zero_iff.1 (by omega)
   rw [if_pos he,List.append_nil];exact hy h
theorem c293 (s:List UInt8) (k:UInt8):∀(i:Nat) (n:Nat),i≤s.length→i<n→s.length≤1000000→(∀q,i≤q→∀h:q<s.length,s[q]≠k)→∃y,loopN F236_l0 n (s,(k.toNat:Int),(i:Int)-1,())=some y∧((∃p:Nat,p<i∧y = .inr ((p:Int),())∧s[p]? = some k∧∀q,p<q→∀h:q<s.length,s[q]≠k)∨(y = .inl ()∧∀q,∀h:q<s.length,s[q]≠k))
 | 0,n+1,hi,hn,hs,hno=>by
  refine ⟨.inl (),loopN_inr ?_,.inr ⟨rfl,fun q h=>hno q (Nat.zero_le _) h⟩⟩;rfl
 | i+1,n+1,hi,hn,hs,hno=>by
  have hg:s.getD i 0=s[i]:=getD_lt (by omega);have e1:(((i+1:Nat):Int)-1)=(i:Int):=by omega
  rw [e1];by_cases hk:s[i]=k
  · refine ⟨.inr ((i:Int),()),loopN_inr ?_,.inl ⟨i,by omega,rfl,by rw [List.getElem?_eq_getElem (by omega),hk],fun q hq h=>hno q (by omega) h⟩⟩
    simp only [F236_l0,Int.toNat_natCast,hg,hk];rw [decide_eq_true (by omega),decide_eq_true (by omega),ibT rfl];rfl
  · obtain ⟨y,h1,h2⟩:=c293 s k i n (by omega) (by omega) hs (fun q hq h=>by
     by_cases hqi:q=i
     · subst hqi;exact hk
     · exact hno q (by omega) h)
    refine ⟨y,?_,?_⟩
    · rw [loopN_inl (v':=(s,(k.toNat:Int),(i:Int)-1,())) ?_]
      · exact h1
      · simp only [F236_l0,Int.toNat_natCast,hg]
        have hne:((s[i].toNat:Int))≠(k.toNat:Int):=fun e=>hk (UInt8.toNat_inj.1 (by omega));rw [decide_eq_true (by omega),decide_eq_true (by omega),ibF hne,w64s (by omega)];rfl
    · rcases h2 with ⟨p,hp,h3⟩|h3
      · exact .inl ⟨p,by omega,h3⟩
      · exact .inr h3
theorem c270 (s:List UInt8) (k:UInt8) (hs:s.length≤1000000):(∃p:Nat,C210 (s,(k.toNat:Int),())=some ((p:Int),())∧s[p]? = some k∧∀q,p<q→∀h:q<s.length,s[q]≠k)∨(C210 (s,(k.toNat:Int),())=some (-1,())∧∀q,∀h:q<s.length,s[q]≠k):=by
 obtain ⟨y,h1,h2⟩:=c293 s k s.length big (Nat.le_refl _) (by unfold big;omega) hs (fun q hq h=>by omega);have h1':C236_l0 (s,(k.toNat:Int),IntKind.i64.wrap ((s.length:Int)-1),())=some y:=by rw [w64s (by omega)];exact h1
 have h3:∀r,(Sum.elim (fun (_:Unit)=>some ((-1:Int),())) (fun (val:Int×Unit)=>some (val.1,())) y)=some r→C210 (s,(k.toNat:Int),())=some r:=by
  intro r hr;have:C236 (s,(k.toNat:Int),())=some r:=by
   show F236 C236_l0 _=_;simp only [F236,h1',Option.bind_some];exact hr
  show F210 C236 _=_;simp only [F210,this,Option.bind_some]
 rcases h2 with ⟨p,hp,rfl,h4,h5⟩|⟨rfl,h4⟩
 · exact .inl ⟨p,h3 _ rfl,h4,h5⟩
 · exact .inr ⟨h3 _ rfl,h4⟩
theorem c21y (s:List UInt8) (hs:s.length≤1000000) (ha:∀c∈s,c.toNat<128):C12 (s,())=some (-1,()):=by
 suffices h:Df (C12 (s,())) (fun y=>y=(-1,())) by
  obtain ⟨y,e,rfl⟩:=h;exact e
 unfold C12 F12;dsimp only;refine dZ (P:=fun z=>z = .inl ()) ?_ ?_
 · refine dL ?I ?m ?h _ ?hv ?hn
   case I=>exact (fun v=>v.1=s∧v.2.1=s.length∧0≤v.2.2.1)
   case m=>exact (fun v=>(s.length-v.2.2.1).toNat)
   case hv=>exact ⟨rfl,rfl,Int.le_refl _⟩
   case hn=>exact (by (try dsimp only);omega)
   rintro ⟨s',n,k,u⟩ ⟨h1,h2,h3⟩;dsimp only at h1 h2 h3;subst h1;subst h2;unfold F12_l0;dsimp only;with_reducible repeat' (first|apply dP|apply dX<;>intro _)
   · rename_i hc
     have hg:(s'.getD k.toNat 0)∈s':=by rw [getD_lt (by omega)];exact List.getElem_mem _
     have:=ha _ hg;omega
   · rw [w64s (by omega)]
     exact ⟨⟨rfl,rfl,by (try dsimp only);omega⟩,by (try dsimp only);omega⟩
   · refine dO ?_;omega
   · rfl
 · rintro z rfl
   exact dP rfl
theorem pb_back:∀{l:List Int},(∀r∈l,0≤r∧r<128)→(pb l).map (fun b=>(b.toNat:Int))=l∧∀c∈pb l,c.toNat<128
 | [],_=>⟨rfl,fun c hc=>by cases hc⟩
 | r::l,h=>by
  obtain ⟨h1,h2⟩:=pb_back (l:=l) fun x hx=>h x (by simp [hx]);obtain ⟨a1,a2⟩:=h r (by simp);have e:(UInt8.ofNat (IntKind.u8.wrap r).toNat).toNat=r.toNat:=by
   have:IntKind.u8.wrap r=r:=by
    simp [IntKind.wrap,IntKind.bits,IntKind.signed];omega
   rw [this,UInt8.toNat_ofNat'];exact Nat.mod_eq_of_lt (by omega)
  refine ⟨?_,?_⟩
  · show ((UInt8.ofNat (IntKind.u8.wrap r).toNat).toNat:Int)::(pb l).map _=_
    rw [h1,e];congr 1;omega
  · intro c hc
    rcases List.mem_cons.1 hc with rfl|hc
    · rw [e];omega
    · exact h2 c hc
theorem puny (l:List Int) (hl:l.length≤59) (s:List UInt8) (h:C157 (l,())=some (s,true,())):C160 (s,())=some (l,true,())∧l.length≤s.length∧(∀r∈l,C98 (r,())=some (true,()))∧(∀c∈s,c.toNat<128)∧s.length≤700∧∀c∈s,c=45∨((97≤c.toNat∧c.toNat≤122)∨(48≤c.toNat∧c.toNat≤57))∨((c.toNat:Int)∈l):=by
 obtain ⟨hR,e,nd,id,bias,b,j,hs,hj,hrc,he,hc⟩:=p223 l hl _ h rfl;dsimp only at hs;have hlo:∀r∈lt' 128 l,0≤r∧r<128:=by
  intro r hr;have hm:=List.mem_filter.1 hr;exact ⟨(p155 r (hR r hm.1)).1,by simpa using hm.2⟩
 have hlin:∀r∈lt' 128 l,r∈l:=fun r hr=>(List.mem_filter.1 hr).1;obtain ⟨g1,g2⟩:=pb_back hlo;have hlen:(pb (lt' 128 l)).length=(lt' 128 l).length:=by simp [pb]
 have hle:(lt' 128 l).length≤59:=by
  have:=List.length_filter_le (fun r:Int=>decide (r<128)) l;unfold lt';omega
 have he128:∀c∈e,c.toNat<128:=fun c hce=>by rcases hc c hce with h|h<;>omega
 have he45:∀c∈e,c≠45:=fun c hce h45=>by
  have:=hc c hce;rw [h45] at this;rcases this with h|h
  · exact absurd h.1 (by decide)
  · exact absurd h.1 (by decide)
 generalize lt' 128 l=pl at *
 have hsa:∀c∈s,c.toNat<128:=by
  intro c hcs;rw [hs] at hcs;rcases List.mem_append.1 hcs with hcs|hcs
  · rcases List.mem_append.1 hcs with hcs|hcs
    · exact g2 c hcs
    · split at hcs
      · cases hcs
      · rw [List.mem_singleton.1 hcs];decide
  · exact he128 c hcs
 have hsl:s.length≤700:=by
  rw [hs];simp only [List.length_append];have:(if pl=[] then ([]:List UInt8) else [45]).length≤1:=by split<;>simp
  omega
 have hbig:∃m,big=(m+1)+j:=⟨big-j-1,by unfold big;omega⟩
 obtain ⟨m,hm⟩:=hbig;have hl0:C160_l0 (e,128,0,72,true,pl,())=some (.inl (l,())):=by
  show loopN Fd big _=_;rw [hm,hrc (m+1)];exact loopN_inr rfl
 have hc0:C160_c0 (e,pl,())=some (true,l,()):=by
  show F160_c0 C12 C192 C210 C211 C212 C98 C160_l0 _=_;simp only [F160_c0,hl0,Option.bind_some,Sum.elim_inl]
 refine ⟨?_,?_,hR,hsa,hsl,?_⟩
 · have h21:=c21y s (by omega) hsa
   show F160 C12 C192 C210 C211 C212 C98 C160_c0 _=_;simp only [F160,h21,Option.bind_some];rw [decide_eq_false (by omega)];simp only [cond_false];by_cases hp:pl=[]
   · subst hp
     have hse:s=e:=by rw [hs];simp [pb]
     have h270:C210 (s,45,())=some (-1,()):=by
      rcases c270 s 45 (by omega) with ⟨p,h1,h2,-⟩|⟨h1,-⟩
      · exfalso
        rw [hse] at h2;exact he45 45 (List.mem_of_getElem? h2) rfl
      · exact h1
     rw [h270];simp only [Option.bind_some];rw [decide_eq_false (by omega),hse];simp only [cond_false,hc0,Option.bind_some]
   · rw [if_neg hp] at hs
     have hpl:1≤pl.length:=List.length_pos_iff.2 hp;have h270:C210 (s,45,())=some (((pb pl).length:Int),()):=by
      have hat:s[(pb pl).length]? = some 45:=by rw [hs];simp
      have hno:∀q,(pb pl).length<q→∀h:q<s.length,s[q]≠45:=by
       intro q hq h;have:s[q]=e[q-((pb pl).length+1)]'(by rw [hs] at h;simp at h;omega):=by
        simp only [hs];rw [List.getElem_append_right (by simp;omega)];simp
       rw [this];exact he45 _ (List.getElem_mem _)
      rcases c270 s 45 (by omega) with ⟨p,h1,h2,h3⟩|⟨h1,h3⟩
      · have:p=(pb pl).length:=by
         rcases Nat.lt_trichotomy p (pb pl).length with hlt|heq|hgt
         · exfalso
           obtain ⟨hh,hv⟩:=List.getElem?_eq_some_iff.1 hat
           exact h3 _ hlt hh hv
         · exact heq
         · exfalso
           obtain ⟨hh,hv⟩:=List.getElem?_eq_some_iff.1 h2;exact hno p hgt hh hv
        rw [this] at h1;exact h1
      · exfalso
        obtain ⟨hh,hv⟩:=List.getElem?_eq_some_iff.1 hat
        exact h3 _ hh hv
     rw [h270];simp only [Option.bind_some,Int.toNat_natCast];have ht:s.take (pb pl).length=pb pl:=by rw [hs,List.append_assoc];exact List.take_left
     have hd:s.drop ((pb pl).length+1)=e:=by
      rw [hs,show (pb pl).length+1=(pb pl++[45]).length by simp];exact List.drop_left
     have hsl2:s.length=(pb pl).length+1+e.length:=by rw [hs];simp;omega
     have hall:(pb pl).all (fun b=>decide (b.toNat<128))=true:=List.all_eq_true.2 fun c hcp=>by simpa using g2 c hcp
     have w1:=w64s (n:=((pb pl).length:Int)+1) (by omega);have t1:(((pb pl).length:Int)+1).toNat=(pb pl).length+1:=by omega
     simp only [w1,t1,ht,hall,hd,g1,hc0,Option.bind_some];rw [decide_eq_true (show ((pb pl).length:Int)>0 by omega),decide_eq_true (show (0:Int)≤((pb pl).length:Int) by omega),decide_eq_true (show ((pb pl).length:Int)≤(s.length:Int) by omega),decide_eq_true (show (pb pl).length≤70368744177664 by omega),decide_eq_true (show (0:Int)≤((pb pl).length:Int)+1 by omega),decide_eq_true (show ((pb pl).length:Int)+1≤(s.length:Int) by omega)];rfl
 · rw [hs]
   simp only [List.length_append];omega
 · intro c hcs
   rw [hs] at hcs;rcases List.mem_append.1 hcs with hcs|hcs
   · rcases List.mem_append.1 hcs with hcs|hcs
     · right;right
       refine hlin _ ?_;have:(c.toNat:Int)∈(pb pl).map (fun b=>(b.toNat:Int)):=List.mem_map_of_mem hcs;rw [g1] at this;exact this
     · split at hcs
       · cases hcs
       · exact .inl (List.mem_singleton.1 hcs)
   · exact .inr (.inl (hc c hcs))
theorem all256 (p:UInt8→Bool) (h:(List.range 256).all (fun n=>p (UInt8.ofNat n))=true) (c:UInt8):p c=true:=by
 have h1:=List.all_eq_true.1 h c.toNat (List.mem_range.2 (by have:=c.toNat_lt;omega))
 simpa using h1
def gB (o:Option (Bool×Unit)):Bool:=match o with|some (b,_)=>b|none=>false
def okB (o:Option (Bool×Unit)):Bool:=match o with|some (_,_)=>true|none=>false
theorem okB_some {o:Option (Bool×Unit)} (h:okB o=true):o=some (gB o,()):=by
 cases o with
 | none=>cases h
 | some x=>rfl
def atomB (c:UInt8):Bool:=gB (C100 ((c.toNat:Int),()))
def blankB (c:UInt8):Bool:=gB (C133 ((c.toNat:Int),()))
def mayB (c:UInt8):Bool:=gB (C132 ((c.toNat:Int),()))
def signI (c:UInt8):Int:=match C102 ([60,62,58,59,64,44,46],(c.toNat:Int),()) with|some (i,_)=>i|none=>0
def signB (c:UInt8):Bool:=decide (signI c≥0)
theorem c17 (c:UInt8):C100 ((c.toNat:Int),())=some (atomB c,()):=okB_some (all256 (fun c=>okB (C100 ((c.toNat:Int),()))) (by kernel_rfl) c)
theorem c32 (c:UInt8):C133 ((c.toNat:Int),())=some (blankB c,()):=okB_some (all256 (fun c=>okB (C133 ((c.toNat:Int),()))) (by kernel_rfl) c)
theorem c31 (c:UInt8):C132 ((c.toNat:Int),())=some (mayB c,()):=okB_some (all256 (fun c=>okB (C132 ((c.toNat:Int),()))) (by kernel_rfl) c)
theorem c22s (c:UInt8):C102 ([60,62,58,59,64,44,46],(c.toNat:Int),())=some (signI c,()):=rfl
theorem gd {α:Type} {pre r:List α} {c d:α} {p:Nat} (h:pre.length=p):(pre++c::r).getD p d=c:=by subst h;simp
theorem dr {α:Type} {pre r:List α} {p:Nat} (h:pre.length=p):List.drop p (pre++r)=r:=by subst h;simp
theorem Sk:(∀{p:Prop} [Decidable p],p→decide p=true)∧(∀{p:Prop} [Decidable p],¬p→decide p=false)∧(∀{α:Type} (a b:α),(bif true then a else b)=a)∧(∀{α:Type} (a b:α),(bif false then a else b)=b) ∧
 (∀b:Bool,(b&&b)=b)∧(∀b:Bool,(true&&b)=b)∧(∀b:Bool,(b&&true)=b)∧(∀b:Bool,(false&&b)=false)∧(∀b:Bool,(b&&false)=false)∧(!true)=false∧(!false)=true ∧
 (∀{α:Type} {a b:List α},(a++b).length=a.length+b.length)∧(∀{α:Type} {a:α} {l:List α},(a::l).length=l.length+1)∧(∀{α:Type},([]:List α).length=0)∧(∀n:Nat,((n:Int)).toNat=n) ∧
 (∀{a b:Int},a=b→(a==b)=true)∧(∀{a b:Int},a≠b→(a==b)=false)∧(∀{a b:Int},a≠b→(a != b)=true)∧(∀{a b:Int},a=b→(a != b)=false) ∧
 (∀n:Nat,n≤9223372036854775806→IntKind.i64.wrap ((n:Int)+1)=((n+1:Nat):Int))∧(∀{α:Type} {pre r:List α} {c d:α} {p:Nat},pre.length=p→(pre++c::r).getD p d=c)∧(∀{α:Type} {pre r:List α} {p:Nat},pre.length=p→List.drop p (pre++r)=r) ∧
 (∀{α β:Type} (a:α) (f:α→Option β),(some a).bind f=f a)∧(∀{α β γ:Type} (f:α→γ) (g:β→γ) (x:α),Sum.elim f g (Sum.inl x)=f x)∧(∀{α β γ:Type} (f:α→γ) (g:β→γ) (x:β),Sum.elim f g (Sum.inr x)=g x)∧(∀b:UInt8,UInt8.ofNat ((b.toNat:Int)).toNat=b)∧∀b:UInt8,UInt8.ofNat b.toNat=b :=
 ⟨@decide_eq_true,@decide_eq_false,fun _ _=>rfl,fun _ _=>rfl,Bool.and_self,Bool.true_and,Bool.and_true,Bool.false_and,Bool.and_false,rfl,rfl,@fun _ _ _=>List.length_append,@fun _ _ _=>List.length_cons,@fun _=>List.length_nil,Int.toNat_natCast,@ibT,@ibF,@inT,@inF,wrN,@gd,@dr,@Option.bind_some,fun _ _ _=>rfl,fun _ _ _=>rfl,byte_back,of_to⟩
theorem shift {α:Type} (pre:List α) (c:α) (r:List α):pre++c::r=(pre++[c])++r:=by simp
theorem c27 (k e:Int) (s:List UInt8) (at_ bad err:Int):C107 (k,e,s,at_,bad,err,())=some (s,at_,k,e,()):=rfl
def al:List UInt8→Nat
 | []=>0
 | c::r=>bif atomB c then al r+1 else 0
theorem al_le:∀r,al r≤r.length
 | []=>Nat.le_refl _
 | c::r=>by have:=al_le r;simp only [al];cases atomB c<;>simp;omega
theorem l21 (f bad err:Int):∀(r pre:List UInt8) (p n:Nat),pre.length=p→r.length<n→p+r.length≤140737488355328 →
 loopN (F101_l0 C100 C101_c0) n (f,pre++r,(p:Int),bad,err,())=some (f,pre++r,((p+al r:Nat):Int),bad,err,())
 | [],pre,p,n+1,hp,hn,hb=>by
  refine loopN_inr ?_;simp (disch:=(first|omega|(simp only [vl];omega))) only [F101_l0,C101_c0,F101_c0,Sk,al,List.append_nil,Nat.add_zero]
 | c::r,pre,p,n+1,hp,hn,hb=>by
  simp only [List.length_cons] at hn hb;cases h:atomB c with
  | true =>
   rw [loopN_inl (v':=(f,pre++c::r,((p+1:Nat):Int),bad,err,())) (by simp (disch:=(first|omega|(simp only [vl];omega))) only [F101_l0,C101_c0,F101_c0,Sk,c17,h])];rw [shift,l21 f bad err r (pre++[c]) (p+1) n (by simp [hp]) (by omega) (by omega)];simp only [al,h,cond_true,Nat.add_assoc,Nat.add_comm 1]
  | false =>
   refine loopN_inr ?_;simp (disch:=(first|omega|(simp only [vl];omega))) only [F101_l0,C101_c0,F101_c0,Sk,c17,h,al,Nat.add_zero]
theorem c21 (pre r:List UInt8) (p:Nat) (bad err:Int) (hp:pre.length=p) (hb:p+r.length≤140737488355328) :
 C101 (pre++r,(p:Int),bad,err,())=some (r.take (al r),pre++r,((p+al r:Nat):Int),bad,err,()):=by
 have:=al_le r;show F101 C100 C101_l0 (pre++r,(p:Int),bad,err,())=_;have hl:C101_l0 ((p:Int),pre++r,(p:Int),bad,err,())=_:=l21 p bad err r pre p big hp (by unfold big;omega) hb;simp (disch:=(first|omega|(simp only [vl];omega))) only [F101,hl,Sk];rw [show List.drop p (List.take (p+al r) (pre++r))=r.take (al r) by rw [←hp,List.take_append,List.take_of_length_le (by omega),List.drop_append];simp]
def wl:List UInt8→Nat
 | []=>0
 | c::r=>bif blankB c then wl r+1 else
  match r with
  | b::d::r'=>bif (c==13&&b==10)&&blankB d then wl r'+3 else 0
  | _=>0
theorem wl_le:∀r,wl r≤r.length
 | []=>Nat.le_refl _
 | [c]=>by simp only [wl];cases blankB c<;>simp
 | [c,b]=>by have:=wl_le [b];simp only [wl] at *;cases blankB c<;>cases blankB b<;>simp
 | c::b::d::r'=>by
  have h1:=wl_le (b::d::r');have h2:=wl_le r';rw [wl];cases blankB c
  · simp only [cond_false];cases (c==13&&b==10)&&blankB d<;>simp;omega
  · simp only [cond_true,List.length_cons] at *;omega
theorem beq2 (c b:UInt8):([c,b]==[13,10])=(c==13&&b==10):=by
 rw [Bool.eq_iff_iff];simp
theorem c26c (f p:Nat) (s:List UInt8) (bad err:Int) (b:Bool) (hf:f≤p) (hp:p≤s.length) (hb:p≤140737488355328) :
 C106_c0 ((f:Int),b,s,(p:Int),bad,err,())=some (bif b then .inl ((f:Int),s,((p+3:Nat):Int),bad,err,()) else .inr (List.drop f (List.take p s),s,(p:Int),bad,err,())):=by
 cases b with
 | true=>simp only [C106_c0,F106_c0,cond_true];rw [wr (by omega) (by omega)];rfl
 | false=>simp (disch:=(first|omega|(simp only [vl];omega))) only [C106_c0,F106_c0,Sk]
theorem wl_t {c:UInt8} {r:List UInt8} (h:blankB c=true):wl (c::r)=wl r+1:=by
 match r with
 | []=>simp [wl,h]
 | [b]=>simp [wl,h]
 | b::d::r=>rw [wl,h];rfl
theorem wl_stop {c:UInt8} {r:List UInt8} (h:blankB c=false) (h2:r.length<2):wl (c::r)=0:=by
 match r,h2 with
 | [],_=>simp [wl,h]
 | [b],_=>simp [wl,h]
 | b::d::r,h2=>simp at h2;omega
theorem l26 (f:Nat) (bad err:Int):∀(m:Nat) (r pre:List UInt8) (p n:Nat),r.length≤m→pre.length=p→r.length<n→f≤p→p+r.length≤140737488355328 →
 loopN (F106_l0 C133 C106_c0) n ((f:Int),pre++r,(p:Int),bad,err,())=some (.inl ((f:Int),pre++r,((p+wl r:Nat):Int),bad,err,())) ∨
 loopN (F106_l0 C133 C106_c0) n ((f:Int),pre++r,(p:Int),bad,err,())=some (.inr (List.drop f (List.take (p+wl r) (pre++r)),pre++r,((p+wl r:Nat):Int),bad,err,()))
 | _,_,_,_,0,_,_,hn,_,_=>by omega
 | m,[],pre,p,n+1,hm,hp,hn,hf,hb=>by
  refine .inl (loopN_inr ?_);simp (disch:=(first|omega|(simp only [vl];omega))) only [F106_l0,Sk,wl,List.append_nil,Nat.add_zero]
 | 0,c::r,pre,p,n+1,hm,hp,hn,hf,hb=>by simp at hm
 | m+1,c::r,pre,p,n+1,hm,hp,hn,hf,hb=>by
  simp only [List.length_cons] at hn hb hm;cases h:blankB c with
  | true =>
   rw [loopN_inl (v':=((f:Int),pre++c::r,((p+1:Nat):Int),bad,err,())) (by simp (disch:=(first|omega|(simp only [vl];omega))) only [F106_l0,Sk,c32,h,List.getD_cons_zero])];rw [shift];have:=l26 f bad err m r (pre++[c]) (p+1) n (by omega) (by simp [hp]) (by omega) (by omega) (by omega);rw [show p+wl (c::r)=p+1+wl r by rw [wl_t h];omega];exact this
  | false =>
   have stop:∀(hw:wl (c::r)=0),F106_l0 C133 C106_c0 ((f:Int),pre++c::r,(p:Int),bad,err,())=some (.inr (.inr (List.drop f (List.take p (pre++c::r)),pre++c::r,(p:Int),bad,err,()))) →
    loopN (F106_l0 C133 C106_c0) (n+1) ((f:Int),pre++c::r,(p:Int),bad,err,())=some (.inr (List.drop f (List.take (p+wl (c::r)) (pre++c::r)),pre++c::r,((p+wl (c::r):Nat):Int),bad,err,())):=by
    intro hw h;rw [hw];exact loopN_inr h
   match r,hm,hn,hb with
   | [],hm,hn,hb =>
    refine .inr (stop (wl_stop h (by simp)) ?_);simp (disch:=(first|omega|(simp only [vl];omega))) only [F106_l0,Sk,c32,h,List.getD_cons_zero,c26c]
   | [b],hm,hn,hb =>
    refine .inr (stop (wl_stop h (by simp)) ?_);simp only [List.length_cons,List.length_nil] at hn hb hm;simp (disch:=(first|omega|(simp only [vl];omega))) only [F106_l0,Sk,c32,h,List.getD_cons_zero,c26c]
   | b::d::r',hm,hn,hb =>
    simp only [List.length_cons] at hn hb hm;cases hq:(c==13&&b==10) with
    | false =>
     refine .inr (stop (by rw [wl,h,hq];rfl) ?_);simp (disch:=(first|omega|(simp only [vl];omega))) only [F106_l0,Sk,c32,h,List.getD_cons_zero,c26c,List.take_succ_cons,List.take_zero,beq2,hq]
    | true =>
     cases hd:blankB d with
     | false =>
      refine .inr (stop (by rw [wl,h,hq,hd];rfl) ?_);simp (disch:=(first|omega|(simp only [vl];omega))) only [F106_l0,Sk,c32,h,List.getD_cons_zero,List.getD_cons_succ,c26c,List.take_succ_cons,List.take_zero,beq2,hq,hd]
     | true =>
      rw [loopN_inl (v':=((f:Int),pre++c::b::d::r',((p+3:Nat):Int),bad,err,())) (by simp (disch:=(first|omega|(simp only [vl];omega))) only [F106_l0,Sk,c32,h,List.getD_cons_zero,List.getD_cons_succ,c26c,List.take_succ_cons,List.take_zero,beq2,hq,hd])];have:=l26 f bad err m r' (pre++[c,b,d]) (p+3) n (by omega) (by simp [hp]) (by omega) (by omega) (by omega);rw [show p+wl (c::b::d::r')=p+3+wl r' by rw [wl,h,hq,hd];simp only [cond_true,cond_false,Bool.and_self];omega];rw [show pre++c::b::d::r'=(pre++[c,b,d])++r' by simp];exact this
theorem text_eq {pre r:List UInt8} {p k:Nat} (hp:pre.length=p):List.drop p (List.take (p+k) (pre++r))=r.take k:=by
 rw [←hp,List.take_append,List.take_of_length_le (by omega),List.drop_append];simp
theorem c26 (pre r:List UInt8) (p:Nat) (bad err:Int) (hp:pre.length=p) (hb:p+r.length≤140737488355328) :
 C106 (pre++r,(p:Int),bad,err,())=some (r.take (wl r),pre++r,((p+wl r:Nat):Int),bad,err,()):=by
 have:=wl_le r;show F106 C133 C106_l0 (pre++r,(p:Int),bad,err,())=_;rcases l26 p bad err r.length r pre p big (Nat.le_refl _) hp (by unfold big;omega) (Nat.le_refl _) hb with hl|hl
 · have hl':C106_l0 ((p:Int),pre++r,(p:Int),bad,err,())=_:=hl
   simp (disch:=(first|omega|(simp only [vl];omega))) only [F106,hl',Sk,text_eq]
 · have hl':C106_l0 ((p:Int),pre++r,(p:Int),bad,err,())=_:=hl
   simp (disch:=(first|omega|(simp only [vl];omega))) only [F106,hl',Sk,text_eq]
inductive Tk where
 | ok (t:List UInt8) (u:Nat)
 | bad (off:Nat) (e:Int)
 | start
def Tk.push (l:List UInt8) (n:Nat):Tk→Tk
 | .ok t u => .ok (l++t) (n+u)
 | .bad off e => .bad (n+off) e
 | .start => .start
def qt:List UInt8→Tk
 | [] => .start
 | c::r=>if c.toNat=34 then .ok [] 1 else if c.toNat=92 then
  match r with
  | [] => .start
  | d::r'=>bif mayB d then (qt r').push [d] 2 else .bad 1 4
  else bif mayB c then (qt r).push [c] 1 else .bad 0 4
theorem qt_q {c:UInt8} {r:List UInt8} (h:c.toNat=34):qt (c::r) = .ok [] 1:=by cases r<;>simp [qt,h]
theorem qt_b0 {c:UInt8} (h:c.toNat=92):qt [c] = .start:=by simp [qt,h]
theorem qt_b1 {c d:UInt8} {r:List UInt8} (h:c.toNat=92):qt (c::d::r)=bif mayB d then (qt r).push [d] 2 else .bad 1 4:=by simp [qt,h]
theorem qt_c {c:UInt8} {r:List UInt8} (h1:¬c.toNat=34) (h2:¬c.toNat=92):qt (c::r)=bif mayB c then (qt r).push [c] 1 else .bad 0 4:=by cases r<;>simp [qt,h1,h2]
def resq (s:List UInt8) (a bad err:Int) (out:List UInt8) (q:Nat):Tk→(List UInt8×Int×Int×Int×Unit)⊕(List UInt8×List UInt8×Int×Int×Int×Unit)
 | .ok t u => .inr (out++t,s,((q+u:Nat):Int),bad,err,())
 | .bad off e => .inr ([],s,a,((q+off:Nat):Int),e,())
 | .start => .inl (s,a,bad,err,())
theorem resq_push (s:List UInt8) (a bad err:Int) (out:List UInt8) (q:Nat) (l:List UInt8) (n:Nat) (k:Tk):resq s a bad err out q (k.push l n)=resq s a bad err (out++l) (q+n) k:=by
 cases k<;>simp [Tk.push,resq,Nat.add_assoc]
theorem c23c (pre r out:List UInt8) (d:UInt8) (q:Nat) (a bad err:Int) (hq:pre.length=q) (hb:q+r.length≤140737488355320) (ho:out.length+1≤140737488355328) :
 C103_c0 ((q:Int),pre++d::r,a,bad,err,out,())=some (bif mayB d then .inr ((q:Int),pre++d::r,a,bad,err,out++[d],()) else .inl ([],pre++d::r,a,(q:Int),4,())):=by
 cases h:mayB d<;>simp (disch:=(first|omega|(simp only [vl];omega))) only [C103_c0,F103_c0,Sk,c31,c27,h]
theorem l23 (a bad err:Int):∀(m:Nat) (r pre out:List UInt8) (q n:Nat),r.length≤m→pre.length=q→r.length<n→q+r.length≤140737488355320→out.length+r.length≤140737488355320 →
 loopN (F103_l0 C107 C132 C103_c0) n ((q:Int),pre++r,a,bad,err,out,())=some (resq (pre++r) a bad err out q (qt r))
 | _,_,_,_,_,0,_,_,hn,_,_=>by omega
 | m,[],pre,out,q,n+1,hm,hq,hn,hb,ho=>by
  refine loopN_inr ?_;simp (disch:=(first|omega|(simp only [vl];omega))) only [F103_l0,Sk,List.append_nil,qt,resq]
 | 0,c::r,pre,out,q,n+1,hm,hq,hn,hb,ho=>by simp at hm
 | m+1,c::r,pre,out,q,n+1,hm,hq,hn,hb,ho=>by
  simp only [List.length_cons] at hn hb hm ho;by_cases e1:c.toNat=34
  · refine loopN_inr ?_
    rw [qt_q e1];simp (disch:=(first|omega|(simp only [vl];omega))) only [F103_l0,Sk,resq,List.append_nil]
  · by_cases e2:c.toNat=92
    · match r,hm,hn,hb,ho with
      | [],hm,hn,hb,ho =>
       refine loopN_inr ?_;rw [qt_b0 e2];simp (disch:=(first|omega|(simp only [vl];omega))) only [F103_l0,Sk,resq,List.append_nil]
      | d::r',hm,hn,hb,ho =>
       simp only [List.length_cons] at hn hb hm ho;have hc:=c23c (pre++[c]) r' out d (q+1) a bad err (by simp [hq]) (by omega) (by omega);rw [←shift] at hc;rw [qt_b1 e2];cases h:mayB d with
       | true =>
        rw [h] at hc;simp only [cond_true] at hc ⊢;rw [loopN_inl (v':=(((q+2:Nat):Int),pre++c::d::r',a,bad,err,out++[d],())) (by
         simp (disch:=(first|omega|(simp only [vl];omega))) only [F103_l0,Sk,hc])]
        have:=l23 a bad err m r' (pre++[c,d]) (out++[d]) (q+2) n (by omega) (by simp [hq]) (by omega) (by omega) (by simp;omega);rw [show pre++c::d::r'=(pre++[c,d])++r' by simp,this,←resq_push]
       | false =>
        rw [h] at hc;simp only [cond_false] at hc ⊢;refine loopN_inr ?_;simp (disch:=(first|omega|(simp only [vl];omega))) only [F103_l0,Sk,hc,resq]
    · have hc:=c23c pre r out c q a bad err hq (by omega) (by omega)
      rw [qt_c e1 e2];cases h:mayB c with
      | true =>
       rw [h] at hc;simp only [cond_true] at hc ⊢;rw [loopN_inl (v':=(((q+1:Nat):Int),pre++c::r,a,bad,err,out++[c],())) (by
        simp (disch:=(first|omega|(simp only [vl];omega))) only [F103_l0,Sk,hc])]
       have:=l23 a bad err m r (pre++[c]) (out++[c]) (q+1) n (by omega) (by simp [hq]) (by omega) (by omega) (by simp;omega);rw [shift,this,←resq_push]
      | false =>
       rw [h] at hc;simp only [cond_false] at hc ⊢;refine loopN_inr ?_;simp (disch:=(first|omega|(simp only [vl];omega))) only [F103_l0,Sk,hc,resq,Nat.add_zero]
def fin (s:List UInt8) (p:Nat) (bad err:Int) (q:Nat):Tk→List UInt8×List UInt8×Int×Int×Int×Unit
 | .ok t u=>(t,s,((q+u:Nat):Int),bad,err,())
 | .bad off e=>([],s,(p:Int),((q+off:Nat):Int),e,())
 | .start=>([],s,(p:Int),(p:Int),4,())
theorem c23 (pre r:List UInt8) (c:UInt8) (p:Nat) (bad err:Int) (hp:pre.length=p) (hb:p+r.length≤140737488355000) :
 C103 (pre++c::r,(p:Int),bad,err,())=some (fin (pre++c::r) p bad err (p+1) (qt r)):=by
 show F103 C107 C132 C103_l0 (pre++c::r,(p:Int),bad,err,())=_;have hl:=l23 p bad err r.length r (pre++[c]) [] (p+1) big (Nat.le_refl _) (by simp [hp]) (by unfold big;omega) (by omega) (by simp;omega);rw [←shift] at hl;have hl':C103_l0 (((p+1:Nat):Int),pre++c::r,(p:Int),bad,err,[],())=_:=hl;cases hq:qt r<;>rw [hq] at hl'<;>simp (disch:=(first|omega|(simp only [vl];omega))) only [F103,Sk,hl',resq,fin,c27,List.nil_append]
def ltk:List UInt8→Tk
 | [] => .start
 | c::r=>if c.toNat=93 then .ok [] 1 else if c.toNat=91 then .bad 0 4 else if c.toNat=92 then .bad 0 4 else
  bif blankB c then .bad 0 4 else bif mayB c then (ltk r).push [c] 1 else .bad 0 4
def resl (s:List UInt8) (a bad err:Int) (from_:Nat) (q:Nat):Tk→(List UInt8×Int×Int×Int×Unit)⊕(List UInt8×List UInt8×Int×Int×Int×Unit)
 | .ok t u => .inr (List.drop from_ (List.take (q+t.length) s),s,((q+u:Nat):Int),bad,err,())
 | .bad off e => .inr ([],s,a,((q+off:Nat):Int),e,())
 | .start => .inl (s,a,bad,err,())
theorem resl_push (s:List UInt8) (a bad err:Int) (f q:Nat) (l:List UInt8) (n:Nat) (hl:l.length=n) (k:Tk):resl s a bad err f q (k.push l n)=resl s a bad err f (q+n) k:=by
 cases k<;>simp [Tk.push,resl,Nat.add_assoc,hl]
theorem l24 (a:Nat) (bad err:Int):∀(r pre:List UInt8) (q n:Nat),pre.length=q→a+1≤q→r.length<n→q+r.length≤140737488355320 →
 loopN (F104_l0 C107 C132 C133 C104_c0) n ((q:Int),pre++r,(a:Int),bad,err,())=some (resl (pre++r) a bad err (a+1) q (ltk r))
 | _,_,_,0,_,_,hn,_=>by omega
 | [],pre,q,n+1,hq,ha,hn,hb=>by
  refine loopN_inr ?_;simp (disch:=(first|omega|(simp only [vl];omega))) only [F104_l0,C104_c0,F104_c0,Sk,List.append_nil,ltk,resl]
 | c::r,pre,q,n+1,hq,ha,hn,hb=>by
  simp only [List.length_cons] at hn hb;by_cases e1:c.toNat=93
  · refine loopN_inr ?_
    simp (disch:=(first|omega|(simp only [vl];omega))) only [F104_l0,C104_c0,F104_c0,Sk,ltk,if_pos,resl,Nat.add_zero]
  · by_cases e2:c.toNat=91
    · refine loopN_inr ?_
      simp (disch:=(first|omega|(simp only [vl];omega))) only [F104_l0,C104_c0,F104_c0,Sk,ltk,if_pos,if_neg,resl,Nat.add_zero,c27]
    · by_cases e3:c.toNat=92
      · refine loopN_inr ?_
        simp (disch:=(first|omega|(simp only [vl];omega))) only [F104_l0,C104_c0,F104_c0,Sk,ltk,if_pos,if_neg,resl,Nat.add_zero,c27]
      · cases h1:blankB c with
        | true =>
         refine loopN_inr ?_;simp (disch:=(first|omega|(simp only [vl];omega))) only [F104_l0,C104_c0,F104_c0,Sk,ltk,if_pos,if_neg,resl,Nat.add_zero,c27,c32,h1]
        | false =>
         cases h2:mayB c with
         | false =>
          refine loopN_inr ?_;simp (disch:=(first|omega|(simp only [vl];omega))) only [F104_l0,C104_c0,F104_c0,Sk,ltk,if_pos,if_neg,resl,Nat.add_zero,c27,c32,c31,h1,h2]
         | true =>
          rw [loopN_inl (v':=(((q+1:Nat):Int),pre++c::r,(a:Int),bad,err,())) (by
           simp (disch:=(first|omega|(simp only [vl];omega))) only [F104_l0,C104_c0,F104_c0,Sk,c32,c31,h1,h2])]
          have:=l24 a bad err r (pre++[c]) (q+1) n (by simp [hq]) (by omega) (by omega) (by omega);rw [shift,this,←resl_push (l:=[c]) (n:=1) _ _ _ _ _ _ rfl];simp only [ltk,if_neg e1,if_neg e2,if_neg e3,h1,h2,cond_true,cond_false]
theorem ltk_ok:∀{r t:List UInt8} {u:Nat},ltk r = .ok t u→u=t.length+1∧t.length<r.length∧r.take t.length=t
 | [],t,u,h=>by simp [ltk] at h
 | c::r,t,u,h=>by
  unfold ltk at h;split at h
  · cases h;simp
  · split at h
    · cases h
    · split at h
      · cases h
      · cases h1:blankB c<;>cases h2:mayB c<;>rw [h1,h2] at h<;>simp only [cond_true,cond_false] at h<;>try (cases h;done)
        cases hr:ltk r with
        | ok t' u' =>
         rw [hr] at h;cases h;obtain ⟨i1,i2,i3⟩:=ltk_ok hr;exact ⟨by simp;omega,by simpa using i2,by simpa using i3⟩
        | bad o e=>rw [hr] at h;cases h
        | start=>rw [hr] at h;cases h
theorem c24 (pre r:List UInt8) (c:UInt8) (p:Nat) (bad err:Int) (hp:pre.length=p) (hb:p+r.length≤140737488355000) :
 C104 (pre++c::r,(p:Int),bad,err,())=some (fin (pre++c::r) p bad err (p+1) (ltk r)):=by
 show F104 C107 C132 C133 C104_l0 (pre++c::r,(p:Int),bad,err,())=_;have hl:=l24 p bad err r (pre++[c]) (p+1) big (by simp [hp]) (by omega) (by unfold big;omega) (by omega);rw [←shift] at hl;have hl':C104_l0 (((p+1:Nat):Int),pre++c::r,(p:Int),bad,err,())=_:=hl;cases hq:ltk r with
 | ok t u =>
  rw [hq] at hl';obtain ⟨i1,i2,i3⟩:=ltk_ok hq;simp (disch:=(first|omega|(simp only [vl];omega))) only [F104,Sk,hl',resl,fin];rw [shift,text_eq (by simp [hp]),i3]
 | bad o e=>rw [hq] at hl';simp (disch:=(first|omega|(simp only [vl];omega))) only [F104,Sk,hl',resl,fin]
 | start=>rw [hq] at hl';simp (disch:=(first|omega|(simp only [vl];omega))) only [F104,Sk,hl',resl,fin,c27]
def nt:Nat→List UInt8→Tk
 | _,[] => .start
 | deep,c::r=>if c.toNat=40 then (if deep+1>32 then .bad 0 6 else (nt (deep+1) r).push [c] 1)
  else if c.toNat=41 then (if deep=1 then .ok [] 1 else (nt (deep-1) r).push [c] 1)
  else if c.toNat=92 then
   match r with
   | [] => .start
   | d::r'=>bif mayB d then (nt deep r').push [c,d] 2 else .bad 1 4
  else bif mayB c then (nt deep r).push [c] 1 else .bad 0 4
theorem nt_o {deep:Nat} {c:UInt8} {r:List UInt8} (h:c.toNat=40):nt deep (c::r)=if deep+1>32 then .bad 0 6 else (nt (deep+1) r).push [c] 1:=by cases r<;>simp [nt,h]
theorem nt_c {deep:Nat} {c:UInt8} {r:List UInt8} (h:c.toNat=41):nt deep (c::r)=if deep=1 then .ok [] 1 else (nt (deep-1) r).push [c] 1:=by cases r<;>simp [nt,h]
theorem nt_b0 {deep:Nat} {c:UInt8} (h:c.toNat=92):nt deep [c] = .start:=by simp [nt,h]
theorem nt_b1 {deep:Nat} {c d:UInt8} {r:List UInt8} (h:c.toNat=92):nt deep (c::d::r)=bif mayB d then (nt deep r).push [c,d] 2 else .bad 1 4:=by simp [nt,h]
theorem nt_m {deep:Nat} {c:UInt8} {r:List UInt8} (h1:¬c.toNat=40) (h2:¬c.toNat=41) (h3:¬c.toNat=92):nt deep (c::r)=bif mayB c then (nt deep r).push [c] 1 else .bad 0 4:=by cases r<;>simp [nt,h1,h2,h3]
theorem wrM (n:Nat) (h:n≤9223372036854775806) (h1:1≤n):IntKind.i64.wrap ((n:Int)-1)=((n-1:Nat):Int):=by rw [wr]<;>omega
def resn (s:List UInt8) (f:Nat) (a bad err:Int) (q:Nat):Tk→((Int×Int×List UInt8×Int×Int×Int×Unit)⊕(Int×Int×List UInt8×Int×Int×Int×Unit)⊕(List UInt8×List UInt8×Int×Int×Int×Unit))
 | .ok t u => .inr (.inr (List.drop (f+1) (List.take (q+t.length) s),s,((q+u:Nat):Int),bad,err,()))
 | .bad off e => .inr (.inl (e,((q+off:Nat):Int),s,a,bad,err,()))
 | .start => .inl ((f:Int),4,s,a,bad,err,())
theorem resn_push (s:List UInt8) (f:Nat) (a bad err:Int) (q:Nat) (l:List UInt8) (n:Nat) (hl:l.length=n) (k:Tk):resn s f a bad err q (k.push l n)=resn s f a bad err (q+n) k:=by
 cases k<;>simp [Tk.push,resn,Nat.add_assoc,hl]
theorem l25 (f:Nat) (a bad err:Int):∀(m:Nat) (r pre:List UInt8) (deep q n:Nat),r.length≤m→1≤deep→deep≤32→pre.length=q→f+1≤q→r.length<n→q+r.length≤140737488355320 →
 loopN (F105_l0 C107 C132) n ((f:Int),(deep:Int),4,(q:Int),pre++r,a,bad,err,())=some (resn (pre++r) f a bad err q (nt deep r))
 | _,_,_,_,_,0,_,_,_,_,_,hn,_=>by omega
 | m,[],pre,deep,q,n+1,hm,hd,hd2,hq,hf,hn,hb=>by
  refine loopN_inr ?_;simp (disch:=(first|omega|(simp only [vl];omega))) only [F105_l0,Sk,List.append_nil,nt,resn]
 | 0,c::r,pre,deep,q,n+1,hm,hd,hd2,hq,hf,hn,hb=>by simp at hm
 | m+1,c::r,pre,deep,q,n+1,hm,hd,hd2,hq,hf,hn,hb=>by
  simp only [List.length_cons] at hn hb hm;have next:∀(d':Nat),1≤d'→d'≤32→F105_l0 C107 C132 ((f:Int),(deep:Int),4,(q:Int),pre++c::r,a,bad,err,())=some (.inl ((f:Int),(d':Int),4,((q+1:Nat):Int),pre++c::r,a,bad,err,())) →
   loopN (F105_l0 C107 C132) (n+1) ((f:Int),(deep:Int),4,(q:Int),pre++c::r,a,bad,err,())=some (resn (pre++c::r) f a bad err q ((nt d' r).push [c] 1)):=by
   intro d' h1 h2 h3;rw [loopN_inl h3,resn_push (l:=[c]) (n:=1) _ _ _ _ _ _ rfl];have:=l25 f a bad err m r (pre++[c]) d' (q+1) n (by omega) h1 h2 (by simp [hq]) (by omega) (by omega) (by omega);rw [shift,this]
  by_cases e1:c.toNat=40
  · rw [nt_o e1]
    by_cases hdd:deep+1>32
    · rw [if_pos hdd]
      refine loopN_inr ?_;simp (disch:=(first|omega|(simp only [vl];omega))) only [F105_l0,Sk,resn,Nat.add_zero]
    · rw [if_neg hdd]
      refine next (deep+1) (by omega) (by omega) ?_;simp (disch:=(first|omega|(simp only [vl];omega))) only [F105_l0,Sk]
  · by_cases e2:c.toNat=41
    · rw [nt_c e2]
      by_cases hd1:deep=1
      · rw [if_pos hd1]
        refine loopN_inr ?_;subst hd1;simp (disch:=(first|omega|(simp only [vl];omega))) only [F105_l0,Sk,resn,Nat.add_zero,wrM]
      · rw [if_neg hd1]
        refine next (deep-1) (by omega) (by omega) ?_;simp (disch:=(first|omega|(simp only [vl];omega))) only [F105_l0,Sk,wrM]
    · by_cases e3:c.toNat=92
      · match r,hm,hn,hb with
        | [],hm,hn,hb =>
         rw [nt_b0 e3];simp only [List.length_nil] at hn hb hm;rw [loopN_inl (v':=((f:Int),(deep:Int),4,((q+2:Nat):Int),pre++[c],a,bad,err,())) (by
          simp (disch:=(first|omega|(simp only [vl];omega))) only [F105_l0,Sk])]
         obtain ⟨n',rfl⟩:∃n',n=n'+1:=⟨n-1,by omega⟩
         refine loopN_inr ?_;simp (disch:=(first|omega|(simp only [vl];omega))) only [F105_l0,Sk,resn]
        | d::r',hm,hn,hb =>
         simp only [List.length_cons] at hn hb hm;rw [nt_b1 e3];have hg:(pre++c::d::r').getD (q+1) 0=d:=by rw [shift];exact gd (by simp [hq])
         cases h:mayB d with
         | true =>
          rw [loopN_inl (v':=((f:Int),(deep:Int),4,((q+2:Nat):Int),pre++c::d::r',a,bad,err,())) (by
           simp (disch:=(first|omega|(simp only [vl];omega))) only [F105_l0,Sk,hg,c31,h])]
          have:=l25 f a bad err m r' (pre++[c,d]) deep (q+2) n (by omega) hd hd2 (by simp [hq]) (by omega) (by omega) (by omega);rw [show pre++c::d::r'=(pre++[c,d])++r' by simp,this,cond_true,resn_push (l:=[c,d]) (n:=2) _ _ _ _ _ _ rfl]
         | false =>
          refine loopN_inr ?_;simp (disch:=(first|omega|(simp only [vl];omega))) only [F105_l0,Sk,hg,c31,h,resn]
      · rw [nt_m e1 e2 e3]
        cases h:mayB c with
        | true =>
         refine next deep hd hd2 ?_;simp (disch:=(first|omega|(simp only [vl];omega))) only [F105_l0,Sk,c31,h]
        | false =>
         refine loopN_inr ?_;simp (disch:=(first|omega|(simp only [vl];omega))) only [F105_l0,Sk,c31,h,resn,Nat.add_zero]
theorem push_ok {k:Tk} {l t:List UInt8} {n u:Nat} (h:k.push l n = .ok t u):∃t' u',k = .ok t' u'∧t=l++t'∧u=n+u':=by
 cases k<;>simp [Tk.push] at h
 exact ⟨_,_,rfl,h.1.symm,h.2.symm⟩
theorem nt_ok:∀(m:Nat) {r t:List UInt8} {u deep:Nat},r.length≤m→nt deep r = .ok t u→u=t.length+1∧t.length<r.length∧r.take t.length=t
 | _,[],t,u,deep,_,h=>by simp [nt] at h
 | 0,c::r,t,u,deep,hm,h=>by simp at hm
 | m+1,c::r,t,u,deep,hm,h=>by
  simp only [List.length_cons] at hm;have one:∀(d':Nat),(nt d' r).push [c] 1 = .ok t u→u=t.length+1∧t.length<(c::r).length∧(c::r).take t.length=t:=by
   intro d' h;obtain ⟨t',u',h1,rfl,rfl⟩:=push_ok h;obtain ⟨i1,i2,i3⟩:=nt_ok m (by omega) h1;exact ⟨by simp;omega,by simpa using i2,by simpa using i3⟩
  by_cases e1:c.toNat=40
  · rw [nt_o e1] at h
    split at h
    · cases h
    · exact one _ h
  · by_cases e2:c.toNat=41
    · rw [nt_c e2] at h
      split at h
      · cases h;simp
      · exact one _ h
    · by_cases e3:c.toNat=92
      · match r,hm,h with
        | [],hm,h=>rw [nt_b0 e3] at h;cases h
        | d::r',hm,h =>
         simp only [List.length_cons] at hm;rw [nt_b1 e3] at h;cases hd:mayB d<;>rw [hd] at h
         · cases h
         · obtain ⟨t',u',h1,rfl,rfl⟩:=push_ok h
           obtain ⟨i1,i2,i3⟩:=nt_ok m (by omega) h1;exact ⟨by simp;omega,by simpa using i2,by simpa using i3⟩
      · rw [nt_m e1 e2 e3] at h
        cases hd:mayB c<;>rw [hd] at h
        · cases h
        · exact one _ h
theorem c25g (k e:Int) (s:List UInt8) (a bad err:Int):C105_g0 (e,k,s,a,bad,err,())=some ([],s,a,k,e,()):=by
 show loopN _ big _=_;rw [show big=999999999999999999999+1 from rfl];exact loopN_inr rfl
theorem c25 (pre r:List UInt8) (c:UInt8) (p:Nat) (bad err:Int) (hc:c.toNat=40) (hp:pre.length=p) (hb:p+r.length≤140737488355000) :
 C105 (pre++c::r,(p:Int),bad,err,())=some (fin (pre++c::r) p bad err (p+1) (nt 1 r)):=by
 show F105 C107 C132 C105_g0 C105_l0 (pre++c::r,(p:Int),bad,err,())=_;have hl:=l25 p p bad err r.length r (pre++[c]) 1 (p+1) 999999999999999999999 (Nat.le_refl _) (by omega) (by omega) (by simp [hp]) (by omega) (by omega) (by omega);rw [←shift] at hl;have h0:C105_l0 ((p:Int),0,4,(p:Int),pre++c::r,(p:Int),bad,err,())=some (resn (pre++c::r) p p bad err (p+1) (nt 1 r)):=by
  rw [←hl];show loopN _ (999999999999999999999+1) _=_;refine loopN_inl ?_;simp (disch:=(first|omega|(simp only [vl];omega))) only [F105_l0,Sk];rfl
 cases hq:nt 1 r with
 | ok t u =>
  rw [hq] at h0;obtain ⟨i1,i2,i3⟩:=nt_ok _ (Nat.le_refl _) hq;simp (disch:=(first|omega|(simp only [vl];omega))) only [F105,Sk,h0,resn,fin];rw [shift,text_eq (by simp [hp]),i3]
 | bad o e=>rw [hq] at h0;simp (disch:=(first|omega|(simp only [vl];omega))) only [F105,Sk,h0,resn,fin,c25g]
 | start=>rw [hq] at h0;simp (disch:=(first|omega|(simp only [vl];omega))) only [F105,Sk,h0,resn,fin,c27]
def g1 (o:Option (Int×Int×Unit)):Int:=match o with|some (n,_,_)=>n|none=>0
def g2 (o:Option (Int×Int×Unit)):Int:=match o with|some (_,v,_)=>v|none=>0
def ok2 (o:Option (Int×Int×Unit)):Bool:=match o with|some _=>true|none=>false
theorem ok2_some {o:Option (Int×Int×Unit)} (h:ok2 o=true):o=some (g1 o,g2 o,()):=by
 cases o with
 | none=>cases h
 | some x=>rfl
def leadN (c:UInt8):Int:=g1 (C63 ((c.toNat:Int),()))
def leadV (c:UInt8):Int:=g2 (C63 ((c.toNat:Int),()))
theorem c19k:((List.range 256).all fun n=>(fun c:UInt8=>ok2 (C63 ((c.toNat:Int),()))) (UInt8.ofNat n))=true:=by kernel_rfl
theorem c19 (c:UInt8):C63 ((c.toNat:Int),())=some (leadN c,leadV c,()):=ok2_some (all256 (fun c=>ok2 (C63 ((c.toNat:Int),()))) c19k c)
def rngB:Int→Bool
 | .ofNat n=>Nat.ble n 3
 | .negSucc n=>Nat.beq n 0
theorem lead_k:((List.range 256).all fun n=>(fun c:UInt8=>rngB (leadN c)) (UInt8.ofNat n))=true:=by kernel_rfl
theorem lead_rng (c:UInt8):leadN c = -1∨0≤leadN c∧leadN c≤3:=by
 have h:rngB (leadN c)=true:=all256 (fun c=>rngB (leadN c)) lead_k c;generalize leadN c=x at h;cases x with
 | ofNat n=>have:=Nat.le_of_ble_eq_true h;right;simp;omega
 | negSucc n=>have:=Nat.eq_of_beq_eq_true h;subst this;left;rfl
def lenR (v:Int):Int:=match C64 (v,()) with|some (n,_)=>n|none=>0
theorem c20 (v:Int):C64 (v,())=some (lenR v,()):=by
 have h:∃n,C64 (v,())=some (n,()):=by
  show ∃n,F64 C98 (v,())=some (n,());have h29:∃b,C98 (v,())=some (b,()):=by
   simp only [C98,F98];cases decide (v≥0)<;>cases decide (v≤1114111)<;>cases decide (v≥55296)<;>exact ⟨_,rfl⟩
  obtain ⟨b,hb⟩:=h29;simp only [F64,hb,Option.bind_some];cases b<;>cases decide (v≤127)<;>cases decide (v≤2047)<;>cases decide (v≤65535)<;>exact ⟨_,rfl⟩
 obtain ⟨n,hn⟩:=h;rw [lenR,hn]
def contB (c:UInt8):Bool := !(intBits BinOp.andNot IntKind.u8 (c.toNat:Int) 63 != 128)
def stepV (v:Int) (c:UInt8):Int:=intBits BinOp.or IntKind.i32 (IntKind.i32.wrap (v*2^min 6 IntKind.i32.bits)) (IntKind.i32.wrap (intBits BinOp.and IntKind.u8 (c.toNat:Int) 63))
def conts:Nat→List UInt8→Int→Option Int
 | 0,_,v=>some v
 | _+1,[],_=>none
 | n+1,c::r,v=>bif contB c then conts n r (stepV v c) else none
def ch:List UInt8→Nat
 | []=>0
 | c::r=>if leadN c<0 then 0 else if r.length<(leadN c).toNat then 0 else
  match conts (leadN c).toNat r (leadV c) with
  | none=>0
  | some v=>if lenR v=leadN c+1 then (leadN c).toNat+1 else 0
theorem ch_le:∀s,ch s≤s.length
 | []=>Nat.le_refl _
 | c::r=>by
  simp only [ch,List.length_cons];split
  · omega
  · split
    · omega
    · split
      · omega
      · split<;>omega
def res0 (s:List UInt8) (n a:Int) (out:List Int):Option Int→(List UInt8×Int×Int×Int×List Int×Unit)⊕(Int×List Int×Unit)
 | some v => .inl (s,n,v,a,out,())
 | none => .inr (a,out,())
theorem l150 (a:Nat) (m:Nat) (out:List Int):∀(j:Nat) (r pre:List UInt8) (v:Int) (k n:Nat),pre.length=k→k+j=a+m+1→j≤r.length→j<n→k+r.length≤140737488355320→m≤3 →
 loopN (F34_l0 C63 C64) n (pre++r,(m:Int),v,(a:Int),(k:Int),out,())=some (res0 (pre++r) m a out (conts j r v))
 | _,_,_,_,_,0,_,_,_,hn,_,_=>by omega
 | 0,r,pre,v,k,n+1,hk,hj,hr,hn,hb,hm=>by
  refine loopN_inr ?_;have h:IntKind.i64.wrap ((a:Int)+(m:Int))=(a:Int)+m:=wr (by omega) (by omega);simp (disch:=(first|omega|(simp only [vl];omega))) only [F34_l0,h,Sk,conts,res0]
 | j+1,[],pre,v,k,n+1,hk,hj,hr,hn,hb,hm=>by simp at hr
 | j+1,c::r,pre,v,k,n+1,hk,hj,hr,hn,hb,hm=>by
  simp only [List.length_cons] at hr hb;have h:IntKind.i64.wrap ((a:Int)+(m:Int))=(a:Int)+m:=wr (by omega) (by omega);cases hc:contB c with
  | true =>
   have hc':(intBits BinOp.andNot IntKind.u8 (c.toNat:Int) 63 != 128)=false:=by simpa [contB] using hc
   rw [loopN_inl (v':=(pre++c::r,(m:Int),stepV v c,(a:Int),((k+1:Nat):Int),out,())) (by
    simp (disch:=(first|omega|(simp only [vl];omega))) only [F34_l0,h,Sk,hc'];rfl)]
   rw [shift,l150 a m out j r (pre++[c]) (stepV v c) (k+1) n (by simp [hk]) (by omega) (by omega) (by omega) (by omega) hm];simp only [conts,hc,cond_true]
  | false =>
   have hc':(intBits BinOp.andNot IntKind.u8 (c.toNat:Int) 63 != 128)=true:=by simpa [contB] using hc
   refine loopN_inr ?_;simp (disch:=(first|omega|(simp only [vl];omega))) only [F34_l0,h,Sk,hc',conts,hc,res0]
def ut:Nat→List UInt8→Nat→Option Nat
 | 0,_,_=>none
 | n+1,s,p=>if s=[] then none else if ch s=0 then some p else ut n (s.drop (ch s)) (p+ch s)
def r15 (out:List Int):Option Nat→(List Int×Unit)⊕(Int×List Int×Unit)
 | none => .inl (out,())
 | some b => .inr ((b:Int),out,())
theorem r151 (c:UInt8) (r pre:List UInt8) (out:List Int) (p:Nat) (hp:pre.length=p) (hb:p+r.length≤140737488355000) (ho:out.length≤1000000000) :
 F34_l1 C63 C64 C34_l0 (pre++c::r,(p:Int),out,())=some (if ch (c::r)=0 then .inr (.inr ((p:Int),out,())) else
  .inl (pre++c::r,((p+ch (c::r):Nat):Int),out++[((conts (leadN c).toNat r (leadV c)).getD 0)],())):=by
 have hrng:=lead_rng c;by_cases h1:leadN c<0
 · have:ch (c::r)=0:=by simp [ch,h1]
   rw [if_pos this];simp (disch:=(first|omega|(simp only [vl];omega))) only [F34_l1,Sk,c19]
 · have hw:IntKind.i64.wrap (((pre.length+(r.length+1):Nat):Int)-(p:Int))=(r.length:Int)+1:=by rw [wr]<;>omega
   obtain ⟨m,hm⟩:∃m:Nat,leadN c=m:=⟨(leadN c).toNat,by omega⟩
   by_cases h2:r.length<m
   · have:ch (c::r)=0:=by simp [ch,hm,h2]
     rw [if_pos this];simp (disch:=(first|omega|(simp only [vl];omega))) only [F34_l1,Sk,c19,hw,hm]
   · have hl:=l150 p m out m r (pre++[c]) (leadV c) (p+1) big (by simp [hp]) (by omega) (by omega) (by unfold big;omega) (by omega) (by omega)
     rw [←shift] at hl;have hl':C34_l0 (pre++c::r,(m:Int),leadV c,(p:Int),((p+1:Nat):Int),out,())=_:=hl;cases hc:conts m r (leadV c) with
     | none =>
      have:ch (c::r)=0:=by simp [ch,hm,h2,hc]
      rw [if_pos this];simp (disch:=(first|omega|(simp only [vl];omega))) only [F34_l1,Sk,c19,hw,hm,hl',hc,res0]
     | some v =>
      have hw2:IntKind.i64.wrap ((m:Int)+1)=(m:Int)+1:=wr (by omega) (by omega);by_cases h3:lenR v=m+1
      · have hch:ch (c::r)=m+1:=by simp [ch,hm,h2,hc,h3]
        have hw3:IntKind.i64.wrap ((p:Int)+((m:Int)+1))=((p+(m+1):Nat):Int):=by rw [wr]<;>omega
        rw [if_neg (by omega),hch];simp (disch:=(first|omega|(simp only [vl];omega))) only [F34_l1,hw2,hw3,decide_eq_true,decide_eq_false,cond_true,cond_false,Bool.and_self,vl,Int.toNat_natCast,inF,gd,Option.bind_some,Sum.elim_inl,wrN,c19,hw,hm,hl',hc,res0,c20,Option.getD_some]
      · have:ch (c::r)=0:=by simp [ch,hm,h2,hc,h3]
        rw [if_pos this];simp (disch:=(first|omega|(simp only [vl];omega))) only [F34_l1,hw2,Sk,c19,hw,hm,hl',hc,res0,c20]
theorem l151:∀(m:Nat) (r pre:List UInt8) (out:List Int) (p n:Nat),r.length≤m→pre.length=p→r.length<n→p+r.length≤140737488355000→out.length+r.length≤1000000000 →
 ∃o,loopN (F34_l1 C63 C64 C34_l0) n (pre++r,(p:Int),out,())=some (r15 o (ut n r p))
 | _,_,_,_,_,0,_,_,hn,_,_=>by omega
 | m,[],pre,out,p,n+1,hm,hp,hn,hb,ho=>by
  refine ⟨out,loopN_inr ?_⟩;simp (disch:=(first|omega|(simp only [vl];omega))) only [F34_l1,Sk,List.append_nil,ut,if_true,r15]
 | 0,c::r,pre,out,p,n+1,hm,hp,hn,hb,ho=>by simp at hm
 | m+1,c::r,pre,out,p,n+1,hm,hp,hn,hb,ho=>by
  simp only [List.length_cons] at hm hn hb ho;have hr:=r151 c r pre out p hp (by omega) (by omega);by_cases h:ch (c::r)=0
  · rw [if_pos h] at hr
    refine ⟨out,?_⟩;rw [loopN_inr hr];simp [ut,h,r15]
  · rw [if_neg h] at hr
    have hle:=ch_le (c::r);simp only [List.length_cons] at hle;have hsplit:pre++c::r=(pre++(c::r).take (ch (c::r)))++(c::r).drop (ch (c::r)):=by rw [List.append_assoc,List.take_append_drop]
    obtain ⟨o,ho'⟩:=l151 m ((c::r).drop (ch (c::r))) (pre++(c::r).take (ch (c::r))) (out++[((conts (leadN c).toNat r (leadV c)).getD 0)]) (p+ch (c::r)) n (by simp;omega) (by simp [hp];omega) (by simp;omega) (by simp;omega) (by simp;omega);refine ⟨o,?_⟩;rw [loopN_inl hr];rw [←hsplit] at ho';rw [ho'];simp [ut,h]
def utf (s:List UInt8):Option Nat:=ut big s 0
theorem c15 (s:List UInt8) (hb:s.length≤1000000):∃o,C34 (s,())=some (o,(match utf s with|none => -1|some b=>(b:Int)),()):=by
 obtain ⟨o,h⟩:=l151 s.length s [] [] 0 big (Nat.le_refl _) rfl (by unfold big;omega) (by omega) (by simp;omega);have h':C34_l1 (s,0,[],())=some (r15 o (utf s)):=h;refine ⟨o,?_⟩;show F34 C63 C64 C34_g0 C34_l1 (s,())=_;have hg:∀(b:Int) (o:List Int),C34_g0 (b,o,())=some (b,o,()):=by
  intro b o;show loopN _ big _=_;rw [show big=999999999999999999999+1 from rfl];exact loopN_inr rfl
 simp only [F34,h',Option.bind_some];cases utf s<;>simp [r15,hg]
end Go.Proofs.YtbifjondkjgkmaaGreatDoorA.W
namespace Go.Proofs.YtbifjondkjgkmaaGreatDoorA.W
open Go Go.Ae Go.Pl
theorem c155 (v:Int):C98 (v,())=some (rightB v,()):=by
 simp only [C98,F98,rightB];by_cases h1:v≥0<;>by_cases h2:v≤1114111<;>by_cases h3:v≥55296<;>by_cases h4:v≤57343<;>simp [h1,h2,h3,h4]<;>omega
theorem lenR_eq (v:Int):lenR v=(lenE v:Int):=by
 have h:=c20 v;simp only [C64,F64,c155,Option.bind_some] at h;have h':(some (((lenE v:Nat):Int),()):Option (Int×Unit))=some (lenR v,()):=by
  rw [←h];unfold lenE;cases rightB v with
  | false=>rfl
  | true=>cases decide (v≤127)<;>cases decide (v≤2047)<;>cases decide (v≤65535)<;>rfl
 simp only [Option.some.injEq,Prod.mk.injEq,and_true] at h';exact h'.symm
def ldB (c:UInt8):Bool :=
 bif Nat.blt c.toNat 128 then decide (leadN c=0)&&decide (leadV c=(c.toNat:Int))
 else bif Nat.blt c.toNat 194 then decide (leadN c = -1)
 else bif Nat.blt c.toNat 224 then decide (leadN c=1)&&decide (leadV c=((c.toNat-192:Nat):Int))
 else bif Nat.blt c.toNat 240 then decide (leadN c=2)&&decide (leadV c=((c.toNat-224:Nat):Int))
 else bif Nat.blt c.toNat 245 then decide (leadN c=3)&&decide (leadV c=((c.toNat-240:Nat):Int))
 else decide (leadN c = -1)
theorem ldB_k:((List.range 256).all fun n=>ldB (UInt8.ofNat n))=true:=by kernel_rfl
theorem ld1 {c:UInt8} (h:cv c<128):leadN c=0∧leadV c=cv c:=by
 have k:=all256 ldB ldB_k c;unfold cv at *
 have h1:Nat.blt c.toNat 128=true:=by rw [Nat.blt_eq];omega
 simpa [ldB,h1] using k
theorem ld0 {c:UInt8} (h:128≤cv c) (h2:cv c<194∨245≤cv c):leadN c = -1:=by
 have k:=all256 ldB ldB_k c;unfold cv at *
 have h1:Nat.blt c.toNat 128=false:=by rw [←Bool.not_eq_true,Nat.blt_eq];omega
 rcases h2 with h2|h2
 · have h3:Nat.blt c.toNat 194=true:=by rw [Nat.blt_eq];omega
   simpa [ldB,h1,h3] using k
 · have h3:Nat.blt c.toNat 194=false:=by rw [←Bool.not_eq_true,Nat.blt_eq];omega
   have h4:Nat.blt c.toNat 224=false:=by rw [←Bool.not_eq_true,Nat.blt_eq];omega
   have h5:Nat.blt c.toNat 240=false:=by rw [←Bool.not_eq_true,Nat.blt_eq];omega
   have h6:Nat.blt c.toNat 245=false:=by rw [←Bool.not_eq_true,Nat.blt_eq];omega
   simpa [ldB,h1,h3,h4,h5,h6] using k
theorem ld2 {c:UInt8} (h:194≤cv c) (h2:cv c<224):leadN c=1∧leadV c=cv c-192:=by
 have k:=all256 ldB ldB_k c;unfold cv at *
 have h1:Nat.blt c.toNat 128=false:=by rw [←Bool.not_eq_true,Nat.blt_eq];omega
 have h3:Nat.blt c.toNat 194=false:=by rw [←Bool.not_eq_true,Nat.blt_eq];omega
 have h4:Nat.blt c.toNat 224=true:=by rw [Nat.blt_eq];omega
 simp [ldB,h1,h3,h4] at k;exact ⟨k.1,by rw [k.2];omega⟩
theorem ld3 {c:UInt8} (h:224≤cv c) (h2:cv c<240):leadN c=2∧leadV c=cv c-224:=by
 have k:=all256 ldB ldB_k c;unfold cv at *
 have h1:Nat.blt c.toNat 128=false:=by rw [←Bool.not_eq_true,Nat.blt_eq];omega
 have h3:Nat.blt c.toNat 194=false:=by rw [←Bool.not_eq_true,Nat.blt_eq];omega
 have h4:Nat.blt c.toNat 224=false:=by rw [←Bool.not_eq_true,Nat.blt_eq];omega
 have h5:Nat.blt c.toNat 240=true:=by rw [Nat.blt_eq];omega
 simp [ldB,h1,h3,h4,h5] at k;exact ⟨k.1,by rw [k.2];omega⟩
theorem ld4 {c:UInt8} (h:240≤cv c) (h2:cv c<245):leadN c=3∧leadV c=cv c-240:=by
 have k:=all256 ldB ldB_k c;unfold cv at *
 have h1:Nat.blt c.toNat 128=false:=by rw [←Bool.not_eq_true,Nat.blt_eq];omega
 have h3:Nat.blt c.toNat 194=false:=by rw [←Bool.not_eq_true,Nat.blt_eq];omega
 have h4:Nat.blt c.toNat 224=false:=by rw [←Bool.not_eq_true,Nat.blt_eq];omega
 have h5:Nat.blt c.toNat 240=false:=by rw [←Bool.not_eq_true,Nat.blt_eq];omega
 have h6:Nat.blt c.toNat 245=true:=by rw [Nat.blt_eq];omega
 simp [ldB,h1,h3,h4,h5,h6] at k;exact ⟨k.1,by rw [k.2];omega⟩
def ctB (c:UInt8):Bool:=bif contB c then (Nat.ble 128 c.toNat&&Nat.blt c.toNat 192) else !(Nat.ble 128 c.toNat&&Nat.blt c.toNat 192)
def ctV (c:UInt8):Bool := !(Nat.ble 128 c.toNat&&Nat.blt c.toNat 192)||decide (IntKind.i32.wrap (intBits BinOp.and IntKind.u8 (c.toNat:Int) 63)=((c.toNat-128:Nat):Int))
theorem ctB_k:((List.range 256).all fun n=>ctB (UInt8.ofNat n))=true:=by kernel_rfl
theorem ctV_k:((List.range 256).all fun n=>ctV (UInt8.ofNat n))=true:=by kernel_rfl
theorem contB_eq (c:UInt8):contB c=contC c:=by
 have k:=all256 ctB ctB_k c;have k2:contB c=(Nat.ble 128 c.toNat&&Nat.blt c.toNat 192):=by
  unfold ctB at k;revert k;cases contB c<;>cases (Nat.ble 128 c.toNat&&Nat.blt c.toNat 192)<;>simp
 rw [k2];unfold contC cv;by_cases h1:128≤c.toNat<;>by_cases h2:c.toNat<192
 · have e1:Nat.ble 128 c.toNat=true:=Nat.ble_eq_true_of_le h1
   have e2:Nat.blt c.toNat 192=true:=by rw [Nat.blt_eq];exact h2
   rw [e1,e2];simp;omega
 · have e2:Nat.blt c.toNat 192=false:=by rw [←Bool.not_eq_true,Nat.blt_eq];exact h2
   rw [e2];simp;omega
 · have e1:Nat.ble 128 c.toNat=false:=by rw [←Bool.not_eq_true,Nat.ble_eq];exact h1
   rw [e1];simp;omega
 · have e1:Nat.ble 128 c.toNat=false:=by rw [←Bool.not_eq_true,Nat.ble_eq];exact h1
   rw [e1];simp;omega
theorem stepV_eq {c:UInt8} (hc:contC c=true) {v:Int} (h0:0≤v) (h1:v<33554432):stepV v c=v*64+(cv c-128):=by
 have h:=contC_iff.1 hc;have k:=all256 ctV ctV_k c;unfold cv at *
 have e1:Nat.ble 128 c.toNat=true:=Nat.ble_eq_true_of_le (by omega);have e2:Nat.blt c.toNat 192=true:=by rw [Nat.blt_eq];omega
 have e3:IntKind.i32.wrap (intBits BinOp.and IntKind.u8 (c.toNat:Int) 63)=((c.toNat-128:Nat):Int):=by simpa [ctV,e1,e2] using k
 unfold stepV;rw [e3];have e4:IntKind.i32.wrap (v*2^min 6 IntKind.i32.bits)=v*64:=by
  have:(2:Int)^min 6 IntKind.i32.bits=64:=by decide
  rw [this];simp only [IntKind.wrap,IntKind.signed,IntKind.bits];simp;omega
 rw [e4,or_shift h0 h1 (by omega) (by omega)];omega
theorem ch_dec (c:UInt8) (r:List UInt8):match dec (c::r) with
 | some v=>ch (c::r)=lenE v∧conts (leadN c).toNat r (leadV c)=some v
 | none=>ch (c::r)=0:=by
 have hr:=cv_rng c;rw [dec_cons,decC];by_cases h1:cv c<128
 · obtain ⟨e1,e2⟩:=ld1 h1
   have hl:=lenE1 hr.1 (by omega:cv c≤127);simp only [h1,decide_true,cond_true];simp [ch,e1,e2,conts,lenR_eq,hl]
 · by_cases h2:cv c<194
   · have e1:=ld0 (by omega) (.inl h2)
     simp [h1,h2,ch,e1]
   · by_cases h3:cv c<224
     · obtain ⟨e1,e2⟩:=ld2 (by omega) h3
       simp only [h1,h2,h3,decide_true,decide_false,cond_true,cond_false];cases r with
       | nil=>simp [dec2,ch,e1]
       | cons b t =>
        rw [dec2_cons];cases hb:contC b with
        | false=>simp [ch,e1,e2,conts,contB_eq,hb]
        | true =>
         have hb':=contC_iff.1 hb;have es:=stepV_eq hb (v:=cv c-192) (by omega) (by omega);simp only [cond_true,ifLen];cases hl:Nat.beq (lenE ((cv c-192)*64+(cv b-128))) 2 with
         | true =>
          have hl':=Nat.eq_of_beq_eq_true hl;simp [ch,e1,e2,conts,contB_eq,hb,es,lenR_eq,hl']
         | false =>
          have hl':=Nat.ne_of_beq_eq_false hl;simp [ch,e1,e2,conts,contB_eq,hb,es,lenR_eq];omega
     · by_cases h4:cv c<240
       · obtain ⟨e1,e2⟩:=ld3 (by omega) h4
         simp only [h1,h2,h3,h4,decide_true,decide_false,cond_true,cond_false];rcases r with _|⟨b,_|⟨d,t⟩⟩
         · simp [dec3,ch,e1]
         · simp [dec3,ch,e1]
         · rw [dec3_cons]
           cases hb:contC b with
           | false=>simp [ch,e1,e2,conts,contB_eq,hb]
           | true =>
            have hb':=contC_iff.1 hb;have es:=stepV_eq hb (v:=cv c-224) (by omega) (by omega);cases hd:contC d with
            | false=>simp [ch,e1,e2,conts,contB_eq,hb,hd]
            | true =>
             have hd':=contC_iff.1 hd;have es2:=stepV_eq hd (v:=(cv c-224)*64+(cv b-128)) (by omega) (by omega);have ev:((cv c-224)*64+(cv b-128))*64+(cv d-128)=(cv c-224)*4096+(cv b-128)*64+(cv d-128):=by omega
             simp only [Bool.and_self,cond_true,ifLen];cases hl:Nat.beq (lenE ((cv c-224)*4096+(cv b-128)*64+(cv d-128))) 3 with
             | true =>
              have hl':=Nat.eq_of_beq_eq_true hl;simp [ch,e1,e2,conts,contB_eq,hb,hd,es,es2,ev,lenR_eq,hl']
             | false =>
              have hl':=Nat.ne_of_beq_eq_false hl;simp [ch,e1,e2,conts,contB_eq,hb,hd,es,es2,ev,lenR_eq];omega
       · by_cases h5:cv c<245
         · obtain ⟨e1,e2⟩:=ld4 (by omega) h5
           simp only [h1,h2,h3,h4,h5,decide_true,decide_false,cond_true,cond_false];rcases r with _|⟨b,_|⟨d,_|⟨e,t⟩⟩⟩
           · simp [dec4,ch,e1]
           · simp [dec4,ch,e1]
           · simp [dec4,ch,e1]
           · rw [dec4_cons]
             cases hb:contC b with
             | false=>simp [ch,e1,e2,conts,contB_eq,hb]
             | true =>
              have hb':=contC_iff.1 hb;have es:=stepV_eq hb (v:=cv c-240) (by omega) (by omega);cases hd:contC d with
              | false=>simp [ch,e1,e2,conts,contB_eq,hb,hd]
              | true =>
               have hd':=contC_iff.1 hd;have es2:=stepV_eq hd (v:=(cv c-240)*64+(cv b-128)) (by omega) (by omega);cases he:contC e with
               | false=>simp [ch,e1,e2,conts,contB_eq,hb,hd,he]
               | true =>
                have he':=contC_iff.1 he;have es3:=stepV_eq he (v:=((cv c-240)*64+(cv b-128))*64+(cv d-128)) (by omega) (by omega);have ev:(((cv c-240)*64+(cv b-128))*64+(cv d-128))*64+(cv e-128)=(cv c-240)*262144+(cv b-128)*4096+(cv d-128)*64+(cv e-128):=by omega
                simp only [Bool.and_self,cond_true,ifLen];cases hl:Nat.beq (lenE ((cv c-240)*262144+(cv b-128)*4096+(cv d-128)*64+(cv e-128))) 4 with
                | true =>
                 have hl':=Nat.eq_of_beq_eq_true hl;simp [ch,e1,e2,conts,contB_eq,hb,hd,he,es,es2,es3,ev,lenR_eq,hl']
                | false =>
                 have hl':=Nat.ne_of_beq_eq_false hl;simp [ch,e1,e2,conts,contB_eq,hb,hd,he,es,es2,es3,ev,lenR_eq];omega
         · have e1:=ld0 (c:=c) (by omega) (.inr (by omega))
           simp [h1,h2,h3,h4,h5,ch,e1]
theorem prun:∀(m:Nat) (r pre:List UInt8) (out:List Int) (p n:Nat),r.length≤m→pre.length=p→r.length<n→p+r.length≤140737488355000→out.length+r.length≤1000000000 →
 loopN (F34_l1 C63 C64 C34_l0) n (pre++r,(p:Int),out,())=some (if rr r=[] then .inl (out++rl r,()) else .inr (((p+(r.length-(rr r).length):Nat):Int),out++rl r,()))
 | _,_,_,_,_,0,_,_,hn,_,_=>by omega
 | m,[],pre,out,p,n+1,hm,hp,hn,hb,ho=>by
  have h:=runes_none (s:=[]) rfl;rw [h.1,h.2,if_pos rfl];refine loopN_inr ?_;simp (disch:=(first|omega|(simp only [vl];omega))) only [F34_l1,decide_eq_true,decide_eq_false,cond_true,cond_false,Bool.and_self,Bool.true_and,Bool.and_true,Bool.false_and,Bool.and_false,Bool.not_true,Bool.not_false,vl,Int.toNat_natCast,ibT,ibF,inT,inF,wrN,gd,dr,Option.bind_some,Sum.elim_inl,Sum.elim_inr,byte_back,of_to,List.append_nil]
 | 0,c::r,pre,out,p,n+1,hm,hp,hn,hb,ho=>by simp at hm
 | m+1,c::r,pre,out,p,n+1,hm,hp,hn,hb,ho=>by
  simp only [List.length_cons] at hm hn hb ho;have hr:=r151 c r pre out p hp (by omega) (by omega);have hd:=ch_dec c r;cases he:dec (c::r) with
  | none =>
   rw [he] at hd;have h:=runes_none he;rw [if_pos hd] at hr;rw [h.1,h.2,if_neg (by simp),loopN_inr hr];simp
  | some v =>
   rw [he] at hd;obtain ⟨h1,h2⟩:=hd;have h:=runes_some he;have hl:=dec_len he;rw [if_neg (by omega),h1,h2] at hr;simp only [List.length_cons] at hl;have hsplit:pre++c::r=(pre++(c::r).take (lenE v))++(c::r).drop (lenE v):=by rw [List.append_assoc,List.take_append_drop]
   have ih:=prun m ((c::r).drop (lenE v)) (pre++(c::r).take (lenE v)) (out++[v]) (p+lenE v) n (by simp;omega) (by simp [hp];omega) (by simp;omega) (by simp;omega) (by simp;omega);rw [loopN_inl hr];rw [←hsplit] at ih;rw [Option.getD_some,ih,h.1,h.2];have hle:=rr_le ((c::r).drop (lenE v));simp only [List.length_drop,List.length_cons] at hle ⊢;split
   · simp
   · rw [List.append_assoc]
     have:p+lenE v+(r.length+1-lenE v-(rr ((c::r).drop (lenE v))).length)=p+(r.length+1-(rr ((c::r).drop (lenE v))).length):=by omega
     rw [this];rfl
theorem x83 (s:List UInt8) (hb:s.length≤1000000000):C34 (s,())=some (rl s,badAt s,()):=by
 have h:=prun s.length s [] [] 0 big (Nat.le_refl _) rfl (by unfold big;omega) (by omega) (by simp;omega);have h':C34_l1 (s,0,[],())=_:=h;have hg:∀(b:Int) (o:List Int),C34_g0 (b,o,())=some (b,o,()):=by
  intro b o;show loopN _ big _=_;rw [show big=999999999999999999999+1 from rfl];exact loopN_inr rfl
 simp only [C34,F34,h',Option.bind_some];by_cases hr:rr s=[]
 · rw [if_pos hr,badAt_nil hr];simp
 · rw [if_neg hr,badAt_some hr];simp [hg]
theorem wu8 {n:Int} (h0:0≤n) (h1:n≤255):IntKind.u8.wrap n=n:=by
 simp only [IntKind.wrap,IntKind.signed,IntKind.bits];simp;omega
def or8B (c:UInt8):Bool :=
 ((!Nat.blt c.toNat 32||decide (intBits BinOp.or IntKind.u8 192 (c.toNat:Int)=((192+c.toNat:Nat):Int)))&&(!Nat.blt c.toNat 16||decide (intBits BinOp.or IntKind.u8 224 (c.toNat:Int)=((224+c.toNat:Nat):Int)))) &&
 ((!Nat.blt c.toNat 8||decide (intBits BinOp.or IntKind.u8 240 (c.toNat:Int)=((240+c.toNat:Nat):Int)))&&(!Nat.blt c.toNat 64||decide (intBits BinOp.or IntKind.u8 128 (c.toNat:Int)=((128+c.toNat:Nat):Int))))
theorem or8_k:((List.range 256).all fun n=>or8B (UInt8.ofNat n))=true:=by kernel_rfl
theorem or8 (x:Int) (h0:0≤x):(x<32→intBits BinOp.or IntKind.u8 192 x=192+x)∧(x<16→intBits BinOp.or IntKind.u8 224 x=224+x)∧(x<8→intBits BinOp.or IntKind.u8 240 x=240+x)∧(x<64→intBits BinOp.or IntKind.u8 128 x=128+x):=by
 have key:∀m:Nat,m<256→or8B (UInt8.ofNat m)=true:=fun m hm=>List.all_eq_true.1 or8_k m (List.mem_range.2 hm);have val:∀m:Nat,m<256→(UInt8.ofNat m).toNat=m:=fun m hm=>by simp;omega
 refine ⟨fun h => ?_,fun h => ?_,fun h => ?_,fun h => ?_⟩;all_goals
  have k:=key x.toNat (by omega)
  unfold or8B at k;rw [val _ (by omega)] at k;have e:((x.toNat:Nat):Int)=x:=by omega
  rw [e] at k
 · have hb:Nat.blt x.toNat 32=true:=by rw [Nat.blt_eq];omega
   simp [hb] at k;rw [k.1.1];omega
 · have hb:Nat.blt x.toNat 16=true:=by rw [Nat.blt_eq];omega
   simp [hb] at k;rw [k.1.2];omega
 · have hb:Nat.blt x.toNat 8=true:=by rw [Nat.blt_eq];omega
   simp [hb] at k;rw [k.2.1];omega
 · have hb:Nat.blt x.toNat 64=true:=by rw [Nat.blt_eq];omega
   simp [hb] at k;rw [k.2.2];omega
theorem fdiv_nn {a:Int} {b:Int} (h:0≤b):a.fdiv b=a/b:=Int.fdiv_eq_ediv_of_nonneg a h
theorem p6:(2:Int)^min 6 IntKind.i32.bits=64:=by decide
theorem p12:(2:Int)^min 12 IntKind.i32.bits=4096:=by decide
theorem p18:(2:Int)^min 18 IntKind.i32.bits=262144:=by decide
def strE:List Int→Option (List UInt8)
 | []=>some []
 | v::l=>if rightB v=true then (strE l).map (enc v ++ ·) else none
theorem strE_all:∀l:List Int,strE l=if l.all rightB=true then some (l.flatMap enc) else none
 | []=>rfl
 | v::l=>by
  rw [strE,strE_all l,List.all_cons,List.flatMap_cons];cases rightB v<;>cases l.all rightB<;>rfl
theorem sstep (v:Int) (pre r:List Int) (N:Int) (out:List UInt8) (hN:N=((pre++v::r).length:Int)) (hl:pre.length+r.length≤1000000000) (ho:out.length≤100000000000000) :
 F82_l0 C64 (pre++v::r,N,(pre.length:Int),out,())=some (if rightB v=true then .inl (pre++v::r,N,((pre.length+1:Nat):Int),out++enc v,()) else .inr (.inr ([],false,()))):=by
 subst hN;have hi:decide ((pre.length:Int)<((pre++v::r).length:Int))=true:=by simp;omega
 have hi0:decide (0≤(pre.length:Int))=true:=by simp
 have hw:IntKind.i64.wrap ((pre.length:Int)+1)=((pre.length+1:Nat):Int):=wrN _ (by omega);have hg:(pre++v::r).getD ((pre.length:Int)).toNat 0=v:=by rw [Int.toNat_natCast];exact gd rfl
 cases hr:rightB v with
 | false =>
  simp only [F82_l0,hi,hi0,hg,c20,lenR_eq,lenE0 hr,Option.bind_some,cond_true,Bool.and_self];rfl
 | true =>
  have ol:∀k:Nat,k≤4→decide (out.length+k≤140737488355328/1)=true:=fun k hk=>by simp;omega
  have f6:Int.fdiv v (2^min 6 IntKind.i32.bits)=v/64:=by rw [p6,fdiv_nn (by omega)]
  have f12:Int.fdiv v (2^min 12 IntKind.i32.bits)=v/4096:=by rw [p12,fdiv_nn (by omega)]
  have f18:Int.fdiv v (2^min 18 IntKind.i32.bits)=v/262144:=by rw [p18,fdiv_nn (by omega)]
  have hi':=rightB_iff.1 hr;have a0:=and63 (x:=v) (by omega) (by omega);have a6:=and63 (x:=v/64) (by omega) (by omega);have a12:=and63 (x:=v/4096) (by omega) (by omega);have u0:IntKind.u8.wrap (v%64)=v%64:=wu8 (by omega) (by omega);have u6:IntKind.u8.wrap (v/64%64)=v/64%64:=wu8 (by omega) (by omega);have u12:IntKind.u8.wrap (v/4096%64)=v/4096%64:=wu8 (by omega) (by omega);have o0:=(or8 (v%64) (by omega)).2.2.2 (by omega);have o6:=(or8 (v/64%64) (by omega)).2.2.2 (by omega);have o12:=(or8 (v/4096%64) (by omega)).2.2.2 (by omega);rcases lenE_cases hr with ⟨h,h1,h2⟩|⟨h,h1,h2⟩|⟨h,h1,h2⟩|⟨h,h1,h2⟩
  · have e0:(((1:Nat):Int)==0)=false:=rfl
    have e1:(((1:Nat):Int)==1)=true:=rfl;simp only [F82_l0,hi,hi0,hg,hw,c20,lenR_eq,h,e0,e1,Option.bind_some,cond_true,cond_false,Bool.and_self,List.length_cons,List.length_nil,ol 1 (by omega),enc1 h,if_true,wu8 h1 (by omega:v≤255)];rfl
  · have e0:(((2:Nat):Int)==0)=false:=rfl
    have e1:(((2:Nat):Int)==1)=false:=rfl;have e2:(((2:Nat):Int)==2)=true:=rfl;have u:IntKind.u8.wrap (v/64)=v/64:=wu8 (by omega) (by omega);have o:=(or8 (v/64) (by omega)).1 (by omega);simp only [F82_l0,hi,hi0,hg,hw,c20,lenR_eq,h,e0,e1,e2,Option.bind_some,cond_true,cond_false,Bool.and_self,List.length_cons,List.length_nil,ol 2 (by omega),enc2 h,if_true,f6,a0,u,u0,o,o0];rfl
  · have e0:(((3:Nat):Int)==0)=false:=rfl
    have e1:(((3:Nat):Int)==1)=false:=rfl;have e2:(((3:Nat):Int)==2)=false:=rfl;have e3:(((3:Nat):Int)==3)=true:=rfl;have u:IntKind.u8.wrap (v/4096)=v/4096:=wu8 (by omega) (by omega);have o:=(or8 (v/4096) (by omega)).2.1 (by omega);simp only [F82_l0,hi,hi0,hg,hw,c20,lenR_eq,h,e0,e1,e2,e3,Option.bind_some,cond_true,cond_false,Bool.and_self,List.length_cons,List.length_nil,ol 3 (by omega),enc3 h,if_true,f6,f12,a0,a6,u,u0,u6,o,o0,o6];rfl
  · have e0:(((4:Nat):Int)==0)=false:=rfl
    have e1:(((4:Nat):Int)==1)=false:=rfl;have e2:(((4:Nat):Int)==2)=false:=rfl;have e3:(((4:Nat):Int)==3)=false:=rfl;have e4:(((4:Nat):Int)==4)=true:=rfl;have u:IntKind.u8.wrap (v/262144)=v/262144:=wu8 (by omega) (by omega);have o:=(or8 (v/262144) (by omega)).2.2.1 (by omega);simp only [F82_l0,hi,hi0,hg,hw,c20,lenR_eq,h,e0,e1,e2,e3,e4,Option.bind_some,cond_true,cond_false,Bool.and_self,List.length_cons,List.length_nil,ol 4 (by omega),enc4 h,if_true,f6,f12,f18,a0,a6,a12,u,u0,u6,u12,o,o0,o6,o12];rfl
theorem srun:∀(r pre:List Int) (N:Int) (out:List UInt8) (n:Nat),N=((pre++r).length:Int)→pre.length+r.length≤1000000000→out.length+4*r.length≤100000000000000→r.length<n →
 loopN (F82_l0 C64) n (pre++r,N,(pre.length:Int),out,())=some (match strE r with|some e => .inl (out++e,())|none => .inr ([],false,()))
 | _,_,_,_,0,_,_,_,hn=>by omega
 | [],pre,N,out,n+1,hN,hl,ho,hn=>by
  subst hN;refine loopN_inr ?_;have hi:decide ((pre.length:Int)<(pre.length:Int))=false:=by simp
  simp only [F82_l0,hi,cond_false,strE,List.append_nil]
 | v::r,pre,N,out,n+1,hN,hl,ho,hn=>by
  simp only [List.length_cons] at hl ho hn;have hs:=sstep v pre r N out hN (by omega) (by omega);cases hr:rightB v with
  | false =>
   rw [hr,if_neg (by simp)] at hs;rw [loopN_inr hs];simp [strE,hr]
  | true =>
   rw [hr,if_pos rfl] at hs;have hl4:=(lenE_pos hr).2;rw [loopN_inl hs,shift,show ((pre.length+1:Nat):Int)=((pre++[v]).length:Int) by simp,srun r (pre++[v]) N (out++enc v) n (by rw [hN];simp) (by simp;omega) (by rw [List.length_append,enc_len];omega) (by omega)];rw [strE,if_pos hr];cases strE r<;>simp
theorem c178 (l:List Int) (hl:l.length≤1000000000):C82 (l,())=some (match strE l with|some e=>(e,true,())|none=>([],false,())):=by
 have h:=srun l [] (l.length:Int) [] big (by simp) (by simp;omega) (by simp;omega) (by unfold big;omega);have h':C82_l0 (l,(l.length:Int),0,[],())=_:=h;simp only [C82,F82,h',Option.bind_some];cases strE l<;>rfl
end Go.Proofs.YtbifjondkjgkmaaGreatDoorA.W
namespace Go.Proofs.YtbifjondkjgkmaaGreatDoorA.W
open Go Go.Ae
theorem p121_0 (x:Int) (b:Bool):Pf (C63_c0 (x,b,())) (Sum.elim (fun y=>1≤y.1) (fun _=>True)):=by
 show Pf (F63_c0 _) _;unfold F63_c0;dsimp only;with_reducible repeat' (first|exact pN|apply pP|apply pX<;>intro _)
 all_goals first|trivial|exact (by decide:(1:Int)≤2)|exact (by decide:(1:Int)≤3)
theorem p121_1 (x:Int) (b:Bool):Pf (C63_c1 (x,b,())) (Sum.elim (fun y=>1≤y.1) (fun _=>True)):=by
 show Pf (F63_c1 C63_c0 _) _;unfold F63_c1;dsimp only;with_reducible repeat' (first|exact pN|apply pP|apply pX<;>intro _)
 all_goals first|trivial|exact (by decide:(1:Int)≤1)|(refine pZ (p121_0 _ _) ?_;intro s hs;exact pS hs (fun a ha=>pP ha) (fun _ _=>pP trivial))
theorem p121 (x:Int) (hx:0≤x):Pf (C63 (x,())) (fun y=>(y.1=0→x<128∧y.2.1=x)∧(0<y.1→128≤x)):=by
 show Pf (F63 C63_c1 _) _;unfold F63;dsimp only;with_reducible repeat' (first|exact pN|apply pP|apply pX<;>intro _)
 · rename_i h
   exact ⟨fun _=>⟨h,w32s (by omega)⟩,fun h=>by cases h⟩
 all_goals
  refine pZ (p121_1 _ _) ?_;intro s hs;exact pS hs (fun a ha=>pP ⟨fun h=>by have h':a.1=0:=h;have ha':1≤a.1:=ha;omega,fun _=>by omega⟩) (fun _ _=>pP ⟨fun h=>(by cases h),fun h=>by cases h⟩)
theorem bits_k:((List.range 256).all fun n => !(intBits BinOp.andNot IntKind.u8 (n:Int) 63==128)||decide (128≤n))=true:=by kernel_rfl
theorem bits_hi (c:UInt8) (h:intBits BinOp.andNot IntKind.u8 (c.toNat:Int) 63=128):128≤c.toNat:=by
 have:=List.all_eq_true.1 bits_k c.toNat (List.mem_range.2 c.toNat_lt)
 rw [h] at this;simpa using this
theorem p83_0 (s:List UInt8) (n r at_:Int) (o:List Int) (h:0≤at_) (hn:0≤n∧n≤3) (hb:s.length≤1000000000000) (ha:at_≤s.length) :
 Pf (C34_l0 (s,n,r,at_,at_+1,o,())) (Sum.elim (fun y=>∃r',y=(s,n,r',at_,o,())∧(n=0→r'=r)∧∀j:Nat,at_+1≤j→j≤at_+n→128≤(s.getD j 0).toNat) (fun y=>y.1=at_)):=by
 refine pL ?I ?h _ ?hv
 case I=>exact (fun v=>∃(k r':Int),v=(s,n,r',at_,k,o,())∧at_+1≤k∧(n=0→r'=r)∧∀j:Nat,at_+1≤j→j<k→128≤(s.getD j 0).toNat)
 case hv=>exact ⟨_,_,rfl,Int.le_refl _,fun _=>rfl,fun j h1 h2=>by omega⟩
 rintro v ⟨k,r',rfl,h1,h2,h3⟩;unfold F34_l0;dsimp only;rw [w64s (n:=at_+n) (by omega)];with_reducible repeat' (first|exact pN|apply pP|apply pX<;>intro _)
 · exact rfl
 · rename_i h4 h5 h6 h7
   rw [w64s (n:=k+1) (by omega)];refine ⟨_,_,rfl,by omega,fun h0=>by omega,fun j h8 h9 => ?_⟩;by_cases hjk:(j:Int)<k
   · exact h3 j h8 hjk
   · have hj:j=k.toNat:=by omega
     subst hj;exact bits_hi _ h6
 · exact ⟨_,rfl,h2,fun j h8 h9=>h3 j h8 (by omega)⟩
theorem chunk_hi (s:List UInt8) (k m:Nat) (h:∀j,k≤j→j<k+m→128≤(s.getD j 0).toNat):∀x∈bi ((s.drop k).take m),kk x=false:=by
 intro x hx;obtain ⟨c,hc,rfl⟩:=List.mem_map.1 hx;obtain ⟨i,hi,rfl⟩:=List.mem_iff_getElem.1 hc;rw [List.length_take,List.length_drop] at hi;rw [List.getElem_take,List.getElem_drop];have:=h (k+i) (by omega) (by omega);rw [getD_lt (by omega)] at this;exact kk_hi (by omega)
theorem p83 (s:List UInt8) (hb:s.length≤1000000000000):Pf (C34 (s,())) (fun y=>y.2.1<0→Rr (bi s) y.1):=by
 show Pf (F34 C63 C64 C34_g0 C34_l1 _) _;unfold F34;dsimp only;refine pZ (P:=Sum.elim (fun y=>Rr (bi s) y.1) (fun y=>0≤y.1)) ?_ ?_
 · refine pL ?I ?h _ ?hv
   case I=>exact (fun v=>∃(k:Int) (o:List Int),0≤k∧k≤s.length∧Rr (bi (s.take k.toNat)) o∧v=(s,k,o,()))
   case hv=>exact ⟨0,[],Int.le_refl _,by omega,Rr.refl _,rfl⟩
   rintro v ⟨k,o,h0,h1,h2,rfl⟩;unfold F34_l1;dsimp only;with_reducible repeat' (first|exact pN|apply pP|apply pX<;>intro _)
   · rename_i h3 h4
     have hlt:k.toNat<s.length:=by omega
     refine pZ (pA (d121 _).pf (p121 _ (by omega))) ?_;rintro ⟨n,r,u⟩ ⟨hn,hn0,hn1⟩;dsimp only at hn hn0 hn1 ⊢;rw [w64s (n:=(s.length:Int)-k) (by omega)];with_reducible repeat' (first|exact pN|apply pP|apply pX<;>intro _)
     · exact h0
     · exact h0
     · rename_i h5 h6
       rw [w64s (n:=k+1) (by omega)];refine pZ (p83_0 s n r k o h0 (by omega) hb h1) ?_;intro z hz;refine pS hz ?_ ?_
       · rintro y ⟨r',rfl,h7,h8⟩
         dsimp only;refine pZ pT ?_;rintro ⟨m,u⟩ -
         dsimp only;rw [w64s (n:=n+1) (by omega),w64s (n:=k+(n+1)) (by omega)];with_reducible repeat' (first|exact pN|apply pP|apply pX<;>intro _)
         · exact h0
         · refine ⟨_,_,by omega,by omega,?_,rfl⟩
           have e:s.take (k+(n+1)).toNat=s.take k.toNat++(s.drop k.toNat).take (n+1).toNat:=by
            rw [show (k+(n+1)).toNat=k.toNat+(n+1).toNat by omega,List.take_add]
           rw [e,bi_app];by_cases hz:n=0
           · have h9:=hn0 hz
             have e2:(s.drop k.toNat).take (n+1).toNat=[s[k.toNat]]:=by
              rw [show (n+1).toNat=1 by omega,List.drop_eq_getElem_cons hlt];rfl
             rw [e2];refine ap _ _ h2 fun _ => ?_;rw [h7 hz,h9.2,getD_lt hlt]
           · refine apn _ _ h2 ?_ (chunk_hi s k.toNat (n+1).toNat fun j hj1 hj2 => ?_)
             · intro he
               have:=congrArg List.length he;simp only [bi,List.length_map,List.length_take,List.length_drop,List.length_nil] at this;omega
             · by_cases hjk:j=k.toNat
               · subst hjk
                 have:=hn1 (by omega);omega
               · exact h8 j (by omega) (by omega)
       · rintro ⟨a,b,u⟩ ha
         dsimp only at ha ⊢;exact pP (by rw [ha];exact h0)
   · rw [List.take_of_length_le (by omega)] at h2
     exact h2
 · intro r hr
   refine pS hr ?_ ?_
   · rintro ⟨a,u⟩ ha
     exact pP fun _=>ha
   · rintro ⟨a,b,u⟩ ha
     exact pP fun h=>by
      have h':a<0:=h;have ha':0≤a:=ha;omega
theorem p122 (x:Int):Pf (C64 (x,())) (fun y=>(y.1=1→0≤x∧x≤127)∧(y.1≠1→y.1=0∨127<x)):=by
 show Pf (F64 C98 _) _;unfold F64;dsimp only;refine pZ (d155 x).pf ?_;rintro ⟨b,u⟩ hb;dsimp only at hb ⊢;with_reducible repeat' (first|exact pN|apply pP|apply pX<;>intro _)
 all_goals (dsimp only;refine ⟨fun h => ?_,fun h => ?_⟩;all_goals first|omega|(have:=hb (by assumption);omega)|(cases h))
theorem bi1 {r:Int} (h0:0≤r) (h1:r≤127):bi [UInt8.ofNat (IntKind.u8.wrap r).toNat]=[r]:=by
 have e:(UInt8.ofNat (IntKind.u8.wrap r).toNat).toNat=r.toNat:=by
  rw [wu8',UInt8.toNat_ofNat'];omega
 unfold bi;rw [List.map_cons,List.map_nil,e];congr 1;omega
theorem p178 (l:List Int) (hb:l.length≤20000000000000):Pf (C82 (l,())) (fun y=>(y.2.1=true→Rr l (bi y.1))∧(y.2.1=false→y.1=[])):=by
 show Pf (F82 C64 C82_l0 _) _;unfold F82;dsimp only;refine pZ (P:=Sum.elim (fun y=>Rr l (bi y.1)) (fun y=>y.1=[]∧y.2.1=false)) ?_ ?_
 · refine pL ?I ?h _ ?hv
   case I=>exact (fun v=>∃(k:Int) (o:List UInt8),0≤k∧k≤l.length∧Rr (l.take k.toNat) (bi o)∧v=(l,(l.length:Int),k,o,()))
   case hv=>exact ⟨0,[],Int.le_refl _,by omega,Rr.refl _,rfl⟩
   rintro v ⟨k,o,h0,h1,h2,rfl⟩;unfold F82_l0;dsimp only;with_reducible repeat' (first|exact pN|apply pP|apply pX<;>intro _)
   · rename_i h3 h4
     have hlt:k.toNat<l.length:=by omega
     refine pZ (p122 _) ?_;rintro ⟨m,u⟩ ⟨hm1,hm2⟩;dsimp only at hm1 hm2 ⊢;have fin:∀ys:List UInt8,(kk (l.getD k.toNat 0)=true→bi ys=[l.getD k.toNat 0])→∃(k':Int) (o':List UInt8),0≤k'∧k'≤l.length∧Rr (l.take k'.toNat) (bi o')∧(l,(l.length:Int),IntKind.i64.wrap (k+1),o++ys,())=(l,(l.length:Int),k',o',()):=by
      intro ys hys;rw [w64s (n:=k+1) (by omega)];refine ⟨_,_,by omega,by omega,?_,rfl⟩;rw [show (k+1).toNat=k.toNat+1 by omega,take_succ_get hlt,bi_app];rw [getD_lt hlt] at hys;exact ap _ _ h2 hys
     have hi:127<l.getD k.toNat 0→kk (l.getD k.toNat 0)=true→∀ys:List UInt8,bi ys=[l.getD k.toNat 0]:=fun h hk=>by
      have:=(kk_iff _).1 hk;omega
     with_reducible repeat' (first|exact pN|apply pP|apply pX<;>intro _)
     · exact ⟨rfl,rfl⟩
     · rename_i h5 h6 _
       have:=hm1 h6;exact fin _ fun _=>bi1 this.1 this.2
     · rename_i h5 h6 h7 _
       exact fin _ fun hk=>hi (by have:=hm2 h6;omega) hk _
     · rename_i h5 h6 h7 h8 _
       exact fin _ fun hk=>hi (by have:=hm2 h6;omega) hk _
     · rename_i h5 h6 h7 h8 h9 _
       exact fin _ fun hk=>hi (by have:=hm2 h6;omega) hk _
     · rename_i h5 h6 h7 h8 h9
       have:=fin [] fun hk=>hi (by have:=hm2 h6;omega) hk _;rw [List.append_nil] at this;exact this
   · rw [List.take_of_length_le (by omega)] at h2
     exact h2
 · intro r hr
   refine pS hr ?_ ?_
   · rintro ⟨a,u⟩ ha
     exact pP ⟨fun _=>ha,fun h=>by cases h⟩
   · rintro ⟨a,b,u⟩ ⟨ha,hb⟩
     exact pP ⟨fun h=>(by rw [hb] at h;cases h),fun _=>ha⟩
section
variable {T:List R6} {A:List R4} {B:List R3}
theorem p212 (r:Int):Pf (C115 (T,A,B,r,())) (fun y=>kk r=true→y.1=r):=by
 show Pf (F115 C119 _) _;unfold F115;dsimp only;with_reducible repeat' (first|exact pN|apply pP|apply pX<;>intro _)
 · exact fun _=>rfl
 · exact fun _=>rfl
 · exact pZ pT fun _ _=>pP fun hk=>by have:=(kk_iff _).1 hk;omega
theorem p210 (l:List Int) (hl:l.length≤1000000000000):Pf (C113 (l,T,A,B,())) (fun y=>Rr l y.1):=by
 show Pf (F113 C115 C113_l0 _) _;unfold F113;dsimp only;refine pZ (P:=fun y=>Rr l y.1) ?_ (fun _ h=>pP h);refine pL ?I ?h _ ?hv
 case I=>exact (fun v=>∃(k:Int) (o:List Int),0≤k∧k≤l.length∧Rr (l.take k.toNat) o∧v=(T,A,B,l,(l.length:Int),k,o,()))
 case hv=>exact ⟨0,[],Int.le_refl _,by omega,Rr.refl _,rfl⟩
 rintro v ⟨k,o,h0,h1,h2,rfl⟩;unfold F113_l0;dsimp only;with_reducible repeat' (first|exact pN|apply pP|apply pX<;>intro _)
 · have hlt:k.toNat<l.length:=by omega
   refine pZ (p212 _) ?_;rintro ⟨m,u⟩ hm;dsimp only at hm ⊢;rw [w64s (n:=k+1) (by omega)];with_reducible repeat' (first|exact pN|apply pP|apply pX<;>intro _)
   refine ⟨_,_,by omega,by omega,?_,rfl⟩;rw [show (k+1).toNat=k.toNat+1 by omega,take_succ_get hlt];rw [getD_lt hlt] at hm;exact ap _ _ h2 fun hk=>by rw [hm hk]
 · rw [List.take_of_length_le (by omega)] at h2
   exact h2
theorem p210v1 (hK:KT T A B) (l:List Int) (hl:l.length≤1000000000000):Pf (C113v1 (l,T,A,B,())) (fun y=>Rr l y.1):=by
 show Pf (F113v1 C114 C113v1_l0 _) _;unfold F113v1;dsimp only;refine pZ (P:=fun y=>Rr l y.1) ?_ (fun _ h=>pP h);refine pL ?I ?h _ ?hv
 case I=>exact (fun v=>∃(k:Int) (o:List Int),0≤k∧k≤l.length∧Rr (l.take k.toNat) o∧v=(T,A,B,l,(l.length:Int),k,o,()))
 case hv=>exact ⟨0,[],Int.le_refl _,by omega,Rr.refl _,rfl⟩
 rintro v ⟨k,o,h0,h1,h2,rfl⟩;unfold F113v1_l0;dsimp only;with_reducible repeat' (first|exact pN|apply pP|apply pX<;>intro _)
 · have hlt:k.toNat<l.length:=by omega
   refine pZ (P:=fun y=>kk (l.getD k.toNat 0)=true→y.1=l.getD k.toNat 0) (fun y e hk=>by rw [hK.lo _ hk] at e;cases e;rfl) ?_;rintro ⟨m,u⟩ hm;dsimp only at hm ⊢;rw [w64s (n:=k+1) (by omega)];with_reducible repeat' (first|exact pN|apply pP|apply pX<;>intro _)
   refine ⟨_,_,by omega,by omega,?_,rfl⟩;rw [show (k+1).toNat=k.toNat+1 by omega,take_succ_get hlt];rw [getD_lt hlt] at hm;exact ap _ _ h2 fun hk=>by rw [hm hk]
 · rw [List.take_of_length_le (by omega)] at h2
   exact h2
theorem p180 (l:List Int) (hl:l.length≤1000000000000):Pf (C84 (T,A,B,l,())) (fun y=>Rr l y.1):=by
 unfold C84 F84;dsimp only;exact pZ (p210 l hl) fun _ h=>pP h
theorem p179 (hK:KT T A B) (l:List Int) (hl:l.length≤1000000000000):Pf (C83 (T,A,B,l,())) (fun y=>Rr l y.1):=by
 unfold C83 F83;dsimp only;exact pZ (p210v1 hK l hl) fun _ h=>pP h
theorem split_k1:(splitT.all fun s => !kk s.1)=true:=by kernel_rfl
theorem pair_k:((splitT.filter fun s => !s.2.2.2.1 && !s.2.2.2.2).all fun s => !kk s.2.1 && !kk s.2.2.1)=true:=by kernel_rfl
theorem c216k {r:Int} (hk:kk r=true):C119 (T,A,B,r,())=some (0,0,0,false,false,false,()):=by
 have h:=(kk_iff r).1 hk;unfold C119;dsimp only;have e:(decide (65281≤r)&&decide (r≤65374))=false:=by simp;omega
 rw [e];have hs:splitD r=none:=by
  unfold splitD;rw [List.find?_eq_none];intro s hs he;have h1:=List.all_eq_true.1 split_k1 s hs;have h2:r=s.1:=by simpa using he
  rw [←h2,hk] at h1;cases h1
 rw [hs];rfl
theorem p300 (a b c:Int):Pf (C225 (a,b,c,())) (fun y=>y.1=true→b≤a):=by
 show Pf (F225 _) _;unfold F225;dsimp only;with_reducible repeat' (first|exact pN|apply pP|apply pX<;>intro _)
 · exact fun _=>by omega
 · exact fun h=>by cases h
theorem c300k {r:Int} (hk:kk r=true):C225 (r,44032,11172,())=some (false,()):=by
 have h:=(kk_iff r).1 hk;show F225 _=_;unfold F225;dsimp only;rw [decide_eq_false (by omega)];rfl
theorem p279 (r:Int) (sf:Bool):Pf (C178 (T,A,B,r,sf,())) (fun y=>kk r=true→y.1=[r]):=by
 show Pf (recN (fun G=>F178 C119 G C225 C226 C227 (F178_c0 C119 G C225 C226 C227)) big _) _;refine pRn (P:=fun (v:List R6×List R4×List R3×Int×Bool×Unit) (y:List Int×Unit)=>kk v.2.2.2.1=true→y.1=[v.2.2.2.1]) ?_ big _;rintro G - ⟨T,A,B,r,sf,u⟩;by_cases hk:kk r=true
 · show Pf (F178 C119 G C225 C226 C227 (F178_c0 C119 G C225 C226 C227) (T,A,B,r,sf,())) _
   unfold F178;dsimp only;simp only [c216k hk,Option.bind_some,c300k hk,Bool.not_false,cond_true,cond_false];unfold F178_c0;dsimp only;simp only [cond_true,Option.bind_some,Sum.elim_inl];exact pP fun _=>rfl
 · exact pM pT fun _ _ h=>absurd h hk
theorem p240 (l:List Int) (sf:Bool) (hl:l.length≤100000000000):Pf (C143 (T,A,B,l,sf,())) (fun y=>Rr l y.1):=by
 show Pf (F143 C178 C143_l0 _) _;unfold F143;dsimp only;refine pZ (P:=fun y=>Rr l y.1) ?_ (fun _ h=>pP h);refine pL ?I ?h _ ?hv
 case I=>exact (fun v=>∃(k:Int) (o:List Int),0≤k∧k≤l.length∧Rr (l.take k.toNat) o∧v=(sf,l,(l.length:Int),k,T,A,B,o,()))
 case hv=>exact ⟨0,[],Int.le_refl _,by omega,Rr.refl _,rfl⟩
 rintro v ⟨k,o,h0,h1,h2,rfl⟩;unfold F143_l0;dsimp only;with_reducible repeat' (first|exact pN|apply pP|apply pX<;>intro _)
 · have hlt:k.toNat<l.length:=by omega
   refine pZ (p279 _ _) ?_;rintro ⟨z,u⟩ hz;dsimp only at hz ⊢;rw [w64s (n:=k+1) (by omega)];with_reducible repeat' (first|exact pN|apply pP|apply pX<;>intro _)
   refine ⟨_,_,by omega,by omega,?_,rfl⟩;rw [show (k+1).toNat=k.toNat+1 by omega,take_succ_get hlt];rw [getD_lt hlt] at hz;exact ap _ _ h2 hz
 · rw [List.take_of_length_le (by omega)] at h2
   exact h2
theorem p303 (a b:Int):Pf (C228 (T,A,B,a,b,())) (fun y=>y.2.1=true→kk a=false∧kk b=false):=by
 unfold C228;dsimp only;cases hp:pairD a b with
 | none=>exact pP fun h=>by cases h
 | some s =>
  refine pP fun _ => ?_;unfold pairD at hp;have h1:=List.all_eq_true.1 pair_k s (List.mem_of_find?_eq_some hp);have h2:=List.find?_some hp;simp only [Bool.and_eq_true,beq_iff_eq,Bool.not_eq_true'] at h1 h2;rw [h2.1,h2.2];exact h1
theorem p280_0 (a b:Int) (f:Bool) (hf:f=true→128≤a∧128≤b):Pf (C179_c0 (a,b,f,T,A,B,())) (Sum.elim (fun y=>y.2.1=true→kk a=false∧kk b=false) (fun y=>y=(a,b,T,A,B,()))):=by
 show Pf (F179_c0 C225 C228 _) _;unfold F179_c0;dsimp only;with_reducible repeat' (first|exact pN|apply pP|apply pX<;>intro _)
 · rename_i h
   have:=hf h;exact fun _=>⟨kk_hi this.1,kk_hi this.2⟩
 · refine pZ (p300 _ _ _) ?_
   rintro ⟨z,u⟩ hz;dsimp only at hz ⊢;with_reducible repeat' (first|exact pN|apply pP|apply pX<;>intro _)
   · rename_i h1 h2
     have h3:=hz h1;refine pZ (p300 _ _ _) ?_;rintro ⟨z,u⟩ hz';dsimp only at hz' ⊢;with_reducible repeat' (first|exact pN|apply pP|apply pX<;>intro _)
     · rename_i h4
       have h5:=hz' h4;exact fun _=>⟨kk_hi (by omega),kk_hi (by omega)⟩
     · exact rfl
   all_goals exact rfl
theorem p280 (a b:Int):Pf (C179 (T,A,B,a,b,())) (fun y=>y.2.1=true→kk a=false∧kk b=false):=by
 show Pf (F179 C225 C228 C179_c0 _) _;unfold F179;dsimp only;have fin:∀f,(f=true→128≤a∧128≤b)→Pf ((C179_c0 (a,b,f,T,A,B,())).bind fun val=>Sum.elim (fun val=>some (val.fst,val.snd.fst,())) (fun val=>(C228 (val.snd.snd.fst,val.snd.snd.snd.fst,val.snd.snd.snd.snd.fst,val.fst,val.snd.fst,())).bind fun val=>some (val.fst,val.snd.fst,())) val) (fun y=>y.2.1=true→kk a=false∧kk b=false):=by
  intro f hf;refine pZ (p280_0 a b f hf) ?_;intro z hz;refine pS hz ?_ ?_
  · rintro ⟨y1,y2,u⟩ h
    exact pP h
  · rintro y rfl
    refine pZ (p303 a b) ?_;rintro ⟨y1,y2,u⟩ h;exact pP h
 refine pZ (p300 _ _ _) ?_;rintro ⟨z,u⟩ hz;dsimp only at hz ⊢;with_reducible repeat' (first|exact pN|apply pP|apply pX<;>intro _)
 · rename_i h1
   have h2:=hz h1;refine pZ (p300 _ _ _) ?_;rintro ⟨z,u⟩ hz';dsimp only at hz' ⊢;exact fin _ fun h=>⟨by omega,by have:=hz' h;omega⟩
 · exact fin _ fun h=>by cases h
theorem p241_0 (x0 x1 x2 x3:Int) (x4:List Int) (x5 x6:Int) (x7:Bool) (x8:List R6) (x9:List R4) (x10:List R3) (x11:List Int) :
 Pf (C144_c0 (x0,x1,x2,x3,x4,x5,x6,x7,x8,x9,x10,x11,())) (Sum.elim (fun y=>∃v,kk (x11.getD x0.toNat 0)=false∧kk x2=false∧y=(x0,x1,x4,x5,x6,x8,x9,x10,x11.set x0.toNat v,())) (fun y=>y=(x0,x1,x2,x3,x4,x5,x6,x8,x9,x10,x11,()))):=by
 show Pf (F144_c0 C175 C179 _) _;unfold F144_c0;dsimp only;with_reducible repeat' (first|exact pN|apply pP|apply pX<;>intro _)
 · refine pZ (p280 _ _) ?_
   rintro ⟨a,b,u⟩ hab;dsimp only at hab ⊢;with_reducible repeat' (first|exact pN|apply pP|apply pX<;>intro _)
   · rename_i h1 _
     have:=hab h1;exact ⟨_,this.1,this.2,rfl⟩
   · exact rfl
 · exact rfl
theorem p241 (l:List Int) (hl:l.length≤10000000000000):Pf (C144 (T,A,B,l,())) (fun y=>Rr l y.1):=by
 show Pf (F144 C175 C179 C144_l0 _) _;unfold F144;dsimp only;refine pZ (P:=fun y=>Rr l y.1) ?_ (fun _ h=>pP h);refine pL ?I ?h _ ?hv
 case I=>exact (fun v=>∃(st la k:Int) (o:List Int),0≤k∧k≤l.length∧Rr (l.take k.toNat) o∧v=(st,la,l,(l.length:Int),k,T,A,B,o,()))
 case hv=>exact ⟨-1,0,0,[],Int.le_refl _,by omega,Rr.refl _,rfl⟩
 rintro v ⟨st,la,k,o,h0,h1,h2,rfl⟩;have fin:∀(cl:Int) (f:Bool),k<l.length→Pf ((C144_c0 (st,la,l.getD k.toNat 0,cl,l,(l.length:Int),k,f,T,A,B,o,())).bind fun val =>
  Sum.elim (fun val=>some (Sum.inl (val.fst,val.snd.fst,val.snd.snd.fst,val.snd.snd.snd.fst,IntKind.i64.wrap (val.snd.snd.snd.snd.fst+1),val.snd.snd.snd.snd.snd.fst,val.snd.snd.snd.snd.snd.snd.fst,val.snd.snd.snd.snd.snd.snd.snd.fst,val.snd.snd.snd.snd.snd.snd.snd.snd.fst,())))
   (fun val=>bif decide (List.length val.snd.snd.snd.snd.snd.snd.snd.snd.snd.snd.fst+[val.snd.snd.fst].length≤140737488355328/4) then
    bif val.snd.snd.snd.fst==0 then some (Sum.inl (IntKind.i64.wrap ((↑(val.snd.snd.snd.snd.snd.snd.snd.snd.snd.snd.fst++[val.snd.snd.fst]).length:Int)-1),0,val.snd.snd.snd.snd.fst,val.snd.snd.snd.snd.snd.fst,IntKind.i64.wrap (val.snd.snd.snd.snd.snd.snd.fst+1),val.snd.snd.snd.snd.snd.snd.snd.fst,val.snd.snd.snd.snd.snd.snd.snd.snd.fst,val.snd.snd.snd.snd.snd.snd.snd.snd.snd.fst,val.snd.snd.snd.snd.snd.snd.snd.snd.snd.snd.fst++[val.snd.snd.fst],()))
    else some (Sum.inl (val.fst,if val.snd.snd.snd.fst>val.snd.fst then val.snd.snd.snd.fst else val.snd.fst,val.snd.snd.snd.snd.fst,val.snd.snd.snd.snd.snd.fst,IntKind.i64.wrap (val.snd.snd.snd.snd.snd.snd.fst+1),val.snd.snd.snd.snd.snd.snd.snd.fst,val.snd.snd.snd.snd.snd.snd.snd.snd.fst,val.snd.snd.snd.snd.snd.snd.snd.snd.snd.fst,val.snd.snd.snd.snd.snd.snd.snd.snd.snd.snd.fst++[val.snd.snd.fst],()))
    else none) val)
  (Sum.elim (fun v':Int×Int×List Int×Int×Int×List R6×List R4×List R3×List Int×Unit=>∃(st la k:Int) (o:List Int),0≤k∧k≤l.length∧Rr (l.take k.toNat) o∧v'=(st,la,l,(l.length:Int),k,T,A,B,o,())) (fun y:List Int×Unit=>Rr l y.1)):=by
  intro cl f hlt;have hlt':k.toNat<l.length:=by omega
  refine pZ (p241_0 _ _ _ _ _ _ _ _ _ _ _ _) ?_;intro z hz;refine pS hz ?_ ?_
  · rintro y ⟨v,h3,h4,rfl⟩
    dsimp only;rw [w64s (n:=k+1) (by omega)];refine pP ⟨_,_,_,_,by omega,by omega,?_,rfl⟩;rw [show (k+1).toNat=k.toNat+1 by omega,take_succ_get hlt'];rw [getD_lt hlt'] at h4;exact Rr.set _ h2 h4 _ _ h3
  · rintro y rfl
    dsimp only;rw [w64s (n:=k+1) (by omega)];with_reducible repeat' (first|exact pN|apply pP|apply pX<;>intro _)
    all_goals
     refine ⟨_,_,_,_,by omega,by omega,?_,rfl⟩;rw [show (k+1).toNat=k.toNat+1 by omega,take_succ_get hlt',getD_lt hlt'];exact ap _ _ h2 fun _=>rfl
 unfold F144_l0;dsimp only;with_reducible repeat' (first|exact pN|apply pP|apply pX<;>intro _)
 · rename_i h4 h5
   refine pZ pT ?_;rintro ⟨cl,u⟩ -
   dsimp only;with_reducible repeat' (first|exact pN|apply pP|apply pX<;>intro _)
   all_goals exact fin _ _ (by omega)
 · rw [List.take_of_length_le (by omega)] at h2
   exact h2
theorem p213 (h:TK T A B) (hK:KT T A B) (s:List UInt8) (a:Bool) (hs:s.length≤100000000000):Pf (C116 (T,A,B,s,a,true,())) (fun y=>y.2.1=true→Rr (bi s) (bi y.1)):=by
 unfold C116 F116;dsimp only;refine pZ (pA (d83 s (by omega)).pf (p83 s (by omega))) ?_;rintro ⟨l,at_,u⟩ ⟨hl,hl'⟩;dsimp only at hl hl' ⊢;with_reducible repeat' (first|exact pN|apply pP|apply pX<;>intro _)
 · exact fun h=>by cases h
 · rename_i hat
   have r1:=hl' (by omega);refine pZ (pA (d240 T A B l a (by omega)).pf (p240 l a (by omega))) ?_;rintro ⟨l2,u⟩ ⟨h2,r2⟩;dsimp only at h2 r2 ⊢;refine pZ (pA (d239 h.a l2 (by omega)).pf (p239 hK l2 (by omega))) ?_;rintro ⟨l3,u⟩ ⟨h3,r3⟩;dsimp only at h3 r3 ⊢;refine pZ (pA (d241 T A B l3 (by omega) h.a).pf (p241 l3 (by omega))) ?_;rintro ⟨l4,u⟩ ⟨h4,r4⟩;dsimp only at h4 r4 ⊢;refine pZ (p178 l4 (by omega)) ?_;rintro ⟨s5,b5,u⟩ ⟨h5,-⟩;exact pP fun hb=>((r1.trans r2).trans (r3.trans r4)).trans (h5 hb)
theorem p181 (h:TK T A B) (hK:KT T A B) (s:List UInt8) (hs:s.length≤100000000000):Pf (C85 (T,A,B,s,())) (fun y=>y.2.1=true→Rr (bi s) (bi y.1)):=by
 unfold C85 F85;dsimp only;refine pZ (p213 h hK s false hs) ?_;rintro ⟨x,b,u⟩ hx;exact pP hx
theorem p151 (h:TK T A B) (hK:KT T A B) (s:List UInt8) (hs:s.length≤10000000000):Pf (C55 (T,A,B,s,())) (fun y=>y.2.1=true→y.1=[]∨Rr (bi s) (bi y.1)):=by
 unfold C55 F55;dsimp only;refine pZ (pA (d83 s (by omega)).pf (p83 s (by omega))) ?_;rintro ⟨l,at_,u⟩ ⟨hl,hl'⟩;dsimp only at hl hl' ⊢;with_reducible repeat' (first|exact pN|apply pP|apply pX<;>intro _)
 · exact fun h=>by cases h
 · have r1:=hl' (by omega)
   refine pZ (pA (d180 T A B l (by omega)).pf (p180 l (by omega))) ?_;rintro ⟨l2,u⟩ ⟨h2,r2⟩;dsimp only at h2 r2 ⊢;refine pZ (pA (d179 T A B h.b l2 (by omega)).pf (p179 hK l2 (by omega))) ?_;rintro ⟨l3,u⟩ ⟨h3,r3⟩;dsimp only at h3 r3 ⊢;refine pZ (pA (d178 l3 (by omega)).pf (p178 l3 (by omega))) ?_;rintro ⟨s4,b4,u⟩ ⟨h4,h5,h6⟩;dsimp only at h4 h5 h6 ⊢;refine pZ (pA (d181 h s4 (by omega)).pf (p181 h hK s4 (by omega))) ?_;rintro ⟨s5,b5,u⟩ ⟨h7,h8⟩;refine pP fun hb => ?_;dsimp only at h7 h8 hb ⊢;cases b4 with
   | true=>exact .inr ((r1.trans r2).trans ((r3.trans (h5 rfl)).trans (h8 hb)))
   | false =>
    rw [h6 rfl] at h7;exact .inl (List.eq_nil_of_length_eq_zero (by simpa using h7))
end
open Go.Pl (rl rr rr_le enc enc1 enc2 enc3 enc4 rightB lenE lenE_cases b8 b8_val runes_of rl_rr rl_right badAt badAt_neg dec_nil)
def Nf (B:List R3) (x:Int):Prop:=∀e∈B,¬(e.1≤x∧x≤e.2.1)
def nfB (B:List R3) (x:Int):Bool:=B.all fun e => !(decide (e.1≤x)&&decide (x≤e.2.1))
theorem nf_iff {B:List R3} {x:Int}:nfB B x=true↔Nf B x:=by
 unfold nfB Nf;simp only [List.all_eq_true,Bool.not_eq_true',Bool.and_eq_false_iff,decide_eq_false_iff_not];constructor
 · intro h e he ⟨h1,h2⟩
   rcases h e he with h|h
   · exact h h1
   · exact h h2
 · intro h e he
   by_cases h1:e.1≤x
   · exact .inr fun h2=>h e he ⟨h1,h2⟩
   · exact .inl h1
structure LN (B:List R3):Prop where
 len:B.length≤1000000000000
 sh:∀e∈B,(0≤e.1∧e.2.1≤1114111 ∧ -100000≤e.2.2∧e.2.2≤100000)∧∀e'∈B,e.2.1+e.2.2<e'.1∨e'.2.1<e.1+e.2.2
 up:∀x,65≤x→x≤90→¬Nf B x
 lo:∀x,0≤x→x<128→¬(65≤x∧x≤90)→Nf B x
 hg:∀x,4352≤x→x≤4607→Nf B x
 jm:∀x,44032≤x→x≤55203→Nf B x
 sp:∀s∈splitT,s.2.2.2.1=false→Nf B s.1→Nf B s.2.1∧Nf B s.2.2.1
 pr:∀s∈splitT,s.2.2.2.1=false→s.2.2.2.2=false→Nf B s.2.1→Nf B s.2.2.1→Nf B s.1
def lnB (B:List R3):Bool :=
 decide (B.length≤1000)&&(B.all fun e=>(decide (0≤e.1)&&(decide (e.2.1≤1114111)&&(decide (-100000≤e.2.2)&&decide (e.2.2≤100000))))&&B.all fun e'=>decide (e.2.1+e.2.2<e'.1)||decide (e'.2.1<e.1+e.2.2)) &&
 ((List.range 128).all fun n=>nfB B (n:Int) == !(Nat.ble 65 n&&Nat.ble n 90)) &&
 (B.all fun e=>(decide (e.2.1<4352)||decide (4607<e.1))&&(decide (e.2.1<44032)||decide (55203<e.1))) &&
 (splitT.all fun s=>s.2.2.2.1||(!nfB B s.1||(nfB B s.2.1&&nfB B s.2.2.1))) &&
 (splitT.all fun s=>s.2.2.2.1||(s.2.2.2.2||(!(nfB B s.2.1&&nfB B s.2.2.1)||nfB B s.1)))
theorem ln_ofB {B:List R3} (h:lnB B=true):LN B:=by
 unfold lnB at h;simp only [Bool.and_eq_true,decide_eq_true_eq] at h;obtain ⟨⟨⟨⟨⟨h1,h2⟩,h3⟩,h4⟩,h5⟩,h6⟩:=h;rw [List.all_eq_true] at h2 h3 h4 h5 h6;have asc:∀x:Int,0≤x→x<128→nfB B x = !(Nat.ble 65 x.toNat&&Nat.ble x.toNat 90):=by
  intro x h0 h1;have:=h3 x.toNat (List.mem_range.2 (by omega))
  rw [show ((x.toNat:Nat):Int)=x by omega] at this;exact eq_of_beq this
 refine ⟨by omega,fun e he => ?_,fun x a b => ?_,fun x a b c => ?_,fun x a b => ?_,fun x a b => ?_,fun s hs h0 hn => ?_,fun s hs h0 h0' hn hn' => ?_⟩
 · have:=h2 e he
   simp only [Bool.and_eq_true,decide_eq_true_eq,List.all_eq_true,Bool.or_eq_true] at this;exact ⟨⟨this.1.1,this.1.2.1,this.1.2.2.1,this.1.2.2.2⟩,this.2⟩
 · rw [←nf_iff,asc x (by omega) (by omega)]
   have e1:Nat.ble 65 x.toNat=true:=Nat.ble_eq_true_of_le (by omega);have e2:Nat.ble x.toNat 90=true:=Nat.ble_eq_true_of_le (by omega);rw [e1,e2];decide
 · rw [←nf_iff,asc x a b]
   cases e1:Nat.ble 65 x.toNat with
   | false=>rfl
   | true =>
    cases e2:Nat.ble x.toNat 90 with
    | false=>rfl
    | true=>exact absurd ⟨by have:=Nat.le_of_ble_eq_true e1;omega,by have:=Nat.le_of_ble_eq_true e2;omega⟩ c
 · intro e he ⟨h7,h8⟩
   have:=h4 e he;simp only [Bool.and_eq_true,Bool.or_eq_true,decide_eq_true_eq] at this;omega
 · intro e he ⟨h7,h8⟩
   have:=h4 e he;simp only [Bool.and_eq_true,Bool.or_eq_true,decide_eq_true_eq] at this;omega
 · have:=h5 s hs
   rw [h0,nf_iff.2 hn] at this;simp only [Bool.false_or,Bool.not_true,Bool.and_eq_true] at this;exact ⟨nf_iff.1 this.1,nf_iff.1 this.2⟩
 · have:=h6 s hs
   rw [h0,h0',nf_iff.2 hn,nf_iff.2 hn'] at this;simp only [Bool.false_or,Bool.and_self,Bool.not_true] at this;exact nf_iff.1 this
def lnC:Bool:=match C9 () with
 | some (_,_,B,_)=>lnB B
 | none=>false
theorem lnC_k:lnC=true:=by kernel_rfl
theorem ln_of {T A B} (h18:C9 ()=some (T,A,B,())):LN B:=by
 have h:=lnC_k;unfold lnC at h;rw [h18] at h;exact ln_ofB h
section
variable {T:List R6} {A:List R4} {B:List R3}
theorem p238 (a b c r:Int):Pf (C141 (a,b,c,r,())) (fun y=>y=(decide (a≤r∧r≤b),r,())):=by
 unfold C141 F141;dsimp only;with_reducible repeat' (first|exact pN|apply pP|apply pX<;>intro _)
 · rename_i h
   congr 1;exact decide_eq_decide.2 (by omega)
 · rename_i h
   rw [decide_eq_false (by omega)]
theorem p237 (r:Int) (hB:B.length≤1000000000000):Pf (C140 (B,r,())) (fun y=>(Nf B r∧y=(-1,r,()))∨∃i:Nat,i<B.length∧y=((i:Int),r,())∧(B.getD i (0,(0,0))).1≤r∧r≤(B.getD i (0,(0,0))).2.1):=by
 unfold C140 F140;dsimp only;refine pZ (P:=Sum.elim (fun y=>y=(r,())∧Nf B r) (fun y=>∃i:Nat,i<B.length∧y=((i:Int),r,())∧(B.getD i (0,(0,0))).1≤r∧r≤(B.getD i (0,(0,0))).2.1)) ?_ ?_
 · refine pL ?I ?h _ ?hv
   case I=>exact (fun v=>∃k:Nat,k≤B.length∧v=(B,(B.length:Int),(k:Int),r,())∧∀e∈B.take k,¬(e.1≤r∧r≤e.2.1))
   case hv=>exact ⟨0,Nat.zero_le _,rfl,fun e he=>by simp at he⟩
   rintro _ ⟨k,hk,rfl,hno⟩;unfold F140_l0;dsimp only;simp only [Int.toNat_natCast];refine pX (fun hlt => ?_) (fun hge => ?_)
   · have hlt':k<B.length:=by omega
     refine pX (fun _ => ?_) (fun _=>pN);refine pZ (p238 _ _ _ _) ?_;rintro _ rfl;dsimp only;rw [wrN k (by omega)];refine pX (fun h=>pP ⟨k,hlt',rfl,h⟩) (fun h=>pP ⟨k+1,by omega,rfl,fun e he => ?_⟩);rw [take_succ_get hlt'] at he;rcases List.mem_append.1 he with he|he
     · exact hno e he
     · rw [List.mem_singleton.1 he,←getD_lt (d:=(0,(0,0))) hlt']
       exact h
   · have:k=B.length:=by omega
     subst this;rw [List.take_length] at hno;exact pP ⟨rfl,hno⟩
 · intro z hz
   refine pS hz ?_ ?_
   · rintro _ ⟨rfl,h⟩
     exact pP (.inl ⟨h,rfl⟩)
   · rintro _ ⟨i,h1,rfl,h2⟩
     exact pP (.inr ⟨i,h1,rfl,h2⟩)
theorem p211 (hL:LN B) (r:Int):Pf (C114 (T,A,B,r,())) (fun y=>Nf B y.1∧(Nf B r→y.1=r)):=by
 unfold C114 F114;dsimp only;refine pZ (p237 r hL.len) ?_;rintro _ (⟨hn,rfl⟩|⟨i,hi,rfl,h1,h2⟩)
 · exact pX (fun _=>pP ⟨hn,fun _=>rfl⟩) (fun h=>by omega)
 · have hm:B.getD i (0,(0,0))∈B:=by rw [getD_lt hi];exact List.getElem_mem _
   refine pX (fun h=>by omega) (fun _ => ?_);refine pX (fun _ => ?_) (fun _=>pN);simp only [Int.toNat_natCast];obtain ⟨⟨b1,b2,b3,b4⟩,hs⟩:=hL.sh _ hm;rw [w32s (by omega)];refine pP ⟨fun e' he' ⟨h3,h4⟩ => ?_,fun hn=>(hn _ hm ⟨h1,h2⟩).elim⟩;have:=hs e' he';dsimp only at h3 h4;omega
theorem n210 (hL:LN B) (l:List Int) (hl:l.length≤1000000000000):Pf (C113v1 (l,T,A,B,())) (fun y=>(∀x∈y.1,Nf B x)∧((∀x∈l,Nf B x)→y.1=l)):=by
 show Pf (F113v1 C114 C113v1_l0 _) _;unfold F113v1;dsimp only;refine pZ (P:=fun y=>(∀x∈y.1,Nf B x)∧((∀x∈l,Nf B x)→y.1=l)) ?_ (fun _ h=>pP h);refine pL ?I ?h _ ?hv
 case I=>exact (fun v=>∃(k:Nat) (o:List Int),k≤l.length∧v=(T,A,B,l,(l.length:Int),(k:Int),o,())∧(∀x∈o,Nf B x)∧((∀x∈l,Nf B x)→o=l.take k))
 case hv=>exact ⟨0,[],Nat.zero_le _,rfl,fun x hx=>(by cases hx),fun _=>rfl⟩
 rintro _ ⟨k,o,hk,rfl,h1,h2⟩;unfold F113v1_l0;dsimp only;simp only [Int.toNat_natCast];refine pX (fun hlt => ?_) (fun hge => ?_)
 · have hlt':k<l.length:=by omega
   refine pX (fun _ => ?_) (fun _=>pN);refine pZ (p211 hL _) ?_;rintro ⟨m,u⟩ ⟨h3,h4⟩;dsimp only at h3 h4 ⊢;rw [wrN k (by omega)];refine pX (fun _=>pP ⟨k+1,o++[m],by omega,rfl,fun x hx => ?_,fun hall => ?_⟩) (fun _=>pN)
   · rcases List.mem_append.1 hx with hx|hx
     · exact h1 x hx
     · rw [List.mem_singleton.1 hx];exact h3
   · rw [h2 hall,take_succ_get hlt',h4 (by rw [getD_lt hlt'];exact hall _ (List.getElem_mem _)),getD_lt hlt']
 · have:k=l.length:=by omega
   subst this;rw [List.take_length] at h2;exact pP ⟨h1,h2⟩
theorem p300x (a b c:Int) (hb:0≤b∧b≤1000000) (hc:0≤c∧c≤1000000):Pf (C225 (a,b,c,())) (fun y=>y.1=true→b≤a∧a<b+c):=by
 show Pf (F225 _) _;unfold F225;dsimp only;rw [w32s (n:=c) (by omega),w32s (n:=b+c) (by omega)];with_reducible repeat' (first|exact pN|apply pP|apply pX<;>intro _)
 · exact fun h=>⟨by omega,by simpa using h⟩
 · exact fun h=>by cases h
variable {D:List R3}
theorem n301 (hL:LN D) (a:Int) (ha:44032≤a∧a<55204):Pf (C226 (a,())) (fun y=>∀x∈y.1,Nf D x):=by
 unfold C226 F226;dsimp only;have w1:=w32s (n:=a-44032) (by omega);simp only [w1,Int.tmod_eq_emod_of_nonneg (show 0≤a-44032 by omega),Int.tdiv_eq_ediv_of_nonneg (show 0≤a-44032 by omega)];have w2:=w32s (n:=(a-44032)/588) (by omega);have w3:=w32s (n:=(a-44032)/28) (by omega);have q:0≤(a-44032)/28:=by omega
 simp only [w2,w3,Int.tmod_eq_emod_of_nonneg q];have w4:=w32s (n:=4352+(a-44032)/588) (by omega);have w5:=w32s (n:=4449+(a-44032)/28%21) (by omega);have w6:=w32s (n:=4519+(a-44032)%28) (by omega);rw [w4,w5,w6];have k1:=hL.hg (4352+(a-44032)/588) (by omega) (by omega);have k2:=hL.hg (4449+(a-44032)/28%21) (by omega) (by omega);have k3:=hL.hg (4519+(a-44032)%28) (by omega) (by omega);with_reducible repeat' (first|exact pN|apply pP|apply pX<;>intro _)
 · intro x hx
   simp only [List.mem_append,List.mem_cons,List.not_mem_nil,or_false] at hx;rcases hx with (rfl|rfl)|rfl
   · exact k1
   · exact k2
   · exact k3
 · intro x hx
   simp only [List.mem_cons,List.not_mem_nil,or_false] at hx;rcases hx with rfl|rfl
   · exact k1
   · exact k2
theorem n302 (a b:List Int) (Q:Int→Prop) (ha:∀x∈a,Q x) (hb:∀x∈b,Q x):Pf (C227 ([a,b],())) (fun y=>∀x∈y.1,Q x):=by
 unfold C227 F227;dsimp only;refine pZ (P:=fun y=>y.1=[a,b]) ?_ ?_
 · refine pL ?I ?h _ ?hv
   case I=>exact (fun v=>v.1=[a,b])
   case hv=>exact rfl
   rintro ⟨x0,x1,x2,x3,x4,u⟩ h;dsimp only at h;subst h;unfold F227_l0;dsimp only;with_reducible repeat' (first|exact pN|apply pP|apply pX<;>intro _)
   · exact (rfl:([a,b]:List (List Int))=[a,b])
   · rfl
 rintro ⟨ls,n,u⟩ h;dsimp only at h ⊢;subst h;refine pZ (P:=fun y=>y.1=[]) ?_ ?_
 · unfold C244
   dsimp only;with_reducible repeat' (first|exact pN|apply pP|apply pX<;>intro _)
   rfl
 rintro ⟨o,u⟩ h;dsimp only at h ⊢;subst h;refine pZ (P:=fun y=>∀x∈y.1,Q x) ?_ (fun _ h=>pP h);refine pL ?I ?h _ ?hv
 case I=>exact (fun v=>v.1=[a,b]∧∀x∈v.2.2.2.1,Q x)
 case hv=>exact ⟨rfl,fun x hx=>by cases hx⟩
 rintro ⟨x0,x1,x2,x3,u⟩ ⟨h,h3⟩;dsimp only at h h3;subst h;unfold F227_l1;dsimp only;with_reducible repeat' (first|exact pN|apply pP|apply pX<;>intro _)
 · rename_i h1 h2 _
   refine ⟨rfl,fun x hx => ?_⟩;rcases List.mem_append.1 hx with hx|hx
   · exact h3 x hx
   · have:x2.toNat=0∨x2.toNat=1:=by simp only [List.length_cons,List.length_nil] at h2;omega
     rcases this with e|e
     · rw [e] at hx;exact ha x hx
     · rw [e] at hx;exact hb x hx
 · exact h3
theorem n279 (hL:LN D) (r:Int) (hr:Nf D r):Pf (C178 (T,A,B,r,false,())) (fun y=>∀x∈y.1,Nf D x):=by
 have key:Pf (recN (fun G=>F178 C119 G C225 C226 C227 (F178_c0 C119 G C225 C226 C227)) big (T,A,B,r,false,())) ((fun (v:List R6×List R4×List R3×Int×Bool×Unit) (y:List Int×Unit)=>v.2.2.1=B→v.2.2.2.2.1=false→Nf D v.2.2.2.1→∀x∈y.1,Nf D x) (T,A,B,r,false,())):=by
  refine pRn (P:=fun (v:List R6×List R4×List R3×Int×Bool×Unit) (y:List Int×Unit)=>v.2.2.1=B→v.2.2.2.2.1=false→Nf D v.2.2.2.1→∀x∈y.1,Nf D x) ?_ big _;rintro G hG ⟨T,A,B',r,sf,u⟩;by_cases hB:B'=B
  · by_cases hsf:sf=false
    · by_cases hN:Nf D r
      · subst hB hsf
        suffices hs:Pf (F178 C119 G C225 C226 C227 (F178_c0 C119 G C225 C226 C227) (T,A,B',r,false,())) (fun y=>∀x∈y.1,Nf D x) from pM hs fun y h _ _ _=>h
        unfold F178;dsimp only;refine pZ (P:=fun v=>v.2.2.2.2.2.1=true→v.2.2.2.1=false→Nf D v.2.1∧Nf D v.2.2.1) ?_ ?_
        · unfold C119
          dsimp only;refine pX (fun _=>pP fun _ h=>by cases h) (fun _ => ?_);cases hd:splitD r with
          | none=>exact pP fun h=>by cases h
          | some s =>
           refine pP fun _ h => ?_;unfold splitD at hd;have h1:=List.mem_of_find?_eq_some hd;have h2:=List.find?_some hd;have h3:r=s.1:=by simpa using h2
           exact hL.sp s h1 h (h3▸hN)
        rintro ⟨s0,s1,s2,s3,s4,s5,u⟩ hs;dsimp only at hs ⊢;refine pZ (p300x _ _ _ (by omega) (by omega)) ?_;rintro ⟨hgl,u⟩ hh;dsimp only at hh ⊢;refine pX (fun h=>pZ (n301 hL r (hh h)) fun _ h=>pP h) (fun _ => ?_);have self:∀x∈[r],Nf D x:=fun x hx=>by rw [List.mem_singleton.1 hx];exact hN
        refine pX (fun _ => ?_) (fun h5 => ?_)
        · unfold F178_c0
          dsimp only;simp only [cond_true,Option.bind_some,Sum.elim_inl];exact pP self
        refine pX (fun _ => ?_) (fun h3 => ?_)
        · unfold F178_c0
          dsimp only;simp only [Bool.not_false,cond_true,Option.bind_some,Sum.elim_inl];exact pP self
        have h5':s5=true:=by simpa using h5
        have h3':s3=false:=by simpa using h3
        obtain ⟨k1,k2⟩:=hs h5' h3';refine pZ (P:=Sum.elim (fun y=>∀x∈y.1,Nf D x) (fun y=>y=(false,T,A,B',s0,s1,s2,s3,s4,()))) ?_ ?_
        · unfold F178_c0
          dsimp only;simp only [cond_false];refine pX (fun _=>pZ (hG (T,A,B',s1,false,())) fun y h=>pP (h rfl rfl k1)) (fun _=>pP rfl)
        · intro z hz
          refine pS hz (fun y h=>pP h) ?_;rintro _ rfl;dsimp only;refine pZ (hG (T,A,B',s1,false,())) fun y1 g1 => ?_;refine pZ (hG (T,A,B',s2,false,())) fun y2 g2 => ?_;exact pZ (n302 _ _ _ (g1 rfl rfl k1) (g2 rfl rfl k2)) fun _ h=>pP h
      · exact pM pT fun _ _ _ _ h=>absurd h hN
    · exact pM pT fun _ _ _ h=>absurd h hsf
  · exact pM pT fun _ _ h=>absurd h hB
 intro y e;exact key y e rfl rfl hr
theorem n240 (hL:LN D) (l:List Int) (hl:l.length≤100000000000) (h:∀x∈l,Nf D x):Pf (C143 (T,A,B,l,false,())) (fun y=>∀x∈y.1,Nf D x):=by
 unfold C143 F143;dsimp only;refine pZ (P:=fun y=>∀x∈y.1,Nf D x) ?_ (fun _ h=>pP h);refine pL ?I ?h _ ?hv
 case I=>exact (fun v=>∃(k:Int) (o:List Int),0≤k∧v=(false,l,(l.length:Int),k,T,A,B,o,())∧∀x∈o,Nf D x)
 case hv=>exact ⟨0,[],Int.le_refl _,rfl,fun x hx=>by cases hx⟩
 rintro _ ⟨k,o,h0,rfl,ho⟩;unfold F143_l0;dsimp only;with_reducible repeat' (first|exact pN|apply pP|apply pX<;>intro _)
 · rename_i h1 h2
   have hm:l.getD k.toNat 0∈l:=by rw [getD_lt (by omega)];exact List.getElem_mem _
   refine pZ (n279 hL _ (h _ hm)) ?_;rintro ⟨m,u⟩ hy;dsimp only at hy ⊢;rw [w64s (n:=k+1) (by omega)];with_reducible repeat' (first|exact pN|apply pP|apply pX<;>intro _)
   refine ⟨_,_,by omega,rfl,fun x hx => ?_⟩;rcases List.mem_append.1 hx with hx|hx
   · exact ho x hx
   · exact hy x hx
 · exact ho
theorem n239 (hL:LN D) (l:List Int) (hl:l.length≤35184372088832) (h:∀x∈l,Nf D x):Pf (C142 (T,A,B,l,())) (fun y=>∀x∈y.1,Nf D x):=by
 unfold C142 F142;dsimp only;refine pZ (P:=fun y=>y.1=l) ?_ ?_
 · unfold C174
   dsimp only;with_reducible repeat' (first|exact pN|apply pP|apply pX<;>intro _)
   rfl
 rintro ⟨l',u⟩ hl';dsimp only at hl' ⊢;subst hl';refine pZ (P:=fun y=>∀x∈y.1,Nf D x) ?_ (fun _ h=>pP h);refine pL ?I ?h _ ?hv
 case I=>exact (fun v=>∃(f k:Int) (r':List Int),v=(f,k,T,A,B,r',())∧∀x∈r',Nf D x)
 case hv=>exact ⟨0,0,l',rfl,h⟩
 rintro _ ⟨f,k,r',rfl,hr'⟩;unfold F142_l0;dsimp only;have fin:Pf ((C142_c0 (f,k,T,A,B,r',())).bind fun val=>some (Sum.inl (val.fst,IntKind.i64.wrap (val.snd.fst+1),val.snd.snd.fst,val.snd.snd.snd.fst,val.snd.snd.snd.snd.fst,val.snd.snd.snd.snd.snd.fst,())))
  (Sum.elim (fun v':Int×Int×List R6×List R4×List R3×List Int×Unit=>∃(f k:Int) (r':List Int),v'=(f,k,T,A,B,r',())∧∀x∈r',Nf D x) (fun y:List Int×Unit=>∀x∈y.1,Nf D x)):=by
  refine pZ (p239_0 f k r') ?_;rintro y ⟨r2,h7,h8,rfl⟩;exact pP ⟨_,_,r2,rfl,fun x hx=>(h8.2.2 x hx).elim (fun e=>by rw [e];exact hL.lo 0 (by omega) (by omega) (by omega)) (hr' x)⟩
 with_reducible repeat' (first|exact pN|apply pP|apply pX<;>intro _)
 · refine pZ pT ?_
   rintro ⟨c,u⟩ -
   dsimp only;with_reducible repeat' (first|exact pN|apply pP|apply pX<;>intro _)
   · exact ⟨_,_,r',rfl,hr'⟩
   · exact fin
 · exact fin
 · exact hr'
theorem n303 (hL:LN D) (a b:Int) (ha:Nf D a) (hb:Nf D b):Pf (C228 (T,A,B,a,b,())) (fun y=>y.2.1=true→Nf D y.1∧128≤b):=by
 unfold C228;dsimp only;cases hp:pairD a b with
 | none=>exact pP fun h=>by cases h
 | some s =>
  refine pP fun _ => ?_;unfold pairD at hp;have h1:=List.mem_filter.1 (List.mem_of_find?_eq_some hp);have h2:=List.find?_some hp;simp only [Bool.and_eq_true,beq_iff_eq,Bool.not_eq_true'] at h1 h2;have h3:(splitT.all fun s=>s.2.2.2.1||(s.2.2.2.2||decide (128≤s.2.2.1)))=true:=by kernel_rfl
  have h4:=List.all_eq_true.1 h3 s h1.1;rw [h1.2.1,h1.2.2] at h4;exact ⟨hL.pr s h1.1 h1.2.1 h1.2.2 (h2.1▸ha) (h2.2▸hb),by rw [h2.2];simpa using h4⟩
theorem n280_0 (hL:LN D) (a b:Int) (f:Bool) (hf:f=true→(4352≤a∧a<4371)∧(4449≤b∧b<4470)):Pf (C179_c0 (a,b,f,T,A,B,())) (Sum.elim (fun y=>y.2.1=true→Nf D y.1∧128≤b) (fun y=>y=(a,b,T,A,B,()))):=by
 show Pf (F179_c0 C225 C228 _) _;unfold F179_c0;dsimp only;refine pX (fun h => ?_) (fun _ => ?_)
 · obtain ⟨h1,h2⟩:=hf h
   refine pP fun _ => ?_;have w1:=w32s (n:=a-4352) (by omega);have w2:=w32s (n:=(a-4352)*21) (by omega);have w3:=w32s (n:=(a-4352)*21+b) (by omega);have w4:=w32s (n:=(a-4352)*21+b-4449) (by omega);have w5:=w32s (n:=((a-4352)*21+b-4449)*28) (by omega);have w6:=w32s (n:=44032+((a-4352)*21+b-4449)*28) (by omega);dsimp only;rw [w1,w2,w3,w4,w5,w6];exact ⟨hL.jm _ (by omega) (by omega),by omega⟩
 refine pZ (p300x _ _ _ (by omega) (by omega)) ?_;rintro ⟨z,u⟩ hz;dsimp only at hz ⊢;refine pX (fun h1 => ?_) (fun _=>pP rfl);have h3:=hz h1;rw [w32s (n:=a-44032) (by omega),Int.tmod_eq_emod_of_nonneg (by omega)];refine pX (fun h2 => ?_) (fun _=>pP rfl);refine pZ (p300x _ _ _ (by omega) (by omega)) ?_;rintro ⟨z,u⟩ hz';dsimp only at hz' ⊢;refine pX (fun h4 => ?_) (fun _=>pP rfl);have h5:=hz' h4;have h2':(a-44032)%28=0:=by simpa using h2
 refine pP fun _ => ?_;dsimp only;rw [w32s (n:=a+b) (by omega),w32s (n:=a+b-4519) (by omega)];exact ⟨hL.jm _ (by omega) (by omega),by omega⟩
theorem n280 (hL:LN D) (a b:Int) (ha:Nf D a) (hb:Nf D b):Pf (C179 (T,A,B,a,b,())) (fun y=>y.2.1=true→Nf D y.1∧128≤b):=by
 show Pf (F179 C225 C228 C179_c0 _) _;unfold F179;dsimp only;have fin:∀f,(f=true→(4352≤a∧a<4371)∧(4449≤b∧b<4470))→Pf ((C179_c0 (a,b,f,T,A,B,())).bind fun val=>Sum.elim (fun val=>some (val.fst,val.snd.fst,())) (fun val=>(C228 (val.snd.snd.fst,val.snd.snd.snd.fst,val.snd.snd.snd.snd.fst,val.fst,val.snd.fst,())).bind fun val=>some (val.fst,val.snd.fst,())) val) (fun y=>y.2.1=true→Nf D y.1∧128≤b):=by
  intro f hf;refine pZ (n280_0 hL a b f hf) ?_;intro z hz;refine pS hz (fun y h=>pP h) ?_;rintro y rfl;exact pZ (n303 hL a b ha hb) fun y h=>pP h
 refine pZ (p300x _ _ _ (by omega) (by omega)) ?_;rintro ⟨z,u⟩ hz;dsimp only at hz ⊢;refine pX (fun h1 => ?_) (fun _=>fin _ fun h=>by cases h);have h2:=hz h1;refine pZ (p300x _ _ _ (by omega) (by omega)) ?_;rintro ⟨z,u⟩ hz';dsimp only at hz' ⊢;exact fin _ fun h=>⟨by omega,by have:=hz' h;omega⟩
theorem n241_0 (hL:LN D) (x0 x1 x2 x3:Int) (x4:List Int) (x5 x6:Int) (x7:Bool) (x11:List Int) (h11:∀x∈x11,Nf D x) (h2:Nf D x2) :
 Pf (C144_c0 (x0,x1,x2,x3,x4,x5,x6,x7,T,A,B,x11,())) (Sum.elim (fun y=>128≤x2∧∃o:List Int,(∀x∈o,Nf D x)∧y=(x0,x1,x4,x5,x6,T,A,B,o,())) (fun y=>y=(x0,x1,x2,x3,x4,x5,x6,T,A,B,x11,()))):=by
 show Pf (F144_c0 C175 C179 _) _;unfold F144_c0;dsimp only;refine pX (fun _ => ?_) (fun _=>pP rfl);refine pX (fun hc => ?_) (fun _=>pN);have hm:x11.getD x0.toNat 0∈x11:=by rw [getD_lt (by omega)];exact List.getElem_mem _
 refine pZ (n280 hL _ _ (h11 _ hm) h2) ?_;rintro ⟨a,b,u⟩ hab;dsimp only at hab ⊢;refine pX (fun h1 => ?_) (fun _=>pP rfl);refine pX (fun _ => ?_) (fun _=>pN);refine pP ⟨(hab h1).2,_,fun x hx => ?_,rfl⟩;rcases List.mem_or_eq_of_mem_set hx with hx|rfl
 · exact h11 x hx
 · exact (hab h1).1
theorem n241 (hL:LN D) (l:List Int) (hl:l.length≤10000000000000) (h:∀x∈l,Nf D x):Pf (C144 (T,A,B,l,())) (fun y=>(∀x∈y.1,Nf D x)∧((∀x∈l,x<128)→y.1=l)):=by
 show Pf (F144 C175 C179 C144_l0 _) _;unfold F144;dsimp only;refine pZ (P:=fun y=>(∀x∈y.1,Nf D x)∧((∀x∈l,x<128)→y.1=l)) ?_ (fun _ h=>pP h);refine pL ?I ?h _ ?hv
 case I=>exact (fun v=>∃(st la:Int) (k:Nat) (o:List Int),k≤l.length∧(∀x∈o,Nf D x)∧((∀x∈l,x<128)→o=l.take k)∧v=(st,la,l,(l.length:Int),(k:Int),T,A,B,o,()))
 case hv=>exact ⟨-1,0,0,[],Nat.zero_le _,fun x hx=>(by cases hx),fun _=>rfl,rfl⟩
 rintro v ⟨st,la,k,o,hk,ho,hx,rfl⟩;have fin:∀(cl:Int) (f:Bool),k<l.length→Pf ((C144_c0 (st,la,l.getD k 0,cl,l,(l.length:Int),(k:Int),f,T,A,B,o,())).bind fun val =>
  Sum.elim (fun val=>some (Sum.inl (val.fst,val.snd.fst,val.snd.snd.fst,val.snd.snd.snd.fst,IntKind.i64.wrap (val.snd.snd.snd.snd.fst+1),val.snd.snd.snd.snd.snd.fst,val.snd.snd.snd.snd.snd.snd.fst,val.snd.snd.snd.snd.snd.snd.snd.fst,val.snd.snd.snd.snd.snd.snd.snd.snd.fst,())))
   (fun val=>bif decide (List.length val.snd.snd.snd.snd.snd.snd.snd.snd.snd.snd.fst+[val.snd.snd.fst].length≤140737488355328/4) then
    bif val.snd.snd.snd.fst==0 then some (Sum.inl (IntKind.i64.wrap ((↑(val.snd.snd.snd.snd.snd.snd.snd.snd.snd.snd.fst++[val.snd.snd.fst]).length:Int)-1),0,val.snd.snd.snd.snd.fst,val.snd.snd.snd.snd.snd.fst,IntKind.i64.wrap (val.snd.snd.snd.snd.snd.snd.fst+1),val.snd.snd.snd.snd.snd.snd.snd.fst,val.snd.snd.snd.snd.snd.snd.snd.snd.fst,val.snd.snd.snd.snd.snd.snd.snd.snd.snd.fst,val.snd.snd.snd.snd.snd.snd.snd.snd.snd.snd.fst++[val.snd.snd.fst],()))
    else some (Sum.inl (val.fst,if val.snd.snd.snd.fst>val.snd.fst then val.snd.snd.snd.fst else val.snd.fst,val.snd.snd.snd.snd.fst,val.snd.snd.snd.snd.snd.fst,IntKind.i64.wrap (val.snd.snd.snd.snd.snd.snd.fst+1),val.snd.snd.snd.snd.snd.snd.snd.fst,val.snd.snd.snd.snd.snd.snd.snd.snd.fst,val.snd.snd.snd.snd.snd.snd.snd.snd.snd.fst,val.snd.snd.snd.snd.snd.snd.snd.snd.snd.snd.fst++[val.snd.snd.fst],()))
    else none) val)
  (Sum.elim (fun v':Int×Int×List Int×Int×Int×List R6×List R4×List R3×List Int×Unit=>∃(st la:Int) (k:Nat) (o:List Int),k≤l.length∧(∀x∈o,Nf D x)∧((∀x∈l,x<128)→o=l.take k)∧v'=(st,la,l,(l.length:Int),(k:Int),T,A,B,o,())) (fun y:List Int×Unit=>(∀x∈y.1,Nf D x)∧((∀x∈l,x<128)→y.1=l))):=by
  intro cl f hlt;have hm:l.getD k 0∈l:=by rw [getD_lt hlt];exact List.getElem_mem _
  refine pZ (n241_0 hL _ _ _ _ _ _ _ _ o ho (h _ hm)) ?_;intro z hz;refine pS hz ?_ ?_
  · rintro y ⟨h3,o',h4,rfl⟩
    dsimp only;rw [wrN k (by omega)];exact pP ⟨_,_,k+1,o',by omega,h4,fun ha=>by have:=ha _ hm;omega,rfl⟩
  · rintro y rfl
    dsimp only;rw [wrN k (by omega)];have ho':∀x∈o++[l.getD k 0],Nf D x:=fun x hx=>(List.mem_append.1 hx).elim (ho x) fun hx=>by rw [List.mem_singleton.1 hx];exact h _ hm
    have hx':(∀x∈l,x<128)→o++[l.getD k 0]=l.take (k+1):=fun ha=>by rw [hx ha,take_succ_get hlt,getD_lt hlt]
    with_reducible repeat' (first|exact pN|apply pP|apply pX<;>intro _)
    · exact ⟨_,_,k+1,_,by omega,ho',hx',rfl⟩
    · exact ⟨_,_,k+1,_,by omega,ho',hx',rfl⟩
 unfold F144_l0;dsimp only;simp only [Int.toNat_natCast];with_reducible repeat' (first|exact pN|apply pP|apply pX<;>intro _)
 · rename_i h4 h5
   refine pZ pT ?_;rintro ⟨cl,u⟩ -
   dsimp only;with_reducible repeat' (first|exact pN|apply pP|apply pX<;>intro _)
   all_goals exact fin _ _ (by omega)
 · have:k=l.length:=by omega
   subst this;rw [List.take_length] at hx;exact ⟨ho,hx⟩
end
def syl (r:Int):List Int:=if (r-44032)%28>0 then [4352+(r-44032)/588,4449+(r-44032)/28%21,4519+(r-44032)%28] else [4352+(r-44032)/588,4449+(r-44032)/28%21]
def oneF:Nat→Int→List Int
 | 0,r=>[r]
 | n+1,r=>if 44032≤r∧r<55204 then syl r else if 65281≤r∧r≤65374 then [r] else match splitD r with
  | none=>[r]
  | some s=>if s.2.2.2.1=true then [r] else if s.2.2.1=0 then oneF n s.2.1 else oneF n s.2.1++oneF n s.2.2.1
def on1 (r:Int):List Int:=oneF 5 r
structure SpF (s:Int×Int×Int×Bool×Bool):Prop where
 own:splitD s.1=some s
 han:¬(44032≤s.1∧s.1<55204)
 wid:¬(65281≤s.1∧s.1≤65374)
 jam:¬(4352≤s.1∧s.1<4608)
 eq:s.2.2.2.1=false→on1 s.1=if s.2.2.1=0 then on1 s.2.1 else on1 s.2.1++on1 s.2.2.1
 irr:s.2.2.2.1=false→∀e∈on1 s.1,on1 e=[e]
 pair:s.2.2.2.1=false→s.2.2.2.2=false→on1 s.1=on1 s.2.1++on1 s.2.2.1
section
variable {T:List R6} {A:List R4} {B:List R3}
def Jn (cl:Int→Int) (st la:Int) (p o:List Int):Prop :=
 Al cl (o.flatMap on1) p∧(st<0∨∃(o1:List Int) (s:Int) (M:List Int),o=o1++s::M∧st=o1.length∧0≤la∧∀m∈M,on1 m=[m]∧0<cl m∧cl m≤la)
theorem flat_irr:∀{M:List Int},(∀m∈M,on1 m=[m])→M.flatMap on1=M
 | [],_=>rfl
 | m::M,h=>by rw [List.flatMap_cons,h m List.mem_cons_self,flat_irr fun x hx=>h x (List.mem_cons_of_mem _ hx)];rfl
theorem Jn.put {cl:Int→Int} {st la:Int} {p o:List Int} (h0:∀x,0≤cl x) (h:Jn cl st la p o) {r x:Int} (hr:on1 r=[r]) (hst:0≤st) (hc:la<cl r∨st=(o.length:Int)-1) (hx:on1 x=on1 (o.getD st.toNat 0)++on1 r):Jn cl st la (p++[r]) (o.set st.toNat x):=by
 obtain ⟨h1,h2⟩:=h;rcases h2 with h2|⟨o1,s,M,rfl,rfl,hla,hM⟩
 · omega
 · have e1:((o1++s::M:List Int)).getD ((o1.length:Int)).toNat 0=s:=by
    rw [Int.toNat_natCast,getD_lt (by simp),List.getElem_append_right (Nat.le_refl _)];simp
   have e2:(o1++s::M).set ((o1.length:Int)).toNat x=o1++x::M:=by
    rw [Int.toNat_natCast,List.set_append_right _ _ (Nat.le_refl _)];simp
   rw [e1] at hx;rw [e2];refine ⟨?_,.inr ⟨o1,x,M,rfl,rfl,hla,hM⟩⟩;have eM:=flat_irr fun m hm=>(hM m hm).1;rw [List.flatMap_append,List.flatMap_cons,eM] at h1 ⊢;rw [hx,hr];refine Al.trans ?_ (Al.app h1 Al.refl);rw [List.append_assoc,List.append_assoc,List.append_assoc];refine Al.app Al.refl (Al.app Al.refl ?_);cases M with
   | nil=>exact Al.refl
   | cons m M =>
    have hlt:la<cl r:=by
     rcases hc with hc|hc
     · exact hc
     · simp only [List.length_append,List.length_cons] at hc;omega
    exact Al.past (by omega) fun y hy=>by have:=hM y hy;omega
theorem Jn.add {cl:Int→Int} {st la:Int} {p o:List Int} (h:Jn cl st la p o) {r:Int} (hr:on1 r=[r]) (hc:0<cl r):Jn cl st (if cl r>la then cl r else la) (p++[r]) (o++[r]):=by
 obtain ⟨h1,h2⟩:=h;refine ⟨by rw [List.flatMap_append,List.flatMap_singleton,hr];exact Al.app h1 Al.refl,?_⟩;rcases h2 with h2|⟨o1,s,M,rfl,hst,hla,hM⟩
 · exact .inl h2
 · refine .inr ⟨o1,s,M++[r],by simp,hst,by split<;>omega,fun m hm => ?_⟩
   rcases List.mem_append.1 hm with hm|hm
   · have:=hM m hm
     refine ⟨this.1,this.2.1,?_⟩;split<;>omega
   · rw [List.mem_singleton.1 hm]
     refine ⟨hr,hc,?_⟩;split<;>omega
theorem Jn.start {cl:Int→Int} {st la:Int} {p o:List Int} (h:Jn cl st la p o) {r:Int} (hr:on1 r=[r]):Jn cl ((((o++[r]).length:Nat):Int)-1) 0 (p++[r]) (o++[r]):=by
 obtain ⟨h1,-⟩:=h;refine ⟨by rw [List.flatMap_append,List.flatMap_singleton,hr];exact Al.app h1 Al.refl,.inr ⟨o,r,[],rfl,by simp,Int.le_refl _,fun m hm=>by cases hm⟩⟩
end
theorem decR_low' {s:List UInt8} {p:Nat} (h:p<s.length) (hc:s[p].toNat<128):decR s p=(s[p].toNat,1):=by
 have e:((⟨⟨s⟩⟩:ByteArray).get! (p+0))=s[p]:=by
  show (⟨s⟩:Array UInt8)[p+0]! = _;rw [Nat.add_zero,getElem!_pos _ _ (by simpa using h)];simp
 simp only [decR,Utf8.decode,e];rw [if_pos hc]
theorem c21n (s:List UInt8) (hb:s.length≤1000000000000000):Pf (C12 (s,())) (fun y=>y.1<0→∀c∈s,c.toNat<128):=pM (d21 s hb).pf fun _ h=>h.2
theorem p268_k:((List.range 128).all fun n => !kk (n:Int)||(match C208 ((n:Int),()) with|some (b,_)=>b|none=>false))=true:=by kernel_rfl
theorem c268k {x:Int} (hk:kk x=true):Pf (C208 (x,())) (fun y=>y.1=true):=by
 have h:=(kk_iff x).1 hk;have h1:=List.all_eq_true.1 p268_k x.toNat (List.mem_range.2 (by omega))
 rw [show ((x.toNat:Nat):Int)=x by omega,hk] at h1;intro y hy;rw [hy] at h1;simpa using h1
theorem p156 (s:List UInt8) (hs:s.length≤1000000000000000) (ha:∀c∈s,c.toNat<128) (hk:∃x∈bi s,kk x=true):Pf (C99 (s,true,())) (fun y=>0≤y.1):=by
 unfold C99 F99;dsimp only;refine pZ (P:=Sum.elim (fun y=>0≤y.1) (fun _=>False)) ?_ ?_
 · refine pL ?I ?h _ ?hv
   case I=>exact (fun v=>∃p:Nat,v=(true,(s,(p:Int)),())∧∀x∈bi (s.take p),kk x=false)
   case hv=>exact ⟨0,rfl,fun x hx=>by cases hx⟩
   rintro v ⟨p,rfl,h1⟩;unfold F99_l0;dsimp only;simp only [Int.toNat_natCast];with_reducible repeat' (first|exact pN|apply pP|apply pX<;>intro _)
   · rename_i hp
     rw [decR_low' hp (ha _ (List.getElem_mem hp))];dsimp only;have hnk:kk ((s[p].toNat:Nat):Int)=true→Pf (C208 (((s[p].toNat:Nat):Int),())) (fun y=>y.1=true):=c268k;refine pZ (P:=fun y=>kk ((s[p].toNat:Nat):Int)=true→y.1=true) (fun y e hk=>hnk hk y e) ?_;rintro ⟨b,u⟩ hb;dsimp only at hb ⊢;cases b with
     | true=>exact pP (by show (0:Int)≤(p:Int);omega)
     | false =>
      refine pP ⟨p+1,rfl,fun x hx => ?_⟩;rw [take_succ_get hp,bi_app] at hx;rcases List.mem_append.1 hx with hx|hx
      · exact h1 x hx
      · have hx':x=((s[p].toNat:Nat):Int):=by simpa [bi] using hx
        subst hx';cases hkx:kk ((s[p].toNat:Nat):Int) with
        | false=>rfl
        | true=>have:=hb hkx;cases this
   · rename_i hp
     obtain ⟨x,hx,hxk⟩:=hk;rw [List.take_of_length_le (by omega)] at h1;rw [h1 x hx] at hxk;cases hxk
 · intro z hz
   refine pS hz ?_ ?_
   · rintro ⟨a,u⟩ h
     exact pP h
   · intro u h
     exact h.elim
theorem p84 (s:List UInt8) (hs:s.length≤1000000000000000) (ha:∀c∈s,c.toNat<128) (hk:∃x∈bi s,kk x=true):Pf (C35 (s,())) (fun y=>y.1=true):=by
 unfold C35 F35;dsimp only;refine pZ (P:=fun y=>0≤y.1) ?_ ?_
 · unfold C65 F65
   dsimp only;exact pZ (p156 s hs ha hk) fun _ h=>pP h
 · rintro ⟨a,u⟩ h
   refine pP ?_;dsimp only at h ⊢;exact decide_eq_true h
theorem p225 (s:List UInt8) (hs:s.length≤1000000000000000) (ha:∀c∈s,c.toNat<128) (hk:s=[]∨∃x∈bi s,kk x=true):Pf (C159 (s,())) (fun y=>y.1≠0):=by
 rcases hk with rfl|hk
 · have e:C159 ([],())=some (13,()):=by kernel_rfl
   rw [e];exact pP (by decide)
 unfold C159 F159;dsimp only;refine pZ (P:=fun y=>y.1≠0) ?_ (fun _ h=>pP h);unfold C193v1 F193v1;dsimp only;refine pZ (P:=fun y=>y.2.1=s) (pP rfl) ?_;rintro ⟨b,s1,u⟩ h1;dsimp only at h1 ⊢;subst h1;with_reducible repeat' (first|exact pN|apply pP|apply pX<;>intro _)
 · exact (by decide:(13:Int)≠0)
 · refine pZ (P:=fun y=>y.2.1=s1) (pP rfl) ?_
   rintro ⟨b,s2,u⟩ h2;dsimp only at h2 ⊢;subst h2;with_reducible repeat' (first|exact pN|apply pP|apply pX<;>intro _)
   · exact (by decide:(5:Int)≠0)
   · refine pZ (P:=fun y=>y.1=true∧y.2.1=s2) ?_ ?_
     · unfold C207 F207
       dsimp only;refine pZ (p84 s2 hs ha hk) ?_;intro y hy;exact pP ⟨hy,rfl⟩
     rintro ⟨b,s3,u⟩ ⟨h3,h4⟩;dsimp only at h3 h4 ⊢;subst h3 h4;exact pP (by decide:(8:Int)≠0)
section
variable {T:List R6} {A:List R4} {B:List R3}
theorem p242_k:((List.range 128).all fun n=>match C117 ((n:Int),()) with|some (.inr (.inr (.inr (.inr (.inr (.inr (.inr (.inr _))))))))=>true|_=>false)=true:=by kernel_rfl
theorem c214k {x:Int} (h0:0≤x) (h1:x<128):C117 (x,())=some (.inr (.inr (.inr (.inr (.inr (.inr (.inr (.inr ())))))))):=by
 have h:=List.all_eq_true.1 p242_k x.toNat (List.mem_range.2 (by omega))
 rw [show ((x.toNat:Nat):Int)=x by omega] at h;revert h;cases hc:C117 (x,()) with
 | none=>intro h;cases h
 | some z =>
  rcases z with z|z|z|z|z|z|z|z|z;all_goals intro h;first|rfl|cases h
theorem p183 (l:List Int) (p:Int) (hk:kk (l.getD p.toNat 0)=true):Pf (C87 (T,A,B,l,p,())) (fun y=>y.1=0):=by
 have h:=(kk_iff _).1 hk;show Pf (F87 C117 C146 C149 C181 C182 C183 C184 C185 C186 _) _;unfold F87;dsimp only;with_reducible repeat' (first|exact pN|apply pP|apply pX<;>intro _)
 · exact rfl
 · exact rfl
 · rw [c214k h.1 h.2.1]
   exact pP rfl
theorem p261 (hK:KT T A B) (l:List Int) (hl:l.length≤1000000000000) (hk:∃x∈l,kk x=true):Pf (C201 (T,A,B,l,())) (fun y=>y.1=true):=by
 show Pf (F201 C120 C87 C201_l0 _) _;unfold F201;dsimp only;refine pZ (P:=Sum.elim (fun _=>False) (fun y=>y.1=true)) ?_ ?_
 · refine pL ?I ?h _ ?hv
   case I=>exact (fun v=>∃k:Int,0≤k∧k≤l.length∧(∀x∈l.take k.toNat,kk x=false)∧v=(l,l,(l.length:Int),k,T,A,B,()))
   case hv=>exact ⟨0,Int.le_refl _,by omega,fun x hx=>(by cases hx),rfl⟩
   rintro v ⟨k,h0,h1,h2,rfl⟩;unfold F201_l0;dsimp only;with_reducible repeat' (first|exact pN|apply pP|apply pX<;>intro _)
   · have hlt:k.toNat<l.length:=by omega
     refine pZ (P:=fun y=>kk (l.getD k.toNat 0)=true→y.1=0) (fun y e hk=>p183 l k hk y e) ?_;rintro ⟨b,u⟩ hb;dsimp only at hb ⊢;have fin:kk (l.getD k.toNat 0)=false→∃k':Int,0≤k'∧k'≤l.length∧(∀x∈l.take k'.toNat,kk x=false)∧(l,l,(l.length:Int),IntKind.i64.wrap (k+1),T,A,B,())=(l,l,(l.length:Int),k',T,A,B,()):=by
      intro hn;rw [w64s (n:=k+1) (by omega)];refine ⟨_,by omega,by omega,fun x hx => ?_,rfl⟩;rw [show (k+1).toNat=k.toNat+1 by omega,take_succ_get hlt] at hx;rcases List.mem_append.1 hx with hx|hx
      · exact h2 x hx
      · rw [List.mem_singleton] at hx
        rw [getD_lt hlt] at hn;subst hx;exact hn
     with_reducible repeat' (first|exact pN|apply pP|apply pX<;>intro _)
     · exact rfl
     · refine pZ (P:=fun y=>kk (l.getD k.toNat 0)=true→y.1=false) (fun y e hk=>by rw [hK.ca _ hk] at e;cases e;rfl) ?_
       rintro ⟨c,u⟩ hc;dsimp only at hc ⊢;with_reducible repeat' (first|exact pN|apply pP|apply pX<;>intro _)
       · exact rfl
       · rename_i hct
         refine fin ?_;cases hkx:kk (l.getD k.toNat 0) with
         | false=>rfl
         | true=>rw [hc hkx] at hct;cases hct
     · rename_i hb1 hb2
       refine fin ?_;cases hkx:kk (l.getD k.toNat 0) with
       | false=>rfl
       | true=>exact (hb2 (hb hkx)).elim
   · obtain ⟨x,hx,hxk⟩:=hk
     rw [List.take_of_length_le (by omega)] at h2;rw [h2 x hx] at hxk;cases hxk
 · intro z hz
   refine pS hz ?_ ?_
   · intro u h
     exact h.elim
   · rintro ⟨b,u⟩ h
     exact pP h
theorem p255 (s:List UInt8):Pf (C195 (s,T,A,B,())) (fun y=>y.2=(s,T,A,B,())):=by
 unfold C195 F195;dsimp only;refine pZ pT ?_;rintro ⟨x,u⟩ -
 dsimp only;with_reducible repeat' (first|exact pN|apply pP|apply pX<;>intro _)
 · exact rfl
 · exact pZ pT fun _ _=>pP rfl
theorem p257 (a:List UInt8):Pf (C197 (a,())) (fun y=>y.2.1=a):=by
 unfold C197 F197;dsimp only;exact pZ pT fun _ _=>pP rfl
theorem p259 (l:List Int):Pf (C199 (T,A,B,l,())) (fun y=>y.2=(T,A,B,l,())):=by
 unfold C199 F199;dsimp only;with_reducible repeat' (first|exact pN|apply pP|apply pX<;>intro _)
 exact pZ pT fun _ _=>pP rfl
theorem p260 (hK:KT T A B) (l:List Int) (hl:l.length≤1000000000000) (hk:∃x∈l,kk x=true):Pf (C200 (T,A,B,l,())) (fun y=>y.1=true):=by
 unfold C200 F200;dsimp only;exact pZ (p261 hK l hl hk) fun _ h=>pP h
theorem p253 (hK:KT T A B) (at_:Int) (s:List UInt8) (l:List Int) (c:List UInt8) (d:Bool) (hl:l.length≤100000000000) (h0:at_<0→∃x∈l,kk x=true) :
 Pf (C193 (7,4,11,10,8,9,12,5,at_,s,T,A,B,l,c,d,())) (fun y=>y.1≠0):=by
 unfold C193 F193;dsimp only;refine pZ (P:=fun y=>y.1=false→at_<0) (pP fun h=>by
  have h':decide (at_≥0)=false:=h;simp only [decide_eq_false_iff_not] at h';omega) ?_
 rintro ⟨b,at',u⟩ hb;dsimp only at hb ⊢;with_reducible repeat' (first|exact pN|apply pP|apply pX<;>intro _)
 · exact (by decide:(7:Int)≠0)
 · rename_i h1
   have hk:=h0 (hb h1);refine pZ (p255 s) ?_;rintro ⟨b2,y⟩ hy;dsimp only at hy;subst hy;dsimp only;with_reducible repeat' (first|exact pN|apply pP|apply pX<;>intro _)
   · exact (by decide:(4:Int)≠0)
   · refine pZ (p257 s) ?_
     rintro ⟨b3,s',u⟩ hs';dsimp only at hs' ⊢;with_reducible repeat' (first|exact pN|apply pP|apply pX<;>intro _)
     · exact (by decide:(11:Int)≠0)
     · refine pZ (p259 l) ?_
       rintro ⟨b4,y⟩ hy;dsimp only at hy;subst hy;dsimp only;with_reducible repeat' (first|exact pN|apply pP|apply pX<;>intro _)
       · exact (by decide:(10:Int)≠0)
       · refine pZ (p260 hK l (by omega) hk) ?_
         rintro ⟨b5,y⟩ hy;dsimp only at hy;subst hy;exact pP (by decide:(8:Int)≠0)
theorem p224 (hK:KT T A B) (s:List UInt8) (hs:s.length≤100000000000) (hk:∃x∈bi s,kk x=true):Pf (C158 (T,A,B,s,())) (fun y=>y.1≠0):=by
 unfold C158 F158;dsimp only;refine pZ (pA (d83 s (by omega)).pf (p83 s (by omega))) ?_;rintro ⟨l,at_,u⟩ ⟨hl,hl'⟩;dsimp only at hl hl' ⊢;refine pZ (p253 hK at_ s l _ _ (by omega) fun h=>(hl' h).mem hk) ?_;rintro ⟨e,y⟩ h;exact pP h
theorem p294_k:((List.range 256).all fun n=>match C237 ((n:Int),()) with|some (_,b,_) => !b || !kk (n:Int)|none=>true)=true:=by kernel_rfl
theorem p294 (c:UInt8):Pf (C237 ((c.toNat:Int),())) (fun y=>y.2.1=true→kk (c.toNat:Int)=false):=by
 have h:=List.all_eq_true.1 p294_k c.toNat (List.mem_range.2 c.toNat_lt)
 intro y hy hb;rw [hy] at h;obtain ⟨a,b,u⟩:=y;dsimp only at h hb;rw [hb] at h;simpa using h
theorem p271 (s:List UInt8) (b:Int) (hs:s.length≤1000000000000):Pf (C211 (s,b,())) (fun y=>(∃x∈bi s,kk x=true)→y.1<0∨∃x∈bi y.2.1,kk x=true):=by
 unfold C211 F211;dsimp only;refine pZ (P:=Sum.elim (fun _=>True) (Sum.elim (fun _=>True) (fun y=>∃k:Nat,y.2.1=s.drop k∧∀x∈bi (s.take k),kk x=false))) ?_ ?_
 · refine pL ?I ?h _ ?hv
   case I=>exact (fun v=>∃(n w k:Int),0≤k∧k≤s.length∧(∀x∈bi (s.take k.toNat),kk x=false)∧v=(s,b,n,w,(s.length:Int),k,()))
   case hv=>exact ⟨_,_,0,Int.le_refl _,by omega,fun x hx=>(by cases hx),rfl⟩
   rintro v ⟨n,w,k,h0,h1,h2,rfl⟩;unfold F211_l0;dsimp only;with_reducible repeat' (first|exact pN|apply pP|apply pX<;>intro _)
   · have hlt:k.toNat<s.length:=by omega
     refine pZ (p294 _) ?_;rintro ⟨d,ok,u⟩ hd;dsimp only at hd ⊢;have hst:ok=true→∀x∈bi (s.take (k.toNat+1)),kk x=false:=by
      intro hok x hx;rw [take_succ_get hlt,bi_app] at hx;rcases List.mem_append.1 hx with hx|hx
      · exact h2 x hx
      · have hx':x=((s[k.toNat].toNat:Nat):Int):=by simpa [bi] using hx
        have:=hd hok;rw [getD_lt hlt] at this;subst hx';exact this
     rw [w64s (n:=k+1) (by omega)];with_reducible repeat' (first|exact pN|apply pP|apply pX<;>intro _)
     · trivial
     · trivial
     · trivial
     · rename_i h3 h4 h5
       refine pZ pT ?_;rintro ⟨t,u⟩ -
       dsimp only;have hst':=hst h3;rw [show k.toNat+1=(k+1).toNat by omega] at hst';with_reducible repeat' (first|exact pN|apply pP|apply pX<;>intro _)
       · exact ⟨_,rfl,hst'⟩
       · exact ⟨_,_,_,by omega,by omega,hst',rfl⟩
   · trivial
 · intro z hz
   refine pS hz ?_ ?_
   · intro u _
     exact pP fun _ => .inl (by decide)
   · intro z2 hz2
     refine pS hz2 ?_ ?_
     · intro u _
       refine pZ (P:=fun y=>y.1<0) ?_ ?_
       · refine pL ?I ?h _ ?hv
         case I=>exact (fun _=>True)
         case hv=>exact trivial
         intro v _;unfold F211_g0;exact pP (by decide:(-1:Int)<0)
       · rintro ⟨a,b,u⟩ h
         exact pP fun _ => .inl h
     · rintro ⟨a,b,u⟩ ⟨k,hk,hn⟩
       dsimp only at hk;subst hk;refine pP ?_;rintro ⟨x,hx,hxk⟩;rw [←List.take_append_drop k s,bi_app] at hx;rcases List.mem_append.1 hx with hx|hx
       · rw [hn x hx] at hxk;cases hxk
       · exact .inr ⟨x,hx,hxk⟩
theorem p272 (i:Int) (l v:List Int):Pf (C212 (i,l,v,())) (fun y=>∀z∈l,z∈y.1):=by
 unfold C212;dsimp only;cases h:((decide (0≤i)&&decide (i≤(l.length:Int)))&&(decide (v.length=1)&&decide (l.length≤1000000000000))) with
 | false=>exact pN
 | true =>
  refine pP fun z hz => ?_;rw [←List.take_append_drop i.toNat l] at hz;simp only [List.mem_append] at hz ⊢;rcases hz with hz|hz
  · exact .inl (.inl hz)
  · exact .inr hz
theorem p226_0 (s:List UInt8) (out:List Int) (hs:s.length≤1000000000000) (h:(∃x∈bi s,kk x=true)∨∃x∈out,kk x=true):Pf (C160_c0 (s,out,())) (fun y=>y.1=true→∃x∈y.2.1,kk x=true):=by
 unfold C160_c0 F160_c0;dsimp only;refine pZ (P:=Sum.elim (fun y=>∃x∈y.1,kk x=true) (fun y=>y.1=false)) ?_ ?_
 · refine pL ?I ?h _ ?hv
   case I=>exact (fun v=>∃(s:List UInt8) (a b c:Int) (d:Bool) (out:List Int),s.length≤1000000000000∧((∃x∈bi s,kk x=true)∨∃x∈out,kk x=true)∧v=(s,a,b,c,d,out,()))
   case hv=>exact ⟨_,_,_,_,_,_,hs,h,rfl⟩
   rintro v ⟨s,a,b,c,d,out,hs,h,rfl⟩;unfold F160_l0;dsimp only;with_reducible repeat' (first|exact pN|apply pP|apply pX<;>intro _)
   · refine pZ (pA (d271 s c hs).pf (p271 s c hs)) ?_
     rintro ⟨n,rest,u⟩ ⟨hd,hr⟩;dsimp only at hd hr ⊢;with_reducible repeat' (first|exact pN|apply pP|apply pX<;>intro _)
     · exact rfl
     · exact rfl
     · rename_i hneg _
       refine pZ pT ?_;rintro ⟨z,u⟩ -
       dsimp only;with_reducible repeat' (first|exact pN|apply pP|apply pX<;>intro _)
       · exact rfl
       · refine pZ pT ?_
         rintro ⟨ok,u⟩ -
         dsimp only;with_reducible repeat' (first|exact pN|apply pP|apply pX<;>intro _)
         · exact rfl
         · refine pZ (p272 _ _ _) ?_
           rintro ⟨o2,u⟩ ho;dsimp only at ho ⊢;refine pP ⟨_,_,_,_,_,_,by omega,?_,rfl⟩;rcases h with h|⟨x,hx,hxk⟩
           · exact .inl ((hr h).resolve_left hneg)
           · exact .inr ⟨x,ho x hx,hxk⟩
   · rename_i he
     rcases h with ⟨x,hx,hxk⟩|h
     · have:s=[]:=by simpa using he
       subst this;cases hx
     · exact h
 · intro z hz
   refine pS hz ?_ ?_
   · rintro ⟨a,u⟩ ha
     exact pP fun _=>ha
   · rintro ⟨a,u⟩ ha
     dsimp only at ha;exact pP fun h=>by rw [ha] at h;cases h
theorem p270 (s:List UInt8) (c:Int):Pf (C210 (s,c,())) (fun y=>0≤y.1→y.1<s.length∧((s.getD y.1.toNat 0).toNat:Int)=c):=by
 unfold C210 F210;dsimp only;refine pZ (P:=fun y=>0≤y.1→y.1<s.length∧((s.getD y.1.toNat 0).toNat:Int)=c) ?_ (fun _ h=>pP h);unfold C236 F236;dsimp only;refine pZ (P:=Sum.elim (fun _=>True) (fun y=>0≤y.1→y.1<s.length∧((s.getD y.1.toNat 0).toNat:Int)=c)) ?_ ?_
 · refine pL ?I ?h _ ?hv
   case I=>exact (fun v=>∃k:Int,v=(s,c,k,()))
   case hv=>exact ⟨_,rfl⟩
   rintro v ⟨k,rfl⟩;unfold F236_l0;dsimp only;with_reducible repeat' (first|exact pN|apply pP|apply pX<;>intro _)
   · rename_i h1 h2 h3
     exact fun _=>⟨by omega,h3⟩
   · exact ⟨_,rfl⟩
   · trivial
 · intro z hz
   refine pS hz ?_ ?_
   · intro u _
     exact pP fun h=>by cases h
   · rintro ⟨a,u⟩ h
     exact pP h
theorem p226 (s:List UInt8) (hs:s.length≤1000000000000) (h:∃x∈bi s,kk x=true):Pf (C160 (s,())) (fun y=>y.2.1=true→∃x∈y.1,kk x=true):=by
 unfold C160 F160;dsimp only;refine pZ pT ?_;rintro ⟨e,u⟩ -
 dsimp only;with_reducible repeat' (first|exact pN|apply pP|apply pX<;>intro _)
 · exact fun h=>by cases h
 · refine pZ (p270 s 45) ?_
   rintro ⟨k,u⟩ hk;dsimp only at hk ⊢;refine pX (fun hpos => ?_) (fun _ => ?_)
   · have hk':=hk (by omega)
     have hlt:k.toNat<s.length:=by omega
     rw [w64s (n:=k+1) (by omega)];with_reducible repeat' (first|exact pN|apply pP|apply pX<;>intro _)
     have hsplit:(∃x∈bi (s.drop (k+1).toNat),kk x=true)∨∃x∈List.map (fun b:UInt8=>(b.toNat:Int)) (List.take k.toNat s),kk x=true:=by
      obtain ⟨x,hx,hxk⟩:=h;rw [←List.take_append_drop (k+1).toNat s,bi_app,show (k+1).toNat=k.toNat+1 by omega,take_succ_get hlt,bi_app] at hx;rcases List.mem_append.1 hx with hx|hx
      · rcases List.mem_append.1 hx with hx|hx
        · exact .inr ⟨x,hx,hxk⟩
        · have hx':x=((s[k.toNat].toNat:Nat):Int):=by simpa [bi] using hx
          have h2:=hk'.2;rw [getD_lt hlt] at h2;rw [hx',h2] at hxk;cases hxk
      · exact .inl ⟨x,by rw [show (k+1).toNat=k.toNat+1 by omega];exact hx,hxk⟩
     refine pZ (p226_0 _ _ (by simp only [List.length_drop];omega) hsplit) ?_;rintro ⟨a,b,u⟩ h;exact pP h
   · refine pZ (p226_0 _ _ hs (.inl h)) ?_
     rintro ⟨a,b,u⟩ h;exact pP h
theorem p132 (f x:List UInt8):Pf (C156 (f,x,())) (fun y=>y.2.1=true→f=x++y.1):=by
 unfold C156 F156;dsimp only;refine pZ (P:=fun y=>y.2.1=true→f=x++y.1) ?_ (fun _ h=>pP h);unfold C189 F189;dsimp only;refine pZ (P:=fun y=>y.1=true→f.take x.length=x) ?_ ?_
 · unfold C92 F92
   dsimp only;with_reducible repeat' (first|exact pN|apply pP|apply pX<;>intro _)
   · intro h
     have h':(List.take x.length f==x)=true:=h;exact eq_of_beq h'
   · exact fun h=>by cases h
 · rintro ⟨b,u⟩ hb
   dsimp only at hb ⊢;with_reducible repeat' (first|exact pN|apply pP|apply pX<;>intro _)
   · exact fun h=>by cases h
   · rename_i h1 h2
     intro _;have:=hb h1;conv=>lhs;rw [←List.take_append_drop x.length f,this]
     rfl
theorem p224n (s:List UInt8) (hK:KT T A B) (hs:s.length≤100000000000) (hk:s=[]∨∃x∈bi s,kk x=true):Pf (C158 (T,A,B,s,())) (fun y=>y.1≠0):=by
 rcases hk with rfl|hk
 · unfold C158 F158
   dsimp only;refine pZ pT ?_;rintro ⟨l,at_,u⟩ -
   dsimp only;refine pZ (P:=fun y=>y.1≠0) ?_ (fun _ h=>pP h);unfold C193 F193;dsimp only;refine pZ pT ?_;rintro ⟨b,at',u⟩ -
   dsimp only;with_reducible repeat' (first|exact pN|apply pP|apply pX<;>intro _)
   · exact (by decide:(7:Int)≠0)
   · refine pZ (P:=fun y=>y.1=true) ?_ ?_
     · unfold C195 F195
       dsimp only;have e:C12 ([],())=some (-1,()):=by kernel_rfl
       rw [e];exact pP rfl
     · rintro ⟨b,y⟩ hb
       dsimp only at hb;subst hb;exact pP (by decide:(4:Int)≠0)
 · exact p224 hK s hs hk
theorem p192 (h:TK T A B) (hK:KT T A B) (s:List UInt8) (hs:s.length≤6000000) (hk:s=[]∨∃x∈bi s,kk x=true):Pf (C127 (T,A,B,s,())) (fun y=>y.2.2.1≠0):=by
 unfold C127 F127;dsimp only;refine pZ (pA (d151 h s (by omega)).pf (p151 h hK s (by omega))) ?_;rintro ⟨f,ok,u⟩ ⟨hf,hf'⟩;dsimp only at hf hf' ⊢;refine pZ (pA (d132 f _).pf (p132 f _)) ?_;rintro ⟨rest,is,u⟩ ⟨hr,hr'⟩;dsimp only at hr hr' ⊢;with_reducible repeat' (first|exact pN|apply pP|apply pX<;>intro _)
 · exact (by decide:(7:Int)≠0)
 · rename_i hok
   have hfk:f=[]∨∃x∈bi f,kk x=true:=by
    rcases hk with rfl|hk
    · exact .inl (List.eq_nil_of_length_eq_zero (by simpa using hf))
    · exact (hf' hok).imp id fun hR=>hR.mem hk
   refine pZ (d21 f (by omega)).pf ?_;rintro ⟨e,u⟩ he;dsimp only at he ⊢;with_reducible repeat' (first|exact pN|apply pP|apply pX<;>intro _)
   · refine pZ pT ?_
     rintro ⟨l,at_,u⟩ -
     refine pZ pT ?_;rintro ⟨code,b,u⟩ -
     dsimp only;with_reducible repeat' (first|exact pN|apply pP|apply pX<;>intro _)
     refine pZ (p224n f hK (by omega) hfk) ?_;rintro ⟨w,u⟩ hw;exact pP hw
   · refine pZ (p225 f (by omega) (he.2 (by omega)) hfk) ?_
     rintro ⟨w,u⟩ hw;exact pP hw
   · rename_i h1 his
     have hfr:=hr' his;have hk2:∃x∈bi rest,kk x=true:=by
      rcases hfk with hf0|⟨x,hx,hxk⟩
      · rw [hf0] at hfr;cases hfr
      · rw [hfr,bi_app] at hx
        rcases List.mem_append.1 hx with hx|hx
        · have:∀x∈bi [120,110,45,45],kk x=false:=by decide
          rw [this x hx] at hxk;cases hxk
        · exact ⟨x,hx,hxk⟩
     refine pZ (pA (d226 rest (by omega)).pf (p226 rest (by omega) hk2)) ?_;rintro ⟨l,ok2,u⟩ ⟨hl,hl'⟩;dsimp only at hl hl' ⊢;with_reducible repeat' (first|exact pN|apply pP|apply pX<;>intro _)
     · exact (by decide:(12:Int)≠0)
     · exact (by decide:(5:Int)≠0)
     · rename_i hok2 _
       have hlk:=hl' hok2;refine pZ (pA (d178 l (by omega)).pf (p178 l (by omega))) ?_;rintro ⟨us,b,u⟩ ⟨hu,hu1,hu2⟩;dsimp only at hu hu1 hu2 ⊢;have huk:us=[]∨∃x∈bi us,kk x=true:=by
        cases b with
        | true=>exact .inr ((hu1 rfl).mem hlk)
        | false=>exact .inl (hu2 rfl)
       refine pZ (p224n us hK (by omega) huk) ?_;rintro ⟨w,u⟩ hw;dsimp only at hw ⊢;with_reducible repeat' (first|exact pN|apply pP|apply pX<;>intro _)
       · exact hw
       · rename_i hz
         exact (hw hz).elim
theorem p159 (h:TK T A B) (hK:KT T A B) (s:List UInt8) (hs:s.length≤6000000) (hk:s=[]∨∃x∈bi s,kk x=true):Pf (C95 (T,A,B,s,())) (fun y=>y.2.1≠0):=by
 unfold C95 F95;dsimp only;refine pZ (p192 h hK s hs hk) ?_;rintro ⟨a,b,e,u⟩ he;dsimp only at he ⊢;with_reducible repeat' (first|exact pN|apply pP|apply pX<;>intro _)
 · exact he
 · rename_i hz
   exact (he hz).elim
end
section
variable {T:List R6} {A:List R4} {B:List R3}
end
def ktB:Bool:=match C9 () with
 | some (T,A,B,_)=>(List.range 128).all fun n => !kk (n:Int)||((match C175 (T,A,B,(n:Int),()) with|some (c,_)=>c==0|none=>false)&&(match C114 (T,A,B,(n:Int),()) with|some (c,_)=>c==(n:Int)|none=>false)&&(match C120 (T,A,B,(n:Int),()) with|some (c,_) => !c|none=>false))
 | none=>false
theorem ktB_k:ktB=true:=by kernel_rfl
theorem kt {T A B} (h18:C9 ()=some (T,A,B,())):KT T A B:=by
 have h:=ktB_k;unfold ktB at h;rw [h18] at h;simp only [List.all_eq_true] at h;have key:∀x,kk x=true→(match C175 (T,A,B,x,()) with|some (c,_)=>c==0|none=>false)=true∧(match C114 (T,A,B,x,()) with|some (c,_)=>c==x|none=>false)=true∧(match C120 (T,A,B,x,()) with|some (c,_) => !c|none=>false)=true:=by
  intro x hx;have h1:=(kk_iff x).1 hx;have h2:=h x.toNat (List.mem_range.2 (by omega))
  rw [show ((x.toNat:Nat):Int)=x by omega,hx] at h2;simp only [Bool.not_true,Bool.false_or,Bool.and_eq_true] at h2;exact ⟨h2.1.1,h2.1.2,h2.2⟩
 refine ⟨fun x hx => ?_,fun x hx => ?_,fun x hx => ?_⟩
 · have:=(key x hx).1
   cases hc:C175 (T,A,B,x,()) with
   | none=>rw [hc] at this;cases this
   | some y =>
    obtain ⟨c,u⟩:=y;rw [hc] at this;have:c=0:=by simpa using this
    subst this;rfl
 · have:=(key x hx).2.1
   cases hc:C114 (T,A,B,x,()) with
   | none=>rw [hc] at this;cases this
   | some y =>
    obtain ⟨c,u⟩:=y;rw [hc] at this;have:c=x:=by simpa using this
    subst this;rfl
 · have:=(key x hx).2.2
   cases hc:C120 (T,A,B,x,()) with
   | none=>rw [hc] at this;cases this
   | some y =>
    obtain ⟨c,u⟩:=y;rw [hc] at this;have:c=false:=by simpa using this
    subst this;rfl
open Go.Pl (rl rr rr_le enc enc1 enc2 enc3 enc4 rightB rightB_iff lenE lenE1 lenE_cases b8 b8_val b8_of runes_of rl_rr rl_right rl_len badAt badAt_neg badAt_nil dec_nil)
theorem ex_of {α:Type} {x:Option α} {P:α→Prop} {c:α} (h:Df x P) (h':Pf x fun y=>y=c):x=some c:=by
 obtain ⟨y,e,-⟩:=h;rw [e,h' y e]
theorem enc_bytes {v:Int} (hr:rightB v=true) {c:UInt8} (hc:c∈enc v):((c.toNat:Int)=v∧v≤127)∨128≤c.toNat:=by
 rcases lenE_cases hr with ⟨h,h0,h1⟩|⟨h,h0,h1⟩|⟨h,h0,h1⟩|⟨h,h0,h1⟩
 · rw [enc1 h] at hc
   rw [List.mem_singleton.1 hc];exact .inl ⟨b8_val h0 (by omega),h1⟩
 · right
   rw [enc2 h] at hc;simp only [List.mem_cons,List.not_mem_nil,or_false] at hc;rcases hc with rfl|rfl
   · have:=b8_val (n:=192+v/64) (by omega) (by omega);omega
   · have:=b8_val (n:=128+v%64) (by omega) (by omega);omega
 · right
   rw [enc3 h] at hc;simp only [List.mem_cons,List.not_mem_nil,or_false] at hc;rcases hc with rfl|rfl|rfl
   · have:=b8_val (n:=224+v/4096) (by omega) (by omega);omega
   · have:=b8_val (n:=128+v/64%64) (by omega) (by omega);omega
   · have:=b8_val (n:=128+v%64) (by omega) (by omega);omega
 · right
   have hm:=(rightB_iff.1 hr).2.1;rw [enc4 h] at hc;simp only [List.mem_cons,List.not_mem_nil,or_false] at hc;rcases hc with rfl|rfl|rfl|rfl
   · have:=b8_val (n:=240+v/262144) (by omega) (by omega);omega
   · have:=b8_val (n:=128+v/4096%64) (by omega) (by omega);omega
   · have:=b8_val (n:=128+v/64%64) (by omega) (by omega);omega
   · have:=b8_val (n:=128+v%64) (by omega) (by omega);omega
def NS (B:List R3) (s:List UInt8):Prop:=∀c∈s,c.toNat<128→Nf B (c.toNat:Int)
theorem ns_flat {B:List R3} {l:List Int} (hn:∀x∈l,Nf B x) (hr:∀x∈l,rightB x=true):NS B (l.flatMap enc):=by
 intro c hc h128;obtain ⟨v,hv,hcv⟩:=List.mem_flatMap.1 hc;rcases enc_bytes (hr v hv) hcv with ⟨h,-⟩|h
 · rw [h];exact hn v hv
 · omega
theorem rl_flat {l:List Int} (hr:∀x∈l,rightB x=true):rl (l.flatMap enc)=l∧rr (l.flatMap enc)=[]:=by
 have:=runes_of l [] hr dec_nil;rw [List.append_nil] at this;exact this
theorem str_of {l:List Int} (hl:l.length≤1000000000):(∃x∈l,rightB x=false)∧C82 (l,())=some ([],false,())∨(∀x∈l,rightB x=true)∧C82 (l,())=some (l.flatMap enc,true,()):=by
 rw [c178 l hl,strE_all];cases h:l.all rightB with
 | true=>exact .inr ⟨List.all_eq_true.1 h,rfl⟩
 | false =>
  refine .inl ⟨?_,rfl⟩;simpa using h
theorem rl_asc {s:List UInt8} (ha:∀c∈s,c.toNat<128):rl s=bi s∧badAt s = -1:=by
 have hr:∀x∈bi s,rightB x=true:=by
  intro x hx;obtain ⟨c,hc,rfl⟩:=List.mem_map.1 hx;have:=ha c hc;exact rightB_iff.2 ⟨by omega,by omega,by omega⟩
 have e:(bi s).flatMap enc=s:=by
  clear hr
  induction s with
  | nil=>rfl
  | cons c s ih =>
   have hc:=ha c (by simp);have h1:enc (c.toNat:Int)=[c]:=by
    rw [enc1 (lenE1 (by omega) (by omega)),b8_of rfl]
   show enc (c.toNat:Int)++(bi s).flatMap enc=c::s;rw [h1,ih fun d hd=>ha d (by simp [hd])];rfl
 have:=rl_flat hr;rw [e] at this;exact ⟨this.1,badAt_nil this.2⟩
theorem rl_back {s:List UInt8} (h:badAt s<0):(rl s).flatMap enc=s:=by
 have:=rl_rr s;rw [badAt_neg h,List.append_nil] at this;exact this.symm
section
variable {T:List R6} {A:List R4} {B:List R3}
theorem n213 (h:TK T A B) (hL:LN B) (s:List UInt8) (hs:s.length≤10000000) (hn:∀x∈rl s,Nf B x):Pf (C116 (T,A,B,s,false,true,())) (fun y=>NS B y.1):=by
 have hl:=rl_len s;unfold C116 F116;dsimp only;rw [x83 s (by omega)];simp only [Option.bind_some];refine pX (fun _=>pP fun c hc=>by cases hc) (fun _ => ?_);refine pZ (pA (d240 T A B (rl s) false (by omega)).pf (n240 hL (rl s) (by omega) hn)) ?_;rintro ⟨l2,u⟩ ⟨h2,r2⟩;dsimp only at h2 r2 ⊢;refine pZ (pA (d239 h.a l2 (by omega)).pf (n239 hL l2 (by omega) r2)) ?_;rintro ⟨l3,u⟩ ⟨h3,r3⟩;dsimp only at h3 r3 ⊢;simp only [cond_true];refine pZ (pA (d241 T A B l3 (by omega) h.a).pf (n241 hL l3 (by omega) r3)) ?_;rintro ⟨l4,u⟩ ⟨h4,r4,-⟩;dsimp only at h4 r4 ⊢;rcases str_of (l:=l4) (by omega) with ⟨-,e⟩|⟨hr,e⟩
 · rw [e]
   exact pP fun c hc=>by cases hc
 · rw [e]
   exact pP (ns_flat r4 hr)
theorem n151 (h:TK T A B) (hL:LN B) (s:List UInt8) (hs:s.length≤2500000):Pf (C55 (T,A,B,s,())) (fun y=>NS B y.1):=by
 have hl:=rl_len s;unfold C55 F55;dsimp only;rw [x83 s (by omega)];simp only [Option.bind_some];refine pX (fun _=>pP fun c hc=>by cases hc) (fun _ => ?_);refine pZ (d180 T A B (rl s) (by omega)).pf ?_;rintro ⟨l2,u⟩ h2;dsimp only at h2 ⊢;refine pZ (P:=fun y=>y.1.length=l2.length∧∀x∈y.1,Nf B x) ?_ ?_
 · refine pM (pA (d179 T A B h.b l2 (by omega)).pf (P':=fun y=>∀x∈y.1,Nf B x) ?_) fun _ h=>h
   unfold C83 F83;dsimp only;exact pZ (n210 hL l2 (by omega)) fun _ h=>pP h.1
 rintro ⟨l3,u⟩ ⟨h3,r3⟩;dsimp only at h3 r3 ⊢;have fin:∀x:List UInt8,x.length≤10000000→(∀v∈rl x,Nf B v)→Pf ((C85 (T,A,B,x,())).bind fun val=>some (val.1,val.2.1,())) (fun y=>NS B y.1):=by
  intro x hx hn;refine pZ (P:=fun y=>NS B y.1) ?_ fun _ h=>pP h;unfold C85 F85;dsimp only;exact pZ (n213 h hL x hx hn) fun _ h=>pP h
 rcases str_of (l:=l3) (by omega) with ⟨-,e⟩|⟨hr,e⟩
 · rw [e]
   exact fin [] (by simp) (fun v hv=>by cases hv)
 · obtain ⟨y,e2,h5⟩:=d178 l3 (by omega)
   rw [e] at e2;cases e2;rw [e];dsimp only at h5;exact fin (l3.flatMap enc) (by omega) (by rw [(rl_flat hr).1];exact r3)
theorem split_lo:(splitT.all fun s=>decide (128≤s.1))=true:=by kernel_rfl
theorem c216a {r:Int} (h0:0≤r∧r<128):C119 (T,A,B,r,())=some (0,0,0,false,false,false,()):=by
 unfold C119;dsimp only;have e:(decide (65281≤r)&&decide (r≤65374))=false:=by simp;omega
 rw [e];have hs:splitD r=none:=by
  unfold splitD;rw [List.find?_eq_none];intro s hs he;have h1:=List.all_eq_true.1 split_lo s hs;have h2:r=s.1:=by simpa using he
  simp only [decide_eq_true_eq] at h1;omega
 rw [hs];rfl
theorem i279 (r:Int) (hr:0≤r∧r<128):Pf (C178 (T,A,B,r,false,())) (fun y=>y.1=[r]):=by
 have key:Pf (recN (fun G=>F178 C119 G C225 C226 C227 (F178_c0 C119 G C225 C226 C227)) big (T,A,B,r,false,())) ((fun (v:List R6×List R4×List R3×Int×Bool×Unit) (y:List Int×Unit)=>0≤v.2.2.2.1∧v.2.2.2.1<128→y.1=[v.2.2.2.1]) (T,A,B,r,false,())):=by
  refine pRn (P:=fun (v:List R6×List R4×List R3×Int×Bool×Unit) (y:List Int×Unit)=>0≤v.2.2.2.1∧v.2.2.2.1<128→y.1=[v.2.2.2.1]) ?_ big _;rintro G - ⟨T,A,B,r,sf,u⟩;by_cases hk:0≤r∧r<128
  · suffices hs:Pf (F178 C119 G C225 C226 C227 (F178_c0 C119 G C225 C226 C227) (T,A,B,r,sf,())) (fun y=>y.1=[r]) from pM hs fun y h _=>h
    unfold F178;dsimp only;simp only [c216a hk,Option.bind_some];refine pZ (p300x _ _ _ (by omega) (by omega)) ?_;rintro ⟨z,u⟩ hz;dsimp only at hz ⊢;refine pX (fun h=>by have:=hz h;omega) (fun _ => ?_);simp only [Bool.not_false,cond_true];unfold F178_c0;dsimp only;simp only [cond_true,Option.bind_some,Sum.elim_inl];exact pP rfl
  · exact pM pT fun _ _ h=>absurd h hk
 intro y e;exact key y e hr
theorem i240 (l:List Int) (hl:l.length≤100000000) (h:∀x∈l,0≤x∧x<128):C143 (T,A,B,l,false,())=some (l,()):=by
 refine ex_of (d240 T A B l false (by omega)) ?_;unfold C143 F143;dsimp only;refine pZ (P:=fun y=>y.1=l) ?_ (fun y h=>pP (by rw [h]));refine pL ?I ?h _ ?hv
 case I=>exact (fun v=>∃k:Nat,k≤l.length∧v=(false,l,(l.length:Int),(k:Int),T,A,B,l.take k,()))
 case hv=>exact ⟨0,Nat.zero_le _,rfl⟩
 rintro _ ⟨k,hk,rfl⟩;unfold F143_l0;dsimp only;simp only [Int.toNat_natCast];refine pX (fun hlt => ?_) (fun hge => ?_)
 · have hlt':k<l.length:=by omega
   refine pX (fun _ => ?_) (fun _=>pN);refine pZ (i279 _ (h _ (by rw [getD_lt hlt'];exact List.getElem_mem _))) ?_;rintro ⟨m,u⟩ hy;dsimp only at hy ⊢;subst hy;rw [wrN k (by omega)];refine pX (fun _=>pP ⟨k+1,by omega,?_⟩) (fun _=>pN);rw [take_succ_get hlt',getD_lt hlt']
 · have:k=l.length:=by omega
   subst this;rw [List.take_length];exact pP rfl
def LC (T:List R6) (A:List R4) (B:List R3):Prop:=∀x,0≤x→x<128→C175 (T,A,B,x,())=some (0,())
theorem i239 (h:TK T A B) (hC:LC T A B) (l:List Int) (hl:l.length≤100000000) (ha:∀x∈l,0≤x∧x<128):C142 (T,A,B,l,())=some (l,()):=by
 refine ex_of (d239 h.a l (by omega)) ?_;unfold C142 F142;dsimp only;refine pZ (P:=fun y=>y.1=l) ?_ ?_
 · unfold C174
   dsimp only;with_reducible repeat' (first|exact pN|apply pP|apply pX<;>intro _)
   rfl
 rintro ⟨l',u⟩ hl';dsimp only at hl' ⊢;subst hl';refine pZ (P:=fun y=>y.1=l') ?_ (fun y h=>pP (by rw [h]));refine pL ?I ?h _ ?hv
 case I=>exact (fun v=>∃k:Nat,k≤l'.length+1∧v=((k:Int),(k:Int),T,A,B,l',()))
 case hv=>exact ⟨0,Nat.zero_le _,rfl⟩
 rintro _ ⟨k,hk,rfl⟩;unfold F142_l0;dsimp only;simp only [Int.toNat_natCast];have fin:k≤l'.length→Pf ((C142_c0 ((k:Int),(k:Int),T,A,B,l',())).bind fun val=>some (Sum.inl (val.fst,IntKind.i64.wrap (val.snd.fst+1),val.snd.snd.fst,val.snd.snd.snd.fst,val.snd.snd.snd.snd.fst,val.snd.snd.snd.snd.snd.fst,())))
  (Sum.elim (fun v':Int×Int×List R6×List R4×List R3×List Int×Unit=>∃k:Nat,k≤l'.length+1∧v'=((k:Int),(k:Int),T,A,B,l',())) (fun y:List Int×Unit=>y.1=l')):=by
  intro hk;refine pZ (p239_0 (k:Int) (k:Int) l') ?_;rintro y ⟨r2,h7,h8,rfl⟩;dsimp only;rw [wrN k (by omega)];have e:r2=l':=by
   refine List.ext_getElem? fun i=>h8.2.1 i ?_;rw [Int.toNat_natCast];omega
  subst e;exact pP ⟨k+1,by omega,rfl⟩
 refine pX (fun h1 => ?_) (fun _=>pP rfl);refine pX (fun hlt => ?_) (fun _=>fin (by omega));have hlt':k<l'.length:=by omega
 refine pX (fun _ => ?_) (fun _=>pN);obtain ⟨a1,a2⟩:=ha _ (show l'.getD k 0∈l' by rw [getD_lt hlt'];exact List.getElem_mem _);rw [hC _ a1 a2];simp only [Option.bind_some];exact pX (fun h=>by omega) (fun _=>fin (by omega))
def Lw (B:List R3) (s:List UInt8):Prop:=∀c∈s,c.toNat<128∧Nf B (c.toNat:Int)
theorem i213 (h:TK T A B) (hL:LN B) (hC:LC T A B) (s:List UInt8) (hs:s.length≤100000) (hw:Lw B s):C116 (T,A,B,s,false,true,())=some (s,true,()):=by
 have ha:∀c∈s,c.toNat<128:=fun c hc=>(hw c hc).1;obtain ⟨e1,e2⟩:=rl_asc ha;have hb:∀x∈bi s,(0≤x∧x<128)∧Nf B x:=by
  intro x hx;obtain ⟨c,hc,rfl⟩:=List.mem_map.1 hx;exact ⟨⟨by omega,by have:=ha c hc;omega⟩,(hw c hc).2⟩
 have hl:(bi s).length≤100000:=by unfold bi;rw [List.length_map];exact hs
 have h241:C144 (T,A,B,bi s,())=some (bi s,()):=by
  refine ex_of (d241 T A B (bi s) (by omega) h.a) ?_;refine pM (n241 hL (bi s) (by omega) fun x hx=>(hb x hx).2) fun y hy => ?_;obtain ⟨y1,u⟩:=y;have:=hy.2 fun x hx=>(hb x hx).1.2;dsimp only at this;rw [this]
 have h178:C82 (bi s,())=some (s,true,()):=by
  rcases str_of (l:=bi s) (by omega) with ⟨⟨x,hx,hx'⟩,-⟩|⟨-,e⟩
  · exfalso
    have:=hb x hx;rw [rightB_iff.2 ⟨by omega,by omega,by omega⟩] at hx';cases hx'
  · rw [e,←e1,rl_back (by omega)]
 show F116 C142 C143 C144 C34 C82 _=_;simp only [F116,x83 s (by omega),e1,e2,Option.bind_some,i240 (bi s) (by omega) fun x hx=>(hb x hx).1,i239 h hC (bi s) (by omega) fun x hx=>(hb x hx).1,h241,h178,cond_true];rw [decide_eq_false (by omega)];rfl
theorem i180 (l:List Int) (hl:l.length≤100000000) (h:∀x∈l,x<65281):C84 (T,A,B,l,())=some (l,()):=by
 refine ex_of (d180 T A B l (by omega)) ?_;unfold C84 F84;dsimp only;refine pZ (P:=fun y=>y.1=l) ?_ (fun y h=>pP (by rw [h]));show Pf (F113 C115 C113_l0 _) _;unfold F113;dsimp only;refine pZ (P:=fun y=>y.1=l) ?_ (fun _ h=>pP h);refine pL ?I ?h _ ?hv
 case I=>exact (fun v=>∃k:Nat,k≤l.length∧v=(T,A,B,l,(l.length:Int),(k:Int),l.take k,()))
 case hv=>exact ⟨0,Nat.zero_le _,rfl⟩
 rintro _ ⟨k,hk,rfl⟩;unfold F113_l0;dsimp only;simp only [Int.toNat_natCast];refine pX (fun hlt => ?_) (fun hge => ?_)
 · have hlt':k<l.length:=by omega
   refine pX (fun _ => ?_) (fun _=>pN);have hx:=h _ (show l.getD k 0∈l by rw [getD_lt hlt'];exact List.getElem_mem _);have e:C115 (T,A,B,l.getD k 0,())=some (l.getD k 0,()):=by
    show F115 C119 _=_;simp only [F115];rw [decide_eq_true hx];rfl
   rw [e,wrN k (by omega)];simp only [Option.bind_some];refine pX (fun _=>pP ⟨k+1,by omega,?_⟩) (fun _=>pN);rw [take_succ_get hlt',getD_lt hlt']
 · have:k=l.length:=by omega
   subst this;rw [List.take_length];exact pP rfl
theorem i151 (h:TK T A B) (hL:LN B) (hC:LC T A B) (s:List UInt8) (hs:s.length≤100000) (hw:Lw B s):C55 (T,A,B,s,())=some (s,true,()):=by
 have ha:∀c∈s,c.toNat<128:=fun c hc=>(hw c hc).1;obtain ⟨e1,e2⟩:=rl_asc ha;have hb:∀x∈bi s,(0≤x∧x<128)∧Nf B x:=by
  intro x hx;obtain ⟨c,hc,rfl⟩:=List.mem_map.1 hx;exact ⟨⟨by omega,by have:=ha c hc;omega⟩,(hw c hc).2⟩
 have hl:(bi s).length≤100000:=by unfold bi;rw [List.length_map];exact hs
 have h179:C83 (T,A,B,bi s,())=some (bi s,()):=by
  refine ex_of (d179 T A B h.b (bi s) (by omega)) ?_;unfold C83 F83;dsimp only;refine pZ (n210 hL (bi s) (by omega)) fun y hy=>pP ?_;rw [hy.2 fun x hx=>(hb x hx).2]
 have h178:C82 (bi s,())=some (s,true,()):=by
  rcases str_of (l:=bi s) (by omega) with ⟨⟨x,hx,hx'⟩,-⟩|⟨-,e⟩
  · exfalso
    have:=hb x hx;rw [rightB_iff.2 ⟨by omega,by omega,by omega⟩] at hx';cases hx'
  · rw [e,←e1,rl_back (by omega)]
 have h181:C85 (T,A,B,s,())=some (s,true,()):=by
  show F85 C116 _=_;simp only [F85,i213 h hL hC s hs hw,Option.bind_some]
 show F55 C34 C82 C83 C84 C85 _=_;simp only [F55,x83 s (by omega),e1,e2,Option.bind_some,i180 (bi s) (by omega) fun x hx=>by have:=(hb x hx).1;omega,h179,h178,h181];rw [decide_eq_false (by omega)];rfl
end
def lcB:Bool:=match C9 () with
 | some (T,A,B,_)=>(List.range 128).all fun n=>match C175 (T,A,B,(n:Int),()) with|some (c,_)=>c==0|none=>false
 | none=>false
theorem lcB_k:lcB=true:=by kernel_rfl
theorem lc_of {T A B} (h18:C9 ()=some (T,A,B,())):LC T A B:=by
 have h:=lcB_k;unfold lcB at h;rw [h18] at h;intro x h0 h1;have:=List.all_eq_true.1 h x.toNat (List.mem_range.2 (by omega))
 rw [show ((x.toNat:Nat):Int)=x by omega] at this;cases hc:C175 (T,A,B,x,()) with
 | none=>rw [hc] at this;cases this
 | some y =>
  rw [hc] at this;obtain ⟨c,u⟩:=y;have e:c=0:=by simpa using this
  rw [e]
end Go.Proofs.YtbifjondkjgkmaaGreatDoorA.W
