/- The texts of the proof, one behind the other: PR1, PR2, PR3, PR4, PL1, PL2, PL3, PL4, PL5, PL6, PL7, PQ, PL8, PL9, PM1, PM2, PLT, PPN. -/
import Derived.Test.YtiacnhhmkdkpmaaGreatDoorAMv5
set_option linter.unusedVariables false
set_option linter.unusedSimpArgs false
set_option maxRecDepth 100000
namespace Go.Proofs.YtiacnhhmkdkpmaaGreatDoorA.W
open Go Go.Ae
def Fr (o n:Nat) (r r':List Int):Prop:=r'.length=r.length∧∀i:Nat,i<o∨o+n≤i→r'[i]? = r[i]?
theorem k9x {o n:Nat} {r:List Int}:Fr o n r r:=⟨rfl,fun _ _=>rfl⟩
theorem q4g {o n k:Nat} {r r':List Int} {x:Int} (h:Fr o n r r') (hk:k<n):Fr o n r (r'.set (o+k) x) :=
 ⟨List.length_set.trans h.1,fun i hi=>by
  rw [List.getElem?_set_ne (by omega)];exact h.2 i hi⟩
section
variable {T:List R6} {A:List R4} {B:List R3}
theorem w6m (a b:Int):Pf (zm (a,b,T,A,B,())) (fun y=>y.2=(T,A,B,())):=by
 unfold zm k5o;dsimp only;exact pZ pT fun _ _=>pZ pT fun _ _=>pP rfl
theorem f6a (o n:Nat) (a b i j:Int) (row r:List Int) (h:Fr o n row r) :
 Pf (q2k (((o:Int),(n:Int)),a,b,i,j,r,T,A,B,())) (fun y=>∃(a b i j:Int) (r':List Int),Fr o n row r'∧y=(((o:Int),(n:Int)),a,b,i,j,r',T,A,B,())):=by
 unfold q2k j8f;dsimp only;simp only [Int.toNat_natCast];with_reducible repeat' (first|exact pN|apply pP|apply pX<;>intro _)
 exact ⟨_,_,_,_,_,q4g (q4g h (by omega)) (by omega),rfl⟩
theorem f6b (o n:Nat) (a b i j:Int) (row r:List Int) (h:Fr o n row r) :
 Pf (q9x (((o:Int),(n:Int)),a,b,i,j,r,T,A,B,())) (fun y=>∃(a b i:Int) (r':List Int),Fr o n row r'∧y=(((o:Int),(n:Int)),a,b,i,r',T,A,B,())):=by
 refine pL ?I ?h _ ?hv
 case I=>exact (fun v=>∃(a b i j:Int) (r':List Int),Fr o n row r'∧v=(((o:Int),(n:Int)),a,b,i,j,r',T,A,B,()))
 case hv=>exact ⟨_,_,_,_,_,h,rfl⟩
 rintro v ⟨a,b,i,j,r',h1,rfl⟩;unfold j8g;dsimp only;simp only [Int.toNat_natCast];with_reducible repeat' (first|exact pN|apply pP|apply pX<;>intro _)
 · refine pZ (w6m _ _) ?_
   rintro ⟨c,t,a',b',u⟩ hc;simp only [Prod.mk.injEq] at hc;obtain ⟨rfl,rfl,rfl,-⟩:=hc;dsimp only;with_reducible repeat' (first|exact pN|apply pP|apply pX<;>intro _)
   · refine pZ (f6a o n a b i j row r' h1) ?_
     rintro y ⟨a,b,i,j,r2,h4,rfl⟩;dsimp only;simp only [Int.toNat_natCast];exact pP ⟨_,_,_,_,_,h4,rfl⟩
   · exact ⟨_,_,_,_,h1,rfl⟩
 · exact ⟨_,_,_,_,h1,rfl⟩
theorem d0n (o n:Nat) (a b:Int) (row r:List Int) (h:Fr o n row r) :
 Pf (q9w (((o:Int),(n:Int)),a,b,r,T,A,B,())) (fun y=>∃(r':List Int),Fr o n row r'∧y=(r',T,A,B,())):=by
 unfold q9w k6k;dsimp only;simp only [Int.toNat_natCast];refine pZ (P:=fun y=>∃(r':List Int),Fr o n row r'∧y=(r',T,A,B,())) ?_ ?_
 · refine pL ?I ?h _ ?hv
   case I=>exact (fun v=>∃(a b i:Int) (r':List Int),Fr o n row r'∧v=(((o:Int),(n:Int)),a,b,i,r',T,A,B,()))
   case hv=>exact ⟨_,_,_,_,h,rfl⟩
   rintro v ⟨a,b,i,r',h2,rfl⟩;unfold j8h;dsimp only;simp only [Int.toNat_natCast];with_reducible repeat' (first|exact pN|apply pP|apply pX<;>intro _)
   · refine pZ (f6b o n a b i i row r' h2) ?_
     rintro y ⟨a,b,i,r2,h4,rfl⟩;dsimp only;simp only [Int.toNat_natCast];exact pP ⟨_,_,_,_,h4,rfl⟩
   · exact ⟨_,h2,rfl⟩
 · rintro y ⟨r',h,rfl⟩
   exact pP ⟨_,h,rfl⟩
theorem f6h (o n:Nat) (a b k:Int) (row r:List Int) (h:Fr o n row r) :
 Pf (z2z (((o:Int),(n:Int)),a,b,k,r,T,A,B,())) (fun y=>∃(r':List Int),Fr o n row r'∧y=(r',T,A,B,())):=by
 unfold z2z k6n;dsimp only;simp only [Int.toNat_natCast];refine pZ (P:=fun y=>∃(r':List Int),Fr o n row r'∧y=(r',T,A,B,())) ?_ ?_
 · refine pL ?I ?h _ ?hv
   case I=>exact (fun v=>∃(a b k i:Int) (r':List Int),Fr o n row r'∧v=(((o:Int),(n:Int)),a,b,k,i,r',T,A,B,()))
   case hv=>exact ⟨_,_,_,_,_,h,rfl⟩
   rintro v ⟨a,b,k,i,r',h2,rfl⟩;unfold j8j;dsimp only;simp only [Int.toNat_natCast];with_reducible repeat' (first|exact pN|apply pP|apply pX<;>intro _)
   · exact ⟨_,_,_,_,_,q4g (q4g h2 (by omega)) (by omega),rfl⟩
   · exact ⟨_,h2,rfl⟩
 · rintro y ⟨r',h,rfl⟩
   exact pP ⟨_,h,rfl⟩
theorem m3u (o n:Nat) (a m b:Int) (row r:List Int) (h:Fr o n row r) :
 Pf (yc (((o:Int),(n:Int)),a,m,b,r,T,A,B,())) (fun y=>∃(r':List Int),Fr o n row r'∧y=(r',T,A,B,())):=by
 unfold yc k6m;dsimp only;simp only [Int.toNat_natCast];refine pZ (P:=fun y=>∃(m i:Int) (r':List Int),Fr o n row r'∧y=(((o:Int),(n:Int)),m,i,r',T,A,B,())) ?_ ?_
 · refine pL ?I ?h _ ?hv
   case I=>exact (fun v=>∃(m i j:Int) (r':List Int),Fr o n row r'∧v=(((o:Int),(n:Int)),m,i,j,r',T,A,B,()))
   case hv=>exact ⟨_,_,_,_,h,rfl⟩
   rintro v ⟨m,i,j,r',h5,rfl⟩;unfold j8i;dsimp only;simp only [Int.toNat_natCast];with_reducible repeat' (first|exact pN|apply pP|apply pX<;>intro _)
   · refine pZ (f6h o n _ _ _ row r' h5) ?_
     rintro y ⟨r2,h6,rfl⟩;exact pP ⟨_,_,_,_,h6,rfl⟩
   · refine pZ (f6h o n _ _ _ row r' h5) ?_
     rintro y ⟨r2,h6,rfl⟩;exact pP ⟨_,_,_,_,h6,rfl⟩
   · exact ⟨_,_,_,h5,rfl⟩
 · rintro y ⟨m,i,r',h4,rfl⟩
   dsimp only;simp only [Int.toNat_natCast];refine pZ (f6h o n _ _ _ row r' h4) ?_;rintro y ⟨r2,h6,rfl⟩;exact pP ⟨_,h6,rfl⟩
theorem f6c (G:jk) (o n:Nat) (a i j:Int) (row:List Int) :
 Pf (vt G (((o:Int),(n:Int)),a,i,j,row,T,A,B,())) (fun y=>∃(a i':Int),y=(((o:Int),(n:Int)),a,i',row,T,A,B,())):=by
 refine pL ?I ?h _ ?hv
 case I=>exact (fun v=>∃(a i' j':Int),v=(((o:Int),(n:Int)),a,i',j',row,T,A,B,()))
 case hv=>exact ⟨_,_,_,rfl⟩
 rintro v ⟨a,i',j',rfl⟩;unfold j0a;dsimp only;simp only [Int.toNat_natCast];with_reducible repeat' (first|exact pN|apply pP|apply pX<;>intro _)
 · refine pZ (w6m _ _) ?_
   rintro ⟨c,t,a',b',u⟩ hc;simp only [Prod.mk.injEq] at hc;obtain ⟨rfl,rfl,rfl,-⟩:=hc;dsimp only;with_reducible repeat' (first|exact pN|apply pP|apply pX<;>intro _)
   all_goals exact ⟨_,_,_,rfl⟩
 · exact ⟨_,_,rfl⟩
theorem f6e (G:jk) (o n:Nat) (a i j:Int) (row:List Int) :
 Pf (vw G (((o:Int),(n:Int)),a,i,j,row,T,A,B,())) (fun y=>∃(a i':Int),y=(((o:Int),(n:Int)),a,i',row,T,A,B,())):=by
 refine pL ?I ?h _ ?hv
 case I=>exact (fun v=>∃(a i' j':Int),v=(((o:Int),(n:Int)),a,i',j',row,T,A,B,()))
 case hv=>exact ⟨_,_,_,rfl⟩
 rintro v ⟨a,i',j',rfl⟩;unfold j0c;dsimp only;simp only [Int.toNat_natCast];with_reducible repeat' (first|exact pN|apply pP|apply pX<;>intro _)
 · refine pZ (w6m _ _) ?_
   rintro ⟨c,t,a',b',u⟩ hc;simp only [Prod.mk.injEq] at hc;obtain ⟨rfl,rfl,rfl,-⟩:=hc;dsimp only;with_reducible repeat' (first|exact pN|apply pP|apply pX<;>intro _)
   all_goals exact ⟨_,_,_,rfl⟩
 · exact ⟨_,_,rfl⟩
theorem f6d (G:jk) (o n:Nat) (i k:Int) (row r:List Int) (h:Fr o n row r) :
 Pf (vv G (((o:Int),(n:Int)),i,k,r,T,A,B,())) (fun y=>∃(r':List Int),Fr o n row r'∧y=(r',T,A,B,())):=by
 refine pL ?I ?h _ ?hv
 case I=>exact (fun v=>∃(i k:Int) (r':List Int),Fr o n row r'∧v=(((o:Int),(n:Int)),i,k,r',T,A,B,()))
 case hv=>exact ⟨_,_,_,h,rfl⟩
 rintro v ⟨i,k,r',h2,rfl⟩;unfold j0b;dsimp only;simp only [Int.toNat_natCast];with_reducible repeat' (first|exact pN|apply pP|apply pX<;>intro _)
 · exact ⟨_,_,_,q4g (q4g h2 (by omega)) (by omega),rfl⟩
 · exact ⟨_,h2,rfl⟩
theorem f6f (G:jk) (o n:Nat) (i k:Int) (row r:List Int) (h:Fr o n row r) :
 Pf (vy G (((o:Int),(n:Int)),i,k,r,T,A,B,())) (fun y=>∃(r':List Int),Fr o n row r'∧y=(r',T,A,B,())):=by
 refine pL ?I ?h _ ?hv
 case I=>exact (fun v=>∃(i k:Int) (r':List Int),Fr o n row r'∧v=(((o:Int),(n:Int)),i,k,r',T,A,B,()))
 case hv=>exact ⟨_,_,_,h,rfl⟩
 rintro v ⟨i,k,r',h2,rfl⟩;unfold j0d;dsimp only;simp only [Int.toNat_natCast];with_reducible repeat' (first|exact pN|apply pP|apply pX<;>intro _)
 · exact ⟨_,_,_,q4g (q4g h2 (by omega)) (by omega),rfl⟩
 · exact ⟨_,h2,rfl⟩
theorem f6g (G:jk) (o n:Nat) (a m b mid s st r p:Int) (row:List Int) :
 Pf (wc G (((o:Int),(n:Int)),a,m,b,mid,s,st,r,p,row,T,A,B,())) (fun y=>∃(a m b mid s st':Int),y=(((o:Int),(n:Int)),a,m,b,mid,s,st',row,T,A,B,())):=by
 refine pL ?I ?h _ ?hv
 case I=>exact (fun v=>∃(a m b mid s i' j' p:Int),v=(((o:Int),(n:Int)),a,m,b,mid,s,i',j',p,row,T,A,B,()))
 case hv=>exact ⟨_,_,_,_,_,_,_,_,rfl⟩
 rintro v ⟨a,m,b,mid,s,i',j',p,rfl⟩;unfold j0e;dsimp only;simp only [Int.toNat_natCast];with_reducible repeat' (first|exact pN|apply pP|apply pX<;>intro _)
 · refine pZ (w6m _ _) ?_
   rintro ⟨c,t,a',b',u⟩ hc;simp only [Prod.mk.injEq] at hc;obtain ⟨rfl,rfl,rfl,-⟩:=hc;dsimp only;with_reducible repeat' (first|exact pN|apply pP|apply pX<;>intro _)
   all_goals exact ⟨_,_,_,_,_,_,_,_,rfl⟩
 · exact ⟨_,_,_,_,_,_,rfl⟩
def Mq (T:List R6) (A:List R4) (B:List R3) (G:jk) (o n:Nat):Prop:=∀(a m b:Int) (row r:List Int),Fr o n row r →
 Pf (G (((o:Int),(n:Int)),a,m,b,r,T,A,B,())) (fun y=>∃(r':List Int),Fr o n row r'∧y=(r',T,A,B,()))
theorem w6o (G:jk) (o n:Nat) (hG:Mq T A B G o n) (b mid e:Int) (row r:List Int) (h:Fr o n row r) :
 Pf (xr G (((o:Int),(n:Int)),b,mid,e,r,T,A,B,())) (fun y=>∃(r':List Int),Fr o n row r'∧y=(r',T,A,B,())):=by
 show Pf (q5l zm G yc _) _;unfold q5l;dsimp only;simp only [Int.toNat_natCast];with_reducible repeat' (first|exact pN|apply pP|apply pX<;>intro _)
 · refine pZ (hG mid e b row r h) ?_
   rintro y ⟨r',h,rfl⟩;exact pP ⟨_,h,rfl⟩
 · exact ⟨_,h,rfl⟩
 · exact ⟨_,h,rfl⟩
theorem w6p (G:jk) (o n:Nat) (hG:Mq T A B G o n) (a b mid st e:Int) (row r:List Int) (h:Fr o n row r) :
 Pf (xt G (((o:Int),(n:Int)),a,b,mid,st,e,r,T,A,B,())) (fun y=>∃(r':List Int),Fr o n row r'∧y=(r',T,A,B,())):=by
 show Pf (q5m zm G yc (xr G) _) _;unfold q5m;dsimp only;simp only [Int.toNat_natCast];have zg:∀r0:List Int,Fr o n row r0→Pf ((xr G (((o:Int),(n:Int)),b,mid,e,r0,T,A,B,())).bind fun val=>some (val.fst,val.snd.fst,val.snd.snd.fst,val.snd.snd.snd.fst,())) (fun y=>∃(r':List Int),Fr o n row r'∧y=(r',T,A,B,())):=by
  intro r0 hr;refine pZ (w6o G o n hG b mid e row r0 hr) ?_;rintro y ⟨r',h,rfl⟩;exact pP ⟨_,h,rfl⟩
 with_reducible repeat' (first|exact pN|apply pP|apply pX<;>intro _)
 · refine pZ (hG a st mid row r h) ?_
   rintro y ⟨r',h,rfl⟩;exact zg r' h
 · exact zg r h
 · exact zg r h
theorem x6r (G:jk) (o n:Nat) (hG:Mq T A B G o n) (a m b mid s st q:Int) (row r:List Int) (h:Fr o n row r) :
 Pf (vr G (((o:Int),(n:Int)),a,m,b,mid,s,st,q,r,T,A,B,())) (fun y=>∃(r':List Int),Fr o n row r'∧y=(r',T,A,B,())):=by
 show Pf (q5n zm G yc (xt G) (wc G) _) _;unfold q5n;dsimp only;simp only [Int.toNat_natCast];refine pZ (f6g G o n a m b mid s st q _ r) ?_;rintro y ⟨a,m,b,mid,s,st',rfl⟩;dsimp only;simp only [Int.toNat_natCast];have zg:∀(e:Int) (r0:List Int),Fr o n row r0→Pf ((xt G (((o:Int),(n:Int)),a,b,mid,st',e,r0,T,A,B,())).bind fun val=>some (val.fst,val.snd.fst,val.snd.snd.fst,val.snd.snd.snd.fst,())) (fun y=>∃(r':List Int),Fr o n row r'∧y=(r',T,A,B,())):=by
  intro e r0 hr0;refine pZ (w6p G o n hG a b mid st' e row r0 hr0) ?_;rintro y ⟨r',h,rfl⟩;exact pP ⟨_,h,rfl⟩
 with_reducible repeat' (first|exact pN|apply pP|apply pX<;>intro _)
 · refine pZ (m3u o n _ _ _ row r h) ?_
   rintro y ⟨r',h,rfl⟩;exact zg _ r' h
 · exact zg _ r h
 · exact zg _ r h
theorem g6m (o n:Nat):∀k:Nat,Mq T A B (q1x q7c k) o n
 | 0=>fun a m b row r h=>fun _ e=>by cases e
 | k+1=>fun a m b row r h=>by
  have hG:=g6m o n k;show Pf (q7c (q1x q7c k) _) _;generalize q1x q7c k=G at hG ⊢;show Pf (y1r zm G yc (vr G) (vt G) (vv G) (vw G) (vy G) _) _;unfold y1r;dsimp only;simp only [Int.toNat_natCast];have zg:∀{x:Option (List Int×List R6×List R4×List R3×Unit)},Pf x (fun y=>∃(r':List Int),Fr o n row r'∧y=(r',T,A,B,()))→Pf (x.bind fun val=>some (val.fst,val.snd.fst,val.snd.snd.fst,val.snd.snd.snd.fst,())) (fun y=>∃(r':List Int),Fr o n row r'∧y=(r',T,A,B,())):=by
   intro x hx;refine pZ hx ?_;rintro y ⟨r',h,rfl⟩;exact pP ⟨_,h,rfl⟩
  with_reducible repeat' (first|exact pN|apply pP|apply pX<;>intro _)
  · refine pZ (f6c G o n _ _ _ r) ?_
    rintro y ⟨a',i',rfl⟩;dsimp only;simp only [Int.toNat_natCast];exact zg (f6d G o n _ _ row r h)
  · refine pZ (f6e G o n _ _ _ r) ?_
    rintro y ⟨a',i',rfl⟩;dsimp only;simp only [Int.toNat_natCast];exact zg (f6f G o n _ _ row r h)
  · exact zg (x6r G o n hG _ _ _ _ _ _ _ row r h)
  · exact zg (x6r G o n hG _ _ _ _ _ _ _ row r h)
theorem d0o (o n:Nat) (a m b:Int) (row r:List Int) (h:Fr o n row r) :
 Pf (j6f (((o:Int),(n:Int)),a,m,b,r,T,A,B,())) (fun y=>∃(r':List Int),Fr o n row r'∧y=(r',T,A,B,())):=by
 show Pf (q1x q7c je _) _;exact g6m o n je a m b row r h
theorem f5y (o n:Nat) (x y' z w:Int) (row r:List Int) (h:Fr o n row r) :
 Pf (q9u (((o:Int),(n:Int)),x,y',z,w,r,T,A,B,())) (fun y=>∃(x y' a:Int) (r':List Int),Fr o n row r'∧y=(((o:Int),(n:Int)),x,y',a,r',T,A,B,())):=by
 refine pL ?I ?h _ ?hv
 case I=>exact (fun v=>∃(x y' z w:Int) (r':List Int),Fr o n row r'∧v=(((o:Int),(n:Int)),x,y',z,w,r',T,A,B,()))
 case hv=>exact ⟨_,_,_,_,_,h,rfl⟩
 rintro v ⟨x,y',z,w,r',h3,rfl⟩;unfold j8c;dsimp only;simp only [Int.toNat_natCast];with_reducible repeat' (first|exact pN|apply pP|apply pX<;>intro _)
 · refine pZ (d0n o n _ _ row r' h3) ?_
   rintro y ⟨r2,h4,rfl⟩;exact pP ⟨_,_,_,_,_,h4,rfl⟩
 · exact ⟨_,_,_,_,h3,rfl⟩
theorem f5z (o n:Nat) (x y' z w:Int) (row r:List Int) (h:Fr o n row r) :
 Pf (q9v (((o:Int),(n:Int)),x,y',z,w,r,T,A,B,())) (fun y=>∃(x y' a:Int) (r':List Int),Fr o n row r'∧y=(((o:Int),(n:Int)),x,y',a,r',T,A,B,())):=by
 refine pL ?I ?h _ ?hv
 case I=>exact (fun v=>∃(x y' z w:Int) (r':List Int),Fr o n row r'∧v=(((o:Int),(n:Int)),x,y',z,w,r',T,A,B,()))
 case hv=>exact ⟨_,_,_,_,_,h,rfl⟩
 rintro v ⟨x,y',z,w,r',h3,rfl⟩;unfold j8d;dsimp only;simp only [Int.toNat_natCast];with_reducible repeat' (first|exact pN|apply pP|apply pX<;>intro _)
 · refine pZ (d0o o n _ _ _ row r' h3) ?_
   rintro y ⟨r2,h4,rfl⟩;exact pP ⟨_,_,_,_,_,h4,rfl⟩
 · exact ⟨_,_,_,_,h3,rfl⟩
theorem m3s (o n:Nat) (x:Int) (row r:List Int) (h:Fr o n row r) :
 Pf (y5x (((o:Int),(n:Int)),x,r,T,A,B,())) (fun y=>∃(r':List Int),Fr o n row r'∧y=(r',T,A,B,())):=by
 unfold y5x k6d;dsimp only;simp only [Int.toNat_natCast];refine pZ (f5y o n _ _ _ _ row r h) ?_;rintro y ⟨x,z,a,r1,h3,rfl⟩;dsimp only;simp only [Int.toNat_natCast];refine pZ (d0n o n _ _ row r1 h3) ?_;rintro y ⟨r2,h4,rfl⟩;dsimp only;refine pZ (P:=fun y=>∃(r':List Int),Fr o n row r'∧y=(r',T,A,B,())) ?_ ?_
 · refine pL ?I ?h _ ?hv
   case I=>exact (fun v=>∃(x bs:Int) (r':List Int),Fr o n row r'∧v=(((o:Int),(n:Int)),x,bs,r',T,A,B,()))
   case hv=>exact ⟨_,_,r2,h4,rfl⟩
   rintro v ⟨x,bs,r',h7,rfl⟩;unfold j8e;dsimp only;simp only [Int.toNat_natCast];with_reducible repeat' (first|exact pN|apply pP|apply pX<;>intro _)
   · refine pZ (f5z o n _ _ _ _ row r' h7) ?_
     rintro y ⟨x,bs,a,r3,h10,rfl⟩;dsimp only;simp only [Int.toNat_natCast];with_reducible repeat' (first|exact pN|apply pP|apply pX<;>intro _)
     · refine pZ (d0o o n _ _ _ row r3 h10) ?_
       rintro y ⟨r4,h11,rfl⟩;exact pP ⟨_,_,_,h11,rfl⟩
     · exact ⟨_,_,_,h10,rfl⟩
   · exact ⟨_,h7,rfl⟩
 · rintro y ⟨r',h,rfl⟩
   exact pP ⟨_,h,rfl⟩
theorem m3o (o n:Nat) (row:List Int) :
 Pf (j6e (((o:Int),(n:Int)),row,T,A,B,())) (fun y=>∃(r':List Int),Fr o n row r'∧y=(r',T,A,B,())):=by
 unfold j6e k5n;dsimp only;simp only [Int.toNat_natCast];refine pZ (m3s o n _ row row k9x) ?_;rintro y ⟨r',h,rfl⟩;exact pP ⟨_,h,rfl⟩
structure KT (T:List R6) (A:List R4) (B:List R3):Prop where
 cl:∀x,kk x=true→xq (T,A,B,x,())=some (0,())
 lo:∀x,kk x=true→j3w (T,A,B,x,())=some (x,())
 ca:∀x,kk x=true→j3x (T,A,B,x,())=some (false,())
theorem f5s (f k:Int) (row:List Int) :
 Pf (wa (f,k,T,A,B,row,())) (fun y=>∃(r':List Int),0≤f∧Fr f.toNat (k.toNat-f.toNat) row r'∧y=(IntKind.i64.wrap (k+1),k,T,A,B,r',())):=by
 unfold wa j7s;dsimp only;with_reducible repeat' (first|exact pN|apply pP|apply pX<;>intro _)
 rename_i h1 h2;refine pZ (m3o f.toNat (k.toNat-f.toNat) row) ?_;rintro y ⟨r',h,rfl⟩;exact pP ⟨_,h2.1,h,rfl⟩
theorem m3c (hK:KT T A B) (l:List Int) (hl:l.length≤35184372088832):Pf (y5t (T,A,B,l,())) (fun y=>Rr l y.1):=by
 unfold y5t k4x;dsimp only;refine pZ (P:=fun y=>y.1=l) ?_ ?_
 · unfold z2w
   dsimp only;with_reducible repeat' (first|exact pN|apply pP|apply pX<;>intro _)
   rfl
 rintro ⟨l',u⟩ hl';dsimp only at hl' ⊢;subst hl';refine pZ (P:=fun y=>Rr l' y.1) ?_ (fun _ h=>pP h);refine pL ?I ?h _ ?hv
 case I=>exact (fun v=>∃(f:Int) (k:Int) (r':List Int),0≤f∧f≤k∧k≤l'.length+1∧r'.length=l'.length∧(∀(i:Nat) (x:Int),l'[i]? = some x→kk x=true→r'[i]? = some x)∧(∀i:Nat,f≤i→i<k→∀x,r'[i]? = some x→kk x=false)∧v=(f,k,T,A,B,r',()))
 case hv=>exact ⟨0,0,l',Int.le_refl _,Int.le_refl _,by omega,rfl,fun _ _ h _=>h,fun i _ h=>by omega,rfl⟩
 rintro v ⟨f,k,r',h1,h2,h3,h4,h5,h6,rfl⟩;unfold j7t;dsimp only;have zg:k≤r'.length→Pf ((wa (f,k,T,A,B,r',())).bind fun val=>some (Sum.inl (val.fst,IntKind.i64.wrap (val.snd.fst+1),val.snd.snd.fst,val.snd.snd.snd.fst,val.snd.snd.snd.snd.fst,val.snd.snd.snd.snd.snd.fst,())))
  (Sum.elim (fun v':Int×Int×List R6×List R4×List R3×List Int×Unit=>∃(f:Int) (k:Int) (r':List Int),0≤f∧f≤k∧k≤l'.length+1∧r'.length=l'.length∧(∀(i:Nat) (x:Int),l'[i]? = some x→kk x=true→r'[i]? = some x)∧(∀i:Nat,f≤i→i<k→∀x,r'[i]? = some x→kk x=false)∧v'=(f,k,T,A,B,r',())) (fun y:List Int×Unit=>Rr l' y.1)):=by
  intro hk;refine pZ (f5s f k r') ?_;rintro y ⟨r2,h7,h8,rfl⟩;dsimp only;rw [qh (n:=k+1) (by omega)];refine pP ⟨_,_,_,by omega,Int.le_refl _,by omega,h8.1.trans h4,?_,fun i _ _=>by omega,rfl⟩;intro i x hi hx;have hr:=h5 i x hi hx;rw [h8.2 i]
  · exact hr
  · by_cases hik:f≤i∧(i:Int)<k
    · have:=h6 i hik.1 hik.2 x hr
      rw [this] at hx;cases hx
    · omega
 with_reducible repeat' (first|exact pN|apply pP|apply pX<;>intro _)
 · rename_i h7 h8 h9
   refine pZ (pM (P:=fun y=>kk (r'.getD k.toNat 0)=true→y.1=0) (fun y e hk=>by
    rw [hK.cl _ hk] at e;cases e;rfl) fun _ h=>h) ?_
   rintro ⟨c,u⟩ hc;dsimp only at hc ⊢;with_reducible repeat' (first|exact pN|apply pP|apply pX<;>intro _)
   · rename_i h10
     rw [qh (n:=k+1) (by omega)];refine ⟨_,_,_,h1,by omega,by omega,h4,h5,fun i hi hik x hx => ?_,rfl⟩;by_cases hlt:(i:Int)<k
     · exact h6 i hi hlt x hx
     · have hik':i=k.toNat:=by omega
       subst hik';cases hkx:kk x with
       | false=>rfl
       | true =>
        have:r'.getD k.toNat 0=x:=by rw [List.getD_eq_getElem?_getD,hx];rfl
        rw [this] at hc;have:=hc hkx;omega
   · exact zg (by omega)
 · exact zg (by omega)
 · exact Rr.pt h4 h5
end
theorem f5m (x:Int) (b:Bool):Pf (q2e (x,b,())) (Sum.elim (fun y=>1≤y.1) (fun _=>True)):=by
 show Pf (q5c _) _;unfold q5c;dsimp only;with_reducible repeat' (first|exact pN|apply pP|apply pX<;>intro _)
 all_goals first|trivial|exact (by decide:(1:Int)≤2)|exact (by decide:(1:Int)≤3)
theorem f5n (x:Int) (b:Bool):Pf (q2f (x,b,())) (Sum.elim (fun y=>1≤y.1) (fun _=>True)):=by
 show Pf (q5d q2e _) _;unfold q5d;dsimp only;with_reducible repeat' (first|exact pN|apply pP|apply pX<;>intro _)
 all_goals first|trivial|exact (by decide:(1:Int)≤1)|(refine pZ (f5m _ _) ?_;intro s hs;exact pS hs (fun a ha=>pP ha) (fun _ _=>pP trivial))
theorem m2h (x:Int) (hx:0≤x):Pf (kz (x,())) (fun y=>(y.1=0→x<128∧y.2.1=x)∧(0<y.1→128≤x)):=by
 show Pf (x8a q2f _) _;unfold x8a;dsimp only;with_reducible repeat' (first|exact pN|apply pP|apply pX<;>intro _)
 · rename_i h
   exact ⟨fun _=>⟨h,f6r (by omega)⟩,fun h=>by cases h⟩
 all_goals
  refine pZ (f5n _ _) ?_;intro s hs;exact pS hs (fun a ha=>pP ⟨fun h=>by have h':a.1=0:=h;have ha':1≤a.1:=ha;omega,fun _=>by omega⟩) (fun _ _=>pP ⟨fun h=>(by cases h),fun h=>by cases h⟩)
theorem f0p:((List.range 256).all fun n => !(intBits BinOp.andNot IntKind.u8 (n:Int) 63==128)||decide (128≤n))=true:=by kernel_rfl
theorem k9a (c:UInt8) (h:intBits BinOp.andNot IntKind.u8 (c.toNat:Int) 63=128):128≤c.toNat:=by
 have:=List.all_eq_true.1 f0p c.toNat (List.mem_range.2 c.toNat_lt)
 rw [h] at this;simpa using this
theorem d0r (s:List UInt8) (n r at_:Int) (o:List Int) (h:0≤at_) (hn:0≤n∧n≤3) (hb:s.length≤1000000000000) (ha:at_≤s.length) :
 Pf (q3s (s,n,r,at_,at_+1,o,())) (Sum.elim (fun y=>∃r',y=(s,n,r',at_,o,())∧(n=0→r'=r)∧∀j:Nat,at_+1≤j→j≤at_+n→128≤(s.getD j 0).toNat) (fun y=>y.1=at_)):=by
 refine pL ?I ?h _ ?hv
 case I=>exact (fun v=>∃(k r':Int),v=(s,n,r',at_,k,o,())∧at_+1≤k∧(n=0→r'=r)∧∀j:Nat,at_+1≤j→j<k→128≤(s.getD j 0).toNat)
 case hv=>exact ⟨_,_,rfl,Int.le_refl _,fun _=>rfl,fun j h1 h2=>by omega⟩
 rintro v ⟨k,r',rfl,h1,h2,h3⟩;unfold q3v;dsimp only;rw [qh (n:=at_+n) (by omega)];with_reducible repeat' (first|exact pN|apply pP|apply pX<;>intro _)
 · exact rfl
 · rename_i h4 h5 h6 h7
   rw [qh (n:=k+1) (by omega)];refine ⟨_,_,rfl,by omega,fun h0=>by omega,fun j h8 h9 => ?_⟩;by_cases hjk:(j:Int)<k
   · exact h3 j h8 hjk
   · have hj:j=k.toNat:=by omega
     subst hj;exact k9a _ h6
 · exact ⟨_,rfl,h2,fun j h8 h9=>h3 j h8 (by omega)⟩
theorem v6x (s:List UInt8) (k m:Nat) (h:∀j,k≤j→j<k+m→128≤(s.getD j 0).toNat):∀x∈bi ((s.drop k).take m),kk x=false:=by
 intro x hx;obtain ⟨c,hc,rfl⟩:=List.mem_map.1 hx;obtain ⟨i,hi,rfl⟩:=List.mem_iff_getElem.1 hc;rw [List.length_take,List.length_drop] at hi;rw [List.getElem_take,List.getElem_drop];have:=h (k+i) (by omega) (by omega);rw [getD_lt (by omega)] at this;exact y3p (by omega)
theorem p83 (s:List UInt8) (hb:s.length≤1000000000000):Pf (C83 (s,())) (fun y=>y.2.1<0→Rr (bi s) y.1):=by
 show Pf (F83 kz xm q3r q7r _) _;unfold F83;dsimp only;refine pZ (P:=Sum.elim (fun y=>Rr (bi s) y.1) (fun y=>0≤y.1)) ?_ ?_
 · refine pL ?I ?h _ ?hv
   case I=>exact (fun v=>∃(k:Int) (o:List Int),0≤k∧k≤s.length∧Rr (bi (s.take k.toNat)) o∧v=(s,k,o,()))
   case hv=>exact ⟨0,[],Int.le_refl _,by omega,Rr.refl _,rfl⟩
   rintro v ⟨k,o,h0,h1,h2,rfl⟩;unfold kp;dsimp only;with_reducible repeat' (first|exact pN|apply pP|apply pX<;>intro _)
   · rename_i h3 h4
     have hlt:k.toNat<s.length:=by omega
     refine pZ (pA (b3u _).pf (m2h _ (by omega))) ?_;rintro ⟨n,r,u⟩ ⟨hn,hn0,hn1⟩;dsimp only at hn hn0 hn1 ⊢;rw [qh (n:=(s.length:Int)-k) (by omega)];with_reducible repeat' (first|exact pN|apply pP|apply pX<;>intro _)
     · exact h0
     · exact h0
     · rename_i h5 h6
       rw [qh (n:=k+1) (by omega)];refine pZ (d0r s n r k o h0 (by omega) hb h1) ?_;intro z hz;refine pS hz ?_ ?_
       · rintro y ⟨r',rfl,h7,h8⟩
         dsimp only;refine pZ pT ?_;rintro ⟨m,u⟩ -
         dsimp only;rw [qh (n:=n+1) (by omega),qh (n:=k+(n+1)) (by omega)];with_reducible repeat' (first|exact pN|apply pP|apply pX<;>intro _)
         · exact h0
         · refine ⟨_,_,by omega,by omega,?_,rfl⟩
           have e:s.take (k+(n+1)).toNat=s.take k.toNat++(s.drop k.toNat).take (n+1).toNat:=by
            rw [show (k+(n+1)).toNat=k.toNat+(n+1).toNat by omega,List.take_add]
           rw [e,xu];by_cases hz:n=0
           · have h9:=hn0 hz
             have e2:(s.drop k.toNat).take (n+1).toNat=[s[k.toNat]]:=by
              rw [show (n+1).toNat=1 by omega,List.drop_eq_getElem_cons hlt];rfl
             rw [e2];refine ap _ _ h2 fun _ => ?_;rw [h7 hz,h9.2,getD_lt hlt]
           · refine apn _ _ h2 ?_ (v6x s k.toNat (n+1).toNat fun j hj1 hj2 => ?_)
             · intro he
               have:=congrArg List.length he;simp only [bi,List.length_map,List.length_take,List.length_drop,List.length_nil] at this;omega
             · by_cases hjk:j=k.toNat
               · subst hjk
                 have:=hn1 (by omega);omega
               · exact h8 j (by omega) (by omega)
       · rintro ⟨a,b,u⟩ ha
         dsimp only at ha ⊢;exact pP (by rw [ha];exact h0)
   · rw [List.take_of_length_le (by omega)] at h2
     exact h2
 · intro r hr
   refine pS hr ?_ ?_
   · rintro ⟨a,u⟩ ha
     exact pP fun _=>ha
   · rintro ⟨a,b,u⟩ ha
     exact pP fun h=>by
      have h':a<0:=h;have ha':0≤a:=ha;omega
theorem m2i (x:Int):Pf (xm (x,())) (fun y=>(y.1=1→0≤x∧x≤127)∧(y.1≠1→y.1=0∨127<x)):=by
 show Pf (y1p xp _) _;unfold y1p;dsimp only;refine pZ (k9k x).pf ?_;rintro ⟨b,u⟩ hb;dsimp only at hb ⊢;with_reducible repeat' (first|exact pN|apply pP|apply pX<;>intro _)
 all_goals (dsimp only;refine ⟨fun h => ?_,fun h => ?_⟩;all_goals first|omega|(have:=hb (by assumption);omega)|(cases h))
theorem bi1 {r:Int} (h0:0≤r) (h1:r≤127):bi [UInt8.ofNat (IntKind.u8.wrap r).toNat]=[r]:=by
 have e:(UInt8.ofNat (IntKind.u8.wrap r).toNat).toNat=r.toNat:=by
  rw [w6y,UInt8.toNat_ofNat'];omega
 unfold bi;rw [List.map_cons,List.map_nil,e];congr 1;omega
theorem f5q (l:List Int) (hb:l.length≤20000000000000):Pf (z6a (l,())) (fun y=>(y.2.1=true→Rr l (bi y.1))∧(y.2.1=false→y.1=[])):=by
 show Pf (x8d xm q9b _) _;unfold x8d;dsimp only;refine pZ (P:=Sum.elim (fun y=>Rr l (bi y.1)) (fun y=>y.1=[]∧y.2.1=false)) ?_ ?_
 · refine pL ?I ?h _ ?hv
   case I=>exact (fun v=>∃(k:Int) (o:List UInt8),0≤k∧k≤l.length∧Rr (l.take k.toNat) (bi o)∧v=(l,(l.length:Int),k,o,()))
   case hv=>exact ⟨0,[],Int.le_refl _,by omega,Rr.refl _,rfl⟩
   rintro v ⟨k,o,h0,h1,h2,rfl⟩;unfold j7m;dsimp only;with_reducible repeat' (first|exact pN|apply pP|apply pX<;>intro _)
   · rename_i h3 h4
     have hlt:k.toNat<l.length:=by omega
     refine pZ (m2i _) ?_;rintro ⟨m,u⟩ ⟨hm1,hm2⟩;dsimp only at hm1 hm2 ⊢;have zg:∀ys:List UInt8,(kk (l.getD k.toNat 0)=true→bi ys=[l.getD k.toNat 0])→∃(k':Int) (o':List UInt8),0≤k'∧k'≤l.length∧Rr (l.take k'.toNat) (bi o')∧(l,(l.length:Int),IntKind.i64.wrap (k+1),o++ys,())=(l,(l.length:Int),k',o',()):=by
      intro ys hys;rw [qh (n:=k+1) (by omega)];refine ⟨_,_,by omega,by omega,?_,rfl⟩;rw [show (k+1).toNat=k.toNat+1 by omega,qg hlt,xu];rw [getD_lt hlt] at hys;exact ap _ _ h2 hys
     have hi:127<l.getD k.toNat 0→kk (l.getD k.toNat 0)=true→∀ys:List UInt8,bi ys=[l.getD k.toNat 0]:=fun h hk=>by
      have:=(q4j _).1 hk;omega
     with_reducible repeat' (first|exact pN|apply pP|apply pX<;>intro _)
     · exact ⟨rfl,rfl⟩
     · rename_i h5 h6 _
       have:=hm1 h6;exact zg _ fun _=>bi1 this.1 this.2
     · rename_i h5 h6 h7 _
       exact zg _ fun hk=>hi (by have:=hm2 h6;omega) hk _
     · rename_i h5 h6 h7 h8 _
       exact zg _ fun hk=>hi (by have:=hm2 h6;omega) hk _
     · rename_i h5 h6 h7 h8 h9 _
       exact zg _ fun hk=>hi (by have:=hm2 h6;omega) hk _
     · rename_i h5 h6 h7 h8 h9
       have:=zg [] fun hk=>hi (by have:=hm2 h6;omega) hk _;rw [List.append_nil] at this;exact this
   · rw [List.take_of_length_le (by omega)] at h2
     exact h2
 · intro r hr
   refine pS hr ?_ ?_
   · rintro ⟨a,u⟩ ha
     exact pP ⟨fun _=>ha,fun h=>by cases h⟩
   · rintro ⟨a,b,u⟩ ⟨ha,hb⟩
     exact pP ⟨fun h=>(by rw [hb] at h;cases h),fun _=>ha⟩
section
variable {T:List R6} {A:List R4} {B:List R3}
theorem m2x (r:Int):Pf (z2v (T,A,B,r,())) (fun y=>kk r=true→y.1=r):=by
 show Pf (x8g zz _) _;unfold x8g;dsimp only;with_reducible repeat' (first|exact pN|apply pP|apply pX<;>intro _)
 · exact fun _=>rfl
 · exact fun _=>rfl
 · exact pZ pT fun _ _=>pP fun hk=>by have:=(q4j _).1 hk;omega
theorem m2w (l:List Int) (hl:l.length≤1000000000000):Pf (x7j (l,T,A,B,())) (fun y=>Rr l y.1):=by
 show Pf (x8f z2v q9d _) _;unfold x8f;dsimp only;refine pZ (P:=fun y=>Rr l y.1) ?_ (fun _ h=>pP h);refine pL ?I ?h _ ?hv
 case I=>exact (fun v=>∃(k:Int) (o:List Int),0≤k∧k≤l.length∧Rr (l.take k.toNat) o∧v=(T,A,B,l,(l.length:Int),k,o,()))
 case hv=>exact ⟨0,[],Int.le_refl _,by omega,Rr.refl _,rfl⟩
 rintro v ⟨k,o,h0,h1,h2,rfl⟩;unfold j7o;dsimp only;with_reducible repeat' (first|exact pN|apply pP|apply pX<;>intro _)
 · have hlt:k.toNat<l.length:=by omega
   refine pZ (m2x _) ?_;rintro ⟨m,u⟩ hm;dsimp only at hm ⊢;rw [qh (n:=k+1) (by omega)];with_reducible repeat' (first|exact pN|apply pP|apply pX<;>intro _)
   refine ⟨_,_,by omega,by omega,?_,rfl⟩;rw [show (k+1).toNat=k.toNat+1 by omega,qg hlt];rw [getD_lt hlt] at hm;exact ap _ _ h2 fun hk=>by rw [hm hk]
 · rw [List.take_of_length_le (by omega)] at h2
   exact h2
theorem f5r (hK:KT T A B) (l:List Int) (hl:l.length≤1000000000000):Pf (j3v (l,T,A,B,())) (fun y=>Rr l y.1):=by
 show Pf (j4b j3w q1n _) _;unfold j4b;dsimp only;refine pZ (P:=fun y=>Rr l y.1) ?_ (fun _ h=>pP h);refine pL ?I ?h _ ?hv
 case I=>exact (fun v=>∃(k:Int) (o:List Int),0≤k∧k≤l.length∧Rr (l.take k.toNat) o∧v=(T,A,B,l,(l.length:Int),k,o,()))
 case hv=>exact ⟨0,[],Int.le_refl _,by omega,Rr.refl _,rfl⟩
 rintro v ⟨k,o,h0,h1,h2,rfl⟩;unfold q5i;dsimp only;with_reducible repeat' (first|exact pN|apply pP|apply pX<;>intro _)
 · have hlt:k.toNat<l.length:=by omega
   refine pZ (P:=fun y=>kk (l.getD k.toNat 0)=true→y.1=l.getD k.toNat 0) (fun y e hk=>by rw [hK.lo _ hk] at e;cases e;rfl) ?_;rintro ⟨m,u⟩ hm;dsimp only at hm ⊢;rw [qh (n:=k+1) (by omega)];with_reducible repeat' (first|exact pN|apply pP|apply pX<;>intro _)
   refine ⟨_,_,by omega,by omega,?_,rfl⟩;rw [show (k+1).toNat=k.toNat+1 by omega,qg hlt];rw [getD_lt hlt] at hm;exact ap _ _ h2 fun hk=>by rw [hm hk]
 · rw [List.take_of_length_le (by omega)] at h2
   exact h2
theorem m2r (l:List Int) (hl:l.length≤1000000000000):Pf (x7i (T,A,B,l,())) (fun y=>Rr l y.1):=by
 unfold x7i v4x;dsimp only;exact pZ (m2w l hl) fun _ h=>pP h
theorem m2q (hK:KT T A B) (l:List Int) (hl:l.length≤1000000000000):Pf (x7h (T,A,B,l,())) (fun y=>Rr l y.1):=by
 unfold x7h v4w;dsimp only;exact pZ (f5r hK l hl) fun _ h=>pP h
theorem k2e:(qv.all fun s => !kk s.1)=true:=by kernel_rfl
theorem f6j:((qv.filter fun s => !s.2.2.2.1 && !s.2.2.2.2).all fun s => !kk s.2.1 && !kk s.2.2.1)=true:=by kernel_rfl
theorem b3m {r:Int} (hk:kk r=true):zz (T,A,B,r,())=some (0,0,0,false,false,false,()):=by
 have h:=(q4j r).1 hk;unfold zz;dsimp only;have e:(decide (65281≤r)&&decide (r≤65374))=false:=by simp;omega
 rw [e];have hs:q2z r=none:=by
  unfold q2z;rw [List.find?_eq_none];intro s hs he;have h1:=List.all_eq_true.1 k2e s hs;have h2:r=s.1:=by simpa using he
  rw [←h2,hk] at h1;cases h1
 rw [hs];rfl
theorem w6n (a b c:Int):Pf (yk (a,b,c,())) (fun y=>y.1=true→b≤a):=by
 show Pf (y1q _) _;unfold y1q;dsimp only;with_reducible repeat' (first|exact pN|apply pP|apply pX<;>intro _)
 · exact fun _=>by omega
 · exact fun h=>by cases h
theorem b3q {r:Int} (hk:kk r=true):yk (r,44032,11172,())=some (false,()):=by
 have h:=(q4j r).1 hk;show y1q _=_;unfold y1q;dsimp only;rw [decide_eq_false (by omega)];rfl
theorem m3p (r:Int) (sf:Bool):Pf (z2x (T,A,B,r,sf,())) (fun y=>kk r=true→y.1=[r]):=by
 show Pf (q1x (fun G=>j4c zz G yk km ke (yt zz G yk km ke)) je _) _;refine pRn (P:=fun (v:List R6×List R4×List R3×Int×Bool×Unit) (y:List Int×Unit)=>kk v.2.2.2.1=true→y.1=[v.2.2.2.1]) ?_ je _;rintro G - ⟨T,A,B,r,sf,u⟩;by_cases hk:kk r=true
 · show Pf (j4c zz G yk km ke (yt zz G yk km ke) (T,A,B,r,sf,())) _
   unfold j4c;dsimp only;simp only [b3m hk,Option.bind_some,b3q hk,Bool.not_false,cond_true,cond_false];unfold yt;dsimp only;simp only [cond_true,Option.bind_some,Sum.elim_inl];exact pP fun _=>rfl
 · exact pM pT fun _ _ h=>absurd h hk
theorem m3d (l:List Int) (sf:Bool) (hl:l.length≤100000000000):Pf (v2n (T,A,B,l,sf,())) (fun y=>Rr l y.1):=by
 show Pf (x8h z2x q9h _) _;unfold x8h;dsimp only;refine pZ (P:=fun y=>Rr l y.1) ?_ (fun _ h=>pP h);refine pL ?I ?h _ ?hv
 case I=>exact (fun v=>∃(k:Int) (o:List Int),0≤k∧k≤l.length∧Rr (l.take k.toNat) o∧v=(sf,l,(l.length:Int),k,T,A,B,o,()))
 case hv=>exact ⟨0,[],Int.le_refl _,by omega,Rr.refl _,rfl⟩
 rintro v ⟨k,o,h0,h1,h2,rfl⟩;unfold j7u;dsimp only;with_reducible repeat' (first|exact pN|apply pP|apply pX<;>intro _)
 · have hlt:k.toNat<l.length:=by omega
   refine pZ (m3p _ _) ?_;rintro ⟨z,u⟩ hz;dsimp only at hz ⊢;rw [qh (n:=k+1) (by omega)];with_reducible repeat' (first|exact pN|apply pP|apply pX<;>intro _)
   refine ⟨_,_,by omega,by omega,?_,rfl⟩;rw [show (k+1).toNat=k.toNat+1 by omega,qg hlt];rw [getD_lt hlt] at hz;exact ap _ _ h2 hz
 · rw [List.take_of_length_le (by omega)] at h2
   exact h2
theorem m3t (a b:Int):Pf (q3p (T,A,B,a,b,())) (fun y=>y.2.1=true→kk a=false∧kk b=false):=by
 unfold q3p;dsimp only;cases hp:z2l a b with
 | none=>exact pP fun h=>by cases h
 | some s =>
  refine pP fun _ => ?_;unfold z2l at hp;have h1:=List.all_eq_true.1 f6j s (List.mem_of_find?_eq_some hp);have h2:=List.find?_some hp;simp only [Bool.and_eq_true,beq_iff_eq,Bool.not_eq_true'] at h1 h2;rw [h2.1,h2.2];exact h1
theorem f5w (a b:Int) (f:Bool) (hf:f=true→128≤a∧128≤b):Pf (wb (a,b,f,T,A,B,())) (Sum.elim (fun y=>y.2.1=true→kk a=false∧kk b=false) (fun y=>y=(a,b,T,A,B,()))):=by
 show Pf (q5k yk q3p _) _;unfold q5k;dsimp only;with_reducible repeat' (first|exact pN|apply pP|apply pX<;>intro _)
 · rename_i h
   have:=hf h;exact fun _=>⟨y3p this.1,y3p this.2⟩
 · refine pZ (w6n _ _ _) ?_
   rintro ⟨z,u⟩ hz;dsimp only at hz ⊢;with_reducible repeat' (first|exact pN|apply pP|apply pX<;>intro _)
   · rename_i h1 h2
     have h3:=hz h1;refine pZ (w6n _ _ _) ?_;rintro ⟨z,u⟩ hz';dsimp only at hz' ⊢;with_reducible repeat' (first|exact pN|apply pP|apply pX<;>intro _)
     · rename_i h4
       have h5:=hz' h4;exact fun _=>⟨y3p (by omega),y3p (by omega)⟩
     · exact rfl
   all_goals exact rfl
theorem m3q (a b:Int):Pf (q9q (T,A,B,a,b,())) (fun y=>y.2.1=true→kk a=false∧kk b=false):=by
 show Pf (x8k yk q3p wb _) _;unfold x8k;dsimp only;have zg:∀f,(f=true→128≤a∧128≤b)→Pf ((wb (a,b,f,T,A,B,())).bind fun val=>Sum.elim (fun val=>some (val.fst,val.snd.fst,())) (fun val=>(q3p (val.snd.snd.fst,val.snd.snd.snd.fst,val.snd.snd.snd.snd.fst,val.fst,val.snd.fst,())).bind fun val=>some (val.fst,val.snd.fst,())) val) (fun y=>y.2.1=true→kk a=false∧kk b=false):=by
  intro f hf;refine pZ (f5w a b f hf) ?_;intro z hz;refine pS hz ?_ ?_
  · rintro ⟨y1,y2,u⟩ h
    exact pP h
  · rintro y rfl
    refine pZ (m3t a b) ?_;rintro ⟨y1,y2,u⟩ h;exact pP h
 refine pZ (w6n _ _ _) ?_;rintro ⟨z,u⟩ hz;dsimp only at hz ⊢;with_reducible repeat' (first|exact pN|apply pP|apply pX<;>intro _)
 · rename_i h1
   have h2:=hz h1;refine pZ (w6n _ _ _) ?_;rintro ⟨z,u⟩ hz';dsimp only at hz' ⊢;exact zg _ fun h=>⟨by omega,by have:=hz' h;omega⟩
 · exact zg _ fun h=>by cases h
theorem f5t (x0 x1 x2 x3:Int) (x4:List Int) (x5 x6:Int) (x7:Bool) (x8:List R6) (x9:List R4) (x10:List R3) (x11:List Int) :
 Pf (q2j (x0,x1,x2,x3,x4,x5,x6,x7,x8,x9,x10,x11,())) (Sum.elim (fun y=>∃v,kk (x11.getD x0.toNat 0)=false∧kk x2=false∧y=(x0,x1,x4,x5,x6,x8,x9,x10,x11.set x0.toNat v,())) (fun y=>y=(x0,x1,x2,x3,x4,x5,x6,x8,x9,x10,x11,()))):=by
 show Pf (q5j xq q9q _) _;unfold q5j;dsimp only;with_reducible repeat' (first|exact pN|apply pP|apply pX<;>intro _)
 · refine pZ (m3q _ _) ?_
   rintro ⟨a,b,u⟩ hab;dsimp only at hab ⊢;with_reducible repeat' (first|exact pN|apply pP|apply pX<;>intro _)
   · rename_i h1 _
     have:=hab h1;exact ⟨_,this.1,this.2,rfl⟩
   · exact rfl
 · exact rfl
theorem m3e (l:List Int) (hl:l.length≤10000000000000):Pf (v2o (T,A,B,l,())) (fun y=>Rr l y.1):=by
 show Pf (x8i xq q9q q9i _) _;unfold x8i;dsimp only;refine pZ (P:=fun y=>Rr l y.1) ?_ (fun _ h=>pP h);refine pL ?I ?h _ ?hv
 case I=>exact (fun v=>∃(st la k:Int) (o:List Int),0≤k∧k≤l.length∧Rr (l.take k.toNat) o∧v=(st,la,l,(l.length:Int),k,T,A,B,o,()))
 case hv=>exact ⟨-1,0,0,[],Int.le_refl _,by omega,Rr.refl _,rfl⟩
 rintro v ⟨st,la,k,o,h0,h1,h2,rfl⟩;have zg:∀(cl:Int) (f:Bool),k<l.length→Pf ((q2j (st,la,l.getD k.toNat 0,cl,l,(l.length:Int),k,f,T,A,B,o,())).bind fun val =>
  Sum.elim (fun val=>some (Sum.inl (val.fst,val.snd.fst,val.snd.snd.fst,val.snd.snd.snd.fst,IntKind.i64.wrap (val.snd.snd.snd.snd.fst+1),val.snd.snd.snd.snd.snd.fst,val.snd.snd.snd.snd.snd.snd.fst,val.snd.snd.snd.snd.snd.snd.snd.fst,val.snd.snd.snd.snd.snd.snd.snd.snd.fst,())))
   (fun val=>bif decide (List.length val.snd.snd.snd.snd.snd.snd.snd.snd.snd.snd.fst+[val.snd.snd.fst].length≤140737488355328/4) then
    bif val.snd.snd.snd.fst==0 then some (Sum.inl (IntKind.i64.wrap ((↑(val.snd.snd.snd.snd.snd.snd.snd.snd.snd.snd.fst++[val.snd.snd.fst]).length:Int)-1),0,val.snd.snd.snd.snd.fst,val.snd.snd.snd.snd.snd.fst,IntKind.i64.wrap (val.snd.snd.snd.snd.snd.snd.fst+1),val.snd.snd.snd.snd.snd.snd.snd.fst,val.snd.snd.snd.snd.snd.snd.snd.snd.fst,val.snd.snd.snd.snd.snd.snd.snd.snd.snd.fst,val.snd.snd.snd.snd.snd.snd.snd.snd.snd.snd.fst++[val.snd.snd.fst],()))
    else some (Sum.inl (val.fst,if val.snd.snd.snd.fst>val.snd.fst then val.snd.snd.snd.fst else val.snd.fst,val.snd.snd.snd.snd.fst,val.snd.snd.snd.snd.snd.fst,IntKind.i64.wrap (val.snd.snd.snd.snd.snd.snd.fst+1),val.snd.snd.snd.snd.snd.snd.snd.fst,val.snd.snd.snd.snd.snd.snd.snd.snd.fst,val.snd.snd.snd.snd.snd.snd.snd.snd.snd.fst,val.snd.snd.snd.snd.snd.snd.snd.snd.snd.snd.fst++[val.snd.snd.fst],()))
    else none) val)
  (Sum.elim (fun v':Int×Int×List Int×Int×Int×List R6×List R4×List R3×List Int×Unit=>∃(st la k:Int) (o:List Int),0≤k∧k≤l.length∧Rr (l.take k.toNat) o∧v'=(st,la,l,(l.length:Int),k,T,A,B,o,())) (fun y:List Int×Unit=>Rr l y.1)):=by
  intro cl f hlt;have hlt':k.toNat<l.length:=by omega
  refine pZ (f5t _ _ _ _ _ _ _ _ _ _ _ _) ?_;intro z hz;refine pS hz ?_ ?_
  · rintro y ⟨v,h3,h4,rfl⟩
    dsimp only;rw [qh (n:=k+1) (by omega)];refine pP ⟨_,_,_,_,by omega,by omega,?_,rfl⟩;rw [show (k+1).toNat=k.toNat+1 by omega,qg hlt'];rw [getD_lt hlt'] at h4;exact Rr.set _ h2 h4 _ _ h3
  · rintro y rfl
    dsimp only;rw [qh (n:=k+1) (by omega)];with_reducible repeat' (first|exact pN|apply pP|apply pX<;>intro _)
    all_goals
     refine ⟨_,_,_,_,by omega,by omega,?_,rfl⟩;rw [show (k+1).toNat=k.toNat+1 by omega,qg hlt',getD_lt hlt'];exact ap _ _ h2 fun _=>rfl
 unfold j7v;dsimp only;with_reducible repeat' (first|exact pN|apply pP|apply pX<;>intro _)
 · rename_i h4 h5
   refine pZ pT ?_;rintro ⟨cl,u⟩ -
   dsimp only;with_reducible repeat' (first|exact pN|apply pP|apply pX<;>intro _)
   all_goals exact zg _ _ (by omega)
 · rw [List.take_of_length_le (by omega)] at h2
   exact h2
theorem m2y (h:TK T A B) (hK:KT T A B) (s:List UInt8) (a:Bool) (hs:s.length≤100000000000):Pf (y5q (T,A,B,s,a,true,())) (fun y=>y.2.1=true→Rr (bi s) (bi y.1)):=by
 unfold y5q k4n;dsimp only;refine pZ (pA (d83 s (by omega)).pf (p83 s (by omega))) ?_;rintro ⟨l,at_,u⟩ ⟨hl,hl'⟩;dsimp only at hl hl' ⊢;with_reducible repeat' (first|exact pN|apply pP|apply pX<;>intro _)
 · exact fun h=>by cases h
 · rename_i hat
   have r1:=hl' (by omega);refine pZ (pA (b4i T A B l a (by omega)).pf (m3d l a (by omega))) ?_;rintro ⟨l2,u⟩ ⟨h2,r2⟩;dsimp only at h2 r2 ⊢;refine pZ (pA (b4h h.a l2 (by omega)).pf (m3c hK l2 (by omega))) ?_;rintro ⟨l3,u⟩ ⟨h3,r3⟩;dsimp only at h3 r3 ⊢;refine pZ (pA (b4j T A B l3 (by omega) h.a).pf (m3e l3 (by omega))) ?_;rintro ⟨l4,u⟩ ⟨h4,r4⟩;dsimp only at h4 r4 ⊢;refine pZ (f5q l4 (by omega)) ?_;rintro ⟨s5,b5,u⟩ ⟨h5,-⟩;exact pP fun hb=>((r1.trans r2).trans (r3.trans r4)).trans (h5 hb)
theorem m2s (h:TK T A B) (hK:KT T A B) (s:List UInt8) (hs:s.length≤100000000000):Pf (z6b (T,A,B,s,())) (fun y=>y.2.1=true→Rr (bi s) (bi y.1)):=by
 unfold z6b k4h;dsimp only;refine pZ (m2y h hK s false hs) ?_;rintro ⟨x,b,u⟩ hx;exact pP hx
theorem d0j (h:TK T A B) (hK:KT T A B) (s:List UInt8) (hs:s.length≤10000000000):Pf (j9n (T,A,B,s,())) (fun y=>y.2.1=true→y.1=[]∨Rr (bi s) (bi y.1)):=by
 unfold j9n v4u;dsimp only;refine pZ (pA (d83 s (by omega)).pf (p83 s (by omega))) ?_;rintro ⟨l,at_,u⟩ ⟨hl,hl'⟩;dsimp only at hl hl' ⊢;with_reducible repeat' (first|exact pN|apply pP|apply pX<;>intro _)
 · exact fun h=>by cases h
 · have r1:=hl' (by omega)
   refine pZ (pA (b4a T A B l (by omega)).pf (m2r l (by omega))) ?_;rintro ⟨l2,u⟩ ⟨h2,r2⟩;dsimp only at h2 r2 ⊢;refine pZ (pA (b3z T A B h.b l2 (by omega)).pf (m2q hK l2 (by omega))) ?_;rintro ⟨l3,u⟩ ⟨h3,r3⟩;dsimp only at h3 r3 ⊢;refine pZ (pA (v1b l3 (by omega)).pf (f5q l3 (by omega))) ?_;rintro ⟨s4,b4,u⟩ ⟨h4,h5,h6⟩;dsimp only at h4 h5 h6 ⊢;refine pZ (pA (f1f h s4 (by omega)).pf (m2s h hK s4 (by omega))) ?_;rintro ⟨s5,b5,u⟩ ⟨h7,h8⟩;refine pP fun hb => ?_;dsimp only at h7 h8 hb ⊢;cases b4 with
   | true=>exact .inr ((r1.trans r2).trans ((r3.trans (h5 rfl)).trans (h8 hb)))
   | false =>
    rw [h6 rfl] at h7;exact .inl (List.eq_nil_of_length_eq_zero (by simpa using h7))
end
theorem q6s {s:List UInt8} {p:Nat} (h:p<s.length) (hc:s[p].toNat<128):vd s p=(s[p].toNat,1):=by
 have e:((⟨⟨s⟩⟩:ByteArray).get! (p+0))=s[p]:=by
  show (⟨s⟩:Array UInt8)[p+0]! = _;rw [Nat.add_zero,getElem!_pos _ _ (by simpa using h)];simp
 simp only [vd,Utf8.decode,e];rw [if_pos hc]
theorem f5v:((List.range 128).all fun n => !kk (n:Int)||(match j9s ((n:Int),()) with|some (b,_)=>b|none=>false))=true:=by kernel_rfl
theorem b3p {x:Int} (hk:kk x=true):Pf (j9s (x,())) (fun y=>y.1=true):=by
 have h:=(q4j x).1 hk;have h1:=List.all_eq_true.1 f5v x.toNat (List.mem_range.2 (by omega))
 rw [show ((x.toNat:Nat):Int)=x by omega,hk] at h1;intro y hy;rw [hy] at h1;simpa using h1
theorem m2m (s:List UInt8) (hs:s.length≤1000000000000000) (ha:∀c∈s,c.toNat<128) (hk:∃x∈bi s,kk x=true):Pf (y5n (s,true,())) (fun y=>0≤y.1):=by
 unfold y5n k4a;dsimp only;refine pZ (P:=Sum.elim (fun y=>0≤y.1) (fun _=>False)) ?_ ?_
 · refine pL ?I ?h _ ?hv
   case I=>exact (fun v=>∃p:Nat,v=(true,(s,(p:Int)),())∧∀x∈bi (s.take p),kk x=false)
   case hv=>exact ⟨0,rfl,fun x hx=>by cases hx⟩
   rintro v ⟨p,rfl,h1⟩;unfold j7j;dsimp only;simp only [Int.toNat_natCast];with_reducible repeat' (first|exact pN|apply pP|apply pX<;>intro _)
   · rename_i hp
     rw [q6s hp (ha _ (List.getElem_mem hp))];dsimp only;have hnk:kk ((s[p].toNat:Nat):Int)=true→Pf (j9s (((s[p].toNat:Nat):Int),())) (fun y=>y.1=true):=b3p;refine pZ (P:=fun y=>kk ((s[p].toNat:Nat):Int)=true→y.1=true) (fun y e hk=>hnk hk y e) ?_;rintro ⟨b,u⟩ hb;dsimp only at hb ⊢;cases b with
     | true=>exact pP (by show (0:Int)≤(p:Int);omega)
     | false =>
      refine pP ⟨p+1,rfl,fun x hx => ?_⟩;rw [qg hp,xu] at hx;rcases List.mem_append.1 hx with hx|hx
      · exact h1 x hx
      · have hx':x=((s[p].toNat:Nat):Int):=by simpa [bi] using hx
        subst hx';cases hkx:kk ((s[p].toNat:Nat):Int) with
        | false=>rfl
        | true=>have:=hb hkx;cases this
   · rename_i hp
     obtain ⟨x,hx,hxk⟩:=hk;rw [List.take_of_length_le (by omega)] at h1;rw [h1 x hx] at hxk;cases hxk
 · intro z hz
   refine pS hz ?_ ?_
   · rintro ⟨a,u⟩ h
     exact pP h
   · intro u h
     exact h.elim
theorem p84 (s:List UInt8) (hs:s.length≤1000000000000000) (ha:∀c∈s,c.toNat<128) (hk:∃x∈bi s,kk x=true):Pf (C84 (s,())) (fun y=>y.1=true):=by
 unfold C84 F84;dsimp only;refine pZ (P:=fun y=>0≤y.1) ?_ ?_
 · unfold v2g k3m
   dsimp only;exact pZ (m2m s hs ha hk) fun _ h=>pP h
 · rintro ⟨a,u⟩ h
   refine pP ?_;dsimp only at h ⊢;exact decide_eq_true h
theorem m3a (s:List UInt8) (hs:s.length≤1000000000000000) (ha:∀c∈s,c.toNat<128) (hk:s=[]∨∃x∈bi s,kk x=true):Pf (y1g (s,())) (fun y=>y.1≠0):=by
 rcases hk with rfl|hk
 · have e:y1g ([],())=some (13,()):=by kernel_rfl
   rw [e];exact pP (by decide)
 unfold y1g k4t;dsimp only;refine pZ (P:=fun y=>y.1≠0) ?_ (fun _ h=>pP h);unfold j9r z7s;dsimp only;refine pZ (P:=fun y=>y.2.1=s) (pP rfl) ?_;rintro ⟨b,s1,u⟩ h1;dsimp only at h1 ⊢;subst h1;with_reducible repeat' (first|exact pN|apply pP|apply pX<;>intro _)
 · exact (by decide:(13:Int)≠0)
 · refine pZ (P:=fun y=>y.2.1=s1) (pP rfl) ?_
   rintro ⟨b,s2,u⟩ h2;dsimp only at h2 ⊢;subst h2;with_reducible repeat' (first|exact pN|apply pP|apply pX<;>intro _)
   · exact (by decide:(5:Int)≠0)
   · refine pZ (P:=fun y=>y.1=true∧y.2.1=s2) ?_ ?_
     · unfold v2u k5j
       dsimp only;refine pZ (p84 s2 hs ha hk) ?_;intro y hy;exact pP ⟨hy,rfl⟩
     rintro ⟨b,s3,u⟩ ⟨h3,h4⟩;dsimp only at h3 h4 ⊢;subst h3 h4;exact pP (by decide:(8:Int)≠0)
section
variable {T:List R6} {A:List R4} {B:List R3}
theorem f5u:((List.range 128).all fun n=>match z6i ((n:Int),()) with|some (.inr (.inr (.inr (.inr (.inr (.inr (.inr (.inr _))))))))=>true|_=>false)=true:=by kernel_rfl
theorem b3l {x:Int} (h0:0≤x) (h1:x<128):z6i (x,())=some (.inr (.inr (.inr (.inr (.inr (.inr (.inr (.inr ())))))))):=by
 have h:=List.all_eq_true.1 f5u x.toNat (List.mem_range.2 (by omega))
 rw [show ((x.toNat:Nat):Int)=x by omega] at h;revert h;cases hc:z6i (x,()) with
 | none=>intro h;cases h
 | some z =>
  rcases z with z|z|z|z|z|z|z|z|z;all_goals intro h;first|rfl|cases h
theorem m2t (l:List Int) (p:Int) (hk:kk (l.getD p.toNat 0)=true):Pf (z2u (T,A,B,l,p,())) (fun y=>y.1=0):=by
 have h:=(q4j _).1 hk;show Pf (x8e z6i x7m x7n z6q x7r x7s x7t x7u x7v _) _;unfold x8e;dsimp only;with_reducible repeat' (first|exact pN|apply pP|apply pX<;>intro _)
 · exact rfl
 · exact rfl
 · rw [b3l h.1 h.2.1]
   exact pP rfl
theorem m3k (hK:KT T A B) (l:List Int) (hl:l.length≤1000000000000) (hk:∃x∈l,kk x=true):Pf (x7p (T,A,B,l,())) (fun y=>y.1=true):=by
 show Pf (x8j z2u j3x q9m _) _;unfold x8j;dsimp only;refine pZ (P:=Sum.elim (fun _=>False) (fun y=>y.1=true)) ?_ ?_
 · refine pL ?I ?h _ ?hv
   case I=>exact (fun v=>∃k:Int,0≤k∧k≤l.length∧(∀x∈l.take k.toNat,kk x=false)∧v=(l,l,(l.length:Int),k,T,A,B,()))
   case hv=>exact ⟨0,Int.le_refl _,by omega,fun x hx=>(by cases hx),rfl⟩
   rintro v ⟨k,h0,h1,h2,rfl⟩;unfold j7y;dsimp only;with_reducible repeat' (first|exact pN|apply pP|apply pX<;>intro _)
   · have hlt:k.toNat<l.length:=by omega
     refine pZ (P:=fun y=>kk (l.getD k.toNat 0)=true→y.1=0) (fun y e hk=>m2t l k hk y e) ?_;rintro ⟨b,u⟩ hb;dsimp only at hb ⊢;have zg:kk (l.getD k.toNat 0)=false→∃k':Int,0≤k'∧k'≤l.length∧(∀x∈l.take k'.toNat,kk x=false)∧(l,l,(l.length:Int),IntKind.i64.wrap (k+1),T,A,B,())=(l,l,(l.length:Int),k',T,A,B,()):=by
      intro hn;rw [qh (n:=k+1) (by omega)];refine ⟨_,by omega,by omega,fun x hx => ?_,rfl⟩;rw [show (k+1).toNat=k.toNat+1 by omega,qg hlt] at hx;rcases List.mem_append.1 hx with hx|hx
      · exact h2 x hx
      · rw [List.mem_singleton] at hx
        rw [getD_lt hlt] at hn;subst hx;exact hn
     with_reducible repeat' (first|exact pN|apply pP|apply pX<;>intro _)
     · exact rfl
     · refine pZ (P:=fun y=>kk (l.getD k.toNat 0)=true→y.1=false) (fun y e hk=>by rw [hK.ca _ hk] at e;cases e;rfl) ?_
       rintro ⟨c,u⟩ hc;dsimp only at hc ⊢;with_reducible repeat' (first|exact pN|apply pP|apply pX<;>intro _)
       · exact rfl
       · rename_i hct
         refine zg ?_;cases hkx:kk (l.getD k.toNat 0) with
         | false=>rfl
         | true=>rw [hc hkx] at hct;cases hct
     · rename_i hb1 hb2
       refine zg ?_;cases hkx:kk (l.getD k.toNat 0) with
       | false=>rfl
       | true=>exact (hb2 (hb hkx)).elim
   · obtain ⟨x,hx,hxk⟩:=hk
     rw [List.take_of_length_le (by omega)] at h2;rw [h2 x hx] at hxk;cases hxk
 · intro z hz
   refine pS hz ?_ ?_
   · intro u h
     exact h.elim
   · rintro ⟨b,u⟩ h
     exact pP h
theorem m3g (s:List UInt8):Pf (y1k (s,T,A,B,())) (fun y=>y.2=(s,T,A,B,())):=by
 unfold y1k v5b;dsimp only;refine pZ pT ?_;rintro ⟨x,u⟩ -
 dsimp only;with_reducible repeat' (first|exact pN|apply pP|apply pX<;>intro _)
 · exact rfl
 · exact pZ pT fun _ _=>pP rfl
theorem m3h (a:List UInt8):Pf (y5u (a,())) (fun y=>y.2.1=a):=by
 unfold y5u k5h;dsimp only;exact pZ pT fun _ _=>pP rfl
theorem m3i (l:List Int):Pf (y5w (T,A,B,l,())) (fun y=>y.2=(T,A,B,l,())):=by
 unfold y5w k5i;dsimp only;with_reducible repeat' (first|exact pN|apply pP|apply pX<;>intro _)
 exact pZ pT fun _ _=>pP rfl
theorem m3j (hK:KT T A B) (l:List Int) (hl:l.length≤1000000000000) (hk:∃x∈l,kk x=true):Pf (x7o (T,A,B,l,())) (fun y=>y.1=true):=by
 unfold x7o v5c;dsimp only;exact pZ (m3k hK l hl hk) fun _ h=>pP h
theorem m3f (hK:KT T A B) (at_:Int) (s:List UInt8) (l:List Int) (c:List UInt8) (d:Bool) (hl:l.length≤100000000000) (h0:at_<0→∃x∈l,kk x=true) :
 Pf (y1j (7,4,11,10,8,9,12,5,at_,s,T,A,B,l,c,d,())) (fun y=>y.1≠0):=by
 unfold y1j v5a;dsimp only;refine pZ (P:=fun y=>y.1=false→at_<0) (pP fun h=>by
  have h':decide (at_≥0)=false:=h;simp only [decide_eq_false_iff_not] at h';omega) ?_
 rintro ⟨b,at',u⟩ hb;dsimp only at hb ⊢;with_reducible repeat' (first|exact pN|apply pP|apply pX<;>intro _)
 · exact (by decide:(7:Int)≠0)
 · rename_i h1
   have hk:=h0 (hb h1);refine pZ (m3g s) ?_;rintro ⟨b2,y⟩ hy;dsimp only at hy;subst hy;dsimp only;with_reducible repeat' (first|exact pN|apply pP|apply pX<;>intro _)
   · exact (by decide:(4:Int)≠0)
   · refine pZ (m3h s) ?_
     rintro ⟨b3,s',u⟩ hs';dsimp only at hs' ⊢;with_reducible repeat' (first|exact pN|apply pP|apply pX<;>intro _)
     · exact (by decide:(11:Int)≠0)
     · refine pZ (m3i l) ?_
       rintro ⟨b4,y⟩ hy;dsimp only at hy;subst hy;dsimp only;with_reducible repeat' (first|exact pN|apply pP|apply pX<;>intro _)
       · exact (by decide:(10:Int)≠0)
       · refine pZ (m3j hK l (by omega) hk) ?_
         rintro ⟨b5,y⟩ hy;dsimp only at hy;subst hy;exact pP (by decide:(8:Int)≠0)
theorem m2z (hK:KT T A B) (s:List UInt8) (hs:s.length≤100000000000) (hk:∃x∈bi s,kk x=true):Pf (z6k (T,A,B,s,())) (fun y=>y.1≠0):=by
 unfold z6k v4z;dsimp only;refine pZ (pA (d83 s (by omega)).pf (p83 s (by omega))) ?_;rintro ⟨l,at_,u⟩ ⟨hl,hl'⟩;dsimp only at hl hl' ⊢;refine pZ (m3f hK at_ s l _ _ (by omega) fun h=>(hl' h).mem hk) ?_;rintro ⟨e,y⟩ h;exact pP h
theorem f5x:((List.range 256).all fun n=>match j4a ((n:Int),()) with|some (_,b,_) => !b || !kk (n:Int)|none=>true)=true:=by kernel_rfl
theorem m3r (c:UInt8):Pf (j4a ((c.toNat:Int),())) (fun y=>y.2.1=true→kk (c.toNat:Int)=false):=by
 have h:=List.all_eq_true.1 f5x c.toNat (List.mem_range.2 c.toNat_lt)
 intro y hy hb;rw [hy] at h;obtain ⟨a,b,u⟩:=y;dsimp only at h hb;rw [hb] at h;simpa using h
theorem m3m (s:List UInt8) (b:Int) (hs:s.length≤1000000000000):Pf (j6d (s,b,())) (fun y=>(∃x∈bi s,kk x=true)→y.1<0∨∃x∈bi y.2.1,kk x=true):=by
 unfold j6d k5l;dsimp only;refine pZ (P:=Sum.elim (fun _=>True) (Sum.elim (fun _=>True) (fun y=>∃k:Nat,y.2.1=s.drop k∧∀x∈bi (s.take k),kk x=false))) ?_ ?_
 · refine pL ?I ?h _ ?hv
   case I=>exact (fun v=>∃(n w k:Int),0≤k∧k≤s.length∧(∀x∈bi (s.take k.toNat),kk x=false)∧v=(s,b,n,w,(s.length:Int),k,()))
   case hv=>exact ⟨_,_,0,Int.le_refl _,by omega,fun x hx=>(by cases hx),rfl⟩
   rintro v ⟨n,w,k,h0,h1,h2,rfl⟩;unfold j7z;dsimp only;with_reducible repeat' (first|exact pN|apply pP|apply pX<;>intro _)
   · have hlt:k.toNat<s.length:=by omega
     refine pZ (m3r _) ?_;rintro ⟨d,ok,u⟩ hd;dsimp only at hd ⊢;have hst:ok=true→∀x∈bi (s.take (k.toNat+1)),kk x=false:=by
      intro hok x hx;rw [qg hlt,xu] at hx;rcases List.mem_append.1 hx with hx|hx
      · exact h2 x hx
      · have hx':x=((s[k.toNat].toNat:Nat):Int):=by simpa [bi] using hx
        have:=hd hok;rw [getD_lt hlt] at this;subst hx';exact this
     rw [qh (n:=k+1) (by omega)];with_reducible repeat' (first|exact pN|apply pP|apply pX<;>intro _)
     · trivial
     · trivial
     · trivial
     · rename_i h3 h4 h5
       refine pZ pT ?_;rintro ⟨t,u⟩ -
       dsimp only;have hst':=hst h3;rw [show k.toNat+1=(k+1).toNat by omega] at hst';with_reducible repeat' (first|exact pN|apply pP|apply pX<;>intro _)
       · exact ⟨_,rfl,hst'⟩
       · exact ⟨_,_,_,by omega,by omega,hst',rfl⟩
   · trivial
 · intro z hz
   refine pS hz ?_ ?_
   · intro u _
     exact pP fun _ => .inl (by decide)
   · intro z2 hz2
     refine pS hz2 ?_ ?_
     · intro u _
       refine pZ (P:=fun y=>y.1<0) ?_ ?_
       · refine pL ?I ?h _ ?hv
         case I=>exact (fun _=>True)
         case hv=>exact trivial
         intro v _;unfold q9z;exact pP (by decide:(-1:Int)<0)
       · rintro ⟨a,b,u⟩ h
         exact pP fun _ => .inl h
     · rintro ⟨a,b,u⟩ ⟨k,hk,hn⟩
       dsimp only at hk;subst hk;refine pP ?_;rintro ⟨x,hx,hxk⟩;rw [←List.take_append_drop k s,xu] at hx;rcases List.mem_append.1 hx with hx|hx
       · rw [hn x hx] at hxk;cases hxk
       · exact .inr ⟨x,hx,hxk⟩
theorem m3n (i:Int) (l v:List Int):Pf (j3z (i,l,v,())) (fun y=>∀z∈l,z∈y.1):=by
 unfold j3z;dsimp only;cases h:((decide (0≤i)&&decide (i≤(l.length:Int)))&&(decide (v.length=1)&&decide (l.length≤1000000000000))) with
 | false=>exact pN
 | true =>
  refine pP fun z hz => ?_;rw [←List.take_append_drop i.toNat l] at hz;simp only [List.mem_append] at hz ⊢;rcases hz with hz|hz
  · exact .inl (.inl hz)
  · exact .inr hz
theorem k1u (s:List UInt8) (out:List Int) (hs:s.length≤1000000000000) (h:(∃x∈bi s,kk x=true)∨∃x∈out,kk x=true):Pf (q2i (s,out,())) (fun y=>y.1=true→∃x∈y.2.1,kk x=true):=by
 unfold q2i j7q;dsimp only;refine pZ (P:=Sum.elim (fun y=>∃x∈y.1,kk x=true) (fun y=>y.1=false)) ?_ ?_
 · refine pL ?I ?h _ ?hv
   case I=>exact (fun v=>∃(s:List UInt8) (a b c:Int) (d:Bool) (out:List Int),s.length≤1000000000000∧((∃x∈bi s,kk x=true)∨∃x∈out,kk x=true)∧v=(s,a,b,c,d,out,()))
   case hv=>exact ⟨_,_,_,_,_,_,hs,h,rfl⟩
   rintro v ⟨s,a,b,c,d,out,hs,h,rfl⟩;unfold j7r;dsimp only;with_reducible repeat' (first|exact pN|apply pP|apply pX<;>intro _)
   · refine pZ (pA (b4o s c hs).pf (m3m s c hs)) ?_
     rintro ⟨n,rest,u⟩ ⟨hd,hr⟩;dsimp only at hd hr ⊢;with_reducible repeat' (first|exact pN|apply pP|apply pX<;>intro _)
     · exact rfl
     · exact rfl
     · rename_i hneg _
       refine pZ pT ?_;rintro ⟨z,u⟩ -
       dsimp only;with_reducible repeat' (first|exact pN|apply pP|apply pX<;>intro _)
       · exact rfl
       · refine pZ pT ?_
         rintro ⟨ok,u⟩ -
         dsimp only;with_reducible repeat' (first|exact pN|apply pP|apply pX<;>intro _)
         · exact rfl
         · refine pZ (m3n _ _ _) ?_
           rintro ⟨o2,u⟩ ho;dsimp only at ho ⊢;refine pP ⟨_,_,_,_,_,_,by omega,?_,rfl⟩;rcases h with h|⟨x,hx,hxk⟩
           · exact .inl ((hr h).resolve_left hneg)
           · exact .inr ⟨x,ho x hx,hxk⟩
   · rename_i he
     rcases h with ⟨x,hx,hxk⟩|h
     · have:s=[]:=by simpa using he
       subst this;cases hx
     · exact h
 · intro z hz
   refine pS hz ?_ ?_
   · rintro ⟨a,u⟩ ha
     exact pP fun _=>ha
   · rintro ⟨a,u⟩ ha
     dsimp only at ha;exact pP fun h=>by rw [ha] at h;cases h
theorem m3l (s:List UInt8) (c:Int):Pf (j6c (s,c,())) (fun y=>0≤y.1→y.1<s.length∧((s.getD y.1.toNat 0).toNat:Int)=c):=by
 unfold j6c k5k;dsimp only;refine pZ (P:=fun y=>0≤y.1→y.1<s.length∧((s.getD y.1.toNat 0).toNat:Int)=c) ?_ (fun _ h=>pP h);unfold v2y k6a;dsimp only;refine pZ (P:=Sum.elim (fun _=>True) (fun y=>0≤y.1→y.1<s.length∧((s.getD y.1.toNat 0).toNat:Int)=c)) ?_ ?_
 · refine pL ?I ?h _ ?hv
   case I=>exact (fun v=>∃k:Int,v=(s,c,k,()))
   case hv=>exact ⟨_,rfl⟩
   rintro v ⟨k,rfl⟩;unfold j8b;dsimp only;with_reducible repeat' (first|exact pN|apply pP|apply pX<;>intro _)
   · rename_i h1 h2 h3
     exact fun _=>⟨by omega,h3⟩
   · exact ⟨_,rfl⟩
   · trivial
 · intro z hz
   refine pS hz ?_ ?_
   · intro u _
     exact pP fun h=>by cases h
   · rintro ⟨a,u⟩ h
     exact pP h
theorem m3b (s:List UInt8) (hs:s.length≤1000000000000) (h:∃x∈bi s,kk x=true):Pf (y5s (s,())) (fun y=>y.2.1=true→∃x∈y.1,kk x=true):=by
 unfold y5s k4u;dsimp only;refine pZ pT ?_;rintro ⟨e,u⟩ -
 dsimp only;with_reducible repeat' (first|exact pN|apply pP|apply pX<;>intro _)
 · exact fun h=>by cases h
 · refine pZ (m3l s 45) ?_
   rintro ⟨k,u⟩ hk;dsimp only at hk ⊢;refine pX (fun hpos => ?_) (fun _ => ?_)
   · have hk':=hk (by omega)
     have hlt:k.toNat<s.length:=by omega
     rw [qh (n:=k+1) (by omega)];with_reducible repeat' (first|exact pN|apply pP|apply pX<;>intro _)
     have hsplit:(∃x∈bi (s.drop (k+1).toNat),kk x=true)∨∃x∈List.map (fun b:UInt8=>(b.toNat:Int)) (List.take k.toNat s),kk x=true:=by
      obtain ⟨x,hx,hxk⟩:=h;rw [←List.take_append_drop (k+1).toNat s,xu,show (k+1).toNat=k.toNat+1 by omega,qg hlt,xu] at hx;rcases List.mem_append.1 hx with hx|hx
      · rcases List.mem_append.1 hx with hx|hx
        · exact .inr ⟨x,hx,hxk⟩
        · have hx':x=((s[k.toNat].toNat:Nat):Int):=by simpa [bi] using hx
          have h2:=hk'.2;rw [getD_lt hlt] at h2;rw [hx',h2] at hxk;cases hxk
      · exact .inl ⟨x,by rw [show (k+1).toNat=k.toNat+1 by omega];exact hx,hxk⟩
     refine pZ (k1u _ _ (by simp only [List.length_drop];omega) hsplit) ?_;rintro ⟨a,b,u⟩ h;exact pP h
   · refine pZ (k1u _ _ hs (.inl h)) ?_
     rintro ⟨a,b,u⟩ h;exact pP h
theorem m2l (f x:List UInt8):Pf (y5m (f,x,())) (fun y=>y.2.1=true→f=x++y.1):=by
 unfold y5m k3r;dsimp only;refine pZ (P:=fun y=>y.2.1=true→f=x++y.1) ?_ (fun _ h=>pP h);unfold x7g k4f;dsimp only;refine pZ (P:=fun y=>y.1=true→f.take x.length=x) ?_ ?_
 · unfold y0z k3q
   dsimp only;with_reducible repeat' (first|exact pN|apply pP|apply pX<;>intro _)
   · intro h
     have h':(List.take x.length f==x)=true:=h;exact eq_of_beq h'
   · exact fun h=>by cases h
 · rintro ⟨b,u⟩ hb
   dsimp only at hb ⊢;with_reducible repeat' (first|exact pN|apply pP|apply pX<;>intro _)
   · exact fun h=>by cases h
   · rename_i h1 h2
     intro _;have:=hb h1;conv=>lhs;rw [←List.take_append_drop x.length f,this]
     rfl
theorem g6l (s:List UInt8) (hK:KT T A B) (hs:s.length≤100000000000) (hk:s=[]∨∃x∈bi s,kk x=true):Pf (z6k (T,A,B,s,())) (fun y=>y.1≠0):=by
 rcases hk with rfl|hk
 · unfold z6k v4z
   dsimp only;refine pZ pT ?_;rintro ⟨l,at_,u⟩ -
   dsimp only;refine pZ (P:=fun y=>y.1≠0) ?_ (fun _ h=>pP h);unfold y1j v5a;dsimp only;refine pZ pT ?_;rintro ⟨b,at',u⟩ -
   dsimp only;with_reducible repeat' (first|exact pN|apply pP|apply pX<;>intro _)
   · exact (by decide:(7:Int)≠0)
   · refine pZ (P:=fun y=>y.1=true) ?_ ?_
     · unfold y1k v5b
       dsimp only;have e:C21 ([],())=some (-1,()):=by kernel_rfl
       rw [e];exact pP rfl
     · rintro ⟨b,y⟩ hb
       dsimp only at hb;subst hb;exact pP (by decide:(4:Int)≠0)
 · exact m2z hK s hs hk
theorem m2u (h:TK T A B) (hK:KT T A B) (s:List UInt8) (hs:s.length≤6000000) (hk:s=[]∨∃x∈bi s,kk x=true):Pf (z6c (T,A,B,s,())) (fun y=>y.2.2.1≠0):=by
 unfold z6c k4k;dsimp only;refine pZ (pA (k9j h s (by omega)).pf (d0j h hK s (by omega))) ?_;rintro ⟨f,ok,u⟩ ⟨hf,hf'⟩;dsimp only at hf hf' ⊢;refine pZ (pA (b3w f _).pf (m2l f _)) ?_;rintro ⟨rest,is,u⟩ ⟨hr,hr'⟩;dsimp only at hr hr' ⊢;with_reducible repeat' (first|exact pN|apply pP|apply pX<;>intro _)
 · exact (by decide:(7:Int)≠0)
 · rename_i hok
   have hfk:f=[]∨∃x∈bi f,kk x=true:=by
    rcases hk with rfl|hk
    · exact .inl (List.eq_nil_of_length_eq_zero (by simpa using hf))
    · exact (hf' hok).imp id fun hR=>hR.mem hk
   refine pZ (d21 f (by omega)).pf ?_;rintro ⟨e,u⟩ he;dsimp only at he ⊢;with_reducible repeat' (first|exact pN|apply pP|apply pX<;>intro _)
   · refine pZ pT ?_
     rintro ⟨l,at_,u⟩ -
     refine pZ pT ?_;rintro ⟨code,b,u⟩ -
     dsimp only;with_reducible repeat' (first|exact pN|apply pP|apply pX<;>intro _)
     refine pZ (g6l f hK (by omega) hfk) ?_;rintro ⟨w,u⟩ hw;exact pP hw
   · refine pZ (m3a f (by omega) (he.2 (by omega)) hfk) ?_
     rintro ⟨w,u⟩ hw;exact pP hw
   · rename_i h1 his
     have hfr:=hr' his;have hk2:∃x∈bi rest,kk x=true:=by
      rcases hfk with hf0|⟨x,hx,hxk⟩
      · rw [hf0] at hfr;cases hfr
      · rw [hfr,xu] at hx
        rcases List.mem_append.1 hx with hx|hx
        · have:∀x∈bi [120,110,45,45],kk x=false:=by decide
          rw [this x hx] at hxk;cases hxk
        · exact ⟨x,hx,hxk⟩
     refine pZ (pA (b4g rest (by omega)).pf (m3b rest (by omega) hk2)) ?_;rintro ⟨l,ok2,u⟩ ⟨hl,hl'⟩;dsimp only at hl hl' ⊢;with_reducible repeat' (first|exact pN|apply pP|apply pX<;>intro _)
     · exact (by decide:(12:Int)≠0)
     · exact (by decide:(5:Int)≠0)
     · rename_i hok2 _
       have hlk:=hl' hok2;refine pZ (pA (v1b l (by omega)).pf (f5q l (by omega))) ?_;rintro ⟨us,b,u⟩ ⟨hu,hu1,hu2⟩;dsimp only at hu hu1 hu2 ⊢;have huk:us=[]∨∃x∈bi us,kk x=true:=by
        cases b with
        | true=>exact .inr ((hu1 rfl).mem hlk)
        | false=>exact .inl (hu2 rfl)
       refine pZ (g6l us hK (by omega) huk) ?_;rintro ⟨w,u⟩ hw;dsimp only at hw ⊢;with_reducible repeat' (first|exact pN|apply pP|apply pX<;>intro _)
       · exact hw
       · rename_i hz
         exact (hw hz).elim
theorem m2n (h:TK T A B) (hK:KT T A B) (s:List UInt8) (hs:s.length≤6000000) (hk:s=[]∨∃x∈bi s,kk x=true):Pf (z5z (T,A,B,s,())) (fun y=>y.2.1≠0):=by
 unfold z5z k4b;dsimp only;refine pZ (m2u h hK s hs hk) ?_;rintro ⟨a,b,e,u⟩ he;dsimp only at he ⊢;with_reducible repeat' (first|exact pN|apply pP|apply pX<;>intro _)
 · exact he
 · rename_i hz
   exact (he hz).elim
end
theorem j3i (new:List UInt8) (d:Bool):∀(k:Nat) (s:List UInt8) (a b:Nat),a≤b→run d a (bi s)≤run d b (bi (Lib.replaceK [227,128,130] new k s))
 | 0,s,a,b,h=>j3f d _ h
 | k+1,s,a,b,h=>by
  rcases Lib.index_spec s [227,128,130] with ⟨hi,-⟩|⟨i,hi,h1,h2,-⟩
  · rw [Lib.replaceK,if_pos (by rw [hi];rfl)]
    exact j3f d _ h
  · rw [Lib.replaceK_hit _ new k s i hi]
    have hfit:i+[(227:UInt8),128,130].length≤s.length:=z4v hi;rw [Lib.occAt_iff_take _ _ _ hfit] at h2;have h3:(s.drop i).take 3=[227,128,130]:=eq_of_beq h2;have e:s=s.take i++([227,128,130]++s.drop (i+3)):=by
     conv=>lhs;rw [←List.take_append_drop i s,←List.take_append_drop 3 (s.drop i),h3,List.drop_drop]
    rw [show i+[(227:UInt8),128,130].length=i+3 from rfl];generalize hD:s.drop (i+3)=D at e ⊢;generalize hP:s.take i=P at e ⊢;rw [e,xu,xu,xu,xu,xx,xx,xx,xx];refine j3i new d k D _ _ ?_;rw [j3g d (bi [227,128,130]) _ (by simp [bi]) (by decide)];split
    · rename_i h2
      exact q6z d _ (Nat.le_trans h2 (j3f d _ h))
    · exact Nat.zero_le _
theorem y9g (s new:List UInt8):Rr (bi s) (bi (Lib.replaceAll s [227,128,130] new)):=by
 intro d;unfold Lib.replaceAll Lib.replace;split
 · exact Nat.le_refl _
 · exact j3i new d _ s 1 1 (Nat.le_refl _)
theorem j2s (c:UInt8):∀l:List UInt8,0≤Lib.indexByte l c→l[(Lib.indexByte l c).toNat]? = some c
 | [],h=>by simp [Lib.indexByte] at h
 | b::l,h=>by
  have ih:=j2s c l;have hge:=Lib.indexByte_ge l c;simp only [Lib.indexByte] at h ⊢;split
  · rename_i hb
    have:b=c:=by simpa using hb
    simp [this]
  · rename_i hb
    rw [if_neg hb] at h;split
    · rename_i hm
      rw [if_pos hm] at h;omega
    · rename_i hm
      have h0:0≤Lib.indexByte l c:=by
       have:Lib.indexByte l c ≠ -1:=by simpa using hm
       omega
      rw [show (Lib.indexByte l c+1).toNat=(Lib.indexByte l c).toNat+1 by omega,List.getElem?_cons_succ];exact ih h0
theorem m2p (s:List UInt8) (c:Int):Pf (j6a (s,c,())) (fun y=>0≤y.1→s[y.1.toNat]? = some c.toNat.toUInt8):=by
 unfold j6a k4d;dsimp only;refine pZ (P:=fun y=>0≤y.1→s[y.1.toNat]? = some c.toNat.toUInt8) (pP fun h=>j2s _ s h) fun _ h=>pP h
theorem d0l (s:List UInt8):Pf (z6h (s,[46],())) (fun y=>0≤y.1→s[y.1.toNat]? = some 46):=by
 unfold z6h v4y;dsimp only;have e0:((([46]:List UInt8).length:Int)==0)=false:=rfl;rw [e0];simp only [cond_false];refine pZ (P:=fun y=>0≤y.1→s[y.1.toNat]? = some 46) ?_ fun _ h=>pP h;unfold q4x j7n;dsimp only;with_reducible repeat' (first|exact pN|apply pP|apply pX<;>intro _)
 · rename_i h
   have:[46]=s:=by simpa using h
   subst this;exact fun _=>rfl
 · exact pZ (m2p s 46) fun _ h=>pP h
 all_goals (exfalso;simp at *)
theorem m2k (s:List UInt8) (hs:s.length≤1000000000000):Pf (y0y (s,[46],())) (fun y=>(y.2.2.1=true→s=y.1++([46]++y.2.1))∧(y.2.2.1=false→y.1=s)):=by
 unfold y0y k3p;dsimp only;refine pZ (P:=fun y=>(y.2.2.1=true→s=y.1++([46]++y.2.1))∧(y.2.2.1=false→y.1=s)) ?_ (fun _ h=>pP h);unfold v2k k4e;dsimp only;refine pZ (d0l s) ?_;rintro ⟨k,u⟩ hk;dsimp only at hk ⊢;rw [show (([46]:List UInt8).length:Int)=1 from rfl];with_reducible repeat' (first|exact pN|apply pP|apply pX<;>intro _)
 · rename_i h1 h2 h3
   refine ⟨fun _ => ?_,fun h=>by cases h⟩;have h4:=hk h1;rw [qh (n:=k+1) (by omega)];have hlt:k.toNat<s.length:=by
    rcases Nat.lt_or_ge k.toNat s.length with h|h
    · exact h
    · rw [List.getElem?_eq_none h] at h4;cases h4
   rw [List.getElem?_eq_getElem hlt,Option.some.injEq] at h4;dsimp only;rw [show (k+1).toNat=k.toNat+1 by omega,←h4,List.singleton_append,List.getElem_cons_drop,List.take_append_drop]
 · exact ⟨fun h=>(by cases h),fun _=>rfl⟩
theorem z5g:∀(n:Nat) (s:List UInt8) (ps:List (List UInt8)),s.length≤1000000000000→ku n s=some ps→1≤run true 1 (bi s)→∃p∈ps,p=[]∨∃x∈bi p,kk x=true
 | 0,_,_,_,h,_=>by cases h
 | n+1,s,ps,hs,h,hr=>by
  simp only [ku] at h;cases hc:y0y (s,[46],()) with
  | none=>rw [hc] at h;cases h
  | some y =>
   obtain ⟨a,b,ok,u⟩:=y;obtain ⟨h1,h2⟩:=m2k s hs _ hc;dsimp only at h1 h2;rw [hc] at h;simp only [Option.bind_some] at h;cases ok with
   | true =>
    simp only [cond_true,Option.map_eq_some_iff] at h;obtain ⟨qs,hq,rfl⟩:=h;by_cases ha:a=[]
    · exact ⟨a,List.mem_cons_self,.inl ha⟩
    by_cases hk:∃x∈bi a,kk x=true
    · exact ⟨a,List.mem_cons_self,.inr hk⟩
    have hs':=h1 rfl;have hn:∀x∈bi a,kk x=false:=fun x hx=>by
     cases hkx:kk x with
     | false=>rfl
     | true=>exact (hk ⟨x,hx,hkx⟩).elim
    rw [hs',xu,xu,xx,xx,z5p true (bi a) 1 (by simpa [bi] using ha) (by omega) hn] at hr;have hb:b.length≤1000000000000:=by
     have:=congrArg List.length hs';simp only [List.length_append] at this;omega
    obtain ⟨p,hp,hp'⟩:=z5g n b qs hb hq hr;exact ⟨p,List.mem_cons_of_mem _ hp,hp'⟩
   | false =>
    simp only [cond_false,Option.some.injEq] at h;subst h;have ha:=h2 rfl;subst ha;refine ⟨a,List.mem_singleton_self a,?_⟩;by_cases ha:a=[]
    · exact .inl ha
    refine .inr ?_;by_cases hk:∃x∈bi a,kk x=true
    · exact hk
    · have hn:∀x∈bi a,kk x=false:=fun x hx=>by
       cases hkx:kk x with
       | false=>rfl
       | true=>exact (hk ⟨x,hx,hkx⟩).elim
      rw [z5p true (bi a) 1 (by simpa [bi] using ha) (by omega) hn] at hr;omega
theorem y2u (A U:List UInt8→Option (List UInt8×Int)):∀(ls ps qs:List (List UInt8)) r,q3g A U ls ps qs=some r→r.1=0→∀x∈ls,∃a,A x=some (a,0)
 | [],_,_,_,_,_,x,hx=>by cases hx
 | y::ls,ps,qs,r,h,h0,x,hx=>by
  simp only [q3g] at h;cases ha:A y with
  | none=>rw [ha] at h;cases h
  | some a =>
   rw [ha] at h;simp only [Option.bind_some] at h;by_cases hz:a.2=0
   · rw [inF hz] at h
     simp only [cond_false] at h;rcases List.mem_cons.1 hx with rfl|hx
     · exact ⟨a.1,by rw [ha,←hz]⟩
     · cases hu:U y with
       | none=>rw [hu] at h;cases h
       | some u =>
        rw [hu] at h;exact y2u A U ls _ _ r h h0 x hx
   · rw [inT hz] at h
     simp only [cond_true,Option.some.injEq] at h;subst h;exact (hz h0).elim
section
variable {T:List R6} {A:List R4} {B:List R3}
theorem y8n (s f:List UInt8) (ok:Bool) (hf:f.length≤5000000) (hR:ok=true→f=[]∨Rr (bi s) (bi f)) (hr:1≤run true 1 (bi s)) (ls:List (List UInt8)) (h:q1d f ok=some (ls,0)):∃p∈ls,p=[]∨∃x∈bi p,kk x=true:=by
 unfold q1d at h;cases ok with
 | false=>simp at h
 | true =>
  simp only [Bool.not_true,cond_false] at h;cases hfe:f.isEmpty with
  | true=>rw [hfe] at h;simp at h
  | false =>
   rw [hfe] at h;simp only [cond_false] at h;rw [decide_eq_true (by omega)] at h;simp only [cond_true] at h;rcases hR rfl with rfl|hR
   · cases hfe
   cases hp:ku (f.length+2) (Lib.replaceAll f [227,128,130] [46]) with
   | none=>rw [hp] at h;cases h
   | some ps =>
    rw [hp] at h;simp only [Option.bind_some] at h;have hl:=q7j f [227,128,130] [46] (by decide);have hb:=z5g _ _ ps (by omega) hp (Nat.le_trans hr (Nat.le_trans (hR true) (y9g f [46] true)));cases h1:decide (ps.length≤1000000000000) with
    | false=>rw [h1] at h;cases h
    | true =>
     rw [h1] at h;simp only [cond_true] at h;cases h2:decide (32<ps.length) with
     | true=>rw [h2] at h;simp at h
     | false =>
      rw [h2] at h;simp only [cond_false,Option.some.injEq,Prod.mk.injEq,and_true] at h;subst h;exact hb
theorem m2j (h:TK T A B) (hK:KT T A B) (s:List UInt8) (hs:s.length≤3000):Pf (z5x (T,A,B,s,())) (fun y=>y.2.2.1=0→run true 1 (bi s)=0):=by
 by_cases hr:1≤run true 1 (bi s)
 · refine pM (P:=fun y=>y.2.2.1≠0) ?_ (fun y h0 h1=>(h0 h1).elim)
   unfold z5x;dsimp only;refine pZ (pA (k9j h s (by omega)).pf (d0j h hK s (by omega))) ?_;rintro ⟨f,ok,u⟩ ⟨hf,hf'⟩;dsimp only at hf hf' ⊢;obtain ⟨ls,c,e,hll,hls⟩:=j2v f ok (by omega);rw [e];simp only [Option.bind_some];with_reducible repeat' (first|exact pN|apply pP|apply pX<;>intro _)
   · assumption
   · rename_i hc h32
     have hc':c=0:=hc;subst hc';obtain ⟨p,hp,hpb⟩:=y8n s f ok (by omega) hf' hr ls e;refine pZ (P:=fun r=>r.1≠0) ?_ ?_
     · intro r er h0
       obtain ⟨a,ha⟩:=y2u _ _ ls [] [] r er h0 p hp;simp only [Option.map_eq_some_iff] at ha;obtain ⟨y,ey,hy⟩:=ha;have:=m2n h hK p (by have:=hls p hp;omega) hpb y ey;simp only [Prod.mk.injEq] at hy;exact this hy.2
     · intro r hr0 y ey
       simp only [Option.map_eq_some_iff] at ey;obtain ⟨o,eo,rfl⟩:=ey;unfold y4w at eo;rw [inT hr0] at eo;simp only [cond_true,Option.some.injEq] at eo;subst eo;exact hr0
 · exact pM pT fun _ _ _=>by omega
end
def ktB:Bool:=match C18 () with
 | some (T,A,B,_)=>(List.range 128).all fun n => !kk (n:Int)||((match xq (T,A,B,(n:Int),()) with|some (c,_)=>c==0|none=>false)&&(match j3w (T,A,B,(n:Int),()) with|some (c,_)=>c==(n:Int)|none=>false)&&(match j3x (T,A,B,(n:Int),()) with|some (c,_) => !c|none=>false))
 | none=>false
theorem b5e:ktB=true:=by kernel_rfl
theorem kt {T A B} (h18:C18 ()=some (T,A,B,())):KT T A B:=by
 have h:=b5e;unfold ktB at h;rw [h18] at h;simp only [List.all_eq_true] at h;have key:∀x,kk x=true→(match xq (T,A,B,x,()) with|some (c,_)=>c==0|none=>false)=true∧(match j3w (T,A,B,x,()) with|some (c,_)=>c==x|none=>false)=true∧(match j3x (T,A,B,x,()) with|some (c,_) => !c|none=>false)=true:=by
  intro x hx;have h1:=(q4j x).1 hx;have h2:=h x.toNat (List.mem_range.2 (by omega))
  rw [show ((x.toNat:Nat):Int)=x by omega,hx] at h2;simp only [Bool.not_true,Bool.false_or,Bool.and_eq_true] at h2;exact ⟨h2.1.1,h2.1.2,h2.2⟩
 refine ⟨fun x hx => ?_,fun x hx => ?_,fun x hx => ?_⟩
 · have:=(key x hx).1
   cases hc:xq (T,A,B,x,()) with
   | none=>rw [hc] at this;cases this
   | some y =>
    obtain ⟨c,u⟩:=y;rw [hc] at this;have:c=0:=by simpa using this
    subst this;rfl
 · have:=(key x hx).2.1
   cases hc:j3w (T,A,B,x,()) with
   | none=>rw [hc] at this;cases this
   | some y =>
    obtain ⟨c,u⟩:=y;rw [hc] at this;have:c=x:=by simpa using this
    subst this;rfl
 · have:=(key x hx).2.2
   cases hc:j3x (T,A,B,x,()) with
   | none=>rw [hc] at this;cases this
   | some y =>
    obtain ⟨c,u⟩:=y;rw [hc] at this;have:c=false:=by simpa using this
    subst this;rfl
theorem vf (p:UInt8→Bool) (h:(List.range 256).all (fun n=>p (UInt8.ofNat n))=true) (c:UInt8):p c=true:=by
 have h1:=List.all_eq_true.1 h c.toNat (List.mem_range.2 (by have:=c.toNat_lt;omega))
 simpa using h1
def gB (o:Option (Bool×Unit)):Bool:=match o with|some (b,_)=>b|none=>false
def okB (o:Option (Bool×Unit)):Bool:=match o with|some (_,_)=>true|none=>false
theorem z2g {o:Option (Bool×Unit)} (h:okB o=true):o=some (gB o,()):=by
 cases o with
 | none=>cases h
 | some x=>rfl
def qz (c:UInt8):Bool:=gB (C90 ((c.toNat:Int),()))
def js (c:UInt8):Bool:=gB (ve ((c.toNat:Int),()))
def jc (c:UInt8):Bool:=gB (yq ((c.toNat:Int),()))
def x6w (c:UInt8):Int:=match q3k ([60,62,58,59,64,44,46],(c.toNat:Int),()) with|some (i,_)=>i|none=>0
def xg (c:UInt8):Bool:=decide (x6w c≥0)
theorem c17 (c:UInt8):C90 ((c.toNat:Int),())=some (qz c,()):=z2g (vf (fun c=>okB (C90 ((c.toNat:Int),()))) (by kernel_rfl) c)
theorem c32 (c:UInt8):ve ((c.toNat:Int),())=some (js c,()):=z2g (vf (fun c=>okB (ve ((c.toNat:Int),()))) (by kernel_rfl) c)
theorem c31 (c:UInt8):yq ((c.toNat:Int),())=some (jc c,()):=z2g (vf (fun c=>okB (yq ((c.toNat:Int),()))) (by kernel_rfl) c)
theorem v0v (c:UInt8):q3k ([60,62,58,59,64,44,46],(c.toNat:Int),())=some (x6w c,()):=rfl
theorem gd {α:Type} {pre r:List α} {c d:α} {p:Nat} (h:pre.length=p):(pre++c::r).getD p d=c:=by subst h;simp
theorem dr {α:Type} {pre r:List α} {p:Nat} (h:pre.length=p):List.drop p (pre++r)=r:=by subst h;simp
theorem Sk:(∀{p:Prop} [Decidable p],p→decide p=true)∧(∀{p:Prop} [Decidable p],¬p→decide p=false)∧(∀{α:Type} (a b:α),(bif true then a else b)=a)∧(∀{α:Type} (a b:α),(bif false then a else b)=b) ∧
 (∀b:Bool,(b&&b)=b)∧(∀b:Bool,(true&&b)=b)∧(∀b:Bool,(b&&true)=b)∧(∀b:Bool,(false&&b)=false)∧(∀b:Bool,(b&&false)=false)∧(!true)=false∧(!false)=true ∧
 (∀{α:Type} {a b:List α},(a++b).length=a.length+b.length)∧(∀{α:Type} {a:α} {l:List α},(a::l).length=l.length+1)∧(∀{α:Type},([]:List α).length=0)∧(∀n:Nat,((n:Int)).toNat=n) ∧
 (∀{a b:Int},a=b→(a==b)=true)∧(∀{a b:Int},a≠b→(a==b)=false)∧(∀{a b:Int},a≠b→(a != b)=true)∧(∀{a b:Int},a=b→(a != b)=false) ∧
 (∀n:Nat,n≤9223372036854775806→IntKind.i64.wrap ((n:Int)+1)=((n+1:Nat):Int))∧(∀{α:Type} {pre r:List α} {c d:α} {p:Nat},pre.length=p→(pre++c::r).getD p d=c)∧(∀{α:Type} {pre r:List α} {p:Nat},pre.length=p→List.drop p (pre++r)=r) ∧
 (∀{α β:Type} (a:α) (f:α→Option β),(some a).bind f=f a)∧(∀{α β γ:Type} (f:α→γ) (g:β→γ) (x:α),Sum.elim f g (Sum.inl x)=f x)∧(∀{α β γ:Type} (f:α→γ) (g:β→γ) (x:β),Sum.elim f g (Sum.inr x)=g x)∧(∀b:UInt8,UInt8.ofNat ((b.toNat:Int)).toNat=b)∧∀b:UInt8,UInt8.ofNat b.toNat=b :=
 ⟨@decide_eq_true,@decide_eq_false,fun _ _=>rfl,fun _ _=>rfl,Bool.and_self,Bool.true_and,Bool.and_true,Bool.false_and,Bool.and_false,rfl,rfl,@fun _ _ _=>List.length_append,@fun _ _ _=>List.length_cons,@fun _=>List.length_nil,Int.toNat_natCast,@ibT,@ibF,@inT,@inF,wrN,@gd,@dr,@Option.bind_some,fun _ _ _=>rfl,fun _ _ _=>rfl,byte_back,x6l⟩
theorem shift {α:Type} (pre:List α) (c:α) (r:List α):pre++c::r=(pre++[c])++r:=by simp
theorem c27 (k e:Int) (s:List UInt8) (at_ bad err:Int):yf (k,e,s,at_,bad,err,())=some (s,at_,k,e,()):=rfl
def al:List UInt8→Nat
 | []=>0
 | c::r=>bif qz c then al r+1 else 0
theorem v6e:∀r,al r≤r.length
 | []=>Nat.le_refl _
 | c::r=>by have:=v6e r;simp only [al];cases qz c<;>simp;omega
theorem l21 (f bad err:Int):∀(r pre:List UInt8) (p n:Nat),pre.length=p→r.length<n→p+r.length≤140737488355328 →
 qb (q5e C90 q2g) n (f,pre++r,(p:Int),bad,err,())=some (f,pre++r,((p+al r:Nat):Int),bad,err,())
 | [],pre,p,n+1,hp,hn,hb=>by
  refine qe ?_;simp (disch:=(first|omega|(simp only [jv];omega))) only [q5e,q2g,q9y,Sk,al,List.append_nil,Nat.add_zero]
 | c::r,pre,p,n+1,hp,hn,hb=>by
  simp only [List.length_cons] at hn hb;cases h:qz c with
  | true =>
   rw [qy (v':=(f,pre++c::r,((p+1:Nat):Int),bad,err,())) (by simp (disch:=(first|omega|(simp only [jv];omega))) only [q5e,q2g,q9y,Sk,c17,h])];rw [shift,l21 f bad err r (pre++[c]) (p+1) n (by simp [hp]) (by omega) (by omega)];simp only [al,h,cond_true,Nat.add_assoc,Nat.add_comm 1]
  | false =>
   refine qe ?_;simp (disch:=(first|omega|(simp only [jv];omega))) only [q5e,q2g,q9y,Sk,c17,h,al,Nat.add_zero]
theorem c21 (pre r:List UInt8) (p:Nat) (bad err:Int) (hp:pre.length=p) (hb:p+r.length≤140737488355328) :
 y1a (pre++r,(p:Int),bad,err,())=some (r.take (al r),pre++r,((p+al r:Nat):Int),bad,err,()):=by
 have:=v6e r;show k3s C90 q8n (pre++r,(p:Int),bad,err,())=_;have hl:q8n ((p:Int),pre++r,(p:Int),bad,err,())=_:=l21 p bad err r pre p je hp (by unfold je;omega) hb;simp (disch:=(first|omega|(simp only [jv];omega))) only [k3s,hl,Sk];rw [show List.drop p (List.take (p+al r) (pre++r))=r.take (al r) by rw [←hp,List.take_append,List.take_of_length_le (by omega),List.drop_append];simp]
def wl:List UInt8→Nat
 | []=>0
 | c::r=>bif js c then wl r+1 else
  match r with
  | b::d::r'=>bif (c==13&&b==10)&&js d then wl r'+3 else 0
  | _=>0
theorem y5j:∀r,wl r≤r.length
 | []=>Nat.le_refl _
 | [c]=>by simp only [wl];cases js c<;>simp
 | [c,b]=>by have:=y5j [b];simp only [wl] at *;cases js c<;>cases js b<;>simp
 | c::b::d::r'=>by
  have h1:=y5j (b::d::r');have h2:=y5j r';rw [wl];cases js c
  · simp only [cond_false];cases (c==13&&b==10)&&js d<;>simp;omega
  · simp only [cond_true,List.length_cons] at *;omega
theorem f0o (c b:UInt8):([c,b]==[13,10])=(c==13&&b==10):=by
 rw [Bool.eq_iff_iff];simp
theorem v6q (f p:Nat) (s:List UInt8) (bad err:Int) (b:Bool) (hf:f≤p) (hp:p≤s.length) (hb:p≤140737488355328) :
 vq ((f:Int),b,s,(p:Int),bad,err,())=some (bif b then .inl ((f:Int),s,((p+3:Nat):Int),bad,err,()) else .inr (List.drop f (List.take p s),s,(p:Int),bad,err,())):=by
 cases b with
 | true=>simp only [vq,j7f,cond_true];rw [wr (by omega) (by omega)];rfl
 | false=>simp (disch:=(first|omega|(simp only [jv];omega))) only [vq,j7f,Sk]
theorem f6t {c:UInt8} {r:List UInt8} (h:js c=true):wl (c::r)=wl r+1:=by
 match r with
 | []=>simp [wl,h]
 | [b]=>simp [wl,h]
 | b::d::r=>rw [wl,h];rfl
theorem j9j {c:UInt8} {r:List UInt8} (h:js c=false) (h2:r.length<2):wl (c::r)=0:=by
 match r,h2 with
 | [],_=>simp [wl,h]
 | [b],_=>simp [wl,h]
 | b::d::r,h2=>simp at h2;omega
theorem l26 (f:Nat) (bad err:Int):∀(m:Nat) (r pre:List UInt8) (p n:Nat),r.length≤m→pre.length=p→r.length<n→f≤p→p+r.length≤140737488355328 →
 qb (yr ve vq) n ((f:Int),pre++r,(p:Int),bad,err,())=some (.inl ((f:Int),pre++r,((p+wl r:Nat):Int),bad,err,())) ∨
 qb (yr ve vq) n ((f:Int),pre++r,(p:Int),bad,err,())=some (.inr (List.drop f (List.take (p+wl r) (pre++r)),pre++r,((p+wl r:Nat):Int),bad,err,()))
 | _,_,_,_,0,_,_,hn,_,_=>by omega
 | m,[],pre,p,n+1,hm,hp,hn,hf,hb=>by
  refine .inl (qe ?_);simp (disch:=(first|omega|(simp only [jv];omega))) only [yr,Sk,wl,List.append_nil,Nat.add_zero]
 | 0,c::r,pre,p,n+1,hm,hp,hn,hf,hb=>by simp at hm
 | m+1,c::r,pre,p,n+1,hm,hp,hn,hf,hb=>by
  simp only [List.length_cons] at hn hb hm;cases h:js c with
  | true =>
   rw [qy (v':=((f:Int),pre++c::r,((p+1:Nat):Int),bad,err,())) (by simp (disch:=(first|omega|(simp only [jv];omega))) only [yr,Sk,c32,h,List.getD_cons_zero])];rw [shift];have:=l26 f bad err m r (pre++[c]) (p+1) n (by omega) (by simp [hp]) (by omega) (by omega) (by omega);rw [show p+wl (c::r)=p+1+wl r by rw [f6t h];omega];exact this
  | false =>
   have stop:∀(hw:wl (c::r)=0),yr ve vq ((f:Int),pre++c::r,(p:Int),bad,err,())=some (.inr (.inr (List.drop f (List.take p (pre++c::r)),pre++c::r,(p:Int),bad,err,()))) →
    qb (yr ve vq) (n+1) ((f:Int),pre++c::r,(p:Int),bad,err,())=some (.inr (List.drop f (List.take (p+wl (c::r)) (pre++c::r)),pre++c::r,((p+wl (c::r):Nat):Int),bad,err,())):=by
    intro hw h;rw [hw];exact qe h
   match r,hm,hn,hb with
   | [],hm,hn,hb =>
    refine .inr (stop (j9j h (by simp)) ?_);simp (disch:=(first|omega|(simp only [jv];omega))) only [yr,Sk,c32,h,List.getD_cons_zero,v6q]
   | [b],hm,hn,hb =>
    refine .inr (stop (j9j h (by simp)) ?_);simp only [List.length_cons,List.length_nil] at hn hb hm;simp (disch:=(first|omega|(simp only [jv];omega))) only [yr,Sk,c32,h,List.getD_cons_zero,v6q]
   | b::d::r',hm,hn,hb =>
    simp only [List.length_cons] at hn hb hm;cases hq:(c==13&&b==10) with
    | false =>
     refine .inr (stop (by rw [wl,h,hq];rfl) ?_);simp (disch:=(first|omega|(simp only [jv];omega))) only [yr,Sk,c32,h,List.getD_cons_zero,v6q,List.take_succ_cons,List.take_zero,f0o,hq]
    | true =>
     cases hd:js d with
     | false =>
      refine .inr (stop (by rw [wl,h,hq,hd];rfl) ?_);simp (disch:=(first|omega|(simp only [jv];omega))) only [yr,Sk,c32,h,List.getD_cons_zero,List.getD_cons_succ,v6q,List.take_succ_cons,List.take_zero,f0o,hq,hd]
     | true =>
      rw [qy (v':=((f:Int),pre++c::b::d::r',((p+3:Nat):Int),bad,err,())) (by simp (disch:=(first|omega|(simp only [jv];omega))) only [yr,Sk,c32,h,List.getD_cons_zero,List.getD_cons_succ,v6q,List.take_succ_cons,List.take_zero,f0o,hq,hd])];have:=l26 f bad err m r' (pre++[c,b,d]) (p+3) n (by omega) (by simp [hp]) (by omega) (by omega) (by omega);rw [show p+wl (c::b::d::r')=p+3+wl r' by rw [wl,h,hq,hd];simp only [cond_true,cond_false,Bool.and_self];omega];rw [show pre++c::b::d::r'=(pre++[c,b,d])++r' by simp];exact this
theorem j3l {pre r:List UInt8} {p k:Nat} (hp:pre.length=p):List.drop p (List.take (p+k) (pre++r))=r.take k:=by
 rw [←hp,List.take_append,List.take_of_length_le (by omega),List.drop_append];simp
theorem c26 (pre r:List UInt8) (p:Nat) (bad err:Int) (hp:pre.length=p) (hb:p+r.length≤140737488355328) :
 y1e (pre++r,(p:Int),bad,err,())=some (r.take (wl r),pre++r,((p+wl r:Nat):Int),bad,err,()):=by
 have:=y5j r;show v4r ve q4v (pre++r,(p:Int),bad,err,())=_;rcases l26 p bad err r.length r pre p je (Nat.le_refl _) hp (by unfold je;omega) (Nat.le_refl _) hb with hl|hl
 · have hl':q4v ((p:Int),pre++r,(p:Int),bad,err,())=_:=hl
   simp (disch:=(first|omega|(simp only [jv];omega))) only [v4r,hl',Sk,j3l]
 · have hl':q4v ((p:Int),pre++r,(p:Int),bad,err,())=_:=hl
   simp (disch:=(first|omega|(simp only [jv];omega))) only [v4r,hl',Sk,j3l]
inductive Tk where
 | ok (t:List UInt8) (u:Nat)
 | bad (off:Nat) (e:Int)
 | start
def Tk.push (l:List UInt8) (n:Nat):Tk→Tk
 | .ok t u => .ok (l++t) (n+u)
 | .bad off e => .bad (n+off) e
 | .start => .start
def qt:List UInt8→Tk
 | [] => .start
 | c::r=>if c.toNat=34 then .ok [] 1 else if c.toNat=92 then
  match r with
  | [] => .start
  | d::r'=>bif jc d then (qt r').push [d] 2 else .bad 1 4
  else bif jc c then (qt r).push [c] 1 else .bad 0 4
theorem y9d {c:UInt8} {r:List UInt8} (h:c.toNat=34):qt (c::r) = .ok [] 1:=by cases r<;>simp [qt,h]
theorem z5i {c:UInt8} (h:c.toNat=92):qt [c] = .start:=by simp [qt,h]
theorem z2m {c d:UInt8} {r:List UInt8} (h:c.toNat=92):qt (c::d::r)=bif jc d then (qt r).push [d] 2 else .bad 1 4:=by simp [qt,h]
theorem y9a {c:UInt8} {r:List UInt8} (h1:¬c.toNat=34) (h2:¬c.toNat=92):qt (c::r)=bif jc c then (qt r).push [c] 1 else .bad 0 4:=by cases r<;>simp [qt,h1,h2]
def z3q (s:List UInt8) (a bad err:Int) (out:List UInt8) (q:Nat):Tk→(List UInt8×Int×Int×Int×Unit)⊕(List UInt8×List UInt8×Int×Int×Int×Unit)
 | .ok t u => .inr (out++t,s,((q+u:Nat):Int),bad,err,())
 | .bad off e => .inr ([],s,a,((q+off:Nat):Int),e,())
 | .start => .inl (s,a,bad,err,())
theorem z5n (s:List UInt8) (a bad err:Int) (out:List UInt8) (q:Nat) (l:List UInt8) (n:Nat) (k:Tk):z3q s a bad err out q (k.push l n)=z3q s a bad err (out++l) (q+n) k:=by
 cases k<;>simp [Tk.push,z3q,Nat.add_assoc]
theorem b3o (pre r out:List UInt8) (d:UInt8) (q:Nat) (a bad err:Int) (hq:pre.length=q) (hb:q+r.length≤140737488355320) (ho:out.length+1≤140737488355328) :
 q4t ((q:Int),pre++d::r,a,bad,err,out,())=some (bif jc d then .inr ((q:Int),pre++d::r,a,bad,err,out++[d],()) else .inl ([],pre++d::r,a,(q:Int),4,())):=by
 cases h:jc d<;>simp (disch:=(first|omega|(simp only [jv];omega))) only [q4t,z7d,Sk,c31,c27,h]
theorem l23 (a bad err:Int):∀(m:Nat) (r pre out:List UInt8) (q n:Nat),r.length≤m→pre.length=q→r.length<n→q+r.length≤140737488355320→out.length+r.length≤140737488355320 →
 qb (vz yf yq q4t) n ((q:Int),pre++r,a,bad,err,out,())=some (z3q (pre++r) a bad err out q (qt r))
 | _,_,_,_,_,0,_,_,hn,_,_=>by omega
 | m,[],pre,out,q,n+1,hm,hq,hn,hb,ho=>by
  refine qe ?_;simp (disch:=(first|omega|(simp only [jv];omega))) only [vz,Sk,List.append_nil,qt,z3q]
 | 0,c::r,pre,out,q,n+1,hm,hq,hn,hb,ho=>by simp at hm
 | m+1,c::r,pre,out,q,n+1,hm,hq,hn,hb,ho=>by
  simp only [List.length_cons] at hn hb hm ho;by_cases e1:c.toNat=34
  · refine qe ?_
    rw [y9d e1];simp (disch:=(first|omega|(simp only [jv];omega))) only [vz,Sk,z3q,List.append_nil]
  · by_cases e2:c.toNat=92
    · match r,hm,hn,hb,ho with
      | [],hm,hn,hb,ho =>
       refine qe ?_;rw [z5i e2];simp (disch:=(first|omega|(simp only [jv];omega))) only [vz,Sk,z3q,List.append_nil]
      | d::r',hm,hn,hb,ho =>
       simp only [List.length_cons] at hn hb hm ho;have hc:=b3o (pre++[c]) r' out d (q+1) a bad err (by simp [hq]) (by omega) (by omega);rw [←shift] at hc;rw [z2m e2];cases h:jc d with
       | true =>
        rw [h] at hc;simp only [cond_true] at hc ⊢;rw [qy (v':=(((q+2:Nat):Int),pre++c::d::r',a,bad,err,out++[d],())) (by
         simp (disch:=(first|omega|(simp only [jv];omega))) only [vz,Sk,hc])]
        have:=l23 a bad err m r' (pre++[c,d]) (out++[d]) (q+2) n (by omega) (by simp [hq]) (by omega) (by omega) (by simp;omega);rw [show pre++c::d::r'=(pre++[c,d])++r' by simp,this,←z5n]
       | false =>
        rw [h] at hc;simp only [cond_false] at hc ⊢;refine qe ?_;simp (disch:=(first|omega|(simp only [jv];omega))) only [vz,Sk,hc,z3q]
    · have hc:=b3o pre r out c q a bad err hq (by omega) (by omega)
      rw [y9a e1 e2];cases h:jc c with
      | true =>
       rw [h] at hc;simp only [cond_true] at hc ⊢;rw [qy (v':=(((q+1:Nat):Int),pre++c::r,a,bad,err,out++[c],())) (by
        simp (disch:=(first|omega|(simp only [jv];omega))) only [vz,Sk,hc])]
       have:=l23 a bad err m r (pre++[c]) (out++[c]) (q+1) n (by omega) (by simp [hq]) (by omega) (by omega) (by simp;omega);rw [shift,this,←z5n]
      | false =>
       rw [h] at hc;simp only [cond_false] at hc ⊢;refine qe ?_;simp (disch:=(first|omega|(simp only [jv];omega))) only [vz,Sk,hc,z3q,Nat.add_zero]
def zg (s:List UInt8) (p:Nat) (bad err:Int) (q:Nat):Tk→List UInt8×List UInt8×Int×Int×Int×Unit
 | .ok t u=>(t,s,((q+u:Nat):Int),bad,err,())
 | .bad off e=>([],s,(p:Int),((q+off:Nat):Int),e,())
 | .start=>([],s,(p:Int),(p:Int),4,())
theorem c23 (pre r:List UInt8) (c:UInt8) (p:Nat) (bad err:Int) (hp:pre.length=p) (hb:p+r.length≤140737488355000) :
 y1b (pre++c::r,(p:Int),bad,err,())=some (zg (pre++c::r) p bad err (p+1) (qt r)):=by
 show k3t yf yq q8o (pre++c::r,(p:Int),bad,err,())=_;have hl:=l23 p bad err r.length r (pre++[c]) [] (p+1) je (Nat.le_refl _) (by simp [hp]) (by unfold je;omega) (by omega) (by simp;omega);rw [←shift] at hl;have hl':q8o (((p+1:Nat):Int),pre++c::r,(p:Int),bad,err,[],())=_:=hl;cases hq:qt r<;>rw [hq] at hl'<;>simp (disch:=(first|omega|(simp only [jv];omega))) only [k3t,Sk,hl',z3q,zg,c27,List.nil_append]
def ltk:List UInt8→Tk
 | [] => .start
 | c::r=>if c.toNat=93 then .ok [] 1 else if c.toNat=91 then .bad 0 4 else if c.toNat=92 then .bad 0 4 else
  bif js c then .bad 0 4 else bif jc c then (ltk r).push [c] 1 else .bad 0 4
def j5f (s:List UInt8) (a bad err:Int) (from_:Nat) (q:Nat):Tk→(List UInt8×Int×Int×Int×Unit)⊕(List UInt8×List UInt8×Int×Int×Int×Unit)
 | .ok t u => .inr (List.drop from_ (List.take (q+t.length) s),s,((q+u:Nat):Int),bad,err,())
 | .bad off e => .inr ([],s,a,((q+off:Nat):Int),e,())
 | .start => .inl (s,a,bad,err,())
theorem v2a (s:List UInt8) (a bad err:Int) (f q:Nat) (l:List UInt8) (n:Nat) (hl:l.length=n) (k:Tk):j5f s a bad err f q (k.push l n)=j5f s a bad err f (q+n) k:=by
 cases k<;>simp [Tk.push,j5f,Nat.add_assoc,hl]
theorem l24 (a:Nat) (bad err:Int):∀(r pre:List UInt8) (q n:Nat),pre.length=q→a+1≤q→r.length<n→q+r.length≤140737488355320 →
 qb (ka yf yq ve xn) n ((q:Int),pre++r,(a:Int),bad,err,())=some (j5f (pre++r) a bad err (a+1) q (ltk r))
 | _,_,_,0,_,_,hn,_=>by omega
 | [],pre,q,n+1,hq,ha,hn,hb=>by
  refine qe ?_;simp (disch:=(first|omega|(simp only [jv];omega))) only [ka,xn,wg,Sk,List.append_nil,ltk,j5f]
 | c::r,pre,q,n+1,hq,ha,hn,hb=>by
  simp only [List.length_cons] at hn hb;by_cases e1:c.toNat=93
  · refine qe ?_
    simp (disch:=(first|omega|(simp only [jv];omega))) only [ka,xn,wg,Sk,ltk,if_pos,j5f,Nat.add_zero]
  · by_cases e2:c.toNat=91
    · refine qe ?_
      simp (disch:=(first|omega|(simp only [jv];omega))) only [ka,xn,wg,Sk,ltk,if_pos,if_neg,j5f,Nat.add_zero,c27]
    · by_cases e3:c.toNat=92
      · refine qe ?_
        simp (disch:=(first|omega|(simp only [jv];omega))) only [ka,xn,wg,Sk,ltk,if_pos,if_neg,j5f,Nat.add_zero,c27]
      · cases h1:js c with
        | true =>
         refine qe ?_;simp (disch:=(first|omega|(simp only [jv];omega))) only [ka,xn,wg,Sk,ltk,if_pos,if_neg,j5f,Nat.add_zero,c27,c32,h1]
        | false =>
         cases h2:jc c with
         | false =>
          refine qe ?_;simp (disch:=(first|omega|(simp only [jv];omega))) only [ka,xn,wg,Sk,ltk,if_pos,if_neg,j5f,Nat.add_zero,c27,c32,c31,h1,h2]
         | true =>
          rw [qy (v':=(((q+1:Nat):Int),pre++c::r,(a:Int),bad,err,())) (by
           simp (disch:=(first|omega|(simp only [jv];omega))) only [ka,xn,wg,Sk,c32,c31,h1,h2])]
          have:=l24 a bad err r (pre++[c]) (q+1) n (by simp [hq]) (by omega) (by omega) (by omega);rw [shift,this,←v2a (l:=[c]) (n:=1) _ _ _ _ _ _ rfl];simp only [ltk,if_neg e1,if_neg e2,if_neg e3,h1,h2,cond_true,cond_false]
theorem y0c:∀{r t:List UInt8} {u:Nat},ltk r = .ok t u→u=t.length+1∧t.length<r.length∧r.take t.length=t
 | [],t,u,h=>by simp [ltk] at h
 | c::r,t,u,h=>by
  unfold ltk at h;split at h
  · cases h;simp
  · split at h
    · cases h
    · split at h
      · cases h
      · cases h1:js c<;>cases h2:jc c<;>rw [h1,h2] at h<;>simp only [cond_true,cond_false] at h<;>try (cases h;done)
        cases hr:ltk r with
        | ok t' u' =>
         rw [hr] at h;cases h;obtain ⟨i1,i2,i3⟩:=y0c hr;exact ⟨by simp;omega,by simpa using i2,by simpa using i3⟩
        | bad o e=>rw [hr] at h;cases h
        | start=>rw [hr] at h;cases h
theorem c24 (pre r:List UInt8) (c:UInt8) (p:Nat) (bad err:Int) (hp:pre.length=p) (hb:p+r.length≤140737488355000) :
 y1c (pre++c::r,(p:Int),bad,err,())=some (zg (pre++c::r) p bad err (p+1) (ltk r)):=by
 show x8b yf yq ve q8p (pre++c::r,(p:Int),bad,err,())=_;have hl:=l24 p bad err r (pre++[c]) (p+1) je (by simp [hp]) (by omega) (by unfold je;omega) (by omega);rw [←shift] at hl;have hl':q8p (((p+1:Nat):Int),pre++c::r,(p:Int),bad,err,())=_:=hl;cases hq:ltk r with
 | ok t u =>
  rw [hq] at hl';obtain ⟨i1,i2,i3⟩:=y0c hq;simp (disch:=(first|omega|(simp only [jv];omega))) only [x8b,Sk,hl',j5f,zg];rw [shift,j3l (by simp [hp]),i3]
 | bad o e=>rw [hq] at hl';simp (disch:=(first|omega|(simp only [jv];omega))) only [x8b,Sk,hl',j5f,zg]
 | start=>rw [hq] at hl';simp (disch:=(first|omega|(simp only [jv];omega))) only [x8b,Sk,hl',j5f,zg,c27]
def nt:Nat→List UInt8→Tk
 | _,[] => .start
 | deep,c::r=>if c.toNat=40 then (if deep+1>32 then .bad 0 6 else (nt (deep+1) r).push [c] 1)
  else if c.toNat=41 then (if deep=1 then .ok [] 1 else (nt (deep-1) r).push [c] 1)
  else if c.toNat=92 then
   match r with
   | [] => .start
   | d::r'=>bif jc d then (nt deep r').push [c,d] 2 else .bad 1 4
  else bif jc c then (nt deep r).push [c] 1 else .bad 0 4
theorem w5p {deep:Nat} {c:UInt8} {r:List UInt8} (h:c.toNat=40):nt deep (c::r)=if deep+1>32 then .bad 0 6 else (nt (deep+1) r).push [c] 1:=by cases r<;>simp [nt,h]
theorem w5n {deep:Nat} {c:UInt8} {r:List UInt8} (h:c.toNat=41):nt deep (c::r)=if deep=1 then .ok [] 1 else (nt (deep-1) r).push [c] 1:=by cases r<;>simp [nt,h]
theorem x6i {deep:Nat} {c:UInt8} (h:c.toNat=92):nt deep [c] = .start:=by simp [nt,h]
theorem x6j {deep:Nat} {c d:UInt8} {r:List UInt8} (h:c.toNat=92):nt deep (c::d::r)=bif jc d then (nt deep r).push [c,d] 2 else .bad 1 4:=by simp [nt,h]
theorem w5o {deep:Nat} {c:UInt8} {r:List UInt8} (h1:¬c.toNat=40) (h2:¬c.toNat=41) (h3:¬c.toNat=92):nt deep (c::r)=bif jc c then (nt deep r).push [c] 1 else .bad 0 4:=by cases r<;>simp [nt,h1,h2,h3]
theorem wrM (n:Nat) (h:n≤9223372036854775806) (h1:1≤n):IntKind.i64.wrap ((n:Int)-1)=((n-1:Nat):Int):=by rw [wr]<;>omega
def q8g (s:List UInt8) (f:Nat) (a bad err:Int) (q:Nat):Tk→((Int×Int×List UInt8×Int×Int×Int×Unit)⊕(Int×Int×List UInt8×Int×Int×Int×Unit)⊕(List UInt8×List UInt8×Int×Int×Int×Unit))
 | .ok t u => .inr (.inr (List.drop (f+1) (List.take (q+t.length) s),s,((q+u:Nat):Int),bad,err,()))
 | .bad off e => .inr (.inl (e,((q+off:Nat):Int),s,a,bad,err,()))
 | .start => .inl ((f:Int),4,s,a,bad,err,())
theorem z5m (s:List UInt8) (f:Nat) (a bad err:Int) (q:Nat) (l:List UInt8) (n:Nat) (hl:l.length=n) (k:Tk):q8g s f a bad err q (k.push l n)=q8g s f a bad err (q+n) k:=by
 cases k<;>simp [Tk.push,q8g,Nat.add_assoc,hl]
theorem l25 (f:Nat) (a bad err:Int):∀(m:Nat) (r pre:List UInt8) (deep q n:Nat),r.length≤m→1≤deep→deep≤32→pre.length=q→f+1≤q→r.length<n→q+r.length≤140737488355320 →
 qb (zw yf yq) n ((f:Int),(deep:Int),4,(q:Int),pre++r,a,bad,err,())=some (q8g (pre++r) f a bad err q (nt deep r))
 | _,_,_,_,_,0,_,_,_,_,_,hn,_=>by omega
 | m,[],pre,deep,q,n+1,hm,hd,hd2,hq,hf,hn,hb=>by
  refine qe ?_;simp (disch:=(first|omega|(simp only [jv];omega))) only [zw,Sk,List.append_nil,nt,q8g]
 | 0,c::r,pre,deep,q,n+1,hm,hd,hd2,hq,hf,hn,hb=>by simp at hm
 | m+1,c::r,pre,deep,q,n+1,hm,hd,hd2,hq,hf,hn,hb=>by
  simp only [List.length_cons] at hn hb hm;have next:∀(d':Nat),1≤d'→d'≤32→zw yf yq ((f:Int),(deep:Int),4,(q:Int),pre++c::r,a,bad,err,())=some (.inl ((f:Int),(d':Int),4,((q+1:Nat):Int),pre++c::r,a,bad,err,())) →
   qb (zw yf yq) (n+1) ((f:Int),(deep:Int),4,(q:Int),pre++c::r,a,bad,err,())=some (q8g (pre++c::r) f a bad err q ((nt d' r).push [c] 1)):=by
   intro d' h1 h2 h3;rw [qy h3,z5m (l:=[c]) (n:=1) _ _ _ _ _ _ rfl];have:=l25 f a bad err m r (pre++[c]) d' (q+1) n (by omega) h1 h2 (by simp [hq]) (by omega) (by omega) (by omega);rw [shift,this]
  by_cases e1:c.toNat=40
  · rw [w5p e1]
    by_cases hdd:deep+1>32
    · rw [if_pos hdd]
      refine qe ?_;simp (disch:=(first|omega|(simp only [jv];omega))) only [zw,Sk,q8g,Nat.add_zero]
    · rw [if_neg hdd]
      refine next (deep+1) (by omega) (by omega) ?_;simp (disch:=(first|omega|(simp only [jv];omega))) only [zw,Sk]
  · by_cases e2:c.toNat=41
    · rw [w5n e2]
      by_cases hd1:deep=1
      · rw [if_pos hd1]
        refine qe ?_;subst hd1;simp (disch:=(first|omega|(simp only [jv];omega))) only [zw,Sk,q8g,Nat.add_zero,wrM]
      · rw [if_neg hd1]
        refine next (deep-1) (by omega) (by omega) ?_;simp (disch:=(first|omega|(simp only [jv];omega))) only [zw,Sk,wrM]
    · by_cases e3:c.toNat=92
      · match r,hm,hn,hb with
        | [],hm,hn,hb =>
         rw [x6i e3];simp only [List.length_nil] at hn hb hm;rw [qy (v':=((f:Int),(deep:Int),4,((q+2:Nat):Int),pre++[c],a,bad,err,())) (by
          simp (disch:=(first|omega|(simp only [jv];omega))) only [zw,Sk])]
         obtain ⟨n',rfl⟩:∃n',n=n'+1:=⟨n-1,by omega⟩
         refine qe ?_;simp (disch:=(first|omega|(simp only [jv];omega))) only [zw,Sk,q8g]
        | d::r',hm,hn,hb =>
         simp only [List.length_cons] at hn hb hm;rw [x6j e3];have hg:(pre++c::d::r').getD (q+1) 0=d:=by rw [shift];exact gd (by simp [hq])
         cases h:jc d with
         | true =>
          rw [qy (v':=((f:Int),(deep:Int),4,((q+2:Nat):Int),pre++c::d::r',a,bad,err,())) (by
           simp (disch:=(first|omega|(simp only [jv];omega))) only [zw,Sk,hg,c31,h])]
          have:=l25 f a bad err m r' (pre++[c,d]) deep (q+2) n (by omega) hd hd2 (by simp [hq]) (by omega) (by omega) (by omega);rw [show pre++c::d::r'=(pre++[c,d])++r' by simp,this,cond_true,z5m (l:=[c,d]) (n:=2) _ _ _ _ _ _ rfl]
         | false =>
          refine qe ?_;simp (disch:=(first|omega|(simp only [jv];omega))) only [zw,Sk,hg,c31,h,q8g]
      · rw [w5o e1 e2 e3]
        cases h:jc c with
        | true =>
         refine next deep hd hd2 ?_;simp (disch:=(first|omega|(simp only [jv];omega))) only [zw,Sk,c31,h]
        | false =>
         refine qe ?_;simp (disch:=(first|omega|(simp only [jv];omega))) only [zw,Sk,c31,h,q8g,Nat.add_zero]
theorem yj {k:Tk} {l t:List UInt8} {n u:Nat} (h:k.push l n = .ok t u):∃t' u',k = .ok t' u'∧t=l++t'∧u=n+u':=by
 cases k<;>simp [Tk.push] at h
 exact ⟨_,_,rfl,h.1.symm,h.2.symm⟩
theorem x6k:∀(m:Nat) {r t:List UInt8} {u deep:Nat},r.length≤m→nt deep r = .ok t u→u=t.length+1∧t.length<r.length∧r.take t.length=t
 | _,[],t,u,deep,_,h=>by simp [nt] at h
 | 0,c::r,t,u,deep,hm,h=>by simp at hm
 | m+1,c::r,t,u,deep,hm,h=>by
  simp only [List.length_cons] at hm;have one:∀(d':Nat),(nt d' r).push [c] 1 = .ok t u→u=t.length+1∧t.length<(c::r).length∧(c::r).take t.length=t:=by
   intro d' h;obtain ⟨t',u',h1,rfl,rfl⟩:=yj h;obtain ⟨i1,i2,i3⟩:=x6k m (by omega) h1;exact ⟨by simp;omega,by simpa using i2,by simpa using i3⟩
  by_cases e1:c.toNat=40
  · rw [w5p e1] at h
    split at h
    · cases h
    · exact one _ h
  · by_cases e2:c.toNat=41
    · rw [w5n e2] at h
      split at h
      · cases h;simp
      · exact one _ h
    · by_cases e3:c.toNat=92
      · match r,hm,h with
        | [],hm,h=>rw [x6i e3] at h;cases h
        | d::r',hm,h =>
         simp only [List.length_cons] at hm;rw [x6j e3] at h;cases hd:jc d<;>rw [hd] at h
         · cases h
         · obtain ⟨t',u',h1,rfl,rfl⟩:=yj h
           obtain ⟨i1,i2,i3⟩:=x6k m (by omega) h1;exact ⟨by simp;omega,by simpa using i2,by simpa using i3⟩
      · rw [w5o e1 e2 e3] at h
        cases hd:jc c<;>rw [hd] at h
        · cases h
        · exact one _ h
theorem d6g (k e:Int) (s:List UInt8) (a bad err:Int):q4u (e,k,s,a,bad,err,())=some ([],s,a,k,e,()):=by
 show qb _ je _=_;rw [show je=999999999999999999999+1 from rfl];exact qe rfl
theorem c25 (pre r:List UInt8) (c:UInt8) (p:Nat) (bad err:Int) (hc:c.toNat=40) (hp:pre.length=p) (hb:p+r.length≤140737488355000) :
 y1d (pre++c::r,(p:Int),bad,err,())=some (zg (pre++c::r) p bad err (p+1) (nt 1 r)):=by
 show x8c yf yq q4u q8q (pre++c::r,(p:Int),bad,err,())=_;have hl:=l25 p p bad err r.length r (pre++[c]) 1 (p+1) 999999999999999999999 (Nat.le_refl _) (by omega) (by omega) (by simp [hp]) (by omega) (by omega) (by omega);rw [←shift] at hl;have h0:q8q ((p:Int),0,4,(p:Int),pre++c::r,(p:Int),bad,err,())=some (q8g (pre++c::r) p p bad err (p+1) (nt 1 r)):=by
  rw [←hl];show qb _ (999999999999999999999+1) _=_;refine qy ?_;simp (disch:=(first|omega|(simp only [jv];omega))) only [zw,Sk];rfl
 cases hq:nt 1 r with
 | ok t u =>
  rw [hq] at h0;obtain ⟨i1,i2,i3⟩:=x6k _ (Nat.le_refl _) hq;simp (disch:=(first|omega|(simp only [jv];omega))) only [x8c,Sk,h0,q8g,zg];rw [shift,j3l (by simp [hp]),i3]
 | bad o e=>rw [hq] at h0;simp (disch:=(first|omega|(simp only [jv];omega))) only [x8c,Sk,h0,q8g,zg,d6g]
 | start=>rw [hq] at h0;simp (disch:=(first|omega|(simp only [jv];omega))) only [x8c,Sk,h0,q8g,zg,c27]
def g1 (o:Option (Int×Int×Unit)):Int:=match o with|some (n,_,_)=>n|none=>0
def g2 (o:Option (Int×Int×Unit)):Int:=match o with|some (_,v,_)=>v|none=>0
def ok2 (o:Option (Int×Int×Unit)):Bool:=match o with|some _=>true|none=>false
theorem k1f {o:Option (Int×Int×Unit)} (h:ok2 o=true):o=some (g1 o,g2 o,()):=by
 cases o with
 | none=>cases h
 | some x=>rfl
def zf (c:UInt8):Int:=g1 (kz ((c.toNat:Int),()))
def q3i (c:UInt8):Int:=g2 (kz ((c.toNat:Int),()))
theorem d6f:((List.range 256).all fun n=>(fun c:UInt8=>ok2 (kz ((c.toNat:Int),()))) (UInt8.ofNat n))=true:=by kernel_rfl
theorem c19 (c:UInt8):kz ((c.toNat:Int),())=some (zf c,q3i c,()):=k1f (vf (fun c=>ok2 (kz ((c.toNat:Int),()))) d6f c)
def f6m:Int→Bool
 | .ofNat n=>Nat.ble n 3
 | .negSucc n=>Nat.beq n 0
theorem f4p:((List.range 256).all fun n=>(fun c:UInt8=>f6m (zf c)) (UInt8.ofNat n))=true:=by kernel_rfl
theorem v9w (c:UInt8):zf c = -1∨0≤zf c∧zf c≤3:=by
 have h:f6m (zf c)=true:=vf (fun c=>f6m (zf c)) f4p c;generalize zf c=x at h;cases x with
 | ofNat n=>have:=Nat.le_of_ble_eq_true h;right;simp;omega
 | negSucc n=>have:=Nat.eq_of_beq_eq_true h;subst this;left;rfl
def y3z (v:Int):Int:=match xm (v,()) with|some (n,_)=>n|none=>0
theorem c20 (v:Int):xm (v,())=some (y3z v,()):=by
 have h:∃n,xm (v,())=some (n,()):=by
  show ∃n,y1p xp (v,())=some (n,());have h29:∃b,xp (v,())=some (b,()):=by
   simp only [xp,v4v];cases decide (v≥0)<;>cases decide (v≤1114111)<;>cases decide (v≥55296)<;>exact ⟨_,rfl⟩
  obtain ⟨b,hb⟩:=h29;simp only [y1p,hb,Option.bind_some];cases b<;>cases decide (v≤127)<;>cases decide (v≤2047)<;>cases decide (v≤65535)<;>exact ⟨_,rfl⟩
 obtain ⟨n,hn⟩:=h;rw [y3z,hn]
def j5m (c:UInt8):Bool := !(intBits BinOp.andNot IntKind.u8 (c.toNat:Int) 63 != 128)
def k2f (v:Int) (c:UInt8):Int:=intBits BinOp.or IntKind.i32 (IntKind.i32.wrap (v*2^min 6 IntKind.i32.bits)) (IntKind.i32.wrap (intBits BinOp.and IntKind.u8 (c.toNat:Int) 63))
def xv:Nat→List UInt8→Int→Option Int
 | 0,_,v=>some v
 | _+1,[],_=>none
 | n+1,c::r,v=>bif j5m c then xv n r (k2f v c) else none
def ch:List UInt8→Nat
 | []=>0
 | c::r=>if zf c<0 then 0 else if r.length<(zf c).toNat then 0 else
  match xv (zf c).toNat r (q3i c) with
  | none=>0
  | some v=>if y3z v=zf c+1 then (zf c).toNat+1 else 0
theorem v6v:∀s,ch s≤s.length
 | []=>Nat.le_refl _
 | c::r=>by
  simp only [ch,List.length_cons];split
  · omega
  · split
    · omega
    · split
      · omega
      · split<;>omega
def v1z (s:List UInt8) (n a:Int) (out:List Int):Option Int→(List UInt8×Int×Int×Int×List Int×Unit)⊕(Int×List Int×Unit)
 | some v => .inl (s,n,v,a,out,())
 | none => .inr (a,out,())
theorem b5i (a:Nat) (m:Nat) (out:List Int):∀(j:Nat) (r pre:List UInt8) (v:Int) (k n:Nat),pre.length=k→k+j=a+m+1→j≤r.length→j<n→k+r.length≤140737488355320→m≤3 →
 qb (q3v kz xm) n (pre++r,(m:Int),v,(a:Int),(k:Int),out,())=some (v1z (pre++r) m a out (xv j r v))
 | _,_,_,_,_,0,_,_,_,hn,_,_=>by omega
 | 0,r,pre,v,k,n+1,hk,hj,hr,hn,hb,hm=>by
  refine qe ?_;have h:IntKind.i64.wrap ((a:Int)+(m:Int))=(a:Int)+m:=wr (by omega) (by omega);simp (disch:=(first|omega|(simp only [jv];omega))) only [q3v,h,Sk,xv,v1z]
 | j+1,[],pre,v,k,n+1,hk,hj,hr,hn,hb,hm=>by simp at hr
 | j+1,c::r,pre,v,k,n+1,hk,hj,hr,hn,hb,hm=>by
  simp only [List.length_cons] at hr hb;have h:IntKind.i64.wrap ((a:Int)+(m:Int))=(a:Int)+m:=wr (by omega) (by omega);cases hc:j5m c with
  | true =>
   have hc':(intBits BinOp.andNot IntKind.u8 (c.toNat:Int) 63 != 128)=false:=by simpa [j5m] using hc
   rw [qy (v':=(pre++c::r,(m:Int),k2f v c,(a:Int),((k+1:Nat):Int),out,())) (by
    simp (disch:=(first|omega|(simp only [jv];omega))) only [q3v,h,Sk,hc'];rfl)]
   rw [shift,b5i a m out j r (pre++[c]) (k2f v c) (k+1) n (by simp [hk]) (by omega) (by omega) (by omega) (by omega) hm];simp only [xv,hc,cond_true]
  | false =>
   have hc':(intBits BinOp.andNot IntKind.u8 (c.toNat:Int) 63 != 128)=true:=by simpa [j5m] using hc
   refine qe ?_;simp (disch:=(first|omega|(simp only [jv];omega))) only [q3v,h,Sk,hc',xv,hc,v1z]
def ut:Nat→List UInt8→Nat→Option Nat
 | 0,_,_=>none
 | n+1,s,p=>if s=[] then none else if ch s=0 then some p else ut n (s.drop (ch s)) (p+ch s)
def r15 (out:List Int):Option Nat→(List Int×Unit)⊕(Int×List Int×Unit)
 | none => .inl (out,())
 | some b => .inr ((b:Int),out,())
theorem m3y (c:UInt8) (r pre:List UInt8) (out:List Int) (p:Nat) (hp:pre.length=p) (hb:p+r.length≤140737488355000) (ho:out.length≤1000000000) :
 kp kz xm q3s (pre++c::r,(p:Int),out,())=some (if ch (c::r)=0 then .inr (.inr ((p:Int),out,())) else
  .inl (pre++c::r,((p+ch (c::r):Nat):Int),out++[((xv (zf c).toNat r (q3i c)).getD 0)],())):=by
 have hrng:=v9w c;by_cases h1:zf c<0
 · have:ch (c::r)=0:=by simp [ch,h1]
   rw [if_pos this];simp (disch:=(first|omega|(simp only [jv];omega))) only [kp,Sk,c19]
 · have hw:IntKind.i64.wrap (((pre.length+(r.length+1):Nat):Int)-(p:Int))=(r.length:Int)+1:=by rw [wr]<;>omega
   obtain ⟨m,hm⟩:∃m:Nat,zf c=m:=⟨(zf c).toNat,by omega⟩
   by_cases h2:r.length<m
   · have:ch (c::r)=0:=by simp [ch,hm,h2]
     rw [if_pos this];simp (disch:=(first|omega|(simp only [jv];omega))) only [kp,Sk,c19,hw,hm]
   · have hl:=b5i p m out m r (pre++[c]) (q3i c) (p+1) je (by simp [hp]) (by omega) (by omega) (by unfold je;omega) (by omega) (by omega)
     rw [←shift] at hl;have hl':q3s (pre++c::r,(m:Int),q3i c,(p:Int),((p+1:Nat):Int),out,())=_:=hl;cases hc:xv m r (q3i c) with
     | none =>
      have:ch (c::r)=0:=by simp [ch,hm,h2,hc]
      rw [if_pos this];simp (disch:=(first|omega|(simp only [jv];omega))) only [kp,Sk,c19,hw,hm,hl',hc,v1z]
     | some v =>
      have hw2:IntKind.i64.wrap ((m:Int)+1)=(m:Int)+1:=wr (by omega) (by omega);by_cases h3:y3z v=m+1
      · have hch:ch (c::r)=m+1:=by simp [ch,hm,h2,hc,h3]
        have hw3:IntKind.i64.wrap ((p:Int)+((m:Int)+1))=((p+(m+1):Nat):Int):=by rw [wr]<;>omega
        rw [if_neg (by omega),hch];simp (disch:=(first|omega|(simp only [jv];omega))) only [kp,hw2,hw3,decide_eq_true,decide_eq_false,cond_true,cond_false,Bool.and_self,jv,Int.toNat_natCast,inF,gd,Option.bind_some,Sum.elim_inl,wrN,c19,hw,hm,hl',hc,v1z,c20,Option.getD_some]
      · have:ch (c::r)=0:=by simp [ch,hm,h2,hc,h3]
        rw [if_pos this];simp (disch:=(first|omega|(simp only [jv];omega))) only [kp,hw2,Sk,c19,hw,hm,hl',hc,v1z,c20]
theorem b5j:∀(m:Nat) (r pre:List UInt8) (out:List Int) (p n:Nat),r.length≤m→pre.length=p→r.length<n→p+r.length≤140737488355000→out.length+r.length≤1000000000 →
 ∃o,qb (kp kz xm q3s) n (pre++r,(p:Int),out,())=some (r15 o (ut n r p))
 | _,_,_,_,_,0,_,_,hn,_,_=>by omega
 | m,[],pre,out,p,n+1,hm,hp,hn,hb,ho=>by
  refine ⟨out,qe ?_⟩;simp (disch:=(first|omega|(simp only [jv];omega))) only [kp,Sk,List.append_nil,ut,if_true,r15]
 | 0,c::r,pre,out,p,n+1,hm,hp,hn,hb,ho=>by simp at hm
 | m+1,c::r,pre,out,p,n+1,hm,hp,hn,hb,ho=>by
  simp only [List.length_cons] at hm hn hb ho;have hr:=m3y c r pre out p hp (by omega) (by omega);by_cases h:ch (c::r)=0
  · rw [if_pos h] at hr
    refine ⟨out,?_⟩;rw [qe hr];simp [ut,h,r15]
  · rw [if_neg h] at hr
    have hle:=v6v (c::r);simp only [List.length_cons] at hle;have hsplit:pre++c::r=(pre++(c::r).take (ch (c::r)))++(c::r).drop (ch (c::r)):=by rw [List.append_assoc,List.take_append_drop]
    obtain ⟨o,ho'⟩:=b5j m ((c::r).drop (ch (c::r))) (pre++(c::r).take (ch (c::r))) (out++[((xv (zf c).toNat r (q3i c)).getD 0)]) (p+ch (c::r)) n (by simp;omega) (by simp [hp];omega) (by simp;omega) (by simp;omega) (by simp;omega);refine ⟨o,?_⟩;rw [qy hr];rw [←hsplit] at ho';rw [ho'];simp [ut,h]
def utf (s:List UInt8):Option Nat:=ut je s 0
theorem c15 (s:List UInt8) (hb:s.length≤1000000):∃o,C83 (s,())=some (o,(match utf s with|none => -1|some b=>(b:Int)),()):=by
 obtain ⟨o,h⟩:=b5j s.length s [] [] 0 je (Nat.le_refl _) rfl (by unfold je;omega) (by omega) (by simp;omega);have h':q7r (s,0,[],())=some (r15 o (utf s)):=h;refine ⟨o,?_⟩;show F83 kz xm q3r q7r (s,())=_;have hg:∀(b:Int) (o:List Int),q3r (b,o,())=some (b,o,()):=by
  intro b o;show qb _ je _=_;rw [show je=999999999999999999999+1 from rfl];exact qe rfl
 simp only [F83,h',Option.bind_some];cases utf s<;>simp [r15,hg]
def Tk.up:Tk→Tk
 | .ok t u => .ok t (1+u)
 | .bad off e => .bad (1+off) e
 | .start => .start
def one (c:UInt8) (r:List UInt8):Int×Tk :=
 if qz c=true then (0,.ok ((c::r).take (al (c::r))) (al (c::r)))
 else if xg c=true then (2,.ok [c] 1)
 else if c.toNat=34 then (1,(qt r).up)
 else if c.toNat=91 then (5,(ltk r).up)
 else if c.toNat=40 then (3,(nt 1 r).up)
 else if wl (c::r)=0 then (4,.start) else (4,.ok ((c::r).take (wl (c::r))) (wl (c::r)))
theorem y7r (s:List UInt8) (p:Nat) (bad err:Int) (k:Tk):zg s p bad err (p+1) k=zg s p bad err p k.up:=by
 cases k<;>simp [zg,Tk.up,Nat.add_assoc]
def q4q (s:List UInt8) (p:Nat) (bad err:Int) (x:Int×Tk):Int×List UInt8×Int×List UInt8×Int×Int×Int×Unit :=
 (x.1,(zg s p bad err p x.2).1,(p:Int),(zg s p bad err p x.2).2)
theorem c16 (pre r:List UInt8) (c:UInt8) (p:Nat) (bad err:Int) (hp:pre.length=p) (hb:p+r.length≤140737488354000) :
 z5v (pre++c::r,(p:Int),bad,err,())=some (q4q (pre++c::r) p bad err (one c r)):=by
 show z3a q3k y1a y1b y1c y1d y1e yf C90 xk (pre++c::r,(p:Int),bad,err,())=_;have h21:=c21 pre (c::r) p bad err hp (by simp;omega);have h26:=c26 pre (c::r) p bad err hp (by simp;omega);have h23:=c23 pre r c p bad err hp (by omega);have h24:=c24 pre r c p bad err hp (by omega);unfold one;by_cases h1:qz c=true
 · rw [if_pos h1]
   simp (disch:=(first|omega|(simp only [jv];omega))) only [z3a,xk,wd,Sk,c17,h1,h21,q4q,zg]
 · rw [if_neg h1]
   have h1':qz c=false:=by simpa using h1
   by_cases h2:xg c=true
   · rw [if_pos h2]
     have h2':x6w c≥0:=by simpa [xg] using h2
     have ht:List.drop p (List.take (p+1) (pre++c::r))=[c]:=by rw [j3l hp];rfl
     simp (disch:=(first|omega|(simp only [jv];omega))) only [z3a,xk,wd,Sk,c17,h1',v0v,ht,q4q,zg]
   · rw [if_neg h2]
     have h2':¬x6w c≥0:=by simpa [xg] using h2
     by_cases h3:c.toNat=34
     · rw [if_pos h3]
       rw [y7r] at h23;simp (disch:=(first|omega|(simp only [jv];omega))) only [z3a,xk,wd,Sk,c17,h1',v0v,h23,q4q]
     · rw [if_neg h3]
       by_cases h4:c.toNat=91
       · rw [if_pos h4]
         rw [y7r] at h24;simp (disch:=(first|omega|(simp only [jv];omega))) only [z3a,xk,wd,Sk,c17,h1',v0v,h24,q4q]
       · rw [if_neg h4]
         by_cases h5:c.toNat=40
         · rw [if_pos h5]
           have h25:=c25 pre r c p bad err h5 hp (by omega);rw [y7r] at h25;simp (disch:=(first|omega|(simp only [jv];omega))) only [z3a,xk,wd,Sk,c17,h1',v0v,h25,q4q]
         · rw [if_neg h5]
           by_cases h6:wl (c::r)=0
           · rw [if_pos h6]
             rw [h6] at h26;simp (disch:=(first|omega|(simp only [jv];omega))) only [z3a,xk,wd,Sk,c17,h1',v0v,h26,q4q,zg,List.take_zero,c27,beq_self_eq_true,Nat.add_zero]
           · rw [if_neg h6]
             obtain ⟨w,hw⟩:∃w,wl (c::r)=w+1:=⟨wl (c::r)-1,by omega⟩
             have hne:((c::r).take (wl (c::r))==[])=false:=by rw [hw];rfl
             simp (disch:=(first|omega|(simp only [jv];omega))) only [z3a,xk,wd,Sk,c17,h1',v0v,h26,q4q,zg,hne]
abbrev Tok:=Int×(List UInt8×Int)
def lx:Nat→List UInt8→Nat→List Tok⊕(Nat×Int)
 | 0,_,_ => .inl []
 | n+1,s,p=>match s with
  | [] => .inl []
  | c::r=>match one c r with
   | (k,.ok t u)=>match lx n ((c::r).drop u) (p+u) with
    | .inl l => .inl ((k,t,(p:Int))::l)
    | .inr e => .inr e
   | (_,.bad off e) => .inr (p+off,e)
   | (_,.start) => .inr (p,4)
theorem q2u:∀(m:Nat) {r t:List UInt8} {u:Nat},r.length≤m→qt r = .ok t u→t.length+1≤u∧u≤r.length
 | _,[],t,u,_,h=>by simp [qt] at h
 | 0,c::r,t,u,hm,h=>by simp at hm
 | m+1,c::r,t,u,hm,h=>by
  simp only [List.length_cons] at hm ⊢;by_cases e1:c.toNat=34
  · rw [y9d e1] at h;cases h;simp
  · by_cases e2:c.toNat=92
    · match r,hm,h with
      | [],hm,h=>rw [z5i e2] at h;cases h
      | d::r',hm,h =>
       rw [z2m e2] at h;cases hd:jc d<;>rw [hd] at h
       · cases h
       · obtain ⟨t',u',h1,rfl,rfl⟩:=yj h
         have:=q2u m (by simp at hm;omega) h1;simp;omega
    · rw [y9a e1 e2] at h
      cases hd:jc c<;>rw [hd] at h
      · cases h
      · obtain ⟨t',u',h1,rfl,rfl⟩:=yj h
        have:=q2u m (by omega) h1;simp;omega
theorem q4r {k:Tk} {t:List UInt8} {u:Nat} (h:k.up = .ok t u):∃u',k = .ok t u'∧u=1+u':=by
 cases k<;>simp [Tk.up] at h
 obtain ⟨rfl,rfl⟩:=h;exact ⟨_,rfl,rfl⟩
theorem f0m {c:UInt8} {r:List UInt8} (h:qz c=true):1≤al (c::r):=by simp [al,h]
theorem q0c {c:UInt8} {r t:List UInt8} {k:Int} {u:Nat} (h:one c r=(k,.ok t u)):1≤u∧u≤r.length+1:=by
 unfold one at h;split at h
 · rename_i h1
   cases h;have:=v6e (c::r);exact ⟨f0m h1,by simpa using this⟩
 · split at h
   · cases h;exact ⟨by omega,by omega⟩
   · split at h
     · obtain ⟨u',h1,rfl⟩:=q4r (Prod.mk.inj h).2
       have:=q2u _ (Nat.le_refl _) h1;omega
     · split at h
       · obtain ⟨u',h1,rfl⟩:=q4r (Prod.mk.inj h).2
         have:=y0c h1;omega
       · split at h
         · obtain ⟨u',h1,rfl⟩:=q4r (Prod.mk.inj h).2
           have:=x6k _ (Nat.le_refl _) h1;omega
         · split at h
           · cases h
           · rename_i h6
             cases h;have:=y5j (c::r);exact ⟨by omega,by simpa using this⟩
def y0q (out:List Tok):List Tok⊕(Nat×Int)→(List Tok×Unit)⊕(Int×Int×Unit)
 | .inl l => .inl (out++l,())
 | .inr (b,e) => .inr ((b:Int),e,())
def Tk.eok:Tk→Prop
 | .bad _ e=>e=4∨e=6
 | _=>True
theorem q0h {k:Tk} {l:List UInt8} {n:Nat} (h:k.eok):(k.push l n).eok:=by cases k<;>first|exact h|exact trivial
theorem y9n {k:Tk} (h:k.eok):k.up.eok:=by cases k<;>first|exact h|exact trivial
theorem f6l:∀(m:Nat) (r:List UInt8),r.length≤m→(qt r).eok
 | _,[],_=>trivial
 | 0,c::r,hm=>by simp at hm
 | m+1,c::r,hm=>by
  simp only [List.length_cons] at hm;by_cases e1:c.toNat=34
  · rw [y9d e1];trivial
  · by_cases e2:c.toNat=92
    · match r,hm with
      | [],hm=>rw [z5i e2];trivial
      | d::r',hm =>
       rw [z2m e2];cases jc d
       · exact .inl rfl
       · exact q0h (f6l m r' (by simp at hm;omega))
    · rw [y9a e1 e2]
      cases jc c
      · exact .inl rfl
      · exact q0h (f6l m r (by omega))
theorem g5i:∀r:List UInt8,(ltk r).eok
 | []=>trivial
 | c::r=>by
  unfold ltk;split
  · trivial
  · split
    · exact .inl rfl
    · split
      · exact .inl rfl
      · cases js c
        · cases jc c
          · exact .inl rfl
          · exact q0h (g5i r)
        · exact .inl rfl
theorem k0v:∀(m deep:Nat) (r:List UInt8),r.length≤m→(nt deep r).eok
 | _,_,[],_=>by simp [nt,Tk.eok]
 | 0,_,c::r,hm=>by simp at hm
 | m+1,deep,c::r,hm=>by
  simp only [List.length_cons] at hm;by_cases e1:c.toNat=40
  · rw [w5p e1]
    split
    · exact .inr rfl
    · exact q0h (k0v m _ r (by omega))
  · by_cases e2:c.toNat=41
    · rw [w5n e2]
      split
      · trivial
      · exact q0h (k0v m _ r (by omega))
    · by_cases e3:c.toNat=92
      · match r,hm with
        | [],hm=>rw [x6i e3];trivial
        | d::r',hm =>
         rw [x6j e3];cases jc d
         · exact .inl rfl
         · exact q0h (k0v m _ r' (by simp at hm;omega))
      · rw [w5o e1 e2 e3]
        cases jc c
        · exact .inl rfl
        · exact q0h (k0v m _ r (by omega))
theorem d0f (c:UInt8) (r:List UInt8):(one c r).2.eok:=by
 unfold one;split
 · trivial
 · split
   · trivial
   · split
     · exact y9n (f6l _ r (Nat.le_refl _))
     · split
       · exact y9n (g5i r)
       · split
         · exact y9n (k0v _ _ r (Nat.le_refl _))
         · split<;>trivial
theorem l11 (s:List UInt8):∀(m:Nat) (r pre:List UInt8) (out:List Tok) (bad:Int) (p n:Nat),r.length≤m→s=pre++r→pre.length=p→r.length<n→p+r.length≤100000→out.length+r.length≤100000 →
 qb (q3u z5v C83) n (s,out,s,(p:Int),bad,0,())=some (y0q out (lx m r p))
 | _,_,_,_,_,_,0,_,_,_,hn,_,_=>by omega
 | 0,[],pre,out,bad,p,n+1,hm,hs,hp,hn,hb,ho=>by
  refine qe ?_;have:s.length=p:=by rw [hs];simp [hp]
  simp (disch:=(first|omega|(simp only [jv];omega))) only [q3u,this,Sk,lx,y0q,List.append_nil]
 | m+1,[],pre,out,bad,p,n+1,hm,hs,hp,hn,hb,ho=>by
  refine qe ?_;have:s.length=p:=by rw [hs];simp [hp]
  simp (disch:=(first|omega|(simp only [jv];omega))) only [q3u,this,Sk,lx,y0q,List.append_nil]
 | 0,c::r,pre,out,bad,p,n+1,hm,hs,hp,hn,hb,ho=>by simp at hm
 | m+1,c::r,pre,out,bad,p,n+1,hm,hs,hp,hn,hb,ho=>by
  simp only [List.length_cons] at hm hn hb ho;have h16:=c16 pre r c p bad 0 hp (by omega);have he:=d0f c r;rw [←hs] at h16;have hl:s.length=p+(r.length+1):=by rw [hs];simp [hp]
  cases h1:one c r with
  | mk k tk =>
   rw [h1] at h16 he;cases tk with
   | ok t u =>
    have hu:=q0c h1;rw [qy (v':=(s,out++[(k,t,(p:Int))],s,((p+u:Nat):Int),bad,0,())) (by
     simp (disch:=(first|omega|(simp only [jv];omega))) only [q3u,hl,Sk,h16,q4q,zg])]
    have:=l11 s m ((c::r).drop u) (pre++(c::r).take u) (out++[(k,t,(p:Int))]) bad (p+u) n (by simp;omega) (by rw [hs,List.append_assoc,List.take_append_drop]) (by simp [hp];omega) (by simp;omega) (by simp;omega) (by simp;omega);rw [this];simp only [lx,h1];cases lx m ((c::r).drop u) (p+u) with
    | inl l=>simp [y0q]
    | inr e=>rfl
   | bad off e =>
    have he':e=4∨e=6:=he;refine qe ?_;simp (disch:=(first|omega|(simp only [jv];omega))) only [q3u,hl,Sk,h16,q4q,zg,lx,h1,y0q]
   | start =>
    refine qe ?_;simp (disch:=(first|omega|(simp only [jv];omega))) only [q3u,hl,Sk,h16,q4q,zg,lx,h1,y0q]
theorem x5t:∀(n m:Nat) (s:List UInt8) (p:Nat),s.length≤n→s.length≤m→lx n s p=lx m s p
 | 0,0,_,_,_,_=>rfl
 | 0,m+1,[],p,_,_=>rfl
 | n+1,0,[],p,_,_=>rfl
 | n+1,m+1,[],p,_,_=>rfl
 | 0,_,c::r,p,h,_=>by simp at h
 | n+1,0,c::r,p,_,h=>by simp at h
 | n+1,m+1,c::r,p,h,h'=>by
  simp only [List.length_cons] at h h';simp only [lx];cases h1:one c r with
  | mk k tk =>
   cases tk with
   | ok t u =>
    have hu:=q0c h1;simp only;rw [x5t n m ((c::r).drop u) (p+u) (by simp;omega) (by simp;omega)]
   | bad off e=>rfl
   | start=>rfl
def zt (s:List UInt8) (p:Nat):List Tok⊕(Nat×Int):=lx s.length s p
theorem j2x (p:Nat):zt [] p = .inl []:=rfl
theorem j4x (c:UInt8) (r:List UInt8) (p:Nat):zt (c::r) p=match one c r with
 | (k,.ok t u)=>(match zt ((c::r).drop u) (p+u) with
  | .inl l => .inl ((k,t,(p:Int))::l)
  | .inr e => .inr e)
 | (_,.bad off e) => .inr (p+off,e)
 | (_,.start) => .inr (p,4):=by
 unfold zt;simp only [List.length_cons,lx];cases h1:one c r with
 | mk k tk =>
  cases tk with
  | ok t u =>
   have hu:=q0c h1;simp only;rw [x5t r.length ((c::r).drop u).length ((c::r).drop u) (p+u) (by simp;omega) (Nat.le_refl _)]
  | bad off e=>rfl
  | start=>rfl
def x5e (x:Tok):List Tok⊕(Nat×Int)→List Tok⊕(Nat×Int)
 | .inl l => .inl (x::l)
 | .inr e => .inr e
theorem wi {c:UInt8} {r t:List UInt8} {k:Int} {u:Nat} (h:one c r=(k,.ok t u)) (p:Nat):zt (c::r) p=x5e (k,t,(p:Int)) (zt ((c::r).drop u) (p+u)):=by
 rw [j4x,h];rfl
theorem v9x {c:UInt8} {r:List UInt8} {k e:Int} {off:Nat} (h:one c r=(k,.bad off e)) (p:Nat):zt (c::r) p = .inr (p+off,e):=by
 rw [j4x,h]
theorem y8q {c:UInt8} {r:List UInt8} {k:Int} (h:one c r=(k,.start)) (p:Nat):zt (c::r) p = .inr (p,4):=by
 rw [j4x,h]
def f2p:List Tok⊕(Nat×Int)→List Tok×Int×Int
 | .inl l=>(l,0,0)
 | .inr x=>([],(x.1:Int),x.2)
def k9v:Option Nat→List Tok⊕(Nat×Int)→List Tok×Int×Int
 | some b,_=>([],(b:Int),7)
 | none,x=>f2p x
def q4l (s:List UInt8):List Tok×Int×Int:=if 2000<s.length then ([],0,5) else k9v (utf s) (zt s 0)
theorem c11 (s:List UInt8):C67 (s,())=some ((q4l s).1,(q4l s).2.1,(q4l s).2.2,()):=by
 show F67 z5v C83 j9z (s,())=_;unfold q4l;by_cases h:2000<s.length
 · simp only [if_pos h]
   simp (disch:=(first|omega|(simp only [jv];omega))) only [F67,Sk]
 · simp only [if_neg h]
   obtain ⟨o,h15⟩:=c15 s (by omega);cases hu:utf s with
   | some b =>
    rw [hu] at h15;simp only at h15;simp (disch:=(first|omega|(simp only [jv];omega))) only [F67,Sk,h15,k9v]
   | none =>
    rw [hu] at h15;have hl:=l11 s s.length s [] [] 0 0 je (Nat.le_refl _) (by simp) rfl (by unfold je;omega) (by omega) (by simp;omega);have hl':j9z (s,[],s,0,0,0,())=some (y0q [] (zt s 0)):=hl;simp (disch:=(first|omega|(simp only [jv];omega))) only [F67,Sk,h15,hl'];cases zt s 0 with
    | inl l=>simp [y0q,k9v,f2p]
    | inr x=>obtain ⟨b,e⟩:=x;simp [y0q,k9v,f2p]
theorem y0b:∀{r t:List UInt8} {u:Nat},ltk r = .ok t u→u=t.length+1∧∃x,r=t++93::x
 | [],t,u,h=>by simp [ltk] at h
 | c::r,t,u,h=>by
  unfold ltk at h;split at h
  · rename_i hc
    cases h;exact ⟨rfl,r,by rw [z5t hc];rfl⟩
  · split at h
    · cases h
    · split at h
      · cases h
      · cases h1:js c<;>cases h2:jc c<;>rw [h1,h2] at h<;>simp only [cond_true,cond_false] at h<;>try (cases h;done)
        obtain ⟨t',u',h3,rfl,rfl⟩:=yj h;obtain ⟨i1,x,i2⟩:=y0b h3;exact ⟨by simp;omega,x,by rw [i2];simp⟩
theorem y0e:∀(m:Nat) {r t:List UInt8} {u deep:Nat},r.length≤m→nt deep r = .ok t u→u=t.length+1∧∃x,r=t++41::x
 | _,[],t,u,deep,_,h=>by simp [nt] at h
 | 0,c::r,t,u,deep,hm,h=>by simp at hm
 | m+1,c::r,t,u,deep,hm,h=>by
  simp only [List.length_cons] at hm;have one:∀(d':Nat),(nt d' r).push [c] 1 = .ok t u→u=t.length+1∧∃x,c::r=t++41::x:=by
   intro d' h;obtain ⟨t',u',h1,rfl,rfl⟩:=yj h;obtain ⟨i1,x,i2⟩:=y0e m (by omega) h1;exact ⟨by simp;omega,x,by rw [i2];simp⟩
  by_cases e1:c.toNat=40
  · rw [w5p e1] at h
    split at h
    · cases h
    · exact one _ h
  · by_cases e2:c.toNat=41
    · rw [w5n e2] at h
      split at h
      · cases h;exact ⟨rfl,r,by rw [z5t e2];rfl⟩
      · exact one _ h
    · by_cases e3:c.toNat=92
      · match r,hm,h with
        | [],hm,h=>rw [x6i e3] at h;cases h
        | d::r',hm,h =>
         simp only [List.length_cons] at hm;rw [x6j e3] at h;cases hd:jc d<;>rw [hd] at h
         · cases h
         · obtain ⟨t',u',h1,rfl,rfl⟩:=yj h
           obtain ⟨i1,x,i2⟩:=y0e m (by omega) h1;exact ⟨by simp;omega,x,by rw [i2];simp⟩
      · rw [w5o e1 e2 e3] at h
        cases hd:jc c<;>rw [hd] at h
        · cases h
        · exact one _ h
theorem j9f {c:UInt8} {r t:List UInt8} {k:Int} {u:Nat} (h:one c r=(k,.ok t u)):(k≠1→src k t=(c::r).take u)∧(k=1→c=34∧t.length+2≤u):=by
 unfold one at h;split at h
 · cases h;exact ⟨fun _=>by simp [src],fun h=>by cases h⟩
 · split at h
   · cases h;exact ⟨fun _=>by simp [src],fun h=>by cases h⟩
   · split at h
     · rename_i hc
       obtain ⟨u',h1,rfl⟩:=q4r (Prod.mk.inj h).2;have hk:=(Prod.mk.inj h).1;have:=q2u _ (Nat.le_refl _) h1;exact ⟨fun hk'=>absurd hk.symm hk',fun _=>⟨z5t hc,by omega⟩⟩
     · split at h
       · rename_i hc
         obtain ⟨u',h1,rfl⟩:=q4r (Prod.mk.inj h).2;obtain ⟨i1,x,i2⟩:=y0b h1;have hk:=(Prod.mk.inj h).1;subst hk;refine ⟨fun _ => ?_,fun h=>by cases h⟩;rw [i2,i1,z5t hc];simp [src,Nat.add_comm 1,List.take_append,List.take_of_length_le]
       · split at h
         · rename_i hc
           obtain ⟨u',h1,rfl⟩:=q4r (Prod.mk.inj h).2;obtain ⟨i1,x,i2⟩:=y0e _ (Nat.le_refl _) h1;have hk:=(Prod.mk.inj h).1;subst hk;refine ⟨fun _ => ?_,fun h=>by cases h⟩;rw [i2,i1,z5t hc];simp [src,Nat.add_comm 1,List.take_append,List.take_of_length_le]
         · split at h
           · cases h
           · cases h;exact ⟨fun _=>by simp [src],fun h=>by cases h⟩
theorem j2z {c:UInt8} {r t:List UInt8} {k:Int} {u:Nat} (h:one c r=(k,.ok t u)):t.length≤u:=by
 obtain ⟨h1,h2⟩:=j9f h;have hu:=q0c h;by_cases hk:k=1
 · have:=(h2 hk).2;omega
 · have:=h1 hk
   have hl:t.length≤(src k t).length:=by
    unfold src;split
    · rename_i h;exact absurd h hk
    · split
      · simp;omega
      · split
        · simp;omega
        · omega
   rw [this] at hl;simp only [List.length_take,List.length_cons] at hl;omega
theorem v0z {x:Tok} {y:List Tok⊕(Nat×Int)} {l:List Tok} (h:x5e x y = .inl l):∃l',y = .inl l'∧l=x::l':=by cases y<;>simp [x5e] at h;exact ⟨_,rfl,h.symm⟩
theorem j2w {c:UInt8} {r:List UInt8} {p:Nat} {l:List Tok} (h:zt (c::r) p = .inl l):∃k t u l',one c r=(k,.ok t u)∧zt ((c::r).drop u) (p+u) = .inl l'∧l=(k,t,(p:Int))::l':=by
 cases h1:one c r with
 | mk k tk =>
  cases tk with
  | ok t u =>
   rw [wi h1] at h;obtain ⟨l',h2,h3⟩:=v0z h;exact ⟨k,t,u,l',rfl,h2,h3⟩
  | bad off e=>rw [v9x h1] at h;cases h
  | start=>rw [y8q h1] at h;cases h
def q4e (c:UInt8):Bool:=decide (c.toNat=9)||(decide (32≤c.toNat) && !decide (c.toNat=127))
theorem f3b:((List.range 256).all fun n=>(fun c:UInt8=>(q4e c&&jc c)||(!q4e c && !jc c)) (UInt8.ofNat n))=true:=by kernel_rfl
theorem q4f (c:UInt8):q4e c=jc c:=by
 have h:=vf (fun c:UInt8=>(q4e c&&jc c)||(!q4e c && !jc c)) f3b c;cases h1:q4e c<;>cases h2:jc c<;>simp_all
theorem b5m {c:UInt8} (h:c.toNat=34∨c.toNat=92):jc c=true:=by
 rw [←q4f];unfold q4e;rcases h with h|h<;>rw [h]<;>rfl
theorem y9b:∀(s x:List UInt8),(s.all jc=true→qt (esc s++34::x) = .ok s ((esc s).length+1))∧(s.all jc=false→∃off,qt (esc s++34::x) = .bad off 4)
 | [],x=>⟨fun _=>by rw [show esc []=[] from rfl,List.nil_append,y9d rfl];rfl,fun h=>by simp at h⟩
 | c::s,x=>by
  obtain ⟨i1,i2⟩:=y9b s x;have he:esc (c::s)++34::x=q0s c++(esc s++34::x):=by simp [esc]
  have hl:(esc (c::s)).length=(q0s c).length+(esc s).length:=by simp [esc]
  rw [he,hl];by_cases e1:c.toNat=34∨c.toNat=92
  · have hm:=b5m e1
    have h1:q0s c=[92,c]:=by simp [q0s,e1]
    rw [h1,List.cons_append,List.cons_append,List.nil_append,z2m rfl,hm,cond_true];refine ⟨fun h => ?_,fun h => ?_⟩
    · rw [i1 (by simpa [hm] using h)];simp [Tk.push];omega
    · obtain ⟨off,ho⟩:=i2 (by simpa [hm] using h)
      rw [ho];exact ⟨_,rfl⟩
  · have h1:q0s c=[c]:=by simp [q0s,e1]
    have e2:¬c.toNat=34:=fun h=>e1 (.inl h);have e3:¬c.toNat=92:=fun h=>e1 (.inr h);rw [h1,List.cons_append,List.nil_append,y9a e2 e3];cases hm:jc c with
    | true =>
     rw [cond_true];refine ⟨fun h => ?_,fun h => ?_⟩
     · rw [i1 (by simpa [hm] using h)];simp [Tk.push];omega
     · obtain ⟨off,ho⟩:=i2 (by simpa [hm] using h)
       rw [ho];exact ⟨_,rfl⟩
    | false=>exact ⟨fun h=>by simp [hm] at h,fun _=>⟨0,rfl⟩⟩
theorem y2r:(qz 34||xg 34)=false:=by kernel_rfl
theorem k1i (r:List UInt8):one 34 r=(1,(qt r).up):=by
 have h:=y2r;simp only [Bool.or_eq_false_iff] at h;unfold one;rw [if_neg (by rw [h.1];decide),if_neg (by rw [h.2];decide),if_pos (show UInt8.toNat 34=34 from rfl)]
def z1k (c:UInt8):Bool:=decide (c.toNat<128)
theorem b3h:((List.range 256).all fun n=>(fun c:UInt8 => !z1k c||(decide (zf c=0)&&decide (y3z (q3i c)=1))) (UInt8.ofNat n))=true:=by kernel_rfl
theorem z9l {c:UInt8} (h:c.toNat<128) (r:List UInt8):ch (c::r)=1:=by
 have h1:(!z1k c||(decide (zf c=0)&&decide (y3z (q3i c)=1)))=true:=vf (fun c:UInt8 => !z1k c||(decide (zf c=0)&&decide (y3z (q3i c)=1))) b3h c;have h2:z1k c=true:=by simp [z1k,h]
 simp only [h2,Bool.not_true,Bool.false_or,Bool.and_eq_true,decide_eq_true_eq] at h1;simp [ch,h1.1,xv,h1.2]
def y8z (c:UInt8):Bool := !qz c||(jc c && !decide (c.toNat=40∨c.toNat=41∨c.toNat=92))
theorem w6q:((List.range 256).all fun n=>y8z (UInt8.ofNat n))=true:=by kernel_rfl
theorem v6i {c:UInt8} (h:qz c=true):jc c=true∧¬c.toNat=40∧¬c.toNat=41∧¬c.toNat=92:=by
 have:=vf y8z w6q c;simp only [y8z,h,Bool.not_true,Bool.false_or,Bool.and_eq_true,Bool.not_eq_true',decide_eq_false_iff_not,not_or] at this;exact ⟨this.1,this.2.1,this.2.2.1,this.2.2.2⟩
def v2b (l:List Tok):List UInt8:=l.flatMap fun x=>src x.1 x.2.1
def stops (p:UInt8→Bool):List UInt8→Prop
 | []=>True
 | b::_=>p b=false
theorem v6c:∀s:List UInt8,(s.take (al s)).all qz=true
 | []=>rfl
 | c::s=>by
  cases h:qz c with
  | true=>simp only [al,h,cond_true,List.take_succ_cons,List.all_cons,Bool.true_and];exact v6c s
  | false=>simp [al,h]
theorem y2m:∀s:List UInt8,stops qz (s.drop (al s))
 | []=>trivial
 | c::s=>by
  cases h:qz c with
  | true=>simp only [al,h,cond_true,List.drop_succ_cons];exact y2m s
  | false=>simp [al,h,stops]
theorem v6d {X:List UInt8} (hX:stops qz X):∀y:List UInt8,y.all qz=true→al (y++X)=y.length
 | [],_=>by
  cases X with
  | nil=>rfl
  | cons b X=>have:qz b=false:=hX;simp [al,this]
 | c::y,h=>by
  simp only [List.all_cons,Bool.and_eq_true] at h;simp only [List.cons_append,al,h.1,cond_true,List.length_cons,v6d hX y h.2]
theorem y9c:∀(m:Nat) {r t:List UInt8} {u:Nat},r.length≤m→qt r = .ok t u→t.all jc=true
 | _,[],t,u,_,h=>by simp [qt] at h
 | 0,c::r,t,u,hm,h=>by simp at hm
 | m+1,c::r,t,u,hm,h=>by
  simp only [List.length_cons] at hm;by_cases e1:c.toNat=34
  · rw [y9d e1] at h;cases h;rfl
  · by_cases e2:c.toNat=92
    · match r,hm,h with
      | [],hm,h=>rw [z5i e2] at h;cases h
      | d::r',hm,h =>
       rw [z2m e2] at h;cases hd:jc d<;>rw [hd] at h
       · cases h
       · obtain ⟨t',u',h1,rfl,rfl⟩:=yj h
         have:=y9c m (by simp at hm;omega) h1;simp [hd,this]
    · rw [y9a e1 e2] at h
      cases hd:jc c<;>rw [hd] at h
      · cases h
      · obtain ⟨t',u',h1,rfl,rfl⟩:=yj h
        have:=y9c m (by omega) h1;simp [hd,this]
theorem k0c (X:List UInt8):∀{r t:List UInt8} {u:Nat},ltk r = .ok t u→ltk (t++93::X) = .ok t u
 | [],t,u,h=>by simp [ltk] at h
 | c::r,t,u,h=>by
  unfold ltk at h;split at h
  · cases h;simp [ltk]
  · rename_i e1
    split at h
    · cases h
    · rename_i e2
      split at h
      · cases h
      · rename_i e3
        cases h1:js c<;>cases h2:jc c<;>rw [h1,h2] at h<;>simp only [cond_true,cond_false] at h<;>try (cases h;done)
        obtain ⟨t',u',h3,rfl,rfl⟩:=yj h;have:=k0c X h3;simp only [List.cons_append,List.nil_append,ltk,if_neg e1,if_neg e2,if_neg e3,h1,h2,cond_true,cond_false,this,Tk.push]
theorem y5f:∀(m:Nat) (s:List UInt8) (p:Nat) (l:List Tok),s.length≤m→zt s p = .inl l→(v2b l).length≤2*s.length∧(∀x∈l,x.2.1.length≤s.length)∧((∀x∈l,x.1≠1)→v2b l=s)
 | _,[],p,l,_,h=>by rw [j2x] at h;cases h;simp [v2b]
 | 0,c::r,p,l,hm,h=>by simp at hm
 | m+1,c::r,p,l,hm,h=>by
  obtain ⟨k,t,u,l',h1,h2,rfl⟩:=j2w h;have hu:=q0c h1;obtain ⟨i1,i2,i3⟩:=y5f m ((c::r).drop u) (p+u) l' (by simp at hm ⊢;omega) h2;obtain ⟨f1,f2⟩:=j9f h1;have ht:=j2z h1;have hs:v2b ((k,t,(p:Int))::l')=src k t++v2b l':=rfl;simp only [List.length_drop,List.length_cons] at i1 i2 ⊢;refine ⟨?_,fun x hx => ?_,fun hq => ?_⟩
  · rw [hs,List.length_append]
    by_cases hk:k=1
    · have:=(f2 hk).2
      have he:=q2o t;have:(src k t).length=(esc t).length+2:=by simp [src,hk]
      omega
    · rw [f1 hk,List.length_take,List.length_cons];omega
  · rcases List.mem_cons.1 hx with rfl|hx
    · simp only;omega
    · have:=i2 x hx;omega
  · rw [hs,f1 (hq (k,t,(p:Int)) (by simp)),i3 fun x hx=>hq x (by simp [hx]),List.take_append_drop]
inductive Val:List UInt8→Prop
 | nil:Val []
 | cons (s:List UInt8) (h:ch s≠0) (h2:Val (s.drop (ch s))):Val s
theorem k2o:∀(n:Nat) (s:List UInt8) (p:Nat),s.length<n→ut n s p=none→Val s
 | 0,_,_,h,_=>by omega
 | n+1,s,p,h,hu=>by
  unfold ut at hu;split at hu
  · rename_i hs;subst hs;exact .nil
  · split at hu
    · cases hu
    · rename_i hs h0
      have:=v6v s;exact .cons s h0 (k2o n _ _ (by simp;omega) hu)
theorem f6q {s:List UInt8} (h:Val s):∀(n p:Nat),ut n s p=none:=by
 induction h with
 | nil=>intro n p;cases n<;>simp [ut]
 | cons s h h2 ih =>
  intro n p;cases n with
  | zero=>rfl
  | succ n =>
   unfold ut;split
   · rfl
   · first|exact ih n _|(rw [if_neg h];exact ih n _)
theorem q7b {s:List UInt8} (hl:s.length≤1000000):utf s=none↔Val s :=
 ⟨fun h=>k2o _ _ _ (by unfold je;omega) h,fun h=>f6q h _ _⟩
def v7a (c:UInt8):Bool := !j5m c||decide (128≤c.toNat)
theorem f0x:((List.range 256).all fun n=>v7a (UInt8.ofNat n))=true:=by kernel_rfl
theorem k9h {c:UInt8} (h:j5m c=true):128≤c.toNat:=by
 have:=vf v7a f0x c;simpa [v7a,h] using this
theorem y3e:∀(n:Nat) (r:List UInt8) (v v':Int),xv n r v=some v'→n≤r.length∧∀c∈r.take n,128≤c.toNat
 | 0,r,v,v',_=>⟨by omega,by simp⟩
 | n+1,[],v,v',h=>by simp [xv] at h
 | n+1,c::r,v,v',h=>by
  cases hc:j5m c with
  | true =>
   simp only [xv,hc,cond_true] at h;obtain ⟨h1,h2⟩:=y3e n r _ _ h;refine ⟨by simp;omega,fun x hx => ?_⟩;rw [List.take_succ_cons] at hx;rcases List.mem_cons.1 hx with rfl|hx
   · exact k9h hc
   · exact h2 x hx
  | false=>simp [xv,hc] at h
theorem j4q:∀(n:Nat) (r x:List UInt8) (v:Int),n≤r.length→xv n (r++x) v=xv n r v
 | 0,r,x,v,_=>by cases r<;>rfl
 | n+1,[],x,v,h=>by simp at h
 | n+1,c::r,x,v,h=>by
  simp only [List.cons_append,xv];cases j5m c
  · rfl
  · exact j4q n r x _ (by simpa using h)
theorem z9m {c:UInt8} {r:List UInt8} (h:ch (c::r)≠0):∃v,¬zf c<0∧¬r.length<(zf c).toNat∧xv (zf c).toNat r (q3i c)=some v∧y3z v=zf c+1∧ch (c::r)=(zf c).toNat+1:=by
 simp only [ch] at h;split at h
 · exact absurd rfl h
 · rename_i h1
   split at h
   · exact absurd rfl h
   · rename_i h2
     split at h
     · exact absurd rfl h
     · rename_i v hv
       split at h
       · rename_i h3
         exact ⟨v,h1,h2,hv,h3,by simp [ch,h1,h2,hv,h3]⟩
       · exact absurd rfl h
theorem v6u {s x:List UInt8} (h:ch s≠0):ch (s++x)=ch s:=by
 cases s with
 | nil=>exact absurd rfl h
 | cons c r =>
  obtain ⟨v,h1,h2,h3,h4,h5⟩:=z9m h;have:xv (zf c).toNat (r++x) (q3i c)=some v:=by rw [j4q _ _ _ _ (by omega),h3]
  rw [h5,List.cons_append];simp only [ch,if_neg h1,if_neg (show ¬(r++x).length<(zf c).toNat by simp;omega),this,if_pos h4]
theorem v6w {s x:List UInt8} (h:ch (s++x)≠0) (hl:ch (s++x)≤s.length):ch s=ch (s++x):=by
 cases s with
 | nil=>simp at hl;exact absurd hl h
 | cons c r =>
  obtain ⟨v,h1,h2,h3,h4,h5⟩:=z9m (r:=r++x) h;have h5':ch (c::r++x)=(zf c).toNat+1:=h5;rw [h5'] at hl ⊢;simp only [List.length_cons] at hl;rw [j4q _ _ _ _ (by omega)] at h3;simp only [ch,if_neg h1,if_neg (show ¬r.length<(zf c).toNat by omega),h3,if_pos h4]
theorem Val.app {a b:List UInt8} (ha:Val a) (hb:Val b):Val (a++b):=by
 induction ha with
 | nil=>exact hb
 | cons s h h2 ih =>
  have:=v6v s;refine .cons _ (by rw [v6u h];exact h) ?_;rw [v6u h,List.drop_append,show ch s-s.length=0 by omega,List.drop_zero];exact ih
theorem Val.one {c:UInt8} (h:c.toNat<128):Val [c] := .cons _ (by rw [z9l h];simp) (by rw [z9l h];exact .nil)
theorem Val.split:∀(m:Nat) (a:List UInt8) (c:UInt8) (b:List UInt8),a.length≤m→c.toNat<128→Val (a++c::b)→Val a∧Val b
 | m,[],c,b,_,hc,h=>by
  refine ⟨.nil,?_⟩;cases h with
  | cons _ h h2=>simpa [z9l hc] using h2
 | 0,d::a,c,b,hm,hc,h=>by simp at hm
 | m+1,d::a,c,b,hm,hc,h=>by
  cases h with
  | cons _ h0 h2 =>
   have hk:ch (d::a++c::b)≤(d::a).length:=by
    by_cases hd:d.toNat<128
    · have:ch (d::a++c::b)=1:=z9l hd _
      rw [this];simp
    · obtain ⟨v,g1,g2,g3,g4,g5⟩:=z9m (r:=a++c::b) h0
      have g5':ch (d::a++c::b)=(zf d).toNat+1:=g5;rw [g5',List.length_cons];obtain ⟨e1,e2⟩:=y3e _ _ _ _ g3;rcases Nat.lt_or_ge a.length (zf d).toNat with hlt|hge
      · exfalso
        have:c∈(a++c::b).take (zf d).toNat:=by
         rw [List.take_append];obtain ⟨j,hj⟩:∃j,(zf d).toNat-a.length=j+1:=⟨(zf d).toNat-a.length-1,by omega⟩
         rw [hj,List.take_succ_cons];simp
        have:=e2 c this;omega
      · omega
   have hsame:=v6w (s:=d::a) (x:=c::b) h0 hk;have h0':ch (d::a)≠0:=by rw [hsame];exact h0
   rw [List.drop_append,show ch (d::a++c::b)-(d::a).length=0 by omega,List.drop_zero,←hsame] at h2;obtain ⟨i1,i2⟩:=Val.split m ((d::a).drop (ch (d::a))) c b (by simp at hm ⊢;omega) hc h2;exact ⟨.cons _ h0' i1,i2⟩
theorem Val.cut {a b:List UInt8} {c:UInt8} (hc:c.toNat<128) (h:Val (a++c::b)):Val a∧Val b:=Val.split _ a c b (Nat.le_refl _) hc h
theorem Val.glue {a b:List UInt8} {c:UInt8} (hc:c.toNat<128) (ha:Val a) (hb:Val b):Val (a++c::b):=ha.app ((Val.one hc).app hb)
theorem j9h:∀(t a:List UInt8),Val (a++t)→Val (a++esc t)
 | [],a,h=>h
 | c::t,a,h=>by
  have he:a++esc (c::t)=(a++q0s c)++esc t:=by simp [esc]
  rw [he];refine j9h t _ ?_;by_cases e1:c.toNat=34∨c.toNat=92
  · have hc:c.toNat<128:=by omega
    obtain ⟨i1,i2⟩:=Val.cut hc h;have h1:q0s c=[92,c]:=by simp [q0s,e1]
    rw [h1,show a++[92,c]++t=a++92::([]++c::t) by simp];exact Val.glue (by decide) i1 (Val.glue hc .nil i2)
  · have h1:q0s c=[c]:=by simp [q0s,e1]
    rw [h1];simpa using h
theorem y0v:∀(m:Nat) {r t a:List UInt8} {u:Nat},r.length≤m→qt r = .ok t u→Val (a++r.take (u-1))→Val (a++t)
 | _,[],t,a,u,_,h,_=>by simp [qt] at h
 | 0,c::r,t,a,u,hm,h,_=>by simp at hm
 | m+1,c::r,t,a,u,hm,h,hv=>by
  simp only [List.length_cons] at hm;by_cases e1:c.toNat=34
  · rw [y9d e1] at h;cases h
    simpa using hv
  · by_cases e2:c.toNat=92
    · match r,hm,h,hv with
      | [],hm,h,hv=>rw [z5i e2] at h;cases h
      | d::r',hm,h,hv =>
       rw [z2m e2] at h;cases hd:jc d<;>rw [hd] at h
       · cases h
       · obtain ⟨t',u',h1,rfl,rfl⟩:=yj h
         have hu':=q2u _ (Nat.le_refl _) h1;rw [show 2+u'-1=(u'-1)+2 by omega] at hv;simp only [List.take_succ_cons] at hv;obtain ⟨g1,g2⟩:=Val.cut (by omega) hv;have hv2:Val ((a++[d])++r'.take (u'-1)):=by
          have:=g1.app g2;simpa using this
         have i1:=y0v m (a:=a++[d]) (by simp at hm;omega) h1 hv2;simpa using i1
    · rw [y9a e1 e2] at h
      cases hd:jc c<;>rw [hd] at h
      · cases h
      · obtain ⟨t',u',h1,rfl,rfl⟩:=yj h
        have hu':=q2u _ (Nat.le_refl _) h1;rw [show 1+u'-1=(u'-1)+1 by omega] at hv;simp only [List.take_succ_cons] at hv;have i1:=y0v m (a:=a++[c]) (by omega) h1 (by simpa using hv);simpa using i1
theorem j9i:∀(m:Nat) {r t:List UInt8} {u:Nat},r.length≤m→qt r = .ok t u→True∧1≤u∧∃x,r=r.take (u-1)++34::x∧r.drop u=x
 | _,[],t,u,_,h=>by simp [qt] at h
 | 0,c::r,t,u,hm,h=>by simp at hm
 | m+1,c::r,t,u,hm,h=>by
  simp only [List.length_cons] at hm;by_cases e1:c.toNat=34
  · rw [y9d e1] at h;cases h
    exact ⟨trivial,by omega,r,by rw [z5t e1];rfl,rfl⟩
  · by_cases e2:c.toNat=92
    · match r,hm,h with
      | [],hm,h=>rw [z5i e2] at h;cases h
      | d::r',hm,h =>
       rw [z2m e2] at h;cases hd:jc d<;>rw [hd] at h
       · cases h
       · obtain ⟨t',u',h1,rfl,rfl⟩:=yj h
         obtain ⟨i1,i2,x,i3,i4⟩:=j9i m (by simp at hm;omega) h1;rw [show 2+u'-1=(u'-1)+2 by omega,show 2+u'=u'+2 by omega];refine ⟨trivial,by omega,x,?_,by simpa using i4⟩;simp only [List.take_succ_cons,List.cons_append,List.cons.injEq,true_and];exact i3
    · rw [y9a e1 e2] at h
      cases hd:jc c<;>rw [hd] at h
      · cases h
      · obtain ⟨t',u',h1,rfl,rfl⟩:=yj h
        obtain ⟨i1,i2,x,i3,i4⟩:=j9i m (by omega) h1;rw [show 1+u'-1=(u'-1)+1 by omega,show 1+u'=u'+1 by omega];refine ⟨trivial,by omega,x,?_,by simpa using i4⟩;simp only [List.take_succ_cons,List.cons_append,List.cons.injEq,true_and];exact i3
def hiK (c:UInt8):Bool:=decide (c.toNat<128)||qz c
theorem m1a:((List.range 256).all fun n=>hiK (UInt8.ofNat n))=true:=by kernel_rfl
theorem x5k {c:UInt8} (h:qz c=false):c.toNat<128:=by
 have:=vf hiK m1a c;simpa [hiK,h] using this
def y7h (c:UInt8):Bool := !js c||decide (c.toNat<128)
theorem k9b:((List.range 256).all fun n=>y7h (UInt8.ofNat n))=true:=by kernel_rfl
theorem y2s {c:UInt8} (h:js c=true):c.toNat<128:=by
 have:=vf y7h k9b c;simpa [y7h,h] using this
theorem y0w:∀(m:Nat) (s:List UInt8),s.length≤m→wl s≠0→∃y z,s.take (wl s)=y++[z]∧z.toNat<128
 | m,[],_,h=>absurd rfl h
 | 0,c::s,hm,h=>by simp at hm
 | m+1,c::s,hm,h=>by
  simp only [List.length_cons] at hm;cases hb:js c with
  | true =>
   rw [f6t hb,List.take_succ_cons];by_cases h0:wl s=0
   · exact ⟨[],c,by simp [h0],y2s hb⟩
   · obtain ⟨y,z,h1,h2⟩:=y0w m s (by omega) h0
     exact ⟨c::y,z,by rw [h1];rfl,h2⟩
  | false =>
   match s,hm,h with
   | [],hm,h=>exact absurd (j9j hb (by simp)) h
   | [x],hm,h=>exact absurd (j9j hb (by simp)) h
   | x::d::s',hm,h =>
    cases hq:(c==13&&x==10)&&js d with
    | false=>exact absurd (show wl (c::x::d::s')=0 by rw [wl,hb,hq];rfl) h
    | true =>
     have hw:wl (c::x::d::s')=wl s'+3:=by rw [wl,hb,hq];rfl
     simp only [Bool.and_eq_true] at hq;rw [hw];simp only [List.take_succ_cons];by_cases h0:wl s'=0
     · exact ⟨[c,x],d,by simp [h0],y2s hq.2⟩
     · obtain ⟨y,z,h1,h2⟩:=y0w m s' (by simp at hm;omega) h0
       exact ⟨c::x::d::y,z,by rw [h1];rfl,h2⟩
theorem w6w {c:UInt8} {r t:List UInt8} {k:Int} {u:Nat} (h:one c r=(k,.ok t u)) (hv:Val (c::r)):Val (src k t)∧Val ((c::r).drop u):=by
 have base:(k≠1)→Val ((c::r).take u)∧Val ((c::r).drop u)→Val (src k t)∧Val ((c::r).drop u):=fun hk h'=>⟨by rw [(j9f h).1 hk];exact h'.1,h'.2⟩
 have last:∀y z,(c::r).take u=y++[z]→z.toNat<128→Val ((c::r).take u)∧Val ((c::r).drop u):=by
  intro y z h1 h2;have:c::r=y++z::(c::r).drop u:=by
   have:=List.take_append_drop u (c::r);rw [h1] at this;simpa using this.symm
  rw [this] at hv;obtain ⟨i1,i2⟩:=Val.cut h2 hv;rw [h1];exact ⟨i1.app (Val.one h2),i2⟩
 have h0:=h;unfold one at h;split at h
 · cases h
   refine base (by decide) ?_;cases hd:(c::r).drop (al (c::r)) with
   | nil =>
    have:=List.take_append_drop (al (c::r)) (c::r);rw [hd,List.append_nil] at this;rw [this];exact ⟨hv,.nil⟩
   | cons b x =>
    have hs:=y2m (c::r);rw [hd] at hs;have hb:=x5k hs;have:=List.take_append_drop (al (c::r)) (c::r);rw [hd] at this;rw [←this] at hv;obtain ⟨i1,i2⟩:=Val.cut hb hv;exact ⟨i1,Val.glue hb .nil i2⟩
 · rename_i h1
   have hc:c.toNat<128:=x5k (by simpa using h1);split at h
   · cases h
     exact base (by decide) (last [] c rfl hc)
   · split at h
     · rename_i h3
       obtain ⟨u',h4,rfl⟩:=q4r (Prod.mk.inj h).2;have hk:=(Prod.mk.inj h).1;subst hk;have hu':=q2u _ (Nat.le_refl _) h4;have hvr:Val r:=(Val.cut (a:=[]) hc hv).2;have hx:∃x,r=r.take (u'-1)++34::x∧r.drop u'=x:=by
        obtain ⟨_,_,x,h5,h6⟩:=j9i _ (Nat.le_refl _) h4;exact ⟨x,h5,h6⟩
       obtain ⟨x,h5,h6⟩:=hx;rw [h5] at hvr;obtain ⟨i1,i2⟩:=Val.cut (by decide) hvr;have j1:=y0v _ (a:=[]) (Nat.le_refl _) h4 (by simpa using i1);refine ⟨?_,by rw [Nat.add_comm 1,List.drop_succ_cons,h6];exact i2⟩;have:=j9h t [] (by simpa using j1);have h7:src 1 t=[]++34::(esc t++34::[]):=by simp [src]
       rw [h7];exact Val.glue (by decide) .nil (Val.glue (by decide) (by simpa using this) .nil)
     · split at h
       · obtain ⟨u',h5,rfl⟩:=q4r (Prod.mk.inj h).2
         obtain ⟨i1,x,i2⟩:=y0b h5;have hk:=(Prod.mk.inj h).1;subst hk;refine base (by decide) (last (c::t) 93 ?_ (by decide));rw [i2,i1];simp [Nat.add_comm 1,List.take_append,List.take_of_length_le]
       · split at h
         · obtain ⟨u',h6,rfl⟩:=q4r (Prod.mk.inj h).2
           obtain ⟨i1,x,i2⟩:=y0e _ (Nat.le_refl _) h6;have hk:=(Prod.mk.inj h).1;subst hk;refine base (by decide) (last (c::t) 41 ?_ (by decide));rw [i2,i1];simp [Nat.add_comm 1,List.take_append,List.take_of_length_le]
         · split at h
           · cases h
           · rename_i h6
             cases h;obtain ⟨y,z,g1,g2⟩:=y0w _ (c::r) (Nat.le_refl _) h6;exact base (by decide) (last y z g1 g2)
def kd (d:Nat) (l:List Tok):Int:=match l[d]? with|some t=>t.1|none => -1
theorem gdk {pre l:List Tok} {p d:Nat} (hp:pre.length=p) {x:Tok}:(pre++l).getD (p+d) x=l.getD d x:=by
 subst hp;simp [List.getD_eq_getElem?_getD,List.getElem?_append_right]
theorem y7i (d:Nat) (pre l:List Tok) (p:Nat) (a b:List UInt8) (hp:pre.length=p) (hb:p+d+l.length≤1000000000) :
 yx ((d:Int),pre++l,(p:Int),a,b,())=some (kd d l,pre++l,(p:Int),a,b,()):=by
 show k3y q8u _=_;have hw:IntKind.i64.wrap ((p:Int)+(d:Int))=((p+d:Nat):Int):=by rw [wr (by omega) (by omega)];simp
 have hlen:(pre++l).length=p+l.length:=by simp [hp]
 simp only [k3y,hw,hlen];by_cases h:l.length≤d
 · rw [decide_eq_true (by omega)]
   simp only [cond_true,kd,List.getElem?_eq_none h]
 · rw [decide_eq_false (by omega)]
   simp only [cond_false,q8u,z7g,hw,hlen];rw [decide_eq_true (by omega),decide_eq_true (by omega)];simp only [Bool.and_self,cond_true,Int.toNat_natCast,Option.bind_some];rw [gdk hp];simp only [kd,List.getElem?_eq_getElem (show d<l.length by omega),getD_lt (show d<l.length by omega)]
def zn:List Tok→Nat
 | []=>0
 | t::r=>bif t.1==4||t.1==3 then zn r+1 else 0
theorem vo:∀l,zn l≤l.length
 | []=>Nat.le_refl _
 | t::r=>by have:=vo r;simp only [zn];cases (t.1==4||t.1==3)<;>simp;omega
theorem q4i (t:Tok) (r:List Tok):kd 0 (t::r)=t.1:=rfl
theorem f4o (a b:List UInt8):∀(l pre:List Tok) (p n:Nat),pre.length=p→l.length<n→p+l.length≤100000000 →
 qb (q2l yx) n (pre++l,(p:Int),a,b,())=some (pre++l,((p+zn l:Nat):Int),a,b,())
 | [],pre,p,n+1,hp,hn,hb=>by
  have h:=y7i 0 pre [] p a b hp (by simp at hb ⊢;omega);refine qe ?_;simp only [q2l,Int.natCast_zero] at h ⊢;simp only [h,Option.bind_some,show kd 0 ([]:List Tok) = -1 from rfl,ibF (show (-1:Int)≠4 by decide),ibF (show (-1:Int)≠3 by decide),cond_false,zn,Nat.add_zero]
 | t::l,pre,p,n+1,hp,hn,hb=>by
  simp only [List.length_cons] at hn hb;have h:=y7i 0 pre (t::l) p a b hp (by simp only [List.length_cons];omega);simp only [Int.natCast_zero,q4i] at h;have hw:=wrN p (by omega);by_cases h4:t.1=4
  · rw [qy (v':=(pre++t::l,((p+1:Nat):Int),a,b,())) (by simp only [q2l,h,Option.bind_some,ibT h4,cond_true,hw])]
    rw [shift,f4o a b l (pre++[t]) (p+1) n (by simp [hp]) (by omega) (by omega)];simp only [zn,ibT h4,Bool.true_or,cond_true,Nat.add_assoc,Nat.add_comm 1]
  · by_cases h3:t.1=3
    · rw [qy (v':=(pre++t::l,((p+1:Nat):Int),a,b,())) (by simp only [q2l,h,Option.bind_some,ibF h4,ibT h3,cond_true,cond_false,hw])]
      rw [shift,f4o a b l (pre++[t]) (p+1) n (by simp [hp]) (by omega) (by omega)];simp only [zn,ibT h3,Bool.or_true,cond_true,Nat.add_assoc,Nat.add_comm 1]
    · refine qe ?_
      simp only [q2l,h,Option.bind_some,ibF h4,ibF h3,cond_false,zn,Bool.or_self,Nat.add_zero]
theorem d6a (pre l:List Tok) (p:Nat) (a b:List UInt8) (hp:pre.length=p) (hb:p+l.length≤100000000) :
 x7b (pre++l,(p:Int),a,b,())=some (true,pre++l,((p+zn l:Nat):Int),a,b,()):=by
 show k3k yx q8j _=_;have hl:q8j (pre++l,(p:Int),a,b,())=_:=f4o a b l pre p je hp (by unfold je;omega) hb;simp only [k3k,hl,Option.bind_some]
def sgn (s:List UInt8):List Tok→Bool
 | t::_=>t.1==2&&t.2.1==s
 | []=>false
theorem b3k (s:List UInt8) (pre l:List Tok) (p:Nat) (a b:List UInt8) (hp:pre.length=p) (hb:p+l.length≤100000000) :
 q8x (s,pre++l,(p:Int),a,b,())=some (sgn s l,pre++l,(p:Int),a,b,()):=by
 show v4t yx _=_;have h:=y7i 0 pre l p a b hp (by omega);simp only [Int.natCast_zero] at h;have hlen:(pre++l).length=p+l.length:=by simp [hp]
 cases l with
 | nil=>simp only [v4t,h,Option.bind_some,show kd 0 ([]:List Tok) = -1 from rfl,ibF (show (-1:Int)≠2 by decide),cond_false,sgn]
 | cons t r =>
  simp only [List.length_cons] at hlen hb;simp only [v4t,h,Option.bind_some,q4i];by_cases h2:t.1=2
  · simp only [ibT h2,cond_true,hlen,sgn,Bool.true_and]
    rw [decide_eq_true (by omega),decide_eq_true (by omega)];simp only [Bool.and_self,cond_true,Int.toNat_natCast,gd hp]
  · simp only [ibF h2,cond_false,sgn,Bool.false_and]
def vp:List Tok→Nat
 | []=>0
 | t::r=>t.2.1.length+vp r
def dwn (acc:List UInt8):List Tok→List UInt8×Nat
 | t::u::r=>bif (t.1==2&&t.2.1==[46])&&u.1==0 then ((dwn (acc++([46]++u.2.1)) r).1,(dwn (acc++([46]++u.2.1)) r).2+2) else (acc,0)
 | _=>(acc,0)
theorem b5h (a b:List UInt8):∀(m:Nat) (l pre:List Tok) (acc:List UInt8) (p n:Nat),l.length≤m→pre.length=p→l.length<n→p+l.length≤100000000→acc.length+vp l+l.length≤100000000 →
 qb (q0u yx q8x) n (acc,pre++l,(p:Int),a,b,())=some ((dwn acc l).1,pre++l,((p+(dwn acc l).2:Nat):Int),a,b,())
 | m,l,pre,acc,p,n+1,hm,hp,hn,hb,hz=>by
  have h:=b3k [46] pre l p a b hp hb;have hlen:(pre++l).length=p+l.length:=by simp [hp]
  have hw:=wrN p (by omega);have h1:=y7i 1 pre l p a b hp (by omega);simp only [Int.natCast_one] at h1
  match l,hm,hn,hb,hz,h,hlen,h1 with
  | [],hm,hn,hb,hz,h,hlen,h1 =>
   refine qe ?_;simp only [q0u,h,Option.bind_some,sgn,cond_false,dwn,Nat.add_zero]
  | [t],hm,hn,hb,hz,h,hlen,h1 =>
   refine qe ?_;simp only [q0u,h,Option.bind_some,sgn];cases hs:(t.1==2&&t.2.1==[46]) with
   | false=>simp only [cond_false,dwn,Nat.add_zero]
   | true=>simp only [cond_true,h1,Option.bind_some,show kd 1 [t] = -1 from rfl,ibF (show (-1:Int)≠0 by decide),cond_false,dwn,Nat.add_zero]
  | t::u::r,hm,hn,hb,hz,h,hlen,h1 =>
   simp only [List.length_cons,vp] at hm hn hb hz hlen;cases hs:(t.1==2&&t.2.1==[46]) with
   | false =>
    refine qe ?_;simp only [q0u,h,Option.bind_some,sgn,hs,cond_false,dwn,Bool.false_and,Nat.add_zero]
   | true =>
    by_cases hu:u.1=0
    · have hgd:(pre++t::u::r).getD (p+1) ((0,([],0)):Tok)=u:=by rw [gdk hp];rfl
      rw [qy (v':=(acc++([46]++u.2.1),pre++t::u::r,((p+2:Nat):Int),a,b,())) ?_]
      · rw [show pre++t::u::r=(pre++[t,u])++r by simp]
        rw [b5h a b (m-2) r (pre++[t,u]) _ (p+2) n (by omega) (by simp [hp]) (by omega) (by omega) (by simp only [jv];omega)];simp only [dwn,hs,ibT hu,Bool.and_self,cond_true];rw [show p+2+(dwn (acc++([46]++u.2.1)) r).2=p+((dwn (acc++([46]++u.2.1)) r).2+2) by omega]
      · simp only [q0u,h,Option.bind_some,sgn,hs,cond_true,h1,show kd 1 (t::u::r)=u.1 from rfl,ibT hu,hw,hlen,Int.toNat_natCast,hgd]
        rw [decide_eq_true (by omega),decide_eq_true (by omega),decide_eq_true (by simp only [List.length_cons,List.length_nil];omega),decide_eq_true (by simp only [jv];omega)];simp only [Bool.and_self,cond_true];rw [show IntKind.i64.wrap ((p:Int)+2)=((p+2:Nat):Int) by rw [wr (by omega) (by omega)];simp]
    · refine qe ?_
      simp only [q0u,h,Option.bind_some,sgn,hs,cond_true,h1,show kd 1 (t::u::r)=u.1 from rfl,ibF hu,cond_false,dwn,Bool.and_false,Nat.add_zero]
def dot:List Tok→List UInt8×Bool×Nat
 | t::r=>bif t.1==0 then ((dwn t.2.1 r).1,true,(dwn t.2.1 r).2+1) else ([],false,0)
 | []=>([],false,0)
theorem b3j (pre l:List Tok) (p:Nat) (a b:List UInt8) (hp:pre.length=p) (hb:p+l.length≤100000000) (hz:vp l+l.length≤100000000) :
 q8v (pre++l,(p:Int),a,b,())=some ((dot l).1,(dot l).2.1,pre++l,((p+(dot l).2.2:Nat):Int),a,b,()):=by
 show v4s yx q8x q8w _=_;have h:=y7i 0 pre l p a b hp (by omega);simp only [Int.natCast_zero] at h;have hlen:(pre++l).length=p+l.length:=by simp [hp]
 have hw:=wrN p (by omega);cases l with
 | nil=>simp only [v4s,h,Option.bind_some,show kd 0 ([]:List Tok) = -1 from rfl,inT (show (-1:Int)≠0 by decide),cond_true,dot,Nat.add_zero]
 | cons t r =>
  simp only [List.length_cons,vp] at hlen hb hz;simp only [v4s,h,Option.bind_some,q4i];by_cases h0:t.1=0
  · have hl:j6p (t.2.1,(pre++[t])++r,((p+1:Nat):Int),a,b,())=_:=b5h a b r.length r (pre++[t]) t.2.1 (p+1) je (Nat.le_refl _) (by simp [hp]) (by unfold je;omega) (by omega) (by omega)
    rw [←shift] at hl;simp only [inF h0,cond_false,hlen,Int.toNat_natCast,gd hp];rw [decide_eq_true (by omega),decide_eq_true (by omega)];simp only [Bool.and_self,cond_true,q8w,z7h,hw,hl,Option.bind_some,dot,ibT h0];rw [show p+1+(dwn t.2.1 r).2=p+((dwn t.2.1 r).2+1) by omega]
  · simp only [inT h0,cond_true,dot,ibF h0,cond_false,Nat.add_zero]
def loc:List Tok→Bool×List UInt8×Nat
 | t::r=>bif t.1==1 then (true,t.2.1,1) else ((dot (t::r)).2.1,(dot (t::r)).1,(dot (t::r)).2.2)
 | []=>(false,[],0)
theorem d6b (pre l:List Tok) (p:Nat) (a b:List UInt8) (hp:pre.length=p) (hb:p+l.length≤100000000) (hz:vp l+l.length≤100000000) :
 x7c (pre++l,(p:Int),a,b,())=some ((loc l).1,pre++l,((p+(loc l).2.2:Nat):Int),(loc l).2.1,b,()):=by
 show v4o yx q8v q8k _=_;have h:=y7i 0 pre l p a b hp (by omega);have hd:=b3j pre l p a b hp hb hz;simp only [Int.natCast_zero] at h;have hlen:(pre++l).length=p+l.length:=by simp [hp]
 have hw:=wrN p (by omega);cases l with
 | nil=>simp only [v4o,h,Option.bind_some,show kd 0 ([]:List Tok) = -1 from rfl,ibF (show (-1:Int)≠1 by decide),cond_false,hd,dot,loc,Nat.add_zero]
 | cons t r =>
  simp only [List.length_cons] at hlen hb;simp only [v4o,h,Option.bind_some,q4i];by_cases h1:t.1=1
  · simp only [ibT h1,cond_true,hlen,Int.toNat_natCast,gd hp]
    rw [decide_eq_true (by omega),decide_eq_true (by omega)];simp only [Bool.and_self,cond_true,q8k,z7a,hw,Option.bind_some,loc,ibT h1]
  · simp only [ibF h1,cond_false,hd,Option.bind_some,loc]
theorem d6c (pre l:List Tok) (p:Nat) (a b:List UInt8) (hp:pre.length=p) (hb:p+l.length≤100000000) :
 x7d (pre++l,(p:Int),a,b,())=some (sgn [64] l,pre++l,((p+1:Nat):Int),a,b,()):=by
 show k3l q8x _=_;simp only [k3l,b3k [64] pre l p a b hp hb,Option.bind_some,wrN p (show p≤9223372036854775806 by omega)]
def dom:List Tok→Bool×List UInt8×Nat
 | t::r=>bif t.1==5 then (true,src t.1 t.2.1,1) else ((dot (t::r)).2.1,(dot (t::r)).1,(dot (t::r)).2.2)
 | []=>(false,[],0)
theorem d6d (pre l:List Tok) (p:Nat) (a b:List UInt8) (hp:pre.length=p) (hb:p+l.length≤100000000) (hz:vp l+l.length≤9000) :
 x7e (pre++l,(p:Int),a,b,())=some ((dom l).1,pre++l,((p+(dom l).2.2:Nat):Int),a,(dom l).2.1,()):=by
 show v4p yx q8v C89 q8l _=_;have h:=y7i 0 pre l p a b hp (by omega);have hd:=b3j pre l p a b hp hb (by omega);simp only [Int.natCast_zero] at h;have hlen:(pre++l).length=p+l.length:=by simp [hp]
 have hw:=wrN p (by omega);cases l with
 | nil=>simp only [v4p,h,Option.bind_some,show kd 0 ([]:List Tok) = -1 from rfl,ibF (show (-1:Int)≠5 by decide),cond_false,hd,dot,dom,Nat.add_zero]
 | cons t r =>
  simp only [List.length_cons,vp] at hlen hb hz;simp only [v4p,h,Option.bind_some,q4i];by_cases h1:t.1=5
  · simp only [ibT h1,cond_true,hlen,Int.toNat_natCast,gd hp]
    rw [decide_eq_true (by omega),decide_eq_true (by omega),c9 t.1 t.2.1 t.2.2 (by omega)];simp only [Bool.and_self,cond_true,q8l,z7b,hw,Option.bind_some,dom,ibT h1]
  · simp only [ibF h1,cond_false,hd,Option.bind_some,dom]
theorem xa:∀(p:Nat) (l:List Tok),vp (l.drop p)≤vp l
 | 0,l=>Nat.le_refl _
 | p+1,[]=>Nat.le_refl _
 | p+1,t::r=>Nat.le_trans (xa p r) (by simp only [vp];omega)
theorem w5q (l:List Tok) (p:Nat) (a b:List UInt8) (hp:p≤l.length) (hb:l.length≤9000) :
 x7b (l,(p:Int),a,b,())=some (true,l,((p+zn (l.drop p):Nat):Int),a,b,()):=by
 have h:=d6a (l.take p) (l.drop p) p a b (by simp;omega) (by simp;omega)
 rwa [List.take_append_drop] at h
theorem m1e (l:List Tok) (p:Nat) (a b:List UInt8) (hp:p≤l.length) (hb:vp l+l.length≤9000) :
 x7c (l,(p:Int),a,b,())=some ((loc (l.drop p)).1,l,((p+(loc (l.drop p)).2.2:Nat):Int),(loc (l.drop p)).2.1,b,()):=by
 have hs:=xa p l;have h:=d6b (l.take p) (l.drop p) p a b (by simp;omega) (by simp;omega) (by simp;omega)
 rwa [List.take_append_drop] at h
theorem m1f (l:List Tok) (p:Nat) (a b:List UInt8) (hp:p≤l.length) (hb:l.length≤9000) :
 x7d (l,(p:Int),a,b,())=some (sgn [64] (l.drop p),l,((p+1:Nat):Int),a,b,()):=by
 have h:=d6c (l.take p) (l.drop p) p a b (by simp;omega) (by simp;omega)
 rwa [List.take_append_drop] at h
theorem m1g (l:List Tok) (p:Nat) (a b:List UInt8) (hp:p≤l.length) (hb:vp l+l.length≤9000) :
 x7e (l,(p:Int),a,b,())=some ((dom (l.drop p)).1,l,((p+(dom (l.drop p)).2.2:Nat):Int),a,(dom (l.drop p)).2.1,()):=by
 have hs:=xa p l;have h:=d6d (l.take p) (l.drop p) p a b (by simp;omega) (by simp;omega) (by simp;omega)
 rwa [List.take_append_drop] at h
theorem v7u:∀(m:Nat) (l:List Tok) (acc:List UInt8),l.length≤m→(dwn acc l).2≤l.length
 | _,[],_,_=>Nat.le_refl _
 | _,[_],_,_=>Nat.zero_le _
 | 0,_::_::_,_,h=>by simp at h
 | m+1,t::u::r,acc,h=>by
  have:=v7u m r (acc++([46]++u.2.1)) (by simp at h;omega);simp only [dwn];cases ((t.1==2&&t.2.1==[46])&&u.1==0) with
  | true=>simp only [cond_true,List.length_cons];omega
  | false=>simp only [cond_false];omega
theorem v7r (l:List Tok):(dot l).2.2≤l.length:=by
 cases l with
 | nil=>exact Nat.le_refl _
 | cons t r =>
  have:=v7u r.length r t.2.1 (Nat.le_refl _);simp only [dot];cases (t.1==0) with
  | true=>simp only [cond_true,List.length_cons];omega
  | false=>simp only [cond_false];omega
theorem k0b (l:List Tok):(loc l).2.2≤l.length:=by
 cases l with
 | nil=>exact Nat.le_refl _
 | cons t r =>
  have:=v7r (t::r);simp only [loc];cases (t.1==1) with
  | true=>simp
  | false=>simpa using this
theorem v7q (l:List Tok):(dom l).2.2≤l.length:=by
 cases l with
 | nil=>exact Nat.le_refl _
 | cons t r =>
  have:=v7r (t::r);simp only [dom];cases (t.1==5) with
  | true=>simp
  | false=>simpa using this
def mt (l:List Tok):Option (List UInt8×List UInt8×Nat) :=
 let n1:=zn l
 let n2:=n1+(loc (l.drop n1)).2.2
 let n3:=n2+zn (l.drop n2)
 let n5:=n3+1+zn (l.drop (n3+1))
 let n6:=n5+(dom (l.drop n5)).2.2
 bif !(loc (l.drop n1)).1 then none else bif !sgn [64] (l.drop n3) then none else bif !(dom (l.drop n5)).1 then none else
 some ((loc (l.drop n1)).2.1,(dom (l.drop n5)).2.1,n6+zn (l.drop n6))
theorem x6v {s:List UInt8} {l:List Tok} (h:sgn s l=true):1≤l.length:=by
 cases l with
 | nil=>cases h
 | cons t r=>simp
theorem c71 (l:List Tok) (hb:vp l+l.length≤9000) :
 C71 (l,())=some (match mt l with|some r=>(r.1,r.2.1,(r.2.2:Int),true,())|none=>([],[],0,false,())):=by
 show F71 x7b x7c x7d x7e _=_;have h1:=w5q l 0 [] [] (Nat.zero_le _) (by omega);simp only [Int.natCast_zero,List.drop_zero,Nat.zero_add] at h1;have b1:=vo l;have h2:=m1e l (zn l) [] [] b1 hb;have b2:=k0b (l.drop (zn l));rw [List.length_drop] at b2;simp only [F71,h1,h2,Option.bind_some,Bool.not_true,cond_false,mt];cases hl:(loc (l.drop (zn l))).1 with
 | false=>simp only [Bool.not_false,cond_true]
 | true =>
  simp only [Bool.not_true,cond_false];generalize hn2:zn l+(loc (l.drop (zn l))).2.2=n2;have b3:n2≤l.length:=by omega
  generalize (loc (l.drop (zn l))).2.1=A;rw [w5q l n2 A [] b3 (by omega)];have b4:=vo (l.drop n2);rw [List.length_drop] at b4;simp only [Option.bind_some,Bool.not_true,cond_false];generalize hn3:n2+zn (l.drop n2)=n3;rw [m1f l n3 A [] (by omega) (by omega)];simp only [Option.bind_some];cases hs:sgn [64] (l.drop n3) with
  | false=>simp only [Bool.not_false,cond_true]
  | true =>
   have b5:=x6v hs;rw [List.length_drop] at b5;simp only [Bool.not_true,cond_false];rw [w5q l (n3+1) A [] (by omega) (by omega)];have b6:=vo (l.drop (n3+1));rw [List.length_drop] at b6;simp only [Option.bind_some,Bool.not_true,cond_false];generalize hn5:n3+1+zn (l.drop (n3+1))=n5;rw [m1g l n5 A [] (by omega) hb];have b7:=v7q (l.drop n5);rw [List.length_drop] at b7;simp only [Option.bind_some];cases hd:(dom (l.drop n5)).1 with
   | false=>simp only [Bool.not_false,cond_true]
   | true =>
    simp only [Bool.not_true,cond_false];rw [w5q l _ A _ (by omega) (by omega)];simp only [Option.bind_some,Bool.not_true,cond_false]
theorem g5j (l:List Tok) {r:List UInt8×List UInt8×Nat} (h:mt l=some r):r.2.2≤l.length:=by
 unfold mt at h;simp only at h;have b1:=vo l;have b2:=k0b (l.drop (zn l));rw [List.length_drop] at b2;cases hl:(loc (l.drop (zn l))).1 with
 | false=>simp only [hl,Bool.not_false,cond_true] at h;cases h
 | true =>
  simp only [hl,Bool.not_true,cond_false] at h;generalize hn2:zn l+(loc (l.drop (zn l))).2.2=n2 at h;have b4:=vo (l.drop n2);rw [List.length_drop] at b4;generalize hn3:n2+zn (l.drop n2)=n3 at h;cases hs:sgn [64] (l.drop n3) with
  | false=>simp only [hs,Bool.not_false,cond_true] at h;cases h
  | true =>
   simp only [hs,Bool.not_true,cond_false] at h;have b5:=x6v hs;rw [List.length_drop] at b5;have b6:=vo (l.drop (n3+1));rw [List.length_drop] at b6;generalize hn5:n3+1+zn (l.drop (n3+1))=n5 at h;have b7:=v7q (l.drop n5);rw [List.length_drop] at b7;cases hd:(dom (l.drop n5)).1 with
   | false=>simp only [hd,Bool.not_false,cond_true] at h;cases h
   | true =>
    simp only [hd,Bool.not_true,cond_false] at h;cases h;have b8:=vo (l.drop (n5+(dom (l.drop n5)).2.2));rw [List.length_drop] at b8;simp only;omega
theorem v6p (l:List Tok) (p:Nat) (hp:p≤l.length) (hb:vp l+l.length≤9000) :
 j5z (l,(p:Int),())=some (match mt (l.drop p) with|some r=>(r.1,r.2.1,true,l,((p+r.2.2:Nat):Int),())|none=>([],[],false,l,(p:Int),())):=by
 show k3v C71 q4w _=_;have hs:=xa p l;have h:=c71 (l.drop p) (by rw [List.length_drop];omega);simp only [k3v,Int.toNat_natCast,h,Option.bind_some];rw [decide_eq_true (by omega),decide_eq_true (by omega)];simp only [Bool.and_self,cond_true];cases hm:mt (l.drop p) with
 | none=>simp only [q4w,j7g,Option.bind_some];rw [show IntKind.i64.wrap ((p:Int)+0)=(p:Int) by rw [wr (by omega) (by omega)];simp]
 | some r =>
  have hr:=g5j _ hm;rw [List.length_drop] at hr;simp only [q4w,j7g,Option.bind_some];rw [show IntKind.i64.wrap ((p:Int)+(r.2.2:Int))=((p+r.2.2:Nat):Int) by rw [wr (by omega) (by omega)];simp]
theorem b5k (x:Int):∀(r pre:List Int) (p n N:Nat),pre.length=p→N=p+r.length→r.length<n→N≤100000 →
 (qb q0v n (pre++r,x,(N:Int),(p:Int),())).map (fun y=>decide ((Sum.elim (fun _=>(-1:Int)) (fun v=>v.1) y)≥0))=some (r.any fun y=>x==y)
 | [],pre,p,n+1,N,hp,hN,hn,hb=>by
  rw [qe (show q0v (pre++[],x,(N:Int),(p:Int),())=some (.inr (.inl ())) by
   simp only [q0v];rw [decide_eq_false (by simp at hN;omega)];rfl)]
  rfl
 | y::r,pre,p,n+1,N,hp,hN,hn,hb=>by
  simp only [List.length_cons] at hN hn;have hlen:(pre++y::r).length=N:=by simp [hp];omega
  by_cases h:x=y
  · rw [qe (show q0v (pre++y::r,x,(N:Int),(p:Int),())=some (.inr (.inr ((p:Int),()))) by
     simp only [q0v,hlen,Int.toNat_natCast,gd hp];rw [decide_eq_true (by omega),decide_eq_true (by omega),ibT h];rfl)]
    simp [h]
  · rw [qy (v':=(pre++y::r,x,(N:Int),((p+1:Nat):Int),())) (by
     simp only [q0v,hlen,Int.toNat_natCast,gd hp];rw [decide_eq_true (by omega),decide_eq_true (by omega),ibF h,wrN p (by omega)];rfl)]
    rw [shift,b5k x r (pre++[y]) (p+1) n N (by simp [hp]) (by omega) (by omega) hb];simp [h]
theorem d6e (ks:List Int) (x:Int) (hb:ks.length≤100000):v2i (ks,x,())=some (ks.any fun y=>x==y,()):=by
 show k3u v2l _=_;have h:=b5k x ks [] 0 je ks.length rfl (by simp) (by unfold je;omega) hb;have h':(q9a (ks,x,(ks.length:Int),0,())).map (fun y=>decide ((Sum.elim (fun _=>(-1:Int)) (fun v=>v.1) y)≥0))=some (ks.any fun y=>x==y):=h;obtain ⟨y,hy,hd⟩:=Option.map_eq_some_iff.1 h';have h175:v2l (ks,x,())=some (Sum.elim (fun _=>(-1:Int)) (fun v=>v.1) y,()):=by
  show k4g q9a _=_;simp only [k4g,hy,Option.bind_some];cases y<;>rfl
 simp only [k3u,h175,Option.bind_some,hd]
def isK (ks:List Int) (l:List Tok) (p:Nat):Bool:=match l[p]? with|some t=>ks.any fun y=>t.1==y|none=>false
theorem f0t (ks:List Int) (l:List Tok) (p:Nat) (hk:ks.length≤100000):ky (ks,l,(p:Int),())=some (isK ks l p,l,(p:Int),()):=by
 show k3j v2i _=_;simp only [k3j];by_cases h:p<l.length
 · rw [decide_eq_true (by omega),decide_eq_true (by omega)]
   simp only [Bool.and_self,cond_true,Int.toNat_natCast,getD_lt h,d6e ks _ hk,Option.bind_some,isK,List.getElem?_eq_getElem h]
 · rw [decide_eq_false (by omega)]
   simp only [cond_false,isK,List.getElem?_eq_none (show l.length≤p by omega)]
def isS (s:List UInt8) (l:List Tok) (p:Nat):Bool:=match l[p]? with|some t=>t.1==2&&t.2.1==s|none=>false
theorem c68 (s:List UInt8) (l:List Tok) (p:Nat) (hb:p≤100000):C68 (s,l,(p:Int),())=some (isS s l p,l,((p+(bif isS s l p then 1 else 0):Nat):Int),()):=by
 show F68 ky z0a _=_;simp only [F68,f0t [2] l p (by simp),Option.bind_some,isS];cases hp:l[p]? with
 | none=>simp only [isK,hp,Bool.not_false,cond_true,cond_false,Nat.add_zero]
 | some t =>
  obtain ⟨hlt,ht⟩:=List.getElem?_eq_some_iff.1 hp;by_cases h2:t.1=2
  · have hk:isK [2] l p=true:=by simp [isK,hp,h2]
    simp only [hk,Bool.not_true,cond_false,Int.toNat_natCast,getD_lt hlt,ht,ibT h2,Bool.true_and];rw [decide_eq_true (by omega),decide_eq_true (by omega)];simp only [Bool.and_self,cond_true];cases (t.2.1==s) with
    | false=>simp only [Bool.not_false,cond_true,cond_false,Nat.add_zero]
    | true=>simp only [Bool.not_true,cond_false,cond_true,z0a,y6l,wrN p (by omega),Option.bind_some]
  · have hk:isK [2] l p=false:=by simp [isK,hp,h2]
    simp only [hk,Bool.not_false,cond_true,ibF h2,Bool.false_and,cond_false,Nat.add_zero]
theorem b5g (l:List Tok):∀(m p n:Nat),l.length-p≤m→l.length-p<n→p≤100000→l.length≤100000 → 
 qb (q5g ky) n (l,(p:Int),())=some (l,((p+zn (l.drop p):Nat):Int),())
 | m,p,n+1,hm,hn,hb,hl=>by
  have h:=f0t [4,3] l p (by simp);by_cases hp:p<l.length
  · rw [List.drop_eq_getElem_cons hp]
    have hk:isK [4,3] l p=(l[p].1==4||l[p].1==3):=by simp [isK,List.getElem?_eq_getElem hp]
    cases hc:(l[p].1==4||l[p].1==3) with
    | true =>
     rw [qy (v':=(l,((p+1:Nat):Int),())) (by simp only [q5g,h,Option.bind_some,hk,hc,cond_true,wrN p (by omega)])];rw [b5g l (m-1) (p+1) n (by omega) (by omega) (by omega) hl];simp only [zn,hc,cond_true,Nat.add_assoc,Nat.add_comm 1]
    | false =>
     refine qe ?_;simp only [q5g,h,Option.bind_some,hk,hc,cond_false,zn,Nat.add_zero]
  · refine qe ?_
    have hk:isK [4,3] l p=false:=by simp [isK,List.getElem?_eq_none (show l.length≤p by omega)]
    simp only [q5g,h,Option.bind_some,hk,cond_false,List.drop_of_length_le (show l.length≤p by omega),zn,Nat.add_zero]
theorem v0u (l:List Tok) (p:Nat) (hp:p≤100000) (hl:l.length≤100000):xj (l,(p:Int),())=some (l,((p+zn (l.drop p):Nat):Int),()):=by
 show k3x ky q8t _=_;have h:q8t (l,(p:Int),())=_:=b5g l l.length p je (by omega) (by unfold je;omega) hp hl;simp only [k3x,h,Option.bind_some]
def phw:Nat→List Tok→List (List UInt8)×Nat
 | 0,_=>([],0)
 | m+1,l=>match l with
  | []=>([],0)
  | t::r=>bif t.1==0||t.1==1 then (t.2.1::(phw m (r.drop (zn r))).1,1+zn r+(phw m (r.drop (zn r))).2) else ([],0)
theorem b5f (l:List Tok) (hl:l.length≤9000):∀(m p n:Nat) (ws:List (List UInt8)),l.length-p≤m→m<n→p≤l.length→ws.length+m≤100000 →
 qb (q5f ky xj C73 q8r) n (l,(p:Int),ws,())=some (l,((p+(phw m (l.drop p)).2:Nat):Int),ws++(phw m (l.drop p)).1,())
 | m,p,n+1,ws,hm,hn,hp,hw=>by
  have h:=f0t [0,1] l p (by simp);by_cases hlt:p<l.length
  · obtain ⟨k,rfl⟩:∃k,m=k+1:=⟨m-1,by omega⟩
    rw [List.drop_eq_getElem_cons hlt];have hk:isK [0,1] l p=(l[p].1==0||l[p].1==1):=by simp [isK,List.getElem?_eq_getElem hlt]
    cases hc:(l[p].1==0||l[p].1==1) with
    | true =>
     have z9u:=v0u l (p+1) (by omega) (by omega);have hb:=vo (l.drop (p+1));rw [List.length_drop] at hb;rw [qy (v':=(l,((p+1+zn (l.drop (p+1)):Nat):Int),ws++[l[p].2.1],())) ?_]
     · rw [b5f l hl k (p+1+zn (l.drop (p+1))) n (ws++[l[p].2.1]) (by omega) (by omega) (by omega) (by simp;omega)]
       simp only [phw,hc,cond_true,List.drop_drop,List.append_assoc,List.cons_append,List.nil_append];rw [show p+1+zn (l.drop (p+1))+(phw k (l.drop (p+1+zn (l.drop (p+1))))).2=p+(1+zn (l.drop (p+1))+(phw k (l.drop (p+1+zn (l.drop (p+1))))).2) by omega]
     · simp only [q5f,h,Option.bind_some,hk,hc,cond_true,Int.toNat_natCast,getD_lt hlt]
       rw [decide_eq_true (by omega),decide_eq_true (by omega),decide_eq_true (by simp only [List.length_cons,List.length_nil];omega)];simp only [Bool.and_self,cond_true,q8r,z7f,wrN p (by omega),Option.bind_some,z9u]
    | false =>
     refine qe ?_;simp only [q5f,h,Option.bind_some,hk,hc,cond_false,phw,Nat.add_zero,List.append_nil]
  · refine qe ?_
    have hk:isK [0,1] l p=false:=by simp [isK,List.getElem?_eq_none (show l.length≤p by omega)]
    have he:phw m ([]:List Tok)=([],0):=by cases m<;>rfl
    simp only [q5f,h,Option.bind_some,hk,cond_false,List.drop_of_length_le (show l.length≤p by omega),he,Nat.add_zero,List.append_nil]
theorem y0p:∀(m:Nat) (l:List Tok),Lib.lens (phw m l).1≤vp l∧(phw m l).1.length≤l.length∧(phw m l).2≤l.length
 | 0,_=>⟨Nat.zero_le _,Nat.zero_le _,Nat.zero_le _⟩
 | m+1,[]=>⟨Nat.zero_le _,Nat.zero_le _,Nat.zero_le _⟩
 | m+1,t::r=>by
  have h1:=y0p m (r.drop (zn r));have h2:=xa (zn r) r;have h3:=vo r;rw [List.length_drop] at h1;simp only [phw,vp];cases (t.1==0||t.1==1) with
  | true=>simp only [cond_true,Lib.lens,List.length_cons,List.map_cons,List.sum_cons] at h1 ⊢;omega
  | false=>simp [Lib.lens]
def phr (l:List Tok) (p:Nat):List UInt8×Bool×Nat :=
 (Lib.join (phw l.length (l.drop (p+zn (l.drop p)))).1 [32],decide (0<(phw l.length (l.drop (p+zn (l.drop p)))).1.length),p+zn (l.drop p)+(phw l.length (l.drop (p+zn (l.drop p)))).2)
theorem k9f (l:List Tok) (p:Nat) (hp:p≤l.length) (hb:vp l+l.length≤9000) :
 q0p (l,(p:Int),())=some ((phr l p).1,(phr l p).2.1,l,((phr l p).2.2:Int),()):=by
 show k3w ky xj C73 q8s _=_;have b1:=vo (l.drop p);rw [List.length_drop] at b1;have h1:=v0u l p (by omega) (by omega);have h2:q8s (l,((p+zn (l.drop p):Nat):Int),[],())=_:=b5f l (by omega) l.length (p+zn (l.drop p)) je [] (by omega) (by unfold je;omega) (by omega) (by simp;omega);simp only [k3w,h1,Option.bind_some,h2,List.nil_append,phr];have hz:=y0p l.length (l.drop (p+zn (l.drop p)));have hs:=xa (p+zn (l.drop p)) l;rw [List.length_drop] at hz;generalize phw l.length (l.drop (p+zn (l.drop p)))=W at hz ⊢;have hj:(Lib.join W.1 [32]).length≤100000:=by
  cases hw:W.1 with
  | nil=>exact Nat.zero_le _
  | cons x r =>
   rw [Lib.join_length];rw [hw] at hz;simp only [List.length_cons,List.length_nil] at hz ⊢;omega
 have hc:C73 (W.1,[32],())=some (Lib.join W.1 [32],()):=by
  show q1c _=_;unfold q1c;simp only;rw [decide_eq_true (by omega),decide_eq_true (by omega)];rfl
 simp only [hc,Option.bind_some];congr 2;simp
abbrev Bx:=List UInt8×List UInt8
abbrev En:=List UInt8×Bool×List Bx
theorem l31:∀(r pre:List En) (p n N:Nat) (acc:List Bx),pre.length=p→N=p+r.length→r.length<n→N≤100000→acc.length+(r.flatMap fun x=>x.2.2).length≤100000 →
 qb z0h n (pre++r,(N:Int),(p:Int),acc,())=some (acc++r.flatMap (fun x=>x.2.2),())
 | [],pre,p,n+1,N,acc,hp,hN,hn,hb,ha=>by
  refine qe ?_;simp only [z0h];rw [decide_eq_false (by simp at hN;omega)];simp only [cond_false,List.flatMap_nil,List.append_nil]
 | y::r,pre,p,n+1,N,acc,hp,hN,hn,hb,ha=>by
  simp only [List.length_cons] at hN hn;simp only [List.flatMap_cons,List.length_append] at ha;have hlen:(pre++y::r).length=N:=by simp [hp];omega
  rw [qy (v':=(pre++y::r,(N:Int),((p+1:Nat):Int),acc++y.2.2,())) (by
   simp only [z0h,hlen,Int.toNat_natCast,gd hp];rw [decide_eq_true (by omega),decide_eq_true (by omega),decide_eq_true (by omega),wrN p (by omega)];rfl)]
  rw [shift,l31 r (pre++[y]) (p+1) n N (acc++y.2.2) (by simp [hp]) (by omega) (by omega) hb (by simp only [List.length_append];omega)];simp
theorem v6r (L:List En) (hl:L.length≤100000) (h:(L.flatMap fun x=>x.2.2).length≤100000):C31 (L,())=some (L.flatMap (fun x=>x.2.2),()):=by
 show F31 j9w _=_;have h':j9w (L,(L.length:Int),0,[],())=_:=l31 L [] 0 je L.length [] rfl (by omega) (by unfold je;omega) hl (by simpa using h);simp only [F31,h',Option.bind_some,List.nil_append]
section
variable {T:List R6} {A:List R4} {B:List R3}
theorem d85 (x:Int):Df (C85 (x,())) (fun _=>True):=by
 unfold C85 F85;dsimp only;with_reducible repeat' (first|apply dP|apply dX<;>intro _)
 all_goals trivial
theorem f1c (s:List UInt8) (b:Bool) (hs:s.length≤1000000000000000):Df (q7m (s,b,())) (fun _=>True):=by
 unfold q7m z7i;dsimp only;refine dZ (P:=fun _=>True) ?_ (fun z _=>by cases z<;>exact dP trivial);refine dL ?I ?m ?h _ ?hv ?hn
 case I=>exact (fun v=>v.2.1.1=s∧0≤v.2.1.2)
 case m=>exact (fun v=>s.length-v.2.1.2.toNat)
 case hv=>exact ⟨rfl,Int.le_refl _⟩
 case hn=>exact (by (try dsimp only);omega)
 · rintro ⟨x0,⟨x1,p⟩,u⟩ hI
   dsimp only at hI;obtain ⟨rfl,h0⟩:=hI;unfold q5h;dsimp only;with_reducible repeat' (first|apply dP|apply dX<;>intro _)
   · refine dZ (d85 _) ?_
     rintro ⟨x,u⟩ -
     dsimp only;have:=z1p x1 p.toNat
     with_reducible repeat' (first|apply dP|apply dX<;>intro _)
     · trivial
     · exact ⟨⟨rfl,by (try dsimp only);omega⟩,by (try dsimp only);omega⟩
   · trivial
theorem b4x (s:List UInt8) (hs:s.length≤1000000000000000):Df (z0c (s,())) (fun _=>True):=by
 unfold z0c x3l;dsimp only;refine dZ (P:=fun _=>True) ?_ (fun z _=>dP trivial);unfold j9m z7c;dsimp only;exact dZ (f1c s true hs) (fun z _=>dP trivial)
theorem d86 (a:List UInt8):Df (C86 (a,())) (fun _=>True):=by
 unfold C86 F86;dsimp only;refine dZ (P:=fun _=>True) ?_ (fun z _=>dP trivial);unfold C96 F96;dsimp only;exact dZ (f1a a [91]) (fun z _=>dP trivial)
theorem d87 (h:TK T A B) (s:List UInt8) (hs:s.length≤3000):Df (C87 (T,A,B,s,())) (fun _=>True):=by
 unfold C87 F87;dsimp only;obtain ⟨y,e⟩:=d6k h s hs;exact dZ (P:=fun _=>True) ⟨y,e,trivial⟩ (fun z _=>dP trivial)
theorem d44 (h:TK T A B) (a b:List UInt8) (ha:a.length≤100000) (hb:b.length≤3000):Df (C44 (T,A,B,a,b,())) (fun _=>True):=by
 unfold C44 F44;dsimp only;refine dZ (d83 a (by omega)) ?_;rintro ⟨x,y,u⟩ -
 dsimp only;with_reducible repeat' (first|apply dP|apply dX<;>intro _)
 · trivial
 · trivial
 · trivial
 · refine dZ (b4x a (by omega)) ?_
   rintro ⟨x,u⟩ -
   dsimp only;with_reducible repeat' (first|apply dP|apply dX<;>intro _)
   · trivial
   · refine dZ (d86 b) ?_
     rintro ⟨x,u⟩ -
     dsimp only;with_reducible repeat' (first|apply dP|apply dX<;>intro _)
     · rw [c11 b]
       simp only [Option.bind_some];with_reducible repeat' (first|apply dP|apply dX<;>intro _)
       · trivial
       · trivial
       · trivial
       · trivial
       · refine dO ?_;omega
     · exact dZ (d87 h b hb) (fun z _=>dP trivial)
end
theorem y0a:∀(m:Nat) (s:List UInt8) (p:Nat) (l:List Tok),s.length≤m→zt s p = .inl l→vp l≤s.length∧l.length≤s.length
 | _,[],p,l,_,h=>by rw [j2x] at h;cases h;exact ⟨Nat.le_refl _,Nat.le_refl _⟩
 | 0,c::r,p,l,hm,h=>by simp at hm
 | m+1,c::r,p,l,hm,h=>by
  obtain ⟨k,t,u,l',h1,h2,rfl⟩:=j2w h;have hu:=q0c h1;have ht:=j2z h1;obtain ⟨i1,i2⟩:=y0a m ((c::r).drop u) (p+u) l' (by simp at hm ⊢;omega) h2;simp only [List.length_drop,List.length_cons,vp] at i1 i2 ⊢;omega
theorem x5p (s:List UInt8):vp (q4l s).1≤s.length∧(q4l s).1.length≤s.length:=by
 have nil:vp ([]:List Tok)≤s.length∧([]:List Tok).length≤s.length:=⟨Nat.zero_le _,Nat.zero_le _⟩
 unfold q4l;split
 · exact nil
 · cases utf s with
   | some b=>exact nil
   | none =>
    cases h:zt s 0 with
    | inr e=>exact nil
    | inl l=>exact y0a _ s 0 l (Nat.le_refl _) h
theorem v7w:∀(m:Nat) (l:List Tok) (acc:List UInt8),l.length≤m→(dwn acc l).1.length≤acc.length+vp l+l.length
 | _,[],_,_=>by simp [dwn]
 | _,[_],_,_=>by simp only [dwn];omega
 | 0,_::_::_,_,h=>by simp at h
 | m+1,t::u::r,acc,h=>by
  have:=v7w m r (acc++([46]++u.2.1)) (by simp at h;omega);simp only [jv] at this;simp only [dwn,vp,List.length_cons];cases ((t.1==2&&t.2.1==[46])&&u.1==0) with
  | true=>simp only [cond_true];omega
  | false=>simp only [cond_false];omega
theorem v7s (l:List Tok):(dot l).1.length≤vp l+l.length:=by
 cases l with
 | nil=>exact Nat.le_refl _
 | cons t r =>
  have:=v7w r.length r t.2.1 (Nat.le_refl _);simp only [dot,vp,List.length_cons];cases (t.1==0) with
  | true=>simp only [cond_true];omega
  | false=>simp only [cond_false,List.length_nil];omega
theorem f4s (l:List Tok):(loc l).2.1.length≤vp l+l.length:=by
 cases l with
 | nil=>exact Nat.le_refl _
 | cons t r =>
  have:=v7s (t::r);simp only [loc,vp,List.length_cons] at this ⊢;cases (t.1==1) with
  | true=>simp only [cond_true];omega
  | false=>simpa only [cond_false] using this
theorem f2m (l:List Tok):(dom l).2.1.length≤vp l+l.length+2:=by
 cases l with
 | nil=>exact Nat.zero_le _
 | cons t r =>
  have:=v7s (t::r);simp only [dom,vp,List.length_cons] at this ⊢;by_cases h5:t.1=5
  · rw [ibT h5]
    simp only [cond_true,src,h5,jv];simp;omega
  · rw [ibF h5]
    simp only [cond_false];omega
theorem b5q (l:List Tok) {r:List UInt8×List UInt8×Nat} (h:mt l=some r):1≤r.2.2∧r.1.length≤vp l+l.length∧r.2.1.length≤vp l+l.length+2:=by
 unfold mt at h;simp only at h;have b1:=f4s (l.drop (zn l));have b2:=xa (zn l) l;rw [List.length_drop] at b1;cases hl:(loc (l.drop (zn l))).1 with
 | false=>simp only [hl,Bool.not_false,cond_true] at h;cases h
 | true =>
  simp only [hl,Bool.not_true,cond_false] at h;generalize zn l+(loc (l.drop (zn l))).2.2=n2 at h;generalize n2+zn (l.drop n2)=n3 at h;cases hs:sgn [64] (l.drop n3) with
  | false=>simp only [hs,Bool.not_false,cond_true] at h;cases h
  | true =>
   simp only [hs,Bool.not_true,cond_false] at h;generalize hn5:n3+1+zn (l.drop (n3+1))=n5 at h;have b5:=f2m (l.drop n5);have b6:=xa n5 l;rw [List.length_drop] at b5;cases hd:(dom (l.drop n5)).1 with
   | false=>simp only [hd,Bool.not_false,cond_true] at h;cases h
   | true =>
    simp only [hd,Bool.not_true,cond_false] at h;cases h;simp only;omega
def OkB (b:Bx):Prop:=b.1.length≤3000∧b.2.length≤3000
section
variable {l:List Tok}
theorem k9t (hz:vp l+l.length≤2900) (x:Int) (h0:0≤x) (h1:x≤l.length) :
 Df (j5z (l,x,())) (fun y=>y.2.2.2.1=l∧x≤y.2.2.2.2.1∧y.2.2.2.2.1≤l.length∧(y.2.2.1=true→x<y.2.2.2.2.1∧OkB (y.1,y.2.1))):=by
 obtain ⟨p,rfl⟩:=Int.eq_ofNat_of_zero_le h0;refine ⟨_,v6p l p (by omega) (by omega),?_⟩;cases hm:mt (l.drop p) with
 | none=>exact ⟨rfl,Int.le_refl _,h1,fun h=>by cases h⟩
 | some r =>
  have a1:=g5j _ hm;obtain ⟨a2,a3,a4⟩:=b5q _ hm;have a5:=xa p l;rw [List.length_drop] at a1 a3 a4;refine ⟨rfl,by (try dsimp only);omega,by (try dsimp only);omega,fun _=>⟨by (try dsimp only);omega,by (try dsimp only);omega,by (try dsimp only);omega⟩⟩
theorem k9u (hz:vp l+l.length≤2900) (x:Int) (h0:0≤x) (h1:x≤l.length) :
 Df (q0p (l,x,())) (fun y=>y.2.2.1=l∧x≤y.2.2.2.1∧y.2.2.2.1≤l.length):=by
 obtain ⟨p,rfl⟩:=Int.eq_ofNat_of_zero_le h0;refine ⟨_,k9f l p (by omega) (by omega),?_⟩;have b1:=vo (l.drop p);have b2:=(y0p l.length (l.drop (p+zn (l.drop p)))).2.2;rw [List.length_drop] at b1 b2;refine ⟨rfl,?_,?_⟩<;>(simp only [phr];omega)
theorem v7z (hz:vp l+l.length≤2900) (x:Int) (h0:0≤x) (h1:x≤l.length) :
 Df (xj (l,x,())) (fun y=>y.1=l∧x≤y.2.1∧y.2.1≤l.length):=by
 obtain ⟨p,rfl⟩:=Int.eq_ofNat_of_zero_le h0;refine ⟨_,v0u l p (by omega) (by omega),?_⟩;have b1:=vo (l.drop p);rw [List.length_drop] at b1;exact ⟨rfl,by (try dsimp only);omega,by (try dsimp only);omega⟩
theorem e68 (hz:vp l+l.length≤2900) (s:List UInt8) (x:Int) (h0:0≤x) (h1:x≤l.length) :
 Df (C68 (s,l,x,())) (fun y=>y.2.1=l∧x≤y.2.2.1∧y.2.2.1≤l.length∧(y.1=true→x<y.2.2.1)):=by
 obtain ⟨p,rfl⟩:=Int.eq_ofNat_of_zero_le h0;refine ⟨_,c68 s l p (by omega),?_⟩;have hp:isS s l p=true→p<l.length:=fun h=>by
  unfold isS at h;cases hl:l[p]? with
  | none=>rw [hl] at h;cases h
  | some t=>exact (List.getElem?_eq_some_iff.1 hl).1
 cases h:isS s l p with
 | false=>exact ⟨rfl,by dsimp only;rw [cond_false];omega,by dsimp only;rw [cond_false];omega,fun h=>by cases h⟩
 | true =>
  have:=hp h;exact ⟨rfl,by dsimp only;rw [cond_true];omega,by dsimp only;rw [cond_true];omega,fun _=>by dsimp only;rw [cond_true];omega⟩
theorem v7y (hz:vp l+l.length≤2900) (nm:List UInt8) (ok:Bool) (x:Int) (a b:List UInt8) (h0:0≤x) (h1:x≤l.length) :
 Df (xl (nm,ok,l,x,[],false,a,b,())) (fun y=>y.1=ok∧y.2.1=l∧x≤y.2.2.1∧y.2.2.1≤l.length∧y.2.2.2.2.2.1=[(a,b)]):=by
 unfold xl q5b;dsimp only;refine dZ (v7z hz x h0 h1) ?_;rintro ⟨l',q,u⟩ ⟨rfl,g1,g2⟩;exact dP ⟨rfl,rfl,g1,g2,rfl⟩
def En1 (l:List Tok) (x:Int) (y:List UInt8×Bool×List Bx×Bool×List Tok×Int×Unit):Prop :=
 y.2.2.2.2.1=l∧x≤y.2.2.2.2.2.1∧y.2.2.2.2.2.1≤l.length∧(y.2.2.2.1=true→x<y.2.2.2.2.2.1∧x+y.2.2.1.length≤y.2.2.2.2.2.1∧∀b∈y.2.2.1,OkB b)
theorem g6j {a b:List UInt8} (h:OkB (a,b)):∀c∈[(a,b)],OkB c:=fun c hc=>by
 rw [List.mem_singleton] at hc;subst hc;exact h
theorem k9s (hz:vp l+l.length≤2900) (x:Int) (h0:0≤x) (h1:x≤l.length):Df (wu (l,x,())) (En1 l x):=by
 unfold wu z3b;dsimp only;refine dZ (k9t hz x h0 h1) ?_;rintro ⟨a,b,ok,l',q,u⟩ ⟨hl,g1,g2,g3⟩;dsimp only at hl g1 g2 g3 ⊢;subst hl;with_reducible repeat' (first|apply dP|apply dX<;>intro _)
 · rename_i hok
   obtain ⟨g4,g5⟩:=g3 hok;exact ⟨rfl,by (try dsimp only);omega,by (try dsimp only);omega,fun _=>⟨by (try dsimp only);omega,by simp only [List.length_cons,List.length_nil];omega,g6j g5⟩⟩
 · refine dZ (k9u hz q (by omega) g2) ?_
   rintro ⟨nm,ok2,l2,q2,u2⟩ ⟨hl,k1,k2⟩;dsimp only at hl k1 k2 ⊢;subst hl;refine dZ (e68 hz [60] q2 (by omega) k2) ?_;rintro ⟨ok3,l3,q3,u3⟩ ⟨hl,m1,m2,m3⟩;dsimp only at hl m1 m2 m3 ⊢;subst hl;with_reducible repeat' (first|apply dP|apply dX<;>intro _)
   · exact ⟨rfl,by (try dsimp only);omega,by (try dsimp only);omega,fun h=>by cases h⟩
   · refine dZ (k9t hz q3 (by omega) m2) ?_
     rintro ⟨a,b,ok4,l4,q4,u4⟩ ⟨hl,n1,n2,n3⟩;dsimp only at hl n1 n2 n3 ⊢;subst hl;with_reducible repeat' (first|apply dP|apply dX<;>intro _)
     · rename_i hok4
       obtain ⟨n4,n5⟩:=n3 hok4;refine dZ (e68 hz [62] q4 (by omega) n2) ?_;rintro ⟨ok5,l5,q5,u5⟩ ⟨hl,o1,o2,o3⟩;dsimp only at hl o1 o2 o3 ⊢;subst hl;refine dZ (v7y hz nm ok5 q5 a b (by omega) o2) ?_;rintro ⟨r1,r2,r3,r4,r5,r6,r7⟩ ⟨hr1,hr2,p1,p2,hr6⟩;dsimp only at hr1 hr2 p1 p2 hr6 ⊢;subst hr2;subst hr6;exact dP ⟨rfl,by (try dsimp only);omega,by (try dsimp only);omega,fun _=>⟨by (try dsimp only);omega,by simp only [List.length_cons,List.length_nil];omega,g6j n5⟩⟩
     · refine dZ (v7y hz nm false q4 a b (by omega) n2) ?_
       rintro ⟨r1,r2,r3,r4,r5,r6,r7⟩ ⟨hr1,hr2,p1,p2,hr6⟩;dsimp only at hr1 hr2 p1 p2 hr6 ⊢;subst hr1;subst hr2;exact dP ⟨rfl,by (try dsimp only);omega,by (try dsimp only);omega,fun h=>by cases h⟩
theorem f2n (hz:vp l+l.length≤2900) (nm:List UInt8) (more:Bool) (x:Int) (h0:0≤x) (h1:x≤l.length) :
 Df (q2d (more,l,x,[],false,nm,true,[],())) (Sum.elim (fun y=>y.1=l∧x≤y.2.1∧y.2.1≤l.length∧x+y.2.2.2.2.2.2.1.length≤y.2.1∧∀b∈y.2.2.2.2.2.2.1,OkB b) (fun y=>y.1=false∧y.2.1=l∧x≤y.2.2.1∧y.2.2.1≤l.length)):=by
 refine dL ?I ?m ?h _ ?hv ?hn
 case I=>exact (fun v=>v.2.1=l∧x≤v.2.2.1∧v.2.2.1≤l.length∧x+v.2.2.2.2.2.2.2.1.length≤v.2.2.1∧∀b∈v.2.2.2.2.2.2.2.1,OkB b)
 case m=>exact (fun v=>(l.length-v.2.2.1).toNat)
 case hv=>exact ⟨rfl,Int.le_refl _,h1,by simp,by simp⟩
 case hn=>exact (by (try dsimp only);omega)
 rintro ⟨x0,l',q,x3,x4,x5,x6,bs,u⟩ ⟨hl,i1,i2,i3,i4⟩;dsimp only at hl i1 i2 i3 i4;subst hl;unfold q0t;dsimp only;with_reducible repeat' (first|apply dP|apply dX<;>intro _)
 · refine dZ (e68 hz [44] q (by omega) i2) ?_
   rintro ⟨ok3,l3,q3,u3⟩ ⟨hl,m1,m2,m3⟩;dsimp only at hl m1 m2 m3 ⊢;subst hl;with_reducible repeat' (first|apply dP|apply dX<;>intro _)
   · exact ⟨rfl,rfl,by (try dsimp only);omega,m2⟩
   · refine dZ (k9s hz q3 (by omega) m2) ?_
     rintro ⟨c1,c2,c3,c4,l4,q4,u4⟩ ⟨hl,n1,n2,n3⟩;dsimp only at hl n1 n2 n3 ⊢;subst hl;with_reducible repeat' (first|apply dP|apply dX<;>intro _)
     · exact ⟨rfl,rfl,by (try dsimp only);omega,n2⟩
     · rename_i hc _
       obtain ⟨n4,n5,n6⟩:=n3 hc;refine dZ (e68 hz [59] q4 (by omega) n2) ?_;rintro ⟨ok5,l5,q5,u5⟩ ⟨hl,o1,o2,o3⟩;dsimp only at hl o1 o2 o3 ⊢;subst hl;exact dP ⟨⟨rfl,by (try dsimp only);omega,o2,by simp only [List.length_append];omega,fun b hb=>(List.mem_append.1 hb).elim (i4 b) (n6 b)⟩,by (try dsimp only);omega⟩
     · rename_i hc _
       obtain ⟨n4,n5,n6⟩:=n3 hc;refine dO ?_;omega
 · refine dZ (k9s hz q (by omega) i2) ?_
   rintro ⟨c1,c2,c3,c4,l4,q4,u4⟩ ⟨hl,n1,n2,n3⟩;dsimp only at hl n1 n2 n3 ⊢;subst hl;with_reducible repeat' (first|apply dP|apply dX<;>intro _)
   · exact ⟨rfl,rfl,by (try dsimp only);omega,n2⟩
   · rename_i hc _
     obtain ⟨n4,n5,n6⟩:=n3 hc;refine dZ (e68 hz [59] q4 (by omega) n2) ?_;rintro ⟨ok5,l5,q5,u5⟩ ⟨hl,o1,o2,o3⟩;dsimp only at hl o1 o2 o3 ⊢;subst hl;exact dP ⟨⟨rfl,by (try dsimp only);omega,o2,by simp only [List.length_append];omega,fun b hb=>(List.mem_append.1 hb).elim (i4 b) (n6 b)⟩,by (try dsimp only);omega⟩
   · rename_i hc _
     obtain ⟨n4,n5,n6⟩:=n3 hc;refine dO ?_;omega
 · exact ⟨rfl,i1,i2,i3,i4⟩
theorem d8u (hz:vp l+l.length≤2900) (x:Int) (h0:0≤x) (h1:x≤l.length):Df (j9k (l,x,())) (En1 l x):=by
 unfold j9k x7y;dsimp only;refine dZ (k9u hz x h0 h1) ?_;rintro ⟨nm,ok2,l2,q2,u2⟩ ⟨hl,k1,k2⟩;dsimp only at hl k1 k2 ⊢;subst hl;with_reducible repeat' (first|apply dP|apply dX<;>intro _)
 · exact ⟨rfl,k1,k2,fun h=>by cases h⟩
 · refine dZ (e68 hz [58] q2 (by omega) k2) ?_
   rintro ⟨ok3,l3,q3,u3⟩ ⟨hl,m1,m2,m3⟩;dsimp only at hl m1 m2 m3 ⊢;subst hl;with_reducible repeat' (first|apply dP|apply dX<;>intro _)
   · exact ⟨rfl,by (try dsimp only);omega,m2,fun h=>by cases h⟩
   · rename_i hok3
     have m4:=m3 hok3;refine dZ (v7z hz q3 (by omega) m2) ?_;rintro ⟨l4,q4,u4⟩ ⟨hl,n1,n2⟩;dsimp only at hl n1 n2 ⊢;subst hl;refine dZ (e68 hz [59] q4 (by omega) n2) ?_;rintro ⟨ok5,l5,q5,u5⟩ ⟨hl,o1,o2,o3⟩;dsimp only at hl o1 o2 o3 ⊢;subst hl;refine dZ (f2n hz nm (!ok5) q5 (by omega) o2) ?_;intro z hzz;refine dS hzz ?_ ?_
     · rintro ⟨l6,q6,z3,z4,z5,z6,bs,u6⟩ ⟨hl,p1,p2,p3,p4⟩
       dsimp only at hl p1 p2 p3 p4 ⊢;subst hl;refine dZ (v7z hz q6 (by omega) p2) ?_;rintro ⟨l7,q7,u7⟩ ⟨hl,r1,r2⟩;dsimp only at hl r1 r2 ⊢;subst hl;exact dP ⟨rfl,by (try dsimp only);omega,r2,fun _=>⟨by (try dsimp only);omega,by (try dsimp only);omega,p4⟩⟩
     · rintro ⟨z1,l6,q6,z4,z5,u6⟩ ⟨hz1,hl,p1,p2⟩
       dsimp only at hz1 hl p1 p2 ⊢;subst hz1;subst hl;exact dP ⟨rfl,by (try dsimp only);omega,p2,fun h=>by cases h⟩
theorem e69 (hz:vp l+l.length≤2900) (x:Int) (h0:0≤x) (h1:x≤l.length):Df (C69 (l,x,())) (En1 l x):=by
 unfold C69 F69;dsimp only;refine dZ (k9s hz x h0 h1) ?_;rintro ⟨c1,c2,c3,c4,l4,q4,u4⟩ ⟨hl,n1,n2,n3⟩;dsimp only at hl n1 n2 n3 ⊢;subst hl;with_reducible repeat' (first|apply dP|apply dX<;>intro _)
 · rename_i hc
   exact ⟨rfl,n1,n2,fun _=>n3 hc⟩
 · refine dZ (d8u hz x h0 h1) ?_
   rintro ⟨c1,c2,c3,c4,l5,q5,u5⟩ ⟨hl,o1,o2,o3⟩;dsimp only at hl o1 o2 o3 ⊢;subst hl;with_reducible repeat' (first|apply dP|apply dX<;>intro _)
   · rename_i hc
     exact ⟨rfl,o1,o2,fun _=>o3 hc⟩
   · exact ⟨rfl,o1,o2,fun h=>by cases h⟩
theorem g4r (hz:vp l+l.length≤2900) (A) (B) (C):Df (q3q (l,true,A,B,C,l,0,[],())) (Sum.elim (fun y=>y.1=l∧(y.2.1,y.2.2.1,y.2.2.2.1)=(A,B,C)∧((y.2.2.2.2.2.2.1.flatMap fun x=>x.2.2).length≤2900∧y.2.2.2.2.2.2.1.length≤2900)∧∀b∈y.2.2.2.2.2.2.1.flatMap fun x=>x.2.2,OkB b) (fun _=>True)):=by
 refine dL ?I ?m ?h _ ?hv ?hn
 case I=>exact (fun v=>v.1=l∧(v.2.2.1,v.2.2.2.1,v.2.2.2.2.1)=(A,B,C)∧v.2.2.2.2.2.1=l∧(0≤v.2.2.2.2.2.2.1∧v.2.2.2.2.2.2.1≤l.length∧((v.2.2.2.2.2.2.2.1.flatMap fun x=>x.2.2).length≤v.2.2.2.2.2.2.1∧v.2.2.2.2.2.2.2.1.length≤v.2.2.2.2.2.2.1))∧∀b∈v.2.2.2.2.2.2.2.1.flatMap fun x=>x.2.2,OkB b)
 case m=>exact (fun v=>(l.length-v.2.2.2.2.2.2.1).toNat)
 case hv=>exact ⟨rfl,rfl,rfl,⟨Int.le_refl _,Int.natCast_nonneg _,by simp,by simp⟩,by simp⟩
 case hn=>exact (by (try dsimp only);omega)
 rintro ⟨l0,more,A',B',C',l',q,acc,u⟩ ⟨hl0,ht,hl,⟨i1,i2,i3,i4⟩,i5⟩;dsimp only at hl0 ht hl i1 i2 i3 i4 i5;subst hl0;subst hl;cases ht;unfold q3t;dsimp only;with_reducible repeat' (first|apply dP|apply dX<;>intro _)
 · refine dZ (e69 hz q i1 i2) ?_
   rintro ⟨c1,c2,c3,c4,l4,q4,u4⟩ ⟨hl,n1,n2,n3⟩;dsimp only at hl n1 n2 n3 ⊢;subst hl;with_reducible repeat' (first|apply dP|apply dX<;>intro _)
   · trivial
   · rename_i hc _
     obtain ⟨n4,n5,n6⟩:=n3 hc;refine dZ (e68 hz [44] q4 (by omega) n2) ?_;rintro ⟨ok5,l5,q5,u5⟩ ⟨hl,o1,o2,o3⟩;dsimp only at hl o1 o2 o3 ⊢;subst hl;refine dP ⟨⟨rfl,rfl,rfl,⟨by (try dsimp only);omega,o2,?_,?_⟩,?_⟩,by (try dsimp only);omega⟩
     · simp only [List.flatMap_append,List.flatMap_cons,List.flatMap_nil,List.append_nil,List.length_append];omega
     · simp only [jv];omega
     · intro b hb
       simp only [List.flatMap_append,List.flatMap_cons,List.flatMap_nil,List.append_nil,List.mem_append] at hb;exact hb.elim (i5 b) (n6 b)
   · rename_i hc hn
     refine dO (hn ?_);simp only [List.length_cons,List.length_nil];omega
 · exact ⟨rfl,rfl,⟨by (try dsimp only);omega,by (try dsimp only);omega⟩,i5⟩
end
section
variable {T:List R6} {A:List R4} {B:List R3}
theorem e70 (h:TK T A B) (bs:List Bx) (hb:∀b∈bs,OkB b):Df (C70 (T,A,B,bs,())) (fun _=>True):=by
 unfold C70 F70;dsimp only;with_reducible repeat' (first|apply dP|apply dX<;>intro _)
 · trivial
 · rename_i hl
   refine dZ (P:=fun _=>True) ?_ (fun z _=>by cases z<;>exact dP trivial);refine dL ?I ?m ?h _ ?hv ?hn
   case I=>exact (fun v=>v.1=bs∧v.2.1=bs.length∧0≤v.2.2.1∧(v.2.2.2.1,v.2.2.2.2.1,v.2.2.2.2.2.1)=(T,A,B))
   case m=>exact (fun v=>(bs.length-v.2.2.1).toNat)
   case hv=>exact ⟨rfl,rfl,Int.le_refl _,rfl⟩
   case hn=>exact (by (try dsimp only);omega)
   rintro ⟨bs',n,k,T',A',B',u⟩ ⟨h1,h2,h3,ht⟩;dsimp only at h1 h2 h3 ht;subst h1;subst h2;cases ht;unfold z8h;dsimp only;with_reducible repeat' (first|apply dP|apply dX<;>intro _)
   · rename_i hk _
     have hg:(bs'.getD k.toNat ([],[]))∈bs':=by
      rw [getD_lt (by omega)];exact List.getElem_mem _
     obtain ⟨q1,q2⟩:=hb _ hg;refine dZ (d44 h _ _ (by omega) q2) ?_;rintro ⟨e,u⟩ -
     dsimp only;with_reducible repeat' (first|apply dP|apply dX<;>intro _)
     · trivial
     · rw [qh (by omega)]
       exact ⟨⟨rfl,rfl,by (try dsimp only);omega,rfl⟩,by (try dsimp only);omega⟩
   · refine dO ?_;omega
   · trivial
theorem e30 (h:TK T A B) (s:List UInt8) (hs:s.length≤1400):Df (C30 (T,A,B,s,())) (fun _=>True):=by
 unfold C30 F30;dsimp only;rw [c11 s];have hz:=x5p s;simp only [Option.bind_some];generalize (q4l s).1=l at hz ⊢;with_reducible repeat' (first|apply dP|apply dX<;>intro _)
 · trivial
 · refine dZ (g4r (l:=l) (by omega) T A B) ?_
   intro z hzz;refine dS hzz ?_ (fun _ _=>dP trivial);rintro ⟨l0,A',B',C',l',q,acc,u⟩ ⟨h1,ht,⟨h2,h3⟩,h4⟩;dsimp only at h1 ht h2 h3 h4 ⊢;cases ht;with_reducible repeat' (first|apply dP|apply dX<;>intro _)
   · trivial
   · rw [v6r acc (by omega) (Nat.le_trans h2 (by decide))]
     simp only [Option.bind_some];refine dZ (e70 h _ h4) ?_;rintro ⟨e,u⟩ -
     dsimp only;with_reducible repeat' (first|apply dP|apply dX<;>intro _)
     · trivial
     · trivial
end
section
variable {T:List R6} {A:List R4} {B:List R3}
end
theorem d6w (s:List UInt8):Df (q3n (s,[46],())) (fun y => -1≤y.1∧y.1<s.length):=by
 unfold q3n k4l;dsimp only;refine dZ (P:=fun y => -1≤y.1∧y.1<s.length) ?_ fun _ h=>dP h;unfold z6h v4y;dsimp only;have e0:((([46]:List UInt8).length:Int)==0)=false:=rfl;rw [e0];simp only [cond_false];refine dZ (v7f s _ fun h => ?_) fun _ h=>dP h;have:=eq_of_beq h;rw [←this];decide
theorem d6v (s:List UInt8):Df (z6f (s,[46],())) (fun y=>0≤y.1∧y.1≤s.length):=by
 refine ⟨((Lib.countByte s 46:Nat),()),rfl,Int.natCast_nonneg _,?_⟩;have:Lib.countByte s 46≤s.length:=List.count_le_length;dsimp only;omega
theorem f1e (L n:Nat) (hn:1≤n) (hL:L≤1000000000000) (hnL:n≤1000000000000) (s:List UInt8) (hs:s.length≤L) (rows:List (List UInt8)) (hr:rows.length=n) (ha:∀r∈rows,r.length≤L) :
 Df (j6r (s,[46],0,(n:Int)-1,0,rows,())) (fun y=>y.1.length≤L∧0≤y.2.1∧y.2.1<n∧y.2.2.1.length=n∧∀r∈y.2.2.1,r.length≤L):=by
 refine dL ?I ?m ?h _ ?hv ?hn
 case I=>exact (fun v=>(v.2.1,v.2.2.1,v.2.2.2.1)=([46],0,(n:Int)-1)∧v.1.length≤L∧0≤v.2.2.2.2.1∧v.2.2.2.2.1<n∧v.2.2.2.2.2.1.length=n∧∀r∈v.2.2.2.2.2.1,r.length≤L)
 case m=>exact (fun v=>(n-v.2.2.2.2.1).toNat)
 case hv=>exact ⟨rfl,hs,Int.le_refl _,by (try dsimp only);omega,hr,ha⟩
 case hn=>exact (by (try dsimp only);omega)
 rintro ⟨s',x1,x2,x3,i,rows,u⟩ ⟨e,i1,i2,i3,i4,i5⟩;dsimp only at e i1 i2 i3 i4 i5;cases e;unfold j7l;dsimp only;with_reducible repeat' (first|apply dP|apply dX<;>intro _)
 · refine dZ (d6w s') ?_
   rintro ⟨m,u⟩ ⟨h1,h2⟩;dsimp only at h1 h2 ⊢;rw [qh (n:=m+0) (by omega),qh (n:=m+(([46]:List UInt8).length:Int)) (by simp only [List.length_cons,List.length_nil];omega)];with_reducible repeat' (first|apply dP|apply dX<;>intro _)
   · exact ⟨i1,i2,i3,i4,i5⟩
   · rw [qh (by omega)]
     refine ⟨⟨rfl,by simp only [List.length_drop];omega,by (try dsimp only);omega,by (try dsimp only);omega,by simp only [List.length_set];omega,fun r hr => ?_⟩,by (try dsimp only);omega⟩;dsimp only at hr;rcases List.mem_or_eq_of_mem_set hr with h|h
     · exact i5 r h
     · subst h;simp only [List.length_take];omega
   · refine dO ?_;rename_i hc;simp only [List.length_cons,List.length_nil] at hc;omega
   · refine dO ?_;omega
   · refine dO ?_;omega
 · exact ⟨i1,i2,i3,i4,i5⟩
theorem b3y (s:List UInt8) (hs:s.length≤1000000000):Df (y5p (s,[46],0,-1,())) (fun y=>y.1.length≤s.length+1∧∀p∈y.1,p.length≤s.length):=by
 unfold y5p k4c;dsimp only;rw [show ((-1:Int)==0)=false from rfl,show (([46]:List UInt8)==[])=false from rfl,show decide ((-1:Int)<0)=true from rfl];simp only [cond_false,cond_true];refine dZ (d6v s) ?_;rintro ⟨c,u⟩ ⟨h1,h2⟩;dsimp only at h1 h2 ⊢;rw [qh (n:=c+1) (by omega)];refine dZ (P:=fun y=>y.1.length≤s.length+1∧∀p∈y.1,p.length≤s.length) ?_ fun _ h=>dP h;unfold q8z j7k;dsimp only;rw [qh (n:=(s.length:Int)+1) (by omega)];obtain ⟨n,rfl⟩:∃n:Nat,c=(n:Int):=⟨c.toNat,by omega⟩
 have hif:(if (s.length:Int)+1<(n:Int)+1 then (s.length:Int)+1 else (n:Int)+1)=((n+1:Nat):Int):=by rw [if_neg (by omega)];omega
 simp only [hif];have hc:(decide (0≤((n+1:Nat):Int))&&(decide True&&(decide ((16:Int)*((n+1:Nat):Int)≤281474976710656)&&decide (((n+1:Nat):Int)≤140737488355328))))=true:=by
  simp only [Bool.and_eq_true,decide_eq_true_eq];exact ⟨by omega,trivial,by omega,by omega⟩
 have hc':(decide (0≤((n+1:Nat):Int))&&(decide True&&(decide (((16:Nat):Int)*((n+1:Nat):Int)≤281474976710656)&&decide (((n+1:Nat):Int)≤140737488355328))))=true:=hc;first|rw [hc]|rw [hc']
 simp only [cond_true,Int.toNat_natCast];rw [qh (n:=((n+1:Nat):Int)-1) (by omega)];refine dZ (f1e s.length (n+1) (by omega) (by omega) (by omega) s (Nat.le_refl _) (List.replicate (n+1) []) (by simp) (fun r hr=>by rw [(List.mem_replicate.1 hr).2];exact Nat.zero_le _)) ?_;rintro ⟨s',i,rows,u⟩ ⟨j1,j2,j3,j4,j5⟩;dsimp only at j1 j2 j3 j4 j5 ⊢;rw [qh (n:=i+1) (by omega)];with_reducible repeat' (first|apply dP|apply dX<;>intro _)
 · refine ⟨?_,fun p hp => ?_⟩
   · simp only [List.length_take,List.length_set];omega
   · rcases List.mem_or_eq_of_mem_set (List.mem_of_mem_take hp) with h|h
     · exact j5 p h
     · subst h;exact j1
 · refine dO ?_;rename_i hc;simp only [List.length_set] at hc;omega
 · refine dO ?_;omega
theorem d47 (s:List UInt8) (hs:s.length≤1000000000):Df (C47 (s,())) (fun _=>True):=by
 unfold C47 F47;dsimp only;refine dZ (P:=fun _=>True) ?_ (fun z _=>by cases z<;>exact dP trivial);refine dL ?I ?m ?h _ ?hv ?hn
 case I=>exact (fun v=>v.1=s∧v.2.1=s.length∧0≤v.2.2.1)
 case m=>exact (fun v=>(s.length-v.2.2.1).toNat)
 case hv=>exact ⟨rfl,rfl,Int.le_refl _⟩
 case hn=>exact (by (try dsimp only);omega)
 rintro ⟨s',n,k,u⟩ ⟨h1,h2,h3⟩;dsimp only at h1 h2 h3;subst h1;subst h2;unfold z8g;dsimp only;with_reducible repeat' (first|apply dP|apply dX<;>intro _)
 · rw [c17]
   simp only [Option.bind_some];with_reducible repeat' (first|apply dP|apply dX<;>intro _)
   · trivial
   · rw [qh (by omega)]
     exact ⟨⟨rfl,rfl,by (try dsimp only);omega⟩,by (try dsimp only);omega⟩
 · refine dO ?_;omega
 · trivial
theorem d88 (s:List UInt8) (hs:s.length≤1000000000):Df (C88 (s,())) (fun _=>True):=by
 unfold C88 F88;dsimp only;refine dZ (P:=fun y=>y.1.length≤s.length+1∧∀p∈y.1,p.length≤s.length) ?_ ?_
 · unfold y0x k3n
   dsimp only;exact dZ (b3y s hs) fun _ h=>dP h
 rintro ⟨ps,u⟩ ⟨g1,g2⟩;dsimp only at g1 g2 ⊢;refine dZ (P:=fun _=>True) ?_ (fun z _=>by cases z<;>exact dP trivial);refine dL ?I ?m ?h _ ?hv ?hn
 case I=>exact (fun v=>v.1=ps∧v.2.1=ps.length∧0≤v.2.2.1)
 case m=>exact (fun v=>(ps.length-v.2.2.1).toNat)
 case hv=>exact ⟨rfl,rfl,Int.le_refl _⟩
 case hn=>exact (by (try dsimp only);omega)
 rintro ⟨s',n,k,u⟩ ⟨h1,h2,h3⟩;dsimp only at h1 h2 h3;subst h1;subst h2;unfold z8i;dsimp only;with_reducible repeat' (first|apply dP|apply dX<;>intro _)
 · have hg:(s'.getD k.toNat [])∈s':=by rw [getD_lt (by omega)];exact List.getElem_mem _
   have:=g2 _ hg;refine dZ (d47 _ (by omega)) ?_;rintro ⟨b,u⟩ -
   dsimp only;with_reducible repeat' (first|apply dP|apply dX<;>intro _)
   · trivial
   · rw [qh (by omega)]
     exact ⟨⟨rfl,rfl,by (try dsimp only);omega⟩,by (try dsimp only);omega⟩
 · refine dO ?_;omega
 · trivial
theorem d45 (a b:List UInt8) (ha:a.length≤1000) (hb:b.length≤1000):Df (C45 (a,b,())) (fun y=>y.1≠[]∧y.1.length≤2*a.length+b.length+3):=by
 unfold C45 F45;dsimp only;refine dZ (d88 a (by omega)) ?_;rintro ⟨w,u⟩ -
 dsimp only;have he:=q2o a;have hq:(src 1 a).length=(esc a).length+2:=by simp [src]
 with_reducible repeat' (first|apply dP|apply dX<;>intro _)
 · rw [c9 1 a 0 (by omega)]
   simp only [Option.bind_some];with_reducible repeat' (first|apply dP|apply dX<;>intro _)
   · exact ⟨by simp,by simp only [jv];omega⟩
   all_goals (refine dO ?_;rename_i hc;simp only [jv] at hc;omega)
 · exact ⟨by simp,by simp only [jv];omega⟩
 all_goals (refine dO ?_;rename_i hc;simp only [jv] at hc;omega)
section
variable {T:List R6} {A:List R4} {B:List R3}
end
section
variable {T:List R6} {A:List R4} {B:List R3}
end
end Go.Proofs.YtiacnhhmkdkpmaaGreatDoorA.W
