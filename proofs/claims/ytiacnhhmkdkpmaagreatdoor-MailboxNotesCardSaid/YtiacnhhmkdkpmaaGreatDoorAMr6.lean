/- The texts of the proof, one behind the other: PR2, PR3, PR4, PL1, PL2, PL3, PL4, PL5, PL6, PL7, PQ, PL8, PL9, PM1, PM2, PLT, PPN, PMB, W15, PMailboxNotes, PGlob. -/
import Derived.Test.YtiacnhhmkdkpmaaGreatDoorAMr5
import Derived.Test.YtiacnhhmkdkpmaaGreatDoorRows
import Derived.Test.YtiacnhhmkdkpmaaGreatDoorProg
import Derived.Test.YtiacnhhmkdkpmaaGreatDoorAMr2
import Derived.MakeChecks
set_option linter.unusedVariables false
set_option linter.unusedSimpArgs false
set_option maxRecDepth 100000
namespace Go.Proofs.YtiacnhhmkdkpmaaGreatDoorA.W
open Go Go.Ae
theorem g3w (x:Int) (b:Bool):Pf (q1a (x,b,())) (Sum.elim (fun y=>1≤y.1) (fun _=>True)):=by
 show Pf (q3p _) _;unfold q3p;dsimp only;with_reducible repeat' (first | exact pN | apply pP | apply pX<;>intro _)
 all_goals first | trivial | exact (by decide:(1:Int)≤2) | exact (by decide:(1:Int)≤3)
theorem g3x (x:Int) (b:Bool):Pf (q1b (x,b,())) (Sum.elim (fun y=>1≤y.1) (fun _=>True)):=by
 show Pf (q3q q1a _) _;unfold q3q;dsimp only;with_reducible repeat' (first | exact pN | apply pP | apply pX<;>intro _)
 all_goals first | trivial | exact (by decide:(1:Int)≤1) | (refine pZ (g3w _ _) ?_;intro s hs;exact pS hs (fun a ha=>pP ha) (fun _ _=>pP trivial))
theorem b8x (x:Int) (hx:0≤x):Pf (vy (x,())) (fun y=>(y.1=0→x<128∧y.2.1=x)∧(0<y.1→128≤x)):=by
 show Pf (x1z q1b _) _;unfold x1z;dsimp only;with_reducible repeat' (first | exact pN | apply pP | apply pX<;>intro _)
 · rename_i h
   exact ⟨fun _=>⟨h,g4y (by omega)⟩,fun h=>by cases h⟩
 all_goals
  refine pZ (g3x _ _) ?_;intro s hs;exact pS hs (fun a ha=>pP ⟨fun h=>by have h':a.1=0:=h;have ha':1≤a.1:=ha;omega,fun _=>by omega⟩) (fun _ _=>pP ⟨fun h=>(by cases h),fun h=>by cases h⟩)
theorem w9w:((List.range 256).all fun n => !(intBits BinOp.andNot IntKind.u8 (n:Int) 63==128)||decide (128≤n))=true:=by kernel_rfl
theorem k1a (c:UInt8) (h:intBits BinOp.andNot IntKind.u8 (c.toNat:Int) 63=128):128≤c.toNat:=by
 have:=List.all_eq_true.1 w9w c.toNat (List.mem_range.2 c.toNat_lt)
 rw [h] at this;simpa using this
theorem f8c (s:List UInt8) (n r at_:Int) (o:List Int) (h:0≤at_) (hn:0≤n∧n≤3) (hb:s.length≤1000000000000) (ha:at_≤s.length) :
 Pf (q2j (s,n,r,at_,at_+1,o,())) (Sum.elim (fun y=>∃r',y=(s,n,r',at_,o,())∧(n=0→r'=r)∧∀j:Nat,at_+1≤j→j≤at_+n→128≤(s.getD j 0).toNat) (fun y=>y.1=at_)):=by
 refine pL ?I ?h _ ?hv
 case I=>exact (fun v=>∃(k r':Int),v=(s,n,r',at_,k,o,())∧at_+1≤k∧(n=0→r'=r)∧∀j:Nat,at_+1≤j→j<k→128≤(s.getD j 0).toNat)
 case hv=>exact ⟨_,_,rfl,Int.le_refl _,fun _=>rfl,fun j h1 h2=>by omega⟩
 rintro v ⟨k,r',rfl,h1,h2,h3⟩;unfold q2l;dsimp only;rw [qh (n:=at_+n) (by omega)];with_reducible repeat' (first | exact pN | apply pP | apply pX<;>intro _)
 · exact rfl
 · rename_i h4 h5 h6 h7
   rw [qh (n:=k+1) (by omega)];refine ⟨_,_,rfl,by omega,fun h0=>by omega,fun j h8 h9 => ?_⟩;by_cases hjk:(j:Int)<k
   · exact h3 j h8 hjk
   · have hj:j=k.toNat:=by omega
     subst hj;exact k1a _ h6
 · exact ⟨_,rfl,h2,fun j h8 h9=>h3 j h8 (by omega)⟩
theorem x9y (s:List UInt8) (k m:Nat) (h:∀j,k≤j→j<k+m→128≤(s.getD j 0).toNat):∀x∈bi ((s.drop k).take m),kk x=false:=by
 intro x hx;obtain ⟨c,hc,rfl⟩:=List.mem_map.1 hx;obtain ⟨i,hi,rfl⟩:=List.mem_iff_getElem.1 hc;rw [List.length_take,List.length_drop] at hi;rw [List.getElem_take,List.getElem_drop];have:=h (k+i) (by omega) (by omega);rw [getD_lt (by omega)] at this;exact z8s (by omega)
theorem p83 (s:List UInt8) (hb:s.length≤1000000000000):Pf (C83 (s,())) (fun y=>y.2.1<0→Rr (bi s) y.1):=by
 show Pf (F83 vy yz q2i q6b _) _;unfold F83;dsimp only;refine pZ (P:=Sum.elim (fun y=>Rr (bi s) y.1) (fun y=>0≤y.1)) ?_ ?_
 · refine pL ?I ?h _ ?hv
   case I=>exact (fun v=>∃(k:Int) (o:List Int),0≤k∧k≤s.length∧Rr (bi (s.take k.toNat)) o∧v=(s,k,o,()))
   case hv=>exact ⟨0,[],Int.le_refl _,by omega,Rr.refl _,rfl⟩
   rintro v ⟨k,o,h0,h1,h2,rfl⟩;unfold vo;dsimp only;with_reducible repeat' (first | exact pN | apply pP | apply pX<;>intro _)
   · rename_i h3 h4
     have hlt:k.toNat<s.length:=by omega
     refine pZ (pA (f1u _).pf (b8x _ (by omega))) ?_;rintro ⟨n,r,u⟩ ⟨hn,hn0,hn1⟩;dsimp only at hn hn0 hn1 ⊢;rw [qh (n:=(s.length:Int) - k) (by omega)];with_reducible repeat' (first | exact pN | apply pP | apply pX<;>intro _)
     · exact h0
     · exact h0
     · rename_i h5 h6
       rw [qh (n:=k+1) (by omega)];refine pZ (f8c s n r k o h0 (by omega) hb h1) ?_;intro z hz;refine pS hz ?_ ?_
       · rintro y ⟨r',rfl,h7,h8⟩
         dsimp only;refine pZ pT ?_;rintro ⟨m,u⟩ -
         dsimp only;rw [qh (n:=n+1) (by omega),qh (n:=k+(n+1)) (by omega)];with_reducible repeat' (first | exact pN | apply pP | apply pX<;>intro _)
         · exact h0
         · refine ⟨_,_,by omega,by omega,?_,rfl⟩
           have e:s.take (k+(n+1)).toNat=s.take k.toNat++(s.drop k.toNat).take (n+1).toNat:=by
            rw [show (k+(n+1)).toNat=k.toNat+(n+1).toNat by omega,List.take_add]
           rw [e,xf];by_cases hz:n=0
           · have h9:=hn0 hz
             have e2:(s.drop k.toNat).take (n+1).toNat=[s[k.toNat]]:=by
              rw [show (n+1).toNat=1 by omega,List.drop_eq_getElem_cons hlt];rfl
             rw [e2];refine ap _ _ h2 fun _ => ?_;rw [h7 hz,h9.2,getD_lt hlt]
           · refine apn _ _ h2 ?_ (x9y s k.toNat (n+1).toNat fun j hj1 hj2 => ?_)
             · intro he
               have:=congrArg List.length he;simp only [bi,List.length_map,List.length_take,List.length_drop,List.length_nil] at this;omega
             · by_cases hjk:j=k.toNat
               · subst hjk
                 have:=hn1 (by omega);omega
               · exact h8 j (by omega) (by omega)
       · rintro ⟨a,b,u⟩ ha
         dsimp only at ha ⊢;exact pP (by rw [ha];exact h0)
   · rw [List.take_of_length_le (by omega)] at h2
     exact h2
 · intro r hr
   refine pS hr ?_ ?_
   · rintro ⟨a,u⟩ ha
     exact pP fun _=>ha
   · rintro ⟨a,b,u⟩ ha
     exact pP fun h=>by
      have h':a<0:=h;have ha':0≤a:=ha;omega
theorem b8y (x:Int):Pf (yz (x,())) (fun y=>(y.1=1→0≤x∧x≤127)∧(y.1≠1→y.1=0∨127<x)):=by
 show Pf (z6z xb _) _;unfold z6z;dsimp only;refine pZ (k1h x).pf ?_;rintro ⟨b,u⟩ hb;dsimp only at hb ⊢;with_reducible repeat' (first | exact pN | apply pP | apply pX<;>intro _)
 all_goals (dsimp only;refine ⟨fun h => ?_,fun h => ?_⟩;all_goals first | omega | (have:=hb (by assumption);omega) | (cases h))
theorem bi1 {r:Int} (h0:0≤r) (h1:r≤127):bi [UInt8.ofNat (IntKind.u8.wrap r).toNat]=[r]:=by
 have e:(UInt8.ofNat (IntKind.u8.wrap r).toNat).toNat=r.toNat:=by
  rw [k8k,UInt8.toNat_ofNat'];omega
 unfold bi;rw [List.map_cons,List.map_nil,e];congr 1;omega
theorem g3z (l:List Int) (hb:l.length≤20000000000000):Pf (z1v (l,())) (fun y=>(y.2.1=true→Rr l (bi y.1))∧(y.2.1=false→y.1=[])):=by
 show Pf (x2c yz q7g _) _;unfold x2c;dsimp only;refine pZ (P:=Sum.elim (fun y=>Rr l (bi y.1)) (fun y=>y.1=[]∧y.2.1=false)) ?_ ?_
 · refine pL ?I ?h _ ?hv
   case I=>exact (fun v=>∃(k:Int) (o:List UInt8),0≤k∧k≤l.length∧Rr (l.take k.toNat) (bi o)∧v=(l,(l.length:Int),k,o,()))
   case hv=>exact ⟨0,[],Int.le_refl _,by omega,Rr.refl _,rfl⟩
   rintro v ⟨k,o,h0,h1,h2,rfl⟩;unfold j4x;dsimp only;with_reducible repeat' (first | exact pN | apply pP | apply pX<;>intro _)
   · rename_i h3 h4
     have hlt:k.toNat<l.length:=by omega
     refine pZ (b8y _) ?_;rintro ⟨m,u⟩ ⟨hm1,hm2⟩;dsimp only at hm1 hm2 ⊢;have za:∀ys:List UInt8,(kk (l.getD k.toNat 0)=true→bi ys=[l.getD k.toNat 0])→∃(k':Int) (o':List UInt8),0≤k'∧k'≤l.length∧Rr (l.take k'.toNat) (bi o')∧(l,(l.length:Int),IntKind.i64.wrap (k+1),o++ys,())=(l,(l.length:Int),k',o',()):=by
      intro ys hys;rw [qh (n:=k+1) (by omega)];refine ⟨_,_,by omega,by omega,?_,rfl⟩;rw [show (k+1).toNat=k.toNat+1 by omega,ql hlt,xf];rw [getD_lt hlt] at hys;exact ap _ _ h2 hys
     have hi:127<l.getD k.toNat 0→kk (l.getD k.toNat 0)=true→∀ys:List UInt8,bi ys=[l.getD k.toNat 0]:=fun h hk=>by
      have:=(q2z _).1 hk;omega
     with_reducible repeat' (first | exact pN | apply pP | apply pX<;>intro _)
     · exact ⟨rfl,rfl⟩
     · rename_i h5 h6 _
       have:=hm1 h6;exact za _ fun _=>bi1 this.1 this.2
     · rename_i h5 h6 h7 _
       exact za _ fun hk=>hi (by have:=hm2 h6;omega) hk _
     · rename_i h5 h6 h7 h8 _
       exact za _ fun hk=>hi (by have:=hm2 h6;omega) hk _
     · rename_i h5 h6 h7 h8 h9 _
       exact za _ fun hk=>hi (by have:=hm2 h6;omega) hk _
     · rename_i h5 h6 h7 h8 h9
       have:=za [] fun hk=>hi (by have:=hm2 h6;omega) hk _;rw [List.append_nil] at this;exact this
   · rw [List.take_of_length_le (by omega)] at h2
     exact h2
 · intro r hr
   refine pS hr ?_ ?_
   · rintro ⟨a,u⟩ ha
     exact pP ⟨fun _=>ha,fun h=>by cases h⟩
   · rintro ⟨a,b,u⟩ ⟨ha,hb⟩
     exact pP ⟨fun h=>(by rw [hb] at h;cases h),fun _=>ha⟩
section
variable {T:List R6} {A:List R4} {B:List R3}
theorem b9n (r:Int):Pf (j9d (T,A,B,r,())) (fun y=>kk r=true→y.1=r):=by
 show Pf (x2f zl _) _;unfold x2f;dsimp only;with_reducible repeat' (first | exact pN | apply pP | apply pX<;>intro _)
 · exact fun _=>rfl
 · exact fun _=>rfl
 · exact pZ pT fun _ _=>pP fun hk=>by have:=(q2z _).1 hk;omega
theorem b9m (l:List Int) (hl:l.length≤1000000000000):Pf (x1k (l,T,A,B,())) (fun y=>Rr l y.1):=by
 show Pf (x2e j9d q7i _) _;unfold x2e;dsimp only;refine pZ (P:=fun y=>Rr l y.1) ?_ (fun _ h=>pP h);refine pL ?I ?h _ ?hv
 case I=>exact (fun v=>∃(k:Int) (o:List Int),0≤k∧k≤l.length∧Rr (l.take k.toNat) o∧v=(T,A,B,l,(l.length:Int),k,o,()))
 case hv=>exact ⟨0,[],Int.le_refl _,by omega,Rr.refl _,rfl⟩
 rintro v ⟨k,o,h0,h1,h2,rfl⟩;unfold j4z;dsimp only;with_reducible repeat' (first | exact pN | apply pP | apply pX<;>intro _)
 · have hlt:k.toNat<l.length:=by omega
   refine pZ (b9n _) ?_;rintro ⟨m,u⟩ hm;dsimp only at hm ⊢;rw [qh (n:=k+1) (by omega)];with_reducible repeat' (first | exact pN | apply pP | apply pX<;>intro _)
   refine ⟨_,_,by omega,by omega,?_,rfl⟩;rw [show (k+1).toNat=k.toNat+1 by omega,ql hlt];rw [getD_lt hlt] at hm;exact ap _ _ h2 fun hk=>by rw [hm hk]
 · rw [List.take_of_length_le (by omega)] at h2
   exact h2
theorem g4a (hK:KT T A B) (l:List Int) (hl:l.length≤1000000000000):Pf (j1p (l,T,A,B,())) (fun y=>Rr l y.1):=by
 show Pf (j1u j1q q0m _) _;unfold j1u;dsimp only;refine pZ (P:=fun y=>Rr l y.1) ?_ (fun _ h=>pP h);refine pL ?I ?h _ ?hv
 case I=>exact (fun v=>∃(k:Int) (o:List Int),0≤k∧k≤l.length∧Rr (l.take k.toNat) o∧v=(T,A,B,l,(l.length:Int),k,o,()))
 case hv=>exact ⟨0,[],Int.le_refl _,by omega,Rr.refl _,rfl⟩
 rintro v ⟨k,o,h0,h1,h2,rfl⟩;unfold q3t;dsimp only;with_reducible repeat' (first | exact pN | apply pP | apply pX<;>intro _)
 · have hlt:k.toNat<l.length:=by omega
   refine pZ (P:=fun y=>kk (l.getD k.toNat 0)=true→y.1=l.getD k.toNat 0) (fun y e hk=>by rw [hK.lo _ hk] at e;cases e;rfl) ?_;rintro ⟨m,u⟩ hm;dsimp only at hm ⊢;rw [qh (n:=k+1) (by omega)];with_reducible repeat' (first | exact pN | apply pP | apply pX<;>intro _)
   refine ⟨_,_,by omega,by omega,?_,rfl⟩;rw [show (k+1).toNat=k.toNat+1 by omega,ql hlt];rw [getD_lt hlt] at hm;exact ap _ _ h2 fun hk=>by rw [hm hk]
 · rw [List.take_of_length_le (by omega)] at h2
   exact h2
theorem b9h (l:List Int) (hl:l.length≤1000000000000):Pf (x1i (T,A,B,l,())) (fun y=>Rr l y.1):=by
 unfold x1i x8a;dsimp only;exact pZ (b9m l hl) fun _ h=>pP h
theorem b9g (hK:KT T A B) (l:List Int) (hl:l.length≤1000000000000):Pf (x1h (T,A,B,l,())) (fun y=>Rr l y.1):=by
 unfold x1h x7z;dsimp only;exact pZ (g4a hK l hl) fun _ h=>pP h
theorem v4u:(qw.all fun s => !kk s.1)=true:=by kernel_rfl
theorem g4r:((qw.filter fun s => !s.2.2.2.1 && !s.2.2.2.2).all fun s => !kk s.2.1 && !kk s.2.2.1)=true:=by kernel_rfl
theorem f1o {r:Int} (hk:kk r=true):zl (T,A,B,r,())=some (0,0,0,false,false,false,()):=by
 have h:=(q2z r).1 hk;unfold zl;dsimp only;have e:(decide (65281≤r)&&decide (r≤65374))=false:=by simp;omega
 rw [e];have hs:q1t r=none:=by
  unfold q1t;rw [List.find?_eq_none];intro s hs he;have h1:=List.all_eq_true.1 v4u s hs;have h2:r=s.1:=by simpa using he
  rw [←h2,hk] at h1;cases h1
 rw [hs];rfl
theorem k7w (a b c:Int):Pf (zz (a,b,c,())) (fun y=>y.1=true→b≤a):=by
 show Pf (z7a _) _;unfold z7a;dsimp only;with_reducible repeat' (first | exact pN | apply pP | apply pX<;>intro _)
 · exact fun _=>by omega
 · exact fun h=>by cases h
theorem f1s {r:Int} (hk:kk r=true):zz (r,44032,11172,())=some (false,()):=by
 have h:=(q2z r).1 hk;show z7a _=_;unfold z7a;dsimp only;rw [decide_eq_false (by omega)];rfl
theorem d0f (r:Int) (sf:Bool):Pf (j9f (T,A,B,r,sf,())) (fun y=>kk r=true→y.1=[r]):=by
 show Pf (q0v (fun G=>j1v zl G zz vm vh (yh zl G zz vm vh)) je _) _;refine pRn (P:=fun (v:List R6×List R4×List R3×Int×Bool×Unit) (y:List Int×Unit)=>kk v.2.2.2.1=true→y.1=[v.2.2.2.1]) ?_ je _;rintro G - ⟨T,A,B,r,sf,u⟩;by_cases hk:kk r=true
 · show Pf (j1v zl G zz vm vh (yh zl G zz vm vh) (T,A,B,r,sf,())) _
   unfold j1v;dsimp only;simp only [f1o hk,Option.bind_some,f1s hk,Bool.not_false,cond_true,cond_false];unfold yh;dsimp only;simp only [cond_true,Option.bind_some,Sum.elim_inl];exact pP fun _=>rfl
 · exact pM pT fun _ _ h=>absurd h hk
theorem b9t (l:List Int) (sf:Bool) (hl:l.length≤100000000000):Pf (x6d (T,A,B,l,sf,())) (fun y=>Rr l y.1):=by
 show Pf (x2g j9f q7m _) _;unfold x2g;dsimp only;refine pZ (P:=fun y=>Rr l y.1) ?_ (fun _ h=>pP h);refine pL ?I ?h _ ?hv
 case I=>exact (fun v=>∃(k:Int) (o:List Int),0≤k∧k≤l.length∧Rr (l.take k.toNat) o∧v=(sf,l,(l.length:Int),k,T,A,B,o,()))
 case hv=>exact ⟨0,[],Int.le_refl _,by omega,Rr.refl _,rfl⟩
 rintro v ⟨k,o,h0,h1,h2,rfl⟩;unfold j5f;dsimp only;with_reducible repeat' (first | exact pN | apply pP | apply pX<;>intro _)
 · have hlt:k.toNat<l.length:=by omega
   refine pZ (d0f _ _) ?_;rintro ⟨z,u⟩ hz;dsimp only at hz ⊢;rw [qh (n:=k+1) (by omega)];with_reducible repeat' (first | exact pN | apply pP | apply pX<;>intro _)
   refine ⟨_,_,by omega,by omega,?_,rfl⟩;rw [show (k+1).toNat=k.toNat+1 by omega,ql hlt];rw [getD_lt hlt] at hz;exact ap _ _ h2 hz
 · rw [List.take_of_length_le (by omega)] at h2
   exact h2
theorem d0j (a b:Int):Pf (q2h (T,A,B,a,b,())) (fun y=>y.2.1=true→kk a=false∧kk b=false):=by
 unfold q2h;dsimp only;cases hp:j8s a b with
 | none=>exact pP fun h=>by cases h
 | some s =>
  refine pP fun _ => ?_;unfold j8s at hp;have h1:=List.all_eq_true.1 g4r s (List.mem_of_find?_eq_some hp);have h2:=List.find?_some hp;simp only [Bool.and_eq_true,beq_iff_eq,Bool.not_eq_true'] at h1 h2;rw [h2.1,h2.2];exact h1
theorem g4f (a b:Int) (f:Bool) (hf:f=true→128≤a∧128≤b):Pf (ka (a,b,f,T,A,B,())) (Sum.elim (fun y=>y.2.1=true→kk a=false∧kk b=false) (fun y=>y=(a,b,T,A,B,()))):=by
 show Pf (q3v zz q2h _) _;unfold q3v;dsimp only;with_reducible repeat' (first | exact pN | apply pP | apply pX<;>intro _)
 · rename_i h
   have:=hf h;exact fun _=>⟨z8s this.1,z8s this.2⟩
 · refine pZ (k7w _ _ _) ?_
   rintro ⟨z,u⟩ hz;dsimp only at hz ⊢;with_reducible repeat' (first | exact pN | apply pP | apply pX<;>intro _)
   · rename_i h1 h2
     have h3:=hz h1;refine pZ (k7w _ _ _) ?_;rintro ⟨z,u⟩ hz';dsimp only at hz' ⊢;with_reducible repeat' (first | exact pN | apply pP | apply pX<;>intro _)
     · rename_i h4
       have h5:=hz' h4;exact fun _=>⟨z8s (by omega),z8s (by omega)⟩
     · exact rfl
   all_goals exact rfl
theorem d0g (a b:Int):Pf (q7v (T,A,B,a,b,())) (fun y=>y.2.1=true→kk a=false∧kk b=false):=by
 show Pf (x2j zz q2h ka _) _;unfold x2j;dsimp only;have za:∀f,(f=true→128≤a∧128≤b)→Pf ((ka (a,b,f,T,A,B,())).bind fun val=>Sum.elim (fun val=>some (val.fst,val.snd.fst,())) (fun val=>(q2h (val.snd.snd.fst,val.snd.snd.snd.fst,val.snd.snd.snd.snd.fst,val.fst,val.snd.fst,())).bind fun val=>some (val.fst,val.snd.fst,())) val) (fun y=>y.2.1=true→kk a=false∧kk b=false):=by
  intro f hf;refine pZ (g4f a b f hf) ?_;intro z hz;refine pS hz ?_ ?_
  · rintro ⟨y1,y2,u⟩ h
    exact pP h
  · rintro y rfl
    refine pZ (d0j a b) ?_;rintro ⟨y1,y2,u⟩ h;exact pP h
 refine pZ (k7w _ _ _) ?_;rintro ⟨z,u⟩ hz;dsimp only at hz ⊢;with_reducible repeat' (first | exact pN | apply pP | apply pX<;>intro _)
 · rename_i h1
   have h2:=hz h1;refine pZ (k7w _ _ _) ?_;rintro ⟨z,u⟩ hz';dsimp only at hz' ⊢;exact za _ fun h=>⟨by omega,by have:=hz' h;omega⟩
 · exact za _ fun h=>by cases h
theorem g4c (x0 x1 x2 x3:Int) (x4:List Int) (x5 x6:Int) (x7:Bool) (x8:List R6) (x9:List R4) (x10:List R3) (x11:List Int) :
 Pf (q1e (x0,x1,x2,x3,x4,x5,x6,x7,x8,x9,x10,x11,())) (Sum.elim (fun y=>∃v,kk (x11.getD x0.toNat 0)=false∧kk x2=false∧y=(x0,x1,x4,x5,x6,x8,x9,x10,x11.set x0.toNat v,())) (fun y=>y=(x0,x1,x2,x3,x4,x5,x6,x8,x9,x10,x11,()))):=by
 show Pf (q3u xc q7v _) _;unfold q3u;dsimp only;with_reducible repeat' (first | exact pN | apply pP | apply pX<;>intro _)
 · refine pZ (d0g _ _) ?_
   rintro ⟨a,b,u⟩ hab;dsimp only at hab ⊢;with_reducible repeat' (first | exact pN | apply pP | apply pX<;>intro _)
   · rename_i h1 _
     have:=hab h1;exact ⟨_,this.1,this.2,rfl⟩
   · exact rfl
 · exact rfl
theorem b9u (l:List Int) (hl:l.length≤10000000000000):Pf (x6e (T,A,B,l,())) (fun y=>Rr l y.1):=by
 show Pf (x2h xc q7v q7n _) _;unfold x2h;dsimp only;refine pZ (P:=fun y=>Rr l y.1) ?_ (fun _ h=>pP h);refine pL ?I ?h _ ?hv
 case I=>exact (fun v=>∃(st la k:Int) (o:List Int),0≤k∧k≤l.length∧Rr (l.take k.toNat) o∧v=(st,la,l,(l.length:Int),k,T,A,B,o,()))
 case hv=>exact ⟨-1,0,0,[],Int.le_refl _,by omega,Rr.refl _,rfl⟩
 rintro v ⟨st,la,k,o,h0,h1,h2,rfl⟩;have za:∀(cl:Int) (f:Bool),k<l.length→Pf ((q1e (st,la,l.getD k.toNat 0,cl,l,(l.length:Int),k,f,T,A,B,o,())).bind fun val =>
  Sum.elim (fun val=>some (Sum.inl (val.fst,val.snd.fst,val.snd.snd.fst,val.snd.snd.snd.fst,IntKind.i64.wrap (val.snd.snd.snd.snd.fst+1),val.snd.snd.snd.snd.snd.fst,val.snd.snd.snd.snd.snd.snd.fst,val.snd.snd.snd.snd.snd.snd.snd.fst,val.snd.snd.snd.snd.snd.snd.snd.snd.fst,())))
   (fun val=>bif decide (List.length val.snd.snd.snd.snd.snd.snd.snd.snd.snd.snd.fst+[val.snd.snd.fst].length≤140737488355328/4) then
    bif val.snd.snd.snd.fst==0 then some (Sum.inl (IntKind.i64.wrap ((↑(val.snd.snd.snd.snd.snd.snd.snd.snd.snd.snd.fst++[val.snd.snd.fst]).length:Int) - 1),0,val.snd.snd.snd.snd.fst,val.snd.snd.snd.snd.snd.fst,IntKind.i64.wrap (val.snd.snd.snd.snd.snd.snd.fst+1),val.snd.snd.snd.snd.snd.snd.snd.fst,val.snd.snd.snd.snd.snd.snd.snd.snd.fst,val.snd.snd.snd.snd.snd.snd.snd.snd.snd.fst,val.snd.snd.snd.snd.snd.snd.snd.snd.snd.snd.fst++[val.snd.snd.fst],()))
    else some (Sum.inl (val.fst,if val.snd.snd.snd.fst>val.snd.fst then val.snd.snd.snd.fst else val.snd.fst,val.snd.snd.snd.snd.fst,val.snd.snd.snd.snd.snd.fst,IntKind.i64.wrap (val.snd.snd.snd.snd.snd.snd.fst+1),val.snd.snd.snd.snd.snd.snd.snd.fst,val.snd.snd.snd.snd.snd.snd.snd.snd.fst,val.snd.snd.snd.snd.snd.snd.snd.snd.snd.fst,val.snd.snd.snd.snd.snd.snd.snd.snd.snd.snd.fst++[val.snd.snd.fst],()))
    else none) val)
  (Sum.elim (fun v':Int×Int×List Int×Int×Int×List R6×List R4×List R3×List Int×Unit=>∃(st la k:Int) (o:List Int),0≤k∧k≤l.length∧Rr (l.take k.toNat) o∧v'=(st,la,l,(l.length:Int),k,T,A,B,o,())) (fun y:List Int×Unit=>Rr l y.1)):=by
  intro cl f hlt;have hlt':k.toNat<l.length:=by omega
  refine pZ (g4c _ _ _ _ _ _ _ _ _ _ _ _) ?_;intro z hz;refine pS hz ?_ ?_
  · rintro y ⟨v,h3,h4,rfl⟩
    dsimp only;rw [qh (n:=k+1) (by omega)];refine pP ⟨_,_,_,_,by omega,by omega,?_,rfl⟩;rw [show (k+1).toNat=k.toNat+1 by omega,ql hlt'];rw [getD_lt hlt'] at h4;exact Rr.set _ h2 h4 _ _ h3
  · rintro y rfl
    dsimp only;rw [qh (n:=k+1) (by omega)];with_reducible repeat' (first | exact pN | apply pP | apply pX<;>intro _)
    all_goals
     refine ⟨_,_,_,_,by omega,by omega,?_,rfl⟩;rw [show (k+1).toNat=k.toNat+1 by omega,ql hlt',getD_lt hlt'];exact ap _ _ h2 fun _=>rfl
 unfold j5g;dsimp only;with_reducible repeat' (first | exact pN | apply pP | apply pX<;>intro _)
 · rename_i h4 h5
   refine pZ pT ?_;rintro ⟨cl,u⟩ -
   dsimp only;with_reducible repeat' (first | exact pN | apply pP | apply pX<;>intro _)
   all_goals exact za _ _ (by omega)
 · rw [List.take_of_length_le (by omega)] at h2
   exact h2
theorem b9o (h:TK T A B) (hK:KT T A B) (s:List UInt8) (a:Bool) (hs:s.length≤100000000000):Pf (y0u (T,A,B,s,a,true,())) (fun y=>y.2.1=true→Rr (bi s) (bi y.1)):=by
 unfold y0u v6p;dsimp only;refine pZ (pA (d83 s (by omega)).pf (p83 s (by omega))) ?_;rintro ⟨l,at_,u⟩ ⟨hl,hl'⟩;dsimp only at hl hl' ⊢;with_reducible repeat' (first | exact pN | apply pP | apply pX<;>intro _)
 · exact fun h=>by cases h
 · rename_i hat
   have r1:=hl' (by omega);refine pZ (pA (f2i T A B l a (by omega)).pf (b9t l a (by omega))) ?_;rintro ⟨l2,u⟩ ⟨h2,r2⟩;dsimp only at h2 r2 ⊢;refine pZ (pA (f2h h.a l2 (by omega)).pf (b9s hK l2 (by omega))) ?_;rintro ⟨l3,u⟩ ⟨h3,r3⟩;dsimp only at h3 r3 ⊢;refine pZ (pA (f2j T A B l3 (by omega) h.a).pf (b9u l3 (by omega))) ?_;rintro ⟨l4,u⟩ ⟨h4,r4⟩;dsimp only at h4 r4 ⊢;refine pZ (g3z l4 (by omega)) ?_;rintro ⟨s5,b5,u⟩ ⟨h5,-⟩;exact pP fun hb=>((r1.trans r2).trans (r3.trans r4)).trans (h5 hb)
theorem b9i (h:TK T A B) (hK:KT T A B) (s:List UInt8) (hs:s.length≤100000000000):Pf (z1w (T,A,B,s,())) (fun y=>y.2.1=true→Rr (bi s) (bi y.1)):=by
 unfold z1w v6j;dsimp only;refine pZ (b9o h hK s false hs) ?_;rintro ⟨x,b,u⟩ hx;exact pP hx
theorem f7x (h:TK T A B) (hK:KT T A B) (s:List UInt8) (hs:s.length≤10000000000):Pf (j1n (T,A,B,s,())) (fun y=>y.2.1=true→y.1=[]∨Rr (bi s) (bi y.1)):=by
 unfold j1n x7x;dsimp only;refine pZ (pA (d83 s (by omega)).pf (p83 s (by omega))) ?_;rintro ⟨l,at_,u⟩ ⟨hl,hl'⟩;dsimp only at hl hl' ⊢;with_reducible repeat' (first | exact pN | apply pP | apply pX<;>intro _)
 · exact fun h=>by cases h
 · have r1:=hl' (by omega)
   refine pZ (pA (f2a T A B l (by omega)).pf (b9h l (by omega))) ?_;rintro ⟨l2,u⟩ ⟨h2,r2⟩;dsimp only at h2 r2 ⊢;refine pZ (pA (f1z T A B h.b l2 (by omega)).pf (b9g hK l2 (by omega))) ?_;rintro ⟨l3,u⟩ ⟨h3,r3⟩;dsimp only at h3 r3 ⊢;refine pZ (pA (x4w l3 (by omega)).pf (g3z l3 (by omega))) ?_;rintro ⟨s4,b4,u⟩ ⟨h4,h5,h6⟩;dsimp only at h4 h5 h6 ⊢;refine pZ (pA (g0i h s4 (by omega)).pf (b9i h hK s4 (by omega))) ?_;rintro ⟨s5,b5,u⟩ ⟨h7,h8⟩;refine pP fun hb => ?_;dsimp only at h7 h8 hb ⊢;cases b4 with
   | true=>exact .inr ((r1.trans r2).trans ((r3.trans (h5 rfl)).trans (h8 hb)))
   | false =>
    rw [h6 rfl] at h7;exact .inl (List.eq_nil_of_length_eq_zero (by simpa using h7))
end
theorem z0n {s:List UInt8} {p:Nat} (h:p<s.length) (hc:s[p].toNat<128):kw s p=(s[p].toNat,1):=by
 have e:((⟨⟨s⟩⟩:ByteArray).get! (p+0))=s[p]:=by
  show (⟨s⟩:Array UInt8)[p+0]! = _;rw [Nat.add_zero,getElem!_pos _ _ (by simpa using h)];simp
 simp only [kw,Utf8.decode,e];rw [if_pos hc]
theorem g4e:((List.range 128).all fun n => !kk (n:Int)||(match j6v ((n:Int),()) with | some (b,_)=>b | none=>false))=true:=by kernel_rfl
theorem f1r {x:Int} (hk:kk x=true):Pf (j6v (x,())) (fun y=>y.1=true):=by
 have h:=(q2z x).1 hk;have h1:=List.all_eq_true.1 g4e x.toNat (List.mem_range.2 (by omega))
 rw [show ((x.toNat:Nat):Int)=x by omega,hk] at h1;intro y hy;rw [hy] at h1;simpa using h1
theorem b9c (s:List UInt8) (hs:s.length≤1000000000000000) (ha:∀c∈s,c.toNat<128) (hk:∃x∈bi s,kk x=true):Pf (y0r (s,true,())) (fun y=>0≤y.1):=by
 unfold y0r v6d;dsimp only;refine pZ (P:=Sum.elim (fun y=>0≤y.1) (fun _=>False)) ?_ ?_
 · refine pL ?I ?h _ ?hv
   case I=>exact (fun v=>∃p:Nat,v=(true,(s,(p:Int)),())∧∀x∈bi (s.take p),kk x=false)
   case hv=>exact ⟨0,rfl,fun x hx=>by cases hx⟩
   rintro v ⟨p,rfl,h1⟩;unfold j4u;dsimp only;simp only [Int.toNat_natCast];with_reducible repeat' (first | exact pN | apply pP | apply pX<;>intro _)
   · rename_i hp
     rw [z0n hp (ha _ (List.getElem_mem hp))];dsimp only;have hnk:kk ((s[p].toNat:Nat):Int)=true→Pf (j6v (((s[p].toNat:Nat):Int),())) (fun y=>y.1=true):=f1r;refine pZ (P:=fun y=>kk ((s[p].toNat:Nat):Int)=true→y.1=true) (fun y e hk=>hnk hk y e) ?_;rintro ⟨b,u⟩ hb;dsimp only at hb ⊢;cases b with
     | true=>exact pP (by show (0:Int)≤(p:Int);omega)
     | false =>
      refine pP ⟨p+1,rfl,fun x hx => ?_⟩;rw [ql hp,xf] at hx;rcases List.mem_append.1 hx with hx | hx
      · exact h1 x hx
      · have hx':x=((s[p].toNat:Nat):Int):=by simpa [bi] using hx
        subst hx';cases hkx:kk ((s[p].toNat:Nat):Int) with
        | false=>rfl
        | true=>have:=hb hkx;cases this
   · rename_i hp
     obtain ⟨x,hx,hxk⟩:=hk;rw [List.take_of_length_le (by omega)] at h1;rw [h1 x hx] at hxk;cases hxk
 · intro z hz
   refine pS hz ?_ ?_
   · rintro ⟨a,u⟩ h
     exact pP h
   · intro u h
     exact h.elim
theorem p84 (s:List UInt8) (hs:s.length≤1000000000000000) (ha:∀c∈s,c.toNat<128) (hk:∃x∈bi s,kk x=true):Pf (C84 (s,())) (fun y=>y.1=true):=by
 unfold C84 F84;dsimp only;refine pZ (P:=fun y=>0≤y.1) ?_ ?_
 · unfold x5z v5t
   dsimp only;exact pZ (b9c s hs ha hk) fun _ h=>pP h
 · rintro ⟨a,u⟩ h
   refine pP ?_;dsimp only at h ⊢;exact decide_eq_true h
theorem b9q (s:List UInt8) (hs:s.length≤1000000000000000) (ha:∀c∈s,c.toNat<128) (hk:s=[]∨∃x∈bi s,kk x=true):Pf (z6q (s,())) (fun y=>y.1≠0):=by
 rcases hk with rfl | hk
 · have e:z6q ([],())=some (13,()):=by kernel_rfl
   rw [e];exact pP (by decide)
 unfold z6q v6v;dsimp only;refine pZ (P:=fun y=>y.1≠0) ?_ (fun _ h=>pP h);unfold j6u z3l;dsimp only;refine pZ (P:=fun y=>y.2.1=s) (pP rfl) ?_;rintro ⟨b,s1,u⟩ h1;dsimp only at h1 ⊢;subst h1;with_reducible repeat' (first | exact pN | apply pP | apply pX<;>intro _)
 · exact (by decide:(13:Int)≠0)
 · refine pZ (P:=fun y=>y.2.1=s1) (pP rfl) ?_
   rintro ⟨b,s2,u⟩ h2;dsimp only at h2 ⊢;subst h2;with_reducible repeat' (first | exact pN | apply pP | apply pX<;>intro _)
   · exact (by decide:(5:Int)≠0)
   · refine pZ (P:=fun y=>y.1=true∧y.2.1=s2) ?_ ?_
     · unfold x6k v7l
       dsimp only;refine pZ (p84 s2 hs ha hk) ?_;intro y hy;exact pP ⟨hy,rfl⟩
     rintro ⟨b,s3,u⟩ ⟨h3,h4⟩;dsimp only at h3 h4 ⊢;subst h3 h4;exact pP (by decide:(8:Int)≠0)
section
variable {T:List R6} {A:List R4} {B:List R3}
theorem g4d:((List.range 128).all fun n=>match z2e ((n:Int),()) with | some (.inr (.inr (.inr (.inr (.inr (.inr (.inr (.inr _))))))))=>true | _=>false)=true:=by kernel_rfl
theorem f1n {x:Int} (h0:0≤x) (h1:x<128):z2e (x,())=some (.inr (.inr (.inr (.inr (.inr (.inr (.inr (.inr ())))))))):=by
 have h:=List.all_eq_true.1 g4d x.toNat (List.mem_range.2 (by omega))
 rw [show ((x.toNat:Nat):Int)=x by omega] at h;revert h;cases hc:z2e (x,()) with
 | none=>intro h;cases h
 | some z =>
  rcases z with z | z | z | z | z | z | z | z | z;all_goals intro h;first | rfl | cases h
theorem b9j (l:List Int) (p:Int) (hk:kk (l.getD p.toNat 0)=true):Pf (j3i (T,A,B,l,p,())) (fun y=>y.1=0):=by
 have h:=(q2z _).1 hk;show Pf (x2d z2e x1n x1o z2m x1s x1t x1u x1v x1w _) _;unfold x2d;dsimp only;with_reducible repeat' (first | exact pN | apply pP | apply pX<;>intro _)
 · exact rfl
 · exact rfl
 · rw [f1n h.1 h.2.1]
   exact pP rfl
theorem d0a (hK:KT T A B) (l:List Int) (hl:l.length≤1000000000000) (hk:∃x∈l,kk x=true):Pf (x1q (T,A,B,l,())) (fun y=>y.1=true):=by
 show Pf (x2i j3i q2e q7r _) _;unfold x2i;dsimp only;refine pZ (P:=Sum.elim (fun _=>False) (fun y=>y.1=true)) ?_ ?_
 · refine pL ?I ?h _ ?hv
   case I=>exact (fun v=>∃k:Int,0≤k∧k≤l.length∧(∀x∈l.take k.toNat,kk x=false)∧v=(l,l,(l.length:Int),k,T,A,B,()))
   case hv=>exact ⟨0,Int.le_refl _,by omega,fun x hx=>(by cases hx),rfl⟩
   rintro v ⟨k,h0,h1,h2,rfl⟩;unfold j5j;dsimp only;with_reducible repeat' (first | exact pN | apply pP | apply pX<;>intro _)
   · have hlt:k.toNat<l.length:=by omega
     refine pZ (P:=fun y=>kk (l.getD k.toNat 0)=true→y.1=0) (fun y e hk=>b9j l k hk y e) ?_;rintro ⟨b,u⟩ hb;dsimp only at hb ⊢;have za:kk (l.getD k.toNat 0)=false→∃k':Int,0≤k'∧k'≤l.length∧(∀x∈l.take k'.toNat,kk x=false)∧(l,l,(l.length:Int),IntKind.i64.wrap (k+1),T,A,B,())=(l,l,(l.length:Int),k',T,A,B,()):=by
      intro hn;rw [qh (n:=k+1) (by omega)];refine ⟨_,by omega,by omega,fun x hx => ?_,rfl⟩;rw [show (k+1).toNat=k.toNat+1 by omega,ql hlt] at hx;rcases List.mem_append.1 hx with hx | hx
      · exact h2 x hx
      · rw [List.mem_singleton] at hx
        rw [getD_lt hlt] at hn;subst hx;exact hn
     with_reducible repeat' (first | exact pN | apply pP | apply pX<;>intro _)
     · exact rfl
     · refine pZ (P:=fun y=>kk (l.getD k.toNat 0)=true→y.1=false) (fun y e hk=>by rw [hK.ca _ hk] at e;cases e;rfl) ?_
       rintro ⟨c,u⟩ hc;dsimp only at hc ⊢;with_reducible repeat' (first | exact pN | apply pP | apply pX<;>intro _)
       · exact rfl
       · rename_i hct
         refine za ?_;cases hkx:kk (l.getD k.toNat 0) with
         | false=>rfl
         | true=>rw [hc hkx] at hct;cases hct
     · rename_i hb1 hb2
       refine za ?_;cases hkx:kk (l.getD k.toNat 0) with
       | false=>rfl
       | true=>exact (hb2 (hb hkx)).elim
   · obtain ⟨x,hx,hxk⟩:=hk
     rw [List.take_of_length_le (by omega)] at h2;rw [h2 x hx] at hxk;cases hxk
 · intro z hz
   refine pS hz ?_ ?_
   · intro u h
     exact h.elim
   · rintro ⟨b,u⟩ h
     exact pP h
theorem b9w (s:List UInt8):Pf (z6u (s,T,A,B,())) (fun y=>y.2=(s,T,A,B,())):=by
 unfold z6u x8e;dsimp only;refine pZ pT ?_;rintro ⟨x,u⟩ -
 dsimp only;with_reducible repeat' (first | exact pN | apply pP | apply pX<;>intro _)
 · exact rfl
 · exact pZ pT fun _ _=>pP rfl
theorem b9x (a:List UInt8):Pf (y0x (a,())) (fun y=>y.2.1=a):=by
 unfold y0x v7j;dsimp only;exact pZ pT fun _ _=>pP rfl
theorem b9y (l:List Int):Pf (y0z (T,A,B,l,())) (fun y=>y.2=(T,A,B,l,())):=by
 unfold y0z v7k;dsimp only;with_reducible repeat' (first | exact pN | apply pP | apply pX<;>intro _)
 exact pZ pT fun _ _=>pP rfl
theorem b9z (hK:KT T A B) (l:List Int) (hl:l.length≤1000000000000) (hk:∃x∈l,kk x=true):Pf (x1p (T,A,B,l,())) (fun y=>y.1=true):=by
 unfold x1p x8f;dsimp only;exact pZ (d0a hK l hl hk) fun _ h=>pP h
theorem b9v (hK:KT T A B) (at_:Int) (s:List UInt8) (l:List Int) (c:List UInt8) (d:Bool) (hl:l.length≤100000000000) (h0:at_<0→∃x∈l,kk x=true) :
 Pf (z6t (7,4,11,10,8,9,12,5,at_,s,T,A,B,l,c,d,())) (fun y=>y.1≠0):=by
 unfold z6t x8d;dsimp only;refine pZ (P:=fun y=>y.1=false→at_<0) (pP fun h=>by
  have h':decide (at_≥0)=false:=h;simp only [decide_eq_false_iff_not] at h';omega) ?_
 rintro ⟨b,at',u⟩ hb;dsimp only at hb ⊢;with_reducible repeat' (first | exact pN | apply pP | apply pX<;>intro _)
 · exact (by decide:(7:Int)≠0)
 · rename_i h1
   have hk:=h0 (hb h1);refine pZ (b9w s) ?_;rintro ⟨b2,y⟩ hy;dsimp only at hy;subst hy;dsimp only;with_reducible repeat' (first | exact pN | apply pP | apply pX<;>intro _)
   · exact (by decide:(4:Int)≠0)
   · refine pZ (b9x s) ?_
     rintro ⟨b3,s',u⟩ hs';dsimp only at hs' ⊢;with_reducible repeat' (first | exact pN | apply pP | apply pX<;>intro _)
     · exact (by decide:(11:Int)≠0)
     · refine pZ (b9y l) ?_
       rintro ⟨b4,y⟩ hy;dsimp only at hy;subst hy;dsimp only;with_reducible repeat' (first | exact pN | apply pP | apply pX<;>intro _)
       · exact (by decide:(10:Int)≠0)
       · refine pZ (b9z hK l (by omega) hk) ?_
         rintro ⟨b5,y⟩ hy;dsimp only at hy;subst hy;exact pP (by decide:(8:Int)≠0)
theorem b9p (hK:KT T A B) (s:List UInt8) (hs:s.length≤100000000000) (hk:∃x∈bi s,kk x=true):Pf (z2g (T,A,B,s,())) (fun y=>y.1≠0):=by
 unfold z2g x8c;dsimp only;refine pZ (pA (d83 s (by omega)).pf (p83 s (by omega))) ?_;rintro ⟨l,at_,u⟩ ⟨hl,hl'⟩;dsimp only at hl hl' ⊢;refine pZ (b9v hK at_ s l _ _ (by omega) fun h=>(hl' h).mem hk) ?_;rintro ⟨e,y⟩ h;exact pP h
theorem g4g:((List.range 256).all fun n=>match j1t ((n:Int),()) with | some (_,b,_) => !b || !kk (n:Int) | none=>true)=true:=by kernel_rfl
theorem d0h (c:UInt8):Pf (j1t ((c.toNat:Int),())) (fun y=>y.2.1=true→kk (c.toNat:Int)=false):=by
 have h:=List.all_eq_true.1 g4g c.toNat (List.mem_range.2 c.toNat_lt)
 intro y hy hb;rw [hy] at h;obtain ⟨a,b,u⟩:=y;dsimp only at h hb;rw [hb] at h;simpa using h
theorem d0c (s:List UInt8) (b:Int) (hs:s.length≤1000000000000):Pf (j3m (s,b,())) (fun y=>(∃x∈bi s,kk x=true)→y.1<0∨∃x∈bi y.2.1,kk x=true):=by
 unfold j3m v7n;dsimp only;refine pZ (P:=Sum.elim (fun _=>True) (Sum.elim (fun _=>True) (fun y=>∃k:Nat,y.2.1=s.drop k∧∀x∈bi (s.take k),kk x=false))) ?_ ?_
 · refine pL ?I ?h _ ?hv
   case I=>exact (fun v=>∃(n w k:Int),0≤k∧k≤s.length∧(∀x∈bi (s.take k.toNat),kk x=false)∧v=(s,b,n,w,(s.length:Int),k,()))
   case hv=>exact ⟨_,_,0,Int.le_refl _,by omega,fun x hx=>(by cases hx),rfl⟩
   rintro v ⟨n,w,k,h0,h1,h2,rfl⟩;unfold j5k;dsimp only;with_reducible repeat' (first | exact pN | apply pP | apply pX<;>intro _)
   · have hlt:k.toNat<s.length:=by omega
     refine pZ (d0h _) ?_;rintro ⟨d,ok,u⟩ hd;dsimp only at hd ⊢;have hst:ok=true→∀x∈bi (s.take (k.toNat+1)),kk x=false:=by
      intro hok x hx;rw [ql hlt,xf] at hx;rcases List.mem_append.1 hx with hx | hx
      · exact h2 x hx
      · have hx':x=((s[k.toNat].toNat:Nat):Int):=by simpa [bi] using hx
        have:=hd hok;rw [getD_lt hlt] at this;subst hx';exact this
     rw [qh (n:=k+1) (by omega)];with_reducible repeat' (first | exact pN | apply pP | apply pX<;>intro _)
     · trivial
     · trivial
     · trivial
     · rename_i h3 h4 h5
       refine pZ pT ?_;rintro ⟨t,u⟩ -
       dsimp only;have hst':=hst h3;rw [show k.toNat+1=(k+1).toNat by omega] at hst';with_reducible repeat' (first | exact pN | apply pP | apply pX<;>intro _)
       · exact ⟨_,rfl,hst'⟩
       · exact ⟨_,_,_,by omega,by omega,hst',rfl⟩
   · trivial
 · intro z hz
   refine pS hz ?_ ?_
   · intro u _
     exact pP fun _ => .inl (by decide)
   · intro z2 hz2
     refine pS hz2 ?_ ?_
     · intro u _
       refine pZ (P:=fun y=>y.1<0) ?_ ?_
       · refine pL ?I ?h _ ?hv
         case I=>exact (fun _=>True)
         case hv=>exact trivial
         intro v _;unfold q8e;exact pP (by decide:(-1:Int)<0)
       · rintro ⟨a,b,u⟩ h
         exact pP fun _ => .inl h
     · rintro ⟨a,b,u⟩ ⟨k,hk,hn⟩
       dsimp only at hk;subst hk;refine pP ?_;rintro ⟨x,hx,hxk⟩;rw [←List.take_append_drop k s,xf] at hx;rcases List.mem_append.1 hx with hx | hx
       · rw [hn x hx] at hxk;cases hxk
       · exact .inr ⟨x,hx,hxk⟩
theorem d0d (i:Int) (l v:List Int):Pf (j1s (i,l,v,())) (fun y=>∀z∈l,z∈y.1):=by
 unfold j1s;dsimp only;cases h:((decide (0≤i)&&decide (i≤(l.length:Int)))&&(decide (v.length=1)&&decide (l.length≤1000000000000))) with
 | false=>exact pN
 | true =>
  refine pP fun z hz => ?_;rw [←List.take_append_drop i.toNat l] at hz;simp only [List.mem_append] at hz ⊢;rcases hz with hz | hz
  · exact .inl (.inl hz)
  · exact .inr hz
theorem v4i (s:List UInt8) (out:List Int) (hs:s.length≤1000000000000) (h:(∃x∈bi s,kk x=true)∨∃x∈out,kk x=true):Pf (q1d (s,out,())) (fun y=>y.1=true→∃x∈y.2.1,kk x=true):=by
 unfold q1d j5b;dsimp only;refine pZ (P:=Sum.elim (fun y=>∃x∈y.1,kk x=true) (fun y=>y.1=false)) ?_ ?_
 · refine pL ?I ?h _ ?hv
   case I=>exact (fun v=>∃(s:List UInt8) (a b c:Int) (d:Bool) (out:List Int),s.length≤1000000000000∧((∃x∈bi s,kk x=true)∨∃x∈out,kk x=true)∧v=(s,a,b,c,d,out,()))
   case hv=>exact ⟨_,_,_,_,_,_,hs,h,rfl⟩
   rintro v ⟨s,a,b,c,d,out,hs,h,rfl⟩;unfold j5c;dsimp only;with_reducible repeat' (first | exact pN | apply pP | apply pX<;>intro _)
   · refine pZ (pA (f2o s c hs).pf (d0c s c hs)) ?_
     rintro ⟨n,rest,u⟩ ⟨hd,hr⟩;dsimp only at hd hr ⊢;with_reducible repeat' (first | exact pN | apply pP | apply pX<;>intro _)
     · exact rfl
     · exact rfl
     · rename_i hneg _
       refine pZ pT ?_;rintro ⟨z,u⟩ -
       dsimp only;with_reducible repeat' (first | exact pN | apply pP | apply pX<;>intro _)
       · exact rfl
       · refine pZ pT ?_
         rintro ⟨ok,u⟩ -
         dsimp only;with_reducible repeat' (first | exact pN | apply pP | apply pX<;>intro _)
         · exact rfl
         · refine pZ (d0d _ _ _) ?_
           rintro ⟨o2,u⟩ ho;dsimp only at ho ⊢;refine pP ⟨_,_,_,_,_,_,by omega,?_,rfl⟩;rcases h with h | ⟨x,hx,hxk⟩
           · exact .inl ((hr h).resolve_left hneg)
           · exact .inr ⟨x,ho x hx,hxk⟩
   · rename_i he
     rcases h with ⟨x,hx,hxk⟩ | h
     · have:s=[]:=by simpa using he
       subst this;cases hx
     · exact h
 · intro z hz
   refine pS hz ?_ ?_
   · rintro ⟨a,u⟩ ha
     exact pP fun _=>ha
   · rintro ⟨a,u⟩ ha
     dsimp only at ha;exact pP fun h=>by rw [ha] at h;cases h
theorem d0b (s:List UInt8) (c:Int):Pf (j3l (s,c,())) (fun y=>0≤y.1→y.1<s.length∧((s.getD y.1.toNat 0).toNat:Int)=c):=by
 unfold j3l v7m;dsimp only;refine pZ (P:=fun y=>0≤y.1→y.1<s.length∧((s.getD y.1.toNat 0).toNat:Int)=c) ?_ (fun _ h=>pP h);unfold x6o v8c;dsimp only;refine pZ (P:=Sum.elim (fun _=>True) (fun y=>0≤y.1→y.1<s.length∧((s.getD y.1.toNat 0).toNat:Int)=c)) ?_ ?_
 · refine pL ?I ?h _ ?hv
   case I=>exact (fun v=>∃k:Int,v=(s,c,k,()))
   case hv=>exact ⟨_,rfl⟩
   rintro v ⟨k,rfl⟩;unfold j5m;dsimp only;with_reducible repeat' (first | exact pN | apply pP | apply pX<;>intro _)
   · rename_i h1 h2 h3
     exact fun _=>⟨by omega,h3⟩
   · exact ⟨_,rfl⟩
   · trivial
 · intro z hz
   refine pS hz ?_ ?_
   · intro u _
     exact pP fun h=>by cases h
   · rintro ⟨a,u⟩ h
     exact pP h
theorem b9r (s:List UInt8) (hs:s.length≤1000000000000) (h:∃x∈bi s,kk x=true):Pf (y0v (s,())) (fun y=>y.2.1=true→∃x∈y.1,kk x=true):=by
 unfold y0v v6w;dsimp only;refine pZ pT ?_;rintro ⟨e,u⟩ -
 dsimp only;with_reducible repeat' (first | exact pN | apply pP | apply pX<;>intro _)
 · exact fun h=>by cases h
 · refine pZ (d0b s 45) ?_
   rintro ⟨k,u⟩ hk;dsimp only at hk ⊢;refine pX (fun hpos => ?_) (fun _ => ?_)
   · have hk':=hk (by omega)
     have hlt:k.toNat<s.length:=by omega
     rw [qh (n:=k+1) (by omega)];with_reducible repeat' (first | exact pN | apply pP | apply pX<;>intro _)
     have hsplit:(∃x∈bi (s.drop (k+1).toNat),kk x=true)∨∃x∈List.map (fun b:UInt8=>(b.toNat:Int)) (List.take k.toNat s),kk x=true:=by
      obtain ⟨x,hx,hxk⟩:=h;rw [←List.take_append_drop (k+1).toNat s,xf,show (k+1).toNat=k.toNat+1 by omega,ql hlt,xf] at hx;rcases List.mem_append.1 hx with hx | hx
      · rcases List.mem_append.1 hx with hx | hx
        · exact .inr ⟨x,hx,hxk⟩
        · have hx':x=((s[k.toNat].toNat:Nat):Int):=by simpa [bi] using hx
          have h2:=hk'.2;rw [getD_lt hlt] at h2;rw [hx',h2] at hxk;cases hxk
      · exact .inl ⟨x,by rw [show (k+1).toNat=k.toNat+1 by omega];exact hx,hxk⟩
     refine pZ (v4i _ _ (by simp only [List.length_drop];omega) hsplit) ?_;rintro ⟨a,b,u⟩ h;exact pP h
   · refine pZ (v4i _ _ hs (.inl h)) ?_
     rintro ⟨a,b,u⟩ h;exact pP h
theorem b9b (f x:List UInt8):Pf (y0p (f,x,())) (fun y=>y.2.1=true→f=x++y.1):=by
 unfold y0p v5y;dsimp only;refine pZ (P:=fun y=>y.2.1=true→f=x++y.1) ?_ (fun _ h=>pP h);unfold x1g v6i;dsimp only;refine pZ (P:=fun y=>y.1=true→f.take x.length=x) ?_ ?_
 · unfold z6j v5x
   dsimp only;with_reducible repeat' (first | exact pN | apply pP | apply pX<;>intro _)
   · intro h
     have h':(List.take x.length f==x)=true:=h;exact eq_of_beq h'
   · exact fun h=>by cases h
 · rintro ⟨b,u⟩ hb
   dsimp only at hb ⊢;with_reducible repeat' (first | exact pN | apply pP | apply pX<;>intro _)
   · exact fun h=>by cases h
   · rename_i h1 h2
     intro _;have:=hb h1;conv=>lhs;rw [←List.take_append_drop x.length f,this]
     rfl
theorem w6d (s:List UInt8) (hK:KT T A B) (hs:s.length≤100000000000) (hk:s=[]∨∃x∈bi s,kk x=true):Pf (z2g (T,A,B,s,())) (fun y=>y.1≠0):=by
 rcases hk with rfl | hk
 · unfold z2g x8c
   dsimp only;refine pZ pT ?_;rintro ⟨l,at_,u⟩ -
   dsimp only;refine pZ (P:=fun y=>y.1≠0) ?_ (fun _ h=>pP h);unfold z6t x8d;dsimp only;refine pZ pT ?_;rintro ⟨b,at',u⟩ -
   dsimp only;with_reducible repeat' (first | exact pN | apply pP | apply pX<;>intro _)
   · exact (by decide:(7:Int)≠0)
   · refine pZ (P:=fun y=>y.1=true) ?_ ?_
     · unfold z6u x8e
       dsimp only;have e:C21 ([],())=some (-1,()):=by kernel_rfl
       rw [e];exact pP rfl
     · rintro ⟨b,y⟩ hb
       dsimp only at hb;subst hb;exact pP (by decide:(4:Int)≠0)
 · exact b9p hK s hs hk
theorem b9k (h:TK T A B) (hK:KT T A B) (s:List UInt8) (hs:s.length≤6000000) (hk:s=[]∨∃x∈bi s,kk x=true):Pf (z1y (T,A,B,s,())) (fun y=>y.2.2.1≠0):=by
 unfold z1y v6m;dsimp only;refine pZ (pA (k1g h s (by omega)).pf (f7x h hK s (by omega))) ?_;rintro ⟨f,ok,u⟩ ⟨hf,hf'⟩;dsimp only at hf hf' ⊢;refine pZ (pA (f1w f _).pf (b9b f _)) ?_;rintro ⟨rest,is,u⟩ ⟨hr,hr'⟩;dsimp only at hr hr' ⊢;with_reducible repeat' (first | exact pN | apply pP | apply pX<;>intro _)
 · exact (by decide:(7:Int)≠0)
 · rename_i hok
   have hfk:f=[]∨∃x∈bi f,kk x=true:=by
    rcases hk with rfl | hk
    · exact .inl (List.eq_nil_of_length_eq_zero (by simpa using hf))
    · exact (hf' hok).imp id fun hR=>hR.mem hk
   refine pZ (d21 f (by omega)).pf ?_;rintro ⟨e,u⟩ he;dsimp only at he ⊢;with_reducible repeat' (first | exact pN | apply pP | apply pX<;>intro _)
   · refine pZ pT ?_
     rintro ⟨l,at_,u⟩ -
     refine pZ pT ?_;rintro ⟨code,b,u⟩ -
     dsimp only;with_reducible repeat' (first | exact pN | apply pP | apply pX<;>intro _)
     refine pZ (w6d f hK (by omega) hfk) ?_;rintro ⟨w,u⟩ hw;exact pP hw
   · refine pZ (b9q f (by omega) (he.2 (by omega)) hfk) ?_
     rintro ⟨w,u⟩ hw;exact pP hw
   · rename_i h1 his
     have hfr:=hr' his;have hk2:∃x∈bi rest,kk x=true:=by
      rcases hfk with hf0 | ⟨x,hx,hxk⟩
      · rw [hf0] at hfr;cases hfr
      · rw [hfr,xf] at hx
        rcases List.mem_append.1 hx with hx | hx
        · have:∀x∈bi [120,110,45,45],kk x=false:=by decide
          rw [this x hx] at hxk;cases hxk
        · exact ⟨x,hx,hxk⟩
     refine pZ (pA (f2g rest (by omega)).pf (b9r rest (by omega) hk2)) ?_;rintro ⟨l,ok2,u⟩ ⟨hl,hl'⟩;dsimp only at hl hl' ⊢;with_reducible repeat' (first | exact pN | apply pP | apply pX<;>intro _)
     · exact (by decide:(12:Int)≠0)
     · exact (by decide:(5:Int)≠0)
     · rename_i hok2 _
       have hlk:=hl' hok2;refine pZ (pA (x4w l (by omega)).pf (g3z l (by omega))) ?_;rintro ⟨us,b,u⟩ ⟨hu,hu1,hu2⟩;dsimp only at hu hu1 hu2 ⊢;have huk:us=[]∨∃x∈bi us,kk x=true:=by
        cases b with
        | true=>exact .inr ((hu1 rfl).mem hlk)
        | false=>exact .inl (hu2 rfl)
       refine pZ (w6d us hK (by omega) huk) ?_;rintro ⟨w,u⟩ hw;dsimp only at hw ⊢;with_reducible repeat' (first | exact pN | apply pP | apply pX<;>intro _)
       · exact hw
       · rename_i hz
         exact (hw hz).elim
theorem b9d (h:TK T A B) (hK:KT T A B) (s:List UInt8) (hs:s.length≤6000000) (hk:s=[]∨∃x∈bi s,kk x=true):Pf (z1u (T,A,B,s,())) (fun y=>y.2.1≠0):=by
 unfold z1u v6e;dsimp only;refine pZ (b9k h hK s hs hk) ?_;rintro ⟨a,b,e,u⟩ he;dsimp only at he ⊢;with_reducible repeat' (first | exact pN | apply pP | apply pX<;>intro _)
 · exact he
 · rename_i hz
   exact (he hz).elim
end
theorem j1i (new:List UInt8) (d:Bool):∀(k:Nat) (s:List UInt8) (a b:Nat),a≤b→run d a (bi s)≤run d b (bi (Lib.replaceK [227,128,130] new k s))
 | 0,s,a,b,h=>j1f d _ h
 | k+1,s,a,b,h=>by
  rcases Lib.index_spec s [227,128,130] with ⟨hi,-⟩ | ⟨i,hi,h1,h2,-⟩
  · rw [Lib.replaceK,if_pos (by rw [hi];rfl)]
    exact j1f d _ h
  · rw [Lib.replaceK_hit _ new k s i hi]
    have hfit:i+[(227:UInt8),128,130].length≤s.length:=z0s hi;rw [Lib.occAt_iff_take _ _ _ hfit] at h2;have h3:(s.drop i).take 3=[227,128,130]:=eq_of_beq h2;have e:s=s.take i++([227,128,130]++s.drop (i+3)):=by
     conv=>lhs;rw [←List.take_append_drop i s,←List.take_append_drop 3 (s.drop i),h3,List.drop_drop]
    rw [show i+[(227:UInt8),128,130].length=i+3 from rfl];generalize hD:s.drop (i+3)=D at e ⊢;generalize hP:s.take i=P at e ⊢;rw [e,xf,xf,xf,xf,xh,xh,xh,xh];refine j1i new d k D _ _ ?_;rw [j1g d (bi [227,128,130]) _ (by simp [bi]) (by decide)];split
    · rename_i h2
      exact q5g d _ (Nat.le_trans h2 (j1f d _ h))
    · exact Nat.zero_le _
theorem y3p (s new:List UInt8):Rr (bi s) (bi (Lib.replaceAll s [227,128,130] new)):=by
 intro d;unfold Lib.replaceAll Lib.replace;split
 · exact Nat.le_refl _
 · exact j1i new d _ s 1 1 (Nat.le_refl _)
theorem j0t (c:UInt8):∀l:List UInt8,0≤Lib.indexByte l c→l[(Lib.indexByte l c).toNat]? = some c
 | [],h=>by simp [Lib.indexByte] at h
 | b::l,h=>by
  have ih:=j0t c l;have hge:=Lib.indexByte_ge l c;simp only [Lib.indexByte] at h ⊢;split
  · rename_i hb
    have:b=c:=by simpa using hb
    simp [this]
  · rename_i hb
    rw [if_neg hb] at h;split
    · rename_i hm
      rw [if_pos hm] at h;omega
    · rename_i hm
      have h0:0≤Lib.indexByte l c:=by
       have:Lib.indexByte l c ≠ -1:=by simpa using hm
       omega
      rw [show (Lib.indexByte l c+1).toNat=(Lib.indexByte l c).toNat+1 by omega,List.getElem?_cons_succ];exact ih h0
theorem b9f (s:List UInt8) (c:Int):Pf (j3h (s,c,())) (fun y=>0≤y.1→s[y.1.toNat]? = some c.toNat.toUInt8):=by
 unfold j3h v6g;dsimp only;refine pZ (P:=fun y=>0≤y.1→s[y.1.toNat]? = some c.toNat.toUInt8) (pP fun h=>j0t _ s h) fun _ h=>pP h
theorem f7z (s:List UInt8):Pf (z2d (s,[46],())) (fun y=>0≤y.1→s[y.1.toNat]? = some 46):=by
 unfold z2d x8b;dsimp only;have e0:((([46]:List UInt8).length:Int)==0)=false:=rfl;rw [e0];simp only [cond_false];refine pZ (P:=fun y=>0≤y.1→s[y.1.toNat]? = some 46) ?_ fun _ h=>pP h;unfold q3l j4y;dsimp only;with_reducible repeat' (first | exact pN | apply pP | apply pX<;>intro _)
 · rename_i h
   have:[46]=s:=by simpa using h
   subst this;exact fun _=>rfl
 · exact pZ (b9f s 46) fun _ h=>pP h
 all_goals (exfalso;simp at *)
theorem b9a (s:List UInt8) (hs:s.length≤1000000000000):Pf (z6i (s,[46],())) (fun y=>(y.2.2.1=true→s=y.1++([46]++y.2.1))∧(y.2.2.1=false→y.1=s)):=by
 unfold z6i v5w;dsimp only;refine pZ (P:=fun y=>(y.2.2.1=true→s=y.1++([46]++y.2.1))∧(y.2.2.1=false→y.1=s)) ?_ (fun _ h=>pP h);unfold x6b v6h;dsimp only;refine pZ (f7z s) ?_;rintro ⟨k,u⟩ hk;dsimp only at hk ⊢;rw [show (([46]:List UInt8).length:Int)=1 from rfl];with_reducible repeat' (first | exact pN | apply pP | apply pX<;>intro _)
 · rename_i h1 h2 h3
   refine ⟨fun _ => ?_,fun h=>by cases h⟩;have h4:=hk h1;rw [qh (n:=k+1) (by omega)];have hlt:k.toNat<s.length:=by
    rcases Nat.lt_or_ge k.toNat s.length with h | h
    · exact h
    · rw [List.getElem?_eq_none h] at h4;cases h4
   rw [List.getElem?_eq_getElem hlt,Option.some.injEq] at h4;dsimp only;rw [show (k+1).toNat=k.toNat+1 by omega,←h4,List.singleton_append,List.getElem_cons_drop,List.take_append_drop]
 · exact ⟨fun h=>(by cases h),fun _=>rfl⟩
theorem z1d:∀(n:Nat) (s:List UInt8) (ps:List (List UInt8)),s.length≤1000000000000→vt n s=some ps→1≤run true 1 (bi s)→∃p∈ps,p=[]∨∃x∈bi p,kk x=true
 | 0,_,_,_,h,_=>by cases h
 | n+1,s,ps,hs,h,hr=>by
  simp only [vt] at h;cases hc:z6i (s,[46],()) with
  | none=>rw [hc] at h;cases h
  | some y =>
   obtain ⟨a,b,ok,u⟩:=y;obtain ⟨h1,h2⟩:=b9a s hs _ hc;dsimp only at h1 h2;rw [hc] at h;simp only [Option.bind_some] at h;cases ok with
   | true =>
    simp only [cond_true,Option.map_eq_some_iff] at h;obtain ⟨qs,hq,rfl⟩:=h;by_cases ha:a=[]
    · exact ⟨a,List.mem_cons_self,.inl ha⟩
    by_cases hk:∃x∈bi a,kk x=true
    · exact ⟨a,List.mem_cons_self,.inr hk⟩
    have hs':=h1 rfl;have hn:∀x∈bi a,kk x=false:=fun x hx=>by
     cases hkx:kk x with
     | false=>rfl
     | true=>exact (hk ⟨x,hx,hkx⟩).elim
    rw [hs',xf,xf,xh,xh,z1l true (bi a) 1 (by simpa [bi] using ha) (by omega) hn] at hr;have hb:b.length≤1000000000000:=by
     have:=congrArg List.length hs';simp only [List.length_append] at this;omega
    obtain ⟨p,hp,hp'⟩:=z1d n b qs hb hq hr;exact ⟨p,List.mem_cons_of_mem _ hp,hp'⟩
   | false =>
    simp only [cond_false,Option.some.injEq] at h;subst h;have ha:=h2 rfl;subst ha;refine ⟨a,List.mem_singleton_self a,?_⟩;by_cases ha:a=[]
    · exact .inl ha
    refine .inr ?_;by_cases hk:∃x∈bi a,kk x=true
    · exact hk
    · have hn:∀x∈bi a,kk x=false:=fun x hx=>by
       cases hkx:kk x with
       | false=>rfl
       | true=>exact (hk ⟨x,hx,hkx⟩).elim
      rw [z1l true (bi a) 1 (by simpa [bi] using ha) (by omega) hn] at hr;omega
theorem z7y (A U:List UInt8→Option (List UInt8×Int)):∀(ls ps qs:List (List UInt8)) r,q1z A U ls ps qs=some r→r.1=0→∀x∈ls,∃a,A x=some (a,0)
 | [],_,_,_,_,_,x,hx=>by cases hx
 | y::ls,ps,qs,r,h,h0,x,hx=>by
  simp only [q1z] at h;cases ha:A y with
  | none=>rw [ha] at h;cases h
  | some a =>
   rw [ha] at h;simp only [Option.bind_some] at h;by_cases hz:a.2=0
   · rw [inF hz] at h
     simp only [cond_false] at h;rcases List.mem_cons.1 hx with rfl | hx
     · exact ⟨a.1,by rw [ha,←hz]⟩
     · cases hu:U y with
       | none=>rw [hu] at h;cases h
       | some u =>
        rw [hu] at h;exact z7y A U ls _ _ r h h0 x hx
   · rw [inT hz] at h
     simp only [cond_true,Option.some.injEq] at h;subst h;exact (hz h0).elim
section
variable {T:List R6} {A:List R4} {B:List R3}
theorem y3b (s f:List UInt8) (ok:Bool) (hf:f.length≤5000000) (hR:ok=true→f=[]∨Rr (bi s) (bi f)) (hr:1≤run true 1 (bi s)) (ls:List (List UInt8)) (h:q0e f ok=some (ls,0)):∃p∈ls,p=[]∨∃x∈bi p,kk x=true:=by
 unfold q0e at h;cases ok with
 | false=>simp at h
 | true =>
  simp only [Bool.not_true,cond_false] at h;cases hfe:f.isEmpty with
  | true=>rw [hfe] at h;simp at h
  | false =>
   rw [hfe] at h;simp only [cond_false] at h;rw [decide_eq_true (by omega)] at h;simp only [cond_true] at h;rcases hR rfl with rfl | hR
   · cases hfe
   cases hp:vt (f.length+2) (Lib.replaceAll f [227,128,130] [46]) with
   | none=>rw [hp] at h;cases h
   | some ps =>
    rw [hp] at h;simp only [Option.bind_some] at h;have hl:=q5s f [227,128,130] [46] (by decide);have hb:=z1d _ _ ps (by omega) hp (Nat.le_trans hr (Nat.le_trans (hR true) (y3p f [46] true)));cases h1:decide (ps.length≤1000000000000) with
    | false=>rw [h1] at h;cases h
    | true =>
     rw [h1] at h;simp only [cond_true] at h;cases h2:decide (32<ps.length) with
     | true=>rw [h2] at h;simp at h
     | false =>
      rw [h2] at h;simp only [cond_false,Option.some.injEq,Prod.mk.injEq,and_true] at h;subst h;exact hb
theorem b8z (h:TK T A B) (hK:KT T A B) (s:List UInt8) (hs:s.length≤3000):Pf (z1r (T,A,B,s,())) (fun y=>y.2.2.1=0→run true 1 (bi s)=0):=by
 by_cases hr:1≤run true 1 (bi s)
 · refine pM (P:=fun y=>y.2.2.1≠0) ?_ (fun y h0 h1=>(h0 h1).elim)
   unfold z1r;dsimp only;refine pZ (pA (k1g h s (by omega)).pf (f7x h hK s (by omega))) ?_;rintro ⟨f,ok,u⟩ ⟨hf,hf'⟩;dsimp only at hf hf' ⊢;obtain ⟨ls,c,e,hll,hls⟩:=j0w f ok (by omega);rw [e];simp only [Option.bind_some];with_reducible repeat' (first | exact pN | apply pP | apply pX<;>intro _)
   · assumption
   · rename_i hc h32
     have hc':c=0:=hc;subst hc';obtain ⟨p,hp,hpb⟩:=y3b s f ok (by omega) hf' hr ls e;refine pZ (P:=fun r=>r.1≠0) ?_ ?_
     · intro r er h0
       obtain ⟨a,ha⟩:=z7y _ _ ls [] [] r er h0 p hp;simp only [Option.map_eq_some_iff] at ha;obtain ⟨y,ey,hy⟩:=ha;have:=b9d h hK p (by have:=hls p hp;omega) hpb y ey;simp only [Prod.mk.injEq] at hy;exact this hy.2
     · intro r hr0 y ey
       simp only [Option.map_eq_some_iff] at ey;obtain ⟨o,eo,rfl⟩:=ey;unfold z9y at eo;rw [inT hr0] at eo;simp only [cond_true,Option.some.injEq] at eo;subst eo;exact hr0
 · exact pM pT fun _ _ _=>by omega
end
def ktB:Bool:=match C18 () with
 | some (T,A,B,_)=>(List.range 128).all fun n => !kk (n:Int)||((match xc (T,A,B,(n:Int),()) with | some (c,_)=>c==0 | none=>false)&&(match j1q (T,A,B,(n:Int),()) with | some (c,_)=>c==(n:Int) | none=>false)&&(match q2e (T,A,B,(n:Int),()) with | some (c,_) => !c | none=>false))
 | none=>false
theorem f2z:ktB=true:=by kernel_rfl
theorem kt {T A B} (h18:C18 ()=some (T,A,B,())):KT T A B:=by
 have h:=f2z;unfold ktB at h;rw [h18] at h;simp only [List.all_eq_true] at h;have key:∀x,kk x=true→(match xc (T,A,B,x,()) with | some (c,_)=>c==0 | none=>false)=true∧(match j1q (T,A,B,x,()) with | some (c,_)=>c==x | none=>false)=true∧(match q2e (T,A,B,x,()) with | some (c,_) => !c | none=>false)=true:=by
  intro x hx;have h1:=(q2z x).1 hx;have h2:=h x.toNat (List.mem_range.2 (by omega))
  rw [show ((x.toNat:Nat):Int)=x by omega,hx] at h2;simp only [Bool.not_true,Bool.false_or,Bool.and_eq_true] at h2;exact ⟨h2.1.1,h2.1.2,h2.2⟩
 refine ⟨fun x hx => ?_,fun x hx => ?_,fun x hx => ?_⟩
 · have:=(key x hx).1
   cases hc:xc (T,A,B,x,()) with
   | none=>rw [hc] at this;cases this
   | some y =>
    obtain ⟨c,u⟩:=y;rw [hc] at this;have:c=0:=by simpa using this
    subst this;rfl
 · have:=(key x hx).2.1
   cases hc:j1q (T,A,B,x,()) with
   | none=>rw [hc] at this;cases this
   | some y =>
    obtain ⟨c,u⟩:=y;rw [hc] at this;have:c=x:=by simpa using this
    subst this;rfl
 · have:=(key x hx).2.2
   cases hc:q2e (T,A,B,x,()) with
   | none=>rw [hc] at this;cases this
   | some y =>
    obtain ⟨c,u⟩:=y;rw [hc] at this;have:c=false:=by simpa using this
    subst this;rfl
theorem ku (p:UInt8→Bool) (h:(List.range 256).all (fun n=>p (UInt8.ofNat n))=true) (c:UInt8):p c=true:=by
 have h1:=List.all_eq_true.1 h c.toNat (List.mem_range.2 (by have:=c.toNat_lt;omega))
 simpa using h1
def gB (o:Option (Bool×Unit)):Bool:=match o with | some (b,_)=>b | none=>false
def okB (o:Option (Bool×Unit)):Bool:=match o with | some (_,_)=>true | none=>false
theorem j8o {o:Option (Bool×Unit)} (h:okB o=true):o=some (gB o,()):=by
 cases o with
 | none=>cases h
 | some x=>rfl
def jo (c:UInt8):Bool:=gB (C90 ((c.toNat:Int),()))
def jp (c:UInt8):Bool:=gB (xj ((c.toNat:Int),()))
def zb (c:UInt8):Bool:=gB (yf ((c.toNat:Int),()))
def x0t (c:UInt8):Int:=match q2d ([60,62,58,59,64,44,46],(c.toNat:Int),()) with | some (i,_)=>i | none=>0
def q3f (c:UInt8):Bool:=decide (x0t c≥0)
theorem c17 (c:UInt8):C90 ((c.toNat:Int),())=some (jo c,()):=j8o (ku (fun c=>okB (C90 ((c.toNat:Int),()))) (by kernel_rfl) c)
theorem c32 (c:UInt8):xj ((c.toNat:Int),())=some (jp c,()):=j8o (ku (fun c=>okB (xj ((c.toNat:Int),()))) (by kernel_rfl) c)
theorem c31 (c:UInt8):yf ((c.toNat:Int),())=some (zb c,()):=j8o (ku (fun c=>okB (yf ((c.toNat:Int),()))) (by kernel_rfl) c)
theorem x4q (c:UInt8):q2d ([60,62,58,59,64,44,46],(c.toNat:Int),())=some (x0t c,()):=rfl
theorem gd {α:Type} {pre r:List α} {c d:α} {p:Nat} (h:pre.length=p):(pre++c::r).getD p d=c:=by subst h;simp
theorem dr {α:Type} {pre r:List α} {p:Nat} (h:pre.length=p):List.drop p (pre++r)=r:=by subst h;simp
theorem Sk:(∀{p:Prop} [Decidable p],p→decide p=true)∧(∀{p:Prop} [Decidable p],¬p→decide p=false)∧(∀{α:Type} (a b:α),(bif true then a else b)=a)∧(∀{α:Type} (a b:α),(bif false then a else b)=b) ∧
 (∀b:Bool,(b&&b)=b)∧(∀b:Bool,(true&&b)=b)∧(∀b:Bool,(b&&true)=b)∧(∀b:Bool,(false&&b)=false)∧(∀b:Bool,(b&&false)=false)∧(!true)=false∧(!false)=true ∧
 (∀{α:Type} {a b:List α},(a++b).length=a.length+b.length)∧(∀{α:Type} {a:α} {l:List α},(a::l).length=l.length+1)∧(∀{α:Type},([]:List α).length=0)∧(∀n:Nat,((n:Int)).toNat=n) ∧
 (∀{a b:Int},a=b→(a==b)=true)∧(∀{a b:Int},a≠b→(a==b)=false)∧(∀{a b:Int},a≠b→(a != b)=true)∧(∀{a b:Int},a=b→(a != b)=false) ∧
 (∀n:Nat,n≤9223372036854775806→IntKind.i64.wrap ((n:Int)+1)=((n+1:Nat):Int))∧(∀{α:Type} {pre r:List α} {c d:α} {p:Nat},pre.length=p→(pre++c::r).getD p d=c)∧(∀{α:Type} {pre r:List α} {p:Nat},pre.length=p→List.drop p (pre++r)=r) ∧
 (∀{α β:Type} (a:α) (f:α→Option β),(some a).bind f=f a)∧(∀{α β γ:Type} (f:α→γ) (g:β→γ) (x:α),Sum.elim f g (Sum.inl x)=f x)∧(∀{α β γ:Type} (f:α→γ) (g:β→γ) (x:β),Sum.elim f g (Sum.inr x)=g x)∧(∀b:UInt8,UInt8.ofNat ((b.toNat:Int)).toNat=b)∧∀b:UInt8,UInt8.ofNat b.toNat=b :=
 ⟨@decide_eq_true,@decide_eq_false,fun _ _=>rfl,fun _ _=>rfl,Bool.and_self,Bool.true_and,Bool.and_true,Bool.false_and,Bool.and_false,rfl,rfl,@fun _ _ _=>List.length_append,@fun _ _ _=>List.length_cons,@fun _=>List.length_nil,Int.toNat_natCast,@ibT,@ibF,@inT,@inF,wrN,@gd,@dr,@Option.bind_some,fun _ _ _=>rfl,fun _ _ _=>rfl,byte_back,x0g⟩
theorem shift {α:Type} (pre:List α) (c:α) (r:List α):pre++c::r=(pre++[c])++r:=by simp
theorem c27 (k e:Int) (s:List UInt8) (at_ bad err:Int):zv (k,e,s,at_,bad,err,())=some (s,at_,k,e,()):=rfl
def al:List UInt8→Nat
 | []=>0
 | c::r=>bif jo c then al r+1 else 0
theorem x9i:∀r,al r≤r.length
 | []=>Nat.le_refl _
 | c::r=>by have:=x9i r;simp only [al];cases jo c<;>simp;omega
theorem l21 (f bad err:Int):∀(r pre:List UInt8) (p n:Nat),pre.length=p→r.length<n→p+r.length≤140737488355328 →
 qc (q3r C90 q1c) n (f,pre++r,(p:Int),bad,err,())=some (f,pre++r,((p+al r:Nat):Int),bad,err,())
 | [],pre,p,n+1,hp,hn,hb=>by
  refine qk ?_;simp (disch:=(first | omega | (simp only [List.length_append,List.length_cons,List.length_nil];omega))) only [q3r,q1c,q8d,Sk,al,List.append_nil,Nat.add_zero]
 | c::r,pre,p,n+1,hp,hn,hb=>by
  simp only [List.length_cons] at hn hb;cases h:jo c with
  | true =>
   rw [jl (v':=(f,pre++c::r,((p+1:Nat):Int),bad,err,())) (by simp (disch:=(first | omega | (simp only [List.length_append,List.length_cons,List.length_nil];omega))) only [q3r,q1c,q8d,Sk,c17,h])];rw [shift,l21 f bad err r (pre++[c]) (p+1) n (by simp [hp]) (by omega) (by omega)];simp only [al,h,cond_true,Nat.add_assoc,Nat.add_comm 1]
  | false =>
   refine qk ?_;simp (disch:=(first | omega | (simp only [List.length_append,List.length_cons,List.length_nil];omega))) only [q3r,q1c,q8d,Sk,c17,h,al,Nat.add_zero]
theorem c21 (pre r:List UInt8) (p:Nat) (bad err:Int) (hp:pre.length=p) (hb:p+r.length≤140737488355328) :
 z6k (pre++r,(p:Int),bad,err,())=some (r.take (al r),pre++r,((p+al r:Nat):Int),bad,err,()):=by
 have:=x9i r;show v5z C90 q6w (pre++r,(p:Int),bad,err,())=_;have hl:q6w ((p:Int),pre++r,(p:Int),bad,err,())=_:=l21 p bad err r pre p je hp (by unfold je;omega) hb;simp (disch:=(first | omega | (simp only [List.length_append,List.length_cons,List.length_nil];omega))) only [v5z,hl,Sk];rw [show List.drop p (List.take (p+al r) (pre++r))=r.take (al r) by rw [←hp,List.take_append,List.take_of_length_le (by omega),List.drop_append];simp]
def wl:List UInt8→Nat
 | []=>0
 | c::r=>bif jp c then wl r+1 else
  match r with
  | b::d::r'=>bif (c==13&&b==10)&&jp d then wl r'+3 else 0
  | _=>0
theorem y0n:∀r,wl r≤r.length
 | []=>Nat.le_refl _
 | [c]=>by simp only [wl];cases jp c<;>simp
 | [c,b]=>by have:=y0n [b];simp only [wl] at *;cases jp c<;>cases jp b<;>simp
 | c::b::d::r'=>by
  have h1:=y0n (b::d::r');have h2:=y0n r';rw [wl];cases jp c
  · simp only [cond_false];cases (c==13&&b==10)&&jp d<;>simp;omega
  · simp only [cond_true,List.length_cons] at *;omega
theorem w9v (c b:UInt8):([c,b]==[13,10])=(c==13&&b==10):=by
 rw [Bool.eq_iff_iff];simp
theorem x9s (f p:Nat) (s:List UInt8) (bad err:Int) (b:Bool) (hf:f≤p) (hp:p≤s.length) (hb:p≤140737488355328) :
 xu ((f:Int),b,s,(p:Int),bad,err,())=some (bif b then .inl ((f:Int),s,((p+3:Nat):Int),bad,err,()) else .inr (List.drop f (List.take p s),s,(p:Int),bad,err,())):=by
 cases b with
 | true=>simp only [xu,j4r,cond_true];rw [wr (by omega) (by omega)];rfl
 | false=>simp (disch:=(first | omega | (simp only [List.length_append,List.length_cons,List.length_nil];omega))) only [xu,j4r,Sk]
theorem f8j {c:UInt8} {r:List UInt8} (h:jp c=true):wl (c::r)=wl r+1:=by
 match r with
 | []=>simp [wl,h]
 | [b]=>simp [wl,h]
 | b::d::r=>rw [wl,h];rfl
theorem x0y {c:UInt8} {r:List UInt8} (h:jp c=false) (h2:r.length<2):wl (c::r)=0:=by
 match r,h2 with
 | [],_=>simp [wl,h]
 | [b],_=>simp [wl,h]
 | b::d::r,h2=>simp at h2;omega
theorem l26 (f:Nat) (bad err:Int):∀(m:Nat) (r pre:List UInt8) (p n:Nat),r.length≤m→pre.length=p→r.length<n→f≤p→p+r.length≤140737488355328 →
 qc (yg xj xu) n ((f:Int),pre++r,(p:Int),bad,err,())=some (.inl ((f:Int),pre++r,((p+wl r:Nat):Int),bad,err,())) ∨
 qc (yg xj xu) n ((f:Int),pre++r,(p:Int),bad,err,())=some (.inr (List.drop f (List.take (p+wl r) (pre++r)),pre++r,((p+wl r:Nat):Int),bad,err,()))
 | _,_,_,_,0,_,_,hn,_,_=>by omega
 | m,[],pre,p,n+1,hm,hp,hn,hf,hb=>by
  refine .inl (qk ?_);simp (disch:=(first | omega | (simp only [List.length_append,List.length_cons,List.length_nil];omega))) only [yg,Sk,wl,List.append_nil,Nat.add_zero]
 | 0,c::r,pre,p,n+1,hm,hp,hn,hf,hb=>by simp at hm
 | m+1,c::r,pre,p,n+1,hm,hp,hn,hf,hb=>by
  simp only [List.length_cons] at hn hb hm;cases h:jp c with
  | true =>
   rw [jl (v':=((f:Int),pre++c::r,((p+1:Nat):Int),bad,err,())) (by simp (disch:=(first | omega | (simp only [List.length_append,List.length_cons,List.length_nil];omega))) only [yg,Sk,c32,h,List.getD_cons_zero])];rw [shift];have:=l26 f bad err m r (pre++[c]) (p+1) n (by omega) (by simp [hp]) (by omega) (by omega) (by omega);rw [show p+wl (c::r)=p+1+wl r by rw [f8j h];omega];exact this
  | false =>
   have stop:∀(hw:wl (c::r)=0),yg xj xu ((f:Int),pre++c::r,(p:Int),bad,err,())=some (.inr (.inr (List.drop f (List.take p (pre++c::r)),pre++c::r,(p:Int),bad,err,()))) →
    qc (yg xj xu) (n+1) ((f:Int),pre++c::r,(p:Int),bad,err,())=some (.inr (List.drop f (List.take (p+wl (c::r)) (pre++c::r)),pre++c::r,((p+wl (c::r):Nat):Int),bad,err,())):=by
    intro hw h;rw [hw];exact qk h
   match r,hm,hn,hb with
   | [],hm,hn,hb =>
    refine .inr (stop (x0y h (by simp)) ?_);simp (disch:=(first | omega | (simp only [List.length_append,List.length_cons,List.length_nil];omega))) only [yg,Sk,c32,h,List.getD_cons_zero,x9s]
   | [b],hm,hn,hb =>
    refine .inr (stop (x0y h (by simp)) ?_);simp only [List.length_cons,List.length_nil] at hn hb hm;simp (disch:=(first | omega | (simp only [List.length_append,List.length_cons,List.length_nil];omega))) only [yg,Sk,c32,h,List.getD_cons_zero,x9s]
   | b::d::r',hm,hn,hb =>
    simp only [List.length_cons] at hn hb hm;cases hq:(c==13&&b==10) with
    | false =>
     refine .inr (stop (by rw [wl,h,hq];rfl) ?_);simp (disch:=(first | omega | (simp only [List.length_append,List.length_cons,List.length_nil];omega))) only [yg,Sk,c32,h,List.getD_cons_zero,x9s,List.take_succ_cons,List.take_zero,w9v,hq]
    | true =>
     cases hd:jp d with
     | false =>
      refine .inr (stop (by rw [wl,h,hq,hd];rfl) ?_);simp (disch:=(first | omega | (simp only [List.length_append,List.length_cons,List.length_nil];omega))) only [yg,Sk,c32,h,List.getD_cons_zero,List.getD_cons_succ,x9s,List.take_succ_cons,List.take_zero,w9v,hq,hd]
     | true =>
      rw [jl (v':=((f:Int),pre++c::b::d::r',((p+3:Nat):Int),bad,err,())) (by simp (disch:=(first | omega | (simp only [List.length_append,List.length_cons,List.length_nil];omega))) only [yg,Sk,c32,h,List.getD_cons_zero,List.getD_cons_succ,x9s,List.take_succ_cons,List.take_zero,w9v,hq,hd])];have:=l26 f bad err m r' (pre++[c,b,d]) (p+3) n (by omega) (by simp [hp]) (by omega) (by omega) (by omega);rw [show p+wl (c::b::d::r')=p+3+wl r' by rw [wl,h,hq,hd];simp only [cond_true,cond_false,Bool.and_self];omega];rw [show pre++c::b::d::r'=(pre++[c,b,d])++r' by simp];exact this
theorem j1l {pre r:List UInt8} {p k:Nat} (hp:pre.length=p):List.drop p (List.take (p+k) (pre++r))=r.take k:=by
 rw [←hp,List.take_append,List.take_of_length_le (by omega),List.drop_append];simp
theorem c26 (pre r:List UInt8) (p:Nat) (bad err:Int) (hp:pre.length=p) (hb:p+r.length≤140737488355328) :
 z6o (pre++r,(p:Int),bad,err,())=some (r.take (wl r),pre++r,((p+wl r:Nat):Int),bad,err,()):=by
 have:=y0n r;show x7u xj q3k (pre++r,(p:Int),bad,err,())=_;rcases l26 p bad err r.length r pre p je (Nat.le_refl _) hp (by unfold je;omega) (Nat.le_refl _) hb with hl | hl
 · have hl':q3k ((p:Int),pre++r,(p:Int),bad,err,())=_:=hl
   simp (disch:=(first | omega | (simp only [List.length_append,List.length_cons,List.length_nil];omega))) only [x7u,hl',Sk,j1l]
 · have hl':q3k ((p:Int),pre++r,(p:Int),bad,err,())=_:=hl
   simp (disch:=(first | omega | (simp only [List.length_append,List.length_cons,List.length_nil];omega))) only [x7u,hl',Sk,j1l]
inductive Tk where
 | ok (t:List UInt8) (u:Nat)
 | bad (off:Nat) (e:Int)
 | start
def Tk.push (l:List UInt8) (n:Nat):Tk→Tk
 | .ok t u => .ok (l++t) (n+u)
 | .bad off e => .bad (n+off) e
 | .start => .start
def qt:List UInt8→Tk
 | [] => .start
 | c::r=>if c.toNat=34 then .ok [] 1 else if c.toNat=92 then
  match r with
  | [] => .start
  | d::r'=>bif zb d then (qt r').push [d] 2 else .bad 1 4
  else bif zb c then (qt r).push [c] 1 else .bad 0 4
theorem k8b {c:UInt8} {r:List UInt8} (h:c.toNat=34):qt (c::r) = .ok [] 1:=by cases r<;>simp [qt,h]
theorem v4l {c:UInt8} (h:c.toNat=92):qt [c] = .start:=by simp [qt,h]
theorem x0p {c d:UInt8} {r:List UInt8} (h:c.toNat=92):qt (c::d::r)=bif zb d then (qt r).push [d] 2 else .bad 1 4:=by simp [qt,h]
theorem k8a {c:UInt8} {r:List UInt8} (h1:¬c.toNat=34) (h2:¬c.toNat=92):qt (c::r)=bif zb c then (qt r).push [c] 1 else .bad 0 4:=by cases r<;>simp [qt,h1,h2]
def j9v (s:List UInt8) (a bad err:Int) (out:List UInt8) (q:Nat):Tk→(List UInt8×Int×Int×Int×Unit)⊕(List UInt8×List UInt8×Int×Int×Int×Unit)
 | .ok t u => .inr (out++t,s,((q+u:Nat):Int),bad,err,())
 | .bad off e => .inr ([],s,a,((q+off:Nat):Int),e,())
 | .start => .inl (s,a,bad,err,())
theorem z1j (s:List UInt8) (a bad err:Int) (out:List UInt8) (q:Nat) (l:List UInt8) (n:Nat) (k:Tk):j9v s a bad err out q (k.push l n)=j9v s a bad err (out++l) (q+n) k:=by
 cases k<;>simp [Tk.push,j9v,Nat.add_assoc]
theorem f1q (pre r out:List UInt8) (d:UInt8) (q:Nat) (a bad err:Int) (hq:pre.length=q) (hb:q+r.length≤140737488355320) (ho:out.length+1≤140737488355328) :
 q3i ((q:Int),pre++d::r,a,bad,err,out,())=some (bif zb d then .inr ((q:Int),pre++d::r,a,bad,err,out++[d],()) else .inl ([],pre++d::r,a,(q:Int),4,())):=by
 cases h:zb d<;>simp (disch:=(first | omega | (simp only [List.length_append,List.length_cons,List.length_nil];omega))) only [q3i,z2w,Sk,c31,c27,h]
theorem l23 (a bad err:Int):∀(m:Nat) (r pre out:List UInt8) (q n:Nat),r.length≤m→pre.length=q→r.length<n→q+r.length≤140737488355320→out.length+r.length≤140737488355320 →
 qc (vd zv yf q3i) n ((q:Int),pre++r,a,bad,err,out,())=some (j9v (pre++r) a bad err out q (qt r))
 | _,_,_,_,_,0,_,_,hn,_,_=>by omega
 | m,[],pre,out,q,n+1,hm,hq,hn,hb,ho=>by
  refine qk ?_;simp (disch:=(first | omega | (simp only [List.length_append,List.length_cons,List.length_nil];omega))) only [vd,Sk,List.append_nil,qt,j9v]
 | 0,c::r,pre,out,q,n+1,hm,hq,hn,hb,ho=>by simp at hm
 | m+1,c::r,pre,out,q,n+1,hm,hq,hn,hb,ho=>by
  simp only [List.length_cons] at hn hb hm ho;by_cases e1:c.toNat=34
  · refine qk ?_
    rw [k8b e1];simp (disch:=(first | omega | (simp only [List.length_append,List.length_cons,List.length_nil];omega))) only [vd,Sk,j9v,List.append_nil]
  · by_cases e2:c.toNat=92
    · match r,hm,hn,hb,ho with
      | [],hm,hn,hb,ho =>
       refine qk ?_;rw [v4l e2];simp (disch:=(first | omega | (simp only [List.length_append,List.length_cons,List.length_nil];omega))) only [vd,Sk,j9v,List.append_nil]
      | d::r',hm,hn,hb,ho =>
       simp only [List.length_cons] at hn hb hm ho;have hc:=f1q (pre++[c]) r' out d (q+1) a bad err (by simp [hq]) (by omega) (by omega);rw [←shift] at hc;rw [x0p e2];cases h:zb d with
       | true =>
        rw [h] at hc;simp only [cond_true] at hc ⊢;rw [jl (v':=(((q+2:Nat):Int),pre++c::d::r',a,bad,err,out++[d],())) (by
         simp (disch:=(first | omega | (simp only [List.length_append,List.length_cons,List.length_nil];omega))) only [vd,Sk,hc])]
        have:=l23 a bad err m r' (pre++[c,d]) (out++[d]) (q+2) n (by omega) (by simp [hq]) (by omega) (by omega) (by simp;omega);rw [show pre++c::d::r'=(pre++[c,d])++r' by simp,this,←z1j]
       | false =>
        rw [h] at hc;simp only [cond_false] at hc ⊢;refine qk ?_;simp (disch:=(first | omega | (simp only [List.length_append,List.length_cons,List.length_nil];omega))) only [vd,Sk,hc,j9v]
    · have hc:=f1q pre r out c q a bad err hq (by omega) (by omega)
      rw [k8a e1 e2];cases h:zb c with
      | true =>
       rw [h] at hc;simp only [cond_true] at hc ⊢;rw [jl (v':=(((q+1:Nat):Int),pre++c::r,a,bad,err,out++[c],())) (by
        simp (disch:=(first | omega | (simp only [List.length_append,List.length_cons,List.length_nil];omega))) only [vd,Sk,hc])]
       have:=l23 a bad err m r (pre++[c]) (out++[c]) (q+1) n (by omega) (by simp [hq]) (by omega) (by omega) (by simp;omega);rw [shift,this,←z1j]
      | false =>
       rw [h] at hc;simp only [cond_false] at hc ⊢;refine qk ?_;simp (disch:=(first | omega | (simp only [List.length_append,List.length_cons,List.length_nil];omega))) only [vd,Sk,hc,j9v,Nat.add_zero]
def za (s:List UInt8) (p:Nat) (bad err:Int) (q:Nat):Tk→List UInt8×List UInt8×Int×Int×Int×Unit
 | .ok t u=>(t,s,((q+u:Nat):Int),bad,err,())
 | .bad off e=>([],s,(p:Int),((q+off:Nat):Int),e,())
 | .start=>([],s,(p:Int),(p:Int),4,())
theorem c23 (pre r:List UInt8) (c:UInt8) (p:Nat) (bad err:Int) (hp:pre.length=p) (hb:p+r.length≤140737488355000) :
 z6l (pre++c::r,(p:Int),bad,err,())=some (za (pre++c::r) p bad err (p+1) (qt r)):=by
 show v6a zv yf q6x (pre++c::r,(p:Int),bad,err,())=_;have hl:=l23 p bad err r.length r (pre++[c]) [] (p+1) je (Nat.le_refl _) (by simp [hp]) (by unfold je;omega) (by omega) (by simp;omega);rw [←shift] at hl;have hl':q6x (((p+1:Nat):Int),pre++c::r,(p:Int),bad,err,[],())=_:=hl;cases hq:qt r<;>rw [hq] at hl'<;>simp (disch:=(first | omega | (simp only [List.length_append,List.length_cons,List.length_nil];omega))) only [v6a,Sk,hl',j9v,za,c27,List.nil_append]
def ltk:List UInt8→Tk
 | [] => .start
 | c::r=>if c.toNat=93 then .ok [] 1 else if c.toNat=91 then .bad 0 4 else if c.toNat=92 then .bad 0 4 else
  bif jp c then .bad 0 4 else bif zb c then (ltk r).push [c] 1 else .bad 0 4
def j2r (s:List UInt8) (a bad err:Int) (from_:Nat) (q:Nat):Tk→(List UInt8×Int×Int×Int×Unit)⊕(List UInt8×List UInt8×Int×Int×Int×Unit)
 | .ok t u => .inr (List.drop from_ (List.take (q+t.length) s),s,((q+u:Nat):Int),bad,err,())
 | .bad off e => .inr ([],s,a,((q+off:Nat):Int),e,())
 | .start => .inl (s,a,bad,err,())
theorem x5t (s:List UInt8) (a bad err:Int) (f q:Nat) (l:List UInt8) (n:Nat) (hl:l.length=n) (k:Tk):j2r s a bad err f q (k.push l n)=j2r s a bad err f (q+n) k:=by
 cases k<;>simp [Tk.push,j2r,Nat.add_assoc,hl]
theorem l24 (a:Nat) (bad err:Int):∀(r pre:List UInt8) (q n:Nat),pre.length=q→a+1≤q→r.length<n→q+r.length≤140737488355320 →
 qc (ve zv yf xj xa) n ((q:Int),pre++r,(a:Int),bad,err,())=some (j2r (pre++r) a bad err (a+1) q (ltk r))
 | _,_,_,0,_,_,hn,_=>by omega
 | [],pre,q,n+1,hq,ha,hn,hb=>by
  refine qk ?_;simp (disch:=(first | omega | (simp only [List.length_append,List.length_cons,List.length_nil];omega))) only [ve,xa,kg,Sk,List.append_nil,ltk,j2r]
 | c::r,pre,q,n+1,hq,ha,hn,hb=>by
  simp only [List.length_cons] at hn hb;by_cases e1:c.toNat=93
  · refine qk ?_
    simp (disch:=(first | omega | (simp only [List.length_append,List.length_cons,List.length_nil];omega))) only [ve,xa,kg,Sk,ltk,if_pos,j2r,Nat.add_zero]
  · by_cases e2:c.toNat=91
    · refine qk ?_
      simp (disch:=(first | omega | (simp only [List.length_append,List.length_cons,List.length_nil];omega))) only [ve,xa,kg,Sk,ltk,if_pos,if_neg,j2r,Nat.add_zero,c27]
    · by_cases e3:c.toNat=92
      · refine qk ?_
        simp (disch:=(first | omega | (simp only [List.length_append,List.length_cons,List.length_nil];omega))) only [ve,xa,kg,Sk,ltk,if_pos,if_neg,j2r,Nat.add_zero,c27]
      · cases h1:jp c with
        | true =>
         refine qk ?_;simp (disch:=(first | omega | (simp only [List.length_append,List.length_cons,List.length_nil];omega))) only [ve,xa,kg,Sk,ltk,if_pos,if_neg,j2r,Nat.add_zero,c27,c32,h1]
        | false =>
         cases h2:zb c with
         | false =>
          refine qk ?_;simp (disch:=(first | omega | (simp only [List.length_append,List.length_cons,List.length_nil];omega))) only [ve,xa,kg,Sk,ltk,if_pos,if_neg,j2r,Nat.add_zero,c27,c32,c31,h1,h2]
         | true =>
          rw [jl (v':=(((q+1:Nat):Int),pre++c::r,(a:Int),bad,err,())) (by
           simp (disch:=(first | omega | (simp only [List.length_append,List.length_cons,List.length_nil];omega))) only [ve,xa,kg,Sk,c32,c31,h1,h2])]
          have:=l24 a bad err r (pre++[c]) (q+1) n (by simp [hq]) (by omega) (by omega) (by omega);rw [shift,this,←x5t (l:=[c]) (n:=1) _ _ _ _ _ _ rfl];simp only [ltk,if_neg e1,if_neg e2,if_neg e3,h1,h2,cond_true,cond_false]
theorem z5o:∀{r t:List UInt8} {u:Nat},ltk r = .ok t u→u=t.length+1∧t.length<r.length∧r.take t.length=t
 | [],t,u,h=>by simp [ltk] at h
 | c::r,t,u,h=>by
  unfold ltk at h;split at h
  · cases h;simp
  · split at h
    · cases h
    · split at h
      · cases h
      · cases h1:jp c<;>cases h2:zb c<;>rw [h1,h2] at h<;>simp only [cond_true,cond_false] at h<;>try (cases h;done)
        cases hr:ltk r with
        | ok t' u' =>
         rw [hr] at h;cases h;obtain ⟨i1,i2,i3⟩:=z5o hr;exact ⟨by simp;omega,by simpa using i2,by simpa using i3⟩
        | bad o e=>rw [hr] at h;cases h
        | start=>rw [hr] at h;cases h
theorem c24 (pre r:List UInt8) (c:UInt8) (p:Nat) (bad err:Int) (hp:pre.length=p) (hb:p+r.length≤140737488355000) :
 z6m (pre++c::r,(p:Int),bad,err,())=some (za (pre++c::r) p bad err (p+1) (ltk r)):=by
 show x2a zv yf xj q6y (pre++c::r,(p:Int),bad,err,())=_;have hl:=l24 p bad err r (pre++[c]) (p+1) je (by simp [hp]) (by omega) (by unfold je;omega) (by omega);rw [←shift] at hl;have hl':q6y (((p+1:Nat):Int),pre++c::r,(p:Int),bad,err,())=_:=hl;cases hq:ltk r with
 | ok t u =>
  rw [hq] at hl';obtain ⟨i1,i2,i3⟩:=z5o hq;simp (disch:=(first | omega | (simp only [List.length_append,List.length_cons,List.length_nil];omega))) only [x2a,Sk,hl',j2r,za];rw [shift,j1l (by simp [hp]),i3]
 | bad o e=>rw [hq] at hl';simp (disch:=(first | omega | (simp only [List.length_append,List.length_cons,List.length_nil];omega))) only [x2a,Sk,hl',j2r,za]
 | start=>rw [hq] at hl';simp (disch:=(first | omega | (simp only [List.length_append,List.length_cons,List.length_nil];omega))) only [x2a,Sk,hl',j2r,za,c27]
def nt:Nat→List UInt8→Tk
 | _,[] => .start
 | deep,c::r=>if c.toNat=40 then (if deep+1>32 then .bad 0 6 else (nt (deep+1) r).push [c] 1)
  else if c.toNat=41 then (if deep=1 then .ok [] 1 else (nt (deep - 1) r).push [c] 1)
  else if c.toNat=92 then
   match r with
   | [] => .start
   | d::r'=>bif zb d then (nt deep r').push [c,d] 2 else .bad 1 4
  else bif zb c then (nt deep r).push [c] 1 else .bad 0 4
theorem k7d {deep:Nat} {c:UInt8} {r:List UInt8} (h:c.toNat=40):nt deep (c::r)=if deep+1>32 then .bad 0 6 else (nt (deep+1) r).push [c] 1:=by cases r<;>simp [nt,h]
theorem v3i {deep:Nat} {c:UInt8} {r:List UInt8} (h:c.toNat=41):nt deep (c::r)=if deep=1 then .ok [] 1 else (nt (deep - 1) r).push [c] 1:=by cases r<;>simp [nt,h]
theorem x0d {deep:Nat} {c:UInt8} (h:c.toNat=92):nt deep [c] = .start:=by simp [nt,h]
theorem x0e {deep:Nat} {c d:UInt8} {r:List UInt8} (h:c.toNat=92):nt deep (c::d::r)=bif zb d then (nt deep r).push [c,d] 2 else .bad 1 4:=by simp [nt,h]
theorem v3k {deep:Nat} {c:UInt8} {r:List UInt8} (h1:¬c.toNat=40) (h2:¬c.toNat=41) (h3:¬c.toNat=92):nt deep (c::r)=bif zb c then (nt deep r).push [c] 1 else .bad 0 4:=by cases r<;>simp [nt,h1,h2,h3]
theorem wrM (n:Nat) (h:n≤9223372036854775806) (h1:1≤n):IntKind.i64.wrap ((n:Int) - 1)=((n - 1:Nat):Int):=by rw [wr]<;>omega
def q6p (s:List UInt8) (f:Nat) (a bad err:Int) (q:Nat):Tk→((Int×Int×List UInt8×Int×Int×Int×Unit)⊕(Int×Int×List UInt8×Int×Int×Int×Unit)⊕(List UInt8×List UInt8×Int×Int×Int×Unit))
 | .ok t u => .inr (.inr (List.drop (f+1) (List.take (q+t.length) s),s,((q+u:Nat):Int),bad,err,()))
 | .bad off e => .inr (.inl (e,((q+off:Nat):Int),s,a,bad,err,()))
 | .start => .inl ((f:Int),4,s,a,bad,err,())
theorem z1i (s:List UInt8) (f:Nat) (a bad err:Int) (q:Nat) (l:List UInt8) (n:Nat) (hl:l.length=n) (k:Tk):q6p s f a bad err q (k.push l n)=q6p s f a bad err (q+n) k:=by
 cases k<;>simp [Tk.push,q6p,Nat.add_assoc,hl]
theorem l25 (f:Nat) (a bad err:Int):∀(m:Nat) (r pre:List UInt8) (deep q n:Nat),r.length≤m→1≤deep→deep≤32→pre.length=q→f+1≤q→r.length<n→q+r.length≤140737488355320 →
 qc (zq zv yf) n ((f:Int),(deep:Int),4,(q:Int),pre++r,a,bad,err,())=some (q6p (pre++r) f a bad err q (nt deep r))
 | _,_,_,_,_,0,_,_,_,_,_,hn,_=>by omega
 | m,[],pre,deep,q,n+1,hm,hd,hd2,hq,hf,hn,hb=>by
  refine qk ?_;simp (disch:=(first | omega | (simp only [List.length_append,List.length_cons,List.length_nil];omega))) only [zq,Sk,List.append_nil,nt,q6p]
 | 0,c::r,pre,deep,q,n+1,hm,hd,hd2,hq,hf,hn,hb=>by simp at hm
 | m+1,c::r,pre,deep,q,n+1,hm,hd,hd2,hq,hf,hn,hb=>by
  simp only [List.length_cons] at hn hb hm;have next:∀(d':Nat),1≤d'→d'≤32→zq zv yf ((f:Int),(deep:Int),4,(q:Int),pre++c::r,a,bad,err,())=some (.inl ((f:Int),(d':Int),4,((q+1:Nat):Int),pre++c::r,a,bad,err,())) →
   qc (zq zv yf) (n+1) ((f:Int),(deep:Int),4,(q:Int),pre++c::r,a,bad,err,())=some (q6p (pre++c::r) f a bad err q ((nt d' r).push [c] 1)):=by
   intro d' h1 h2 h3;rw [jl h3,z1i (l:=[c]) (n:=1) _ _ _ _ _ _ rfl];have:=l25 f a bad err m r (pre++[c]) d' (q+1) n (by omega) h1 h2 (by simp [hq]) (by omega) (by omega) (by omega);rw [shift,this]
  by_cases e1:c.toNat=40
  · rw [k7d e1]
    by_cases hdd:deep+1>32
    · rw [if_pos hdd]
      refine qk ?_;simp (disch:=(first | omega | (simp only [List.length_append,List.length_cons,List.length_nil];omega))) only [zq,Sk,q6p,Nat.add_zero]
    · rw [if_neg hdd]
      refine next (deep+1) (by omega) (by omega) ?_;simp (disch:=(first | omega | (simp only [List.length_append,List.length_cons,List.length_nil];omega))) only [zq,Sk]
  · by_cases e2:c.toNat=41
    · rw [v3i e2]
      by_cases hd1:deep=1
      · rw [if_pos hd1]
        refine qk ?_;subst hd1;simp (disch:=(first | omega | (simp only [List.length_append,List.length_cons,List.length_nil];omega))) only [zq,Sk,q6p,Nat.add_zero,wrM]
      · rw [if_neg hd1]
        refine next (deep - 1) (by omega) (by omega) ?_;simp (disch:=(first | omega | (simp only [List.length_append,List.length_cons,List.length_nil];omega))) only [zq,Sk,wrM]
    · by_cases e3:c.toNat=92
      · match r,hm,hn,hb with
        | [],hm,hn,hb =>
         rw [x0d e3];simp only [List.length_nil] at hn hb hm;rw [jl (v':=((f:Int),(deep:Int),4,((q+2:Nat):Int),pre++[c],a,bad,err,())) (by
          simp (disch:=(first | omega | (simp only [List.length_append,List.length_cons,List.length_nil];omega))) only [zq,Sk])]
         obtain ⟨n',rfl⟩:∃n',n=n'+1:=⟨n - 1,by omega⟩
         refine qk ?_;simp (disch:=(first | omega | (simp only [List.length_append,List.length_cons,List.length_nil];omega))) only [zq,Sk,q6p]
        | d::r',hm,hn,hb =>
         simp only [List.length_cons] at hn hb hm;rw [x0e e3];have hg:(pre++c::d::r').getD (q+1) 0=d:=by rw [shift];exact gd (by simp [hq])
         cases h:zb d with
         | true =>
          rw [jl (v':=((f:Int),(deep:Int),4,((q+2:Nat):Int),pre++c::d::r',a,bad,err,())) (by
           simp (disch:=(first | omega | (simp only [List.length_append,List.length_cons,List.length_nil];omega))) only [zq,Sk,hg,c31,h])]
          have:=l25 f a bad err m r' (pre++[c,d]) deep (q+2) n (by omega) hd hd2 (by simp [hq]) (by omega) (by omega) (by omega);rw [show pre++c::d::r'=(pre++[c,d])++r' by simp,this,cond_true,z1i (l:=[c,d]) (n:=2) _ _ _ _ _ _ rfl]
         | false =>
          refine qk ?_;simp (disch:=(first | omega | (simp only [List.length_append,List.length_cons,List.length_nil];omega))) only [zq,Sk,hg,c31,h,q6p]
      · rw [v3k e1 e2 e3]
        cases h:zb c with
        | true =>
         refine next deep hd hd2 ?_;simp (disch:=(first | omega | (simp only [List.length_append,List.length_cons,List.length_nil];omega))) only [zq,Sk,c31,h]
        | false =>
         refine qk ?_;simp (disch:=(first | omega | (simp only [List.length_append,List.length_cons,List.length_nil];omega))) only [zq,Sk,c31,h,q6p,Nat.add_zero]
theorem q0h {k:Tk} {l t:List UInt8} {n u:Nat} (h:k.push l n = .ok t u):∃t' u',k = .ok t' u'∧t=l++t'∧u=n+u':=by
 cases k<;>simp [Tk.push] at h
 exact ⟨_,_,rfl,h.1.symm,h.2.symm⟩
theorem x0f:∀(m:Nat) {r t:List UInt8} {u deep:Nat},r.length≤m→nt deep r = .ok t u→u=t.length+1∧t.length<r.length∧r.take t.length=t
 | _,[],t,u,deep,_,h=>by simp [nt] at h
 | 0,c::r,t,u,deep,hm,h=>by simp at hm
 | m+1,c::r,t,u,deep,hm,h=>by
  simp only [List.length_cons] at hm;have one:∀(d':Nat),(nt d' r).push [c] 1 = .ok t u→u=t.length+1∧t.length<(c::r).length∧(c::r).take t.length=t:=by
   intro d' h;obtain ⟨t',u',h1,rfl,rfl⟩:=q0h h;obtain ⟨i1,i2,i3⟩:=x0f m (by omega) h1;exact ⟨by simp;omega,by simpa using i2,by simpa using i3⟩
  by_cases e1:c.toNat=40
  · rw [k7d e1] at h
    split at h
    · cases h
    · exact one _ h
  · by_cases e2:c.toNat=41
    · rw [v3i e2] at h
      split at h
      · cases h;simp
      · exact one _ h
    · by_cases e3:c.toNat=92
      · match r,hm,h with
        | [],hm,h=>rw [x0d e3] at h;cases h
        | d::r',hm,h =>
         simp only [List.length_cons] at hm;rw [x0e e3] at h;cases hd:zb d<;>rw [hd] at h
         · cases h
         · obtain ⟨t',u',h1,rfl,rfl⟩:=q0h h
           obtain ⟨i1,i2,i3⟩:=x0f m (by omega) h1;exact ⟨by simp;omega,by simpa using i2,by simpa using i3⟩
      · rw [v3k e1 e2 e3] at h
        cases hd:zb c<;>rw [hd] at h
        · cases h
        · exact one _ h
theorem b3n (k e:Int) (s:List UInt8) (a bad err:Int):q3j (e,k,s,a,bad,err,())=some ([],s,a,k,e,()):=by
 show qc _ je _=_;rw [show je=999999999999999999999+1 from rfl];exact qk rfl
theorem c25 (pre r:List UInt8) (c:UInt8) (p:Nat) (bad err:Int) (hc:c.toNat=40) (hp:pre.length=p) (hb:p+r.length≤140737488355000) :
 z6n (pre++c::r,(p:Int),bad,err,())=some (za (pre++c::r) p bad err (p+1) (nt 1 r)):=by
 show x2b zv yf q3j q6z (pre++c::r,(p:Int),bad,err,())=_;have hl:=l25 p p bad err r.length r (pre++[c]) 1 (p+1) 999999999999999999999 (Nat.le_refl _) (by omega) (by omega) (by simp [hp]) (by omega) (by omega) (by omega);rw [←shift] at hl;have h0:q6z ((p:Int),0,4,(p:Int),pre++c::r,(p:Int),bad,err,())=some (q6p (pre++c::r) p p bad err (p+1) (nt 1 r)):=by
  rw [←hl];show qc _ (999999999999999999999+1) _=_;refine jl ?_;simp (disch:=(first | omega | (simp only [List.length_append,List.length_cons,List.length_nil];omega))) only [zq,Sk];rfl
 cases hq:nt 1 r with
 | ok t u =>
  rw [hq] at h0;obtain ⟨i1,i2,i3⟩:=x0f _ (Nat.le_refl _) hq;simp (disch:=(first | omega | (simp only [List.length_append,List.length_cons,List.length_nil];omega))) only [x2b,Sk,h0,q6p,za];rw [shift,j1l (by simp [hp]),i3]
 | bad o e=>rw [hq] at h0;simp (disch:=(first | omega | (simp only [List.length_append,List.length_cons,List.length_nil];omega))) only [x2b,Sk,h0,q6p,za,b3n]
 | start=>rw [hq] at h0;simp (disch:=(first | omega | (simp only [List.length_append,List.length_cons,List.length_nil];omega))) only [x2b,Sk,h0,q6p,za,c27]
def g1 (o:Option (Int×Int×Unit)):Int:=match o with | some (n,_,_)=>n | none=>0
def g2 (o:Option (Int×Int×Unit)):Int:=match o with | some (_,v,_)=>v | none=>0
def ok2 (o:Option (Int×Int×Unit)):Bool:=match o with | some _=>true | none=>false
theorem v3u {o:Option (Int×Int×Unit)} (h:ok2 o=true):o=some (g1 o,g2 o,()):=by
 cases o with
 | none=>cases h
 | some x=>rfl
def jz (c:UInt8):Int:=g1 (vy ((c.toNat:Int),()))
def q2b (c:UInt8):Int:=g2 (vy ((c.toNat:Int),()))
theorem b3m:((List.range 256).all fun n=>(fun c:UInt8=>ok2 (vy ((c.toNat:Int),()))) (UInt8.ofNat n))=true:=by kernel_rfl
theorem c19 (c:UInt8):vy ((c.toNat:Int),())=some (jz c,q2b c,()):=v3u (ku (fun c=>ok2 (vy ((c.toNat:Int),()))) b3m c)
def g4t:Int→Bool
 | .ofNat n=>Nat.ble n 3
 | .negSucc n=>Nat.beq n 0
theorem g3f:((List.range 256).all fun n=>(fun c:UInt8=>g4t (jz c)) (UInt8.ofNat n))=true:=by kernel_rfl
theorem v2m (c:UInt8):jz c = -1∨0≤jz c∧jz c≤3:=by
 have h:g4t (jz c)=true:=ku (fun c=>g4t (jz c)) g3f c;generalize jz c=x at h;cases x with
 | ofNat n=>have:=Nat.le_of_ble_eq_true h;right;simp;omega
 | negSucc n=>have:=Nat.eq_of_beq_eq_true h;subst this;left;rfl
def z8z (v:Int):Int:=match yz (v,()) with | some (n,_)=>n | none=>0
theorem c20 (v:Int):yz (v,())=some (z8z v,()):=by
 have h:∃n,yz (v,())=some (n,()):=by
  show ∃n,z6z xb (v,())=some (n,());have h29:∃b,xb (v,())=some (b,()):=by
   simp only [xb,x7y];cases decide (v≥0)<;>cases decide (v≤1114111)<;>cases decide (v≥55296)<;>exact ⟨_,rfl⟩
  obtain ⟨b,hb⟩:=h29;simp only [z6z,hb,Option.bind_some];cases b<;>cases decide (v≤127)<;>cases decide (v≤2047)<;>cases decide (v≤65535)<;>exact ⟨_,rfl⟩
 obtain ⟨n,hn⟩:=h;rw [z8z,hn]
def j2v (c:UInt8):Bool := !(intBits BinOp.andNot IntKind.u8 (c.toNat:Int) 63 != 128)
def v4v (v:Int) (c:UInt8):Int:=intBits BinOp.or IntKind.i32 (IntKind.i32.wrap (v*2^min 6 IntKind.i32.bits)) (IntKind.i32.wrap (intBits BinOp.and IntKind.u8 (c.toNat:Int) 63))
def xg:Nat→List UInt8→Int→Option Int
 | 0,_,v=>some v
 | _+1,[],_=>none
 | n+1,c::r,v=>bif j2v c then xg n r (v4v v c) else none
def ch:List UInt8→Nat
 | []=>0
 | c::r=>if jz c<0 then 0 else if r.length<(jz c).toNat then 0 else
  match xg (jz c).toNat r (q2b c) with
  | none=>0
  | some v=>if z8z v=jz c+1 then (jz c).toNat+1 else 0
theorem x9w:∀s,ch s≤s.length
 | []=>Nat.le_refl _
 | c::r=>by
  simp only [ch,List.length_cons];split
  · omega
  · split
    · omega
    · split
      · omega
      · split<;>omega
def x5s (s:List UInt8) (n a:Int) (out:List Int):Option Int→(List UInt8×Int×Int×Int×List Int×Unit)⊕(Int×List Int×Unit)
 | some v => .inl (s,n,v,a,out,())
 | none => .inr (a,out,())
theorem f3b (a:Nat) (m:Nat) (out:List Int):∀(j:Nat) (r pre:List UInt8) (v:Int) (k n:Nat),pre.length=k→k+j=a+m+1→j≤r.length→j<n→k+r.length≤140737488355320→m≤3 →
 qc (q2l vy yz) n (pre++r,(m:Int),v,(a:Int),(k:Int),out,())=some (x5s (pre++r) m a out (xg j r v))
 | _,_,_,_,_,0,_,_,_,hn,_,_=>by omega
 | 0,r,pre,v,k,n+1,hk,hj,hr,hn,hb,hm=>by
  refine qk ?_;have h:IntKind.i64.wrap ((a:Int)+(m:Int))=(a:Int)+m:=wr (by omega) (by omega);simp (disch:=(first | omega | (simp only [List.length_append,List.length_cons,List.length_nil];omega))) only [q2l,h,Sk,xg,x5s]
 | j+1,[],pre,v,k,n+1,hk,hj,hr,hn,hb,hm=>by simp at hr
 | j+1,c::r,pre,v,k,n+1,hk,hj,hr,hn,hb,hm=>by
  simp only [List.length_cons] at hr hb;have h:IntKind.i64.wrap ((a:Int)+(m:Int))=(a:Int)+m:=wr (by omega) (by omega);cases hc:j2v c with
  | true =>
   have hc':(intBits BinOp.andNot IntKind.u8 (c.toNat:Int) 63 != 128)=false:=by simpa [j2v] using hc
   rw [jl (v':=(pre++c::r,(m:Int),v4v v c,(a:Int),((k+1:Nat):Int),out,())) (by
    simp (disch:=(first | omega | (simp only [List.length_append,List.length_cons,List.length_nil];omega))) only [q2l,h,Sk,hc'];rfl)]
   rw [shift,f3b a m out j r (pre++[c]) (v4v v c) (k+1) n (by simp [hk]) (by omega) (by omega) (by omega) (by omega) hm];simp only [xg,hc,cond_true]
  | false =>
   have hc':(intBits BinOp.andNot IntKind.u8 (c.toNat:Int) 63 != 128)=true:=by simpa [j2v] using hc
   refine qk ?_;simp (disch:=(first | omega | (simp only [List.length_append,List.length_cons,List.length_nil];omega))) only [q2l,h,Sk,hc',xg,hc,x5s]
def ut:Nat→List UInt8→Nat→Option Nat
 | 0,_,_=>none
 | n+1,s,p=>if s=[] then none else if ch s=0 then some p else ut n (s.drop (ch s)) (p+ch s)
def r15 (out:List Int):Option Nat→(List Int×Unit)⊕(Int×List Int×Unit)
 | none => .inl (out,())
 | some b => .inr ((b:Int),out,())
theorem d0l (c:UInt8) (r pre:List UInt8) (out:List Int) (p:Nat) (hp:pre.length=p) (hb:p+r.length≤140737488355000) (ho:out.length≤1000000000) :
 vo vy yz q2j (pre++c::r,(p:Int),out,())=some (if ch (c::r)=0 then .inr (.inr ((p:Int),out,())) else
  .inl (pre++c::r,((p+ch (c::r):Nat):Int),out++[((xg (jz c).toNat r (q2b c)).getD 0)],())):=by
 have hrng:=v2m c;by_cases h1:jz c<0
 · have:ch (c::r)=0:=by simp [ch,h1]
   rw [if_pos this];simp (disch:=(first | omega | (simp only [List.length_append,List.length_cons,List.length_nil];omega))) only [vo,Sk,c19]
 · have hw:IntKind.i64.wrap (((pre.length+(r.length+1):Nat):Int) - (p:Int))=(r.length:Int)+1:=by rw [wr]<;>omega
   obtain ⟨m,hm⟩:∃m:Nat,jz c=m:=⟨(jz c).toNat,by omega⟩
   by_cases h2:r.length<m
   · have:ch (c::r)=0:=by simp [ch,hm,h2]
     rw [if_pos this];simp (disch:=(first | omega | (simp only [List.length_append,List.length_cons,List.length_nil];omega))) only [vo,Sk,c19,hw,hm]
   · have hl:=f3b p m out m r (pre++[c]) (q2b c) (p+1) je (by simp [hp]) (by omega) (by omega) (by unfold je;omega) (by omega) (by omega)
     rw [←shift] at hl;have hl':q2j (pre++c::r,(m:Int),q2b c,(p:Int),((p+1:Nat):Int),out,())=_:=hl;cases hc:xg m r (q2b c) with
     | none =>
      have:ch (c::r)=0:=by simp [ch,hm,h2,hc]
      rw [if_pos this];simp (disch:=(first | omega | (simp only [List.length_append,List.length_cons,List.length_nil];omega))) only [vo,Sk,c19,hw,hm,hl',hc,x5s]
     | some v =>
      have hw2:IntKind.i64.wrap ((m:Int)+1)=(m:Int)+1:=wr (by omega) (by omega);by_cases h3:z8z v=m+1
      · have hch:ch (c::r)=m+1:=by simp [ch,hm,h2,hc,h3]
        have hw3:IntKind.i64.wrap ((p:Int)+((m:Int)+1))=((p+(m+1):Nat):Int):=by rw [wr]<;>omega
        rw [if_neg (by omega),hch];simp (disch:=(first | omega | (simp only [List.length_append,List.length_cons,List.length_nil];omega))) only [vo,hw2,hw3,decide_eq_true,decide_eq_false,cond_true,cond_false,Bool.and_self,List.length_append,List.length_cons,List.length_nil,Int.toNat_natCast,inF,gd,Option.bind_some,Sum.elim_inl,wrN,c19,hw,hm,hl',hc,x5s,c20,Option.getD_some]
      · have:ch (c::r)=0:=by simp [ch,hm,h2,hc,h3]
        rw [if_pos this];simp (disch:=(first | omega | (simp only [List.length_append,List.length_cons,List.length_nil];omega))) only [vo,hw2,Sk,c19,hw,hm,hl',hc,x5s,c20]
theorem f3c:∀(m:Nat) (r pre:List UInt8) (out:List Int) (p n:Nat),r.length≤m→pre.length=p→r.length<n→p+r.length≤140737488355000→out.length+r.length≤1000000000 →
 ∃o,qc (vo vy yz q2j) n (pre++r,(p:Int),out,())=some (r15 o (ut n r p))
 | _,_,_,_,_,0,_,_,hn,_,_=>by omega
 | m,[],pre,out,p,n+1,hm,hp,hn,hb,ho=>by
  refine ⟨out,qk ?_⟩;simp (disch:=(first | omega | (simp only [List.length_append,List.length_cons,List.length_nil];omega))) only [vo,Sk,List.append_nil,ut,if_true,r15]
 | 0,c::r,pre,out,p,n+1,hm,hp,hn,hb,ho=>by simp at hm
 | m+1,c::r,pre,out,p,n+1,hm,hp,hn,hb,ho=>by
  simp only [List.length_cons] at hm hn hb ho;have hr:=d0l c r pre out p hp (by omega) (by omega);by_cases h:ch (c::r)=0
  · rw [if_pos h] at hr
    refine ⟨out,?_⟩;rw [qk hr];simp [ut,h,r15]
  · rw [if_neg h] at hr
    have hle:=x9w (c::r);simp only [List.length_cons] at hle;have hsplit:pre++c::r=(pre++(c::r).take (ch (c::r)))++(c::r).drop (ch (c::r)):=by rw [List.append_assoc,List.take_append_drop]
    obtain ⟨o,ho'⟩:=f3c m ((c::r).drop (ch (c::r))) (pre++(c::r).take (ch (c::r))) (out++[((xg (jz c).toNat r (q2b c)).getD 0)]) (p+ch (c::r)) n (by simp;omega) (by simp [hp];omega) (by simp;omega) (by simp;omega) (by simp;omega);refine ⟨o,?_⟩;rw [jl hr];rw [←hsplit] at ho';rw [ho'];simp [ut,h]
def utf (s:List UInt8):Option Nat:=ut je s 0
theorem c15 (s:List UInt8) (hb:s.length≤1000000):∃o,C83 (s,())=some (o,(match utf s with | none => -1 | some b=>(b:Int)),()):=by
 obtain ⟨o,h⟩:=f3c s.length s [] [] 0 je (Nat.le_refl _) rfl (by unfold je;omega) (by omega) (by simp;omega);have h':q6b (s,0,[],())=some (r15 o (utf s)):=h;refine ⟨o,?_⟩;show F83 vy yz q2i q6b (s,())=_;have hg:∀(b:Int) (o:List Int),q2i (b,o,())=some (b,o,()):=by
  intro b o;show qc _ je _=_;rw [show je=999999999999999999999+1 from rfl];exact qk rfl
 simp only [F83,h',Option.bind_some];cases utf s<;>simp [r15,hg]
def Tk.up:Tk→Tk
 | .ok t u => .ok t (1+u)
 | .bad off e => .bad (1+off) e
 | .start => .start
def one (c:UInt8) (r:List UInt8):Int×Tk :=
 if jo c=true then (0,.ok ((c::r).take (al (c::r))) (al (c::r)))
 else if q3f c=true then (2,.ok [c] 1)
 else if c.toNat=34 then (1,(qt r).up)
 else if c.toNat=91 then (5,(ltk r).up)
 else if c.toNat=40 then (3,(nt 1 r).up)
 else if wl (c::r)=0 then (4,.start) else (4,.ok ((c::r).take (wl (c::r))) (wl (c::r)))
theorem y2h (s:List UInt8) (p:Nat) (bad err:Int) (k:Tk):za s p bad err (p+1) k=za s p bad err p k.up:=by
 cases k<;>simp [za,Tk.up,Nat.add_assoc]
def q3g (s:List UInt8) (p:Nat) (bad err:Int) (x:Int×Tk):Int×List UInt8×Int×List UInt8×Int×Int×Int×Unit :=
 (x.1,(za s p bad err p x.2).1,(p:Int),(za s p bad err p x.2).2)
theorem c16 (pre r:List UInt8) (c:UInt8) (p:Nat) (bad err:Int) (hp:pre.length=p) (hb:p+r.length≤140737488354000) :
 z1q (pre++c::r,(p:Int),bad,err,())=some (q3g (pre++c::r) p bad err (one c r)):=by
 show j9i q2d z6k z6l z6m z6n z6o zv C90 yy (pre++c::r,(p:Int),bad,err,())=_;have h21:=c21 pre (c::r) p bad err hp (by simp;omega);have h26:=c26 pre (c::r) p bad err hp (by simp;omega);have h23:=c23 pre r c p bad err hp (by omega);have h24:=c24 pre r c p bad err hp (by omega);unfold one;by_cases h1:jo c=true
 · rw [if_pos h1]
   simp (disch:=(first | omega | (simp only [List.length_append,List.length_cons,List.length_nil];omega))) only [j9i,yy,ke,Sk,c17,h1,h21,q3g,za]
 · rw [if_neg h1]
   have h1':jo c=false:=by simpa using h1
   by_cases h2:q3f c=true
   · rw [if_pos h2]
     have h2':x0t c≥0:=by simpa [q3f] using h2
     have ht:List.drop p (List.take (p+1) (pre++c::r))=[c]:=by rw [j1l hp];rfl
     simp (disch:=(first | omega | (simp only [List.length_append,List.length_cons,List.length_nil];omega))) only [j9i,yy,ke,Sk,c17,h1',x4q,ht,q3g,za]
   · rw [if_neg h2]
     have h2':¬x0t c≥0:=by simpa [q3f] using h2
     by_cases h3:c.toNat=34
     · rw [if_pos h3]
       rw [y2h] at h23;simp (disch:=(first | omega | (simp only [List.length_append,List.length_cons,List.length_nil];omega))) only [j9i,yy,ke,Sk,c17,h1',x4q,h23,q3g]
     · rw [if_neg h3]
       by_cases h4:c.toNat=91
       · rw [if_pos h4]
         rw [y2h] at h24;simp (disch:=(first | omega | (simp only [List.length_append,List.length_cons,List.length_nil];omega))) only [j9i,yy,ke,Sk,c17,h1',x4q,h24,q3g]
       · rw [if_neg h4]
         by_cases h5:c.toNat=40
         · rw [if_pos h5]
           have h25:=c25 pre r c p bad err h5 hp (by omega);rw [y2h] at h25;simp (disch:=(first | omega | (simp only [List.length_append,List.length_cons,List.length_nil];omega))) only [j9i,yy,ke,Sk,c17,h1',x4q,h25,q3g]
         · rw [if_neg h5]
           by_cases h6:wl (c::r)=0
           · rw [if_pos h6]
             rw [h6] at h26;simp (disch:=(first | omega | (simp only [List.length_append,List.length_cons,List.length_nil];omega))) only [j9i,yy,ke,Sk,c17,h1',x4q,h26,q3g,za,List.take_zero,c27,beq_self_eq_true,Nat.add_zero]
           · rw [if_neg h6]
             obtain ⟨w,hw⟩:∃w,wl (c::r)=w+1:=⟨wl (c::r) - 1,by omega⟩
             have hne:((c::r).take (wl (c::r))==[])=false:=by rw [hw];rfl
             simp (disch:=(first | omega | (simp only [List.length_append,List.length_cons,List.length_nil];omega))) only [j9i,yy,ke,Sk,c17,h1',x4q,h26,q3g,za,hne]
abbrev Tok:=Int×(List UInt8×Int)
def lx:Nat→List UInt8→Nat→List Tok⊕(Nat×Int)
 | 0,_,_ => .inl []
 | n+1,s,p=>match s with
  | [] => .inl []
  | c::r=>match one c r with
   | (k,.ok t u)=>match lx n ((c::r).drop u) (p+u) with
    | .inl l => .inl ((k,t,(p:Int))::l)
    | .inr e => .inr e
   | (_,.bad off e) => .inr (p+off,e)
   | (_,.start) => .inr (p,4)
theorem j6o:∀(m:Nat) {r t:List UInt8} {u:Nat},r.length≤m→qt r = .ok t u→t.length+1≤u∧u≤r.length
 | _,[],t,u,_,h=>by simp [qt] at h
 | 0,c::r,t,u,hm,h=>by simp at hm
 | m+1,c::r,t,u,hm,h=>by
  simp only [List.length_cons] at hm ⊢;by_cases e1:c.toNat=34
  · rw [k8b e1] at h;cases h;simp
  · by_cases e2:c.toNat=92
    · match r,hm,h with
      | [],hm,h=>rw [v4l e2] at h;cases h
      | d::r',hm,h =>
       rw [x0p e2] at h;cases hd:zb d<;>rw [hd] at h
       · cases h
       · obtain ⟨t',u',h1,rfl,rfl⟩:=q0h h
         have:=j6o m (by simp at hm;omega) h1;simp;omega
    · rw [k8a e1 e2] at h
      cases hd:zb c<;>rw [hd] at h
      · cases h
      · obtain ⟨t',u',h1,rfl,rfl⟩:=q0h h
        have:=j6o m (by omega) h1;simp;omega
theorem j9c {k:Tk} {t:List UInt8} {u:Nat} (h:k.up = .ok t u):∃u',k = .ok t u'∧u=1+u':=by
 cases k<;>simp [Tk.up] at h
 obtain ⟨rfl,rfl⟩:=h;exact ⟨_,rfl,rfl⟩
theorem w9t {c:UInt8} {r:List UInt8} (h:jo c=true):1≤al (c::r):=by simp [al,h]
theorem q0t {c:UInt8} {r t:List UInt8} {k:Int} {u:Nat} (h:one c r=(k,.ok t u)):1≤u∧u≤r.length+1:=by
 unfold one at h;split at h
 · rename_i h1
   cases h;have:=x9i (c::r);exact ⟨w9t h1,by simpa using this⟩
 · split at h
   · cases h;exact ⟨by omega,by omega⟩
   · split at h
     · obtain ⟨u',h1,rfl⟩:=j9c (Prod.mk.inj h).2
       have:=j6o _ (Nat.le_refl _) h1;omega
     · split at h
       · obtain ⟨u',h1,rfl⟩:=j9c (Prod.mk.inj h).2
         have:=z5o h1;omega
       · split at h
         · obtain ⟨u',h1,rfl⟩:=j9c (Prod.mk.inj h).2
           have:=x0f _ (Nat.le_refl _) h1;omega
         · split at h
           · cases h
           · rename_i h6
             cases h;have:=y0n (c::r);exact ⟨by omega,by simpa using this⟩
def z6a (out:List Tok):List Tok⊕(Nat×Int)→(List Tok×Unit)⊕(Int×Int×Unit)
 | .inl l => .inl (out++l,())
 | .inr (b,e) => .inr ((b:Int),e,())
def Tk.eok:Tk→Prop
 | .bad _ e=>e=4∨e=6
 | _=>True
theorem we {k:Tk} {l:List UInt8} {n:Nat} (h:k.eok):(k.push l n).eok:=by cases k<;>first | exact h | exact trivial
theorem y3v {k:Tk} (h:k.eok):k.up.eok:=by cases k<;>first | exact h | exact trivial
theorem g4s:∀(m:Nat) (r:List UInt8),r.length≤m→(qt r).eok
 | _,[],_=>trivial
 | 0,c::r,hm=>by simp at hm
 | m+1,c::r,hm=>by
  simp only [List.length_cons] at hm;by_cases e1:c.toNat=34
  · rw [k8b e1];trivial
  · by_cases e2:c.toNat=92
    · match r,hm with
      | [],hm=>rw [v4l e2];trivial
      | d::r',hm =>
       rw [x0p e2];cases zb d
       · exact .inl rfl
       · exact we (g4s m r' (by simp at hm;omega))
    · rw [k8a e1 e2]
      cases zb c
      · exact .inl rfl
      · exact we (g4s m r (by omega))
theorem w5e:∀r:List UInt8,(ltk r).eok
 | []=>trivial
 | c::r=>by
  unfold ltk;split
  · trivial
  · split
    · exact .inl rfl
    · split
      · exact .inl rfl
      · cases jp c
        · cases zb c
          · exact .inl rfl
          · exact we (w5e r)
        · exact .inl rfl
theorem v3j:∀(m deep:Nat) (r:List UInt8),r.length≤m→(nt deep r).eok
 | _,_,[],_=>by simp [nt,Tk.eok]
 | 0,_,c::r,hm=>by simp at hm
 | m+1,deep,c::r,hm=>by
  simp only [List.length_cons] at hm;by_cases e1:c.toNat=40
  · rw [k7d e1]
    split
    · exact .inr rfl
    · exact we (v3j m _ r (by omega))
  · by_cases e2:c.toNat=41
    · rw [v3i e2]
      split
      · trivial
      · exact we (v3j m _ r (by omega))
    · by_cases e3:c.toNat=92
      · match r,hm with
        | [],hm=>rw [x0d e3];trivial
        | d::r',hm =>
         rw [x0e e3];cases zb d
         · exact .inl rfl
         · exact we (v3j m _ r' (by simp at hm;omega))
      · rw [v3k e1 e2 e3]
        cases zb c
        · exact .inl rfl
        · exact we (v3j m _ r (by omega))
theorem f7t (c:UInt8) (r:List UInt8):(one c r).2.eok:=by
 unfold one;split
 · trivial
 · split
   · trivial
   · split
     · exact y3v (g4s _ r (Nat.le_refl _))
     · split
       · exact y3v (w5e r)
       · split
         · exact y3v (v3j _ _ r (Nat.le_refl _))
         · split<;>trivial
theorem l11 (s:List UInt8):∀(m:Nat) (r pre:List UInt8) (out:List Tok) (bad:Int) (p n:Nat),r.length≤m→s=pre++r→pre.length=p→r.length<n→p+r.length≤100000→out.length+r.length≤100000 →
 qc (q2k z1q C83) n (s,out,s,(p:Int),bad,0,())=some (z6a out (lx m r p))
 | _,_,_,_,_,_,0,_,_,_,hn,_,_=>by omega
 | 0,[],pre,out,bad,p,n+1,hm,hs,hp,hn,hb,ho=>by
  refine qk ?_;have:s.length=p:=by rw [hs];simp [hp]
  simp (disch:=(first | omega | (simp only [List.length_append,List.length_cons,List.length_nil];omega))) only [q2k,this,Sk,lx,z6a,List.append_nil]
 | m+1,[],pre,out,bad,p,n+1,hm,hs,hp,hn,hb,ho=>by
  refine qk ?_;have:s.length=p:=by rw [hs];simp [hp]
  simp (disch:=(first | omega | (simp only [List.length_append,List.length_cons,List.length_nil];omega))) only [q2k,this,Sk,lx,z6a,List.append_nil]
 | 0,c::r,pre,out,bad,p,n+1,hm,hs,hp,hn,hb,ho=>by simp at hm
 | m+1,c::r,pre,out,bad,p,n+1,hm,hs,hp,hn,hb,ho=>by
  simp only [List.length_cons] at hm hn hb ho;have h16:=c16 pre r c p bad 0 hp (by omega);have he:=f7t c r;rw [←hs] at h16;have hl:s.length=p+(r.length+1):=by rw [hs];simp [hp]
  cases h1:one c r with
  | mk k tk =>
   rw [h1] at h16 he;cases tk with
   | ok t u =>
    have hu:=q0t h1;rw [jl (v':=(s,out++[(k,t,(p:Int))],s,((p+u:Nat):Int),bad,0,())) (by
     simp (disch:=(first | omega | (simp only [List.length_append,List.length_cons,List.length_nil];omega))) only [q2k,hl,Sk,h16,q3g,za])]
    have:=l11 s m ((c::r).drop u) (pre++(c::r).take u) (out++[(k,t,(p:Int))]) bad (p+u) n (by simp;omega) (by rw [hs,List.append_assoc,List.take_append_drop]) (by simp [hp];omega) (by simp;omega) (by simp;omega) (by simp;omega);rw [this];simp only [lx,h1];cases lx m ((c::r).drop u) (p+u) with
    | inl l=>simp [z6a]
    | inr e=>rfl
   | bad off e =>
    have he':e=4∨e=6:=he;refine qk ?_;simp (disch:=(first | omega | (simp only [List.length_append,List.length_cons,List.length_nil];omega))) only [q2k,hl,Sk,h16,q3g,za,lx,h1,z6a]
   | start =>
    refine qk ?_;simp (disch:=(first | omega | (simp only [List.length_append,List.length_cons,List.length_nil];omega))) only [q2k,hl,Sk,h16,q3g,za,lx,h1,z6a]
theorem y9p:∀(n m:Nat) (s:List UInt8) (p:Nat),s.length≤n→s.length≤m→lx n s p=lx m s p
 | 0,0,_,_,_,_=>rfl
 | 0,m+1,[],p,_,_=>rfl
 | n+1,0,[],p,_,_=>rfl
 | n+1,m+1,[],p,_,_=>rfl
 | 0,_,c::r,p,h,_=>by simp at h
 | n+1,0,c::r,p,_,h=>by simp at h
 | n+1,m+1,c::r,p,h,h'=>by
  simp only [List.length_cons] at h h';simp only [lx];cases h1:one c r with
  | mk k tk =>
   cases tk with
   | ok t u =>
    have hu:=q0t h1;simp only;rw [y9p n m ((c::r).drop u) (p+u) (by simp;omega) (by simp;omega)]
   | bad off e=>rfl
   | start=>rfl
def yt (s:List UInt8) (p:Nat):List Tok⊕(Nat×Int):=lx s.length s p
theorem j8j (p:Nat):yt [] p = .inl []:=rfl
theorem j2j (c:UInt8) (r:List UInt8) (p:Nat):yt (c::r) p=match one c r with
 | (k,.ok t u)=>(match yt ((c::r).drop u) (p+u) with
  | .inl l => .inl ((k,t,(p:Int))::l)
  | .inr e => .inr e)
 | (_,.bad off e) => .inr (p+off,e)
 | (_,.start) => .inr (p,4):=by
 unfold yt;simp only [List.length_cons,lx];cases h1:one c r with
 | mk k tk =>
  cases tk with
  | ok t u =>
   have hu:=q0t h1;simp only;rw [y9p r.length ((c::r).drop u).length ((c::r).drop u) (p+u) (by simp;omega) (Nat.le_refl _)]
  | bad off e=>rfl
  | start=>rfl
def y9a (x:Tok):List Tok⊕(Nat×Int)→List Tok⊕(Nat×Int)
 | .inl l => .inl (x::l)
 | .inr e => .inr e
theorem kj {c:UInt8} {r t:List UInt8} {k:Int} {u:Nat} (h:one c r=(k,.ok t u)) (p:Nat):yt (c::r) p=y9a (k,t,(p:Int)) (yt ((c::r).drop u) (p+u)):=by
 rw [j2j,h];rfl
theorem v2n {c:UInt8} {r:List UInt8} {k e:Int} {off:Nat} (h:one c r=(k,.bad off e)) (p:Nat):yt (c::r) p = .inr (p+off,e):=by
 rw [j2j,h]
theorem y3d {c:UInt8} {r:List UInt8} {k:Int} (h:one c r=(k,.start)) (p:Nat):yt (c::r) p = .inr (p,4):=by
 rw [j2j,h]
def g1s:List Tok⊕(Nat×Int)→List Tok×Int×Int
 | .inl l=>(l,0,0)
 | .inr x=>([],(x.1:Int),x.2)
def k1p:Option Nat→List Tok⊕(Nat×Int)→List Tok×Int×Int
 | some b,_=>([],(b:Int),7)
 | none,x=>g1s x
def j9s (s:List UInt8):List Tok×Int×Int:=if 2000<s.length then ([],0,5) else k1p (utf s) (yt s 0)
theorem c11 (s:List UInt8):C67 (s,())=some ((j9s s).1,(j9s s).2.1,(j9s s).2.2,()):=by
 show F67 z1q C83 j6z (s,())=_;unfold j9s;by_cases h:2000<s.length
 · simp only [if_pos h]
   simp (disch:=(first | omega | (simp only [List.length_append,List.length_cons,List.length_nil];omega))) only [F67,Sk]
 · simp only [if_neg h]
   obtain ⟨o,h15⟩:=c15 s (by omega);cases hu:utf s with
   | some b =>
    rw [hu] at h15;simp only at h15;simp (disch:=(first | omega | (simp only [List.length_append,List.length_cons,List.length_nil];omega))) only [F67,Sk,h15,k1p]
   | none =>
    rw [hu] at h15;have hl:=l11 s s.length s [] [] 0 0 je (Nat.le_refl _) (by simp) rfl (by unfold je;omega) (by omega) (by simp;omega);have hl':j6z (s,[],s,0,0,0,())=some (z6a [] (yt s 0)):=hl;simp (disch:=(first | omega | (simp only [List.length_append,List.length_cons,List.length_nil];omega))) only [F67,Sk,h15,hl'];cases yt s 0 with
    | inl l=>simp [z6a,k1p,g1s]
    | inr x=>obtain ⟨b,e⟩:=x;simp [z6a,k1p,g1s]
theorem y9o:∀{r t:List UInt8} {u:Nat},ltk r = .ok t u→u=t.length+1∧∃x,r=t++93::x
 | [],t,u,h=>by simp [ltk] at h
 | c::r,t,u,h=>by
  unfold ltk at h;split at h
  · rename_i hc
    cases h;exact ⟨rfl,r,by rw [y0l hc];rfl⟩
  · split at h
    · cases h
    · split at h
      · cases h
      · cases h1:jp c<;>cases h2:zb c<;>rw [h1,h2] at h<;>simp only [cond_true,cond_false] at h<;>try (cases h;done)
        obtain ⟨t',u',h3,rfl,rfl⟩:=q0h h;obtain ⟨i1,x,i2⟩:=y9o h3;exact ⟨by simp;omega,x,by rw [i2];simp⟩
theorem y3f:∀(m:Nat) {r t:List UInt8} {u deep:Nat},r.length≤m→nt deep r = .ok t u→u=t.length+1∧∃x,r=t++41::x
 | _,[],t,u,deep,_,h=>by simp [nt] at h
 | 0,c::r,t,u,deep,hm,h=>by simp at hm
 | m+1,c::r,t,u,deep,hm,h=>by
  simp only [List.length_cons] at hm;have one:∀(d':Nat),(nt d' r).push [c] 1 = .ok t u→u=t.length+1∧∃x,c::r=t++41::x:=by
   intro d' h;obtain ⟨t',u',h1,rfl,rfl⟩:=q0h h;obtain ⟨i1,x,i2⟩:=y3f m (by omega) h1;exact ⟨by simp;omega,x,by rw [i2];simp⟩
  by_cases e1:c.toNat=40
  · rw [k7d e1] at h
    split at h
    · cases h
    · exact one _ h
  · by_cases e2:c.toNat=41
    · rw [v3i e2] at h
      split at h
      · cases h;exact ⟨rfl,r,by rw [y0l e2];rfl⟩
      · exact one _ h
    · by_cases e3:c.toNat=92
      · match r,hm,h with
        | [],hm,h=>rw [x0d e3] at h;cases h
        | d::r',hm,h =>
         simp only [List.length_cons] at hm;rw [x0e e3] at h;cases hd:zb d<;>rw [hd] at h
         · cases h
         · obtain ⟨t',u',h1,rfl,rfl⟩:=q0h h
           obtain ⟨i1,x,i2⟩:=y3f m (by omega) h1;exact ⟨by simp;omega,x,by rw [i2];simp⟩
      · rw [v3k e1 e2 e3] at h
        cases hd:zb c<;>rw [hd] at h
        · cases h
        · exact one _ h
theorem x0l {c:UInt8} {r t:List UInt8} {k:Int} {u:Nat} (h:one c r=(k,.ok t u)):(k≠1→src k t=(c::r).take u)∧(k=1→c=34∧t.length+2≤u):=by
 unfold one at h;split at h
 · cases h;exact ⟨fun _=>by simp [src],fun h=>by cases h⟩
 · split at h
   · cases h;exact ⟨fun _=>by simp [src],fun h=>by cases h⟩
   · split at h
     · rename_i hc
       obtain ⟨u',h1,rfl⟩:=j9c (Prod.mk.inj h).2;have hk:=(Prod.mk.inj h).1;have:=j6o _ (Nat.le_refl _) h1;exact ⟨fun hk'=>absurd hk.symm hk',fun _=>⟨y0l hc,by omega⟩⟩
     · split at h
       · rename_i hc
         obtain ⟨u',h1,rfl⟩:=j9c (Prod.mk.inj h).2;obtain ⟨i1,x,i2⟩:=y9o h1;have hk:=(Prod.mk.inj h).1;subst hk;refine ⟨fun _ => ?_,fun h=>by cases h⟩;rw [i2,i1,y0l hc];simp [src,Nat.add_comm 1,List.take_append,List.take_of_length_le]
       · split at h
         · rename_i hc
           obtain ⟨u',h1,rfl⟩:=j9c (Prod.mk.inj h).2;obtain ⟨i1,x,i2⟩:=y3f _ (Nat.le_refl _) h1;have hk:=(Prod.mk.inj h).1;subst hk;refine ⟨fun _ => ?_,fun h=>by cases h⟩;rw [i2,i1,y0l hc];simp [src,Nat.add_comm 1,List.take_append,List.take_of_length_le]
         · split at h
           · cases h
           · cases h;exact ⟨fun _=>by simp [src],fun h=>by cases h⟩
theorem j0y {c:UInt8} {r t:List UInt8} {k:Int} {u:Nat} (h:one c r=(k,.ok t u)):t.length≤u:=by
 obtain ⟨h1,h2⟩:=x0l h;have hu:=q0t h;by_cases hk:k=1
 · have:=(h2 hk).2;omega
 · have:=h1 hk
   have hl:t.length≤(src k t).length:=by
    unfold src;split
    · rename_i h;exact absurd h hk
    · split
      · simp;omega
      · split
        · simp;omega
        · omega
   rw [this] at hl;simp only [List.length_take,List.length_cons] at hl;omega
theorem x4u {x:Tok} {y:List Tok⊕(Nat×Int)} {l:List Tok} (h:y9a x y = .inl l):∃l',y = .inl l'∧l=x::l':=by cases y<;>simp [y9a] at h;exact ⟨_,rfl,h.symm⟩
theorem j8i {c:UInt8} {r:List UInt8} {p:Nat} {l:List Tok} (h:yt (c::r) p = .inl l):∃k t u l',one c r=(k,.ok t u)∧yt ((c::r).drop u) (p+u) = .inl l'∧l=(k,t,(p:Int))::l':=by
 cases h1:one c r with
 | mk k tk =>
  cases tk with
  | ok t u =>
   rw [kj h1] at h;obtain ⟨l',h2,h3⟩:=x4u h;exact ⟨k,t,u,l',rfl,h2,h3⟩
  | bad off e=>rw [v2n h1] at h;cases h
  | start=>rw [y3d h1] at h;cases h
def j0s (c:UInt8):Bool:=decide (c.toNat=9)||(decide (32≤c.toNat) && !decide (c.toNat=127))
theorem g2e:((List.range 256).all fun n=>(fun c:UInt8=>(j0s c&&zb c)||(!j0s c && !zb c)) (UInt8.ofNat n))=true:=by kernel_rfl
theorem j8d (c:UInt8):j0s c=zb c:=by
 have h:=ku (fun c:UInt8=>(j0s c&&zb c)||(!j0s c && !zb c)) g2e c;cases h1:j0s c<;>cases h2:zb c<;>simp_all
theorem f3d {c:UInt8} (h:c.toNat=34∨c.toNat=92):zb c=true:=by
 rw [←j8d];unfold j0s;rcases h with h | h<;>rw [h]<;>rfl
theorem v4m:∀(s x:List UInt8),(s.all zb=true→qt (esc s++34::x) = .ok s ((esc s).length+1))∧(s.all zb=false→∃off,qt (esc s++34::x) = .bad off 4)
 | [],x=>⟨fun _=>by rw [show esc []=[] from rfl,List.nil_append,k8b rfl];rfl,fun h=>by simp at h⟩
 | c::s,x=>by
  obtain ⟨i1,i2⟩:=v4m s x;have he:esc (c::s)++34::x=wx c++(esc s++34::x):=by simp [esc]
  have hl:(esc (c::s)).length=(wx c).length+(esc s).length:=by simp [esc]
  rw [he,hl];by_cases e1:c.toNat=34∨c.toNat=92
  · have hm:=f3d e1
    have h1:wx c=[92,c]:=by simp [wx,e1]
    rw [h1,List.cons_append,List.cons_append,List.nil_append,x0p rfl,hm,cond_true];refine ⟨fun h => ?_,fun h => ?_⟩
    · rw [i1 (by simpa [hm] using h)];simp [Tk.push];omega
    · obtain ⟨off,ho⟩:=i2 (by simpa [hm] using h)
      rw [ho];exact ⟨_,rfl⟩
  · have h1:wx c=[c]:=by simp [wx,e1]
    have e2:¬c.toNat=34:=fun h=>e1 (.inl h);have e3:¬c.toNat=92:=fun h=>e1 (.inr h);rw [h1,List.cons_append,List.nil_append,k8a e2 e3];cases hm:zb c with
    | true =>
     rw [cond_true];refine ⟨fun h => ?_,fun h => ?_⟩
     · rw [i1 (by simpa [hm] using h)];simp [Tk.push];omega
     · obtain ⟨off,ho⟩:=i2 (by simpa [hm] using h)
       rw [ho];exact ⟨_,rfl⟩
    | false=>exact ⟨fun h=>by simp [hm] at h,fun _=>⟨0,rfl⟩⟩
theorem z7w:(jo 34||q3f 34)=false:=by kernel_rfl
theorem f7v (r:List UInt8):one 34 r=(1,(qt r).up):=by
 have h:=z7w;simp only [Bool.or_eq_false_iff] at h;unfold one;rw [if_neg (by rw [h.1];decide),if_neg (by rw [h.2];decide),if_pos (show UInt8.toNat 34=34 from rfl)]
def j7u (c:UInt8):Bool:=decide (c.toNat<128)
theorem f1k:((List.range 256).all fun n=>(fun c:UInt8 => !j7u c||(decide (jz c=0)&&decide (z8z (q2b c)=1))) (UInt8.ofNat n))=true:=by kernel_rfl
theorem z5c {c:UInt8} (h:c.toNat<128) (r:List UInt8):ch (c::r)=1:=by
 have h1:(!j7u c||(decide (jz c=0)&&decide (z8z (q2b c)=1)))=true:=ku (fun c:UInt8 => !j7u c||(decide (jz c=0)&&decide (z8z (q2b c)=1))) f1k c;have h2:j7u c=true:=by simp [j7u,h]
 simp only [h2,Bool.not_true,Bool.false_or,Bool.and_eq_true,decide_eq_true_eq] at h1;simp [ch,h1.1,xg,h1.2]
def y3m (c:UInt8):Bool := !jo c||(zb c && !decide (c.toNat=40∨c.toNat=41∨c.toNat=92))
theorem k7z:((List.range 256).all fun n=>y3m (UInt8.ofNat n))=true:=by kernel_rfl
theorem x9m {c:UInt8} (h:jo c=true):zb c=true∧¬c.toNat=40∧¬c.toNat=41∧¬c.toNat=92:=by
 have:=ku y3m k7z c;simp only [y3m,h,Bool.not_true,Bool.false_or,Bool.and_eq_true,Bool.not_eq_true',decide_eq_false_iff_not,not_or] at this;exact ⟨this.1,this.2.1,this.2.2.1,this.2.2.2⟩
theorem x5q (k:Tk) (a b:List UInt8) (n m:Nat):(k.push b m).push a n=k.push (a++b) (n+m):=by
 cases k<;>simp [Tk.push,Nat.add_assoc]
theorem v4j (k:Tk):k.push [] 0=k:=by cases k<;>simp [Tk.push]
theorem z9k (deep:Nat) (x:List UInt8):∀s:List UInt8,s.all jo=true→nt deep (s++x)=(nt deep x).push s s.length
 | [],_=>(v4j _).symm
 | c::s,h=>by
  simp only [List.all_cons,Bool.and_eq_true] at h;obtain ⟨h1,h2,h3,h4⟩:=x9m h.1;rw [List.cons_append,v3k h2 h3 h4,h1,cond_true,z9k deep x s h.2,x5q];simp [Nat.add_comm]
theorem z4y:(jo 40||q3f 40)=false:=by kernel_rfl
theorem f7u (r:List UInt8):one 40 r=(3,(nt 1 r).up):=by
 have h:=z4y;simp only [Bool.or_eq_false_iff] at h;unfold one;rw [if_neg (by rw [h.1];decide),if_neg (by rw [h.2];decide),if_neg (show ¬UInt8.toNat 40=34 by decide),if_neg (show ¬UInt8.toNat 40=91 by decide),if_pos (show UInt8.toNat 40=40 from rfl)]
def x5u (l:List Tok):List UInt8:=l.flatMap fun x=>src x.1 x.2.1
def stops (p:UInt8→Bool):List UInt8→Prop
 | []=>True
 | b::_=>p b=false
theorem x9h {X:List UInt8} (hX:stops jo X):∀y:List UInt8,y.all jo=true→al (y++X)=y.length
 | [],_=>by
  cases X with
  | nil=>rfl
  | cons b X=>have:jo b=false:=hX;simp [al,this]
 | c::y,h=>by
  simp only [List.all_cons,Bool.and_eq_true] at h;simp only [List.cons_append,al,h.1,cond_true,List.length_cons,x9h hX y h.2]
theorem v2q (X:List UInt8):∀{r t:List UInt8} {u:Nat},ltk r = .ok t u→ltk (t++93::X) = .ok t u
 | [],t,u,h=>by simp [ltk] at h
 | c::r,t,u,h=>by
  unfold ltk at h;split at h
  · cases h;simp [ltk]
  · rename_i e1
    split at h
    · cases h
    · rename_i e2
      split at h
      · cases h
      · rename_i e3
        cases h1:jp c<;>cases h2:zb c<;>rw [h1,h2] at h<;>simp only [cond_true,cond_false] at h<;>try (cases h;done)
        obtain ⟨t',u',h3,rfl,rfl⟩:=q0h h;have:=v2q X h3;simp only [List.cons_append,List.nil_append,ltk,if_neg e1,if_neg e2,if_neg e3,h1,h2,cond_true,cond_false,this,Tk.push]
theorem y0h:∀(m:Nat) (s:List UInt8) (p:Nat) (l:List Tok),s.length≤m→yt s p = .inl l→(x5u l).length≤2*s.length∧(∀x∈l,x.2.1.length≤s.length)∧((∀x∈l,x.1≠1)→x5u l=s)
 | _,[],p,l,_,h=>by rw [j8j] at h;cases h;simp [x5u]
 | 0,c::r,p,l,hm,h=>by simp at hm
 | m+1,c::r,p,l,hm,h=>by
  obtain ⟨k,t,u,l',h1,h2,rfl⟩:=j8i h;have hu:=q0t h1;obtain ⟨i1,i2,i3⟩:=y0h m ((c::r).drop u) (p+u) l' (by simp at hm ⊢;omega) h2;obtain ⟨f1,f2⟩:=x0l h1;have ht:=j0y h1;have hs:x5u ((k,t,(p:Int))::l')=src k t++x5u l':=rfl;simp only [List.length_drop,List.length_cons] at i1 i2 ⊢;refine ⟨?_,fun x hx => ?_,fun hq => ?_⟩
  · rw [hs,List.length_append]
    by_cases hk:k=1
    · have:=(f2 hk).2
      have he:=j0q t;have:(src k t).length=(esc t).length+2:=by simp [src,hk]
      omega
    · rw [f1 hk,List.length_take,List.length_cons];omega
  · rcases List.mem_cons.1 hx with rfl | hx
    · simp only;omega
    · have:=i2 x hx;omega
  · rw [hs,f1 (hq (k,t,(p:Int)) (by simp)),i3 fun x hx=>hq x (by simp [hx]),List.take_append_drop]
inductive Val:List UInt8→Prop
 | nil:Val []
 | cons (s:List UInt8) (h:ch s≠0) (h2:Val (s.drop (ch s))):Val s
theorem v5c:∀(n:Nat) (s:List UInt8) (p:Nat),s.length<n→ut n s p=none→Val s
 | 0,_,_,h,_=>by omega
 | n+1,s,p,h,hu=>by
  unfold ut at hu;split at hu
  · rename_i hs;subst hs;exact .nil
  · split at hu
    · cases hu
    · rename_i hs h0
      have:=x9w s;exact .cons s h0 (v5c n _ _ (by simp;omega) hu)
theorem g4x {s:List UInt8} (h:Val s):∀(n p:Nat),ut n s p=none:=by
 induction h with
 | nil=>intro n p;cases n<;>simp [ut]
 | cons s h h2 ih =>
  intro n p;cases n with
  | zero=>rfl
  | succ n =>
   unfold ut;split
   · rfl
   · first | exact ih n _ | (rw [if_neg h];exact ih n _)
theorem z6g {s:List UInt8} (hl:s.length≤1000000):utf s=none↔Val s :=
 ⟨fun h=>v5c _ _ _ (by unfold je;omega) h,fun h=>g4x h _ _⟩
def v0b (c:UInt8):Bool := !j2v c||decide (128≤c.toNat)
theorem g0b:((List.range 256).all fun n=>v0b (UInt8.ofNat n))=true:=by kernel_rfl
theorem k1e {c:UInt8} (h:j2v c=true):128≤c.toNat:=by
 have:=ku v0b g0b c;simpa [v0b,h] using this
theorem z8h:∀(n:Nat) (r:List UInt8) (v v':Int),xg n r v=some v'→n≤r.length∧∀c∈r.take n,128≤c.toNat
 | 0,r,v,v',_=>⟨by omega,by simp⟩
 | n+1,[],v,v',h=>by simp [xg] at h
 | n+1,c::r,v,v',h=>by
  cases hc:j2v c with
  | true =>
   simp only [xg,hc,cond_true] at h;obtain ⟨h1,h2⟩:=z8h n r _ _ h;refine ⟨by simp;omega,fun x hx => ?_⟩;rw [List.take_succ_cons] at hx;rcases List.mem_cons.1 hx with rfl | hx
   · exact k1e hc
   · exact h2 x hx
  | false=>simp [xg,hc] at h
theorem j2e:∀(n:Nat) (r x:List UInt8) (v:Int),n≤r.length→xg n (r++x) v=xg n r v
 | 0,r,x,v,_=>by cases r<;>rfl
 | n+1,[],x,v,h=>by simp at h
 | n+1,c::r,x,v,h=>by
  simp only [List.cons_append,xg];cases j2v c
  · rfl
  · exact j2e n r x _ (by simpa using h)
theorem z5d {c:UInt8} {r:List UInt8} (h:ch (c::r)≠0):∃v,¬jz c<0∧¬r.length<(jz c).toNat∧xg (jz c).toNat r (q2b c)=some v∧z8z v=jz c+1∧ch (c::r)=(jz c).toNat+1:=by
 simp only [ch] at h;split at h
 · exact absurd rfl h
 · rename_i h1
   split at h
   · exact absurd rfl h
   · rename_i h2
     split at h
     · exact absurd rfl h
     · rename_i v hv
       split at h
       · rename_i h3
         exact ⟨v,h1,h2,hv,h3,by simp [ch,h1,h2,hv,h3]⟩
       · exact absurd rfl h
theorem x9v {s x:List UInt8} (h:ch s≠0):ch (s++x)=ch s:=by
 cases s with
 | nil=>exact absurd rfl h
 | cons c r =>
  obtain ⟨v,h1,h2,h3,h4,h5⟩:=z5d h;have:xg (jz c).toNat (r++x) (q2b c)=some v:=by rw [j2e _ _ _ _ (by omega),h3]
  rw [h5,List.cons_append];simp only [ch,if_neg h1,if_neg (show ¬(r++x).length<(jz c).toNat by simp;omega),this,if_pos h4]
theorem x9x {s x:List UInt8} (h:ch (s++x)≠0) (hl:ch (s++x)≤s.length):ch s=ch (s++x):=by
 cases s with
 | nil=>simp at hl;exact absurd hl h
 | cons c r =>
  obtain ⟨v,h1,h2,h3,h4,h5⟩:=z5d (r:=r++x) h;have h5':ch (c::r++x)=(jz c).toNat+1:=h5;rw [h5'] at hl ⊢;simp only [List.length_cons] at hl;rw [j2e _ _ _ _ (by omega)] at h3;simp only [ch,if_neg h1,if_neg (show ¬r.length<(jz c).toNat by omega),h3,if_pos h4]
theorem Val.app {a b:List UInt8} (ha:Val a) (hb:Val b):Val (a++b):=by
 induction ha with
 | nil=>exact hb
 | cons s h h2 ih =>
  have:=x9w s;refine .cons _ (by rw [x9v h];exact h) ?_;rw [x9v h,List.drop_append,show ch s - s.length=0 by omega,List.drop_zero];exact ih
theorem Val.one {c:UInt8} (h:c.toNat<128):Val [c] := .cons _ (by rw [z5c h];simp) (by rw [z5c h];exact .nil)
theorem Val.split:∀(m:Nat) (a:List UInt8) (c:UInt8) (b:List UInt8),a.length≤m→c.toNat<128→Val (a++c::b)→Val a∧Val b
 | m,[],c,b,_,hc,h=>by
  refine ⟨.nil,?_⟩;cases h with
  | cons _ h h2=>simpa [z5c hc] using h2
 | 0,d::a,c,b,hm,hc,h=>by simp at hm
 | m+1,d::a,c,b,hm,hc,h=>by
  cases h with
  | cons _ h0 h2 =>
   have hk:ch (d::a++c::b)≤(d::a).length:=by
    by_cases hd:d.toNat<128
    · have:ch (d::a++c::b)=1:=z5c hd _
      rw [this];simp
    · obtain ⟨v,g1,g2,g3,g4,g5⟩:=z5d (r:=a++c::b) h0
      have g5':ch (d::a++c::b)=(jz d).toNat+1:=g5;rw [g5',List.length_cons];obtain ⟨e1,e2⟩:=z8h _ _ _ _ g3;rcases Nat.lt_or_ge a.length (jz d).toNat with hlt | hge
      · exfalso
        have:c∈(a++c::b).take (jz d).toNat:=by
         rw [List.take_append];obtain ⟨j,hj⟩:∃j,(jz d).toNat - a.length=j+1:=⟨(jz d).toNat - a.length - 1,by omega⟩
         rw [hj,List.take_succ_cons];simp
        have:=e2 c this;omega
      · omega
   have hsame:=x9x (s:=d::a) (x:=c::b) h0 hk;have h0':ch (d::a)≠0:=by rw [hsame];exact h0
   rw [List.drop_append,show ch (d::a++c::b) - (d::a).length=0 by omega,List.drop_zero,←hsame] at h2;obtain ⟨i1,i2⟩:=Val.split m ((d::a).drop (ch (d::a))) c b (by simp at hm ⊢;omega) hc h2;exact ⟨.cons _ h0' i1,i2⟩
theorem Val.cut {a b:List UInt8} {c:UInt8} (hc:c.toNat<128) (h:Val (a++c::b)):Val a∧Val b:=Val.split _ a c b (Nat.le_refl _) hc h
theorem Val.glue {a b:List UInt8} {c:UInt8} (hc:c.toNat<128) (ha:Val a) (hb:Val b):Val (a++c::b):=ha.app ((Val.one hc).app hb)
theorem x0x:∀(t a:List UInt8),Val (a++t)→Val (a++esc t)
 | [],a,h=>h
 | c::t,a,h=>by
  have he:a++esc (c::t)=(a++wx c)++esc t:=by simp [esc]
  rw [he];refine x0x t _ ?_;by_cases e1:c.toNat=34∨c.toNat=92
  · have hc:c.toNat<128:=by omega
    obtain ⟨i1,i2⟩:=Val.cut hc h;have h1:wx c=[92,c]:=by simp [wx,e1]
    rw [h1,show a++[92,c]++t=a++92::([]++c::t) by simp];exact Val.glue (by decide) i1 (Val.glue hc .nil i2)
  · have h1:wx c=[c]:=by simp [wx,e1]
    rw [h1];simpa using h
def kd (d:Nat) (l:List Tok):Int:=match l[d]? with | some t=>t.1 | none => -1
theorem gdk {pre l:List Tok} {p d:Nat} (hp:pre.length=p) {x:Tok}:(pre++l).getD (p+d) x=l.getD d x:=by
 subst hp;simp [List.getD_eq_getElem?_getD,List.getElem?_append_right]
theorem y2a (d:Nat) (pre l:List Tok) (p:Nat) (a b:List UInt8) (hp:pre.length=p) (hb:p+d+l.length≤1000000000) :
 yl ((d:Int),pre++l,(p:Int),a,b,())=some (kd d l,pre++l,(p:Int),a,b,()):=by
 show v6b q7a _=_;have hw:IntKind.i64.wrap ((p:Int)+(d:Int))=((p+d:Nat):Int):=by rw [wr (by omega) (by omega)];simp
 have hlen:(pre++l).length=p+l.length:=by simp [hp]
 simp only [v6b,hw,hlen];by_cases h:l.length≤d
 · rw [decide_eq_true (by omega)]
   simp only [cond_true,kd,List.getElem?_eq_none h]
 · rw [decide_eq_false (by omega)]
   simp only [cond_false,q7a,z2y,hw,hlen];rw [decide_eq_true (by omega),decide_eq_true (by omega)];simp only [Bool.and_self,cond_true,Int.toNat_natCast,Option.bind_some];rw [gdk hp];simp only [kd,List.getElem?_eq_getElem (show d<l.length by omega),getD_lt (show d<l.length by omega)]
def skn:List Tok→Nat
 | []=>0
 | t::r=>bif t.1==4||t.1==3 then skn r+1 else 0
theorem z6c:∀l,skn l≤l.length
 | []=>Nat.le_refl _
 | t::r=>by have:=z6c r;simp only [skn];cases (t.1==4||t.1==3)<;>simp;omega
theorem q2y (t:Tok) (r:List Tok):kd 0 (t::r)=t.1:=rfl
theorem g3e (a b:List UInt8):∀(l pre:List Tok) (p n:Nat),pre.length=p→l.length<n→p+l.length≤100000000 →
 qc (q1g yl) n (pre++l,(p:Int),a,b,())=some (pre++l,((p+skn l:Nat):Int),a,b,())
 | [],pre,p,n+1,hp,hn,hb=>by
  have h:=y2a 0 pre [] p a b hp (by simp at hb ⊢;omega);refine qk ?_;simp only [q1g,Int.natCast_zero] at h ⊢;simp only [h,Option.bind_some,show kd 0 ([]:List Tok) = -1 from rfl,ibF (show (-1:Int)≠4 by decide),ibF (show (-1:Int)≠3 by decide),cond_false,skn,Nat.add_zero]
 | t::l,pre,p,n+1,hp,hn,hb=>by
  simp only [List.length_cons] at hn hb;have h:=y2a 0 pre (t::l) p a b hp (by simp only [List.length_cons];omega);simp only [Int.natCast_zero,q2y] at h;have hw:=wrN p (by omega);by_cases h4:t.1=4
  · rw [jl (v':=(pre++t::l,((p+1:Nat):Int),a,b,())) (by simp only [q1g,h,Option.bind_some,ibT h4,cond_true,hw])]
    rw [shift,g3e a b l (pre++[t]) (p+1) n (by simp [hp]) (by omega) (by omega)];simp only [skn,ibT h4,Bool.true_or,cond_true,Nat.add_assoc,Nat.add_comm 1]
  · by_cases h3:t.1=3
    · rw [jl (v':=(pre++t::l,((p+1:Nat):Int),a,b,())) (by simp only [q1g,h,Option.bind_some,ibF h4,ibT h3,cond_true,cond_false,hw])]
      rw [shift,g3e a b l (pre++[t]) (p+1) n (by simp [hp]) (by omega) (by omega)];simp only [skn,ibT h3,Bool.or_true,cond_true,Nat.add_assoc,Nat.add_comm 1]
    · refine qk ?_
      simp only [q1g,h,Option.bind_some,ibF h4,ibF h3,cond_false,skn,Bool.or_self,Nat.add_zero]
theorem b3i (pre l:List Tok) (p:Nat) (a b:List UInt8) (hp:pre.length=p) (hb:p+l.length≤100000000) :
 x1a (pre++l,(p:Int),a,b,())=some (true,pre++l,((p+skn l:Nat):Int),a,b,()):=by
 show v5r yl q6s _=_;have hl:q6s (pre++l,(p:Int),a,b,())=_:=g3e a b l pre p je hp (by unfold je;omega) hb;simp only [v5r,hl,Option.bind_some]
def sgn (s:List UInt8):List Tok→Bool
 | t::_=>t.1==2&&t.2.1==s
 | []=>false
theorem f1m (s:List UInt8) (pre l:List Tok) (p:Nat) (a b:List UInt8) (hp:pre.length=p) (hb:p+l.length≤100000000) :
 q7d (s,pre++l,(p:Int),a,b,())=some (sgn s l,pre++l,(p:Int),a,b,()):=by
 show x7w yl _=_;have h:=y2a 0 pre l p a b hp (by omega);simp only [Int.natCast_zero] at h;have hlen:(pre++l).length=p+l.length:=by simp [hp]
 cases l with
 | nil=>simp only [x7w,h,Option.bind_some,show kd 0 ([]:List Tok) = -1 from rfl,ibF (show (-1:Int)≠2 by decide),cond_false,sgn]
 | cons t r =>
  simp only [List.length_cons] at hlen hb;simp only [x7w,h,Option.bind_some,q2y];by_cases h2:t.1=2
  · simp only [ibT h2,cond_true,hlen,sgn,Bool.true_and]
    rw [decide_eq_true (by omega),decide_eq_true (by omega)];simp only [Bool.and_self,cond_true,Int.toNat_natCast,gd hp]
  · simp only [ibF h2,cond_false,sgn,Bool.false_and]
def szT:List Tok→Nat
 | []=>0
 | t::r=>t.2.1.length+szT r
def dwn (acc:List UInt8):List Tok→List UInt8×Nat
 | t::u::r=>bif (t.1==2&&t.2.1==[46])&&u.1==0 then ((dwn (acc++([46]++u.2.1)) r).1,(dwn (acc++([46]++u.2.1)) r).2+2) else (acc,0)
 | _=>(acc,0)
theorem f3a (a b:List UInt8):∀(m:Nat) (l pre:List Tok) (acc:List UInt8) (p n:Nat),l.length≤m→pre.length=p→l.length<n→p+l.length≤100000000→acc.length+szT l+l.length≤100000000 →
 qc (wz yl q7d) n (acc,pre++l,(p:Int),a,b,())=some ((dwn acc l).1,pre++l,((p+(dwn acc l).2:Nat):Int),a,b,())
 | m,l,pre,acc,p,n+1,hm,hp,hn,hb,hz=>by
  have h:=f1m [46] pre l p a b hp hb;have hlen:(pre++l).length=p+l.length:=by simp [hp]
  have hw:=wrN p (by omega);have h1:=y2a 1 pre l p a b hp (by omega);simp only [Int.natCast_one] at h1
  match l,hm,hn,hb,hz,h,hlen,h1 with
  | [],hm,hn,hb,hz,h,hlen,h1 =>
   refine qk ?_;simp only [wz,h,Option.bind_some,sgn,cond_false,dwn,Nat.add_zero]
  | [t],hm,hn,hb,hz,h,hlen,h1 =>
   refine qk ?_;simp only [wz,h,Option.bind_some,sgn];cases hs:(t.1==2&&t.2.1==[46]) with
   | false=>simp only [cond_false,dwn,Nat.add_zero]
   | true=>simp only [cond_true,h1,Option.bind_some,show kd 1 [t] = -1 from rfl,ibF (show (-1:Int)≠0 by decide),cond_false,dwn,Nat.add_zero]
  | t::u::r,hm,hn,hb,hz,h,hlen,h1 =>
   simp only [List.length_cons,szT] at hm hn hb hz hlen;cases hs:(t.1==2&&t.2.1==[46]) with
   | false =>
    refine qk ?_;simp only [wz,h,Option.bind_some,sgn,hs,cond_false,dwn,Bool.false_and,Nat.add_zero]
   | true =>
    by_cases hu:u.1=0
    · have hgd:(pre++t::u::r).getD (p+1) ((0,([],0)):Tok)=u:=by rw [gdk hp];rfl
      rw [jl (v':=(acc++([46]++u.2.1),pre++t::u::r,((p+2:Nat):Int),a,b,())) ?_]
      · rw [show pre++t::u::r=(pre++[t,u])++r by simp]
        rw [f3a a b (m - 2) r (pre++[t,u]) _ (p+2) n (by omega) (by simp [hp]) (by omega) (by omega) (by simp only [List.length_append,List.length_cons,List.length_nil];omega)];simp only [dwn,hs,ibT hu,Bool.and_self,cond_true];rw [show p+2+(dwn (acc++([46]++u.2.1)) r).2=p+((dwn (acc++([46]++u.2.1)) r).2+2) by omega]
      · simp only [wz,h,Option.bind_some,sgn,hs,cond_true,h1,show kd 1 (t::u::r)=u.1 from rfl,ibT hu,hw,hlen,Int.toNat_natCast,hgd]
        rw [decide_eq_true (by omega),decide_eq_true (by omega),decide_eq_true (by simp only [List.length_cons,List.length_nil];omega),decide_eq_true (by simp only [List.length_append,List.length_cons,List.length_nil];omega)];simp only [Bool.and_self,cond_true];rw [show IntKind.i64.wrap ((p:Int)+2)=((p+2:Nat):Int) by rw [wr (by omega) (by omega)];simp]
    · refine qk ?_
      simp only [wz,h,Option.bind_some,sgn,hs,cond_true,h1,show kd 1 (t::u::r)=u.1 from rfl,ibF hu,cond_false,dwn,Bool.and_false,Nat.add_zero]
def dot:List Tok→List UInt8×Bool×Nat
 | t::r=>bif t.1==0 then ((dwn t.2.1 r).1,true,(dwn t.2.1 r).2+1) else ([],false,0)
 | []=>([],false,0)
theorem f1l (pre l:List Tok) (p:Nat) (a b:List UInt8) (hp:pre.length=p) (hb:p+l.length≤100000000) (hz:szT l+l.length≤100000000) :
 q7b (pre++l,(p:Int),a,b,())=some ((dot l).1,(dot l).2.1,pre++l,((p+(dot l).2.2:Nat):Int),a,b,()):=by
 show x7v yl q7d q7c _=_;have h:=y2a 0 pre l p a b hp (by omega);simp only [Int.natCast_zero] at h;have hlen:(pre++l).length=p+l.length:=by simp [hp]
 have hw:=wrN p (by omega);cases l with
 | nil=>simp only [x7v,h,Option.bind_some,show kd 0 ([]:List Tok) = -1 from rfl,inT (show (-1:Int)≠0 by decide),cond_true,dot,Nat.add_zero]
 | cons t r =>
  simp only [List.length_cons,szT] at hlen hb hz;simp only [x7v,h,Option.bind_some,q2y];by_cases h0:t.1=0
  · have hl:j4b (t.2.1,(pre++[t])++r,((p+1:Nat):Int),a,b,())=_:=f3a a b r.length r (pre++[t]) t.2.1 (p+1) je (Nat.le_refl _) (by simp [hp]) (by unfold je;omega) (by omega) (by omega)
    rw [←shift] at hl;simp only [inF h0,cond_false,hlen,Int.toNat_natCast,gd hp];rw [decide_eq_true (by omega),decide_eq_true (by omega)];simp only [Bool.and_self,cond_true,q7c,z2z,hw,hl,Option.bind_some,dot,ibT h0];rw [show p+1+(dwn t.2.1 r).2=p+((dwn t.2.1 r).2+1) by omega]
  · simp only [inT h0,cond_true,dot,ibF h0,cond_false,Nat.add_zero]
def loc:List Tok→Bool×List UInt8×Nat
 | t::r=>bif t.1==1 then (true,t.2.1,1) else ((dot (t::r)).2.1,(dot (t::r)).1,(dot (t::r)).2.2)
 | []=>(false,[],0)
theorem b3j (pre l:List Tok) (p:Nat) (a b:List UInt8) (hp:pre.length=p) (hb:p+l.length≤100000000) (hz:szT l+l.length≤100000000) :
 x1b (pre++l,(p:Int),a,b,())=some ((loc l).1,pre++l,((p+(loc l).2.2:Nat):Int),(loc l).2.1,b,()):=by
 show x7s yl q7b q6t _=_;have h:=y2a 0 pre l p a b hp (by omega);have hd:=f1l pre l p a b hp hb hz;simp only [Int.natCast_zero] at h;have hlen:(pre++l).length=p+l.length:=by simp [hp]
 have hw:=wrN p (by omega);cases l with
 | nil=>simp only [x7s,h,Option.bind_some,show kd 0 ([]:List Tok) = -1 from rfl,ibF (show (-1:Int)≠1 by decide),cond_false,hd,dot,loc,Nat.add_zero]
 | cons t r =>
  simp only [List.length_cons] at hlen hb;simp only [x7s,h,Option.bind_some,q2y];by_cases h1:t.1=1
  · simp only [ibT h1,cond_true,hlen,Int.toNat_natCast,gd hp]
    rw [decide_eq_true (by omega),decide_eq_true (by omega)];simp only [Bool.and_self,cond_true,q6t,z2t,hw,Option.bind_some,loc,ibT h1]
  · simp only [ibF h1,cond_false,hd,Option.bind_some,loc]
theorem b3k (pre l:List Tok) (p:Nat) (a b:List UInt8) (hp:pre.length=p) (hb:p+l.length≤100000000) :
 x1c (pre++l,(p:Int),a,b,())=some (sgn [64] l,pre++l,((p+1:Nat):Int),a,b,()):=by
 show v5s q7d _=_;simp only [v5s,f1m [64] pre l p a b hp hb,Option.bind_some,wrN p (show p≤9223372036854775806 by omega)]
def dom:List Tok→Bool×List UInt8×Nat
 | t::r=>bif t.1==5 then (true,src t.1 t.2.1,1) else ((dot (t::r)).2.1,(dot (t::r)).1,(dot (t::r)).2.2)
 | []=>(false,[],0)
theorem b3l (pre l:List Tok) (p:Nat) (a b:List UInt8) (hp:pre.length=p) (hb:p+l.length≤100000000) (hz:szT l+l.length≤9000) :
 x1d (pre++l,(p:Int),a,b,())=some ((dom l).1,pre++l,((p+(dom l).2.2:Nat):Int),a,(dom l).2.1,()):=by
 show x7t yl q7b C89 q6u _=_;have h:=y2a 0 pre l p a b hp (by omega);have hd:=f1l pre l p a b hp hb (by omega);simp only [Int.natCast_zero] at h;have hlen:(pre++l).length=p+l.length:=by simp [hp]
 have hw:=wrN p (by omega);cases l with
 | nil=>simp only [x7t,h,Option.bind_some,show kd 0 ([]:List Tok) = -1 from rfl,ibF (show (-1:Int)≠5 by decide),cond_false,hd,dot,dom,Nat.add_zero]
 | cons t r =>
  simp only [List.length_cons,szT] at hlen hb hz;simp only [x7t,h,Option.bind_some,q2y];by_cases h1:t.1=5
  · simp only [ibT h1,cond_true,hlen,Int.toNat_natCast,gd hp]
    rw [decide_eq_true (by omega),decide_eq_true (by omega),c9 t.1 t.2.1 t.2.2 (by omega)];simp only [Bool.and_self,cond_true,q6u,z2u,hw,Option.bind_some,dom,ibT h1]
  · simp only [ibF h1,cond_false,hd,Option.bind_some,dom]
theorem j9b:∀(p:Nat) (l:List Tok),szT (l.drop p)≤szT l
 | 0,l=>Nat.le_refl _
 | p+1,[]=>Nat.le_refl _
 | p+1,t::r=>Nat.le_trans (j9b p r) (by simp only [szT];omega)
theorem k7e (l:List Tok) (p:Nat) (a b:List UInt8) (hp:p≤l.length) (hb:l.length≤9000) :
 x1a (l,(p:Int),a,b,())=some (true,l,((p+skn (l.drop p):Nat):Int),a,b,()):=by
 have h:=b3i (l.take p) (l.drop p) p a b (by simp;omega) (by simp;omega)
 rwa [List.take_append_drop] at h
theorem b8f (l:List Tok) (p:Nat) (a b:List UInt8) (hp:p≤l.length) (hb:szT l+l.length≤9000) :
 x1b (l,(p:Int),a,b,())=some ((loc (l.drop p)).1,l,((p+(loc (l.drop p)).2.2:Nat):Int),(loc (l.drop p)).2.1,b,()):=by
 have hs:=j9b p l;have h:=b3j (l.take p) (l.drop p) p a b (by simp;omega) (by simp;omega) (by simp;omega)
 rwa [List.take_append_drop] at h
theorem b8g (l:List Tok) (p:Nat) (a b:List UInt8) (hp:p≤l.length) (hb:l.length≤9000) :
 x1c (l,(p:Int),a,b,())=some (sgn [64] (l.drop p),l,((p+1:Nat):Int),a,b,()):=by
 have h:=b3k (l.take p) (l.drop p) p a b (by simp;omega) (by simp;omega)
 rwa [List.take_append_drop] at h
theorem b8h (l:List Tok) (p:Nat) (a b:List UInt8) (hp:p≤l.length) (hb:szT l+l.length≤9000) :
 x1d (l,(p:Int),a,b,())=some ((dom (l.drop p)).1,l,((p+(dom (l.drop p)).2.2:Nat):Int),a,(dom (l.drop p)).2.1,()):=by
 have hs:=j9b p l;have h:=b3l (l.take p) (l.drop p) p a b (by simp;omega) (by simp;omega) (by simp;omega)
 rwa [List.take_append_drop] at h
theorem v0s:∀(m:Nat) (l:List Tok) (acc:List UInt8),l.length≤m→(dwn acc l).2≤l.length
 | _,[],_,_=>Nat.le_refl _
 | _,[_],_,_=>Nat.zero_le _
 | 0,_::_::_,_,h=>by simp at h
 | m+1,t::u::r,acc,h=>by
  have:=v0s m r (acc++([46]++u.2.1)) (by simp at h;omega);simp only [dwn];cases ((t.1==2&&t.2.1==[46])&&u.1==0) with
  | true=>simp only [cond_true,List.length_cons];omega
  | false=>simp only [cond_false];omega
theorem v0q (l:List Tok):(dot l).2.2≤l.length:=by
 cases l with
 | nil=>exact Nat.le_refl _
 | cons t r =>
  have:=v0s r.length r t.2.1 (Nat.le_refl _);simp only [dot];cases (t.1==0) with
  | true=>simp only [cond_true,List.length_cons];omega
  | false=>simp only [cond_false];omega
theorem g3i (l:List Tok):(loc l).2.2≤l.length:=by
 cases l with
 | nil=>exact Nat.le_refl _
 | cons t r =>
  have:=v0q (t::r);simp only [loc];cases (t.1==1) with
  | true=>simp
  | false=>simpa using this
theorem g1q (l:List Tok):(dom l).2.2≤l.length:=by
 cases l with
 | nil=>exact Nat.le_refl _
 | cons t r =>
  have:=v0q (t::r);simp only [dom];cases (t.1==5) with
  | true=>simp
  | false=>simpa using this
def mt (l:List Tok):Option (List UInt8×List UInt8×Nat) :=
 let n1:=skn l
 let n2:=n1+(loc (l.drop n1)).2.2
 let n3:=n2+skn (l.drop n2)
 let n5:=n3+1+skn (l.drop (n3+1))
 let n6:=n5+(dom (l.drop n5)).2.2
 bif !(loc (l.drop n1)).1 then none else bif !sgn [64] (l.drop n3) then none else bif !(dom (l.drop n5)).1 then none else
 some ((loc (l.drop n1)).2.1,(dom (l.drop n5)).2.1,n6+skn (l.drop n6))
theorem k8g {s:List UInt8} {l:List Tok} (h:sgn s l=true):1≤l.length:=by
 cases l with
 | nil=>cases h
 | cons t r=>simp
theorem c71 (l:List Tok) (hb:szT l+l.length≤9000) :
 C71 (l,())=some (match mt l with | some r=>(r.1,r.2.1,(r.2.2:Int),true,()) | none=>([],[],0,false,())):=by
 show F71 x1a x1b x1c x1d _=_;have h1:=k7e l 0 [] [] (Nat.zero_le _) (by omega);simp only [Int.natCast_zero,List.drop_zero,Nat.zero_add] at h1;have b1:=z6c l;have h2:=b8f l (skn l) [] [] b1 hb;have b2:=g3i (l.drop (skn l));rw [List.length_drop] at b2;simp only [F71,h1,h2,Option.bind_some,Bool.not_true,cond_false,mt];cases hl:(loc (l.drop (skn l))).1 with
 | false=>simp only [Bool.not_false,cond_true]
 | true =>
  simp only [Bool.not_true,cond_false];generalize hn2:skn l+(loc (l.drop (skn l))).2.2=n2;have b3:n2≤l.length:=by omega
  generalize (loc (l.drop (skn l))).2.1=A;rw [k7e l n2 A [] b3 (by omega)];have b4:=z6c (l.drop n2);rw [List.length_drop] at b4;simp only [Option.bind_some,Bool.not_true,cond_false];generalize hn3:n2+skn (l.drop n2)=n3;rw [b8g l n3 A [] (by omega) (by omega)];simp only [Option.bind_some];cases hs:sgn [64] (l.drop n3) with
  | false=>simp only [Bool.not_false,cond_true]
  | true =>
   have b5:=k8g hs;rw [List.length_drop] at b5;simp only [Bool.not_true,cond_false];rw [k7e l (n3+1) A [] (by omega) (by omega)];have b6:=z6c (l.drop (n3+1));rw [List.length_drop] at b6;simp only [Option.bind_some,Bool.not_true,cond_false];generalize hn5:n3+1+skn (l.drop (n3+1))=n5;rw [b8h l n5 A [] (by omega) hb];have b7:=g1q (l.drop n5);rw [List.length_drop] at b7;simp only [Option.bind_some];cases hd:(dom (l.drop n5)).1 with
   | false=>simp only [Bool.not_false,cond_true]
   | true =>
    simp only [Bool.not_true,cond_false];rw [k7e l _ A _ (by omega) (by omega)];simp only [Option.bind_some,Bool.not_true,cond_false]
section
variable {T:List R6} {A:List R4} {B:List R3}
theorem d85 (x:Int):Df (C85 (x,())) (fun _=>True):=by
 unfold C85 F85;dsimp only;with_reducible repeat' (first | apply dP | apply dX<;>intro _)
 all_goals trivial
theorem g0g (s:List UInt8) (b:Bool) (hs:s.length≤1000000000000000):Df (q5x (s,b,())) (fun _=>True):=by
 unfold q5x z3b;dsimp only;refine dZ (P:=fun _=>True) ?_ (fun z _=>by cases z<;>exact dP trivial);refine dL ?I ?m ?h _ ?hv ?hn
 case I=>exact (fun v=>v.2.1.1=s∧0≤v.2.1.2)
 case m=>exact (fun v=>s.length - v.2.1.2.toNat)
 case hv=>exact ⟨rfl,Int.le_refl _⟩
 case hn=>exact (by first | omega | (dsimp only;omega))
 · rintro ⟨x0,⟨x1,p⟩,u⟩ hI
   dsimp only at hI;obtain ⟨rfl,h0⟩:=hI;unfold q3s;dsimp only;with_reducible repeat' (first | apply dP | apply dX<;>intro _)
   · refine dZ (d85 _) ?_
     rintro ⟨x,u⟩ -
     dsimp only;have:=z8i x1 p.toNat
     with_reducible repeat' (first | apply dP | apply dX<;>intro _)
     · trivial
     · exact ⟨⟨rfl,by first | omega | (dsimp only;omega)⟩,by first | omega | (dsimp only;omega)⟩
   · trivial
theorem f2v (s:List UInt8) (hs:s.length≤1000000000000000):Df (j7a (s,())) (fun _=>True):=by
 unfold j7a y7o;dsimp only;refine dZ (P:=fun _=>True) ?_ (fun z _=>dP trivial);unfold j6p z2v;dsimp only;exact dZ (g0g s true hs) (fun z _=>dP trivial)
theorem d86 (a:List UInt8):Df (C86 (a,())) (fun _=>True):=by
 unfold C86 F86;dsimp only;refine dZ (P:=fun _=>True) ?_ (fun z _=>dP trivial);unfold C96 F96;dsimp only;exact dZ (g0e a [91]) (fun z _=>dP trivial)
theorem d87 (h:TK T A B) (s:List UInt8) (hs:s.length≤3000):Df (C87 (T,A,B,s,())) (fun _=>True):=by
 unfold C87 F87;dsimp only;obtain ⟨y,e⟩:=b3o h s hs;exact dZ (P:=fun _=>True) ⟨y,e,trivial⟩ (fun z _=>dP trivial)
theorem d44 (h:TK T A B) (a b:List UInt8) (ha:a.length≤100000) (hb:b.length≤3000):Df (C44 (T,A,B,a,b,())) (fun _=>True):=by
 unfold C44 F44;dsimp only;refine dZ (d83 a (by omega)) ?_;rintro ⟨x,y,u⟩ -
 dsimp only;with_reducible repeat' (first | apply dP | apply dX<;>intro _)
 · trivial
 · trivial
 · trivial
 · refine dZ (f2v a (by omega)) ?_
   rintro ⟨x,u⟩ -
   dsimp only;with_reducible repeat' (first | apply dP | apply dX<;>intro _)
   · trivial
   · refine dZ (d86 b) ?_
     rintro ⟨x,u⟩ -
     dsimp only;with_reducible repeat' (first | apply dP | apply dX<;>intro _)
     · rw [c11 b]
       simp only [Option.bind_some];with_reducible repeat' (first | apply dP | apply dX<;>intro _)
       · trivial
       · trivial
       · trivial
       · trivial
       · refine dO ?_;omega
     · exact dZ (d87 h b hb) (fun z _=>dP trivial)
end
theorem y9l:∀(m:Nat) (s:List UInt8) (p:Nat) (l:List Tok),s.length≤m→yt s p = .inl l→szT l≤s.length∧l.length≤s.length
 | _,[],p,l,_,h=>by rw [j8j] at h;cases h;exact ⟨Nat.le_refl _,Nat.le_refl _⟩
 | 0,c::r,p,l,hm,h=>by simp at hm
 | m+1,c::r,p,l,hm,h=>by
  obtain ⟨k,t,u,l',h1,h2,rfl⟩:=j8i h;have hu:=q0t h1;have ht:=j0y h1;obtain ⟨i1,i2⟩:=y9l m ((c::r).drop u) (p+u) l' (by simp at hm ⊢;omega) h2;simp only [List.length_drop,List.length_cons,szT] at i1 i2 ⊢;omega
theorem k6w (s:List UInt8):szT (j9s s).1≤s.length∧(j9s s).1.length≤s.length:=by
 have nil:szT ([]:List Tok)≤s.length∧([]:List Tok).length≤s.length:=⟨Nat.zero_le _,Nat.zero_le _⟩
 unfold j9s;split
 · exact nil
 · cases utf s with
   | some b=>exact nil
   | none =>
    cases h:yt s 0 with
    | inr e=>exact nil
    | inl l=>exact y9l _ s 0 l (Nat.le_refl _) h
section
variable {l:List Tok}
end
section
variable {T:List R6} {A:List R4} {B:List R3}
end
section
variable {T:List R6} {A:List R4} {B:List R3}
end
theorem b4a (s:List UInt8):Df (q2f (s,[46],())) (fun y => -1≤y.1∧y.1<s.length):=by
 unfold q2f v6n;dsimp only;refine dZ (P:=fun y => -1≤y.1∧y.1<s.length) ?_ fun _ h=>dP h;unfold z2d x8b;dsimp only;have e0:((([46]:List UInt8).length:Int)==0)=false:=rfl;rw [e0];simp only [cond_false];refine dZ (v0g s _ fun h => ?_) fun _ h=>dP h;have:=eq_of_beq h;rw [←this];decide
theorem b3z (s:List UInt8):Df (z2b (s,[46],())) (fun y=>0≤y.1∧y.1≤s.length):=by
 refine ⟨((Lib.countByte s 46:Nat),()),rfl,Int.natCast_nonneg _,?_⟩;have:Lib.countByte s 46≤s.length:=List.count_le_length;dsimp only;omega
theorem g0h (L n:Nat) (hn:1≤n) (hL:L≤1000000000000) (hnL:n≤1000000000000) (s:List UInt8) (hs:s.length≤L) (rows:List (List UInt8)) (hr:rows.length=n) (ha:∀r∈rows,r.length≤L) :
 Df (j4d (s,[46],0,(n:Int) - 1,0,rows,())) (fun y=>y.1.length≤L∧0≤y.2.1∧y.2.1<n∧y.2.2.1.length=n∧∀r∈y.2.2.1,r.length≤L):=by
 refine dL ?I ?m ?h _ ?hv ?hn
 case I=>exact (fun v=>(v.2.1,v.2.2.1,v.2.2.2.1)=([46],0,(n:Int) - 1)∧v.1.length≤L∧0≤v.2.2.2.2.1∧v.2.2.2.2.1<n∧v.2.2.2.2.2.1.length=n∧∀r∈v.2.2.2.2.2.1,r.length≤L)
 case m=>exact (fun v=>(n - v.2.2.2.2.1).toNat)
 case hv=>exact ⟨rfl,hs,Int.le_refl _,by first | omega | (dsimp only;omega),hr,ha⟩
 case hn=>exact (by first | omega | (dsimp only;omega))
 rintro ⟨s',x1,x2,x3,i,rows,u⟩ ⟨e,i1,i2,i3,i4,i5⟩;dsimp only at e i1 i2 i3 i4 i5;cases e;unfold j4w;dsimp only;with_reducible repeat' (first | apply dP | apply dX<;>intro _)
 · refine dZ (b4a s') ?_
   rintro ⟨m,u⟩ ⟨h1,h2⟩;dsimp only at h1 h2 ⊢;rw [qh (n:=m+0) (by omega),qh (n:=m+(([46]:List UInt8).length:Int)) (by simp only [List.length_cons,List.length_nil];omega)];with_reducible repeat' (first | apply dP | apply dX<;>intro _)
   · exact ⟨i1,i2,i3,i4,i5⟩
   · rw [qh (by omega)]
     refine ⟨⟨rfl,by simp only [List.length_drop];omega,by first | omega | (dsimp only;omega),by first | omega | (dsimp only;omega),by simp only [List.length_set];omega,fun r hr => ?_⟩,by first | omega | (dsimp only;omega)⟩;dsimp only at hr;rcases List.mem_or_eq_of_mem_set hr with h | h
     · exact i5 r h
     · subst h;simp only [List.length_take];omega
   · refine dO ?_;rename_i hc;simp only [List.length_cons,List.length_nil] at hc;omega
   · refine dO ?_;omega
   · refine dO ?_;omega
 · exact ⟨i1,i2,i3,i4,i5⟩
theorem f1y (s:List UInt8) (hs:s.length≤1000000000):Df (y0t (s,[46],0,-1,())) (fun y=>y.1.length≤s.length+1∧∀p∈y.1,p.length≤s.length):=by
 unfold y0t v6f;dsimp only;rw [show ((-1:Int)==0)=false from rfl,show (([46]:List UInt8)==[])=false from rfl,show decide ((-1:Int)<0)=true from rfl];simp only [cond_false,cond_true];refine dZ (b3z s) ?_;rintro ⟨c,u⟩ ⟨h1,h2⟩;dsimp only at h1 h2 ⊢;rw [qh (n:=c+1) (by omega)];refine dZ (P:=fun y=>y.1.length≤s.length+1∧∀p∈y.1,p.length≤s.length) ?_ fun _ h=>dP h;unfold q7f j4v;dsimp only;rw [qh (n:=(s.length:Int)+1) (by omega)];obtain ⟨n,rfl⟩:∃n:Nat,c=(n:Int):=⟨c.toNat,by omega⟩
 have hif:(if (s.length:Int)+1<(n:Int)+1 then (s.length:Int)+1 else (n:Int)+1)=((n+1:Nat):Int):=by rw [if_neg (by omega)];omega
 simp only [hif];have hc:(decide (0≤((n+1:Nat):Int))&&(decide True&&(decide ((16:Int)*((n+1:Nat):Int)≤281474976710656)&&decide (((n+1:Nat):Int)≤140737488355328))))=true:=by
  simp only [Bool.and_eq_true,decide_eq_true_eq];exact ⟨by omega,trivial,by omega,by omega⟩
 have hc':(decide (0≤((n+1:Nat):Int))&&(decide True&&(decide (((16:Nat):Int)*((n+1:Nat):Int)≤281474976710656)&&decide (((n+1:Nat):Int)≤140737488355328))))=true:=hc;first | rw [hc] | rw [hc']
 simp only [cond_true,Int.toNat_natCast];rw [qh (n:=((n+1:Nat):Int) - 1) (by omega)];refine dZ (g0h s.length (n+1) (by omega) (by omega) (by omega) s (Nat.le_refl _) (List.replicate (n+1) []) (by simp) (fun r hr=>by rw [(List.mem_replicate.1 hr).2];exact Nat.zero_le _)) ?_;rintro ⟨s',i,rows,u⟩ ⟨j1,j2,j3,j4,j5⟩;dsimp only at j1 j2 j3 j4 j5 ⊢;rw [qh (n:=i+1) (by omega)];with_reducible repeat' (first | apply dP | apply dX<;>intro _)
 · refine ⟨?_,fun p hp => ?_⟩
   · simp only [List.length_take,List.length_set];omega
   · rcases List.mem_or_eq_of_mem_set (List.mem_of_mem_take hp) with h | h
     · exact j5 p h
     · subst h;exact j1
 · refine dO ?_;rename_i hc;simp only [List.length_set] at hc;omega
 · refine dO ?_;omega
theorem d47 (s:List UInt8) (hs:s.length≤1000000000):Df (C47 (s,())) (fun _=>True):=by
 unfold C47 F47;dsimp only;refine dZ (P:=fun _=>True) ?_ (fun z _=>by cases z<;>exact dP trivial);refine dL ?I ?m ?h _ ?hv ?hn
 case I=>exact (fun v=>v.1=s∧v.2.1=s.length∧0≤v.2.2.1)
 case m=>exact (fun v=>(s.length - v.2.2.1).toNat)
 case hv=>exact ⟨rfl,rfl,Int.le_refl _⟩
 case hn=>exact (by first | omega | (dsimp only;omega))
 rintro ⟨s',n,k,u⟩ ⟨h1,h2,h3⟩;dsimp only at h1 h2 h3;subst h1;subst h2;unfold z3y;dsimp only;with_reducible repeat' (first | apply dP | apply dX<;>intro _)
 · rw [c17]
   simp only [Option.bind_some];with_reducible repeat' (first | apply dP | apply dX<;>intro _)
   · trivial
   · rw [qh (by omega)]
     exact ⟨⟨rfl,rfl,by first | omega | (dsimp only;omega)⟩,by first | omega | (dsimp only;omega)⟩
 · refine dO ?_;omega
 · trivial
theorem d88 (s:List UInt8) (hs:s.length≤1000000000):Df (C88 (s,())) (fun _=>True):=by
 unfold C88 F88;dsimp only;refine dZ (P:=fun y=>y.1.length≤s.length+1∧∀p∈y.1,p.length≤s.length) ?_ ?_
 · unfold z6h v5u
   dsimp only;exact dZ (f1y s hs) fun _ h=>dP h
 rintro ⟨ps,u⟩ ⟨g1,g2⟩;dsimp only at g1 g2 ⊢;refine dZ (P:=fun _=>True) ?_ (fun z _=>by cases z<;>exact dP trivial);refine dL ?I ?m ?h _ ?hv ?hn
 case I=>exact (fun v=>v.1=ps∧v.2.1=ps.length∧0≤v.2.2.1)
 case m=>exact (fun v=>(ps.length - v.2.2.1).toNat)
 case hv=>exact ⟨rfl,rfl,Int.le_refl _⟩
 case hn=>exact (by first | omega | (dsimp only;omega))
 rintro ⟨s',n,k,u⟩ ⟨h1,h2,h3⟩;dsimp only at h1 h2 h3;subst h1;subst h2;unfold z3z;dsimp only;with_reducible repeat' (first | apply dP | apply dX<;>intro _)
 · have hg:(s'.getD k.toNat [])∈s':=by rw [getD_lt (by omega)];exact List.getElem_mem _
   have:=g2 _ hg;refine dZ (d47 _ (by omega)) ?_;rintro ⟨b,u⟩ -
   dsimp only;with_reducible repeat' (first | apply dP | apply dX<;>intro _)
   · trivial
   · rw [qh (by omega)]
     exact ⟨⟨rfl,rfl,by first | omega | (dsimp only;omega)⟩,by first | omega | (dsimp only;omega)⟩
 · refine dO ?_;omega
 · trivial
section
variable {T:List R6} {A:List R4} {B:List R3}
end
section
variable {T:List R6} {A:List R4} {B:List R3}
end
def jn (q:List (List UInt8)) (r:List UInt8):List UInt8:=q.flatMap (fun p=>p++[46])++r
def Atm (p:List UInt8):Prop:=p≠[]∧p.all jo=true
def Wd (w:List UInt8):Prop:=∃q r,w=jn q r∧(∀p∈q,Atm p)∧Atm r
theorem q1l (x:List UInt8) (q r):jn (x::q) r=x++46::jn q r:=by simp [jn]
theorem x5i:((List.range 256).all fun n=>(fun c:UInt8=>kk (c.toNat:Int)||jo c) (UInt8.ofNat n))=true:=by kernel_rfl
theorem k6v {c:UInt8} (h:kk (c.toNat:Int)=false):jo c=true:=by
 have:=ku (fun c:UInt8=>kk (c.toNat:Int)||jo c) x5i c;simp only [h,Bool.false_or] at this;exact this
theorem y3z:∀(w cur:List UInt8),cur.all jo=true→run true (if cur=[] then 1 else 0) (bi w)=0→Wd (cur++w)
 | [],cur,hc,h=>by
  have hne:cur≠[]:=fun e=>by rw [if_pos e] at h;cases h
  exact ⟨[],cur,by simp [jn],fun p hp=>(by cases hp),hne,hc⟩
 | c::w,cur,hc,h=>by
  have hb:bi (c::w)=(c.toNat:Int)::bi w:=rfl;rw [hb,q3e] at h;cases hk:kk (c.toNat:Int) with
  | false =>
   rw [q1u true hk,if_neg (by split<;>omega)] at h;have:=y3z w (cur++[c]) (by rw [List.all_append,hc];simp [k6v hk]) (by rw [if_neg (by simp)];exact h);simpa using this
  | true =>
   by_cases h46:(c.toNat:Int)=46
   · have hc46:c=46:=UInt8.toNat_inj.1 (by show c.toNat=46;omega)
     by_cases hcur:cur=[]
     · exfalso
       rw [if_pos hcur] at h;have h2:2≤stp true 1 (c.toNat:Int):=by
        unfold stp;rw [if_neg (by omega),if_pos hk,if_pos ⟨h46,rfl⟩];exact Nat.le_refl _
       have:=q5g true (bi w) h2;omega
     · rw [if_neg hcur] at h
       have e:stp true 0 (c.toNat:Int)=1:=by
        unfold stp;rw [if_neg (by omega),if_pos hk,if_pos ⟨h46,rfl⟩]
       rw [e] at h;obtain ⟨q,r,e2,h1,h2⟩:=y3z w [] rfl (by rw [if_pos rfl];exact h);refine ⟨cur::q,r,?_,?_,h2⟩
       · rw [List.nil_append] at e2
         rw [q1l,←e2,hc46]
       · intro p hp
         rcases List.mem_cons.1 hp with rfl | hp
         · exact ⟨hcur,hc⟩
         · exact h1 p hp
   · exfalso
     have h2:∀s,2≤stp true s (c.toNat:Int):=by
      intro s;unfold stp;by_cases h2:2≤s
      · rw [if_pos h2];exact Nat.le_refl _
      · rw [if_neg h2,if_pos hk,if_neg (fun h=>h46 h.1)]
        exact Nat.le_refl _
     have:=q5g true (bi w) (h2 (if cur=[] then 1 else 0));omega
theorem f8h {w:List UInt8} (h:run true 1 (bi w)=0):Wd w:=by
 have:=y3z w [] rfl (by rw [if_pos rfl];exact h);simpa using this
theorem k8f:(!jo 46&&q3f 46&&(!jo 64&&q3f 64)&&(!jo 91 && !q3f 91))=true:=by kernel_rfl
theorem k7p (X:List UInt8):one 46 X=(2,.ok [46] 1):=by
 have h:=k8f;simp only [Bool.and_eq_true,Bool.not_eq_true'] at h;unfold one;rw [if_neg (by rw [h.1.1.1];decide),if_pos h.1.1.2]
theorem g3p (X:List UInt8):one 64 X=(2,.ok [64] 1):=by
 have h:=k8f;simp only [Bool.and_eq_true,Bool.not_eq_true'] at h;unfold one;rw [if_neg (by rw [h.1.2.1];decide),if_pos h.1.2.2]
theorem x5v (X:List UInt8):stops jo (46::X):=by
 have h:=k8f;simp only [Bool.and_eq_true,Bool.not_eq_true'] at h;exact h.1.1.1
theorem g3g {X:List UInt8} {l:List Tok} {p:Nat} (h:yt X (p+1) = .inl l):yt (64::X) p = .inl ((2,[64],(p:Int))::l):=by
 rw [kj (g3p X),show (64::X).drop 1=X from rfl,h];rfl
theorem y9k {x X:List UInt8} (hx:Atm x) (hX:stops jo X) (p:Nat):yt (x++X) p=y9a (0,x,(p:Int)) (yt X (p+x.length)):=by
 obtain ⟨hne,ha⟩:=hx;cases x with
 | nil=>exact (hne rfl).elim
 | cons c y =>
  have hal:=x9h hX (c::y) ha;have hc:jo c=true:=by
   simp only [List.all_cons,Bool.and_eq_true] at ha;exact ha.1
  have ho:one c (y++X)=(0,.ok (c::y) (y.length+1)):=by
   unfold one;rw [if_pos hc];rw [List.cons_append] at hal;rw [hal,List.length_cons,←List.cons_append];rw [show y.length+1=(c::y).length from rfl,List.take_left]
  rw [List.cons_append,kj ho,←List.cons_append,show y.length+1=(c::y).length from rfl,List.drop_left]
def wt:List (List UInt8)→List UInt8→Nat→List Tok
 | [],r,p=>[(0,r,(p:Int))]
 | x::q,r,p=>(0,x,(p:Int))::(2,[46],((p+x.length:Nat):Int))::wt q r (p+x.length+1)
theorem y3c (X:List UInt8) (l:List Tok) (hX:stops jo X):∀(q:List (List UInt8)) (r:List UInt8) (p:Nat),(∀p∈q,Atm p)→Atm r→yt X (p+(jn q r).length) = .inl l→yt (jn q r++X) p = .inl (wt q r p++l)
 | [],r,p,hq,hr,h=>by
  have e:jn [] r=r:=rfl;rw [e] at h ⊢;rw [y9k hr hX,h];rfl
 | x::q,r,p,hq,hr,h=>by
  rw [q1l,List.length_append,List.length_cons] at h;rw [q1l,List.append_assoc,List.cons_append,y9k (hq x List.mem_cons_self) (x5v _),kj (k7p _)];rw [show (46::(jn q r++X)).drop 1=jn q r++X from rfl,y3c X l hX q r _ (fun y hy=>hq y (List.mem_cons_of_mem _ hy)) hr (by rw [←h];congr 1;omega)];rfl
theorem x0z (q:List (List UInt8)) (r:List UInt8) (p:Nat):∃x a t,wt q r p=(0,x,a)::t:=by
 cases q with
 | nil=>exact ⟨_,_,_,rfl⟩
 | cons y q=>exact ⟨_,_,_,rfl⟩
theorem v0t (acc x:List UInt8) (a a':Int) (l:List Tok):dwn acc ((2,[46],a)::(0,x,a')::l)=((dwn (acc++([46]++x)) l).1,(dwn (acc++([46]++x)) l).2+2):=by
 conv=>lhs;unfold dwn
 rfl
theorem v0u (l:List Tok) (hl:∀acc,dwn acc l=(acc,0)):∀(q:List (List UInt8)) (r:List UInt8) (p:Nat) (acc:List UInt8) (a:Int),dwn acc ((2,[46],a)::(wt q r p++l))=(acc++([46]++jn q r),(wt q r p).length+1)
 | [],r,p,acc,a=>by
  show dwn acc ((2,[46],a)::(0,r,(p:Int))::l)=_;simp only [dwn,beq_self_eq_true,Bool.and_self,cond_true,hl];rfl
 | x::q,r,p,acc,a=>by
  show dwn acc ((2,[46],a)::(0,x,(p:Int))::((2,[46],((p+x.length:Nat):Int))::(wt q r (p+x.length+1)++l)))=_;have ih:=v0u l hl q r (p+x.length+1) (acc++([46]++x)) ((p+x.length:Nat):Int);rw [v0t];rw [ih,q1l];simp [wt]
theorem v0r (l:List Tok) (hl:∀acc,dwn acc l=(acc,0)) (q:List (List UInt8)) (r:List UInt8) (p:Nat):dot (wt q r p++l)=(jn q r,true,(wt q r p).length):=by
 cases q with
 | nil =>
  show dot ((0,r,(p:Int))::l)=_;simp only [dot,beq_self_eq_true,cond_true,hl];rfl
 | cons x q =>
  show dot ((0,x,(p:Int))::((2,[46],((p+x.length:Nat):Int))::(wt q r (p+x.length+1)++l)))=_;simp only [dot,beq_self_eq_true,cond_true,v0u l hl,q1l];simp [wt]
def Dn (l:List Tok):Prop:=∀acc,dwn acc l=(acc,0)
def Nw (l:List Tok):Prop:=l≠[]∧∀x∈l,(x.1==4||x.1==3)=false
theorem v5f:∀(q:List (List UInt8)) (r:List UInt8) (p:Nat),Nw (wt q r p)
 | [],r,p=>⟨by simp [wt],fun x hx=>by simp only [wt,List.mem_singleton] at hx;subst hx;rfl⟩
 | y::q,r,p=>⟨by simp [wt],fun x hx=>by
  simp only [wt,List.mem_cons] at hx;rcases hx with rfl | rfl | hx
  · rfl
  · rfl
  · exact (v5f q r _).2 x hx⟩
def j7b (w:List UInt8) (f:List Tok→Bool×List UInt8×Nat) (v:List UInt8):Prop :=
 ∀p:Nat,∃ts,Nw ts∧(∀(X:List UInt8) (l:List Tok),stops jo X→yt X (p+w.length) = .inl l→yt (w++X) p = .inl (ts++l))∧∀l,Dn l→f (ts++l)=(true,v,ts.length)∧skn (ts++l)=0
theorem v2p (x:List UInt8) (a:Int) (l:List Tok):loc ((0,x,a)::l)=((dot ((0,x,a)::l)).2.1,(dot ((0,x,a)::l)).1,(dot ((0,x,a)::l)).2.2):=rfl
theorem v0p (x:List UInt8) (a:Int) (l:List Tok):dom ((0,x,a)::l)=((dot ((0,x,a)::l)).2.1,(dot ((0,x,a)::l)).1,(dot ((0,x,a)::l)).2.2):=rfl
theorem k6y {w:List UInt8} (h:Wd w):j7b w loc w:=by
 obtain ⟨q,r,rfl,hq,hr⟩:=h;intro p;refine ⟨wt q r p,v5f q r p,fun X l hX hl=>y3c X l hX q r p hq hr hl,fun l hl => ?_⟩;have hd:=v0r l hl q r p;obtain ⟨x,a,t,ht⟩:=x0z q r p;rw [ht] at hd ⊢;refine ⟨?_,rfl⟩;rw [List.cons_append] at hd ⊢;rw [v2p,hd]
theorem k1o {w:List UInt8} (h:Wd w):j7b w dom w:=by
 obtain ⟨q,r,rfl,hq,hr⟩:=h;intro p;refine ⟨wt q r p,v5f q r p,fun X l hX hl=>y3c X l hX q r p hq hr hl,fun l hl => ?_⟩;have hd:=v0r l hl q r p;obtain ⟨x,a,t,ht⟩:=x0z q r p;rw [ht] at hd ⊢;refine ⟨?_,rfl⟩;rw [List.cons_append] at hd ⊢;rw [v0p,hd]
theorem g4v (a:List UInt8):src 1 a=34::(esc a++[34]):=by simp [src]
theorem g3h {a:List UInt8} (h:a.all zb=true):j7b (src 1 a) loc a:=by
 intro p;refine ⟨[(1,a,(p:Int))],⟨by simp,fun x hx=>by rw [List.mem_singleton] at hx;subst hx;rfl⟩,fun X l hX hl => ?_,fun l hl=>⟨rfl,rfl⟩⟩;rw [g4v] at hl ⊢;have e:(34::(esc a++[34]))++X=34::(esc a++34::X):=by simp
 have ho:one 34 (esc a++34::X)=(1,.ok a ((34::(esc a++[34])).length)):=by
  rw [f7v,(v4m a X).1 h];show (1,Tk.ok a (1+((esc a).length+1)))=_;rw [List.length_cons,List.length_append,List.length_singleton,Nat.add_comm 1]
 rw [e,kj ho,←e,List.drop_left,hl];rfl
theorem w6c (r:List UInt8):one 91 r=(5,(ltk r).up):=by
 have h:=k8f;simp only [Bool.and_eq_true,Bool.not_eq_true'] at h;unfold one;rw [if_neg (by rw [h.2.1];decide),if_neg (by rw [h.2.2];decide),if_neg (by decide),if_pos (show UInt8.toNat 91=91 from rfl)]
theorem y9n {b t:List UInt8} {n:Int} (h:yt b 0 = .inl [(5,t,n)]):src 5 t=b:=by
 have:=(y0h b.length b 0 _ (Nat.le_refl _) h).2.2 (by intro x hx;rw [List.mem_singleton] at hx;subst hx;show (5:Int)≠1;decide);simpa [x5u] using this
theorem g4w (t:List UInt8):src 5 t=91::(t++[93]):=by simp [src]
theorem v0o {b t:List UInt8} {n:Int} (h:yt b 0 = .inl [(5,t,n)]):j7b b dom b:=by
 have hb:=y9n h;have hu:∃u,ltk (t++93::[]) = .ok t u:=by
  rw [←hb,g4w] at h;obtain ⟨k,t',u,l',h1,h2,h3⟩:=j8i h;rw [w6c] at h1;simp only [List.cons.injEq,Prod.mk.injEq] at h3 h1;obtain ⟨u',h4,-⟩:=j9c h1.2;rw [←h3.1.2.1] at h4;exact ⟨u',h4⟩
 obtain ⟨u,hu⟩:=hu;intro p;refine ⟨[(5,t,(p:Int))],⟨by simp,fun x hx=>by rw [List.mem_singleton] at hx;subst hx;rfl⟩,fun X l hX hl => ?_,fun l hl=>⟨?_,rfl⟩⟩
 · rw [←hb,g4w] at hl ⊢
   have e:(91::(t++[93]))++X=91::(t++93::X):=by simp
   have hl2:=(z5o hu).1;have ho:one 91 (t++93::X)=(5,.ok t ((91::(t++[93])).length)):=by
    rw [w6c,v2q X hu];show (5,Tk.ok t (1+u))=_;rw [hl2,List.length_cons,List.length_append,List.length_singleton,Nat.add_comm 1]
   rw [e,kj ho,←e,List.drop_left,hl];rfl
 · show (true,src 5 t,1)=_
   rw [hb];rfl
def Wh (l:List Tok):Prop:=∀x∈l,(x.1==4||x.1==3)=true
theorem j8z:∀(w l:List Tok),Wh w→skn (w++l)=w.length+skn l
 | [],l,_=>by simp
 | x::w,l,h=>by
  rw [List.cons_append];simp only [skn,h x List.mem_cons_self,cond_true,j8z w l (fun y hy=>h y (List.mem_cons_of_mem _ hy)),List.length_cons];omega
theorem y9c {t:Tok} {l:List Tok} (h:(t.1==2&&t.2.1==[46])=false):Dn (t::l):=by
 intro acc;cases l with
 | nil=>rfl
 | cons u r=>simp only [dwn,h,Bool.false_and,cond_false]
theorem g1p:Dn []:=fun acc=>rfl
theorem w4u {w l:List Tok} (hw:Wh w) (hl:Dn l):Dn (w++l):=by
 cases w with
 | nil=>exact hl
 | cons x w =>
  refine y9c ?_;have:=hw x List.mem_cons_self;have h2:(x.1==2)=false:=by
   cases h:(x.1==2) with
   | false=>rfl
   | true =>
    have h3:x.1=2:=eq_of_beq h;rw [h3] at this;cases this
  rw [h2];rfl
theorem f3f {a b:List UInt8} {w1 w2 w3 ts td z:List Tok} {n:Int} (h1:Wh w1) (h2:Wh w2) (h3:Wh w3) (hz:Dn z)
 (hL:∀l,Dn l→loc (ts++l)=(true,a,ts.length)∧skn (ts++l)=0) (hD:∀l,Dn l→dom (td++l)=(true,b,td.length)∧skn (td++l)=0) :
 mt (w1++(ts++(w2++((2,[64],n)::(w3++(td++z))))))=some (a,b,w1.length+ts.length+w2.length+1+w3.length+td.length+skn z):=by
 have hn:Dn (w2++((2,[64],n)::(w3++(td++z)))):=w4u h2 (y9c rfl);obtain ⟨h4,h5⟩:=hL _ hn;obtain ⟨h6,h7⟩:=hD _ hz;have s1:skn (w1++(ts++(w2++((2,[64],n)::(w3++(td++z))))))=w1.length:=by rw [j8z _ _ h1,h5,Nat.add_zero]
 have e1:(w1++(ts++(w2++((2,[64],n)::(w3++(td++z)))))).drop w1.length=ts++(w2++((2,[64],n)::(w3++(td++z)))):=List.drop_left;have e2:(w1++(ts++(w2++((2,[64],n)::(w3++(td++z)))))).drop (w1.length+ts.length)=w2++((2,[64],n)::(w3++(td++z))):=by
  rw [←List.drop_drop,e1,List.drop_left]
 have s2:skn (w2++((2,[64],n)::(w3++(td++z))))=w2.length:=by rw [j8z _ _ h2];rfl
 have e3:(w1++(ts++(w2++((2,[64],n)::(w3++(td++z)))))).drop (w1.length+ts.length+w2.length)=(2,[64],n)::(w3++(td++z)):=by
  rw [←List.drop_drop,e2,List.drop_left]
 have e4:(w1++(ts++(w2++((2,[64],n)::(w3++(td++z)))))).drop (w1.length+ts.length+w2.length+1)=w3++(td++z):=by
  rw [←List.drop_drop,e3];rfl
 have s3:skn (w3++(td++z))=w3.length:=by rw [j8z _ _ h3,h7,Nat.add_zero]
 have e5:(w1++(ts++(w2++((2,[64],n)::(w3++(td++z)))))).drop (w1.length+ts.length+w2.length+1+w3.length)=td++z:=by
  rw [←List.drop_drop,e4,List.drop_left]
 have e6:(w1++(ts++(w2++((2,[64],n)::(w3++(td++z)))))).drop (w1.length+ts.length+w2.length+1+w3.length+td.length)=z:=by
  rw [←List.drop_drop,e5,List.drop_left]
 have hs:sgn [64] ((2,[64],n)::(w3++(td++z)))=true:=rfl;unfold mt;simp only [s1,e1,h4,e2,s2,e3,hs,e4,s3,e5,h6,e6,Bool.not_true,cond_false]
theorem b9l (s:List UInt8):Pf (q2f (s,[46],())) (fun y=>0≤y.1→s[y.1.toNat]? = some 46):=by
 unfold q2f v6n;dsimp only;exact pZ (f7z s) fun _ h=>pP h
theorem q5t {α:Type} (l:List α) (i:Nat) (v:α) (h:i<l.length):(l.set i v).take (i+1)=l.take i++[v]:=by
 rw [ql (by rw [List.length_set];exact h),List.getElem_set_self];congr 1;exact List.take_set_of_le (Nat.le_refl _)
def jq (q:List (List UInt8)):List UInt8:=q.flatMap (fun p=>p++[46])
theorem b9e (s:List UInt8) (hs:s.length≤1000000000):Pf (y0t (s,[46],0,-1,())) (fun y=>∃q r,y.1=q++[r]∧s=jn q r):=by
 unfold y0t v6f;dsimp only;rw [show ((-1:Int)==0)=false from rfl,show (([46]:List UInt8)==[])=false from rfl,show decide ((-1:Int)<0)=true from rfl];simp only [cond_false,cond_true];refine pZ pT ?_;rintro ⟨c,u⟩ -
 dsimp only;generalize IntKind.i64.wrap (c+1)=m;refine pZ (P:=fun y=>∃q r,y.1=q++[r]∧s=jn q r) ?_ fun _ h=>pP h;unfold q7f j4v;dsimp only;generalize (if IntKind.i64.wrap ((s.length:Int)+1)<m then IntKind.i64.wrap ((s.length:Int)+1) else m)=M;refine pX (fun hM => ?_) (fun _=>pN);have hM':M≤140737488355328:=by
  simp only [Bool.and_eq_true,decide_eq_true_eq] at hM;omega
 refine pZ (P:=fun y=>0≤y.2.1∧y.2.2.1.length≤140737488355328∧s=jq (y.2.2.1.take y.2.1.toNat)++y.1) ?_ ?_
 · refine pL ?I ?h _ ?hv
   case I=>exact (fun v=>∃(x:List UInt8) (N i:Int) (rows:List (List UInt8)),0≤i∧rows.length≤140737488355328∧s=jq (rows.take i.toNat)++x∧v=(x,[46],0,N,i,rows,()))
   case hv=>exact ⟨_,_,_,_,Int.le_refl _,by rw [List.length_replicate];omega,by simp [jq],rfl⟩
   rintro v ⟨x,N,i,rows,h0,hr,h1,rfl⟩;unfold j4w;dsimp only;with_reducible repeat' (first | exact pN | apply pP | apply pX<;>intro _)
   · refine pZ (b9l x) ?_
     rintro ⟨k,u⟩ hk;dsimp only at hk ⊢;rw [show (([46]:List UInt8).length:Int)=1 from rfl];have hxs:x.length≤s.length:=by rw [h1];simp
     refine pX (fun _=>pP ⟨h0,hr,h1⟩) (fun hneg => ?_);have h4:=hk (by omega);have hlt:k.toNat<x.length:=by
      rcases Nat.lt_or_ge k.toNat x.length with h | h
      · exact h
      · rw [List.getElem?_eq_none h] at h4;cases h4
     rw [List.getElem?_eq_getElem hlt,Option.some.injEq] at h4;rw [qh (n:=k+0) (by omega),qh (n:=k+1) (by omega),Int.add_zero];refine pX (fun _ => ?_) (fun _=>pN);refine pX (fun hi => ?_) (fun _=>pN);refine pX (fun _ => ?_) (fun _=>pN);rw [qh (n:=i+1) (by omega)];have hil:i.toNat<rows.length:=by omega
     refine pP ⟨_,_,_,_,by omega,by rw [List.length_set];exact hr,?_,rfl⟩;rw [show (i+1).toNat=i.toNat+1 by omega,q5t _ _ _ hil];conv=>lhs;rw [h1,←List.take_append_drop k.toNat x,←List.getElem_cons_drop hlt,h4]
     rw [show (k+1).toNat=k.toNat+1 by omega];simp [jq]
   · exact ⟨h0,hr,h1⟩
 · rintro ⟨x,i,rows,u⟩ ⟨h0,hr,h1⟩
   dsimp only at h0 hr h1 ⊢;refine pX (fun h2 => ?_) (fun _=>pN);refine pX (fun h3 => ?_) (fun _=>pN);have hil:i.toNat<rows.length:=by omega
   refine pP ⟨rows.take i.toNat,x,?_,h1⟩;dsimp only;rw [qh (n:=i+1) (by omega),show (i+1).toNat=i.toNat+1 by omega,q5t _ _ _ hil]
theorem p47 (s:List UInt8) (hs:s.length≤1000000000):Pf (C47 (s,())) (fun y=>y.1=true→Atm s):=by
 unfold C47 F47;dsimp only;refine pZ (P:=Sum.elim (fun y=>y.1=s∧s.all jo=true) (fun y=>y.1=false)) ?_ ?_
 · refine pL ?I ?h _ ?hv
   case I=>exact (fun v=>∃k:Int,0≤k∧k≤s.length∧(s.take k.toNat).all jo=true∧v=(s,(s.length:Int),k,()))
   case hv=>exact ⟨0,Int.le_refl _,by omega,rfl,rfl⟩
   rintro v ⟨k,h0,h1,h2,rfl⟩;unfold z3y;dsimp only;with_reducible repeat' (first | exact pN | apply pP | apply pX<;>intro _)
   · have hlt:k.toNat<s.length:=by omega
     rw [c17];simp only [Option.bind_some];with_reducible repeat' (first | exact pN | apply pP | apply pX<;>intro _)
     · exact rfl
     · rename_i ha
       rw [qh (n:=k+1) (by omega)];refine ⟨_,by omega,by omega,?_,rfl⟩;rw [getD_lt hlt] at ha;rw [show (k+1).toNat=k.toNat+1 by omega,ql hlt,List.all_append,h2];simp [ha]
   · rw [List.take_of_length_le (by omega)] at h2
     exact ⟨rfl,h2⟩
 · intro z hz
   refine pS hz ?_ ?_
   · rintro ⟨x,u⟩ ⟨h1,h2⟩
     dsimp only at h1;subst h1;refine pP fun h=>⟨fun e => ?_,h2⟩
     dsimp only at h;subst e;cases h
   · rintro ⟨b,u⟩ hb
     dsimp only at hb;subst hb;exact pP fun h=>by cases h
theorem v1j:∀(q:List (List UInt8)) (r:List UInt8),q.length≤(jn q r).length
 | [],r=>Nat.zero_le _
 | x::q,r=>by
  have:=v1j q r;rw [q1l];simp only [List.length_append,List.length_cons];omega
theorem p88 (s:List UInt8) (hs:s.length≤1000000000):Pf (C88 (s,())) (fun y=>y.1=true→Wd s):=by
 unfold C88 F88;dsimp only;refine pZ (P:=fun y=>(∃q r,y.1=q++[r]∧s=jn q r)∧∀p∈y.1,p.length≤s.length) ?_ ?_
 · unfold z6h v5u
   dsimp only;refine pZ (pA (b9e s hs) (f1y s hs).pf) ?_;rintro y ⟨h1,h2⟩;exact pP ⟨h1,h2.2⟩
 rintro ⟨ps,u⟩ ⟨⟨q,r,hq,hr⟩,hl⟩;dsimp only at hq hl ⊢;refine pZ (P:=Sum.elim (fun _=>∀p∈ps,Atm p) (fun y=>y.1=false)) ?_ ?_
 · refine pL ?I ?h _ ?hv
   case I=>exact (fun v=>∃k:Int,0≤k∧(∀p∈ps.take k.toNat,Atm p)∧v=(ps,(ps.length:Int),k,()))
   case hv=>exact ⟨0,Int.le_refl _,fun p hp=>(by cases hp),rfl⟩
   rintro v ⟨k,h0,h2,rfl⟩;unfold z3z;dsimp only;with_reducible repeat' (first | exact pN | apply pP | apply pX<;>intro _)
   · rename_i hk1 hk2
     have hlt:k.toNat<ps.length:=by omega
     have hmem:ps.getD k.toNat []∈ps:=by rw [getD_lt hlt];exact List.getElem_mem _
     refine pZ (p47 _ (by have:=hl _ hmem;omega)) ?_;rintro ⟨b,u⟩ hb;dsimp only at hb ⊢;with_reducible repeat' (first | exact pN | apply pP | apply pX<;>intro _)
     · exact rfl
     · rename_i hbt
       have ha:=hb hbt;rw [getD_lt hlt] at ha;have hkb:IntKind.i64.wrap (k+1)=k+1∨k≥9000000000000000000:=by
        by_cases h:k≥9000000000000000000
        · exact .inr h
        · exact .inl (qh (by omega))
       have hpl:ps.length≤s.length+1:=by
        have:=v1j q r;rw [hq,hr,List.length_append,List.length_singleton];omega
       rw [qh (n:=k+1) (by omega)];refine ⟨_,by omega,fun p hp => ?_,rfl⟩;rw [show (k+1).toNat=k.toNat+1 by omega,ql hlt] at hp;rcases List.mem_append.1 hp with hp | hp
       · exact h2 p hp
       · rw [List.mem_singleton] at hp
         subst hp;exact ha
   · rw [List.take_of_length_le (by omega)] at h2
     exact h2
 · intro z hz
   refine pS hz ?_ ?_
   · intro u h
     refine pP fun _=>⟨q,r,hr,fun p hp=>h p (by rw [hq];exact List.mem_append_left _ hp),h r (by rw [hq];simp)⟩
   · rintro ⟨b,u⟩ hb
     dsimp only at hb;subst hb;exact pP fun h=>by cases h
theorem v1d (s:List UInt8) (i:Nat):(⟨⟨s⟩⟩:ByteArray).get! i=s.getD i 0:=by
 show (⟨s⟩:Array UInt8)[i]! = _;rcases Nat.lt_or_ge i s.length with h | h
 · rw [getElem!_pos _ _ (by simpa using h),getD_lt h]
   simp
 · rw [getElem!_neg _ _ (by simpa using h),List.getD_eq_getElem?_getD,List.getElem?_eq_none h]
   rfl
theorem x4x (s:List UInt8) (p j:Nat) (h1:1≤j) (h2:j<(kw s p).2):128≤(s.getD (p+j) 0).toNat:=by
 have hsz:(⟨⟨s⟩⟩:ByteArray).size=s.length:=by simp [ByteArray.size]
 unfold kw Utf8.decode at h2;simp only [v1d] at h2;repeat' split at h2
 all_goals try (dsimp only at h2;omega)
 all_goals
  rename_i hc _;simp only [Bool.and_eq_true,decide_eq_true_eq,beq_iff_eq] at hc;dsimp only at h2;have hj:j=1∨j=2∨j=3:=by omega
  rcases hj with rfl | rfl | rfl<;>omega
theorem p85 (x:Int):Pf (C85 (x,())) (fun y=>y.1=false→x=9∨(32≤x∧x≠127)):=by
 unfold C85 F85;dsimp only;with_reducible repeat' (first | exact pN | apply pP | apply pX<;>intro _)
 · exact fun h=>by cases h
 · rename_i h1 h2
   intro h;have h':(x==127)=false:=h;have:x≠127:=by simpa using h'
   exact .inr ⟨by omega,this⟩
 · rename_i h
   exact fun _ => .inl h
theorem y9g {c:UInt8} (h:128≤c.toNat):zb c=true:=by
 rw [←j8d];unfold j0s;rw [decide_eq_true (show 32≤c.toNat by omega),decide_eq_false (show ¬c.toNat=127 by omega)];simp
theorem g3y (s:List UInt8) (hs:s.length≤1000000000000000):Pf (q5x (s,true,())) (fun y=>y.1<0→s.all zb=true):=by
 unfold q5x z3b;dsimp only;refine pZ (P:=Sum.elim (fun y=>0≤y.1) (fun _=>s.all zb=true)) ?_ ?_
 · refine pL ?I ?h _ ?hv
   case I=>exact (fun v=>∃p:Nat,v=(true,(s,(p:Int)),())∧∀i,i<p→i<s.length→zb (s.getD i 0)=true)
   case hv=>exact ⟨0,rfl,fun i h=>by omega⟩
   rintro v ⟨p,rfl,h1⟩;unfold q3s;dsimp only;simp only [Int.toNat_natCast];with_reducible repeat' (first | exact pN | apply pP | apply pX<;>intro _)
   · rename_i hp
     refine pZ (p85 _) ?_;rintro ⟨b,u⟩ hb;dsimp only at hb ⊢;cases b with
     | true=>exact pP (by show (0:Int)≤(p:Int);omega)
     | false =>
      refine pP ⟨_,rfl,fun i hi hil => ?_⟩;by_cases hip:i<p
      · exact h1 i hip hil
      · by_cases he:i=p
        · subst he
          have hb':=hb rfl;by_cases hlo:s[i].toNat<128
          · rw [z0n hp hlo] at hb'
            dsimp only at hb';rw [getD_lt hil,←j8d];unfold j0s;rcases hb' with hb' | hb'
            · rw [decide_eq_true (show s[i].toNat=9 by omega)];rfl
            · rw [decide_eq_true (show 32≤s[i].toNat by omega),decide_eq_false (show ¬s[i].toNat=127 by omega)];simp
          · rw [getD_lt hil]
            exact y9g (by omega)
        · have:=x4x s p (i - p) (by omega) (by omega)
          rw [show p+(i - p)=i by omega] at this;exact y9g this
   · rename_i hp
     show s.all zb=true;rw [List.all_eq_true];intro c hc;obtain ⟨i,hi,rfl⟩:=List.mem_iff_getElem.1 hc;have:=h1 i (by omega) hi;rw [getD_lt hi] at this;exact this
 · intro z hz
   refine pS hz ?_ ?_
   · rintro ⟨a,u⟩ h
     exact pP fun hn=>by
      have h':0≤a:=h;have hn':a<0:=hn;omega
   · intro u h
     exact pP fun _=>h
theorem f8e (s:List UInt8) (hs:s.length≤1000000000000000):Pf (j7a (s,())) (fun y=>y.1=false→s.all zb=true):=by
 unfold j7a y7o;dsimp only;refine pZ (P:=fun y=>y.1<0→s.all zb=true) ?_ ?_
 · unfold j6p z2v
   dsimp only;exact pZ (g3y s hs) fun _ h=>pP h
 · rintro ⟨a,u⟩ h
   refine pP fun hb=>h ?_;dsimp only at hb ⊢;simp only [decide_eq_false_iff_not] at hb;omega
theorem f8d (s:List UInt8) (hs:s.length≤1000000):Pf (C83 (s,())) (fun y=>y.2.1<0→utf s=none):=by
 obtain ⟨o,ho⟩:=c15 s hs;rw [ho];refine pP fun h => ?_;dsimp only at h;cases hu:utf s with
 | none=>rfl
 | some b=>rw [hu] at h;exact (Int.not_lt.2 (Int.natCast_nonneg b) h).elim
section
variable {T:List R6} {A:List R4} {B:List R3}
theorem f7y (s:List UInt8) (hs:s.length≤1000000):Pf (j1n (T,A,B,s,())) (fun y=>y.2.1=true→utf s=none):=by
 unfold j1n x7x;dsimp only;refine pZ (f8d s hs) ?_;rintro ⟨l,at_,u⟩ hl;dsimp only at hl ⊢;with_reducible repeat' (first | exact pN | apply pP | apply pX<;>intro _)
 · exact fun h=>by cases h
 · rename_i hat
   have:=hl (by omega);exact pZ pT fun _ _=>pZ pT fun _ _=>pZ pT fun _ _=>pZ pT fun _ _=>pP fun _=>this
theorem f7w (s:List UInt8) (hs:s.length≤1000000):Pf (z1r (T,A,B,s,())) (fun y=>y.2.2.1=0→utf s=none):=by
 unfold z1r;dsimp only;refine pZ (f7y s hs) ?_;rintro ⟨f,ok,u⟩ hf;dsimp only at hf ⊢;cases ok with
 | true=>exact pM pT fun _ _ _=>hf rfl
 | false =>
  rw [show q0e f false=some ([],7) from rfl];exact pP fun h=>by cases h
def Rm (a b:List UInt8):Prop:=a≠[]∧a.length≤64∧utf a=none∧a.all zb=true∧utf b=none∧((∃t n,yt b 0 = .inl [(5,t,n)])∨Wd b)
theorem p44 (h:TK T A B) (hK:KT T A B) (a b:List UInt8) (ha:a.length≤100000) (hb:b.length≤3000):Pf (C44 (T,A,B,a,b,())) (fun y=>y.1=0→Rm a b):=by
 unfold C44 F44;dsimp only;refine pZ (f8d a (by omega)) ?_;rintro ⟨o,at_,u⟩ hu;dsimp only at hu ⊢;refine pX (fun _=>pP (fun h=>by cases h)) (fun hne => ?_);have hne':a≠[]:=by simpa using hne
 refine pX (fun _=>pP (fun h=>by cases h)) (fun hlen => ?_);refine pX (fun _=>pP (fun h=>by cases h)) (fun hat => ?_);have hu':=hu (by omega);refine pZ (f8e a (by omega)) ?_;rintro ⟨st,u⟩ hst;dsimp only at hst ⊢;refine pX (fun _=>pP (fun h=>by cases h)) (fun hsf => ?_);have hmay:=hst hsf;refine pZ pT ?_;rintro ⟨li,u⟩ -
 dsimp only;refine pX (fun _ => ?_) (fun _ => ?_)
 · rw [c11 b]
   simp only [Option.bind_some];refine pX (fun _=>pP (fun h=>by cases h)) (fun he => ?_);refine pX (fun _=>pP (fun h=>by cases h)) (fun h1 => ?_);refine pX (fun _ => ?_) (fun _=>pN);refine pX (fun _=>pP (fun h=>by cases h)) (fun h5 => ?_);refine pP fun _=>⟨hne',by omega,hu',hmay,?_⟩
   unfold j9s at he h1 h5;by_cases h2:2000<b.length
   · rw [if_pos h2] at he
     cases he
   · rw [if_neg h2] at he h1 h5
     cases hub:utf b with
     | some x=>rw [hub] at he;cases he
     | none =>
      rw [hub] at he h1 h5;refine ⟨rfl,.inl ?_⟩;cases hl:yt b 0 with
      | inr x=>rw [hl] at h1;cases h1
      | inl l =>
       rw [hl] at h1 h5;have h1':(l.length:Int)=1:=h1;have h5':(l.getD 0 (0,([],0))).1=5:=h5
       match l,h1',h5' with
       | [(k,t,n)],_,h5' =>
        have:k=5:=h5';subst this;exact ⟨t,n,rfl⟩
 · refine pZ (P:=fun y=>y.2.1=0→run true 1 (bi b)=0∧utf b=none) ?_ ?_
   · unfold C87 F87
     dsimp only;refine pZ (pA (b8z h hK b hb) (f7w b (by omega))) ?_;rintro ⟨x,y,e,u⟩ ⟨h1,h2⟩;exact pP fun h0=>⟨h1 h0,h2 h0⟩
   · rintro ⟨x,e,u⟩ h1
     refine pP fun h0 => ?_;obtain ⟨h2,h3⟩:=h1 h0;exact ⟨hne',by omega,hu',hmay,h3,.inr (f8h h2)⟩
end
def lcl (a:List UInt8):List UInt8:=match C88 (a,()) with
 | some (true,_)=>a
 | _=>src 1 a
def Hd (w:List UInt8):Prop:=∃c r,w=c::r∧jp c=false∧(c==13)=false
theorem b8a:((List.range 256).all fun n=>(fun c:UInt8 => !jo c||(!jp c && !(c==13))) (UInt8.ofNat n))=true:=by kernel_rfl
theorem k3l {c:UInt8} (h:jo c=true):jp c=false∧(c==13)=false:=by
 have:=ku (fun c:UInt8 => !jo c||(!jp c && !(c==13))) b8a c;simp only [h,Bool.not_true,Bool.false_or,Bool.and_eq_true,Bool.not_eq_true'] at this;exact this
theorem v1f {x y:List UInt8} (h:Atm x):Hd (x++y):=by
 obtain ⟨h1,h2⟩:=h;cases x with
 | nil=>exact (h1 rfl).elim
 | cons c x =>
  simp only [List.all_cons,Bool.and_eq_true] at h2;exact ⟨c,x++y,rfl,k3l h2.1⟩
theorem w4w {w:List UInt8} (h:Wd w):Hd w:=by
 obtain ⟨q,r,rfl,hq,hr⟩:=h;cases q with
 | nil =>
  have:=v1f (y:=[]) hr;rw [List.append_nil] at this;exact this
 | cons x q=>rw [q1l];exact v1f (hq x List.mem_cons_self)
theorem f2y:(jp 34||jp 91)=false:=by kernel_rfl
structure Mp (a b:List UInt8):Prop where
 lc:j7b (lcl a) loc a
 dm:j7b b dom b
 ln:(lcl a).length≤130
 vl:Val (lcl a)
 vb:Val b
 hl:Hd (lcl a)
 hb:Hd b
 pr:C45 (a,b,())=some (lcl a++[64]++b,())
theorem f3e {a b:List UInt8} (h:Rm a b) (hb:b.length≤3000):Mp a b:=by
 obtain ⟨h1,h2,h3,h4,h5,h6⟩:=h;have hD:j7b b dom b:=by
  rcases h6 with ⟨t,n,h6⟩ | h6
  · exact v0o h6
  · exact k1o h6
 have hva:Val a:=(z6g (by omega)).1 h3;have hvb:Val b:=(z6g (by omega)).1 h5;have hsk:=f2y;simp only [Bool.or_eq_false_iff] at hsk;have hHb:Hd b:=by
  rcases h6 with ⟨t,n,h6⟩ | h6
  · rw [←y9n h6,g4w];exact ⟨91,_,rfl,hsk.2,rfl⟩
  · exact w4w h6
 obtain ⟨⟨w,u⟩,hw,-⟩:=d88 a (by omega);cases w with
 | true =>
  have e:lcl a=a:=by unfold lcl;rw [hw]
  have hL:=k6y (p88 a (by omega) _ hw rfl);refine ⟨by rw [e];exact hL,hD,by rw [e];omega,by rw [e];exact hva,hvb,by rw [e];exact w4w (p88 a (by omega) _ hw rfl),hHb,?_⟩;rw [e];show F45 C88 C89 _=_;simp only [F45,hw,Option.bind_some,Bool.not_true,cond_false];rw [decide_eq_true (by simp only [List.length_cons,List.length_nil];omega),decide_eq_true (by simp only [List.length_append,List.length_cons,List.length_nil];omega)];rfl
 | false =>
  have e:lcl a=src 1 a:=by unfold lcl;rw [hw]
  have hlen:=j0q a;have hs:(src 1 a).length≤130:=by
   rw [g4v];simp only [List.length_append,List.length_cons,List.length_nil];omega
  have hv:Val (src 1 a):=by
   have e:src 1 a=[]++34::(esc a++34::[]):=by simp [src]
   rw [e];refine Val.glue (by decide) .nil (Val.glue (by decide) ?_ .nil);have:=x0x a [] (by simpa using hva);simpa using this
  refine ⟨by rw [e];exact g3h h4,hD,by rw [e];exact hs,by rw [e];exact hv,hvb,by rw [e,g4v];exact ⟨34,_,rfl,hsk.1,rfl⟩,hHb,?_⟩;rw [e];show F45 C88 C89 _=_;simp only [F45,hw,Option.bind_some,Bool.not_false,cond_true,c9 1 a 0 (by omega)];rw [decide_eq_true (by simp only [List.length_cons,List.length_nil];omega),decide_eq_true (by simp only [List.length_append,List.length_cons,List.length_nil];omega)];rfl
section
variable {T:List R6} {A:List R4} {B:List R3}
end
abbrev T46:=qq×qu×qv×qa×qa×qa×qa×Unit→Option (Bool×Unit)
def E46 (f:T46):FEnt:=⟨w1p,qz,f⟩
def K46 (f44:T44) (f82:T82):=lk [(44,E44 f44),(82,E82 f82)]
def F46 (f44:T44) (f82:T82):T46:=fun (x0,x1,x2,x3,x4,x5,x6,_) =>
 (f44 (x0,x1,x2,x3,x4,())).bind fun v =>
 bif v.1==0 then
 (f44 (x0,x1,x2,x5,x6,())).bind fun v =>
 bif v.1==0 then
 (f82 (x0,x1,x2,x3,x4,())).bind fun v =>
 (f82 (x0,x1,x2,x5,x6,())).bind fun v1 =>
 some
 (bif v.1==v1.1 then bif v.2.1==v1.2.1 then true else false else false,
 ())
 else some (false,())
 else some (false,())
def C46:T46:=F46 C44 C82
theorem b8l:FO 46 (E46 C46):=zq2 w1p qz K46 F46 C44 C82 (kc k7o (kc f7q kn)) Tryz.func46
abbrev T43:=Unit→Option (Bool×Unit)
def E43 (f:T43):FEnt:=⟨Li7,qz,f⟩
def K43 (f18:T18) (f32:T32) (f44:T44) (f45:T45) (f46:T46) (f71:T71) (f78:T78) (f82:T82):=lk [(18,E18 f18),(32,E32 f32),(44,E44 f44),(45,E45 f45),(46,E46 f46),(71,E71 f71),(78,E78 f78),(82,E82 f82)]
def C43:T43:=fun _=>some (true,())
theorem h43:y1y Γ (K43 C18 C32 C44 C45 C46 C71 C78 C82) 0 Tryz.f43.ntmps Tryz.f43.results.toList (code Tryz.f43) .nil (em id Li7 ()).1 (em id Li7 ()).2 (j8m 0 qz)=some (true,()):=by kernel_rfl
theorem b8k:FO 43 (E43 C43) :=
 q0 (kc f4i (kc f7l (kc k7o (kc f7m (kc b8l (kc f7p (kc b8t (kc f7q kn)))))))) Tryz.func43 (fun v=>h43)
abbrev j1z:=Bool×Int×qa×qa×qa×qa×Unit→Option (Bool×Unit)
def x6u (f:j1z):LEnt:=⟨w1r,w4r,f⟩
abbrev T14:=qa×qa×qa×Unit→Option (Bool×Unit)
def E14 (f:T14):FEnt:=⟨w1q,qz,f⟩
def K14 (f18:T18) (f21:T21) (f32:T32) (f38:T38) (f43:T43) (f44:T44) (f45:T45) (f47:T47):=lk [(18,E18 f18),(21,E21 f21),(32,E32 f32),(38,E38 f38),(43,E43 f43),(44,E44 f44),(45,E45 f45),(47,E47 f47)]
theorem w4x:zj Tryz.prog (K14 C18 C21 C32 C38 C43 C44 C45 C47):=(kc f4i (kc x5l (kc f7l (kc b8j (kc b8k (kc k7o (kc f7m (kc f7n kn))))))))
def z3a (f18:T18) (f21:T21) (f32:T32) (f38:T38) (f43:T43) (f44:T44) (f45:T45) (f47:T47):j1z:=fun (x0,x1,x2,x3,x4,x5,_) =>
 bif x0 then
 bif x1==0 then some (bif x4==x2 then bif x5==x3 then true else false else false,())
 else some (false,())
 else some (false,())
theorem g2g (f18:T18) (f21:T21) (f32:T32) (f38:T38) (f43:T43) (f44:T44) (f45:T45) (f47:T47):AqC (K14 f18 f21 f32 f38 f43 f44 f45 f47) 0 (qe (code Tryz.f14) [1,1,1,1,1,1,1,1,1,1]) .nil w1r w4r (z3a f18 f21 f32 f38 f43 f44 f45 f47):=fun v=>by kernel_rfl
def j6q:j1z:=z3a C18 C21 C32 C38 C43 C44 C45 C47
theorem g2r:zp 0 (qe (code Tryz.f14) [1,1,1,1,1,1,1,1,1,1]) (x6u j6q) :=
 frc w4x (g2g C18 C21 C32 C38 C43 C44 C45 C47)
def N14 (f14_c0:j1z):Ann:=(.seq .nil (.seq .nil (.seq .nil (.seq .nil (.seq .nil (.seq .nil (.seq .nil (.seq .nil (.seq .nil (.cut .nil (x6u f14_c0)))))))))))
def F14 (f18:T18) (f21:T21) (f32:T32) (f38:T38) (f43:T43) (f44:T44) (f45:T45) (f47:T47) (f14_c0:j1z):T14:=fun (x0,x1,x2,_) =>
 (f43 ()).bind fun v =>
 (f38 (x0,x1,())).bind fun v1 =>
 bif !v1.1 then some (v.1,())
 else
 bif decide ((↑x2.length:Int)>50) then some (v.1,())
 else
 (f47 (x2,())).bind fun v2 =>
 bif !v2.1 then some (v.1,())
 else
 (f18 ()).bind fun v3 =>
 (f44 (v3.1,v3.2.1,v3.2.2.1,x0,x1,())).bind fun v4 =>
 bif v4.1 != 0 then some (v.1,())
 else
 (f21 (x2,())).bind fun v5 =>
 bif decide (v5.1≥0) then some (v.1,())
 else
 (f45 (x0,x1,())).bind fun v6 =>
 bif decide ([32,40].length+x2.length≤9223372036854775807) then
 bif
 decide
 (([32,40]++x2).length+[41,13,10,32].length ≤
 9223372036854775807) then
 bif
 decide
 (0 ≤
 IntKind.i64.wrap
 (IntKind.i64.wrap ((↑(List.length v6.1):Int) - (↑x1.length:Int)) -
 1)) &&
 decide
 (IntKind.i64.wrap
 (IntKind.i64.wrap ((↑(List.length v6.1):Int) - (↑x1.length:Int)) - 1) ≤
 (↑(List.length v6.1):Int)) then
 bif
 decide
 (([32,40]++x2++[41,13,10,32]).length +
 (List.take
 (IntKind.i64.wrap
 (IntKind.i64.wrap
 ((↑(List.length v6.1):Int) - (↑x1.length:Int)) -
 1)).toNat
 v6.1).length ≤
 9223372036854775807) then
 bif
 decide
 (([32,40]++x2++[41,13,10,32] ++
 List.take
 (IntKind.i64.wrap
 (IntKind.i64.wrap
 ((↑(List.length v6.1):Int) - (↑x1.length:Int)) -
 1)).toNat
 v6.1).length +
 ([32,40]++x2++[41,13,10,32]).length ≤
 9223372036854775807) then
 bif
 decide
 (([32,40]++x2++[41,13,10,32] ++
 List.take
 (IntKind.i64.wrap
 (IntKind.i64.wrap
 ((↑(List.length v6.1):Int) - (↑x1.length:Int)) -
 1)).toNat
 v6.1 ++
 ([32,40]++x2++[41,13,10,32])).length +
 [64].length ≤
 9223372036854775807) then
 bif
 decide
 (([32,40]++x2++[41,13,10,32] ++
 List.take
 (IntKind.i64.wrap
 (IntKind.i64.wrap
 ((↑(List.length v6.1):Int) -
 (↑x1.length:Int)) -
 1)).toNat
 v6.1 ++
 ([32,40]++x2++[41,13,10,32]) ++
 [64]).length +
 ([32,40]++x2++[41,13,10,32]).length ≤
 9223372036854775807) then
 bif
 decide
 (([32,40]++x2++[41,13,10,32] ++
 List.take
 (IntKind.i64.wrap
 (IntKind.i64.wrap
 ((↑(List.length v6.1):Int) -
 (↑x1.length:Int)) -
 1)).toNat
 v6.1 ++
 ([32,40]++x2++[41,13,10,32]) ++
 [64] ++
 ([32,40]++x2++[41,13,10,32])).length +
 x1.length ≤
 9223372036854775807) then
 bif
 decide
 (([32,40]++x2++[41,13,10,32] ++
 List.take
 (IntKind.i64.wrap
 (IntKind.i64.wrap
 ((↑(List.length v6.1):Int) -
 (↑x1.length:Int)) -
 1)).toNat
 v6.1 ++
 ([32,40]++x2++[41,13,10,32]) ++
 [64] ++
 ([32,40]++x2++[41,13,10,32]) ++
 x1).length +
 ([32,40]++x2++[41,13,10,32]).length ≤
 9223372036854775807) then
 (f32
 (v3.1,v3.2.1,v3.2.2.1,
 [32,40]++x2++[41,13,10,32] ++
 List.take
 (IntKind.i64.wrap
 (IntKind.i64.wrap
 ((↑(List.length v6.1):Int) -
 (↑x1.length:Int)) -
 1)).toNat
 v6.1 ++
 ([32,40]++x2++[41,13,10,32]) ++
 [64] ++
 ([32,40]++x2++[41,13,10,32]) ++
 x1 ++
 ([32,40]++x2++[41,13,10,32]),
 ())).bind
 fun v7 =>
 (f14_c0
 (v.1,v7.2.2.1,x0,x1,v7.1,v7.2.1,
 ())).bind
 fun v=>some (v.1,())
 else none
 else none
 else none
 else none
 else none
 else none
 else none
 else none
 else none
theorem h14 (f18:T18) (f21:T21) (f32:T32) (f38:T38) (f43:T43) (f44:T44) (f45:T45) (f47:T47) (f14_c0:j1z):ye (K14 f18 f21 f32 f38 f43 f44 f45 f47) 0 Tryz.f14 (N14 f14_c0) w1q qz (F14 f18 f21 f32 f38 f43 f44 f45 f47 f14_c0):=fun v=>by kernel_rfl
def C14:T14:=F14 C18 C21 C32 C38 C43 C44 C45 C47 j6q
theorem ok14:FO 14 (E14 C14) :=
 qo w4x Tryz.func14 (And.intro g2r trivial) (h14 C18 C21 C32 C38 C43 C44 C45 C47 j6q)
def tkB:Bool:=match C18 () with
 | some (T,A,B,_)=>(decide (T.length≤1000000000000)&&T.all fun e=>decide (0≤e.2.2.2.1)&&decide (e.2.2.2.1<8))&&(decide (A.length≤1000000000000)&&decide (B.length≤1000000000000))
 | none=>false
theorem f8g:tkB=true:=by kernel_rfl
theorem tk:∃T A B,C18 ()=some (T,A,B,())∧TK T A B:=by
 have h:=f8g;unfold tkB at h;cases hc:C18 () with
 | none=>rw [hc] at h;cases h
 | some y =>
  obtain ⟨T,A,B,u⟩:=y;rw [hc] at h;simp only [Bool.and_eq_true,decide_eq_true_eq,List.all_eq_true] at h;exact ⟨T,A,B,rfl,⟨h.1.1,h.1.2⟩,h.2.1,h.2.2⟩
theorem g2o:C43 ()=some (true,()):=by kernel_rfl
theorem f3g:(jp 32 && !jo 32 && !q3f 32&&(!jp 40 && !jp 13 && !jo 13 && !q3f 13))=true:=by kernel_rfl
theorem w6g {c:UInt8} (r:List UInt8) (h:jp c=false) (h2:(c==13)=false):wl (c::r)=0:=by
 match r with
 | []=>simp [wl,h]
 | [b]=>simp [wl,h]
 | b::d::r=>rw [wl];simp [h,h2]
theorem f8i {X:List UInt8} (h:X=[]∨Hd X):wl X=0:=by
 rcases h with rfl | ⟨c,r,rfl,h1,h2⟩
 · rfl
 · exact w6g r h1 h2
def nb (x:List UInt8):List UInt8:=[32,40]++x++[41,13,10,32]
def nw (x:List UInt8) (p:Nat):List Tok:=[(4,[32],(p:Int)),(3,x,((p+1:Nat):Int)),(4,[13,10,32],((p+1+(x.length+2):Nat):Int))]
theorem z9l (x:List UInt8) (p:Nat):Wh (nw x p):=by
 intro y hy;simp only [nw,List.mem_cons,List.not_mem_nil,or_false] at hy;rcases hy with rfl | rfl | rfl<;>rfl
theorem z5n {x X:List UInt8} {l:List Tok} (hx:x.all jo=true) (hX:X=[]∨Hd X) (p:Nat) (h:yt X (p+(nb x).length) = .inl l):yt (nb x++X) p = .inl (nw x p++l):=by
 have hk:=f3g;simp only [Bool.and_eq_true,Bool.not_eq_true'] at hk;obtain ⟨⟨⟨b32,a32⟩,s32⟩,⟨⟨b40,b13⟩,a13⟩,s13⟩:=hk;have e:nb x++X=32::40::(x++41::13::10::32::X):=by simp [nb]
 have o1:one 32 (40::(x++41::13::10::32::X))=(4,.ok [32] 1):=by
  have hw:wl (32::40::(x++41::13::10::32::X))=1:=by
   rw [f8j b32,w6g _ b40 rfl]
  unfold one;rw [if_neg (by rw [a32];decide),if_neg (by rw [s32];decide),if_neg (by decide),if_neg (by decide),if_neg (by decide),hw,if_neg (by decide)];rfl
 have o2:one 40 (x++41::13::10::32::X)=(3,.ok x (x.length+2)):=by
  rw [f7u,z9k 1 _ x hx,v3i (by decide),if_pos rfl];show (3,Tk.ok (x++[]) (1+(x.length+1)))=_;rw [List.append_nil,show 1+(x.length+1)=x.length+2 by omega]
 have o3:one 13 (10::32::X)=(4,.ok [13,10,32] 3):=by
  have hw:wl (13::10::32::X)=3:=by
   rw [wl];simp [b13,b32,f8i hX]
  unfold one;rw [if_neg (by rw [a13];decide),if_neg (by rw [s13];decide),if_neg (by decide),if_neg (by decide),if_neg (by decide),hw,if_neg (by decide)];rfl
 have hlen:(nb x).length=x.length+6:=by simp [nb]
 have d2:(40::(x++41::13::10::32::X)).drop (x.length+2)=13::10::32::X:=by
  rw [show x.length+2=(x++[41]).length+1 by simp,List.drop_succ_cons,show x++41::13::10::32::X=(x++[41])++13::10::32::X by simp,List.drop_left]
 rw [e,kj o1,show (32::40::(x++41::13::10::32::X)).drop 1=40::(x++41::13::10::32::X) from rfl,kj o2,d2,kj o3,show (13::10::32::X).drop 3=X from rfl,show p+1+(x.length+2)+3=p+(nb x).length by rw [hlen];omega,h];rfl
theorem x0w:∀s:List UInt8,(∀c∈s,c.toNat<128)→Val s
 | [],_ => .nil
 | c::s,h=>(Val.one (h c List.mem_cons_self)).app (x0w s fun d hd=>h d (List.mem_cons_of_mem _ hd))
theorem y0i (x X:List UInt8):stops jo (nb x++X):=by
 have hk:=f3g;simp only [Bool.and_eq_true,Bool.not_eq_true'] at hk;exact hk.1.1.2
theorem v1e {w:List UInt8} (h:Hd w) (X:List UInt8):Hd (w++X):=by
 obtain ⟨c,r,rfl,h1,h2⟩:=h;exact ⟨c,r++X,rfl,h1,h2⟩
theorem k3k:jp 64=false:=by kernel_rfl
theorem b8e {T A B} (a b x:List UInt8) (h:Mp a b) (hb:b.length≤200) (hx:x.length≤50) (hxa:x.all jo=true) (hx8:∀c∈x,c.toNat<128) (h44:C44 (T,A,B,a,b,())=some (0,())) :
 C32 (T,A,B,nb x++lcl a++nb x++[64]++nb x++b++nb x,())=some (a,b,0,()):=by
 have hlen:=h.ln;have hnl:(nb x).length=x.length+6:=by simp [nb]
 have e:nb x++lcl a++nb x++[64]++nb x++b++nb x=nb x++(lcl a++(nb x++(64::(nb x++(b++(nb x++[])))))):=by simp
 have hvn:Val (nb x):=x0w _ fun c hc=>by
  simp only [nb,List.mem_append,List.mem_cons,List.not_mem_nil,or_false] at hc;rcases hc with ((rfl | rfl) | hc) | (rfl | rfl | rfl | rfl);all_goals first | decide | exact hx8 c hc
 have hv:Val (nb x++(lcl a++(nb x++(64::(nb x++(b++(nb x++[]))))))) :=
  hvn.app (h.vl.app (Val.glue (by decide) hvn (hvn.app (h.vb.app (hvn.app .nil)))))
 obtain ⟨ts,-,k3,k4⟩:=h.lc (0+(nb x).length);obtain ⟨td,-,k1,k2⟩:=h.dm (0+(nb x).length+(lcl a).length+(nb x).length+1+(nb x).length);have g1:=z5n (l:=[]) hxa (.inl rfl) (0+(nb x).length+(lcl a).length+(nb x).length+1+(nb x).length+b.length) (j8j _);have g2:=k1 _ _ (y0i x []) g1;have g3:=z5n hxa (.inr (v1e h.hb _)) (0+(nb x).length+(lcl a).length+(nb x).length+1) g2;have g4:=g3g g3;have g5:=z5n hxa (.inr ⟨64,_,rfl,k3k,rfl⟩) (0+(nb x).length+(lcl a).length) g4;have g6:=k3 _ _ (y0i x _) g5;have g7:=z5n hxa (.inr (v1e h.hl _)) 0 g6;have hm:=f3f (n:=((0+(nb x).length+(lcl a).length+(nb x).length:Nat):Int)) (z9l x 0) (z9l x (0+(nb x).length+(lcl a).length)) (z9l x (0+(nb x).length+(lcl a).length+(nb x).length+1))
  (w4u (z9l x (0+(nb x).length+(lcl a).length+(nb x).length+1+(nb x).length+b.length)) g1p) k4 k2
 rw [j8z _ _ (z9l x _)] at hm;generalize hl:nw x 0++(ts++(nw x (0+(nb x).length+(lcl a).length)++((2,[64],((0+(nb x).length+(lcl a).length+(nb x).length:Nat):Int))::(nw x (0+(nb x).length+(lcl a).length+(nb x).length+1)++(td++(nw x (0+(nb x).length+(lcl a).length+(nb x).length+1+(nb x).length+b.length)++[]))))))=l at hm;have hll:l.length=(nw x 0).length+ts.length+(nw x (0+(nb x).length+(lcl a).length)).length+1+(nw x (0+(nb x).length+(lcl a).length+(nb x).length+1)).length+td.length+((nw x (0+(nb x).length+(lcl a).length+(nb x).length+1+(nb x).length+b.length)).length+skn []):=by
  rw [←hl];simp only [List.length_append,List.length_cons,List.length_nil,skn];all_goals omega
 rw [←hll] at hm;have hg:yt (nb x++(lcl a++(nb x++(64::(nb x++(b++(nb x++[]))))))) 0 = .inl l:=by
  rw [g7,←hl]
 have hpl:(nb x++(lcl a++(nb x++(64::(nb x++(b++(nb x++[])))))) ).length≤1000:=by
  simp only [List.length_append,List.length_cons,List.length_nil,hnl];omega
 rw [e];generalize nb x++(lcl a++(nb x++(64::(nb x++(b++(nb x++[]))))))=pr at hv hg hpl ⊢;have hR:j9s pr=(l,0,0):=by
  unfold j9s;rw [if_neg (by omega),(z6g (by omega)).2 hv,hg];rfl
 have h67:=c11 pr;have hz:=k6w pr;rw [hR] at h67 hz;dsimp only at h67 hz;have h71:=c71 l (by omega);rw [hm] at h71;dsimp only at h71;show F32 C44 C67 C71 _=_;simp only [F32,h67,Option.bind_some,h71,inF (rfl:(0:Int)=0),cond_false,Bool.not_true,inF (show (l.length:Int)=(l.length:Int) from rfl),h44]
theorem g0a (a b x:List UInt8):C14 (a,b,x,())=some (true,()):=by
 obtain ⟨T,A,B,h18,hT⟩:=tk;have hK:=kt h18;show F14 C18 C21 C32 C38 C43 C44 C45 C47 j6q _=_;simp only [F14,g2o,Option.bind_some];have h38:C38 (a,b,())=some (decide ((a.length:Int)≤150∧(b.length:Int)≤200),()):=by
  show F38 _=_;simp only [F38];by_cases h1:(a.length:Int)≤150
  · rw [decide_eq_true h1]
    simp [h1]
  · rw [decide_eq_false h1]
    simp [h1]
 rw [h38];simp only [Option.bind_some];by_cases hf:(a.length:Int)≤150∧(b.length:Int)≤200
 case neg =>
  rw [decide_eq_false hf];rfl
 rw [decide_eq_true hf];simp only [Bool.not_true,cond_false];by_cases hs:(x.length:Int)>50
 · rw [decide_eq_true hs];rfl
 rw [decide_eq_false hs];simp only [cond_false];obtain ⟨⟨pl,u⟩,h47,-⟩:=d47 x (by omega);simp only [h47,Option.bind_some];cases pl with
 | false=>rfl
 | true =>
  have hxa:=(p47 x (by omega) _ h47 rfl).2;simp only [Bool.not_true,cond_false,h18,Option.bind_some];obtain ⟨⟨e,u⟩,h44,-⟩:=d44 hT a b (by omega) (by omega);simp only [h44,Option.bind_some];by_cases he:e=0
  case neg=>simp only [inT he,cond_true]
  subst he;obtain ⟨⟨k,u⟩,h21,-,hk⟩:=d21 x (by omega);dsimp only at hk;simp only [inF (rfl:(0:Int)=0),cond_false,h21,Option.bind_some];by_cases hk0:k≥0
  · rw [decide_eq_true hk0];rfl
  rw [decide_eq_false hk0];have hM:=f3e (p44 hT hK a b (by omega) (by omega) _ h44 rfl) (by omega);have h32:=b8e (T:=T) (A:=A) (B:=B) a b x hM (by omega) (by omega) hxa (hk (by omega)) h44;have hln:=hM.ln;have hpl:(lcl a++[64]++b).length=(lcl a).length+1+b.length:=by simp only [List.length_append,List.length_cons,List.length_nil]
  have hw:IntKind.i64.wrap (IntKind.i64.wrap (((lcl a++[64]++b).length:Int) - (b.length:Int)) - 1)=((lcl a).length:Int):=by
   rw [hpl,qh (n:=(((lcl a).length+1+b.length:Nat):Int) - (b.length:Int)) (by omega),qh (by omega)];omega
  have ht:List.take (lcl a).length (lcl a++[64]++b)=lcl a:=by rw [List.append_assoc,List.take_left]
  have hnl:(nb x).length=x.length+6:=by simp [nb]
  have h32':C32 (T,A,B,[32,40]++x++[41,13,10,32]++lcl a++([32,40]++x++[41,13,10,32])++[64]++([32,40]++x++[41,13,10,32])++b++([32,40]++x++[41,13,10,32]),())=some (a,b,0,()):=h32;have hc0:j6q (true,0,a,b,a,b,())=some (true,()):=by
   show z3a C18 C21 C32 C38 C43 C44 C45 C47 _=_;simp only [z3a,cond_true,beq_self_eq_true]
  simp only [cond_false,hM.pr,Option.bind_some,hw,Int.toNat_natCast,ht];simp (disch:=(first | omega | (simp only [List.length_append,List.length_cons,List.length_nil];omega))) only [decide_eq_true,Bool.and_self,cond_true,h32',hc0,Option.bind_some]
end Go.Proofs.YtiacnhhmkdkpmaaGreatDoorA.W
namespace Go.Proofs.YtiacnhhmkdkpmaaGreatDoorA.PMailboxNotes
open Go Go.Ae Go.Proofs.YtiacnhhmkdkpmaaGreatDoorA.W
theorem pure (x0:(Ty.pair .str .str).den) (b0:Bd (Ty.pair .str .str) x0) (x1:Ty.str.den) (b1:Bd Ty.str x1):C14 (x0.1,x0.2,x1,())=some (true,()):=g0a _ _ _
end Go.Proofs.YtiacnhhmkdkpmaaGreatDoorA.PMailboxNotes
namespace Go.Proofs.YtiacnhhmkdkpmaaGreatDoor
open Go Go.Ae Go.RowKit
theorem glob {W:World} {p:Prop} (hL:p) (hsh:W.ShapedOpen Tryz.prog):GI W m0:=by
 obtain ⟨m,hm⟩:=Go.Proofs.cell_of_shapedOpen_int (g:=2) (k := .i64) (t:=3) (zero := #[.int .i64 0]) hsh (of_decide_eq_true (by kernel_rfl)) (by kernel_rfl) (by kernel_rfl) (by kernel_rfl) (by kernel_rfl) (by kernel_rfl);refine ⟨⟨m,hm⟩,fun b hb=>⟨?_,fun h=>h⟩⟩;simp only [q2m,List.mem_cons,List.not_mem_nil,or_false] at hb;subst hb;exact lt_of_cell hm
end Go.Proofs.YtiacnhhmkdkpmaaGreatDoor
