/- The texts of the proof, one behind the other: PR2, PR3, PR4, PL1, PL2, PL3, PL4, PL5, PL6, PL7, PQ, PL8, PL9, PM1, PM2, PLT, PPN, PMB, W15, PPathBack, PGlob. -/
import Derived.Test.YtiacnhhmkdkpmaaGreatDoorAMs5
import Derived.Test.YtiacnhhmkdkpmaaGreatDoorRows
import Derived.Test.YtiacnhhmkdkpmaaGreatDoorProg
import Derived.Test.YtiacnhhmkdkpmaaGreatDoorAMs2
import Derived.MakeChecks
set_option linter.unusedVariables false
set_option linter.unusedSimpArgs false
set_option maxRecDepth 100000
namespace Go.Proofs.YtiacnhhmkdkpmaaGreatDoorA.W
open Go Go.Ae
theorem g7m (x:Int) (b:Bool):Pf (q1g (x,b,())) (Sum.elim (fun y=>1≤y.1) (fun _=>True)):=by
 show Pf (q3y _) _;unfold q3y;dsimp only;with_reducible repeat' (first | exact pN | apply pP | apply pX<;>intro _)
 all_goals first | trivial | exact (by decide:(1:Int)≤2) | exact (by decide:(1:Int)≤3)
theorem g7n (x:Int) (b:Bool):Pf (q1h (x,b,())) (Sum.elim (fun y=>1≤y.1) (fun _=>True)):=by
 show Pf (q3z q1g _) _;unfold q3z;dsimp only;with_reducible repeat' (first | exact pN | apply pP | apply pX<;>intro _)
 all_goals first | trivial | exact (by decide:(1:Int)≤1) | (refine pZ (g7m _ _) ?_;intro s hs;exact pS hs (fun a ha=>pP ha) (fun _ _=>pP trivial))
theorem d2z (x:Int) (hx:0≤x):Pf (ka (x,())) (fun y=>(y.1=0→x<128∧y.2.1=x)∧(0<y.1→128≤x)):=by
 show Pf (x3l q1h _) _;unfold x3l;dsimp only;with_reducible repeat' (first | exact pN | apply pP | apply pX<;>intro _)
 · rename_i h
   exact ⟨fun _=>⟨h,g8o (by omega)⟩,fun h=>by cases h⟩
 all_goals
  refine pZ (g7n _ _) ?_;intro s hs;exact pS hs (fun a ha=>pP ⟨fun h=>by have h':a.1=0:=h;have ha':1≤a.1:=ha;omega,fun _=>by omega⟩) (fun _ _=>pP ⟨fun h=>(by cases h),fun h=>by cases h⟩)
theorem g2m:((List.range 256).all fun n => !(intBits BinOp.andNot IntKind.u8 (n:Int) 63==128)||decide (128≤n))=true:=by kernel_rfl
theorem k2w (c:UInt8) (h:intBits BinOp.andNot IntKind.u8 (c.toNat:Int) 63=128):128≤c.toNat:=by
 have:=List.all_eq_true.1 g2m c.toNat (List.mem_range.2 c.toNat_lt)
 rw [h] at this;simpa using this
theorem b1u (s:List UInt8) (n r at_:Int) (o:List Int) (h:0≤at_) (hn:0≤n∧n≤3) (hb:s.length≤1000000000000) (ha:at_≤s.length) :
 Pf (q2r (s,n,r,at_,at_+1,o,())) (Sum.elim (fun y=>∃r',y=(s,n,r',at_,o,())∧(n=0→r'=r)∧∀j:Nat,at_+1≤j→j≤at_+n→128≤(s.getD j 0).toNat) (fun y=>y.1=at_)):=by
 refine pL ?I ?h _ ?hv
 case I=>exact (fun v=>∃(k r':Int),v=(s,n,r',at_,k,o,())∧at_+1≤k∧(n=0→r'=r)∧∀j:Nat,at_+1≤j→j<k→128≤(s.getD j 0).toNat)
 case hv=>exact ⟨_,_,rfl,Int.le_refl _,fun _=>rfl,fun j h1 h2=>by omega⟩
 rintro v ⟨k,r',rfl,h1,h2,h3⟩;unfold q2v;dsimp only;rw [qg (n:=at_+n) (by omega)];with_reducible repeat' (first | exact pN | apply pP | apply pX<;>intro _)
 · exact rfl
 · rename_i h4 h5 h6 h7
   rw [qg (n:=k+1) (by omega)];refine ⟨_,_,rfl,by omega,fun h0=>by omega,fun j h8 h9 => ?_⟩;by_cases hjk:(j:Int)<k
   · exact h3 j h8 hjk
   · have hj:j=k.toNat:=by omega
     subst hj;exact k2w _ h6
 · exact ⟨_,rfl,h2,fun j h8 h9=>h3 j h8 (by omega)⟩
theorem v1p (s:List UInt8) (k m:Nat) (h:∀j,k≤j→j<k+m→128≤(s.getD j 0).toNat):∀x∈bi ((s.drop k).take m),kk x=false:=by
 intro x hx;obtain ⟨c,hc,rfl⟩:=List.mem_map.1 hx;obtain ⟨i,hi,rfl⟩:=List.mem_iff_getElem.1 hc;rw [List.length_take,List.length_drop] at hi;rw [List.getElem_take,List.getElem_drop];have:=h (k+i) (by omega) (by omega);rw [getD_lt (by omega)] at this;exact y0l (by omega)
theorem p83 (s:List UInt8) (hb:s.length≤1000000000000):Pf (C83 (s,())) (fun y=>y.2.1<0→Rr (bi s) y.1):=by
 show Pf (F83 ka yz q2q q6p _) _;unfold F83;dsimp only;refine pZ (P:=Sum.elim (fun y=>Rr (bi s) y.1) (fun y=>0≤y.1)) ?_ ?_
 · refine pL ?I ?h _ ?hv
   case I=>exact (fun v=>∃(k:Int) (o:List Int),0≤k∧k≤s.length∧Rr (bi (s.take k.toNat)) o∧v=(s,k,o,()))
   case hv=>exact ⟨0,[],Int.le_refl _,by omega,Rr.refl _,rfl⟩
   rintro v ⟨k,o,h0,h1,h2,rfl⟩;unfold vo;dsimp only;with_reducible repeat' (first | exact pN | apply pP | apply pX<;>intro _)
   · rename_i h3 h4
     have hlt:k.toNat<s.length:=by omega
     refine pZ (pA (f5h _).pf (d2z _ (by omega))) ?_;rintro ⟨n,r,u⟩ ⟨hn,hn0,hn1⟩;dsimp only at hn hn0 hn1 ⊢;rw [qg (n:=(s.length:Int) - k) (by omega)];with_reducible repeat' (first | exact pN | apply pP | apply pX<;>intro _)
     · exact h0
     · exact h0
     · rename_i h5 h6
       rw [qg (n:=k+1) (by omega)];refine pZ (b1u s n r k o h0 (by omega) hb h1) ?_;intro z hz;refine pS hz ?_ ?_
       · rintro y ⟨r',rfl,h7,h8⟩
         dsimp only;refine pZ pT ?_;rintro ⟨m,u⟩ -
         dsimp only;rw [qg (n:=n+1) (by omega),qg (n:=k+(n+1)) (by omega)];with_reducible repeat' (first | exact pN | apply pP | apply pX<;>intro _)
         · exact h0
         · refine ⟨_,_,by omega,by omega,?_,rfl⟩
           have e:s.take (k+(n+1)).toNat=s.take k.toNat++(s.drop k.toNat).take (n+1).toNat:=by
            rw [show (k+(n+1)).toNat=k.toNat+(n+1).toNat by omega,List.take_add]
           rw [e,xf];by_cases hz:n=0
           · have h9:=hn0 hz
             have e2:(s.drop k.toNat).take (n+1).toNat=[s[k.toNat]]:=by
              rw [show (n+1).toNat=1 by omega,List.drop_eq_getElem_cons hlt];rfl
             rw [e2];refine ap _ _ h2 fun _ => ?_;rw [h7 hz,h9.2,getD_lt hlt]
           · refine apn _ _ h2 ?_ (v1p s k.toNat (n+1).toNat fun j hj1 hj2 => ?_)
             · intro he
               have:=congrArg List.length he;simp only [bi,List.length_map,List.length_take,List.length_drop,List.length_nil] at this;omega
             · by_cases hjk:j=k.toNat
               · subst hjk
                 have:=hn1 (by omega);omega
               · exact h8 j (by omega) (by omega)
       · rintro ⟨a,b,u⟩ ha
         dsimp only at ha ⊢;exact pP (by rw [ha];exact h0)
   · rw [List.take_of_length_le (by omega)] at h2
     exact h2
 · intro r hr
   refine pS hr ?_ ?_
   · rintro ⟨a,u⟩ ha
     exact pP fun _=>ha
   · rintro ⟨a,b,u⟩ ha
     exact pP fun h=>by
      have h':a<0:=h;have ha':0≤a:=ha;omega
theorem d3a (x:Int):Pf (yz (x,())) (fun y=>(y.1=1→0≤x∧x≤127)∧(y.1≠1→y.1=0∨127<x)):=by
 show Pf (z8r xb _) _;unfold z8r;dsimp only;refine pZ (k3e x).pf ?_;rintro ⟨b,u⟩ hb;dsimp only at hb ⊢;with_reducible repeat' (first | exact pN | apply pP | apply pX<;>intro _)
 all_goals (dsimp only;refine ⟨fun h => ?_,fun h => ?_⟩;all_goals first | omega | (have:=hb (by assumption);omega) | (cases h))
theorem bi1 {r:Int} (h0:0≤r) (h1:r≤127):bi [UInt8.ofNat (IntKind.u8.wrap r).toNat]=[r]:=by
 have e:(UInt8.ofNat (IntKind.u8.wrap r).toNat).toNat=r.toNat:=by
  rw [w0i,UInt8.toNat_ofNat'];omega
 unfold bi;rw [List.map_cons,List.map_nil,e];congr 1;omega
theorem g7p (l:List Int) (hb:l.length≤20000000000000):Pf (z3k (l,())) (fun y=>(y.2.1=true→Rr l (bi y.1))∧(y.2.1=false→y.1=[])):=by
 show Pf (x3o yz q7u _) _;unfold x3o;dsimp only;refine pZ (P:=Sum.elim (fun y=>Rr l (bi y.1)) (fun y=>y.1=[]∧y.2.1=false)) ?_ ?_
 · refine pL ?I ?h _ ?hv
   case I=>exact (fun v=>∃(k:Int) (o:List UInt8),0≤k∧k≤l.length∧Rr (l.take k.toNat) (bi o)∧v=(l,(l.length:Int),k,o,()))
   case hv=>exact ⟨0,[],Int.le_refl _,by omega,Rr.refl _,rfl⟩
   rintro v ⟨k,o,h0,h1,h2,rfl⟩;unfold j5y;dsimp only;with_reducible repeat' (first | exact pN | apply pP | apply pX<;>intro _)
   · rename_i h3 h4
     have hlt:k.toNat<l.length:=by omega
     refine pZ (d3a _) ?_;rintro ⟨m,u⟩ ⟨hm1,hm2⟩;dsimp only at hm1 hm2 ⊢;have jv:∀ys:List UInt8,(kk (l.getD k.toNat 0)=true→bi ys=[l.getD k.toNat 0])→∃(k':Int) (o':List UInt8),0≤k'∧k'≤l.length∧Rr (l.take k'.toNat) (bi o')∧(l,(l.length:Int),IntKind.i64.wrap (k+1),o++ys,())=(l,(l.length:Int),k',o',()):=by
      intro ys hys;rw [qg (n:=k+1) (by omega)];refine ⟨_,_,by omega,by omega,?_,rfl⟩;rw [show (k+1).toNat=k.toNat+1 by omega,ql hlt,xf];rw [getD_lt hlt] at hys;exact ap _ _ h2 hys
     have hi:127<l.getD k.toNat 0→kk (l.getD k.toNat 0)=true→∀ys:List UInt8,bi ys=[l.getD k.toNat 0]:=fun h hk=>by
      have:=(q3i _).1 hk;omega
     with_reducible repeat' (first | exact pN | apply pP | apply pX<;>intro _)
     · exact ⟨rfl,rfl⟩
     · rename_i h5 h6 _
       have:=hm1 h6;exact jv _ fun _=>bi1 this.1 this.2
     · rename_i h5 h6 h7 _
       exact jv _ fun hk=>hi (by have:=hm2 h6;omega) hk _
     · rename_i h5 h6 h7 h8 _
       exact jv _ fun hk=>hi (by have:=hm2 h6;omega) hk _
     · rename_i h5 h6 h7 h8 h9 _
       exact jv _ fun hk=>hi (by have:=hm2 h6;omega) hk _
     · rename_i h5 h6 h7 h8 h9
       have:=jv [] fun hk=>hi (by have:=hm2 h6;omega) hk _;rw [List.append_nil] at this;exact this
   · rw [List.take_of_length_le (by omega)] at h2
     exact h2
 · intro r hr
   refine pS hr ?_ ?_
   · rintro ⟨a,u⟩ ha
     exact pP ⟨fun _=>ha,fun h=>by cases h⟩
   · rintro ⟨a,b,u⟩ ⟨ha,hb⟩
     exact pP ⟨fun h=>(by rw [hb] at h;cases h),fun _=>ha⟩
section
variable {T:List R6} {A:List R4} {B:List R3}
theorem d3p (r:Int):Pf (z0o (T,A,B,r,())) (fun y=>kk r=true→y.1=r):=by
 show Pf (x3r zp _) _;unfold x3r;dsimp only;with_reducible repeat' (first | exact pN | apply pP | apply pX<;>intro _)
 · exact fun _=>rfl
 · exact fun _=>rfl
 · exact pZ pT fun _ _=>pP fun hk=>by have:=(q3i _).1 hk;omega
theorem d3o (l:List Int) (hl:l.length≤1000000000000):Pf (x2w (l,T,A,B,())) (fun y=>Rr l y.1):=by
 show Pf (x3q z0o q7x _) _;unfold x3q;dsimp only;refine pZ (P:=fun y=>Rr l y.1) ?_ (fun _ h=>pP h);refine pL ?I ?h _ ?hv
 case I=>exact (fun v=>∃(k:Int) (o:List Int),0≤k∧k≤l.length∧Rr (l.take k.toNat) o∧v=(T,A,B,l,(l.length:Int),k,o,()))
 case hv=>exact ⟨0,[],Int.le_refl _,by omega,Rr.refl _,rfl⟩
 rintro v ⟨k,o,h0,h1,h2,rfl⟩;unfold j6a;dsimp only;with_reducible repeat' (first | exact pN | apply pP | apply pX<;>intro _)
 · have hlt:k.toNat<l.length:=by omega
   refine pZ (d3p _) ?_;rintro ⟨m,u⟩ hm;dsimp only at hm ⊢;rw [qg (n:=k+1) (by omega)];with_reducible repeat' (first | exact pN | apply pP | apply pX<;>intro _)
   refine ⟨_,_,by omega,by omega,?_,rfl⟩;rw [show (k+1).toNat=k.toNat+1 by omega,ql hlt];rw [getD_lt hlt] at hm;exact ap _ _ h2 fun hk=>by rw [hm hk]
 · rw [List.take_of_length_le (by omega)] at h2
   exact h2
theorem g7q (hK:KT T A B) (l:List Int) (hl:l.length≤1000000000000):Pf (j2f (l,T,A,B,())) (fun y=>Rr l y.1):=by
 show Pf (j2k j2g q0r _) _;unfold j2k;dsimp only;refine pZ (P:=fun y=>Rr l y.1) ?_ (fun _ h=>pP h);refine pL ?I ?h _ ?hv
 case I=>exact (fun v=>∃(k:Int) (o:List Int),0≤k∧k≤l.length∧Rr (l.take k.toNat) o∧v=(T,A,B,l,(l.length:Int),k,o,()))
 case hv=>exact ⟨0,[],Int.le_refl _,by omega,Rr.refl _,rfl⟩
 rintro v ⟨k,o,h0,h1,h2,rfl⟩;unfold q4c;dsimp only;with_reducible repeat' (first | exact pN | apply pP | apply pX<;>intro _)
 · have hlt:k.toNat<l.length:=by omega
   refine pZ (P:=fun y=>kk (l.getD k.toNat 0)=true→y.1=l.getD k.toNat 0) (fun y e hk=>by rw [hK.lo _ hk] at e;cases e;rfl) ?_;rintro ⟨m,u⟩ hm;dsimp only at hm ⊢;rw [qg (n:=k+1) (by omega)];with_reducible repeat' (first | exact pN | apply pP | apply pX<;>intro _)
   refine ⟨_,_,by omega,by omega,?_,rfl⟩;rw [show (k+1).toNat=k.toNat+1 by omega,ql hlt];rw [getD_lt hlt] at hm;exact ap _ _ h2 fun hk=>by rw [hm hk]
 · rw [List.take_of_length_le (by omega)] at h2
   exact h2
theorem d3j (l:List Int) (hl:l.length≤1000000000000):Pf (x2v (T,A,B,l,())) (fun y=>Rr l y.1):=by
 unfold x2v x9u;dsimp only;exact pZ (d3o l hl) fun _ h=>pP h
theorem d3i (hK:KT T A B) (l:List Int) (hl:l.length≤1000000000000):Pf (x2u (T,A,B,l,())) (fun y=>Rr l y.1):=by
 unfold x2u x9t;dsimp only;exact pZ (g7q hK l hl) fun _ h=>pP h
theorem v6p:(qw.all fun s => !kk s.1)=true:=by kernel_rfl
theorem g8h:((qw.filter fun s => !s.2.2.2.1 && !s.2.2.2.2).all fun s => !kk s.2.1 && !kk s.2.2.1)=true:=by kernel_rfl
theorem f5a {r:Int} (hk:kk r=true):zp (T,A,B,r,())=some (0,0,0,false,false,false,()):=by
 have h:=(q3i r).1 hk;unfold zp;dsimp only;have e:(decide (65281≤r)&&decide (r≤65374))=false:=by simp;omega
 rw [e];have hs:q1z r=none:=by
  unfold q1z;rw [List.find?_eq_none];intro s hs he;have h1:=List.all_eq_true.1 v6p s hs;have h2:r=s.1:=by simpa using he
  rw [←h2,hk] at h1;cases h1
 rw [hs];rfl
theorem k9u (a b c:Int):Pf (ya (a,b,c,())) (fun y=>y.1=true→b≤a):=by
 show Pf (z8s _) _;unfold z8s;dsimp only;with_reducible repeat' (first | exact pN | apply pP | apply pX<;>intro _)
 · exact fun _=>by omega
 · exact fun h=>by cases h
theorem f5e {r:Int} (hk:kk r=true):ya (r,44032,11172,())=some (false,()):=by
 have h:=(q3i r).1 hk;show z8s _=_;unfold z8s;dsimp only;rw [decide_eq_false (by omega)];rfl
theorem d4h (r:Int) (sf:Bool):Pf (z0q (T,A,B,r,sf,())) (fun y=>kk r=true→y.1=[r]):=by
 show Pf (q1b (fun G=>j2l zp G ya vm vg (yh zp G ya vm vg)) jc _) _;refine pRn (P:=fun (v:List R6×List R4×List R3×Int×Bool×Unit) (y:List Int×Unit)=>kk v.2.2.2.1=true→y.1=[v.2.2.2.1]) ?_ jc _;rintro G - ⟨T,A,B,r,sf,u⟩;by_cases hk:kk r=true
 · show Pf (j2l zp G ya vm vg (yh zp G ya vm vg) (T,A,B,r,sf,())) _
   unfold j2l;dsimp only;simp only [f5a hk,Option.bind_some,f5e hk,Bool.not_false,cond_true,cond_false];unfold yh;dsimp only;simp only [cond_true,Option.bind_some,Sum.elim_inl];exact pP fun _=>rfl
 · exact pM pT fun _ _ h=>absurd h hk
theorem d3v (l:List Int) (sf:Bool) (hl:l.length≤100000000000):Pf (x7p (T,A,B,l,sf,())) (fun y=>Rr l y.1):=by
 show Pf (x3s z0q q8b _) _;unfold x3s;dsimp only;refine pZ (P:=fun y=>Rr l y.1) ?_ (fun _ h=>pP h);refine pL ?I ?h _ ?hv
 case I=>exact (fun v=>∃(k:Int) (o:List Int),0≤k∧k≤l.length∧Rr (l.take k.toNat) o∧v=(sf,l,(l.length:Int),k,T,A,B,o,()))
 case hv=>exact ⟨0,[],Int.le_refl _,by omega,Rr.refl _,rfl⟩
 rintro v ⟨k,o,h0,h1,h2,rfl⟩;unfold j6g;dsimp only;with_reducible repeat' (first | exact pN | apply pP | apply pX<;>intro _)
 · have hlt:k.toNat<l.length:=by omega
   refine pZ (d4h _ _) ?_;rintro ⟨z,u⟩ hz;dsimp only at hz ⊢;rw [qg (n:=k+1) (by omega)];with_reducible repeat' (first | exact pN | apply pP | apply pX<;>intro _)
   refine ⟨_,_,by omega,by omega,?_,rfl⟩;rw [show (k+1).toNat=k.toNat+1 by omega,ql hlt];rw [getD_lt hlt] at hz;exact ap _ _ h2 hz
 · rw [List.take_of_length_le (by omega)] at h2
   exact h2
theorem d4l (a b:Int):Pf (q2o (T,A,B,a,b,())) (fun y=>y.2.1=true→kk a=false∧kk b=false):=by
 unfold q2o;dsimp only;cases hp:z0e a b with
 | none=>exact pP fun h=>by cases h
 | some s =>
  refine pP fun _ => ?_;unfold z0e at hp;have h1:=List.all_eq_true.1 g8h s (List.mem_of_find?_eq_some hp);have h2:=List.find?_some hp;simp only [Bool.and_eq_true,beq_iff_eq,Bool.not_eq_true'] at h1 h2;rw [h2.1,h2.2];exact h1
theorem g7v (a b:Int) (f:Bool) (hf:f=true→128≤a∧128≤b):Pf (ke (a,b,f,T,A,B,())) (Sum.elim (fun y=>y.2.1=true→kk a=false∧kk b=false) (fun y=>y=(a,b,T,A,B,()))):=by
 show Pf (q4e ya q2o _) _;unfold q4e;dsimp only;with_reducible repeat' (first | exact pN | apply pP | apply pX<;>intro _)
 · rename_i h
   have:=hf h;exact fun _=>⟨y0l this.1,y0l this.2⟩
 · refine pZ (k9u _ _ _) ?_
   rintro ⟨z,u⟩ hz;dsimp only at hz ⊢;with_reducible repeat' (first | exact pN | apply pP | apply pX<;>intro _)
   · rename_i h1 h2
     have h3:=hz h1;refine pZ (k9u _ _ _) ?_;rintro ⟨z,u⟩ hz';dsimp only at hz' ⊢;with_reducible repeat' (first | exact pN | apply pP | apply pX<;>intro _)
     · rename_i h4
       have h5:=hz' h4;exact fun _=>⟨y0l (by omega),y0l (by omega)⟩
     · exact rfl
   all_goals exact rfl
theorem d4i (a b:Int):Pf (q8k (T,A,B,a,b,())) (fun y=>y.2.1=true→kk a=false∧kk b=false):=by
 show Pf (x3v ya q2o ke _) _;unfold x3v;dsimp only;have jv:∀f,(f=true→128≤a∧128≤b)→Pf ((ke (a,b,f,T,A,B,())).bind fun val=>Sum.elim (fun val=>some (val.fst,val.snd.fst,())) (fun val=>(q2o (val.snd.snd.fst,val.snd.snd.snd.fst,val.snd.snd.snd.snd.fst,val.fst,val.snd.fst,())).bind fun val=>some (val.fst,val.snd.fst,())) val) (fun y=>y.2.1=true→kk a=false∧kk b=false):=by
  intro f hf;refine pZ (g7v a b f hf) ?_;intro z hz;refine pS hz ?_ ?_
  · rintro ⟨y1,y2,u⟩ h
    exact pP h
  · rintro y rfl
    refine pZ (d4l a b) ?_;rintro ⟨y1,y2,u⟩ h;exact pP h
 refine pZ (k9u _ _ _) ?_;rintro ⟨z,u⟩ hz;dsimp only at hz ⊢;with_reducible repeat' (first | exact pN | apply pP | apply pX<;>intro _)
 · rename_i h1
   have h2:=hz h1;refine pZ (k9u _ _ _) ?_;rintro ⟨z,u⟩ hz';dsimp only at hz' ⊢;exact jv _ fun h=>⟨by omega,by have:=hz' h;omega⟩
 · exact jv _ fun h=>by cases h
theorem g7s (x0 x1 x2 x3:Int) (x4:List Int) (x5 x6:Int) (x7:Bool) (x8:List R6) (x9:List R4) (x10:List R3) (x11:List Int) :
 Pf (q1k (x0,x1,x2,x3,x4,x5,x6,x7,x8,x9,x10,x11,())) (Sum.elim (fun y=>∃v,kk (x11.getD x0.toNat 0)=false∧kk x2=false∧y=(x0,x1,x4,x5,x6,x8,x9,x10,x11.set x0.toNat v,())) (fun y=>y=(x0,x1,x2,x3,x4,x5,x6,x8,x9,x10,x11,()))):=by
 show Pf (q4d xc q8k _) _;unfold q4d;dsimp only;with_reducible repeat' (first | exact pN | apply pP | apply pX<;>intro _)
 · refine pZ (d4i _ _) ?_
   rintro ⟨a,b,u⟩ hab;dsimp only at hab ⊢;with_reducible repeat' (first | exact pN | apply pP | apply pX<;>intro _)
   · rename_i h1 _
     have:=hab h1;exact ⟨_,this.1,this.2,rfl⟩
   · exact rfl
 · exact rfl
theorem d3w (l:List Int) (hl:l.length≤10000000000000):Pf (x7q (T,A,B,l,())) (fun y=>Rr l y.1):=by
 show Pf (x3t xc q8k q8c _) _;unfold x3t;dsimp only;refine pZ (P:=fun y=>Rr l y.1) ?_ (fun _ h=>pP h);refine pL ?I ?h _ ?hv
 case I=>exact (fun v=>∃(st la k:Int) (o:List Int),0≤k∧k≤l.length∧Rr (l.take k.toNat) o∧v=(st,la,l,(l.length:Int),k,T,A,B,o,()))
 case hv=>exact ⟨-1,0,0,[],Int.le_refl _,by omega,Rr.refl _,rfl⟩
 rintro v ⟨st,la,k,o,h0,h1,h2,rfl⟩;have jv:∀(cl:Int) (f:Bool),k<l.length→Pf ((q1k (st,la,l.getD k.toNat 0,cl,l,(l.length:Int),k,f,T,A,B,o,())).bind fun val =>
  Sum.elim (fun val=>some (Sum.inl (val.fst,val.snd.fst,val.snd.snd.fst,val.snd.snd.snd.fst,IntKind.i64.wrap (val.snd.snd.snd.snd.fst+1),val.snd.snd.snd.snd.snd.fst,val.snd.snd.snd.snd.snd.snd.fst,val.snd.snd.snd.snd.snd.snd.snd.fst,val.snd.snd.snd.snd.snd.snd.snd.snd.fst,())))
   (fun val=>bif decide (List.length val.snd.snd.snd.snd.snd.snd.snd.snd.snd.snd.fst+[val.snd.snd.fst].length≤140737488355328/4) then
    bif val.snd.snd.snd.fst==0 then some (Sum.inl (IntKind.i64.wrap ((↑(val.snd.snd.snd.snd.snd.snd.snd.snd.snd.snd.fst++[val.snd.snd.fst]).length:Int) - 1),0,val.snd.snd.snd.snd.fst,val.snd.snd.snd.snd.snd.fst,IntKind.i64.wrap (val.snd.snd.snd.snd.snd.snd.fst+1),val.snd.snd.snd.snd.snd.snd.snd.fst,val.snd.snd.snd.snd.snd.snd.snd.snd.fst,val.snd.snd.snd.snd.snd.snd.snd.snd.snd.fst,val.snd.snd.snd.snd.snd.snd.snd.snd.snd.snd.fst++[val.snd.snd.fst],()))
    else some (Sum.inl (val.fst,if val.snd.snd.snd.fst>val.snd.fst then val.snd.snd.snd.fst else val.snd.fst,val.snd.snd.snd.snd.fst,val.snd.snd.snd.snd.snd.fst,IntKind.i64.wrap (val.snd.snd.snd.snd.snd.snd.fst+1),val.snd.snd.snd.snd.snd.snd.snd.fst,val.snd.snd.snd.snd.snd.snd.snd.snd.fst,val.snd.snd.snd.snd.snd.snd.snd.snd.snd.fst,val.snd.snd.snd.snd.snd.snd.snd.snd.snd.snd.fst++[val.snd.snd.fst],()))
    else none) val)
  (Sum.elim (fun v':Int×Int×List Int×Int×Int×List R6×List R4×List R3×List Int×Unit=>∃(st la k:Int) (o:List Int),0≤k∧k≤l.length∧Rr (l.take k.toNat) o∧v'=(st,la,l,(l.length:Int),k,T,A,B,o,())) (fun y:List Int×Unit=>Rr l y.1)):=by
  intro cl f hlt;have hlt':k.toNat<l.length:=by omega
  refine pZ (g7s _ _ _ _ _ _ _ _ _ _ _ _) ?_;intro z hz;refine pS hz ?_ ?_
  · rintro y ⟨v,h3,h4,rfl⟩
    dsimp only;rw [qg (n:=k+1) (by omega)];refine pP ⟨_,_,_,_,by omega,by omega,?_,rfl⟩;rw [show (k+1).toNat=k.toNat+1 by omega,ql hlt'];rw [getD_lt hlt'] at h4;exact Rr.set _ h2 h4 _ _ h3
  · rintro y rfl
    dsimp only;rw [qg (n:=k+1) (by omega)];with_reducible repeat' (first | exact pN | apply pP | apply pX<;>intro _)
    all_goals
     refine ⟨_,_,_,_,by omega,by omega,?_,rfl⟩;rw [show (k+1).toNat=k.toNat+1 by omega,ql hlt',getD_lt hlt'];exact ap _ _ h2 fun _=>rfl
 unfold j6h;dsimp only;with_reducible repeat' (first | exact pN | apply pP | apply pX<;>intro _)
 · rename_i h4 h5
   refine pZ pT ?_;rintro ⟨cl,u⟩ -
   dsimp only;with_reducible repeat' (first | exact pN | apply pP | apply pX<;>intro _)
   all_goals exact jv _ _ (by omega)
 · rw [List.take_of_length_le (by omega)] at h2
   exact h2
theorem d3q (h:TK T A B) (hK:KT T A B) (s:List UInt8) (a:Bool) (hs:s.length≤100000000000):Pf (y2k (T,A,B,s,a,true,())) (fun y=>y.2.1=true→Rr (bi s) (bi y.1)):=by
 unfold y2k v8l;dsimp only;refine pZ (pA (d83 s (by omega)).pf (p83 s (by omega))) ?_;rintro ⟨l,at_,u⟩ ⟨hl,hl'⟩;dsimp only at hl hl' ⊢;with_reducible repeat' (first | exact pN | apply pP | apply pX<;>intro _)
 · exact fun h=>by cases h
 · rename_i hat
   have r1:=hl' (by omega);refine pZ (pA (f5v T A B l a (by omega)).pf (d3v l a (by omega))) ?_;rintro ⟨l2,u⟩ ⟨h2,r2⟩;dsimp only at h2 r2 ⊢;refine pZ (pA (f5u h.a l2 (by omega)).pf (d3u hK l2 (by omega))) ?_;rintro ⟨l3,u⟩ ⟨h3,r3⟩;dsimp only at h3 r3 ⊢;refine pZ (pA (f5w T A B l3 (by omega) h.a).pf (d3w l3 (by omega))) ?_;rintro ⟨l4,u⟩ ⟨h4,r4⟩;dsimp only at h4 r4 ⊢;refine pZ (g7p l4 (by omega)) ?_;rintro ⟨s5,b5,u⟩ ⟨h5,-⟩;exact pP fun hb=>((r1.trans r2).trans (r3.trans r4)).trans (h5 hb)
theorem d3k (h:TK T A B) (hK:KT T A B) (s:List UInt8) (hs:s.length≤100000000000):Pf (z3l (T,A,B,s,())) (fun y=>y.2.1=true→Rr (bi s) (bi y.1)):=by
 unfold z3l v8f;dsimp only;refine pZ (d3q h hK s false hs) ?_;rintro ⟨x,b,u⟩ hx;exact pP hx
theorem b1n (h:TK T A B) (hK:KT T A B) (s:List UInt8) (hs:s.length≤10000000000):Pf (j2d (T,A,B,s,())) (fun y=>y.2.1=true→y.1=[]∨Rr (bi s) (bi y.1)):=by
 unfold j2d x9r;dsimp only;refine pZ (pA (d83 s (by omega)).pf (p83 s (by omega))) ?_;rintro ⟨l,at_,u⟩ ⟨hl,hl'⟩;dsimp only at hl hl' ⊢;with_reducible repeat' (first | exact pN | apply pP | apply pX<;>intro _)
 · exact fun h=>by cases h
 · have r1:=hl' (by omega)
   refine pZ (pA (f5n T A B l (by omega)).pf (d3j l (by omega))) ?_;rintro ⟨l2,u⟩ ⟨h2,r2⟩;dsimp only at h2 r2 ⊢;refine pZ (pA (f5m T A B h.b l2 (by omega)).pf (d3i hK l2 (by omega))) ?_;rintro ⟨l3,u⟩ ⟨h3,r3⟩;dsimp only at h3 r3 ⊢;refine pZ (pA (x6h l3 (by omega)).pf (g7p l3 (by omega))) ?_;rintro ⟨s4,b4,u⟩ ⟨h4,h5,h6⟩;dsimp only at h4 h5 h6 ⊢;refine pZ (pA (g3b h s4 (by omega)).pf (d3k h hK s4 (by omega))) ?_;rintro ⟨s5,b5,u⟩ ⟨h7,h8⟩;refine pP fun hb => ?_;dsimp only at h7 h8 hb ⊢;cases b4 with
   | true=>exact .inr ((r1.trans r2).trans ((r3.trans (h5 rfl)).trans (h8 hb)))
   | false =>
    rw [h6 rfl] at h7;exact .inl (List.eq_nil_of_length_eq_zero (by simpa using h7))
end
theorem z2a {s:List UInt8} {p:Nat} (h:p<s.length) (hc:s[p].toNat<128):wc s p=(s[p].toNat,1):=by
 have e:((⟨⟨s⟩⟩:ByteArray).get! (p+0))=s[p]:=by
  show (⟨s⟩:Array UInt8)[p+0]! = _;rw [Nat.add_zero,getElem!_pos _ _ (by simpa using h)];simp
 simp only [wc,Utf8.decode,e];rw [if_pos hc]
theorem g7u:((List.range 128).all fun n => !kk (n:Int)||(match j8a ((n:Int),()) with | some (b,_)=>b | none=>false))=true:=by kernel_rfl
theorem f5d {x:Int} (hk:kk x=true):Pf (j8a (x,())) (fun y=>y.1=true):=by
 have h:=(q3i x).1 hk;have h1:=List.all_eq_true.1 g7u x.toNat (List.mem_range.2 (by omega))
 rw [show ((x.toNat:Nat):Int)=x by omega,hk] at h1;intro y hy;rw [hy] at h1;simpa using h1
theorem d3e (s:List UInt8) (hs:s.length≤1000000000000000) (ha:∀c∈s,c.toNat<128) (hk:∃x∈bi s,kk x=true):Pf (y2h (s,true,())) (fun y=>0≤y.1):=by
 unfold y2h v7z;dsimp only;refine pZ (P:=Sum.elim (fun y=>0≤y.1) (fun _=>False)) ?_ ?_
 · refine pL ?I ?h _ ?hv
   case I=>exact (fun v=>∃p:Nat,v=(true,(s,(p:Int)),())∧∀x∈bi (s.take p),kk x=false)
   case hv=>exact ⟨0,rfl,fun x hx=>by cases hx⟩
   rintro v ⟨p,rfl,h1⟩;unfold j5v;dsimp only;simp only [Int.toNat_natCast];with_reducible repeat' (first | exact pN | apply pP | apply pX<;>intro _)
   · rename_i hp
     rw [z2a hp (ha _ (List.getElem_mem hp))];dsimp only;have hnk:kk ((s[p].toNat:Nat):Int)=true→Pf (j8a (((s[p].toNat:Nat):Int),())) (fun y=>y.1=true):=f5d;refine pZ (P:=fun y=>kk ((s[p].toNat:Nat):Int)=true→y.1=true) (fun y e hk=>hnk hk y e) ?_;rintro ⟨b,u⟩ hb;dsimp only at hb ⊢;cases b with
     | true=>exact pP (by show (0:Int)≤(p:Int);omega)
     | false =>
      refine pP ⟨p+1,rfl,fun x hx => ?_⟩;rw [ql hp,xf] at hx;rcases List.mem_append.1 hx with hx | hx
      · exact h1 x hx
      · have hx':x=((s[p].toNat:Nat):Int):=by simpa [bi] using hx
        subst hx';cases hkx:kk ((s[p].toNat:Nat):Int) with
        | false=>rfl
        | true=>have:=hb hkx;cases this
   · rename_i hp
     obtain ⟨x,hx,hxk⟩:=hk;rw [List.take_of_length_le (by omega)] at h1;rw [h1 x hx] at hxk;cases hxk
 · intro z hz
   refine pS hz ?_ ?_
   · rintro ⟨a,u⟩ h
     exact pP h
   · intro u h
     exact h.elim
theorem p84 (s:List UInt8) (hs:s.length≤1000000000000000) (ha:∀c∈s,c.toNat<128) (hk:∃x∈bi s,kk x=true):Pf (C84 (s,())) (fun y=>y.1=true):=by
 unfold C84 F84;dsimp only;refine pZ (P:=fun y=>0≤y.1) ?_ ?_
 · unfold x7j v7p
   dsimp only;exact pZ (d3e s hs ha hk) fun _ h=>pP h
 · rintro ⟨a,u⟩ h
   refine pP ?_;dsimp only at h ⊢;exact decide_eq_true h
theorem d3s (s:List UInt8) (hs:s.length≤1000000000000000) (ha:∀c∈s,c.toNat<128) (hk:s=[]∨∃x∈bi s,kk x=true):Pf (z8i (s,())) (fun y=>y.1≠0):=by
 rcases hk with rfl | hk
 · have e:z8i ([],())=some (13,()):=by kernel_rfl
   rw [e];exact pP (by decide)
 unfold z8i v8r;dsimp only;refine pZ (P:=fun y=>y.1≠0) ?_ (fun _ h=>pP h);unfold j7z z5f;dsimp only;refine pZ (P:=fun y=>y.2.1=s) (pP rfl) ?_;rintro ⟨b,s1,u⟩ h1;dsimp only at h1 ⊢;subst h1;with_reducible repeat' (first | exact pN | apply pP | apply pX<;>intro _)
 · exact (by decide:(13:Int)≠0)
 · refine pZ (P:=fun y=>y.2.1=s1) (pP rfl) ?_
   rintro ⟨b,s2,u⟩ h2;dsimp only at h2 ⊢;subst h2;with_reducible repeat' (first | exact pN | apply pP | apply pX<;>intro _)
   · exact (by decide:(5:Int)≠0)
   · refine pZ (P:=fun y=>y.1=true∧y.2.1=s2) ?_ ?_
     · unfold x7w v9h
       dsimp only;refine pZ (p84 s2 hs ha hk) ?_;intro y hy;exact pP ⟨hy,rfl⟩
     rintro ⟨b,s3,u⟩ ⟨h3,h4⟩;dsimp only at h3 h4 ⊢;subst h3 h4;exact pP (by decide:(8:Int)≠0)
section
variable {T:List R6} {A:List R4} {B:List R3}
theorem g7t:((List.range 128).all fun n=>match z3s ((n:Int),()) with | some (.inr (.inr (.inr (.inr (.inr (.inr (.inr (.inr _))))))))=>true | _=>false)=true:=by kernel_rfl
theorem f4z {x:Int} (h0:0≤x) (h1:x<128):z3s (x,())=some (.inr (.inr (.inr (.inr (.inr (.inr (.inr (.inr ())))))))):=by
 have h:=List.all_eq_true.1 g7t x.toNat (List.mem_range.2 (by omega))
 rw [show ((x.toNat:Nat):Int)=x by omega] at h;revert h;cases hc:z3s (x,()) with
 | none=>intro h;cases h
 | some z =>
  rcases z with z | z | z | z | z | z | z | z | z;all_goals intro h;first | rfl | cases h
theorem d3l (l:List Int) (p:Int) (hk:kk (l.getD p.toNat 0)=true):Pf (j4j (T,A,B,l,p,())) (fun y=>y.1=0):=by
 have h:=(q3i _).1 hk;show Pf (x3p z3s x2z x3a z4a x3e x3f x3g x3h x3i _) _;unfold x3p;dsimp only;with_reducible repeat' (first | exact pN | apply pP | apply pX<;>intro _)
 · exact rfl
 · exact rfl
 · rw [f4z h.1 h.2.1]
   exact pP rfl
theorem d4c (hK:KT T A B) (l:List Int) (hl:l.length≤1000000000000) (hk:∃x∈l,kk x=true):Pf (x3c (T,A,B,l,())) (fun y=>y.1=true):=by
 show Pf (x3u j4j q2k q8g _) _;unfold x3u;dsimp only;refine pZ (P:=Sum.elim (fun _=>False) (fun y=>y.1=true)) ?_ ?_
 · refine pL ?I ?h _ ?hv
   case I=>exact (fun v=>∃k:Int,0≤k∧k≤l.length∧(∀x∈l.take k.toNat,kk x=false)∧v=(l,l,(l.length:Int),k,T,A,B,()))
   case hv=>exact ⟨0,Int.le_refl _,by omega,fun x hx=>(by cases hx),rfl⟩
   rintro v ⟨k,h0,h1,h2,rfl⟩;unfold j6k;dsimp only;with_reducible repeat' (first | exact pN | apply pP | apply pX<;>intro _)
   · have hlt:k.toNat<l.length:=by omega
     refine pZ (P:=fun y=>kk (l.getD k.toNat 0)=true→y.1=0) (fun y e hk=>d3l l k hk y e) ?_;rintro ⟨b,u⟩ hb;dsimp only at hb ⊢;have jv:kk (l.getD k.toNat 0)=false→∃k':Int,0≤k'∧k'≤l.length∧(∀x∈l.take k'.toNat,kk x=false)∧(l,l,(l.length:Int),IntKind.i64.wrap (k+1),T,A,B,())=(l,l,(l.length:Int),k',T,A,B,()):=by
      intro hn;rw [qg (n:=k+1) (by omega)];refine ⟨_,by omega,by omega,fun x hx => ?_,rfl⟩;rw [show (k+1).toNat=k.toNat+1 by omega,ql hlt] at hx;rcases List.mem_append.1 hx with hx | hx
      · exact h2 x hx
      · rw [List.mem_singleton] at hx
        rw [getD_lt hlt] at hn;subst hx;exact hn
     with_reducible repeat' (first | exact pN | apply pP | apply pX<;>intro _)
     · exact rfl
     · refine pZ (P:=fun y=>kk (l.getD k.toNat 0)=true→y.1=false) (fun y e hk=>by rw [hK.ca _ hk] at e;cases e;rfl) ?_
       rintro ⟨c,u⟩ hc;dsimp only at hc ⊢;with_reducible repeat' (first | exact pN | apply pP | apply pX<;>intro _)
       · exact rfl
       · rename_i hct
         refine jv ?_;cases hkx:kk (l.getD k.toNat 0) with
         | false=>rfl
         | true=>rw [hc hkx] at hct;cases hct
     · rename_i hb1 hb2
       refine jv ?_;cases hkx:kk (l.getD k.toNat 0) with
       | false=>rfl
       | true=>exact (hb2 (hb hkx)).elim
   · obtain ⟨x,hx,hxk⟩:=hk
     rw [List.take_of_length_le (by omega)] at h2;rw [h2 x hx] at hxk;cases hxk
 · intro z hz
   refine pS hz ?_ ?_
   · intro u h
     exact h.elim
   · rintro ⟨b,u⟩ h
     exact pP h
theorem d3y (s:List UInt8):Pf (z8m (s,T,A,B,())) (fun y=>y.2=(s,T,A,B,())):=by
 unfold z8m x9y;dsimp only;refine pZ pT ?_;rintro ⟨x,u⟩ -
 dsimp only;with_reducible repeat' (first | exact pN | apply pP | apply pX<;>intro _)
 · exact rfl
 · exact pZ pT fun _ _=>pP rfl
theorem d3z (a:List UInt8):Pf (y2n (a,())) (fun y=>y.2.1=a):=by
 unfold y2n v9f;dsimp only;exact pZ pT fun _ _=>pP rfl
theorem d4a (l:List Int):Pf (y2p (T,A,B,l,())) (fun y=>y.2=(T,A,B,l,())):=by
 unfold y2p v9g;dsimp only;with_reducible repeat' (first | exact pN | apply pP | apply pX<;>intro _)
 exact pZ pT fun _ _=>pP rfl
theorem d4b (hK:KT T A B) (l:List Int) (hl:l.length≤1000000000000) (hk:∃x∈l,kk x=true):Pf (x3b (T,A,B,l,())) (fun y=>y.1=true):=by
 unfold x3b x9z;dsimp only;exact pZ (d4c hK l hl hk) fun _ h=>pP h
theorem d3x (hK:KT T A B) (at_:Int) (s:List UInt8) (l:List Int) (c:List UInt8) (d:Bool) (hl:l.length≤100000000000) (h0:at_<0→∃x∈l,kk x=true) :
 Pf (z8l (7,4,11,10,8,9,12,5,at_,s,T,A,B,l,c,d,())) (fun y=>y.1≠0):=by
 unfold z8l x9x;dsimp only;refine pZ (P:=fun y=>y.1=false→at_<0) (pP fun h=>by
  have h':decide (at_≥0)=false:=h;simp only [decide_eq_false_iff_not] at h';omega) ?_
 rintro ⟨b,at',u⟩ hb;dsimp only at hb ⊢;with_reducible repeat' (first | exact pN | apply pP | apply pX<;>intro _)
 · exact (by decide:(7:Int)≠0)
 · rename_i h1
   have hk:=h0 (hb h1);refine pZ (d3y s) ?_;rintro ⟨b2,y⟩ hy;dsimp only at hy;subst hy;dsimp only;with_reducible repeat' (first | exact pN | apply pP | apply pX<;>intro _)
   · exact (by decide:(4:Int)≠0)
   · refine pZ (d3z s) ?_
     rintro ⟨b3,s',u⟩ hs';dsimp only at hs' ⊢;with_reducible repeat' (first | exact pN | apply pP | apply pX<;>intro _)
     · exact (by decide:(11:Int)≠0)
     · refine pZ (d4a l) ?_
       rintro ⟨b4,y⟩ hy;dsimp only at hy;subst hy;dsimp only;with_reducible repeat' (first | exact pN | apply pP | apply pX<;>intro _)
       · exact (by decide:(10:Int)≠0)
       · refine pZ (d4b hK l (by omega) hk) ?_
         rintro ⟨b5,y⟩ hy;dsimp only at hy;subst hy;exact pP (by decide:(8:Int)≠0)
theorem d3r (hK:KT T A B) (s:List UInt8) (hs:s.length≤100000000000) (hk:∃x∈bi s,kk x=true):Pf (z3u (T,A,B,s,())) (fun y=>y.1≠0):=by
 unfold z3u x9w;dsimp only;refine pZ (pA (d83 s (by omega)).pf (p83 s (by omega))) ?_;rintro ⟨l,at_,u⟩ ⟨hl,hl'⟩;dsimp only at hl hl' ⊢;refine pZ (d3x hK at_ s l _ _ (by omega) fun h=>(hl' h).mem hk) ?_;rintro ⟨e,y⟩ h;exact pP h
theorem g7w:((List.range 256).all fun n=>match j2j ((n:Int),()) with | some (_,b,_) => !b || !kk (n:Int) | none=>true)=true:=by kernel_rfl
theorem d4j (c:UInt8):Pf (j2j ((c.toNat:Int),())) (fun y=>y.2.1=true→kk (c.toNat:Int)=false):=by
 have h:=List.all_eq_true.1 g7w c.toNat (List.mem_range.2 c.toNat_lt)
 intro y hy hb;rw [hy] at h;obtain ⟨a,b,u⟩:=y;dsimp only at h hb;rw [hb] at h;simpa using h
theorem d4e (s:List UInt8) (b:Int) (hs:s.length≤1000000000000):Pf (j4n (s,b,())) (fun y=>(∃x∈bi s,kk x=true)→y.1<0∨∃x∈bi y.2.1,kk x=true):=by
 unfold j4n v9j;dsimp only;refine pZ (P:=Sum.elim (fun _=>True) (Sum.elim (fun _=>True) (fun y=>∃k:Nat,y.2.1=s.drop k∧∀x∈bi (s.take k),kk x=false))) ?_ ?_
 · refine pL ?I ?h _ ?hv
   case I=>exact (fun v=>∃(n w k:Int),0≤k∧k≤s.length∧(∀x∈bi (s.take k.toNat),kk x=false)∧v=(s,b,n,w,(s.length:Int),k,()))
   case hv=>exact ⟨_,_,0,Int.le_refl _,by omega,fun x hx=>(by cases hx),rfl⟩
   rintro v ⟨n,w,k,h0,h1,h2,rfl⟩;unfold j6l;dsimp only;with_reducible repeat' (first | exact pN | apply pP | apply pX<;>intro _)
   · have hlt:k.toNat<s.length:=by omega
     refine pZ (d4j _) ?_;rintro ⟨d,ok,u⟩ hd;dsimp only at hd ⊢;have hst:ok=true→∀x∈bi (s.take (k.toNat+1)),kk x=false:=by
      intro hok x hx;rw [ql hlt,xf] at hx;rcases List.mem_append.1 hx with hx | hx
      · exact h2 x hx
      · have hx':x=((s[k.toNat].toNat:Nat):Int):=by simpa [bi] using hx
        have:=hd hok;rw [getD_lt hlt] at this;subst hx';exact this
     rw [qg (n:=k+1) (by omega)];with_reducible repeat' (first | exact pN | apply pP | apply pX<;>intro _)
     · trivial
     · trivial
     · trivial
     · rename_i h3 h4 h5
       refine pZ pT ?_;rintro ⟨t,u⟩ -
       dsimp only;have hst':=hst h3;rw [show k.toNat+1=(k+1).toNat by omega] at hst';with_reducible repeat' (first | exact pN | apply pP | apply pX<;>intro _)
       · exact ⟨_,rfl,hst'⟩
       · exact ⟨_,_,_,by omega,by omega,hst',rfl⟩
   · trivial
 · intro z hz
   refine pS hz ?_ ?_
   · intro u _
     exact pP fun _ => .inl (by decide)
   · intro z2 hz2
     refine pS hz2 ?_ ?_
     · intro u _
       refine pZ (P:=fun y=>y.1<0) ?_ ?_
       · refine pL ?I ?h _ ?hv
         case I=>exact (fun _=>True)
         case hv=>exact trivial
         intro v _;unfold q8t;exact pP (by decide:(-1:Int)<0)
       · rintro ⟨a,b,u⟩ h
         exact pP fun _ => .inl h
     · rintro ⟨a,b,u⟩ ⟨k,hk,hn⟩
       dsimp only at hk;subst hk;refine pP ?_;rintro ⟨x,hx,hxk⟩;rw [←List.take_append_drop k s,xf] at hx;rcases List.mem_append.1 hx with hx | hx
       · rw [hn x hx] at hxk;cases hxk
       · exact .inr ⟨x,hx,hxk⟩
theorem d4f (i:Int) (l v:List Int):Pf (j2i (i,l,v,())) (fun y=>∀z∈l,z∈y.1):=by
 unfold j2i;dsimp only;cases h:((decide (0≤i)&&decide (i≤(l.length:Int)))&&(decide (v.length=1)&&decide (l.length≤1000000000000))) with
 | false=>exact pN
 | true =>
  refine pP fun z hz => ?_;rw [←List.take_append_drop i.toNat l] at hz;simp only [List.mem_append] at hz ⊢;rcases hz with hz | hz
  · exact .inl (.inl hz)
  · exact .inr hz
theorem v6d (s:List UInt8) (out:List Int) (hs:s.length≤1000000000000) (h:(∃x∈bi s,kk x=true)∨∃x∈out,kk x=true):Pf (q1j (s,out,())) (fun y=>y.1=true→∃x∈y.2.1,kk x=true):=by
 unfold q1j j6c;dsimp only;refine pZ (P:=Sum.elim (fun y=>∃x∈y.1,kk x=true) (fun y=>y.1=false)) ?_ ?_
 · refine pL ?I ?h _ ?hv
   case I=>exact (fun v=>∃(s:List UInt8) (a b c:Int) (d:Bool) (out:List Int),s.length≤1000000000000∧((∃x∈bi s,kk x=true)∨∃x∈out,kk x=true)∧v=(s,a,b,c,d,out,()))
   case hv=>exact ⟨_,_,_,_,_,_,hs,h,rfl⟩
   rintro v ⟨s,a,b,c,d,out,hs,h,rfl⟩;unfold j6d;dsimp only;with_reducible repeat' (first | exact pN | apply pP | apply pX<;>intro _)
   · refine pZ (pA (f6b s c hs).pf (d4e s c hs)) ?_
     rintro ⟨n,rest,u⟩ ⟨hd,hr⟩;dsimp only at hd hr ⊢;with_reducible repeat' (first | exact pN | apply pP | apply pX<;>intro _)
     · exact rfl
     · exact rfl
     · rename_i hneg _
       refine pZ pT ?_;rintro ⟨z,u⟩ -
       dsimp only;with_reducible repeat' (first | exact pN | apply pP | apply pX<;>intro _)
       · exact rfl
       · refine pZ pT ?_
         rintro ⟨ok,u⟩ -
         dsimp only;with_reducible repeat' (first | exact pN | apply pP | apply pX<;>intro _)
         · exact rfl
         · refine pZ (d4f _ _ _) ?_
           rintro ⟨o2,u⟩ ho;dsimp only at ho ⊢;refine pP ⟨_,_,_,_,_,_,by omega,?_,rfl⟩;rcases h with h | ⟨x,hx,hxk⟩
           · exact .inl ((hr h).resolve_left hneg)
           · exact .inr ⟨x,ho x hx,hxk⟩
   · rename_i he
     rcases h with ⟨x,hx,hxk⟩ | h
     · have:s=[]:=by simpa using he
       subst this;cases hx
     · exact h
 · intro z hz
   refine pS hz ?_ ?_
   · rintro ⟨a,u⟩ ha
     exact pP fun _=>ha
   · rintro ⟨a,u⟩ ha
     dsimp only at ha;exact pP fun h=>by rw [ha] at h;cases h
theorem d4d (s:List UInt8) (c:Int):Pf (j4m (s,c,())) (fun y=>0≤y.1→y.1<s.length∧((s.getD y.1.toNat 0).toNat:Int)=c):=by
 unfold j4m v9i;dsimp only;refine pZ (P:=fun y=>0≤y.1→y.1<s.length∧((s.getD y.1.toNat 0).toNat:Int)=c) ?_ (fun _ h=>pP h);unfold x8a v9y;dsimp only;refine pZ (P:=Sum.elim (fun _=>True) (fun y=>0≤y.1→y.1<s.length∧((s.getD y.1.toNat 0).toNat:Int)=c)) ?_ ?_
 · refine pL ?I ?h _ ?hv
   case I=>exact (fun v=>∃k:Int,v=(s,c,k,()))
   case hv=>exact ⟨_,rfl⟩
   rintro v ⟨k,rfl⟩;unfold j6n;dsimp only;with_reducible repeat' (first | exact pN | apply pP | apply pX<;>intro _)
   · rename_i h1 h2 h3
     exact fun _=>⟨by omega,h3⟩
   · exact ⟨_,rfl⟩
   · trivial
 · intro z hz
   refine pS hz ?_ ?_
   · intro u _
     exact pP fun h=>by cases h
   · rintro ⟨a,u⟩ h
     exact pP h
theorem d3t (s:List UInt8) (hs:s.length≤1000000000000) (h:∃x∈bi s,kk x=true):Pf (y2l (s,())) (fun y=>y.2.1=true→∃x∈y.1,kk x=true):=by
 unfold y2l v8s;dsimp only;refine pZ pT ?_;rintro ⟨e,u⟩ -
 dsimp only;with_reducible repeat' (first | exact pN | apply pP | apply pX<;>intro _)
 · exact fun h=>by cases h
 · refine pZ (d4d s 45) ?_
   rintro ⟨k,u⟩ hk;dsimp only at hk ⊢;refine pX (fun hpos => ?_) (fun _ => ?_)
   · have hk':=hk (by omega)
     have hlt:k.toNat<s.length:=by omega
     rw [qg (n:=k+1) (by omega)];with_reducible repeat' (first | exact pN | apply pP | apply pX<;>intro _)
     have hsplit:(∃x∈bi (s.drop (k+1).toNat),kk x=true)∨∃x∈List.map (fun b:UInt8=>(b.toNat:Int)) (List.take k.toNat s),kk x=true:=by
      obtain ⟨x,hx,hxk⟩:=h;rw [←List.take_append_drop (k+1).toNat s,xf,show (k+1).toNat=k.toNat+1 by omega,ql hlt,xf] at hx;rcases List.mem_append.1 hx with hx | hx
      · rcases List.mem_append.1 hx with hx | hx
        · exact .inr ⟨x,hx,hxk⟩
        · have hx':x=((s[k.toNat].toNat:Nat):Int):=by simpa [bi] using hx
          have h2:=hk'.2;rw [getD_lt hlt] at h2;rw [hx',h2] at hxk;cases hxk
      · exact .inl ⟨x,by rw [show (k+1).toNat=k.toNat+1 by omega];exact hx,hxk⟩
     refine pZ (v6d _ _ (by simp only [List.length_drop];omega) hsplit) ?_;rintro ⟨a,b,u⟩ h;exact pP h
   · refine pZ (v6d _ _ hs (.inl h)) ?_
     rintro ⟨a,b,u⟩ h;exact pP h
theorem d3d (f x:List UInt8):Pf (y2f (f,x,())) (fun y=>y.2.1=true→f=x++y.1):=by
 unfold y2f v7u;dsimp only;refine pZ (P:=fun y=>y.2.1=true→f=x++y.1) ?_ (fun _ h=>pP h);unfold x2t v8e;dsimp only;refine pZ (P:=fun y=>y.1=true→f.take x.length=x) ?_ ?_
 · unfold z8a v7t
   dsimp only;with_reducible repeat' (first | exact pN | apply pP | apply pX<;>intro _)
   · intro h
     have h':(List.take x.length f==x)=true:=h;exact eq_of_beq h'
   · exact fun h=>by cases h
 · rintro ⟨b,u⟩ hb
   dsimp only at hb ⊢;with_reducible repeat' (first | exact pN | apply pP | apply pX<;>intro _)
   · exact fun h=>by cases h
   · rename_i h1 h2
     intro _;have:=hb h1;conv=>lhs;rw [←List.take_append_drop x.length f,this]
     rfl
theorem w8m (s:List UInt8) (hK:KT T A B) (hs:s.length≤100000000000) (hk:s=[]∨∃x∈bi s,kk x=true):Pf (z3u (T,A,B,s,())) (fun y=>y.1≠0):=by
 rcases hk with rfl | hk
 · unfold z3u x9w
   dsimp only;refine pZ pT ?_;rintro ⟨l,at_,u⟩ -
   dsimp only;refine pZ (P:=fun y=>y.1≠0) ?_ (fun _ h=>pP h);unfold z8l x9x;dsimp only;refine pZ pT ?_;rintro ⟨b,at',u⟩ -
   dsimp only;with_reducible repeat' (first | exact pN | apply pP | apply pX<;>intro _)
   · exact (by decide:(7:Int)≠0)
   · refine pZ (P:=fun y=>y.1=true) ?_ ?_
     · unfold z8m x9y
       dsimp only;have e:C21 ([],())=some (-1,()):=by kernel_rfl
       rw [e];exact pP rfl
     · rintro ⟨b,y⟩ hb
       dsimp only at hb;subst hb;exact pP (by decide:(4:Int)≠0)
 · exact d3r hK s hs hk
theorem d3m (h:TK T A B) (hK:KT T A B) (s:List UInt8) (hs:s.length≤6000000) (hk:s=[]∨∃x∈bi s,kk x=true):Pf (z3m (T,A,B,s,())) (fun y=>y.2.2.1≠0):=by
 unfold z3m v8i;dsimp only;refine pZ (pA (v1w h s (by omega)).pf (b1n h hK s (by omega))) ?_;rintro ⟨f,ok,u⟩ ⟨hf,hf'⟩;dsimp only at hf hf' ⊢;refine pZ (pA (f5j f _).pf (d3d f _)) ?_;rintro ⟨rest,is,u⟩ ⟨hr,hr'⟩;dsimp only at hr hr' ⊢;with_reducible repeat' (first | exact pN | apply pP | apply pX<;>intro _)
 · exact (by decide:(7:Int)≠0)
 · rename_i hok
   have hfk:f=[]∨∃x∈bi f,kk x=true:=by
    rcases hk with rfl | hk
    · exact .inl (List.eq_nil_of_length_eq_zero (by simpa using hf))
    · exact (hf' hok).imp id fun hR=>hR.mem hk
   refine pZ (d21 f (by omega)).pf ?_;rintro ⟨e,u⟩ he;dsimp only at he ⊢;with_reducible repeat' (first | exact pN | apply pP | apply pX<;>intro _)
   · refine pZ pT ?_
     rintro ⟨l,at_,u⟩ -
     refine pZ pT ?_;rintro ⟨code,b,u⟩ -
     dsimp only;with_reducible repeat' (first | exact pN | apply pP | apply pX<;>intro _)
     refine pZ (w8m f hK (by omega) hfk) ?_;rintro ⟨w,u⟩ hw;exact pP hw
   · refine pZ (d3s f (by omega) (he.2 (by omega)) hfk) ?_
     rintro ⟨w,u⟩ hw;exact pP hw
   · rename_i h1 his
     have hfr:=hr' his;have hk2:∃x∈bi rest,kk x=true:=by
      rcases hfk with hf0 | ⟨x,hx,hxk⟩
      · rw [hf0] at hfr;cases hfr
      · rw [hfr,xf] at hx
        rcases List.mem_append.1 hx with hx | hx
        · have:∀x∈bi [120,110,45,45],kk x=false:=by decide
          rw [this x hx] at hxk;cases hxk
        · exact ⟨x,hx,hxk⟩
     refine pZ (pA (f5t rest (by omega)).pf (d3t rest (by omega) hk2)) ?_;rintro ⟨l,ok2,u⟩ ⟨hl,hl'⟩;dsimp only at hl hl' ⊢;with_reducible repeat' (first | exact pN | apply pP | apply pX<;>intro _)
     · exact (by decide:(12:Int)≠0)
     · exact (by decide:(5:Int)≠0)
     · rename_i hok2 _
       have hlk:=hl' hok2;refine pZ (pA (x6h l (by omega)).pf (g7p l (by omega))) ?_;rintro ⟨us,b,u⟩ ⟨hu,hu1,hu2⟩;dsimp only at hu hu1 hu2 ⊢;have huk:us=[]∨∃x∈bi us,kk x=true:=by
        cases b with
        | true=>exact .inr ((hu1 rfl).mem hlk)
        | false=>exact .inl (hu2 rfl)
       refine pZ (w8m us hK (by omega) huk) ?_;rintro ⟨w,u⟩ hw;dsimp only at hw ⊢;with_reducible repeat' (first | exact pN | apply pP | apply pX<;>intro _)
       · exact hw
       · rename_i hz
         exact (hw hz).elim
theorem d3f (h:TK T A B) (hK:KT T A B) (s:List UInt8) (hs:s.length≤6000000) (hk:s=[]∨∃x∈bi s,kk x=true):Pf (z3j (T,A,B,s,())) (fun y=>y.2.1≠0):=by
 unfold z3j v8a;dsimp only;refine pZ (d3m h hK s hs hk) ?_;rintro ⟨a,b,e,u⟩ he;dsimp only at he ⊢;with_reducible repeat' (first | exact pN | apply pP | apply pX<;>intro _)
 · exact he
 · rename_i hz
   exact (he hz).elim
end
theorem j1w (new:List UInt8) (d:Bool):∀(k:Nat) (s:List UInt8) (a b:Nat),a≤b→run d a (bi s)≤run d b (bi (Lib.replaceK [227,128,130] new k s))
 | 0,s,a,b,h=>j1t d _ h
 | k+1,s,a,b,h=>by
  rcases Lib.index_spec s [227,128,130] with ⟨hi,-⟩ | ⟨i,hi,h1,h2,-⟩
  · rw [Lib.replaceK,if_pos (by rw [hi];rfl)]
    exact j1t d _ h
  · rw [Lib.replaceK_hit _ new k s i hi]
    have hfit:i+[(227:UInt8),128,130].length≤s.length:=z2f hi;rw [Lib.occAt_iff_take _ _ _ hfit] at h2;have h3:(s.drop i).take 3=[227,128,130]:=eq_of_beq h2;have e:s=s.take i++([227,128,130]++s.drop (i+3)):=by
     conv=>lhs;rw [←List.take_append_drop i s,←List.take_append_drop 3 (s.drop i),h3,List.drop_drop]
    rw [show i+[(227:UInt8),128,130].length=i+3 from rfl];generalize hD:s.drop (i+3)=D at e ⊢;generalize hP:s.take i=P at e ⊢;rw [e,xf,xf,xf,xf,xh,xh,xh,xh];refine j1w new d k D _ _ ?_;rw [j1u d (bi [227,128,130]) _ (by simp [bi]) (by decide)];split
    · rename_i h2
      exact q5r d _ (Nat.le_trans h2 (j1t d _ h))
    · exact Nat.zero_le _
theorem y5b (s new:List UInt8):Rr (bi s) (bi (Lib.replaceAll s [227,128,130] new)):=by
 intro d;unfold Lib.replaceAll Lib.replace;split
 · exact Nat.le_refl _
 · exact j1w new d _ s 1 1 (Nat.le_refl _)
theorem j1h (c:UInt8):∀l:List UInt8,0≤Lib.indexByte l c→l[(Lib.indexByte l c).toNat]? = some c
 | [],h=>by simp [Lib.indexByte] at h
 | b::l,h=>by
  have ih:=j1h c l;have hge:=Lib.indexByte_ge l c;simp only [Lib.indexByte] at h ⊢;split
  · rename_i hb
    have:b=c:=by simpa using hb
    simp [this]
  · rename_i hb
    rw [if_neg hb] at h;split
    · rename_i hm
      rw [if_pos hm] at h;omega
    · rename_i hm
      have h0:0≤Lib.indexByte l c:=by
       have:Lib.indexByte l c ≠ -1:=by simpa using hm
       omega
      rw [show (Lib.indexByte l c+1).toNat=(Lib.indexByte l c).toNat+1 by omega,List.getElem?_cons_succ];exact ih h0
theorem d3h (s:List UInt8) (c:Int):Pf (j4i (s,c,())) (fun y=>0≤y.1→s[y.1.toNat]? = some c.toNat.toUInt8):=by
 unfold j4i v8c;dsimp only;refine pZ (P:=fun y=>0≤y.1→s[y.1.toNat]? = some c.toNat.toUInt8) (pP fun h=>j1h _ s h) fun _ h=>pP h
theorem b1p (s:List UInt8):Pf (z3r (s,[46],())) (fun y=>0≤y.1→s[y.1.toNat]? = some 46):=by
 unfold z3r x9v;dsimp only;have e0:((([46]:List UInt8).length:Int)==0)=false:=rfl;rw [e0];simp only [cond_false];refine pZ (P:=fun y=>0≤y.1→s[y.1.toNat]? = some 46) ?_ fun _ h=>pP h;unfold q3u j5z;dsimp only;with_reducible repeat' (first | exact pN | apply pP | apply pX<;>intro _)
 · rename_i h
   have:[46]=s:=by simpa using h
   subst this;exact fun _=>rfl
 · exact pZ (d3h s 46) fun _ h=>pP h
 all_goals (exfalso;simp at *)
theorem d3c (s:List UInt8) (hs:s.length≤1000000000000):Pf (z7z (s,[46],())) (fun y=>(y.2.2.1=true→s=y.1++([46]++y.2.1))∧(y.2.2.1=false→y.1=s)):=by
 unfold z7z v7s;dsimp only;refine pZ (P:=fun y=>(y.2.2.1=true→s=y.1++([46]++y.2.1))∧(y.2.2.1=false→y.1=s)) ?_ (fun _ h=>pP h);unfold x7m v8d;dsimp only;refine pZ (b1p s) ?_;rintro ⟨k,u⟩ hk;dsimp only at hk ⊢;rw [show (([46]:List UInt8).length:Int)=1 from rfl];with_reducible repeat' (first | exact pN | apply pP | apply pX<;>intro _)
 · rename_i h1 h2 h3
   refine ⟨fun _ => ?_,fun h=>by cases h⟩;have h4:=hk h1;rw [qg (n:=k+1) (by omega)];have hlt:k.toNat<s.length:=by
    rcases Nat.lt_or_ge k.toNat s.length with h | h
    · exact h
    · rw [List.getElem?_eq_none h] at h4;cases h4
   rw [List.getElem?_eq_getElem hlt,Option.some.injEq] at h4;dsimp only;rw [show (k+1).toNat=k.toNat+1 by omega,←h4,List.singleton_append,List.getElem_cons_drop,List.take_append_drop]
 · exact ⟨fun h=>(by cases h),fun _=>rfl⟩
theorem z2r:∀(n:Nat) (s:List UInt8) (ps:List (List UInt8)),s.length≤1000000000000→vt n s=some ps→1≤run true 1 (bi s)→∃p∈ps,p=[]∨∃x∈bi p,kk x=true
 | 0,_,_,_,h,_=>by cases h
 | n+1,s,ps,hs,h,hr=>by
  simp only [vt] at h;cases hc:z7z (s,[46],()) with
  | none=>rw [hc] at h;cases h
  | some y =>
   obtain ⟨a,b,ok,u⟩:=y;obtain ⟨h1,h2⟩:=d3c s hs _ hc;dsimp only at h1 h2;rw [hc] at h;simp only [Option.bind_some] at h;cases ok with
   | true =>
    simp only [cond_true,Option.map_eq_some_iff] at h;obtain ⟨qs,hq,rfl⟩:=h;by_cases ha:a=[]
    · exact ⟨a,List.mem_cons_self,.inl ha⟩
    by_cases hk:∃x∈bi a,kk x=true
    · exact ⟨a,List.mem_cons_self,.inr hk⟩
    have hs':=h1 rfl;have hn:∀x∈bi a,kk x=false:=fun x hx=>by
     cases hkx:kk x with
     | false=>rfl
     | true=>exact (hk ⟨x,hx,hkx⟩).elim
    rw [hs',xf,xf,xh,xh,z2z true (bi a) 1 (by simpa [bi] using ha) (by omega) hn] at hr;have hb:b.length≤1000000000000:=by
     have:=congrArg List.length hs';simp only [List.length_append] at this;omega
    obtain ⟨p,hp,hp'⟩:=z2r n b qs hb hq hr;exact ⟨p,List.mem_cons_of_mem _ hp,hp'⟩
   | false =>
    simp only [cond_false,Option.some.injEq] at h;subst h;have ha:=h2 rfl;subst ha;refine ⟨a,List.mem_singleton_self a,?_⟩;by_cases ha:a=[]
    · exact .inl ha
    refine .inr ?_;by_cases hk:∃x∈bi a,kk x=true
    · exact hk
    · have hn:∀x∈bi a,kk x=false:=fun x hx=>by
       cases hkx:kk x with
       | false=>rfl
       | true=>exact (hk ⟨x,hx,hkx⟩).elim
      rw [z2z true (bi a) 1 (by simpa [bi] using ha) (by omega) hn] at hr;omega
theorem z9q (A U:List UInt8→Option (List UInt8×Int)):∀(ls ps qs:List (List UInt8)) r,q2f A U ls ps qs=some r→r.1=0→∀x∈ls,∃a,A x=some (a,0)
 | [],_,_,_,_,_,x,hx=>by cases hx
 | y::ls,ps,qs,r,h,h0,x,hx=>by
  simp only [q2f] at h;cases ha:A y with
  | none=>rw [ha] at h;cases h
  | some a =>
   rw [ha] at h;simp only [Option.bind_some] at h;by_cases hz:a.2=0
   · rw [inF hz] at h
     simp only [cond_false] at h;rcases List.mem_cons.1 hx with rfl | hx
     · exact ⟨a.1,by rw [ha,←hz]⟩
     · cases hu:U y with
       | none=>rw [hu] at h;cases h
       | some u =>
        rw [hu] at h;exact z9q A U ls _ _ r h h0 x hx
   · rw [inT hz] at h
     simp only [cond_true,Option.some.injEq] at h;subst h;exact (hz h0).elim
section
variable {T:List R6} {A:List R4} {B:List R3}
theorem y4o (s f:List UInt8) (ok:Bool) (hf:f.length≤5000000) (hR:ok=true→f=[]∨Rr (bi s) (bi f)) (hr:1≤run true 1 (bi s)) (ls:List (List UInt8)) (h:q0j f ok=some (ls,0)):∃p∈ls,p=[]∨∃x∈bi p,kk x=true:=by
 unfold q0j at h;cases ok with
 | false=>simp at h
 | true =>
  simp only [Bool.not_true,cond_false] at h;cases hfe:f.isEmpty with
  | true=>rw [hfe] at h;simp at h
  | false =>
   rw [hfe] at h;simp only [cond_false] at h;rw [decide_eq_true (by omega)] at h;simp only [cond_true] at h;rcases hR rfl with rfl | hR
   · cases hfe
   cases hp:vt (f.length+2) (Lib.replaceAll f [227,128,130] [46]) with
   | none=>rw [hp] at h;cases h
   | some ps =>
    rw [hp] at h;simp only [Option.bind_some] at h;have hl:=q6e f [227,128,130] [46] (by decide);have hb:=z2r _ _ ps (by omega) hp (Nat.le_trans hr (Nat.le_trans (hR true) (y5b f [46] true)));cases h1:decide (ps.length≤1000000000000) with
    | false=>rw [h1] at h;cases h
    | true =>
     rw [h1] at h;simp only [cond_true] at h;cases h2:decide (32<ps.length) with
     | true=>rw [h2] at h;simp at h
     | false =>
      rw [h2] at h;simp only [cond_false,Option.some.injEq,Prod.mk.injEq,and_true] at h;subst h;exact hb
theorem d3b (h:TK T A B) (hK:KT T A B) (s:List UInt8) (hs:s.length≤3000):Pf (z3g (T,A,B,s,())) (fun y=>y.2.2.1=0→run true 1 (bi s)=0):=by
 by_cases hr:1≤run true 1 (bi s)
 · refine pM (P:=fun y=>y.2.2.1≠0) ?_ (fun y h0 h1=>(h0 h1).elim)
   unfold z3g;dsimp only;refine pZ (pA (v1w h s (by omega)).pf (b1n h hK s (by omega))) ?_;rintro ⟨f,ok,u⟩ ⟨hf,hf'⟩;dsimp only at hf hf' ⊢;obtain ⟨ls,c,e,hll,hls⟩:=j1k f ok (by omega);rw [e];simp only [Option.bind_some];with_reducible repeat' (first | exact pN | apply pP | apply pX<;>intro _)
   · assumption
   · rename_i hc h32
     have hc':c=0:=hc;subst hc';obtain ⟨p,hp,hpb⟩:=y4o s f ok (by omega) hf' hr ls e;refine pZ (P:=fun r=>r.1≠0) ?_ ?_
     · intro r er h0
       obtain ⟨a,ha⟩:=z9q _ _ ls [] [] r er h0 p hp;simp only [Option.map_eq_some_iff] at ha;obtain ⟨y,ey,hy⟩:=ha;have:=d3f h hK p (by have:=hls p hp;omega) hpb y ey;simp only [Prod.mk.injEq] at hy;exact this hy.2
     · intro r hr0 y ey
       simp only [Option.map_eq_some_iff] at ey;obtain ⟨o,eo,rfl⟩:=ey;unfold y1q at eo;rw [inT hr0] at eo;simp only [cond_true,Option.some.injEq] at eo;subst eo;exact hr0
 · exact pM pT fun _ _ _=>by omega
end
def ktB:Bool:=match C18 () with
 | some (T,A,B,_)=>(List.range 128).all fun n => !kk (n:Int)||((match xc (T,A,B,(n:Int),()) with | some (c,_)=>c==0 | none=>false)&&(match j2g (T,A,B,(n:Int),()) with | some (c,_)=>c==(n:Int) | none=>false)&&(match q2k (T,A,B,(n:Int),()) with | some (c,_) => !c | none=>false))
 | none=>false
theorem f6o:ktB=true:=by kernel_rfl
theorem kt {T A B} (h18:C18 ()=some (T,A,B,())):KT T A B:=by
 have h:=f6o;unfold ktB at h;rw [h18] at h;simp only [List.all_eq_true] at h;have key:∀x,kk x=true→(match xc (T,A,B,x,()) with | some (c,_)=>c==0 | none=>false)=true∧(match j2g (T,A,B,x,()) with | some (c,_)=>c==x | none=>false)=true∧(match q2k (T,A,B,x,()) with | some (c,_) => !c | none=>false)=true:=by
  intro x hx;have h1:=(q3i x).1 hx;have h2:=h x.toNat (List.mem_range.2 (by omega))
  rw [show ((x.toNat:Nat):Int)=x by omega,hx] at h2;simp only [Bool.not_true,Bool.false_or,Bool.and_eq_true] at h2;exact ⟨h2.1.1,h2.1.2,h2.2⟩
 refine ⟨fun x hx => ?_,fun x hx => ?_,fun x hx => ?_⟩
 · have:=(key x hx).1
   cases hc:xc (T,A,B,x,()) with
   | none=>rw [hc] at this;cases this
   | some y =>
    obtain ⟨c,u⟩:=y;rw [hc] at this;have:c=0:=by simpa using this
    subst this;rfl
 · have:=(key x hx).2.1
   cases hc:j2g (T,A,B,x,()) with
   | none=>rw [hc] at this;cases this
   | some y =>
    obtain ⟨c,u⟩:=y;rw [hc] at this;have:c=x:=by simpa using this
    subst this;rfl
 · have:=(key x hx).2.2
   cases hc:q2k (T,A,B,x,()) with
   | none=>rw [hc] at this;cases this
   | some y =>
    obtain ⟨c,u⟩:=y;rw [hc] at this;have:c=false:=by simpa using this
    subst this;rfl
theorem wb (p:UInt8→Bool) (h:(List.range 256).all (fun n=>p (UInt8.ofNat n))=true) (c:UInt8):p c=true:=by
 have h1:=List.all_eq_true.1 h c.toNat (List.mem_range.2 (by have:=c.toNat_lt;omega))
 simpa using h1
def gB (o:Option (Bool×Unit)):Bool:=match o with | some (b,_)=>b | none=>false
def okB (o:Option (Bool×Unit)):Bool:=match o with | some (_,_)=>true | none=>false
theorem z0a {o:Option (Bool×Unit)} (h:okB o=true):o=some (gB o,()):=by
 cases o with
 | none=>cases h
 | some x=>rfl
def jt (c:UInt8):Bool:=gB (C90 ((c.toNat:Int),()))
def zj (c:UInt8):Bool:=gB (xk ((c.toNat:Int),()))
def zf (c:UInt8):Bool:=gB (yf ((c.toNat:Int),()))
def x2i (c:UInt8):Int:=match q2j ([60,62,58,59,64,44,46],(c.toNat:Int),()) with | some (i,_)=>i | none=>0
def q6f (c:UInt8):Bool:=decide (x2i c≥0)
theorem c17 (c:UInt8):C90 ((c.toNat:Int),())=some (jt c,()):=z0a (wb (fun c=>okB (C90 ((c.toNat:Int),()))) (by kernel_rfl) c)
theorem c32 (c:UInt8):xk ((c.toNat:Int),())=some (zj c,()):=z0a (wb (fun c=>okB (xk ((c.toNat:Int),()))) (by kernel_rfl) c)
theorem c31 (c:UInt8):yf ((c.toNat:Int),())=some (zf c,()):=z0a (wb (fun c=>okB (yf ((c.toNat:Int),()))) (by kernel_rfl) c)
theorem x6b (c:UInt8):q2j ([60,62,58,59,64,44,46],(c.toNat:Int),())=some (x2i c,()):=rfl
theorem gd {α:Type} {pre r:List α} {c d:α} {p:Nat} (h:pre.length=p):(pre++c::r).getD p d=c:=by subst h;simp
theorem dr {α:Type} {pre r:List α} {p:Nat} (h:pre.length=p):List.drop p (pre++r)=r:=by subst h;simp
theorem Sk:(∀{p:Prop} [Decidable p],p→decide p=true)∧(∀{p:Prop} [Decidable p],¬p→decide p=false)∧(∀{α:Type} (a b:α),(bif true then a else b)=a)∧(∀{α:Type} (a b:α),(bif false then a else b)=b) ∧
 (∀b:Bool,(b&&b)=b)∧(∀b:Bool,(true&&b)=b)∧(∀b:Bool,(b&&true)=b)∧(∀b:Bool,(false&&b)=false)∧(∀b:Bool,(b&&false)=false)∧(!true)=false∧(!false)=true ∧
 (∀{α:Type} {a b:List α},(a++b).length=a.length+b.length)∧(∀{α:Type} {a:α} {l:List α},(a::l).length=l.length+1)∧(∀{α:Type},([]:List α).length=0)∧(∀n:Nat,((n:Int)).toNat=n) ∧
 (∀{a b:Int},a=b→(a==b)=true)∧(∀{a b:Int},a≠b→(a==b)=false)∧(∀{a b:Int},a≠b→(a != b)=true)∧(∀{a b:Int},a=b→(a != b)=false) ∧
 (∀n:Nat,n≤9223372036854775806→IntKind.i64.wrap ((n:Int)+1)=((n+1:Nat):Int))∧(∀{α:Type} {pre r:List α} {c d:α} {p:Nat},pre.length=p→(pre++c::r).getD p d=c)∧(∀{α:Type} {pre r:List α} {p:Nat},pre.length=p→List.drop p (pre++r)=r) ∧
 (∀{α β:Type} (a:α) (f:α→Option β),(some a).bind f=f a)∧(∀{α β γ:Type} (f:α→γ) (g:β→γ) (x:α),Sum.elim f g (Sum.inl x)=f x)∧(∀{α β γ:Type} (f:α→γ) (g:β→γ) (x:β),Sum.elim f g (Sum.inr x)=g x)∧(∀b:UInt8,UInt8.ofNat ((b.toNat:Int)).toNat=b)∧∀b:UInt8,UInt8.ofNat b.toNat=b :=
 ⟨@decide_eq_true,@decide_eq_false,fun _ _=>rfl,fun _ _=>rfl,Bool.and_self,Bool.true_and,Bool.and_true,Bool.false_and,Bool.and_false,rfl,rfl,@fun _ _ _=>List.length_append,@fun _ _ _=>List.length_cons,@fun _=>List.length_nil,Int.toNat_natCast,@ibT,@ibF,@inT,@inF,wrN,@gd,@dr,@Option.bind_some,fun _ _ _=>rfl,fun _ _ _=>rfl,byte_back,x1v⟩
theorem shift {α:Type} (pre:List α) (c:α) (r:List α):pre++c::r=(pre++[c])++r:=by simp
theorem c27 (k e:Int) (s:List UInt8) (at_ bad err:Int):zv (k,e,s,at_,bad,err,())=some (s,at_,k,e,()):=rfl
def al:List UInt8→Nat
 | []=>0
 | c::r=>bif jt c then al r+1 else 0
theorem v1a:∀r,al r≤r.length
 | []=>Nat.le_refl _
 | c::r=>by have:=v1a r;simp only [al];cases jt c<;>simp;omega
theorem l21 (f bad err:Int):∀(r pre:List UInt8) (p n:Nat),pre.length=p→r.length<n→p+r.length≤140737488355328 →
 qd (q4a C90 q1i) n (f,pre++r,(p:Int),bad,err,())=some (f,pre++r,((p+al r:Nat):Int),bad,err,())
 | [],pre,p,n+1,hp,hn,hb=>by
  refine qh ?_;simp (disch:=(first | omega | (simp only [List.length_append,List.length_cons,List.length_nil];omega))) only [q4a,q1i,q8s,Sk,al,List.append_nil,Nat.add_zero]
 | c::r,pre,p,n+1,hp,hn,hb=>by
  simp only [List.length_cons] at hn hb;cases h:jt c with
  | true =>
   rw [jf (v':=(f,pre++c::r,((p+1:Nat):Int),bad,err,())) (by simp (disch:=(first | omega | (simp only [List.length_append,List.length_cons,List.length_nil];omega))) only [q4a,q1i,q8s,Sk,c17,h])];rw [shift,l21 f bad err r (pre++[c]) (p+1) n (by simp [hp]) (by omega) (by omega)];simp only [al,h,cond_true,Nat.add_assoc,Nat.add_comm 1]
  | false =>
   refine qh ?_;simp (disch:=(first | omega | (simp only [List.length_append,List.length_cons,List.length_nil];omega))) only [q4a,q1i,q8s,Sk,c17,h,al,Nat.add_zero]
theorem c21 (pre r:List UInt8) (p:Nat) (bad err:Int) (hp:pre.length=p) (hb:p+r.length≤140737488355328) :
 z8b (pre++r,(p:Int),bad,err,())=some (r.take (al r),pre++r,((p+al r:Nat):Int),bad,err,()):=by
 have:=v1a r;show v7v C90 q7k (pre++r,(p:Int),bad,err,())=_;have hl:q7k ((p:Int),pre++r,(p:Int),bad,err,())=_:=l21 p bad err r pre p jc hp (by unfold jc;omega) hb;simp (disch:=(first | omega | (simp only [List.length_append,List.length_cons,List.length_nil];omega))) only [v7v,hl,Sk];rw [show List.drop p (List.take (p+al r) (pre++r))=r.take (al r) by rw [←hp,List.take_append,List.take_of_length_le (by omega),List.drop_append];simp]
def wl:List UInt8→Nat
 | []=>0
 | c::r=>bif zj c then wl r+1 else
  match r with
  | b::d::r'=>bif (c==13&&b==10)&&zj d then wl r'+3 else 0
  | _=>0
theorem y2e:∀r,wl r≤r.length
 | []=>Nat.le_refl _
 | [c]=>by simp only [wl];cases zj c<;>simp
 | [c,b]=>by have:=y2e [b];simp only [wl] at *;cases zj c<;>cases zj b<;>simp
 | c::b::d::r'=>by
  have h1:=y2e (b::d::r');have h2:=y2e r';rw [wl];cases zj c
  · simp only [cond_false];cases (c==13&&b==10)&&zj d<;>simp;omega
  · simp only [cond_true,List.length_cons] at *;omega
theorem g2l (c b:UInt8):([c,b]==[13,10])=(c==13&&b==10):=by
 rw [Bool.eq_iff_iff];simp
theorem v1j (f p:Nat) (s:List UInt8) (bad err:Int) (b:Bool) (hf:f≤p) (hp:p≤s.length) (hb:p≤140737488355328) :
 xu ((f:Int),b,s,(p:Int),bad,err,())=some (bif b then .inl ((f:Int),s,((p+3:Nat):Int),bad,err,()) else .inr (List.drop f (List.take p s),s,(p:Int),bad,err,())):=by
 cases b with
 | true=>simp only [xu,j5s,cond_true];rw [wr (by omega) (by omega)];rfl
 | false=>simp (disch:=(first | omega | (simp only [List.length_append,List.length_cons,List.length_nil];omega))) only [xu,j5s,Sk]
theorem d4r {c:UInt8} {r:List UInt8} (h:zj c=true):wl (c::r)=wl r+1:=by
 match r with
 | []=>simp [wl,h]
 | [b]=>simp [wl,h]
 | b::d::r=>rw [wl,h];rfl
theorem x2n {c:UInt8} {r:List UInt8} (h:zj c=false) (h2:r.length<2):wl (c::r)=0:=by
 match r,h2 with
 | [],_=>simp [wl,h]
 | [b],_=>simp [wl,h]
 | b::d::r,h2=>simp at h2;omega
theorem l26 (f:Nat) (bad err:Int):∀(m:Nat) (r pre:List UInt8) (p n:Nat),r.length≤m→pre.length=p→r.length<n→f≤p→p+r.length≤140737488355328 →
 qd (yg xk xu) n ((f:Int),pre++r,(p:Int),bad,err,())=some (.inl ((f:Int),pre++r,((p+wl r:Nat):Int),bad,err,())) ∨
 qd (yg xk xu) n ((f:Int),pre++r,(p:Int),bad,err,())=some (.inr (List.drop f (List.take (p+wl r) (pre++r)),pre++r,((p+wl r:Nat):Int),bad,err,()))
 | _,_,_,_,0,_,_,hn,_,_=>by omega
 | m,[],pre,p,n+1,hm,hp,hn,hf,hb=>by
  refine .inl (qh ?_);simp (disch:=(first | omega | (simp only [List.length_append,List.length_cons,List.length_nil];omega))) only [yg,Sk,wl,List.append_nil,Nat.add_zero]
 | 0,c::r,pre,p,n+1,hm,hp,hn,hf,hb=>by simp at hm
 | m+1,c::r,pre,p,n+1,hm,hp,hn,hf,hb=>by
  simp only [List.length_cons] at hn hb hm;cases h:zj c with
  | true =>
   rw [jf (v':=((f:Int),pre++c::r,((p+1:Nat):Int),bad,err,())) (by simp (disch:=(first | omega | (simp only [List.length_append,List.length_cons,List.length_nil];omega))) only [yg,Sk,c32,h,List.getD_cons_zero])];rw [shift];have:=l26 f bad err m r (pre++[c]) (p+1) n (by omega) (by simp [hp]) (by omega) (by omega) (by omega);rw [show p+wl (c::r)=p+1+wl r by rw [d4r h];omega];exact this
  | false =>
   have stop:∀(hw:wl (c::r)=0),yg xk xu ((f:Int),pre++c::r,(p:Int),bad,err,())=some (.inr (.inr (List.drop f (List.take p (pre++c::r)),pre++c::r,(p:Int),bad,err,()))) →
    qd (yg xk xu) (n+1) ((f:Int),pre++c::r,(p:Int),bad,err,())=some (.inr (List.drop f (List.take (p+wl (c::r)) (pre++c::r)),pre++c::r,((p+wl (c::r):Nat):Int),bad,err,())):=by
    intro hw h;rw [hw];exact qh h
   match r,hm,hn,hb with
   | [],hm,hn,hb =>
    refine .inr (stop (x2n h (by simp)) ?_);simp (disch:=(first | omega | (simp only [List.length_append,List.length_cons,List.length_nil];omega))) only [yg,Sk,c32,h,List.getD_cons_zero,v1j]
   | [b],hm,hn,hb =>
    refine .inr (stop (x2n h (by simp)) ?_);simp only [List.length_cons,List.length_nil] at hn hb hm;simp (disch:=(first | omega | (simp only [List.length_append,List.length_cons,List.length_nil];omega))) only [yg,Sk,c32,h,List.getD_cons_zero,v1j]
   | b::d::r',hm,hn,hb =>
    simp only [List.length_cons] at hn hb hm;cases hq:(c==13&&b==10) with
    | false =>
     refine .inr (stop (by rw [wl,h,hq];rfl) ?_);simp (disch:=(first | omega | (simp only [List.length_append,List.length_cons,List.length_nil];omega))) only [yg,Sk,c32,h,List.getD_cons_zero,v1j,List.take_succ_cons,List.take_zero,g2l,hq]
    | true =>
     cases hd:zj d with
     | false =>
      refine .inr (stop (by rw [wl,h,hq,hd];rfl) ?_);simp (disch:=(first | omega | (simp only [List.length_append,List.length_cons,List.length_nil];omega))) only [yg,Sk,c32,h,List.getD_cons_zero,List.getD_cons_succ,v1j,List.take_succ_cons,List.take_zero,g2l,hq,hd]
     | true =>
      rw [jf (v':=((f:Int),pre++c::b::d::r',((p+3:Nat):Int),bad,err,())) (by simp (disch:=(first | omega | (simp only [List.length_append,List.length_cons,List.length_nil];omega))) only [yg,Sk,c32,h,List.getD_cons_zero,List.getD_cons_succ,v1j,List.take_succ_cons,List.take_zero,g2l,hq,hd])];have:=l26 f bad err m r' (pre++[c,b,d]) (p+3) n (by omega) (by simp [hp]) (by omega) (by omega) (by omega);rw [show p+wl (c::b::d::r')=p+3+wl r' by rw [wl,h,hq,hd];simp only [cond_true,cond_false,Bool.and_self];omega];rw [show pre++c::b::d::r'=(pre++[c,b,d])++r' by simp];exact this
theorem j2a {pre r:List UInt8} {p k:Nat} (hp:pre.length=p):List.drop p (List.take (p+k) (pre++r))=r.take k:=by
 rw [←hp,List.take_append,List.take_of_length_le (by omega),List.drop_append];simp
theorem c26 (pre r:List UInt8) (p:Nat) (bad err:Int) (hp:pre.length=p) (hb:p+r.length≤140737488355328) :
 z8f (pre++r,(p:Int),bad,err,())=some (r.take (wl r),pre++r,((p+wl r:Nat):Int),bad,err,()):=by
 have:=y2e r;show x9o xk q3t (pre++r,(p:Int),bad,err,())=_;rcases l26 p bad err r.length r pre p jc (Nat.le_refl _) hp (by unfold jc;omega) (Nat.le_refl _) hb with hl | hl
 · have hl':q3t ((p:Int),pre++r,(p:Int),bad,err,())=_:=hl
   simp (disch:=(first | omega | (simp only [List.length_append,List.length_cons,List.length_nil];omega))) only [x9o,hl',Sk,j2a]
 · have hl':q3t ((p:Int),pre++r,(p:Int),bad,err,())=_:=hl
   simp (disch:=(first | omega | (simp only [List.length_append,List.length_cons,List.length_nil];omega))) only [x9o,hl',Sk,j2a]
inductive Tk where
 | ok (t:List UInt8) (u:Nat)
 | bad (off:Nat) (e:Int)
 | start
def Tk.push (l:List UInt8) (n:Nat):Tk→Tk
 | .ok t u => .ok (l++t) (n+u)
 | .bad off e => .bad (n+off) e
 | .start => .start
def qt:List UInt8→Tk
 | [] => .start
 | c::r=>if c.toNat=34 then .ok [] 1 else if c.toNat=92 then
  match r with
  | [] => .start
  | d::r'=>bif zf d then (qt r').push [d] 2 else .bad 1 4
  else bif zf c then (qt r).push [c] 1 else .bad 0 4
theorem k9z {c:UInt8} {r:List UInt8} (h:c.toNat=34):qt (c::r) = .ok [] 1:=by cases r<;>simp [qt,h]
theorem v6f {c:UInt8} (h:c.toNat=92):qt [c] = .start:=by simp [qt,h]
theorem x2e {c d:UInt8} {r:List UInt8} (h:c.toNat=92):qt (c::d::r)=bif zf d then (qt r).push [d] 2 else .bad 1 4:=by simp [qt,h]
theorem k9y {c:UInt8} {r:List UInt8} (h1:¬c.toNat=34) (h2:¬c.toNat=92):qt (c::r)=bif zf c then (qt r).push [c] 1 else .bad 0 4:=by cases r<;>simp [qt,h1,h2]
def z1i (s:List UInt8) (a bad err:Int) (out:List UInt8) (q:Nat):Tk→(List UInt8×Int×Int×Int×Unit)⊕(List UInt8×List UInt8×Int×Int×Int×Unit)
 | .ok t u => .inr (out++t,s,((q+u:Nat):Int),bad,err,())
 | .bad off e => .inr ([],s,a,((q+off:Nat):Int),e,())
 | .start => .inl (s,a,bad,err,())
theorem z2x (s:List UInt8) (a bad err:Int) (out:List UInt8) (q:Nat) (l:List UInt8) (n:Nat) (k:Tk):z1i s a bad err out q (k.push l n)=z1i s a bad err (out++l) (q+n) k:=by
 cases k<;>simp [Tk.push,z1i,Nat.add_assoc]
theorem f5c (pre r out:List UInt8) (d:UInt8) (q:Nat) (a bad err:Int) (hq:pre.length=q) (hb:q+r.length≤140737488355320) (ho:out.length+1≤140737488355328) :
 q3r ((q:Int),pre++d::r,a,bad,err,out,())=some (bif zf d then .inr ((q:Int),pre++d::r,a,bad,err,out++[d],()) else .inl ([],pre++d::r,a,(q:Int),4,())):=by
 cases h:zf d<;>simp (disch:=(first | omega | (simp only [List.length_append,List.length_cons,List.length_nil];omega))) only [q3r,z4p,Sk,c31,c27,h]
theorem l23 (a bad err:Int):∀(m:Nat) (r pre out:List UInt8) (q n:Nat),r.length≤m→pre.length=q→r.length<n→q+r.length≤140737488355320→out.length+r.length≤140737488355320 →
 qd (vd zv yf q3r) n ((q:Int),pre++r,a,bad,err,out,())=some (z1i (pre++r) a bad err out q (qt r))
 | _,_,_,_,_,0,_,_,hn,_,_=>by omega
 | m,[],pre,out,q,n+1,hm,hq,hn,hb,ho=>by
  refine qh ?_;simp (disch:=(first | omega | (simp only [List.length_append,List.length_cons,List.length_nil];omega))) only [vd,Sk,List.append_nil,qt,z1i]
 | 0,c::r,pre,out,q,n+1,hm,hq,hn,hb,ho=>by simp at hm
 | m+1,c::r,pre,out,q,n+1,hm,hq,hn,hb,ho=>by
  simp only [List.length_cons] at hn hb hm ho;by_cases e1:c.toNat=34
  · refine qh ?_
    rw [k9z e1];simp (disch:=(first | omega | (simp only [List.length_append,List.length_cons,List.length_nil];omega))) only [vd,Sk,z1i,List.append_nil]
  · by_cases e2:c.toNat=92
    · match r,hm,hn,hb,ho with
      | [],hm,hn,hb,ho =>
       refine qh ?_;rw [v6f e2];simp (disch:=(first | omega | (simp only [List.length_append,List.length_cons,List.length_nil];omega))) only [vd,Sk,z1i,List.append_nil]
      | d::r',hm,hn,hb,ho =>
       simp only [List.length_cons] at hn hb hm ho;have hc:=f5c (pre++[c]) r' out d (q+1) a bad err (by simp [hq]) (by omega) (by omega);rw [←shift] at hc;rw [x2e e2];cases h:zf d with
       | true =>
        rw [h] at hc;simp only [cond_true] at hc ⊢;rw [jf (v':=(((q+2:Nat):Int),pre++c::d::r',a,bad,err,out++[d],())) (by
         simp (disch:=(first | omega | (simp only [List.length_append,List.length_cons,List.length_nil];omega))) only [vd,Sk,hc])]
        have:=l23 a bad err m r' (pre++[c,d]) (out++[d]) (q+2) n (by omega) (by simp [hq]) (by omega) (by omega) (by simp;omega);rw [show pre++c::d::r'=(pre++[c,d])++r' by simp,this,←z2x]
       | false =>
        rw [h] at hc;simp only [cond_false] at hc ⊢;refine qh ?_;simp (disch:=(first | omega | (simp only [List.length_append,List.length_cons,List.length_nil];omega))) only [vd,Sk,hc,z1i]
    · have hc:=f5c pre r out c q a bad err hq (by omega) (by omega)
      rw [k9y e1 e2];cases h:zf c with
      | true =>
       rw [h] at hc;simp only [cond_true] at hc ⊢;rw [jf (v':=(((q+1:Nat):Int),pre++c::r,a,bad,err,out++[c],())) (by
        simp (disch:=(first | omega | (simp only [List.length_append,List.length_cons,List.length_nil];omega))) only [vd,Sk,hc])]
       have:=l23 a bad err m r (pre++[c]) (out++[c]) (q+1) n (by omega) (by simp [hq]) (by omega) (by omega) (by simp;omega);rw [shift,this,←z2x]
      | false =>
       rw [h] at hc;simp only [cond_false] at hc ⊢;refine qh ?_;simp (disch:=(first | omega | (simp only [List.length_append,List.length_cons,List.length_nil];omega))) only [vd,Sk,hc,z1i,Nat.add_zero]
def jv (s:List UInt8) (p:Nat) (bad err:Int) (q:Nat):Tk→List UInt8×List UInt8×Int×Int×Int×Unit
 | .ok t u=>(t,s,((q+u:Nat):Int),bad,err,())
 | .bad off e=>([],s,(p:Int),((q+off:Nat):Int),e,())
 | .start=>([],s,(p:Int),(p:Int),4,())
theorem c23 (pre r:List UInt8) (c:UInt8) (p:Nat) (bad err:Int) (hp:pre.length=p) (hb:p+r.length≤140737488355000) :
 z8c (pre++c::r,(p:Int),bad,err,())=some (jv (pre++c::r) p bad err (p+1) (qt r)):=by
 show v7w zv yf q7l (pre++c::r,(p:Int),bad,err,())=_;have hl:=l23 p bad err r.length r (pre++[c]) [] (p+1) jc (Nat.le_refl _) (by simp [hp]) (by unfold jc;omega) (by omega) (by simp;omega);rw [←shift] at hl;have hl':q7l (((p+1:Nat):Int),pre++c::r,(p:Int),bad,err,[],())=_:=hl;cases hq:qt r<;>rw [hq] at hl'<;>simp (disch:=(first | omega | (simp only [List.length_append,List.length_cons,List.length_nil];omega))) only [v7w,Sk,hl',z1i,jv,c27,List.nil_append]
def ltk:List UInt8→Tk
 | [] => .start
 | c::r=>if c.toNat=93 then .ok [] 1 else if c.toNat=91 then .bad 0 4 else if c.toNat=92 then .bad 0 4 else
  bif zj c then .bad 0 4 else bif zf c then (ltk r).push [c] 1 else .bad 0 4
def j3r (s:List UInt8) (a bad err:Int) (from_:Nat) (q:Nat):Tk→(List UInt8×Int×Int×Int×Unit)⊕(List UInt8×List UInt8×Int×Int×Int×Unit)
 | .ok t u => .inr (List.drop from_ (List.take (q+t.length) s),s,((q+u:Nat):Int),bad,err,())
 | .bad off e => .inr ([],s,a,((q+off:Nat):Int),e,())
 | .start => .inl (s,a,bad,err,())
theorem x7c (s:List UInt8) (a bad err:Int) (f q:Nat) (l:List UInt8) (n:Nat) (hl:l.length=n) (k:Tk):j3r s a bad err f q (k.push l n)=j3r s a bad err f (q+n) k:=by
 cases k<;>simp [Tk.push,j3r,Nat.add_assoc,hl]
theorem l24 (a:Nat) (bad err:Int):∀(r pre:List UInt8) (q n:Nat),pre.length=q→a+1≤q→r.length<n→q+r.length≤140737488355320 →
 qd (ve zv yf xk xa) n ((q:Int),pre++r,(a:Int),bad,err,())=some (j3r (pre++r) a bad err (a+1) q (ltk r))
 | _,_,_,0,_,_,hn,_=>by omega
 | [],pre,q,n+1,hq,ha,hn,hb=>by
  refine qh ?_;simp (disch:=(first | omega | (simp only [List.length_append,List.length_cons,List.length_nil];omega))) only [ve,xa,ki,Sk,List.append_nil,ltk,j3r]
 | c::r,pre,q,n+1,hq,ha,hn,hb=>by
  simp only [List.length_cons] at hn hb;by_cases e1:c.toNat=93
  · refine qh ?_
    simp (disch:=(first | omega | (simp only [List.length_append,List.length_cons,List.length_nil];omega))) only [ve,xa,ki,Sk,ltk,if_pos,j3r,Nat.add_zero]
  · by_cases e2:c.toNat=91
    · refine qh ?_
      simp (disch:=(first | omega | (simp only [List.length_append,List.length_cons,List.length_nil];omega))) only [ve,xa,ki,Sk,ltk,if_pos,if_neg,j3r,Nat.add_zero,c27]
    · by_cases e3:c.toNat=92
      · refine qh ?_
        simp (disch:=(first | omega | (simp only [List.length_append,List.length_cons,List.length_nil];omega))) only [ve,xa,ki,Sk,ltk,if_pos,if_neg,j3r,Nat.add_zero,c27]
      · cases h1:zj c with
        | true =>
         refine qh ?_;simp (disch:=(first | omega | (simp only [List.length_append,List.length_cons,List.length_nil];omega))) only [ve,xa,ki,Sk,ltk,if_pos,if_neg,j3r,Nat.add_zero,c27,c32,h1]
        | false =>
         cases h2:zf c with
         | false =>
          refine qh ?_;simp (disch:=(first | omega | (simp only [List.length_append,List.length_cons,List.length_nil];omega))) only [ve,xa,ki,Sk,ltk,if_pos,if_neg,j3r,Nat.add_zero,c27,c32,c31,h1,h2]
         | true =>
          rw [jf (v':=(((q+1:Nat):Int),pre++c::r,(a:Int),bad,err,())) (by
           simp (disch:=(first | omega | (simp only [List.length_append,List.length_cons,List.length_nil];omega))) only [ve,xa,ki,Sk,c32,c31,h1,h2])]
          have:=l24 a bad err r (pre++[c]) (q+1) n (by simp [hq]) (by omega) (by omega) (by omega);rw [shift,this,←x7c (l:=[c]) (n:=1) _ _ _ _ _ _ rfl];simp only [ltk,if_neg e1,if_neg e2,if_neg e3,h1,h2,cond_true,cond_false]
theorem z7e:∀{r t:List UInt8} {u:Nat},ltk r = .ok t u→u=t.length+1∧t.length<r.length∧r.take t.length=t
 | [],t,u,h=>by simp [ltk] at h
 | c::r,t,u,h=>by
  unfold ltk at h;split at h
  · cases h;simp
  · split at h
    · cases h
    · split at h
      · cases h
      · cases h1:zj c<;>cases h2:zf c<;>rw [h1,h2] at h<;>simp only [cond_true,cond_false] at h<;>try (cases h;done)
        cases hr:ltk r with
        | ok t' u' =>
         rw [hr] at h;cases h;obtain ⟨i1,i2,i3⟩:=z7e hr;exact ⟨by simp;omega,by simpa using i2,by simpa using i3⟩
        | bad o e=>rw [hr] at h;cases h
        | start=>rw [hr] at h;cases h
theorem c24 (pre r:List UInt8) (c:UInt8) (p:Nat) (bad err:Int) (hp:pre.length=p) (hb:p+r.length≤140737488355000) :
 z8d (pre++c::r,(p:Int),bad,err,())=some (jv (pre++c::r) p bad err (p+1) (ltk r)):=by
 show x3m zv yf xk q7m (pre++c::r,(p:Int),bad,err,())=_;have hl:=l24 p bad err r (pre++[c]) (p+1) jc (by simp [hp]) (by omega) (by unfold jc;omega) (by omega);rw [←shift] at hl;have hl':q7m (((p+1:Nat):Int),pre++c::r,(p:Int),bad,err,())=_:=hl;cases hq:ltk r with
 | ok t u =>
  rw [hq] at hl';obtain ⟨i1,i2,i3⟩:=z7e hq;simp (disch:=(first | omega | (simp only [List.length_append,List.length_cons,List.length_nil];omega))) only [x3m,Sk,hl',j3r,jv];rw [shift,j2a (by simp [hp]),i3]
 | bad o e=>rw [hq] at hl';simp (disch:=(first | omega | (simp only [List.length_append,List.length_cons,List.length_nil];omega))) only [x3m,Sk,hl',j3r,jv]
 | start=>rw [hq] at hl';simp (disch:=(first | omega | (simp only [List.length_append,List.length_cons,List.length_nil];omega))) only [x3m,Sk,hl',j3r,jv,c27]
def nt:Nat→List UInt8→Tk
 | _,[] => .start
 | deep,c::r=>if c.toNat=40 then (if deep+1>32 then .bad 0 6 else (nt (deep+1) r).push [c] 1)
  else if c.toNat=41 then (if deep=1 then .ok [] 1 else (nt (deep - 1) r).push [c] 1)
  else if c.toNat=92 then
   match r with
   | [] => .start
   | d::r'=>bif zf d then (nt deep r').push [c,d] 2 else .bad 1 4
  else bif zf c then (nt deep r).push [c] 1 else .bad 0 4
theorem k9b {deep:Nat} {c:UInt8} {r:List UInt8} (h:c.toNat=40):nt deep (c::r)=if deep+1>32 then .bad 0 6 else (nt (deep+1) r).push [c] 1:=by cases r<;>simp [nt,h]
theorem k8z {deep:Nat} {c:UInt8} {r:List UInt8} (h:c.toNat=41):nt deep (c::r)=if deep=1 then .ok [] 1 else (nt (deep - 1) r).push [c] 1:=by cases r<;>simp [nt,h]
theorem x1s {deep:Nat} {c:UInt8} (h:c.toNat=92):nt deep [c] = .start:=by simp [nt,h]
theorem x1t {deep:Nat} {c d:UInt8} {r:List UInt8} (h:c.toNat=92):nt deep (c::d::r)=bif zf d then (nt deep r).push [c,d] 2 else .bad 1 4:=by simp [nt,h]
theorem k9a {deep:Nat} {c:UInt8} {r:List UInt8} (h1:¬c.toNat=40) (h2:¬c.toNat=41) (h3:¬c.toNat=92):nt deep (c::r)=bif zf c then (nt deep r).push [c] 1 else .bad 0 4:=by cases r<;>simp [nt,h1,h2,h3]
theorem wrM (n:Nat) (h:n≤9223372036854775806) (h1:1≤n):IntKind.i64.wrap ((n:Int) - 1)=((n - 1:Nat):Int):=by rw [wr]<;>omega
def q7d (s:List UInt8) (f:Nat) (a bad err:Int) (q:Nat):Tk→((Int×Int×List UInt8×Int×Int×Int×Unit)⊕(Int×Int×List UInt8×Int×Int×Int×Unit)⊕(List UInt8×List UInt8×Int×Int×Int×Unit))
 | .ok t u => .inr (.inr (List.drop (f+1) (List.take (q+t.length) s),s,((q+u:Nat):Int),bad,err,()))
 | .bad off e => .inr (.inl (e,((q+off:Nat):Int),s,a,bad,err,()))
 | .start => .inl ((f:Int),4,s,a,bad,err,())
theorem z2w (s:List UInt8) (f:Nat) (a bad err:Int) (q:Nat) (l:List UInt8) (n:Nat) (hl:l.length=n) (k:Tk):q7d s f a bad err q (k.push l n)=q7d s f a bad err (q+n) k:=by
 cases k<;>simp [Tk.push,q7d,Nat.add_assoc,hl]
theorem l25 (f:Nat) (a bad err:Int):∀(m:Nat) (r pre:List UInt8) (deep q n:Nat),r.length≤m→1≤deep→deep≤32→pre.length=q→f+1≤q→r.length<n→q+r.length≤140737488355320 →
 qd (zq zv yf) n ((f:Int),(deep:Int),4,(q:Int),pre++r,a,bad,err,())=some (q7d (pre++r) f a bad err q (nt deep r))
 | _,_,_,_,_,0,_,_,_,_,_,hn,_=>by omega
 | m,[],pre,deep,q,n+1,hm,hd,hd2,hq,hf,hn,hb=>by
  refine qh ?_;simp (disch:=(first | omega | (simp only [List.length_append,List.length_cons,List.length_nil];omega))) only [zq,Sk,List.append_nil,nt,q7d]
 | 0,c::r,pre,deep,q,n+1,hm,hd,hd2,hq,hf,hn,hb=>by simp at hm
 | m+1,c::r,pre,deep,q,n+1,hm,hd,hd2,hq,hf,hn,hb=>by
  simp only [List.length_cons] at hn hb hm;have next:∀(d':Nat),1≤d'→d'≤32→zq zv yf ((f:Int),(deep:Int),4,(q:Int),pre++c::r,a,bad,err,())=some (.inl ((f:Int),(d':Int),4,((q+1:Nat):Int),pre++c::r,a,bad,err,())) →
   qd (zq zv yf) (n+1) ((f:Int),(deep:Int),4,(q:Int),pre++c::r,a,bad,err,())=some (q7d (pre++c::r) f a bad err q ((nt d' r).push [c] 1)):=by
   intro d' h1 h2 h3;rw [jf h3,z2w (l:=[c]) (n:=1) _ _ _ _ _ _ rfl];have:=l25 f a bad err m r (pre++[c]) d' (q+1) n (by omega) h1 h2 (by simp [hq]) (by omega) (by omega) (by omega);rw [shift,this]
  by_cases e1:c.toNat=40
  · rw [k9b e1]
    by_cases hdd:deep+1>32
    · rw [if_pos hdd]
      refine qh ?_;simp (disch:=(first | omega | (simp only [List.length_append,List.length_cons,List.length_nil];omega))) only [zq,Sk,q7d,Nat.add_zero]
    · rw [if_neg hdd]
      refine next (deep+1) (by omega) (by omega) ?_;simp (disch:=(first | omega | (simp only [List.length_append,List.length_cons,List.length_nil];omega))) only [zq,Sk]
  · by_cases e2:c.toNat=41
    · rw [k8z e2]
      by_cases hd1:deep=1
      · rw [if_pos hd1]
        refine qh ?_;subst hd1;simp (disch:=(first | omega | (simp only [List.length_append,List.length_cons,List.length_nil];omega))) only [zq,Sk,q7d,Nat.add_zero,wrM]
      · rw [if_neg hd1]
        refine next (deep - 1) (by omega) (by omega) ?_;simp (disch:=(first | omega | (simp only [List.length_append,List.length_cons,List.length_nil];omega))) only [zq,Sk,wrM]
    · by_cases e3:c.toNat=92
      · match r,hm,hn,hb with
        | [],hm,hn,hb =>
         rw [x1s e3];simp only [List.length_nil] at hn hb hm;rw [jf (v':=((f:Int),(deep:Int),4,((q+2:Nat):Int),pre++[c],a,bad,err,())) (by
          simp (disch:=(first | omega | (simp only [List.length_append,List.length_cons,List.length_nil];omega))) only [zq,Sk])]
         obtain ⟨n',rfl⟩:∃n',n=n'+1:=⟨n - 1,by omega⟩
         refine qh ?_;simp (disch:=(first | omega | (simp only [List.length_append,List.length_cons,List.length_nil];omega))) only [zq,Sk,q7d]
        | d::r',hm,hn,hb =>
         simp only [List.length_cons] at hn hb hm;rw [x1t e3];have hg:(pre++c::d::r').getD (q+1) 0=d:=by rw [shift];exact gd (by simp [hq])
         cases h:zf d with
         | true =>
          rw [jf (v':=((f:Int),(deep:Int),4,((q+2:Nat):Int),pre++c::d::r',a,bad,err,())) (by
           simp (disch:=(first | omega | (simp only [List.length_append,List.length_cons,List.length_nil];omega))) only [zq,Sk,hg,c31,h])]
          have:=l25 f a bad err m r' (pre++[c,d]) deep (q+2) n (by omega) hd hd2 (by simp [hq]) (by omega) (by omega) (by omega);rw [show pre++c::d::r'=(pre++[c,d])++r' by simp,this,cond_true,z2w (l:=[c,d]) (n:=2) _ _ _ _ _ _ rfl]
         | false =>
          refine qh ?_;simp (disch:=(first | omega | (simp only [List.length_append,List.length_cons,List.length_nil];omega))) only [zq,Sk,hg,c31,h,q7d]
      · rw [k9a e1 e2 e3]
        cases h:zf c with
        | true =>
         refine next deep hd hd2 ?_;simp (disch:=(first | omega | (simp only [List.length_append,List.length_cons,List.length_nil];omega))) only [zq,Sk,c31,h]
        | false =>
         refine qh ?_;simp (disch:=(first | omega | (simp only [List.length_append,List.length_cons,List.length_nil];omega))) only [zq,Sk,c31,h,q7d,Nat.add_zero]
theorem q0m {k:Tk} {l t:List UInt8} {n u:Nat} (h:k.push l n = .ok t u):∃t' u',k = .ok t' u'∧t=l++t'∧u=n+u':=by
 cases k<;>simp [Tk.push] at h
 exact ⟨_,_,rfl,h.1.symm,h.2.symm⟩
theorem x1u:∀(m:Nat) {r t:List UInt8} {u deep:Nat},r.length≤m→nt deep r = .ok t u→u=t.length+1∧t.length<r.length∧r.take t.length=t
 | _,[],t,u,deep,_,h=>by simp [nt] at h
 | 0,c::r,t,u,deep,hm,h=>by simp at hm
 | m+1,c::r,t,u,deep,hm,h=>by
  simp only [List.length_cons] at hm;have one:∀(d':Nat),(nt d' r).push [c] 1 = .ok t u→u=t.length+1∧t.length<(c::r).length∧(c::r).take t.length=t:=by
   intro d' h;obtain ⟨t',u',h1,rfl,rfl⟩:=q0m h;obtain ⟨i1,i2,i3⟩:=x1u m (by omega) h1;exact ⟨by simp;omega,by simpa using i2,by simpa using i3⟩
  by_cases e1:c.toNat=40
  · rw [k9b e1] at h
    split at h
    · cases h
    · exact one _ h
  · by_cases e2:c.toNat=41
    · rw [k8z e2] at h
      split at h
      · cases h;simp
      · exact one _ h
    · by_cases e3:c.toNat=92
      · match r,hm,h with
        | [],hm,h=>rw [x1s e3] at h;cases h
        | d::r',hm,h =>
         simp only [List.length_cons] at hm;rw [x1t e3] at h;cases hd:zf d<;>rw [hd] at h
         · cases h
         · obtain ⟨t',u',h1,rfl,rfl⟩:=q0m h
           obtain ⟨i1,i2,i3⟩:=x1u m (by omega) h1;exact ⟨by simp;omega,by simpa using i2,by simpa using i3⟩
      · rw [k9a e1 e2 e3] at h
        cases hd:zf c<;>rw [hd] at h
        · cases h
        · exact one _ h
theorem b7f (k e:Int) (s:List UInt8) (a bad err:Int):q3s (e,k,s,a,bad,err,())=some ([],s,a,k,e,()):=by
 show qd _ jc _=_;rw [show jc=999999999999999999999+1 from rfl];exact qh rfl
theorem c25 (pre r:List UInt8) (c:UInt8) (p:Nat) (bad err:Int) (hc:c.toNat=40) (hp:pre.length=p) (hb:p+r.length≤140737488355000) :
 z8e (pre++c::r,(p:Int),bad,err,())=some (jv (pre++c::r) p bad err (p+1) (nt 1 r)):=by
 show x3n zv yf q3s q7n (pre++c::r,(p:Int),bad,err,())=_;have hl:=l25 p p bad err r.length r (pre++[c]) 1 (p+1) 999999999999999999999 (Nat.le_refl _) (by omega) (by omega) (by simp [hp]) (by omega) (by omega) (by omega);rw [←shift] at hl;have h0:q7n ((p:Int),0,4,(p:Int),pre++c::r,(p:Int),bad,err,())=some (q7d (pre++c::r) p p bad err (p+1) (nt 1 r)):=by
  rw [←hl];show qd _ (999999999999999999999+1) _=_;refine jf ?_;simp (disch:=(first | omega | (simp only [List.length_append,List.length_cons,List.length_nil];omega))) only [zq,Sk];rfl
 cases hq:nt 1 r with
 | ok t u =>
  rw [hq] at h0;obtain ⟨i1,i2,i3⟩:=x1u _ (Nat.le_refl _) hq;simp (disch:=(first | omega | (simp only [List.length_append,List.length_cons,List.length_nil];omega))) only [x3n,Sk,h0,q7d,jv];rw [shift,j2a (by simp [hp]),i3]
 | bad o e=>rw [hq] at h0;simp (disch:=(first | omega | (simp only [List.length_append,List.length_cons,List.length_nil];omega))) only [x3n,Sk,h0,q7d,jv,b7f]
 | start=>rw [hq] at h0;simp (disch:=(first | omega | (simp only [List.length_append,List.length_cons,List.length_nil];omega))) only [x3n,Sk,h0,q7d,jv,c27]
def g1 (o:Option (Int×Int×Unit)):Int:=match o with | some (n,_,_)=>n | none=>0
def g2 (o:Option (Int×Int×Unit)):Int:=match o with | some (_,v,_)=>v | none=>0
def ok2 (o:Option (Int×Int×Unit)):Bool:=match o with | some _=>true | none=>false
theorem v5o {o:Option (Int×Int×Unit)} (h:ok2 o=true):o=some (g1 o,g2 o,()):=by
 cases o with
 | none=>cases h
 | some x=>rfl
def jz (c:UInt8):Int:=g1 (ka ((c.toNat:Int),()))
def q2h (c:UInt8):Int:=g2 (ka ((c.toNat:Int),()))
theorem b7e:((List.range 256).all fun n=>(fun c:UInt8=>ok2 (ka ((c.toNat:Int),()))) (UInt8.ofNat n))=true:=by kernel_rfl
theorem c19 (c:UInt8):ka ((c.toNat:Int),())=some (jz c,q2h c,()):=v5o (wb (fun c=>ok2 (ka ((c.toNat:Int),()))) b7e c)
def g8j:Int→Bool
 | .ofNat n=>Nat.ble n 3
 | .negSucc n=>Nat.beq n 0
theorem g6s:((List.range 256).all fun n=>(fun c:UInt8=>g8j (jz c)) (UInt8.ofNat n))=true:=by kernel_rfl
theorem v4h (c:UInt8):jz c = -1∨0≤jz c∧jz c≤3:=by
 have h:g8j (jz c)=true:=wb (fun c=>g8j (jz c)) g6s c;generalize jz c=x at h;cases x with
 | ofNat n=>have:=Nat.le_of_ble_eq_true h;right;simp;omega
 | negSucc n=>have:=Nat.eq_of_beq_eq_true h;subst this;left;rfl
def y0t (v:Int):Int:=match yz (v,()) with | some (n,_)=>n | none=>0
theorem c20 (v:Int):yz (v,())=some (y0t v,()):=by
 have h:∃n,yz (v,())=some (n,()):=by
  show ∃n,z8r xb (v,())=some (n,());have h29:∃b,xb (v,())=some (b,()):=by
   simp only [xb,x9s];cases decide (v≥0)<;>cases decide (v≤1114111)<;>cases decide (v≥55296)<;>exact ⟨_,rfl⟩
  obtain ⟨b,hb⟩:=h29;simp only [z8r,hb,Option.bind_some];cases b<;>cases decide (v≤127)<;>cases decide (v≤2047)<;>cases decide (v≤65535)<;>exact ⟨_,rfl⟩
 obtain ⟨n,hn⟩:=h;rw [y0t,hn]
def j3x (c:UInt8):Bool := !(intBits BinOp.andNot IntKind.u8 (c.toNat:Int) 63 != 128)
def v6q (v:Int) (c:UInt8):Int:=intBits BinOp.or IntKind.i32 (IntKind.i32.wrap (v*2^min 6 IntKind.i32.bits)) (IntKind.i32.wrap (intBits BinOp.and IntKind.u8 (c.toNat:Int) 63))
def xg:Nat→List UInt8→Int→Option Int
 | 0,_,v=>some v
 | _+1,[],_=>none
 | n+1,c::r,v=>bif j3x c then xg n r (v6q v c) else none
def ch:List UInt8→Nat
 | []=>0
 | c::r=>if jz c<0 then 0 else if r.length<(jz c).toNat then 0 else
  match xg (jz c).toNat r (q2h c) with
  | none=>0
  | some v=>if y0t v=jz c+1 then (jz c).toNat+1 else 0
theorem v1n:∀s,ch s≤s.length
 | []=>Nat.le_refl _
 | c::r=>by
  simp only [ch,List.length_cons];split
  · omega
  · split
    · omega
    · split
      · omega
      · split<;>omega
def x7b (s:List UInt8) (n a:Int) (out:List Int):Option Int→(List UInt8×Int×Int×Int×List Int×Unit)⊕(Int×List Int×Unit)
 | some v => .inl (s,n,v,a,out,())
 | none => .inr (a,out,())
theorem f6q (a:Nat) (m:Nat) (out:List Int):∀(j:Nat) (r pre:List UInt8) (v:Int) (k n:Nat),pre.length=k→k+j=a+m+1→j≤r.length→j<n→k+r.length≤140737488355320→m≤3 →
 qd (q2v ka yz) n (pre++r,(m:Int),v,(a:Int),(k:Int),out,())=some (x7b (pre++r) m a out (xg j r v))
 | _,_,_,_,_,0,_,_,_,hn,_,_=>by omega
 | 0,r,pre,v,k,n+1,hk,hj,hr,hn,hb,hm=>by
  refine qh ?_;have h:IntKind.i64.wrap ((a:Int)+(m:Int))=(a:Int)+m:=wr (by omega) (by omega);simp (disch:=(first | omega | (simp only [List.length_append,List.length_cons,List.length_nil];omega))) only [q2v,h,Sk,xg,x7b]
 | j+1,[],pre,v,k,n+1,hk,hj,hr,hn,hb,hm=>by simp at hr
 | j+1,c::r,pre,v,k,n+1,hk,hj,hr,hn,hb,hm=>by
  simp only [List.length_cons] at hr hb;have h:IntKind.i64.wrap ((a:Int)+(m:Int))=(a:Int)+m:=wr (by omega) (by omega);cases hc:j3x c with
  | true =>
   have hc':(intBits BinOp.andNot IntKind.u8 (c.toNat:Int) 63 != 128)=false:=by simpa [j3x] using hc
   rw [jf (v':=(pre++c::r,(m:Int),v6q v c,(a:Int),((k+1:Nat):Int),out,())) (by
    simp (disch:=(first | omega | (simp only [List.length_append,List.length_cons,List.length_nil];omega))) only [q2v,h,Sk,hc'];rfl)]
   rw [shift,f6q a m out j r (pre++[c]) (v6q v c) (k+1) n (by simp [hk]) (by omega) (by omega) (by omega) (by omega) hm];simp only [xg,hc,cond_true]
  | false =>
   have hc':(intBits BinOp.andNot IntKind.u8 (c.toNat:Int) 63 != 128)=true:=by simpa [j3x] using hc
   refine qh ?_;simp (disch:=(first | omega | (simp only [List.length_append,List.length_cons,List.length_nil];omega))) only [q2v,h,Sk,hc',xg,hc,x7b]
def ut:Nat→List UInt8→Nat→Option Nat
 | 0,_,_=>none
 | n+1,s,p=>if s=[] then none else if ch s=0 then some p else ut n (s.drop (ch s)) (p+ch s)
def r15 (out:List Int):Option Nat→(List Int×Unit)⊕(Int×List Int×Unit)
 | none => .inl (out,())
 | some b => .inr ((b:Int),out,())
theorem d4p (c:UInt8) (r pre:List UInt8) (out:List Int) (p:Nat) (hp:pre.length=p) (hb:p+r.length≤140737488355000) (ho:out.length≤1000000000) :
 vo ka yz q2r (pre++c::r,(p:Int),out,())=some (if ch (c::r)=0 then .inr (.inr ((p:Int),out,())) else
  .inl (pre++c::r,((p+ch (c::r):Nat):Int),out++[((xg (jz c).toNat r (q2h c)).getD 0)],())):=by
 have hrng:=v4h c;by_cases h1:jz c<0
 · have:ch (c::r)=0:=by simp [ch,h1]
   rw [if_pos this];simp (disch:=(first | omega | (simp only [List.length_append,List.length_cons,List.length_nil];omega))) only [vo,Sk,c19]
 · have hw:IntKind.i64.wrap (((pre.length+(r.length+1):Nat):Int) - (p:Int))=(r.length:Int)+1:=by rw [wr]<;>omega
   obtain ⟨m,hm⟩:∃m:Nat,jz c=m:=⟨(jz c).toNat,by omega⟩
   by_cases h2:r.length<m
   · have:ch (c::r)=0:=by simp [ch,hm,h2]
     rw [if_pos this];simp (disch:=(first | omega | (simp only [List.length_append,List.length_cons,List.length_nil];omega))) only [vo,Sk,c19,hw,hm]
   · have hl:=f6q p m out m r (pre++[c]) (q2h c) (p+1) jc (by simp [hp]) (by omega) (by omega) (by unfold jc;omega) (by omega) (by omega)
     rw [←shift] at hl;have hl':q2r (pre++c::r,(m:Int),q2h c,(p:Int),((p+1:Nat):Int),out,())=_:=hl;cases hc:xg m r (q2h c) with
     | none =>
      have:ch (c::r)=0:=by simp [ch,hm,h2,hc]
      rw [if_pos this];simp (disch:=(first | omega | (simp only [List.length_append,List.length_cons,List.length_nil];omega))) only [vo,Sk,c19,hw,hm,hl',hc,x7b]
     | some v =>
      have hw2:IntKind.i64.wrap ((m:Int)+1)=(m:Int)+1:=wr (by omega) (by omega);by_cases h3:y0t v=m+1
      · have hch:ch (c::r)=m+1:=by simp [ch,hm,h2,hc,h3]
        have hw3:IntKind.i64.wrap ((p:Int)+((m:Int)+1))=((p+(m+1):Nat):Int):=by rw [wr]<;>omega
        rw [if_neg (by omega),hch];simp (disch:=(first | omega | (simp only [List.length_append,List.length_cons,List.length_nil];omega))) only [vo,hw2,hw3,decide_eq_true,decide_eq_false,cond_true,cond_false,Bool.and_self,List.length_append,List.length_cons,List.length_nil,Int.toNat_natCast,inF,gd,Option.bind_some,Sum.elim_inl,wrN,c19,hw,hm,hl',hc,x7b,c20,Option.getD_some]
      · have:ch (c::r)=0:=by simp [ch,hm,h2,hc,h3]
        rw [if_pos this];simp (disch:=(first | omega | (simp only [List.length_append,List.length_cons,List.length_nil];omega))) only [vo,hw2,Sk,c19,hw,hm,hl',hc,x7b,c20]
theorem f6r:∀(m:Nat) (r pre:List UInt8) (out:List Int) (p n:Nat),r.length≤m→pre.length=p→r.length<n→p+r.length≤140737488355000→out.length+r.length≤1000000000 →
 ∃o,qd (vo ka yz q2r) n (pre++r,(p:Int),out,())=some (r15 o (ut n r p))
 | _,_,_,_,_,0,_,_,hn,_,_=>by omega
 | m,[],pre,out,p,n+1,hm,hp,hn,hb,ho=>by
  refine ⟨out,qh ?_⟩;simp (disch:=(first | omega | (simp only [List.length_append,List.length_cons,List.length_nil];omega))) only [vo,Sk,List.append_nil,ut,if_true,r15]
 | 0,c::r,pre,out,p,n+1,hm,hp,hn,hb,ho=>by simp at hm
 | m+1,c::r,pre,out,p,n+1,hm,hp,hn,hb,ho=>by
  simp only [List.length_cons] at hm hn hb ho;have hr:=d4p c r pre out p hp (by omega) (by omega);by_cases h:ch (c::r)=0
  · rw [if_pos h] at hr
    refine ⟨out,?_⟩;rw [qh hr];simp [ut,h,r15]
  · rw [if_neg h] at hr
    have hle:=v1n (c::r);simp only [List.length_cons] at hle;have hsplit:pre++c::r=(pre++(c::r).take (ch (c::r)))++(c::r).drop (ch (c::r)):=by rw [List.append_assoc,List.take_append_drop]
    obtain ⟨o,ho'⟩:=f6r m ((c::r).drop (ch (c::r))) (pre++(c::r).take (ch (c::r))) (out++[((xg (jz c).toNat r (q2h c)).getD 0)]) (p+ch (c::r)) n (by simp;omega) (by simp [hp];omega) (by simp;omega) (by simp;omega) (by simp;omega);refine ⟨o,?_⟩;rw [jf hr];rw [←hsplit] at ho';rw [ho'];simp [ut,h]
def utf (s:List UInt8):Option Nat:=ut jc s 0
theorem c15 (s:List UInt8) (hb:s.length≤1000000):∃o,C83 (s,())=some (o,(match utf s with | none => -1 | some b=>(b:Int)),()):=by
 obtain ⟨o,h⟩:=f6r s.length s [] [] 0 jc (Nat.le_refl _) rfl (by unfold jc;omega) (by omega) (by simp;omega);have h':q6p (s,0,[],())=some (r15 o (utf s)):=h;refine ⟨o,?_⟩;show F83 ka yz q2q q6p (s,())=_;have hg:∀(b:Int) (o:List Int),q2q (b,o,())=some (b,o,()):=by
  intro b o;show qd _ jc _=_;rw [show jc=999999999999999999999+1 from rfl];exact qh rfl
 simp only [F83,h',Option.bind_some];cases utf s<;>simp [r15,hg]
def Tk.up:Tk→Tk
 | .ok t u => .ok t (1+u)
 | .bad off e => .bad (1+off) e
 | .start => .start
def one (c:UInt8) (r:List UInt8):Int×Tk :=
 if jt c=true then (0,.ok ((c::r).take (al (c::r))) (al (c::r)))
 else if q6f c=true then (2,.ok [c] 1)
 else if c.toNat=34 then (1,(qt r).up)
 else if c.toNat=91 then (5,(ltk r).up)
 else if c.toNat=40 then (3,(nt 1 r).up)
 else if wl (c::r)=0 then (4,.start) else (4,.ok ((c::r).take (wl (c::r))) (wl (c::r)))
theorem y3u (s:List UInt8) (p:Nat) (bad err:Int) (k:Tk):jv s p bad err (p+1) k=jv s p bad err p k.up:=by
 cases k<;>simp [jv,Tk.up,Nat.add_assoc]
def q3p (s:List UInt8) (p:Nat) (bad err:Int) (x:Int×Tk):Int×List UInt8×Int×List UInt8×Int×Int×Int×Unit :=
 (x.1,(jv s p bad err p x.2).1,(p:Int),(jv s p bad err p x.2).2)
theorem c16 (pre r:List UInt8) (c:UInt8) (p:Nat) (bad err:Int) (hp:pre.length=p) (hb:p+r.length≤140737488354000) :
 z3e (pre++c::r,(p:Int),bad,err,())=some (q3p (pre++c::r) p bad err (one c r)):=by
 show z0t q2j z8b z8c z8d z8e z8f zv C90 yy (pre++c::r,(p:Int),bad,err,())=_;have h21:=c21 pre (c::r) p bad err hp (by simp;omega);have h26:=c26 pre (c::r) p bad err hp (by simp;omega);have h23:=c23 pre r c p bad err hp (by omega);have h24:=c24 pre r c p bad err hp (by omega);unfold one;by_cases h1:jt c=true
 · rw [if_pos h1]
   simp (disch:=(first | omega | (simp only [List.length_append,List.length_cons,List.length_nil];omega))) only [z0t,yy,kg,Sk,c17,h1,h21,q3p,jv]
 · rw [if_neg h1]
   have h1':jt c=false:=by simpa using h1
   by_cases h2:q6f c=true
   · rw [if_pos h2]
     have h2':x2i c≥0:=by simpa [q6f] using h2
     have ht:List.drop p (List.take (p+1) (pre++c::r))=[c]:=by rw [j2a hp];rfl
     simp (disch:=(first | omega | (simp only [List.length_append,List.length_cons,List.length_nil];omega))) only [z0t,yy,kg,Sk,c17,h1',x6b,ht,q3p,jv]
   · rw [if_neg h2]
     have h2':¬x2i c≥0:=by simpa [q6f] using h2
     by_cases h3:c.toNat=34
     · rw [if_pos h3]
       rw [y3u] at h23;simp (disch:=(first | omega | (simp only [List.length_append,List.length_cons,List.length_nil];omega))) only [z0t,yy,kg,Sk,c17,h1',x6b,h23,q3p]
     · rw [if_neg h3]
       by_cases h4:c.toNat=91
       · rw [if_pos h4]
         rw [y3u] at h24;simp (disch:=(first | omega | (simp only [List.length_append,List.length_cons,List.length_nil];omega))) only [z0t,yy,kg,Sk,c17,h1',x6b,h24,q3p]
       · rw [if_neg h4]
         by_cases h5:c.toNat=40
         · rw [if_pos h5]
           have h25:=c25 pre r c p bad err h5 hp (by omega);rw [y3u] at h25;simp (disch:=(first | omega | (simp only [List.length_append,List.length_cons,List.length_nil];omega))) only [z0t,yy,kg,Sk,c17,h1',x6b,h25,q3p]
         · rw [if_neg h5]
           by_cases h6:wl (c::r)=0
           · rw [if_pos h6]
             rw [h6] at h26;simp (disch:=(first | omega | (simp only [List.length_append,List.length_cons,List.length_nil];omega))) only [z0t,yy,kg,Sk,c17,h1',x6b,h26,q3p,jv,List.take_zero,c27,beq_self_eq_true,Nat.add_zero]
           · rw [if_neg h6]
             obtain ⟨w,hw⟩:∃w,wl (c::r)=w+1:=⟨wl (c::r) - 1,by omega⟩
             have hne:((c::r).take (wl (c::r))==[])=false:=by rw [hw];rfl
             simp (disch:=(first | omega | (simp only [List.length_append,List.length_cons,List.length_nil];omega))) only [z0t,yy,kg,Sk,c17,h1',x6b,h26,q3p,jv,hne]
abbrev Tok:=Int×(List UInt8×Int)
def lx:Nat→List UInt8→Nat→List Tok⊕(Nat×Int)
 | 0,_,_ => .inl []
 | n+1,s,p=>match s with
  | [] => .inl []
  | c::r=>match one c r with
   | (k,.ok t u)=>match lx n ((c::r).drop u) (p+u) with
    | .inl l => .inl ((k,t,(p:Int))::l)
    | .inr e => .inr e
   | (_,.bad off e) => .inr (p+off,e)
   | (_,.start) => .inr (p,4)
theorem j7o:∀(m:Nat) {r t:List UInt8} {u:Nat},r.length≤m→qt r = .ok t u→t.length+1≤u∧u≤r.length
 | _,[],t,u,_,h=>by simp [qt] at h
 | 0,c::r,t,u,hm,h=>by simp at hm
 | m+1,c::r,t,u,hm,h=>by
  simp only [List.length_cons] at hm ⊢;by_cases e1:c.toNat=34
  · rw [k9z e1] at h;cases h;simp
  · by_cases e2:c.toNat=92
    · match r,hm,h with
      | [],hm,h=>rw [v6f e2] at h;cases h
      | d::r',hm,h =>
       rw [x2e e2] at h;cases hd:zf d<;>rw [hd] at h
       · cases h
       · obtain ⟨t',u',h1,rfl,rfl⟩:=q0m h
         have:=j7o m (by simp at hm;omega) h1;simp;omega
    · rw [k9y e1 e2] at h
      cases hd:zf c<;>rw [hd] at h
      · cases h
      · obtain ⟨t',u',h1,rfl,rfl⟩:=q0m h
        have:=j7o m (by omega) h1;simp;omega
theorem z0n {k:Tk} {t:List UInt8} {u:Nat} (h:k.up = .ok t u):∃u',k = .ok t u'∧u=1+u':=by
 cases k<;>simp [Tk.up] at h
 obtain ⟨rfl,rfl⟩:=h;exact ⟨_,rfl,rfl⟩
theorem g2j {c:UInt8} {r:List UInt8} (h:jt c=true):1≤al (c::r):=by simp [al,h]
theorem q0z {c:UInt8} {r t:List UInt8} {k:Int} {u:Nat} (h:one c r=(k,.ok t u)):1≤u∧u≤r.length+1:=by
 unfold one at h;split at h
 · rename_i h1
   cases h;have:=v1a (c::r);exact ⟨g2j h1,by simpa using this⟩
 · split at h
   · cases h;exact ⟨by omega,by omega⟩
   · split at h
     · obtain ⟨u',h1,rfl⟩:=z0n (Prod.mk.inj h).2
       have:=j7o _ (Nat.le_refl _) h1;omega
     · split at h
       · obtain ⟨u',h1,rfl⟩:=z0n (Prod.mk.inj h).2
         have:=z7e h1;omega
       · split at h
         · obtain ⟨u',h1,rfl⟩:=z0n (Prod.mk.inj h).2
           have:=x1u _ (Nat.le_refl _) h1;omega
         · split at h
           · cases h
           · rename_i h6
             cases h;have:=y2e (c::r);exact ⟨by omega,by simpa using this⟩
def z7q (out:List Tok):List Tok⊕(Nat×Int)→(List Tok×Unit)⊕(Int×Int×Unit)
 | .inl l => .inl (out++l,())
 | .inr (b,e) => .inr ((b:Int),e,())
def Tk.eok:Tk→Prop
 | .bad _ e=>e=4∨e=6
 | _=>True
theorem wn {k:Tk} {l:List UInt8} {n:Nat} (h:k.eok):(k.push l n).eok:=by cases k<;>first | exact h | exact trivial
theorem y5i {k:Tk} (h:k.eok):k.up.eok:=by cases k<;>first | exact h | exact trivial
theorem g8i:∀(m:Nat) (r:List UInt8),r.length≤m→(qt r).eok
 | _,[],_=>trivial
 | 0,c::r,hm=>by simp at hm
 | m+1,c::r,hm=>by
  simp only [List.length_cons] at hm;by_cases e1:c.toNat=34
  · rw [k9z e1];trivial
  · by_cases e2:c.toNat=92
    · match r,hm with
      | [],hm=>rw [v6f e2];trivial
      | d::r',hm =>
       rw [x2e e2];cases zf d
       · exact .inl rfl
       · exact wn (g8i m r' (by simp at hm;omega))
    · rw [k9y e1 e2]
      cases zf c
      · exact .inl rfl
      · exact wn (g8i m r (by omega))
theorem w7m:∀r:List UInt8,(ltk r).eok
 | []=>trivial
 | c::r=>by
  unfold ltk;split
  · trivial
  · split
    · exact .inl rfl
    · split
      · exact .inl rfl
      · cases zj c
        · cases zf c
          · exact .inl rfl
          · exact wn (w7m r)
        · exact .inl rfl
theorem v5e:∀(m deep:Nat) (r:List UInt8),r.length≤m→(nt deep r).eok
 | _,_,[],_=>by simp [nt,Tk.eok]
 | 0,_,c::r,hm=>by simp at hm
 | m+1,deep,c::r,hm=>by
  simp only [List.length_cons] at hm;by_cases e1:c.toNat=40
  · rw [k9b e1]
    split
    · exact .inr rfl
    · exact wn (v5e m _ r (by omega))
  · by_cases e2:c.toNat=41
    · rw [k8z e2]
      split
      · trivial
      · exact wn (v5e m _ r (by omega))
    · by_cases e3:c.toNat=92
      · match r,hm with
        | [],hm=>rw [x1s e3];trivial
        | d::r',hm =>
         rw [x1t e3];cases zf d
         · exact .inl rfl
         · exact wn (v5e m _ r' (by simp at hm;omega))
      · rw [k9a e1 e2 e3]
        cases zf c
        · exact .inl rfl
        · exact wn (v5e m _ r (by omega))
theorem b1k (c:UInt8) (r:List UInt8):(one c r).2.eok:=by
 unfold one;split
 · trivial
 · split
   · trivial
   · split
     · exact y5i (g8i _ r (Nat.le_refl _))
     · split
       · exact y5i (w7m r)
       · split
         · exact y5i (v5e _ _ r (Nat.le_refl _))
         · split<;>trivial
theorem l11 (s:List UInt8):∀(m:Nat) (r pre:List UInt8) (out:List Tok) (bad:Int) (p n:Nat),r.length≤m→s=pre++r→pre.length=p→r.length<n→p+r.length≤100000→out.length+r.length≤100000 →
 qd (q2u z3e C83) n (s,out,s,(p:Int),bad,0,())=some (z7q out (lx m r p))
 | _,_,_,_,_,_,0,_,_,_,hn,_,_=>by omega
 | 0,[],pre,out,bad,p,n+1,hm,hs,hp,hn,hb,ho=>by
  refine qh ?_;have:s.length=p:=by rw [hs];simp [hp]
  simp (disch:=(first | omega | (simp only [List.length_append,List.length_cons,List.length_nil];omega))) only [q2u,this,Sk,lx,z7q,List.append_nil]
 | m+1,[],pre,out,bad,p,n+1,hm,hs,hp,hn,hb,ho=>by
  refine qh ?_;have:s.length=p:=by rw [hs];simp [hp]
  simp (disch:=(first | omega | (simp only [List.length_append,List.length_cons,List.length_nil];omega))) only [q2u,this,Sk,lx,z7q,List.append_nil]
 | 0,c::r,pre,out,bad,p,n+1,hm,hs,hp,hn,hb,ho=>by simp at hm
 | m+1,c::r,pre,out,bad,p,n+1,hm,hs,hp,hn,hb,ho=>by
  simp only [List.length_cons] at hm hn hb ho;have h16:=c16 pre r c p bad 0 hp (by omega);have he:=b1k c r;rw [←hs] at h16;have hl:s.length=p+(r.length+1):=by rw [hs];simp [hp]
  cases h1:one c r with
  | mk k tk =>
   rw [h1] at h16 he;cases tk with
   | ok t u =>
    have hu:=q0z h1;rw [jf (v':=(s,out++[(k,t,(p:Int))],s,((p+u:Nat):Int),bad,0,())) (by
     simp (disch:=(first | omega | (simp only [List.length_append,List.length_cons,List.length_nil];omega))) only [q2u,hl,Sk,h16,q3p,jv])]
    have:=l11 s m ((c::r).drop u) (pre++(c::r).take u) (out++[(k,t,(p:Int))]) bad (p+u) n (by simp;omega) (by rw [hs,List.append_assoc,List.take_append_drop]) (by simp [hp];omega) (by simp;omega) (by simp;omega) (by simp;omega);rw [this];simp only [lx,h1];cases lx m ((c::r).drop u) (p+u) with
    | inl l=>simp [z7q]
    | inr e=>rfl
   | bad off e =>
    have he':e=4∨e=6:=he;refine qh ?_;simp (disch:=(first | omega | (simp only [List.length_append,List.length_cons,List.length_nil];omega))) only [q2u,hl,Sk,h16,q3p,jv,lx,h1,z7q]
   | start =>
    refine qh ?_;simp (disch:=(first | omega | (simp only [List.length_append,List.length_cons,List.length_nil];omega))) only [q2u,hl,Sk,h16,q3p,jv,lx,h1,z7q]
theorem x1e:∀(n m:Nat) (s:List UInt8) (p:Nat),s.length≤n→s.length≤m→lx n s p=lx m s p
 | 0,0,_,_,_,_=>rfl
 | 0,m+1,[],p,_,_=>rfl
 | n+1,0,[],p,_,_=>rfl
 | n+1,m+1,[],p,_,_=>rfl
 | 0,_,c::r,p,h,_=>by simp at h
 | n+1,0,c::r,p,_,h=>by simp at h
 | n+1,m+1,c::r,p,h,h'=>by
  simp only [List.length_cons] at h h';simp only [lx];cases h1:one c r with
  | mk k tk =>
   cases tk with
   | ok t u =>
    have hu:=q0z h1;simp only;rw [x1e n m ((c::r).drop u) (p+u) (by simp;omega) (by simp;omega)]
   | bad off e=>rfl
   | start=>rfl
def ym (s:List UInt8) (p:Nat):List Tok⊕(Nat×Int):=lx s.length s p
theorem j9v (p:Nat):ym [] p = .inl []:=rfl
theorem j3j (c:UInt8) (r:List UInt8) (p:Nat):ym (c::r) p=match one c r with
 | (k,.ok t u)=>(match ym ((c::r).drop u) (p+u) with
  | .inl l => .inl ((k,t,(p:Int))::l)
  | .inr e => .inr e)
 | (_,.bad off e) => .inr (p+off,e)
 | (_,.start) => .inr (p,4):=by
 unfold ym;simp only [List.length_cons,lx];cases h1:one c r with
 | mk k tk =>
  cases tk with
  | ok t u =>
   have hu:=q0z h1;simp only;rw [x1e r.length ((c::r).drop u).length ((c::r).drop u) (p+u) (by simp;omega) (Nat.le_refl _)]
  | bad off e=>rfl
  | start=>rfl
def z9z (x:Tok):List Tok⊕(Nat×Int)→List Tok⊕(Nat×Int)
 | .inl l => .inl (x::l)
 | .inr e => .inr e
theorem km {c:UInt8} {r t:List UInt8} {k:Int} {u:Nat} (h:one c r=(k,.ok t u)) (p:Nat):ym (c::r) p=z9z (k,t,(p:Int)) (ym ((c::r).drop u) (p+u)):=by
 rw [j3j,h];rfl
theorem v4j {c:UInt8} {r:List UInt8} {k e:Int} {off:Nat} (h:one c r=(k,.bad off e)) (p:Nat):ym (c::r) p = .inr (p+off,e):=by
 rw [j3j,h]
theorem y4q {c:UInt8} {r:List UInt8} {k:Int} (h:one c r=(k,.start)) (p:Nat):ym (c::r) p = .inr (p,4):=by
 rw [j3j,h]
def g4p:List Tok⊕(Nat×Int)→List Tok×Int×Int
 | .inl l=>(l,0,0)
 | .inr x=>([],(x.1:Int),x.2)
def k3m:Option Nat→List Tok⊕(Nat×Int)→List Tok×Int×Int
 | some b,_=>([],(b:Int),7)
 | none,x=>g4p x
def q3k (s:List UInt8):List Tok×Int×Int:=if 2000<s.length then ([],0,5) else k3m (utf s) (ym s 0)
theorem c11 (s:List UInt8):C67 (s,())=some ((q3k s).1,(q3k s).2.1,(q3k s).2.2,()):=by
 show F67 z3e C83 j8f (s,())=_;unfold q3k;by_cases h:2000<s.length
 · simp only [if_pos h]
   simp (disch:=(first | omega | (simp only [List.length_append,List.length_cons,List.length_nil];omega))) only [F67,Sk]
 · simp only [if_neg h]
   obtain ⟨o,h15⟩:=c15 s (by omega);cases hu:utf s with
   | some b =>
    rw [hu] at h15;simp only at h15;simp (disch:=(first | omega | (simp only [List.length_append,List.length_cons,List.length_nil];omega))) only [F67,Sk,h15,k3m]
   | none =>
    rw [hu] at h15;have hl:=l11 s s.length s [] [] 0 0 jc (Nat.le_refl _) (by simp) rfl (by unfold jc;omega) (by omega) (by simp;omega);have hl':j8f (s,[],s,0,0,0,())=some (z7q [] (ym s 0)):=hl;simp (disch:=(first | omega | (simp only [List.length_append,List.length_cons,List.length_nil];omega))) only [F67,Sk,h15,hl'];cases ym s 0 with
    | inl l=>simp [z7q,k3m,g4p]
    | inr x=>obtain ⟨b,e⟩:=x;simp [z7q,k3m,g4p]
theorem x1d:∀{r t:List UInt8} {u:Nat},ltk r = .ok t u→u=t.length+1∧∃x,r=t++93::x
 | [],t,u,h=>by simp [ltk] at h
 | c::r,t,u,h=>by
  unfold ltk at h;split at h
  · rename_i hc
    cases h;exact ⟨rfl,r,by rw [y2c hc];rfl⟩
  · split at h
    · cases h
    · split at h
      · cases h
      · cases h1:zj c<;>cases h2:zf c<;>rw [h1,h2] at h<;>simp only [cond_true,cond_false] at h<;>try (cases h;done)
        obtain ⟨t',u',h3,rfl,rfl⟩:=q0m h;obtain ⟨i1,x,i2⟩:=x1d h3;exact ⟨by simp;omega,x,by rw [i2];simp⟩
theorem y4s:∀(m:Nat) {r t:List UInt8} {u deep:Nat},r.length≤m→nt deep r = .ok t u→u=t.length+1∧∃x,r=t++41::x
 | _,[],t,u,deep,_,h=>by simp [nt] at h
 | 0,c::r,t,u,deep,hm,h=>by simp at hm
 | m+1,c::r,t,u,deep,hm,h=>by
  simp only [List.length_cons] at hm;have one:∀(d':Nat),(nt d' r).push [c] 1 = .ok t u→u=t.length+1∧∃x,c::r=t++41::x:=by
   intro d' h;obtain ⟨t',u',h1,rfl,rfl⟩:=q0m h;obtain ⟨i1,x,i2⟩:=y4s m (by omega) h1;exact ⟨by simp;omega,x,by rw [i2];simp⟩
  by_cases e1:c.toNat=40
  · rw [k9b e1] at h
    split at h
    · cases h
    · exact one _ h
  · by_cases e2:c.toNat=41
    · rw [k8z e2] at h
      split at h
      · cases h;exact ⟨rfl,r,by rw [y2c e2];rfl⟩
      · exact one _ h
    · by_cases e3:c.toNat=92
      · match r,hm,h with
        | [],hm,h=>rw [x1s e3] at h;cases h
        | d::r',hm,h =>
         simp only [List.length_cons] at hm;rw [x1t e3] at h;cases hd:zf d<;>rw [hd] at h
         · cases h
         · obtain ⟨t',u',h1,rfl,rfl⟩:=q0m h
           obtain ⟨i1,x,i2⟩:=y4s m (by omega) h1;exact ⟨by simp;omega,x,by rw [i2];simp⟩
      · rw [k9a e1 e2 e3] at h
        cases hd:zf c<;>rw [hd] at h
        · cases h
        · exact one _ h
theorem x2a {c:UInt8} {r t:List UInt8} {k:Int} {u:Nat} (h:one c r=(k,.ok t u)):(k≠1→src k t=(c::r).take u)∧(k=1→c=34∧t.length+2≤u):=by
 unfold one at h;split at h
 · cases h;exact ⟨fun _=>by simp [src],fun h=>by cases h⟩
 · split at h
   · cases h;exact ⟨fun _=>by simp [src],fun h=>by cases h⟩
   · split at h
     · rename_i hc
       obtain ⟨u',h1,rfl⟩:=z0n (Prod.mk.inj h).2;have hk:=(Prod.mk.inj h).1;have:=j7o _ (Nat.le_refl _) h1;exact ⟨fun hk'=>absurd hk.symm hk',fun _=>⟨y2c hc,by omega⟩⟩
     · split at h
       · rename_i hc
         obtain ⟨u',h1,rfl⟩:=z0n (Prod.mk.inj h).2;obtain ⟨i1,x,i2⟩:=x1d h1;have hk:=(Prod.mk.inj h).1;subst hk;refine ⟨fun _ => ?_,fun h=>by cases h⟩;rw [i2,i1,y2c hc];simp [src,Nat.add_comm 1,List.take_append,List.take_of_length_le]
       · split at h
         · rename_i hc
           obtain ⟨u',h1,rfl⟩:=z0n (Prod.mk.inj h).2;obtain ⟨i1,x,i2⟩:=y4s _ (Nat.le_refl _) h1;have hk:=(Prod.mk.inj h).1;subst hk;refine ⟨fun _ => ?_,fun h=>by cases h⟩;rw [i2,i1,y2c hc];simp [src,Nat.add_comm 1,List.take_append,List.take_of_length_le]
         · split at h
           · cases h
           · cases h;exact ⟨fun _=>by simp [src],fun h=>by cases h⟩
theorem j1m {c:UInt8} {r t:List UInt8} {k:Int} {u:Nat} (h:one c r=(k,.ok t u)):t.length≤u:=by
 obtain ⟨h1,h2⟩:=x2a h;have hu:=q0z h;by_cases hk:k=1
 · have:=(h2 hk).2;omega
 · have:=h1 hk
   have hl:t.length≤(src k t).length:=by
    unfold src;split
    · rename_i h;exact absurd h hk
    · split
      · simp;omega
      · split
        · simp;omega
        · omega
   rw [this] at hl;simp only [List.length_take,List.length_cons] at hl;omega
theorem x6f {x:Tok} {y:List Tok⊕(Nat×Int)} {l:List Tok} (h:z9z x y = .inl l):∃l',y = .inl l'∧l=x::l':=by cases y<;>simp [z9z] at h;exact ⟨_,rfl,h.symm⟩
theorem j9u {c:UInt8} {r:List UInt8} {p:Nat} {l:List Tok} (h:ym (c::r) p = .inl l):∃k t u l',one c r=(k,.ok t u)∧ym ((c::r).drop u) (p+u) = .inl l'∧l=(k,t,(p:Int))::l':=by
 cases h1:one c r with
 | mk k tk =>
  cases tk with
  | ok t u =>
   rw [km h1] at h;obtain ⟨l',h2,h3⟩:=x6f h;exact ⟨k,t,u,l',rfl,h2,h3⟩
  | bad off e=>rw [v4j h1] at h;cases h
  | start=>rw [y4q h1] at h;cases h
def j1g (c:UInt8):Bool:=decide (c.toNat=9)||(decide (32≤c.toNat) && !decide (c.toNat=127))
theorem g5b:((List.range 256).all fun n=>(fun c:UInt8=>(j1g c&&zf c)||(!j1g c && !zf c)) (UInt8.ofNat n))=true:=by kernel_rfl
theorem j9p (c:UInt8):j1g c=zf c:=by
 have h:=wb (fun c:UInt8=>(j1g c&&zf c)||(!j1g c && !zf c)) g5b c;cases h1:j1g c<;>cases h2:zf c<;>simp_all
theorem f6t {c:UInt8} (h:c.toNat=34∨c.toNat=92):zf c=true:=by
 rw [←j9p];unfold j1g;rcases h with h | h<;>rw [h]<;>rfl
theorem v6g:∀(s x:List UInt8),(s.all zf=true→qt (esc s++34::x) = .ok s ((esc s).length+1))∧(s.all zf=false→∃off,qt (esc s++34::x) = .bad off 4)
 | [],x=>⟨fun _=>by rw [show esc []=[] from rfl,List.nil_append,k9z rfl];rfl,fun h=>by simp at h⟩
 | c::s,x=>by
  obtain ⟨i1,i2⟩:=v6g s x;have he:esc (c::s)++34::x=q0d c++(esc s++34::x):=by simp [esc]
  have hl:(esc (c::s)).length=(q0d c).length+(esc s).length:=by simp [esc]
  rw [he,hl];by_cases e1:c.toNat=34∨c.toNat=92
  · have hm:=f6t e1
    have h1:q0d c=[92,c]:=by simp [q0d,e1]
    rw [h1,List.cons_append,List.cons_append,List.nil_append,x2e rfl,hm,cond_true];refine ⟨fun h => ?_,fun h => ?_⟩
    · rw [i1 (by simpa [hm] using h)];simp [Tk.push];omega
    · obtain ⟨off,ho⟩:=i2 (by simpa [hm] using h)
      rw [ho];exact ⟨_,rfl⟩
  · have h1:q0d c=[c]:=by simp [q0d,e1]
    have e2:¬c.toNat=34:=fun h=>e1 (.inl h);have e3:¬c.toNat=92:=fun h=>e1 (.inr h);rw [h1,List.cons_append,List.nil_append,k9y e2 e3];cases hm:zf c with
    | true =>
     rw [cond_true];refine ⟨fun h => ?_,fun h => ?_⟩
     · rw [i1 (by simpa [hm] using h)];simp [Tk.push];omega
     · obtain ⟨off,ho⟩:=i2 (by simpa [hm] using h)
       rw [ho];exact ⟨_,rfl⟩
    | false=>exact ⟨fun h=>by simp [hm] at h,fun _=>⟨0,rfl⟩⟩
theorem z9o:(jt 34||q6f 34)=false:=by kernel_rfl
theorem b1l (r:List UInt8):one 34 r=(1,(qt r).up):=by
 have h:=z9o;simp only [Bool.or_eq_false_iff] at h;unfold one;rw [if_neg (by rw [h.1];decide),if_neg (by rw [h.2];decide),if_pos (show UInt8.toNat 34=34 from rfl)]
def j9g (c:UInt8):Bool:=decide (c.toNat<128)
theorem f4v:((List.range 256).all fun n=>(fun c:UInt8 => !j9g c||(decide (jz c=0)&&decide (y0t (q2h c)=1))) (UInt8.ofNat n))=true:=by kernel_rfl
theorem z6r {c:UInt8} (h:c.toNat<128) (r:List UInt8):ch (c::r)=1:=by
 have h1:(!j9g c||(decide (jz c=0)&&decide (y0t (q2h c)=1)))=true:=wb (fun c:UInt8 => !j9g c||(decide (jz c=0)&&decide (y0t (q2h c)=1))) f4v c;have h2:j9g c=true:=by simp [j9g,h]
 simp only [h2,Bool.not_true,Bool.false_or,Bool.and_eq_true,decide_eq_true_eq] at h1;simp [ch,h1.1,xg,h1.2]
def y5g (l:List Tok):List UInt8:=l.flatMap fun x=>src x.1 x.2.1
def stops (p:UInt8→Bool):List UInt8→Prop
 | []=>True
 | b::_=>p b=false
theorem v0z {X:List UInt8} (hX:stops jt X):∀y:List UInt8,y.all jt=true→al (y++X)=y.length
 | [],_=>by
  cases X with
  | nil=>rfl
  | cons b X=>have:jt b=false:=hX;simp [al,this]
 | c::y,h=>by
  simp only [List.all_cons,Bool.and_eq_true] at h;simp only [List.cons_append,al,h.1,cond_true,List.length_cons,v0z hX y h.2]
theorem v4m (X:List UInt8):∀{r t:List UInt8} {u:Nat},ltk r = .ok t u→ltk (t++93::X) = .ok t u
 | [],t,u,h=>by simp [ltk] at h
 | c::r,t,u,h=>by
  unfold ltk at h;split at h
  · cases h;simp [ltk]
  · rename_i e1
    split at h
    · cases h
    · rename_i e2
      split at h
      · cases h
      · rename_i e3
        cases h1:zj c<;>cases h2:zf c<;>rw [h1,h2] at h<;>simp only [cond_true,cond_false] at h<;>try (cases h;done)
        obtain ⟨t',u',h3,rfl,rfl⟩:=q0m h;have:=v4m X h3;simp only [List.cons_append,List.nil_append,ltk,if_neg e1,if_neg e2,if_neg e3,h1,h2,cond_true,cond_false,this,Tk.push]
theorem z0l:∀(m:Nat) (s:List UInt8) (p:Nat) (l:List Tok),s.length≤m→ym s p = .inl l→(y5g l).length≤2*s.length∧(∀x∈l,x.2.1.length≤s.length)∧((∀x∈l,x.1≠1)→y5g l=s)
 | _,[],p,l,_,h=>by rw [j9v] at h;cases h;simp [y5g]
 | 0,c::r,p,l,hm,h=>by simp at hm
 | m+1,c::r,p,l,hm,h=>by
  obtain ⟨k,t,u,l',h1,h2,rfl⟩:=j9u h;have hu:=q0z h1;obtain ⟨i1,i2,i3⟩:=z0l m ((c::r).drop u) (p+u) l' (by simp at hm ⊢;omega) h2;obtain ⟨f1,f2⟩:=x2a h1;have ht:=j1m h1;have hs:y5g ((k,t,(p:Int))::l')=src k t++y5g l':=rfl;simp only [List.length_drop,List.length_cons] at i1 i2 ⊢;refine ⟨?_,fun x hx => ?_,fun hq => ?_⟩
  · rw [hs,List.length_append]
    by_cases hk:k=1
    · have:=(f2 hk).2
      have he:=j1f t;have:(src k t).length=(esc t).length+2:=by simp [src,hk]
      omega
    · rw [f1 hk,List.length_take,List.length_cons];omega
  · rcases List.mem_cons.1 hx with rfl | hx
    · simp only;omega
    · have:=i2 x hx;omega
  · rw [hs,f1 (hq (k,t,(p:Int)) (by simp)),i3 fun x hx=>hq x (by simp [hx]),List.take_append_drop]
inductive Val:List UInt8→Prop
 | nil:Val []
 | cons (s:List UInt8) (h:ch s≠0) (h2:Val (s.drop (ch s))):Val s
theorem v6x:∀(n:Nat) (s:List UInt8) (p:Nat),s.length<n→ut n s p=none→Val s
 | 0,_,_,h,_=>by omega
 | n+1,s,p,h,hu=>by
  unfold ut at hu;split at hu
  · rename_i hs;subst hs;exact .nil
  · split at hu
    · cases hu
    · rename_i hs h0
      have:=v1n s;exact .cons s h0 (v6x n _ _ (by simp;omega) hu)
theorem g8n {s:List UInt8} (h:Val s):∀(n p:Nat),ut n s p=none:=by
 induction h with
 | nil=>intro n p;cases n<;>simp [ut]
 | cons s h h2 ih =>
  intro n p;cases n with
  | zero=>rfl
  | succ n =>
   unfold ut;split
   · rfl
   · first | exact ih n _ | (rw [if_neg h];exact ih n _)
theorem j7p {s:List UInt8} (hl:s.length≤1000000):utf s=none↔Val s :=
 ⟨fun h=>v6x _ _ _ (by unfold jc;omega) h,fun h=>g8n h _ _⟩
def v1s (c:UInt8):Bool := !j3x c||decide (128≤c.toNat)
theorem g2t:((List.range 256).all fun n=>v1s (UInt8.ofNat n))=true:=by kernel_rfl
theorem k3c {c:UInt8} (h:j3x c=true):128≤c.toNat:=by
 have:=wb v1s g2t c;simpa [v1s,h] using this
theorem y0a:∀(n:Nat) (r:List UInt8) (v v':Int),xg n r v=some v'→n≤r.length∧∀c∈r.take n,128≤c.toNat
 | 0,r,v,v',_=>⟨by omega,by simp⟩
 | n+1,[],v,v',h=>by simp [xg] at h
 | n+1,c::r,v,v',h=>by
  cases hc:j3x c with
  | true =>
   simp only [xg,hc,cond_true] at h;obtain ⟨h1,h2⟩:=y0a n r _ _ h;refine ⟨by simp;omega,fun x hx => ?_⟩;rw [List.take_succ_cons] at hx;rcases List.mem_cons.1 hx with rfl | hx
   · exact k3c hc
   · exact h2 x hx
  | false=>simp [xg,hc] at h
theorem j3e:∀(n:Nat) (r x:List UInt8) (v:Int),n≤r.length→xg n (r++x) v=xg n r v
 | 0,r,x,v,_=>by cases r<;>rfl
 | n+1,[],x,v,h=>by simp at h
 | n+1,c::r,x,v,h=>by
  simp only [List.cons_append,xg];cases j3x c
  · rfl
  · exact j3e n r x _ (by simpa using h)
theorem z6s {c:UInt8} {r:List UInt8} (h:ch (c::r)≠0):∃v,¬jz c<0∧¬r.length<(jz c).toNat∧xg (jz c).toNat r (q2h c)=some v∧y0t v=jz c+1∧ch (c::r)=(jz c).toNat+1:=by
 simp only [ch] at h;split at h
 · exact absurd rfl h
 · rename_i h1
   split at h
   · exact absurd rfl h
   · rename_i h2
     split at h
     · exact absurd rfl h
     · rename_i v hv
       split at h
       · rename_i h3
         exact ⟨v,h1,h2,hv,h3,by simp [ch,h1,h2,hv,h3]⟩
       · exact absurd rfl h
theorem v1m {s x:List UInt8} (h:ch s≠0):ch (s++x)=ch s:=by
 cases s with
 | nil=>exact absurd rfl h
 | cons c r =>
  obtain ⟨v,h1,h2,h3,h4,h5⟩:=z6s h;have:xg (jz c).toNat (r++x) (q2h c)=some v:=by rw [j3e _ _ _ _ (by omega),h3]
  rw [h5,List.cons_append];simp only [ch,if_neg h1,if_neg (show ¬(r++x).length<(jz c).toNat by simp;omega),this,if_pos h4]
theorem v1o {s x:List UInt8} (h:ch (s++x)≠0) (hl:ch (s++x)≤s.length):ch s=ch (s++x):=by
 cases s with
 | nil=>simp at hl;exact absurd hl h
 | cons c r =>
  obtain ⟨v,h1,h2,h3,h4,h5⟩:=z6s (r:=r++x) h;have h5':ch (c::r++x)=(jz c).toNat+1:=h5;rw [h5'] at hl ⊢;simp only [List.length_cons] at hl;rw [j3e _ _ _ _ (by omega)] at h3;simp only [ch,if_neg h1,if_neg (show ¬r.length<(jz c).toNat by omega),h3,if_pos h4]
theorem Val.app {a b:List UInt8} (ha:Val a) (hb:Val b):Val (a++b):=by
 induction ha with
 | nil=>exact hb
 | cons s h h2 ih =>
  have:=v1n s;refine .cons _ (by rw [v1m h];exact h) ?_;rw [v1m h,List.drop_append,show ch s - s.length=0 by omega,List.drop_zero];exact ih
theorem Val.one {c:UInt8} (h:c.toNat<128):Val [c] := .cons _ (by rw [z6r h];simp) (by rw [z6r h];exact .nil)
theorem Val.split:∀(m:Nat) (a:List UInt8) (c:UInt8) (b:List UInt8),a.length≤m→c.toNat<128→Val (a++c::b)→Val a∧Val b
 | m,[],c,b,_,hc,h=>by
  refine ⟨.nil,?_⟩;cases h with
  | cons _ h h2=>simpa [z6r hc] using h2
 | 0,d::a,c,b,hm,hc,h=>by simp at hm
 | m+1,d::a,c,b,hm,hc,h=>by
  cases h with
  | cons _ h0 h2 =>
   have hk:ch (d::a++c::b)≤(d::a).length:=by
    by_cases hd:d.toNat<128
    · have:ch (d::a++c::b)=1:=z6r hd _
      rw [this];simp
    · obtain ⟨v,g1,g2,g3,g4,g5⟩:=z6s (r:=a++c::b) h0
      have g5':ch (d::a++c::b)=(jz d).toNat+1:=g5;rw [g5',List.length_cons];obtain ⟨e1,e2⟩:=y0a _ _ _ _ g3;rcases Nat.lt_or_ge a.length (jz d).toNat with hlt | hge
      · exfalso
        have:c∈(a++c::b).take (jz d).toNat:=by
         rw [List.take_append];obtain ⟨j,hj⟩:∃j,(jz d).toNat - a.length=j+1:=⟨(jz d).toNat - a.length - 1,by omega⟩
         rw [hj,List.take_succ_cons];simp
        have:=e2 c this;omega
      · omega
   have hsame:=v1o (s:=d::a) (x:=c::b) h0 hk;have h0':ch (d::a)≠0:=by rw [hsame];exact h0
   rw [List.drop_append,show ch (d::a++c::b) - (d::a).length=0 by omega,List.drop_zero,←hsame] at h2;obtain ⟨i1,i2⟩:=Val.split m ((d::a).drop (ch (d::a))) c b (by simp at hm ⊢;omega) hc h2;exact ⟨.cons _ h0' i1,i2⟩
theorem Val.cut {a b:List UInt8} {c:UInt8} (hc:c.toNat<128) (h:Val (a++c::b)):Val a∧Val b:=Val.split _ a c b (Nat.le_refl _) hc h
theorem Val.glue {a b:List UInt8} {c:UInt8} (hc:c.toNat<128) (ha:Val a) (hb:Val b):Val (a++c::b):=ha.app ((Val.one hc).app hb)
theorem x2m:∀(t a:List UInt8),Val (a++t)→Val (a++esc t)
 | [],a,h=>h
 | c::t,a,h=>by
  have he:a++esc (c::t)=(a++q0d c)++esc t:=by simp [esc]
  rw [he];refine x2m t _ ?_;by_cases e1:c.toNat=34∨c.toNat=92
  · have hc:c.toNat<128:=by omega
    obtain ⟨i1,i2⟩:=Val.cut hc h;have h1:q0d c=[92,c]:=by simp [q0d,e1]
    rw [h1,show a++[92,c]++t=a++92::([]++c::t) by simp];exact Val.glue (by decide) i1 (Val.glue hc .nil i2)
  · have h1:q0d c=[c]:=by simp [q0d,e1]
    rw [h1];simpa using h
def kd (d:Nat) (l:List Tok):Int:=match l[d]? with | some t=>t.1 | none => -1
theorem gdk {pre l:List Tok} {p d:Nat} (hp:pre.length=p) {x:Tok}:(pre++l).getD (p+d) x=l.getD d x:=by
 subst hp;simp [List.getD_eq_getElem?_getD,List.getElem?_append_right]
theorem y3n (d:Nat) (pre l:List Tok) (p:Nat) (a b:List UInt8) (hp:pre.length=p) (hb:p+d+l.length≤1000000000) :
 yl ((d:Int),pre++l,(p:Int),a,b,())=some (kd d l,pre++l,(p:Int),a,b,()):=by
 show v7x q7o _=_;have hw:IntKind.i64.wrap ((p:Int)+(d:Int))=((p+d:Nat):Int):=by rw [wr (by omega) (by omega)];simp
 have hlen:(pre++l).length=p+l.length:=by simp [hp]
 simp only [v7x,hw,hlen];by_cases h:l.length≤d
 · rw [decide_eq_true (by omega)]
   simp only [cond_true,kd,List.getElem?_eq_none h]
 · rw [decide_eq_false (by omega)]
   simp only [cond_false,q7o,z4r,hw,hlen];rw [decide_eq_true (by omega),decide_eq_true (by omega)];simp only [Bool.and_self,cond_true,Int.toNat_natCast,Option.bind_some];rw [gdk hp];simp only [kd,List.getElem?_eq_getElem (show d<l.length by omega),getD_lt (show d<l.length by omega)]
def skn:List Tok→Nat
 | []=>0
 | t::r=>bif t.1==4||t.1==3 then skn r+1 else 0
theorem z7s:∀l,skn l≤l.length
 | []=>Nat.le_refl _
 | t::r=>by have:=z7s r;simp only [skn];cases (t.1==4||t.1==3)<;>simp;omega
theorem q3h (t:Tok) (r:List Tok):kd 0 (t::r)=t.1:=rfl
theorem g6r (a b:List UInt8):∀(l pre:List Tok) (p n:Nat),pre.length=p→l.length<n→p+l.length≤100000000 →
 qd (q1m yl) n (pre++l,(p:Int),a,b,())=some (pre++l,((p+skn l:Nat):Int),a,b,())
 | [],pre,p,n+1,hp,hn,hb=>by
  have h:=y3n 0 pre [] p a b hp (by simp at hb ⊢;omega);refine qh ?_;simp only [q1m,Int.natCast_zero] at h ⊢;simp only [h,Option.bind_some,show kd 0 ([]:List Tok) = -1 from rfl,ibF (show (-1:Int)≠4 by decide),ibF (show (-1:Int)≠3 by decide),cond_false,skn,Nat.add_zero]
 | t::l,pre,p,n+1,hp,hn,hb=>by
  simp only [List.length_cons] at hn hb;have h:=y3n 0 pre (t::l) p a b hp (by simp only [List.length_cons];omega);simp only [Int.natCast_zero,q3h] at h;have hw:=wrN p (by omega);by_cases h4:t.1=4
  · rw [jf (v':=(pre++t::l,((p+1:Nat):Int),a,b,())) (by simp only [q1m,h,Option.bind_some,ibT h4,cond_true,hw])]
    rw [shift,g6r a b l (pre++[t]) (p+1) n (by simp [hp]) (by omega) (by omega)];simp only [skn,ibT h4,Bool.true_or,cond_true,Nat.add_assoc,Nat.add_comm 1]
  · by_cases h3:t.1=3
    · rw [jf (v':=(pre++t::l,((p+1:Nat):Int),a,b,())) (by simp only [q1m,h,Option.bind_some,ibF h4,ibT h3,cond_true,cond_false,hw])]
      rw [shift,g6r a b l (pre++[t]) (p+1) n (by simp [hp]) (by omega) (by omega)];simp only [skn,ibT h3,Bool.or_true,cond_true,Nat.add_assoc,Nat.add_comm 1]
    · refine qh ?_
      simp only [q1m,h,Option.bind_some,ibF h4,ibF h3,cond_false,skn,Bool.or_self,Nat.add_zero]
theorem b7a (pre l:List Tok) (p:Nat) (a b:List UInt8) (hp:pre.length=p) (hb:p+l.length≤100000000) :
 x2p (pre++l,(p:Int),a,b,())=some (true,pre++l,((p+skn l:Nat):Int),a,b,()):=by
 show v7m yl q7g _=_;have hl:q7g (pre++l,(p:Int),a,b,())=_:=g6r a b l pre p jc hp (by unfold jc;omega) hb;simp only [v7m,hl,Option.bind_some]
def sgn (s:List UInt8):List Tok→Bool
 | t::_=>t.1==2&&t.2.1==s
 | []=>false
theorem f4y (s:List UInt8) (pre l:List Tok) (p:Nat) (a b:List UInt8) (hp:pre.length=p) (hb:p+l.length≤100000000) :
 q7r (s,pre++l,(p:Int),a,b,())=some (sgn s l,pre++l,(p:Int),a,b,()):=by
 show x9q yl _=_;have h:=y3n 0 pre l p a b hp (by omega);simp only [Int.natCast_zero] at h;have hlen:(pre++l).length=p+l.length:=by simp [hp]
 cases l with
 | nil=>simp only [x9q,h,Option.bind_some,show kd 0 ([]:List Tok) = -1 from rfl,ibF (show (-1:Int)≠2 by decide),cond_false,sgn]
 | cons t r =>
  simp only [List.length_cons] at hlen hb;simp only [x9q,h,Option.bind_some,q3h];by_cases h2:t.1=2
  · simp only [ibT h2,cond_true,hlen,sgn,Bool.true_and]
    rw [decide_eq_true (by omega),decide_eq_true (by omega)];simp only [Bool.and_self,cond_true,Int.toNat_natCast,gd hp]
  · simp only [ibF h2,cond_false,sgn,Bool.false_and]
def szT:List Tok→Nat
 | []=>0
 | t::r=>t.2.1.length+szT r
def dwn (acc:List UInt8):List Tok→List UInt8×Nat
 | t::u::r=>bif (t.1==2&&t.2.1==[46])&&u.1==0 then ((dwn (acc++([46]++u.2.1)) r).1,(dwn (acc++([46]++u.2.1)) r).2+2) else (acc,0)
 | _=>(acc,0)
theorem f6p (a b:List UInt8):∀(m:Nat) (l pre:List Tok) (acc:List UInt8) (p n:Nat),l.length≤m→pre.length=p→l.length<n→p+l.length≤100000000→acc.length+szT l+l.length≤100000000 →
 qd (q0e yl q7r) n (acc,pre++l,(p:Int),a,b,())=some ((dwn acc l).1,pre++l,((p+(dwn acc l).2:Nat):Int),a,b,())
 | m,l,pre,acc,p,n+1,hm,hp,hn,hb,hz=>by
  have h:=f4y [46] pre l p a b hp hb;have hlen:(pre++l).length=p+l.length:=by simp [hp]
  have hw:=wrN p (by omega);have h1:=y3n 1 pre l p a b hp (by omega);simp only [Int.natCast_one] at h1
  match l,hm,hn,hb,hz,h,hlen,h1 with
  | [],hm,hn,hb,hz,h,hlen,h1 =>
   refine qh ?_;simp only [q0e,h,Option.bind_some,sgn,cond_false,dwn,Nat.add_zero]
  | [t],hm,hn,hb,hz,h,hlen,h1 =>
   refine qh ?_;simp only [q0e,h,Option.bind_some,sgn];cases hs:(t.1==2&&t.2.1==[46]) with
   | false=>simp only [cond_false,dwn,Nat.add_zero]
   | true=>simp only [cond_true,h1,Option.bind_some,show kd 1 [t] = -1 from rfl,ibF (show (-1:Int)≠0 by decide),cond_false,dwn,Nat.add_zero]
  | t::u::r,hm,hn,hb,hz,h,hlen,h1 =>
   simp only [List.length_cons,szT] at hm hn hb hz hlen;cases hs:(t.1==2&&t.2.1==[46]) with
   | false =>
    refine qh ?_;simp only [q0e,h,Option.bind_some,sgn,hs,cond_false,dwn,Bool.false_and,Nat.add_zero]
   | true =>
    by_cases hu:u.1=0
    · have hgd:(pre++t::u::r).getD (p+1) ((0,([],0)):Tok)=u:=by rw [gdk hp];rfl
      rw [jf (v':=(acc++([46]++u.2.1),pre++t::u::r,((p+2:Nat):Int),a,b,())) ?_]
      · rw [show pre++t::u::r=(pre++[t,u])++r by simp]
        rw [f6p a b (m - 2) r (pre++[t,u]) _ (p+2) n (by omega) (by simp [hp]) (by omega) (by omega) (by simp only [List.length_append,List.length_cons,List.length_nil];omega)];simp only [dwn,hs,ibT hu,Bool.and_self,cond_true];rw [show p+2+(dwn (acc++([46]++u.2.1)) r).2=p+((dwn (acc++([46]++u.2.1)) r).2+2) by omega]
      · simp only [q0e,h,Option.bind_some,sgn,hs,cond_true,h1,show kd 1 (t::u::r)=u.1 from rfl,ibT hu,hw,hlen,Int.toNat_natCast,hgd]
        rw [decide_eq_true (by omega),decide_eq_true (by omega),decide_eq_true (by simp only [List.length_cons,List.length_nil];omega),decide_eq_true (by simp only [List.length_append,List.length_cons,List.length_nil];omega)];simp only [Bool.and_self,cond_true];rw [show IntKind.i64.wrap ((p:Int)+2)=((p+2:Nat):Int) by rw [wr (by omega) (by omega)];simp]
    · refine qh ?_
      simp only [q0e,h,Option.bind_some,sgn,hs,cond_true,h1,show kd 1 (t::u::r)=u.1 from rfl,ibF hu,cond_false,dwn,Bool.and_false,Nat.add_zero]
def dot:List Tok→List UInt8×Bool×Nat
 | t::r=>bif t.1==0 then ((dwn t.2.1 r).1,true,(dwn t.2.1 r).2+1) else ([],false,0)
 | []=>([],false,0)
theorem f4x (pre l:List Tok) (p:Nat) (a b:List UInt8) (hp:pre.length=p) (hb:p+l.length≤100000000) (hz:szT l+l.length≤100000000) :
 q7p (pre++l,(p:Int),a,b,())=some ((dot l).1,(dot l).2.1,pre++l,((p+(dot l).2.2:Nat):Int),a,b,()):=by
 show x9p yl q7r q7q _=_;have h:=y3n 0 pre l p a b hp (by omega);simp only [Int.natCast_zero] at h;have hlen:(pre++l).length=p+l.length:=by simp [hp]
 have hw:=wrN p (by omega);cases l with
 | nil=>simp only [x9p,h,Option.bind_some,show kd 0 ([]:List Tok) = -1 from rfl,inT (show (-1:Int)≠0 by decide),cond_true,dot,Nat.add_zero]
 | cons t r =>
  simp only [List.length_cons,szT] at hlen hb hz;simp only [x9p,h,Option.bind_some,q3h];by_cases h0:t.1=0
  · have hl:j5b (t.2.1,(pre++[t])++r,((p+1:Nat):Int),a,b,())=_:=f6p a b r.length r (pre++[t]) t.2.1 (p+1) jc (Nat.le_refl _) (by simp [hp]) (by unfold jc;omega) (by omega) (by omega)
    rw [←shift] at hl;simp only [inF h0,cond_false,hlen,Int.toNat_natCast,gd hp];rw [decide_eq_true (by omega),decide_eq_true (by omega)];simp only [Bool.and_self,cond_true,q7q,z4s,hw,hl,Option.bind_some,dot,ibT h0];rw [show p+1+(dwn t.2.1 r).2=p+((dwn t.2.1 r).2+1) by omega]
  · simp only [inT h0,cond_true,dot,ibF h0,cond_false,Nat.add_zero]
def loc:List Tok→Bool×List UInt8×Nat
 | t::r=>bif t.1==1 then (true,t.2.1,1) else ((dot (t::r)).2.1,(dot (t::r)).1,(dot (t::r)).2.2)
 | []=>(false,[],0)
theorem b7b (pre l:List Tok) (p:Nat) (a b:List UInt8) (hp:pre.length=p) (hb:p+l.length≤100000000) (hz:szT l+l.length≤100000000) :
 x2q (pre++l,(p:Int),a,b,())=some ((loc l).1,pre++l,((p+(loc l).2.2:Nat):Int),(loc l).2.1,b,()):=by
 show x9m yl q7p q7h _=_;have h:=y3n 0 pre l p a b hp (by omega);have hd:=f4x pre l p a b hp hb hz;simp only [Int.natCast_zero] at h;have hlen:(pre++l).length=p+l.length:=by simp [hp]
 have hw:=wrN p (by omega);cases l with
 | nil=>simp only [x9m,h,Option.bind_some,show kd 0 ([]:List Tok) = -1 from rfl,ibF (show (-1:Int)≠1 by decide),cond_false,hd,dot,loc,Nat.add_zero]
 | cons t r =>
  simp only [List.length_cons] at hlen hb;simp only [x9m,h,Option.bind_some,q3h];by_cases h1:t.1=1
  · simp only [ibT h1,cond_true,hlen,Int.toNat_natCast,gd hp]
    rw [decide_eq_true (by omega),decide_eq_true (by omega)];simp only [Bool.and_self,cond_true,q7h,z4h,hw,Option.bind_some,loc,ibT h1]
  · simp only [ibF h1,cond_false,hd,Option.bind_some,loc]
theorem b7c (pre l:List Tok) (p:Nat) (a b:List UInt8) (hp:pre.length=p) (hb:p+l.length≤100000000) :
 x2r (pre++l,(p:Int),a,b,())=some (sgn [64] l,pre++l,((p+1:Nat):Int),a,b,()):=by
 show v7n q7r _=_;simp only [v7n,f4y [64] pre l p a b hp hb,Option.bind_some,wrN p (show p≤9223372036854775806 by omega)]
def dom:List Tok→Bool×List UInt8×Nat
 | t::r=>bif t.1==5 then (true,src t.1 t.2.1,1) else ((dot (t::r)).2.1,(dot (t::r)).1,(dot (t::r)).2.2)
 | []=>(false,[],0)
theorem b7d (pre l:List Tok) (p:Nat) (a b:List UInt8) (hp:pre.length=p) (hb:p+l.length≤100000000) (hz:szT l+l.length≤9000) :
 x2s (pre++l,(p:Int),a,b,())=some ((dom l).1,pre++l,((p+(dom l).2.2:Nat):Int),a,(dom l).2.1,()):=by
 show x9n yl q7p C89 q7i _=_;have h:=y3n 0 pre l p a b hp (by omega);have hd:=f4x pre l p a b hp hb (by omega);simp only [Int.natCast_zero] at h;have hlen:(pre++l).length=p+l.length:=by simp [hp]
 have hw:=wrN p (by omega);cases l with
 | nil=>simp only [x9n,h,Option.bind_some,show kd 0 ([]:List Tok) = -1 from rfl,ibF (show (-1:Int)≠5 by decide),cond_false,hd,dot,dom,Nat.add_zero]
 | cons t r =>
  simp only [List.length_cons,szT] at hlen hb hz;simp only [x9n,h,Option.bind_some,q3h];by_cases h1:t.1=5
  · simp only [ibT h1,cond_true,hlen,Int.toNat_natCast,gd hp]
    rw [decide_eq_true (by omega),decide_eq_true (by omega),c9 t.1 t.2.1 t.2.2 (by omega)];simp only [Bool.and_self,cond_true,q7i,z4i,hw,Option.bind_some,dom,ibT h1]
  · simp only [ibF h1,cond_false,hd,Option.bind_some,dom]
theorem vk:∀(p:Nat) (l:List Tok),szT (l.drop p)≤szT l
 | 0,l=>Nat.le_refl _
 | p+1,[]=>Nat.le_refl _
 | p+1,t::r=>Nat.le_trans (vk p r) (by simp only [szT];omega)
theorem k9c (l:List Tok) (p:Nat) (a b:List UInt8) (hp:p≤l.length) (hb:l.length≤9000) :
 x2p (l,(p:Int),a,b,())=some (true,l,((p+skn (l.drop p):Nat):Int),a,b,()):=by
 have h:=b7a (l.take p) (l.drop p) p a b (by simp;omega) (by simp;omega)
 rwa [List.take_append_drop] at h
theorem d2c (l:List Tok) (p:Nat) (a b:List UInt8) (hp:p≤l.length) (hb:szT l+l.length≤9000) :
 x2q (l,(p:Int),a,b,())=some ((loc (l.drop p)).1,l,((p+(loc (l.drop p)).2.2:Nat):Int),(loc (l.drop p)).2.1,b,()):=by
 have hs:=vk p l;have h:=b7b (l.take p) (l.drop p) p a b (by simp;omega) (by simp;omega) (by simp;omega)
 rwa [List.take_append_drop] at h
theorem d2d (l:List Tok) (p:Nat) (a b:List UInt8) (hp:p≤l.length) (hb:l.length≤9000) :
 x2r (l,(p:Int),a,b,())=some (sgn [64] (l.drop p),l,((p+1:Nat):Int),a,b,()):=by
 have h:=b7c (l.take p) (l.drop p) p a b (by simp;omega) (by simp;omega)
 rwa [List.take_append_drop] at h
theorem d2e (l:List Tok) (p:Nat) (a b:List UInt8) (hp:p≤l.length) (hb:szT l+l.length≤9000) :
 x2s (l,(p:Int),a,b,())=some ((dom (l.drop p)).1,l,((p+(dom (l.drop p)).2.2:Nat):Int),a,(dom (l.drop p)).2.1,()):=by
 have hs:=vk p l;have h:=b7d (l.take p) (l.drop p) p a b (by simp;omega) (by simp;omega) (by simp;omega)
 rwa [List.take_append_drop] at h
theorem v2l:∀(m:Nat) (l:List Tok) (acc:List UInt8),l.length≤m→(dwn acc l).2≤l.length
 | _,[],_,_=>Nat.le_refl _
 | _,[_],_,_=>Nat.zero_le _
 | 0,_::_::_,_,h=>by simp at h
 | m+1,t::u::r,acc,h=>by
  have:=v2l m r (acc++([46]++u.2.1)) (by simp at h;omega);simp only [dwn];cases ((t.1==2&&t.2.1==[46])&&u.1==0) with
  | true=>simp only [cond_true,List.length_cons];omega
  | false=>simp only [cond_false];omega
theorem v2i (l:List Tok):(dot l).2.2≤l.length:=by
 cases l with
 | nil=>exact Nat.le_refl _
 | cons t r =>
  have:=v2l r.length r t.2.1 (Nat.le_refl _);simp only [dot];cases (t.1==0) with
  | true=>simp only [cond_true,List.length_cons];omega
  | false=>simp only [cond_false];omega
theorem g6w (l:List Tok):(loc l).2.2≤l.length:=by
 cases l with
 | nil=>exact Nat.le_refl _
 | cons t r =>
  have:=v2i (t::r);simp only [loc];cases (t.1==1) with
  | true=>simp
  | false=>simpa using this
theorem g4m (l:List Tok):(dom l).2.2≤l.length:=by
 cases l with
 | nil=>exact Nat.le_refl _
 | cons t r =>
  have:=v2i (t::r);simp only [dom];cases (t.1==5) with
  | true=>simp
  | false=>simpa using this
def mt (l:List Tok):Option (List UInt8×List UInt8×Nat) :=
 let n1:=skn l
 let n2:=n1+(loc (l.drop n1)).2.2
 let n3:=n2+skn (l.drop n2)
 let n5:=n3+1+skn (l.drop (n3+1))
 let n6:=n5+(dom (l.drop n5)).2.2
 bif !(loc (l.drop n1)).1 then none else bif !sgn [64] (l.drop n3) then none else bif !(dom (l.drop n5)).1 then none else
 some ((loc (l.drop n1)).2.1,(dom (l.drop n5)).2.1,n6+skn (l.drop n6))
theorem w0d {s:List UInt8} {l:List Tok} (h:sgn s l=true):1≤l.length:=by
 cases l with
 | nil=>cases h
 | cons t r=>simp
theorem c71 (l:List Tok) (hb:szT l+l.length≤9000) :
 C71 (l,())=some (match mt l with | some r=>(r.1,r.2.1,(r.2.2:Int),true,()) | none=>([],[],0,false,())):=by
 show F71 x2p x2q x2r x2s _=_;have h1:=k9c l 0 [] [] (Nat.zero_le _) (by omega);simp only [Int.natCast_zero,List.drop_zero,Nat.zero_add] at h1;have b1:=z7s l;have h2:=d2c l (skn l) [] [] b1 hb;have b2:=g6w (l.drop (skn l));rw [List.length_drop] at b2;simp only [F71,h1,h2,Option.bind_some,Bool.not_true,cond_false,mt];cases hl:(loc (l.drop (skn l))).1 with
 | false=>simp only [Bool.not_false,cond_true]
 | true =>
  simp only [Bool.not_true,cond_false];generalize hn2:skn l+(loc (l.drop (skn l))).2.2=n2;have b3:n2≤l.length:=by omega
  generalize (loc (l.drop (skn l))).2.1=A;rw [k9c l n2 A [] b3 (by omega)];have b4:=z7s (l.drop n2);rw [List.length_drop] at b4;simp only [Option.bind_some,Bool.not_true,cond_false];generalize hn3:n2+skn (l.drop n2)=n3;rw [d2d l n3 A [] (by omega) (by omega)];simp only [Option.bind_some];cases hs:sgn [64] (l.drop n3) with
  | false=>simp only [Bool.not_false,cond_true]
  | true =>
   have b5:=w0d hs;rw [List.length_drop] at b5;simp only [Bool.not_true,cond_false];rw [k9c l (n3+1) A [] (by omega) (by omega)];have b6:=z7s (l.drop (n3+1));rw [List.length_drop] at b6;simp only [Option.bind_some,Bool.not_true,cond_false];generalize hn5:n3+1+skn (l.drop (n3+1))=n5;rw [d2e l n5 A [] (by omega) hb];have b7:=g4m (l.drop n5);rw [List.length_drop] at b7;simp only [Option.bind_some];cases hd:(dom (l.drop n5)).1 with
   | false=>simp only [Bool.not_false,cond_true]
   | true =>
    simp only [Bool.not_true,cond_false];rw [k9c l _ A _ (by omega) (by omega)];simp only [Option.bind_some,Bool.not_true,cond_false]
section
variable {T:List R6} {A:List R4} {B:List R3}
theorem d85 (x:Int):Df (C85 (x,())) (fun _=>True):=by
 unfold C85 F85;dsimp only;with_reducible repeat' (first | apply dP | apply dX<;>intro _)
 all_goals trivial
theorem g2z (s:List UInt8) (b:Bool) (hs:s.length≤1000000000000000):Df (q6k (s,b,())) (fun _=>True):=by
 unfold q6k z4u;dsimp only;refine dZ (P:=fun _=>True) ?_ (fun z _=>by cases z<;>exact dP trivial);refine dL ?I ?m ?h _ ?hv ?hn
 case I=>exact (fun v=>v.2.1.1=s∧0≤v.2.1.2)
 case m=>exact (fun v=>s.length - v.2.1.2.toNat)
 case hv=>exact ⟨rfl,Int.le_refl _⟩
 case hn=>exact (by first | omega | (dsimp only;omega))
 · rintro ⟨x0,⟨x1,p⟩,u⟩ hI
   dsimp only at hI;obtain ⟨rfl,h0⟩:=hI;unfold q4b;dsimp only;with_reducible repeat' (first | apply dP | apply dX<;>intro _)
   · refine dZ (d85 _) ?_
     rintro ⟨x,u⟩ -
     dsimp only;have:=y0b x1 p.toNat
     with_reducible repeat' (first | apply dP | apply dX<;>intro _)
     · trivial
     · exact ⟨⟨rfl,by first | omega | (dsimp only;omega)⟩,by first | omega | (dsimp only;omega)⟩
   · trivial
theorem f6j (s:List UInt8) (hs:s.length≤1000000000000000):Df (j8h (s,())) (fun _=>True):=by
 unfold j8h y9a;dsimp only;refine dZ (P:=fun _=>True) ?_ (fun z _=>dP trivial);unfold j7q z4j;dsimp only;exact dZ (g2z s true hs) (fun z _=>dP trivial)
theorem d86 (a:List UInt8):Df (C86 (a,())) (fun _=>True):=by
 unfold C86 F86;dsimp only;refine dZ (P:=fun _=>True) ?_ (fun z _=>dP trivial);unfold C96 F96;dsimp only;exact dZ (g2w a [91]) (fun z _=>dP trivial)
theorem d87 (h:TK T A B) (s:List UInt8) (hs:s.length≤3000):Df (C87 (T,A,B,s,())) (fun _=>True):=by
 unfold C87 F87;dsimp only;obtain ⟨y,e⟩:=b7h h s hs;exact dZ (P:=fun _=>True) ⟨y,e,trivial⟩ (fun z _=>dP trivial)
theorem d44 (h:TK T A B) (a b:List UInt8) (ha:a.length≤100000) (hb:b.length≤3000):Df (C44 (T,A,B,a,b,())) (fun _=>True):=by
 unfold C44 F44;dsimp only;refine dZ (d83 a (by omega)) ?_;rintro ⟨x,y,u⟩ -
 dsimp only;with_reducible repeat' (first | apply dP | apply dX<;>intro _)
 · trivial
 · trivial
 · trivial
 · refine dZ (f6j a (by omega)) ?_
   rintro ⟨x,u⟩ -
   dsimp only;with_reducible repeat' (first | apply dP | apply dX<;>intro _)
   · trivial
   · refine dZ (d86 b) ?_
     rintro ⟨x,u⟩ -
     dsimp only;with_reducible repeat' (first | apply dP | apply dX<;>intro _)
     · rw [c11 b]
       simp only [Option.bind_some];with_reducible repeat' (first | apply dP | apply dX<;>intro _)
       · trivial
       · trivial
       · trivial
       · trivial
       · refine dO ?_;omega
     · exact dZ (d87 h b hb) (fun z _=>dP trivial)
end
theorem z7d:∀(m:Nat) (s:List UInt8) (p:Nat) (l:List Tok),s.length≤m→ym s p = .inl l→szT l≤s.length∧l.length≤s.length
 | _,[],p,l,_,h=>by rw [j9v] at h;cases h;exact ⟨Nat.le_refl _,Nat.le_refl _⟩
 | 0,c::r,p,l,hm,h=>by simp at hm
 | m+1,c::r,p,l,hm,h=>by
  obtain ⟨k,t,u,l',h1,h2,rfl⟩:=j9u h;have hu:=q0z h1;have ht:=j1m h1;obtain ⟨i1,i2⟩:=z7d m ((c::r).drop u) (p+u) l' (by simp at hm ⊢;omega) h2;simp only [List.length_drop,List.length_cons,szT] at i1 i2 ⊢;omega
theorem x1a (s:List UInt8):szT (q3k s).1≤s.length∧(q3k s).1.length≤s.length:=by
 have nil:szT ([]:List Tok)≤s.length∧([]:List Tok).length≤s.length:=⟨Nat.zero_le _,Nat.zero_le _⟩
 unfold q3k;split
 · exact nil
 · cases utf s with
   | some b=>exact nil
   | none =>
    cases h:ym s 0 with
    | inr e=>exact nil
    | inl l=>exact z7d _ s 0 l (Nat.le_refl _) h
theorem v2n:∀(m:Nat) (l:List Tok) (acc:List UInt8),l.length≤m→(dwn acc l).1.length≤acc.length+szT l+l.length
 | _,[],_,_=>by simp [dwn]
 | _,[_],_,_=>by simp only [dwn];omega
 | 0,_::_::_,_,h=>by simp at h
 | m+1,t::u::r,acc,h=>by
  have:=v2n m r (acc++([46]++u.2.1)) (by simp at h;omega);simp only [List.length_append,List.length_cons,List.length_nil] at this;simp only [dwn,szT,List.length_cons];cases ((t.1==2&&t.2.1==[46])&&u.1==0) with
  | true=>simp only [cond_true];omega
  | false=>simp only [cond_false];omega
theorem v2j (l:List Tok):(dot l).1.length≤szT l+l.length:=by
 cases l with
 | nil=>exact Nat.le_refl _
 | cons t r =>
  have:=v2n r.length r t.2.1 (Nat.le_refl _);simp only [dot,szT,List.length_cons];cases (t.1==0) with
  | true=>simp only [cond_true];omega
  | false=>simp only [cond_false,List.length_nil];omega
theorem g6x (l:List Tok):(loc l).2.1.length≤szT l+l.length:=by
 cases l with
 | nil=>exact Nat.le_refl _
 | cons t r =>
  have:=v2j (t::r);simp only [loc,szT,List.length_cons] at this ⊢;cases (t.1==1) with
  | true=>simp only [cond_true];omega
  | false=>simpa only [cond_false] using this
theorem g4n (l:List Tok):(dom l).2.1.length≤szT l+l.length+2:=by
 cases l with
 | nil=>exact Nat.zero_le _
 | cons t r =>
  have:=v2j (t::r);simp only [dom,szT,List.length_cons] at this ⊢;by_cases h5:t.1=5
  · rw [ibT h5]
    simp only [cond_true,src,h5,List.length_append,List.length_cons,List.length_nil];simp;omega
  · rw [ibF h5]
    simp only [cond_false];omega
theorem w7n (l:List Tok) {r:List UInt8×List UInt8×Nat} (h:mt l=some r):1≤r.2.2∧r.1.length≤szT l+l.length∧r.2.1.length≤szT l+l.length+2:=by
 unfold mt at h;simp only at h;have b1:=g6x (l.drop (skn l));have b2:=vk (skn l) l;rw [List.length_drop] at b1;cases hl:(loc (l.drop (skn l))).1 with
 | false=>simp only [hl,Bool.not_false,cond_true] at h;cases h
 | true =>
  simp only [hl,Bool.not_true,cond_false] at h;generalize skn l+(loc (l.drop (skn l))).2.2=n2 at h;generalize n2+skn (l.drop n2)=n3 at h;cases hs:sgn [64] (l.drop n3) with
  | false=>simp only [hs,Bool.not_false,cond_true] at h;cases h
  | true =>
   simp only [hs,Bool.not_true,cond_false] at h;generalize hn5:n3+1+skn (l.drop (n3+1))=n5 at h;have b5:=g4n (l.drop n5);have b6:=vk n5 l;rw [List.length_drop] at b5;cases hd:(dom (l.drop n5)).1 with
   | false=>simp only [hd,Bool.not_false,cond_true] at h;cases h
   | true =>
    simp only [hd,Bool.not_true,cond_false] at h;cases h;simp only;omega
section
variable {l:List Tok}
end
section
variable {T:List R6} {A:List R4} {B:List R3}
end
def j4y (b:UInt8):UInt8:=UInt8.ofNat (((C64 ((b.toNat:Int),())).getD (0,())).1.toNat)
theorem f6s:((List.range 256).all fun n=>(C64 (((UInt8.ofNat n).toNat:Int),())).isSome)=true:=by kernel_rfl
theorem p64 (b:UInt8):∃v:Int,C64 ((b.toNat:Int),())=some (v,())∧UInt8.ofNat v.toNat=j4y b:=by
 have h:=List.all_eq_true.1 f6s b.toNat (by simp only [List.mem_range];exact b.toNat_lt)
 simp only [UInt8.ofNat_toNat] at h;obtain ⟨⟨v,u⟩,hv⟩:=Option.isSome_iff_exists.1 h;exact ⟨v,hv,by unfold j4y;rw [hv];rfl⟩
theorem b1y:∀(r pre:List UInt8) (p n:Nat) (acc:List UInt8),pre.length=p→acc.length=p→r.length<n→p+r.length≤1000000 →
 qd (j8j C64) n (pre++r,((p+r.length:Nat):Int),(p:Int),acc,())=some (acc++r.map j4y,())
 | [],pre,p,n+1,acc,hp,ha,hn,hb=>by
  refine qh ?_;simp only [j8j,List.length_nil,Nat.add_zero];rw [decide_eq_false (by omega)];simp only [cond_false,List.map_nil,List.append_nil]
 | c::r,pre,p,n+1,acc,hp,ha,hn,hb=>by
  simp only [List.length_cons] at hn hb;obtain ⟨v,hv,hl⟩:=p64 c;have hlen:(pre++c::r).length=p+r.length+1:=by simp [hp];omega
  rw [jf (v':=(pre++c::r,((p+(r.length+1):Nat):Int),((p+1:Nat):Int),acc++[j4y c],())) ?_]
  · have ih:=b1y r (pre++[c]) (p+1) n (acc++[j4y c]) (by simp [hp]) (by simp [ha]) (by omega) (by omega)
    rw [show p+(r.length+1)=p+1+r.length by omega,show pre++c::r=(pre++[c])++r by simp,ih];simp
  · simp only [j8j,List.length_cons]
    rw [decide_eq_true (by omega),decide_eq_true (by omega),decide_eq_true (by omega)];simp only [Bool.and_self,cond_true,Int.toNat_natCast];rw [show (pre++c::r).getD p 0=c by subst hp;simp];simp only [hv,Option.bind_some,hl,wrN p (by omega)];rw [decide_eq_true (by simp only [List.length_cons,List.length_nil];omega)];rfl
theorem p25 (l:List UInt8) (h:l.length≤1000000):C25 (l,())=some (l.map j4y,()):=by
 have hl:j8e (l,(l.length:Int),0,[],())=some (l.map j4y,()):=by
  have h:=b1y l [] 0 jc [] rfl rfl (by unfold jc;omega) (by omega);rw [Nat.zero_add] at h;exact h
 have h63:C63 (l,())=some (l.map j4y,()):=by
  show F63 C64 j8e _=_;simp only [F63,hl,Option.bind_some]
 show F25 C63 _=_;simp only [F25,h63,Option.bind_some];rw [decide_eq_true (by omega)];rfl
section
variable {T:List R6} {A:List R4} {B:List R3}
theorem g3c (h:TK T A B) (x:Int) (b:Bool):Df (q7v (x,b,T,A,B,())) (fun y=>∀z,y = .inr z→(z.2.1,z.2.2.1,z.2.2.2.1)=(T,A,B)):=by
 unfold q7v z4v;dsimp only;with_reducible repeat' (first | apply dP | apply dX<;>intro _)
 · intro z hz;cases hz
 · refine dZ (g3e T A B x h.t) ?_
   rintro ⟨c,u⟩ -
   dsimp only;with_reducible repeat' (first | apply dP | apply dX<;>intro _)
   · refine dZ (g3f T A B x) ?_
     rintro ⟨a1,a2,a3,a4,a5,a6,u⟩ -
     dsimp only;with_reducible repeat' (first | apply dP | apply dX<;>intro _)
     all_goals (intro z hz;cases hz)
   · intro z hz;cases hz;rfl
theorem b7q (h:TK T A B) (x:Int):Df (x7n (T,A,B,x,())) (fun _=>True):=by
 unfold x7n w9y;dsimp only;with_reducible repeat' (first | apply dP | apply dX<;>intro _)
 all_goals
  refine dZ (g3c h x _) ?_;intro z hz;cases z with
  | inl z=>exact dP trivial
  | inr z =>
   obtain ⟨z1,z2,z3,z4,u⟩:=z;have e:=hz _ rfl;cases e;exact dZ (f5r h z1) fun _ _=>dP trivial
theorem b7p (h:TK T A B) (l:List Int) (p:Int) (hl:l.length≤1000000000000) (h0:0≤p) (hp:p<l.length):Df (z8g (p,T,A,B,l,())) (fun y=>y.2=(T,A,B,l,())):=by
 unfold z8g w9x;dsimp only;refine dZ (f5o h l p hl (by omega)) ?_;rintro ⟨c,u⟩ -
 dsimp only;with_reducible repeat' (first | apply dP | apply dX<;>intro _)
 · rfl
 · exact dZ (b7q h _) fun _ _=>dP rfl
 · refine dO ?_;omega
 · rfl
theorem b7j (h:TK T A B) (s:List UInt8) (hs:s.length≤1000000000000):Df (x7l (T,A,B,s,())) (fun _=>True):=by
 unfold x7l w9u;dsimp only;refine dZ (d83 s hs) ?_;rintro ⟨l,bad,u⟩ ⟨h1,-,-⟩;dsimp only at h1 ⊢;with_reducible repeat' (first | apply dP | apply dX<;>intro _)
 · trivial
 · trivial
 · refine dZ (P:=fun _=>True) ?_ (fun z _=>by cases z<;>exact dP trivial)
   refine dL ?I ?m ?h _ ?hv ?hn
   case I=>exact (fun v=>v.1=l.length∧0≤v.2.1∧v.2.2=(T,A,B,l,()))
   case m=>exact (fun v=>(l.length - v.2.1).toNat)
   case hv=>exact ⟨rfl,Int.le_refl _,rfl⟩
   case hn=>exact (by first | omega | (dsimp only;omega))
   rintro ⟨n,k,T',A',B',l',u⟩ ⟨g1,g2,g3⟩;dsimp only at g1 g2 g3;subst g1;cases g3;unfold z4t;dsimp only;with_reducible repeat' (first | apply dP | apply dX<;>intro _)
   · rename_i hk
     refine dZ (b7p h l k (by omega) g2 hk) ?_;rintro ⟨b,r⟩ hr;dsimp only at hr;subst hr;dsimp only;with_reducible repeat' (first | apply dP | apply dX<;>intro _)
     · trivial
     · rw [qg (by omega)]
       exact ⟨⟨rfl,by first | omega | (dsimp only;omega),rfl⟩,by first | omega | (dsimp only;omega)⟩
   · trivial
theorem b7g (h:TK T A B) (s:List UInt8) (hs:s.length≤100000):Df (z7x (T,A,B,s,())) (fun _=>True):=by
 unfold z7x w9t;dsimp only;refine dZ (v1w h s (by omega)) ?_;rintro ⟨f,ok,u⟩ hf;dsimp only at hf ⊢;with_reducible repeat' (first | apply dP | apply dX<;>intro _)
 · trivial
 · refine dZ (b7j h f (by omega)) ?_
   rintro ⟨e,u⟩ -
   dsimp only;with_reducible repeat' (first | apply dP | apply dX<;>intro _)
   · trivial
   · refine dZ (d83 f (by omega)) ?_
     rintro ⟨l,bad,u⟩ ⟨h1,-,-⟩;dsimp only at h1 ⊢;refine dZ (g2x h l (by omega)) ?_;rintro ⟨e,u⟩ -
     dsimp only;with_reducible repeat' (first | apply dP | apply dX<;>intro _)
     · refine dZ (f5k h l (by omega)) ?_
       rintro ⟨e,u⟩ -
       dsimp only;with_reducible repeat' (first | apply dP | apply dX<;>intro _)
       · trivial
       · trivial
     · trivial
end
theorem b7u (s:List UInt8):Df (q2m (s,[46],())) (fun y => -1≤y.1∧y.1<s.length):=by
 unfold q2m v8j;dsimp only;refine dZ (P:=fun y => -1≤y.1∧y.1<s.length) ?_ fun _ h=>dP h;unfold z3r x9v;dsimp only;have e0:((([46]:List UInt8).length:Int)==0)=false:=rfl;rw [e0];simp only [cond_false];refine dZ (v1y s _ fun h => ?_) fun _ h=>dP h;have:=eq_of_beq h;rw [←this];decide
theorem b7t (s:List UInt8):Df (z3p (s,[46],())) (fun y=>0≤y.1∧y.1≤s.length):=by
 refine ⟨((Lib.countByte s 46:Nat),()),rfl,Int.natCast_nonneg _,?_⟩;have:Lib.countByte s 46≤s.length:=List.count_le_length;dsimp only;omega
theorem g3a (L n:Nat) (hn:1≤n) (hL:L≤1000000000000) (hnL:n≤1000000000000) (s:List UInt8) (hs:s.length≤L) (rows:List (List UInt8)) (hr:rows.length=n) (ha:∀r∈rows,r.length≤L) :
 Df (j5d (s,[46],0,(n:Int) - 1,0,rows,())) (fun y=>y.1.length≤L∧0≤y.2.1∧y.2.1<n∧y.2.2.1.length=n∧∀r∈y.2.2.1,r.length≤L):=by
 refine dL ?I ?m ?h _ ?hv ?hn
 case I=>exact (fun v=>(v.2.1,v.2.2.1,v.2.2.2.1)=([46],0,(n:Int) - 1)∧v.1.length≤L∧0≤v.2.2.2.2.1∧v.2.2.2.2.1<n∧v.2.2.2.2.2.1.length=n∧∀r∈v.2.2.2.2.2.1,r.length≤L)
 case m=>exact (fun v=>(n - v.2.2.2.2.1).toNat)
 case hv=>exact ⟨rfl,hs,Int.le_refl _,by first | omega | (dsimp only;omega),hr,ha⟩
 case hn=>exact (by first | omega | (dsimp only;omega))
 rintro ⟨s',x1,x2,x3,i,rows,u⟩ ⟨e,i1,i2,i3,i4,i5⟩;dsimp only at e i1 i2 i3 i4 i5;cases e;unfold j5x;dsimp only;with_reducible repeat' (first | apply dP | apply dX<;>intro _)
 · refine dZ (b7u s') ?_
   rintro ⟨m,u⟩ ⟨h1,h2⟩;dsimp only at h1 h2 ⊢;rw [qg (n:=m+0) (by omega),qg (n:=m+(([46]:List UInt8).length:Int)) (by simp only [List.length_cons,List.length_nil];omega)];with_reducible repeat' (first | apply dP | apply dX<;>intro _)
   · exact ⟨i1,i2,i3,i4,i5⟩
   · rw [qg (by omega)]
     refine ⟨⟨rfl,by simp only [List.length_drop];omega,by first | omega | (dsimp only;omega),by first | omega | (dsimp only;omega),by simp only [List.length_set];omega,fun r hr => ?_⟩,by first | omega | (dsimp only;omega)⟩;dsimp only at hr;rcases List.mem_or_eq_of_mem_set hr with h | h
     · exact i5 r h
     · subst h;simp only [List.length_take];omega
   · refine dO ?_;rename_i hc;simp only [List.length_cons,List.length_nil] at hc;omega
   · refine dO ?_;omega
   · refine dO ?_;omega
 · exact ⟨i1,i2,i3,i4,i5⟩
theorem f5l (s:List UInt8) (hs:s.length≤1000000000):Df (y2j (s,[46],0,-1,())) (fun y=>y.1.length≤s.length+1∧∀p∈y.1,p.length≤s.length):=by
 unfold y2j v8b;dsimp only;rw [show ((-1:Int)==0)=false from rfl,show (([46]:List UInt8)==[])=false from rfl,show decide ((-1:Int)<0)=true from rfl];simp only [cond_false,cond_true];refine dZ (b7t s) ?_;rintro ⟨c,u⟩ ⟨h1,h2⟩;dsimp only at h1 h2 ⊢;rw [qg (n:=c+1) (by omega)];refine dZ (P:=fun y=>y.1.length≤s.length+1∧∀p∈y.1,p.length≤s.length) ?_ fun _ h=>dP h;unfold q7t j5w;dsimp only;rw [qg (n:=(s.length:Int)+1) (by omega)];obtain ⟨n,rfl⟩:∃n:Nat,c=(n:Int):=⟨c.toNat,by omega⟩
 have hif:(if (s.length:Int)+1<(n:Int)+1 then (s.length:Int)+1 else (n:Int)+1)=((n+1:Nat):Int):=by rw [if_neg (by omega)];omega
 simp only [hif];have hc:(decide (0≤((n+1:Nat):Int))&&(decide True&&(decide ((16:Int)*((n+1:Nat):Int)≤281474976710656)&&decide (((n+1:Nat):Int)≤140737488355328))))=true:=by
  simp only [Bool.and_eq_true,decide_eq_true_eq];exact ⟨by omega,trivial,by omega,by omega⟩
 have hc':(decide (0≤((n+1:Nat):Int))&&(decide True&&(decide (((16:Nat):Int)*((n+1:Nat):Int)≤281474976710656)&&decide (((n+1:Nat):Int)≤140737488355328))))=true:=hc;first | rw [hc] | rw [hc']
 simp only [cond_true,Int.toNat_natCast];rw [qg (n:=((n+1:Nat):Int) - 1) (by omega)];refine dZ (g3a s.length (n+1) (by omega) (by omega) (by omega) s (Nat.le_refl _) (List.replicate (n+1) []) (by simp) (fun r hr=>by rw [(List.mem_replicate.1 hr).2];exact Nat.zero_le _)) ?_;rintro ⟨s',i,rows,u⟩ ⟨j1,j2,j3,j4,j5⟩;dsimp only at j1 j2 j3 j4 j5 ⊢;rw [qg (n:=i+1) (by omega)];with_reducible repeat' (first | apply dP | apply dX<;>intro _)
 · refine ⟨?_,fun p hp => ?_⟩
   · simp only [List.length_take,List.length_set];omega
   · rcases List.mem_or_eq_of_mem_set (List.mem_of_mem_take hp) with h | h
     · exact j5 p h
     · subst h;exact j1
 · refine dO ?_;rename_i hc;simp only [List.length_set] at hc;omega
 · refine dO ?_;omega
theorem d47 (s:List UInt8) (hs:s.length≤1000000000):Df (C47 (s,())) (fun _=>True):=by
 unfold C47 F47;dsimp only;refine dZ (P:=fun _=>True) ?_ (fun z _=>by cases z<;>exact dP trivial);refine dL ?I ?m ?h _ ?hv ?hn
 case I=>exact (fun v=>v.1=s∧v.2.1=s.length∧0≤v.2.2.1)
 case m=>exact (fun v=>(s.length - v.2.2.1).toNat)
 case hv=>exact ⟨rfl,rfl,Int.le_refl _⟩
 case hn=>exact (by first | omega | (dsimp only;omega))
 rintro ⟨s',n,k,u⟩ ⟨h1,h2,h3⟩;dsimp only at h1 h2 h3;subst h1;subst h2;unfold z5s;dsimp only;with_reducible repeat' (first | apply dP | apply dX<;>intro _)
 · rw [c17]
   simp only [Option.bind_some];with_reducible repeat' (first | apply dP | apply dX<;>intro _)
   · trivial
   · rw [qg (by omega)]
     exact ⟨⟨rfl,rfl,by first | omega | (dsimp only;omega)⟩,by first | omega | (dsimp only;omega)⟩
 · refine dO ?_;omega
 · trivial
theorem d88 (s:List UInt8) (hs:s.length≤1000000000):Df (C88 (s,())) (fun _=>True):=by
 unfold C88 F88;dsimp only;refine dZ (P:=fun y=>y.1.length≤s.length+1∧∀p∈y.1,p.length≤s.length) ?_ ?_
 · unfold z7y v7q
   dsimp only;exact dZ (f5l s hs) fun _ h=>dP h
 rintro ⟨ps,u⟩ ⟨g1,g2⟩;dsimp only at g1 g2 ⊢;refine dZ (P:=fun _=>True) ?_ (fun z _=>by cases z<;>exact dP trivial);refine dL ?I ?m ?h _ ?hv ?hn
 case I=>exact (fun v=>v.1=ps∧v.2.1=ps.length∧0≤v.2.2.1)
 case m=>exact (fun v=>(ps.length - v.2.2.1).toNat)
 case hv=>exact ⟨rfl,rfl,Int.le_refl _⟩
 case hn=>exact (by first | omega | (dsimp only;omega))
 rintro ⟨s',n,k,u⟩ ⟨h1,h2,h3⟩;dsimp only at h1 h2 h3;subst h1;subst h2;unfold z5t;dsimp only;with_reducible repeat' (first | apply dP | apply dX<;>intro _)
 · have hg:(s'.getD k.toNat [])∈s':=by rw [getD_lt (by omega)];exact List.getElem_mem _
   have:=g2 _ hg;refine dZ (d47 _ (by omega)) ?_;rintro ⟨b,u⟩ -
   dsimp only;with_reducible repeat' (first | apply dP | apply dX<;>intro _)
   · trivial
   · rw [qg (by omega)]
     exact ⟨⟨rfl,rfl,by first | omega | (dsimp only;omega)⟩,by first | omega | (dsimp only;omega)⟩
 · refine dO ?_;omega
 · trivial
theorem d59 (n:Bool) (a b:List UInt8) (ha:a.length≤1000):Df (kz (n,a,b,())) (fun y=>y.1=true→n=false∧a≠[]):=by
 unfold kz F59;dsimp only;with_reducible repeat' (first | apply dP | apply dX<;>intro _)
 · rename_i hn _
   rw [p25 a (by omega)];refine dP fun h=>⟨hn,?_⟩
   rintro rfl;cases h
 · intro h;cases h
 · intro h;cases h
section
variable {T:List R6} {A:List R4} {B:List R3}
theorem d82 (h:TK T A B) (a b:List UInt8) (ha:a.length≤1000) (hb:b.length≤1000):Df (C82 (T,A,B,a,b,())) (fun _=>True):=by
 have c0:∀x,Df (j8g (T,A,B,x,b,[],[],())) (fun _=>True):=fun x=>by
  unfold j8g y2w;dsimp only;refine dZ (d86 b) ?_;rintro ⟨o,u⟩ -
  dsimp only;with_reducible repeat' (first | apply dP | apply dX<;>intro _)
  · rw [p25 b (by omega)];exact dP trivial
  · refine dZ (d87 h b (by omega)) ?_
    rintro ⟨o,e,u⟩ -
    dsimp only;with_reducible repeat' (first | apply dP | apply dX<;>intro _)
    · trivial
    · trivial
 unfold C82 F82;dsimp only;refine dZ (b7g h a (by omega)) ?_;rintro ⟨x,e,u⟩ -
 dsimp only;with_reducible repeat' (first | apply dP | apply dX<;>intro _)
 all_goals exact dZ (c0 _) fun _ _=>dP trivial
theorem d42 (h:TK T A B) (n:Bool) (a b:List UInt8) (ha:a.length≤1000) (hb:b.length≤1000):Df (C42 (T,A,B,n,a,b,())) (fun y=>y.1=n):=by
 unfold C42 F42;dsimp only;with_reducible repeat' (first | apply dP | apply dX<;>intro _)
 · rename_i hn;exact hn.symm
 · rename_i hn
   refine dZ (d59 n a b ha) ?_;rintro ⟨m,u⟩ -
   dsimp only;with_reducible repeat' (first | apply dP | apply dX<;>intro _)
   · exact hn.symm
   · exact dZ (d82 h a b ha hb) fun _ _=>dP hn.symm
theorem d20 (h:TK T A B) (a b:List UInt8) (ha:a.length≤1000) (hb:b.length≤1000):Df (C20 (T,A,B,false,a,b,())) (fun _=>True):=by
 unfold C20 F20;dsimp only;refine dZ (P:=fun y=>∀z,y = .inr z→z=(T,A,B,false,a,b,())) ?_ ?_
 · unfold kw q2s
   dsimp only;refine dZ (d59 false a b ha) ?_;rintro ⟨m,u⟩ -
   dsimp only;with_reducible repeat' (first | apply dP | apply dX<;>intro _)
   · intro z hz;cases hz
   · intro z hz;cases hz;rfl
 intro z hz;cases z with
 | inl z=>exact dP trivial
 | inr z =>
  have e:=hz _ rfl;subst e;exact dZ (d44 h a b (by omega) (by omega)) fun _ _=>dP trivial
end
theorem d79 (k:Int) (s:List UInt8) (p:Int) (t:List UInt8):Df (C79 (k,s,p,t,())) (fun y=>y.1=true→k=2∧s=t):=by
 unfold C79 F79;dsimp only;with_reducible repeat' (first | apply dP | apply dX<;>intro _)
 · rename_i hk;exact fun h=>⟨hk,eq_of_beq h⟩
 · intro h;cases h
theorem d80 (l:List Tok) (hl:l.length≤1000000):Df (C80 (l,())) (fun _=>True):=by
 unfold C80 F80;dsimp only;refine dZ (P:=fun _=>True) ?_ (fun z _=>dP trivial);unfold x7i v7o;dsimp only;refine dZ (P:=fun _=>True) ?_ (fun z _=>by cases z<;>exact dP trivial);refine dL ?I ?m ?h _ ?hv ?hn
 case I=>exact (fun v=>v.1=l∧v.2.1=l.length∧0≤v.2.2.1)
 case m=>exact (fun v=>(l.length - v.2.2.1).toNat)
 case hv=>exact ⟨rfl,rfl,Int.le_refl _⟩
 case hn=>exact (by first | omega | (dsimp only;omega))
 rintro ⟨s',n,k,u⟩ ⟨h1,h2,h3⟩;dsimp only at h1 h2 h3;subst h1;subst h2;unfold j5r;dsimp only;with_reducible repeat' (first | apply dP | apply dX<;>intro _)
 · refine dZ (P:=fun _=>True) ?_ ?_
   · unfold C81 F81
     dsimp only;with_reducible repeat' (first | apply dP | apply dX<;>intro _)
     all_goals trivial
   rintro ⟨b,u⟩ -
   dsimp only;with_reducible repeat' (first | apply dP | apply dX<;>intro _)
   · trivial
   · rw [qg (by omega)]
     exact ⟨⟨rfl,rfl,by first | omega | (dsimp only;omega)⟩,by first | omega | (dsimp only;omega)⟩
 · refine dO ?_;omega
 · trivial
theorem j1z:∀(k:Nat) (l:List Tok),szT (l.take k)≤szT l
 | 0,l=>by simp [szT]
 | k+1,[]=>by simp
 | k+1,t::r=>by have:=j1z k r;simp only [List.take_succ_cons,szT];omega
section
variable {T:List R6} {A:List R4} {B:List R3}
theorem w7d (h:TK T A B) (l:List Tok) (hz:szT l+l.length≤2900) (k:Int) (hk:1≤k∧k≤l.length) (a b:List UInt8) :
 Df (kx (k,l,4,T,A,B,false,[],[],false,a,b,())) (fun y=>Sum.elim (fun z=>z.2.1=false) (fun z=>z.2.1=false) y):=by
 unfold kx j2p;dsimp only;have z1:=j1z k.toNat l;have z2:=vk 1 (l.take k.toNat);with_reducible repeat' (first | apply dP | apply dX<;>intro _)
 · rw [c71 (List.drop 1 (List.take k.toNat l)) (by simp only [List.length_drop,List.length_take];omega)]
   simp only [Option.bind_some];cases hm:mt (List.drop 1 (List.take k.toNat l)) with
   | none=>exact dP rfl
   | some r =>
    have m:=w7n _ hm;simp only [List.length_drop,List.length_take] at m;dsimp only;with_reducible repeat' (first | apply dP | apply dX<;>intro _)
    · rename_i hc;cases hc
    · rfl
    · refine dZ (P:=fun y=>y.2.1=false) ?_ fun _ h=>dP h
      unfold q6o j2o;dsimp only;refine dZ (d44 h r.1 r.2.1 (by omega) (by omega)) ?_;rintro ⟨e,u⟩ -
      dsimp only;with_reducible repeat' (first | apply dP | apply dX<;>intro _)
      · rfl
      · rfl
 all_goals (refine dO ?_;omega)
theorem f6h (h:TK T A B) (l:List Tok) (hz:szT l+l.length≤2900) (k:Int) (hk:1≤k∧k≤l.length) (hl:2≤l.length) :
 Df (ky (k,l,4,T,A,B,false,[],[],false,[],[],())) (fun y=>Sum.elim (fun z=>z.2.1=true→k=1) (fun z=>True) y):=by
 unfold ky q2t;dsimp only;with_reducible repeat' (first | apply dP | apply dX<;>intro _)
 · rename_i hk1;exact fun _=>hk1
 · have hx:(l.getD 1 ((0,([],0)):Tok)).2.1.length≤3000:=by
    rw [getD_lt (by omega)];have:∀(l:List Tok) (x:Tok),x∈l→x.2.1.length≤szT l:=fun l=>by
     induction l with
     | nil=>intro x hx;cases hx
     | cons t r ih =>
      intro x hx;simp only [szT];rcases List.mem_cons.1 hx with rfl | hx
      · omega
      · have:=ih x hx;omega
    have:=this l _ (List.getElem_mem (show 1<l.length by omega));omega
   refine dZ (P:=fun y=>y.1=true→True) ?_ ?_
   · unfold kz F59
     dsimp only;with_reducible repeat' (first | apply dP | apply dX<;>intro _)
     · rw [p25 _ (by omega)];exact dP fun _=>trivial
     all_goals (intro _;trivial)
   rintro ⟨m,u⟩ -
   dsimp only;with_reducible repeat' (first | apply dP | apply dX<;>intro _)
   · intro h;cases h
   · refine dZ (w7d h l hz k hk _ []) ?_
     intro z hz';cases z with
     | inl z=>exact dP trivial
     | inr z=>exact dP fun h=>by rw [show z.2.1=false from hz'] at h;cases h
 all_goals first
  | (refine dO ?_;omega)
  | (refine dZ (w7d h l hz k hk _ []) ?_
     intro z hz';cases z with
     | inl z=>exact dP trivial
     | inr z=>exact dP fun h=>by rw [show z.2.1=false from hz'] at h;cases h)
theorem w0g (s:List UInt8) (l:List Tok) (o:Int) (hR:q3k s=(l,o,0)) (hl:l.length=2) (h0:(l.getD 0 ((0,([],0)):Tok)).1=2∧(l.getD 0 ((0,([],0)):Tok)).2.1=[60]) (h1:(l.getD 1 ((0,([],0)):Tok)).1=2∧(l.getD 1 ((0,([],0)):Tok)).2.1=[62]):s=[60,62]:=by
 have hx:ym s 0 = .inl l:=by
  unfold q3k at hR;have no:l≠[]:=fun h=>by subst h;cases hl
  split at hR
  · exact absurd (congrArg Prod.fst hR).symm no
  · cases hu:utf s with
    | some b=>rw [hu] at hR;exact absurd (congrArg Prod.fst hR).symm no
    | none =>
     rw [hu] at hR;cases hx:ym s 0 with
     | inr e=>rw [hx] at hR;exact absurd (congrArg Prod.fst hR).symm no
     | inl l'=>rw [hx] at hR;cases hR;rfl
 match l,hl with
 | [t,u],_ =>
  obtain ⟨a1,a2⟩:=h0;obtain ⟨b1,b2⟩:=h1;have a1:t.1=2:=a1;have a2:t.2.1=[60]:=a2;have b1:u.1=2:=b1;have b2:u.2.1=[62]:=b2;have hs:=(z0l s.length s 0 [t,u] (Nat.le_refl _) hx).2.2 (fun x hx=>by
   rcases List.mem_cons.1 hx with rfl | hx
   · rw [a1];decide
   · rw [List.mem_singleton] at hx;subst hx;rw [b1];decide)
  rw [←hs];simp only [y5g,List.flatMap_cons,List.flatMap_nil,a1,a2,b1,b2];rfl
theorem g40 (e:Int) (n:Bool) (a b:List UInt8):q2p (e,n,a,b,())=some (e,false,[],[],()):=by
 obtain ⟨k,hk⟩:∃k,jc=k+1:=⟨jc - 1,by unfold jc;omega⟩
 show qd (j8i C44 kz C67 C71 C79 C80) jc _=_;rw [hk];exact qh rfl
theorem d40 (h:TK T A B) (s:List UInt8) (hs:s.length≤1400):Df (C40 (T,A,B,s,())) (fun y=>y.1=true→s=[60,62]):=by
 unfold C40 F40;dsimp only;rw [c11 s];have hz:=x1a s;simp only [Option.bind_some];generalize hR:q3k s=R at hz ⊢;obtain ⟨l,o,e⟩:=R;dsimp only at hz ⊢;simp only [g40,Option.bind_some];rw [qg (n:=(l.length:Int) - 1) (by omega)];with_reducible repeat' (first | apply dP | apply dX<;>intro _)
 · intro h;cases h
 · intro h;cases h
 · rename_i he _ _
   refine dZ (d79 _ _ _ _) ?_;rintro ⟨q1,u⟩ hq1;dsimp only at hq1 ⊢;with_reducible repeat' (first | apply dP | apply dX<;>intro _)
   · intro h;cases h
   · rename_i ht1 _
     refine dZ (d79 _ _ _ _) ?_;rintro ⟨q2,u⟩ hq2;dsimp only at hq2 ⊢;with_reducible repeat' (first | apply dP | apply dX<;>intro _)
     · intro h;cases h
     · rename_i ht2 _ _
       refine dZ (d80 _ (by simp only [List.length_drop,List.length_take];omega)) ?_;rintro ⟨q3,u⟩ -
       dsimp only;with_reducible repeat' (first | apply dP | apply dX<;>intro _)
       · intro h;cases h
       · refine dZ (f6h h l (by omega) ((l.length:Int) - 1) (by omega) (by omega)) ?_
         intro z hz';cases z with
         | inl z =>
          refine dP fun hn => ?_;have hk:(l.length:Int) - 1=1:=hz' hn;have h2:=hq2 ht2;rw [hk] at h2;exact w0g s l o (by rw [hR,he]) (by omega) (hq1 ht1) h2
         | inr z=>exact dP fun h=>by cases h
     all_goals (refine dO ?_;omega)
   all_goals (refine dO ?_;omega)
 all_goals (refine dO ?_;omega)
end
def jn (q:List (List UInt8)) (r:List UInt8):List UInt8:=q.flatMap (fun p=>p++[46])++r
def Atm (p:List UInt8):Prop:=p≠[]∧p.all jt=true
def Wd (w:List UInt8):Prop:=∃q r,w=jn q r∧(∀p∈q,Atm p)∧Atm r
theorem q1r (x:List UInt8) (q r):jn (x::q) r=x++46::jn q r:=by simp [jn]
theorem x6t:((List.range 256).all fun n=>(fun c:UInt8=>kk (c.toNat:Int)||jt c) (UInt8.ofNat n))=true:=by kernel_rfl
theorem k8s {c:UInt8} (h:kk (c.toNat:Int)=false):jt c=true:=by
 have:=wb (fun c:UInt8=>kk (c.toNat:Int)||jt c) x6t c;simp only [h,Bool.false_or] at this;exact this
theorem y5m:∀(w cur:List UInt8),cur.all jt=true→run true (if cur=[] then 1 else 0) (bi w)=0→Wd (cur++w)
 | [],cur,hc,h=>by
  have hne:cur≠[]:=fun e=>by rw [if_pos e] at h;cases h
  exact ⟨[],cur,by simp [jn],fun p hp=>(by cases hp),hne,hc⟩
 | c::w,cur,hc,h=>by
  have hb:bi (c::w)=(c.toNat:Int)::bi w:=rfl;rw [hb,q3o] at h;cases hk:kk (c.toNat:Int) with
  | false =>
   rw [q2a true hk,if_neg (by split<;>omega)] at h;have:=y5m w (cur++[c]) (by rw [List.all_append,hc];simp [k8s hk]) (by rw [if_neg (by simp)];exact h);simpa using this
  | true =>
   by_cases h46:(c.toNat:Int)=46
   · have hc46:c=46:=UInt8.toNat_inj.1 (by show c.toNat=46;omega)
     by_cases hcur:cur=[]
     · exfalso
       rw [if_pos hcur] at h;have h2:2≤stp true 1 (c.toNat:Int):=by
        unfold stp;rw [if_neg (by omega),if_pos hk,if_pos ⟨h46,rfl⟩];exact Nat.le_refl _
       have:=q5r true (bi w) h2;omega
     · rw [if_neg hcur] at h
       have e:stp true 0 (c.toNat:Int)=1:=by
        unfold stp;rw [if_neg (by omega),if_pos hk,if_pos ⟨h46,rfl⟩]
       rw [e] at h;obtain ⟨q,r,e2,h1,h2⟩:=y5m w [] rfl (by rw [if_pos rfl];exact h);refine ⟨cur::q,r,?_,?_,h2⟩
       · rw [List.nil_append] at e2
         rw [q1r,←e2,hc46]
       · intro p hp
         rcases List.mem_cons.1 hp with rfl | hp
         · exact ⟨hcur,hc⟩
         · exact h1 p hp
   · exfalso
     have h2:∀s,2≤stp true s (c.toNat:Int):=by
      intro s;unfold stp;by_cases h2:2≤s
      · rw [if_pos h2];exact Nat.le_refl _
      · rw [if_neg h2,if_pos hk,if_neg (fun h=>h46 h.1)]
        exact Nat.le_refl _
     have:=q5r true (bi w) (h2 (if cur=[] then 1 else 0));omega
theorem b2b {w:List UInt8} (h:run true 1 (bi w)=0):Wd w:=by
 have:=y5m w [] rfl (by rw [if_pos rfl];exact h);simpa using this
theorem v6n:(!jt 46&&q6f 46&&(!jt 64&&q6f 64)&&(!jt 91 && !q6f 91))=true:=by kernel_rfl
theorem k9n (X:List UInt8):one 46 X=(2,.ok [46] 1):=by
 have h:=v6n;simp only [Bool.and_eq_true,Bool.not_eq_true'] at h;unfold one;rw [if_neg (by rw [h.1.1.1];decide),if_pos h.1.1.2]
theorem g7e (X:List UInt8):one 64 X=(2,.ok [64] 1):=by
 have h:=v6n;simp only [Bool.and_eq_true,Bool.not_eq_true'] at h;unfold one;rw [if_neg (by rw [h.1.2.1];decide),if_pos h.1.2.2]
theorem x7e (X:List UInt8):stops jt (46::X):=by
 have h:=v6n;simp only [Bool.and_eq_true,Bool.not_eq_true'] at h;exact h.1.1.1
theorem v6s (X:List UInt8):stops jt (64::X):=by
 have h:=v6n;simp only [Bool.and_eq_true,Bool.not_eq_true'] at h;exact h.1.2.1
theorem g6t {X:List UInt8} {l:List Tok} {p:Nat} (h:ym X (p+1) = .inl l):ym (64::X) p = .inl ((2,[64],(p:Int))::l):=by
 rw [km (g7e X),show (64::X).drop 1=X from rfl,h];rfl
theorem z7c {x X:List UInt8} (hx:Atm x) (hX:stops jt X) (p:Nat):ym (x++X) p=z9z (0,x,(p:Int)) (ym X (p+x.length)):=by
 obtain ⟨hne,ha⟩:=hx;cases x with
 | nil=>exact (hne rfl).elim
 | cons c y =>
  have hal:=v0z hX (c::y) ha;have hc:jt c=true:=by
   simp only [List.all_cons,Bool.and_eq_true] at ha;exact ha.1
  have ho:one c (y++X)=(0,.ok (c::y) (y.length+1)):=by
   unfold one;rw [if_pos hc];rw [List.cons_append] at hal;rw [hal,List.length_cons,←List.cons_append];rw [show y.length+1=(c::y).length from rfl,List.take_left]
  rw [List.cons_append,km ho,←List.cons_append,show y.length+1=(c::y).length from rfl,List.drop_left]
def wt:List (List UInt8)→List UInt8→Nat→List Tok
 | [],r,p=>[(0,r,(p:Int))]
 | x::q,r,p=>(0,x,(p:Int))::(2,[46],((p+x.length:Nat):Int))::wt q r (p+x.length+1)
theorem y4p (X:List UInt8) (l:List Tok) (hX:stops jt X):∀(q:List (List UInt8)) (r:List UInt8) (p:Nat),(∀p∈q,Atm p)→Atm r→ym X (p+(jn q r).length) = .inl l→ym (jn q r++X) p = .inl (wt q r p++l)
 | [],r,p,hq,hr,h=>by
  have e:jn [] r=r:=rfl;rw [e] at h ⊢;rw [z7c hr hX,h];rfl
 | x::q,r,p,hq,hr,h=>by
  rw [q1r,List.length_append,List.length_cons] at h;rw [q1r,List.append_assoc,List.cons_append,z7c (hq x List.mem_cons_self) (x7e _),km (k9n _)];rw [show (46::(jn q r++X)).drop 1=jn q r++X from rfl,y4p X l hX q r _ (fun y hy=>hq y (List.mem_cons_of_mem _ hy)) hr (by rw [←h];congr 1;omega)];rfl
theorem x2o (q:List (List UInt8)) (r:List UInt8) (p:Nat):∃x a t,wt q r p=(0,x,a)::t:=by
 cases q with
 | nil=>exact ⟨_,_,_,rfl⟩
 | cons y q=>exact ⟨_,_,_,rfl⟩
theorem v2m (acc x:List UInt8) (a a':Int) (l:List Tok):dwn acc ((2,[46],a)::(0,x,a')::l)=((dwn (acc++([46]++x)) l).1,(dwn (acc++([46]++x)) l).2+2):=by
 conv=>lhs;unfold dwn
 rfl
theorem v2o (l:List Tok) (hl:∀acc,dwn acc l=(acc,0)):∀(q:List (List UInt8)) (r:List UInt8) (p:Nat) (acc:List UInt8) (a:Int),dwn acc ((2,[46],a)::(wt q r p++l))=(acc++([46]++jn q r),(wt q r p).length+1)
 | [],r,p,acc,a=>by
  show dwn acc ((2,[46],a)::(0,r,(p:Int))::l)=_;simp only [dwn,beq_self_eq_true,Bool.and_self,cond_true,hl];rfl
 | x::q,r,p,acc,a=>by
  show dwn acc ((2,[46],a)::(0,x,(p:Int))::((2,[46],((p+x.length:Nat):Int))::(wt q r (p+x.length+1)++l)))=_;have ih:=v2o l hl q r (p+x.length+1) (acc++([46]++x)) ((p+x.length:Nat):Int);rw [v2m];rw [ih,q1r];simp [wt]
theorem v2k (l:List Tok) (hl:∀acc,dwn acc l=(acc,0)) (q:List (List UInt8)) (r:List UInt8) (p:Nat):dot (wt q r p++l)=(jn q r,true,(wt q r p).length):=by
 cases q with
 | nil =>
  show dot ((0,r,(p:Int))::l)=_;simp only [dot,beq_self_eq_true,cond_true,hl];rfl
 | cons x q =>
  show dot ((0,x,(p:Int))::((2,[46],((p+x.length:Nat):Int))::(wt q r (p+x.length+1)++l)))=_;simp only [dot,beq_self_eq_true,cond_true,v2o l hl,q1r];simp [wt]
def Dn (l:List Tok):Prop:=∀acc,dwn acc l=(acc,0)
def Nw (l:List Tok):Prop:=l≠[]∧∀x∈l,(x.1==4||x.1==3)=false
theorem v7a:∀(q:List (List UInt8)) (r:List UInt8) (p:Nat),Nw (wt q r p)
 | [],r,p=>⟨by simp [wt],fun x hx=>by simp only [wt,List.mem_singleton] at hx;subst hx;rfl⟩
 | y::q,r,p=>⟨by simp [wt],fun x hx=>by
  simp only [wt,List.mem_cons] at hx;rcases hx with rfl | rfl | hx
  · rfl
  · rfl
  · exact (v7a q r _).2 x hx⟩
def j8l (w:List UInt8) (f:List Tok→Bool×List UInt8×Nat) (v:List UInt8):Prop :=
 ∀p:Nat,∃ts,Nw ts∧(∀(X:List UInt8) (l:List Tok),stops jt X→ym X (p+w.length) = .inl l→ym (w++X) p = .inl (ts++l))∧∀l,Dn l→f (ts++l)=(true,v,ts.length)∧skn (ts++l)=0
theorem v4l (x:List UInt8) (a:Int) (l:List Tok):loc ((0,x,a)::l)=((dot ((0,x,a)::l)).2.1,(dot ((0,x,a)::l)).1,(dot ((0,x,a)::l)).2.2):=rfl
theorem v2h (x:List UInt8) (a:Int) (l:List Tok):dom ((0,x,a)::l)=((dot ((0,x,a)::l)).2.1,(dot ((0,x,a)::l)).1,(dot ((0,x,a)::l)).2.2):=rfl
theorem k8u {w:List UInt8} (h:Wd w):j8l w loc w:=by
 obtain ⟨q,r,rfl,hq,hr⟩:=h;intro p;refine ⟨wt q r p,v7a q r p,fun X l hX hl=>y4p X l hX q r p hq hr hl,fun l hl => ?_⟩;have hd:=v2k l hl q r p;obtain ⟨x,a,t,ht⟩:=x2o q r p;rw [ht] at hd ⊢;refine ⟨?_,rfl⟩;rw [List.cons_append] at hd ⊢;rw [v4l,hd]
theorem k3l {w:List UInt8} (h:Wd w):j8l w dom w:=by
 obtain ⟨q,r,rfl,hq,hr⟩:=h;intro p;refine ⟨wt q r p,v7a q r p,fun X l hX hl=>y4p X l hX q r p hq hr hl,fun l hl => ?_⟩;have hd:=v2k l hl q r p;obtain ⟨x,a,t,ht⟩:=x2o q r p;rw [ht] at hd ⊢;refine ⟨?_,rfl⟩;rw [List.cons_append] at hd ⊢;rw [v2h,hd]
theorem g8l (a:List UInt8):src 1 a=34::(esc a++[34]):=by simp [src]
theorem g6v {a:List UInt8} (h:a.all zf=true):j8l (src 1 a) loc a:=by
 intro p;refine ⟨[(1,a,(p:Int))],⟨by simp,fun x hx=>by rw [List.mem_singleton] at hx;subst hx;rfl⟩,fun X l hX hl => ?_,fun l hl=>⟨rfl,rfl⟩⟩;rw [g8l] at hl ⊢;have e:(34::(esc a++[34]))++X=34::(esc a++34::X):=by simp
 have ho:one 34 (esc a++34::X)=(1,.ok a ((34::(esc a++[34])).length)):=by
  rw [b1l,(v6g a X).1 h];show (1,Tk.ok a (1+((esc a).length+1)))=_;rw [List.length_cons,List.length_append,List.length_singleton,Nat.add_comm 1]
 rw [e,km ho,←e,List.drop_left,hl];rfl
theorem w8l (r:List UInt8):one 91 r=(5,(ltk r).up):=by
 have h:=v6n;simp only [Bool.and_eq_true,Bool.not_eq_true'] at h;unfold one;rw [if_neg (by rw [h.2.1];decide),if_neg (by rw [h.2.2];decide),if_neg (by decide),if_pos (show UInt8.toNat 91=91 from rfl)]
theorem x1c {b t:List UInt8} {n:Int} (h:ym b 0 = .inl [(5,t,n)]):src 5 t=b:=by
 have:=(z0l b.length b 0 _ (Nat.le_refl _) h).2.2 (by intro x hx;rw [List.mem_singleton] at hx;subst hx;show (5:Int)≠1;decide);simpa [y5g] using this
theorem g8m (t:List UInt8):src 5 t=91::(t++[93]):=by simp [src]
theorem v2g {b t:List UInt8} {n:Int} (h:ym b 0 = .inl [(5,t,n)]):j8l b dom b:=by
 have hb:=x1c h;have hu:∃u,ltk (t++93::[]) = .ok t u:=by
  rw [←hb,g8m] at h;obtain ⟨k,t',u,l',h1,h2,h3⟩:=j9u h;rw [w8l] at h1;simp only [List.cons.injEq,Prod.mk.injEq] at h3 h1;obtain ⟨u',h4,-⟩:=z0n h1.2;rw [←h3.1.2.1] at h4;exact ⟨u',h4⟩
 obtain ⟨u,hu⟩:=hu;intro p;refine ⟨[(5,t,(p:Int))],⟨by simp,fun x hx=>by rw [List.mem_singleton] at hx;subst hx;rfl⟩,fun X l hX hl => ?_,fun l hl=>⟨?_,rfl⟩⟩
 · rw [←hb,g8m] at hl ⊢
   have e:(91::(t++[93]))++X=91::(t++93::X):=by simp
   have hl2:=(z7e hu).1;have ho:one 91 (t++93::X)=(5,.ok t ((91::(t++[93])).length)):=by
    rw [w8l,v4m X hu];show (5,Tk.ok t (1+u))=_;rw [hl2,List.length_cons,List.length_append,List.length_singleton,Nat.add_comm 1]
   rw [e,km ho,←e,List.drop_left,hl];rfl
 · show (true,src 5 t,1)=_
   rw [hb];rfl
def Wh (l:List Tok):Prop:=∀x∈l,(x.1==4||x.1==3)=true
theorem z7t:∀(w l:List Tok),Wh w→skn (w++l)=w.length+skn l
 | [],l,_=>by simp
 | x::w,l,h=>by
  rw [List.cons_append];simp only [skn,h x List.mem_cons_self,cond_true,z7t w l (fun y hy=>h y (List.mem_cons_of_mem _ hy)),List.length_cons];omega
theorem x0s {t:Tok} {l:List Tok} (h:(t.1==2&&t.2.1==[46])=false):Dn (t::l):=by
 intro acc;cases l with
 | nil=>rfl
 | cons u r=>simp only [dwn,h,Bool.false_and,cond_false]
theorem g4l:Dn []:=fun acc=>rfl
theorem f6k {w l:List Tok} (hw:Wh w) (hl:Dn l):Dn (w++l):=by
 cases w with
 | nil=>exact hl
 | cons x w =>
  refine x0s ?_;have:=hw x List.mem_cons_self;have h2:(x.1==2)=false:=by
   cases h:(x.1==2) with
   | false=>rfl
   | true =>
    have h3:x.1=2:=eq_of_beq h;rw [h3] at this;cases this
  rw [h2];rfl
theorem f6v {a b:List UInt8} {w1 w2 w3 ts td z:List Tok} {n:Int} (h1:Wh w1) (h2:Wh w2) (h3:Wh w3) (hz:Dn z)
 (hL:∀l,Dn l→loc (ts++l)=(true,a,ts.length)∧skn (ts++l)=0) (hD:∀l,Dn l→dom (td++l)=(true,b,td.length)∧skn (td++l)=0) :
 mt (w1++(ts++(w2++((2,[64],n)::(w3++(td++z))))))=some (a,b,w1.length+ts.length+w2.length+1+w3.length+td.length+skn z):=by
 have hn:Dn (w2++((2,[64],n)::(w3++(td++z)))):=f6k h2 (x0s rfl);obtain ⟨h4,h5⟩:=hL _ hn;obtain ⟨h6,h7⟩:=hD _ hz;have s1:skn (w1++(ts++(w2++((2,[64],n)::(w3++(td++z))))))=w1.length:=by rw [z7t _ _ h1,h5,Nat.add_zero]
 have e1:(w1++(ts++(w2++((2,[64],n)::(w3++(td++z)))))).drop w1.length=ts++(w2++((2,[64],n)::(w3++(td++z)))):=List.drop_left;have e2:(w1++(ts++(w2++((2,[64],n)::(w3++(td++z)))))).drop (w1.length+ts.length)=w2++((2,[64],n)::(w3++(td++z))):=by
  rw [←List.drop_drop,e1,List.drop_left]
 have s2:skn (w2++((2,[64],n)::(w3++(td++z))))=w2.length:=by rw [z7t _ _ h2];rfl
 have e3:(w1++(ts++(w2++((2,[64],n)::(w3++(td++z)))))).drop (w1.length+ts.length+w2.length)=(2,[64],n)::(w3++(td++z)):=by
  rw [←List.drop_drop,e2,List.drop_left]
 have e4:(w1++(ts++(w2++((2,[64],n)::(w3++(td++z)))))).drop (w1.length+ts.length+w2.length+1)=w3++(td++z):=by
  rw [←List.drop_drop,e3];rfl
 have s3:skn (w3++(td++z))=w3.length:=by rw [z7t _ _ h3,h7,Nat.add_zero]
 have e5:(w1++(ts++(w2++((2,[64],n)::(w3++(td++z)))))).drop (w1.length+ts.length+w2.length+1+w3.length)=td++z:=by
  rw [←List.drop_drop,e4,List.drop_left]
 have e6:(w1++(ts++(w2++((2,[64],n)::(w3++(td++z)))))).drop (w1.length+ts.length+w2.length+1+w3.length+td.length)=z:=by
  rw [←List.drop_drop,e5,List.drop_left]
 have hs:sgn [64] ((2,[64],n)::(w3++(td++z)))=true:=rfl;unfold mt;simp only [s1,e1,h4,e2,s2,e3,hs,e4,s3,e5,h6,e6,Bool.not_true,cond_false]
theorem d3n (s:List UInt8):Pf (q2m (s,[46],())) (fun y=>0≤y.1→s[y.1.toNat]? = some 46):=by
 unfold q2m v8j;dsimp only;exact pZ (b1p s) fun _ h=>pP h
theorem q6g {α:Type} (l:List α) (i:Nat) (v:α) (h:i<l.length):(l.set i v).take (i+1)=l.take i++[v]:=by
 rw [ql (by rw [List.length_set];exact h),List.getElem_set_self];congr 1;exact List.take_set_of_le (Nat.le_refl _)
def jq (q:List (List UInt8)):List UInt8:=q.flatMap (fun p=>p++[46])
theorem d3g (s:List UInt8) (hs:s.length≤1000000000):Pf (y2j (s,[46],0,-1,())) (fun y=>∃q r,y.1=q++[r]∧s=jn q r):=by
 unfold y2j v8b;dsimp only;rw [show ((-1:Int)==0)=false from rfl,show (([46]:List UInt8)==[])=false from rfl,show decide ((-1:Int)<0)=true from rfl];simp only [cond_false,cond_true];refine pZ pT ?_;rintro ⟨c,u⟩ -
 dsimp only;generalize IntKind.i64.wrap (c+1)=m;refine pZ (P:=fun y=>∃q r,y.1=q++[r]∧s=jn q r) ?_ fun _ h=>pP h;unfold q7t j5w;dsimp only;generalize (if IntKind.i64.wrap ((s.length:Int)+1)<m then IntKind.i64.wrap ((s.length:Int)+1) else m)=M;refine pX (fun hM => ?_) (fun _=>pN);have hM':M≤140737488355328:=by
  simp only [Bool.and_eq_true,decide_eq_true_eq] at hM;omega
 refine pZ (P:=fun y=>0≤y.2.1∧y.2.2.1.length≤140737488355328∧s=jq (y.2.2.1.take y.2.1.toNat)++y.1) ?_ ?_
 · refine pL ?I ?h _ ?hv
   case I=>exact (fun v=>∃(x:List UInt8) (N i:Int) (rows:List (List UInt8)),0≤i∧rows.length≤140737488355328∧s=jq (rows.take i.toNat)++x∧v=(x,[46],0,N,i,rows,()))
   case hv=>exact ⟨_,_,_,_,Int.le_refl _,by rw [List.length_replicate];omega,by simp [jq],rfl⟩
   rintro v ⟨x,N,i,rows,h0,hr,h1,rfl⟩;unfold j5x;dsimp only;with_reducible repeat' (first | exact pN | apply pP | apply pX<;>intro _)
   · refine pZ (d3n x) ?_
     rintro ⟨k,u⟩ hk;dsimp only at hk ⊢;rw [show (([46]:List UInt8).length:Int)=1 from rfl];have hxs:x.length≤s.length:=by rw [h1];simp
     refine pX (fun _=>pP ⟨h0,hr,h1⟩) (fun hneg => ?_);have h4:=hk (by omega);have hlt:k.toNat<x.length:=by
      rcases Nat.lt_or_ge k.toNat x.length with h | h
      · exact h
      · rw [List.getElem?_eq_none h] at h4;cases h4
     rw [List.getElem?_eq_getElem hlt,Option.some.injEq] at h4;rw [qg (n:=k+0) (by omega),qg (n:=k+1) (by omega),Int.add_zero];refine pX (fun _ => ?_) (fun _=>pN);refine pX (fun hi => ?_) (fun _=>pN);refine pX (fun _ => ?_) (fun _=>pN);rw [qg (n:=i+1) (by omega)];have hil:i.toNat<rows.length:=by omega
     refine pP ⟨_,_,_,_,by omega,by rw [List.length_set];exact hr,?_,rfl⟩;rw [show (i+1).toNat=i.toNat+1 by omega,q6g _ _ _ hil];conv=>lhs;rw [h1,←List.take_append_drop k.toNat x,←List.getElem_cons_drop hlt,h4]
     rw [show (k+1).toNat=k.toNat+1 by omega];simp [jq]
   · exact ⟨h0,hr,h1⟩
 · rintro ⟨x,i,rows,u⟩ ⟨h0,hr,h1⟩
   dsimp only at h0 hr h1 ⊢;refine pX (fun h2 => ?_) (fun _=>pN);refine pX (fun h3 => ?_) (fun _=>pN);have hil:i.toNat<rows.length:=by omega
   refine pP ⟨rows.take i.toNat,x,?_,h1⟩;dsimp only;rw [qg (n:=i+1) (by omega),show (i+1).toNat=i.toNat+1 by omega,q6g _ _ _ hil]
theorem p47 (s:List UInt8) (hs:s.length≤1000000000):Pf (C47 (s,())) (fun y=>y.1=true→Atm s):=by
 unfold C47 F47;dsimp only;refine pZ (P:=Sum.elim (fun y=>y.1=s∧s.all jt=true) (fun y=>y.1=false)) ?_ ?_
 · refine pL ?I ?h _ ?hv
   case I=>exact (fun v=>∃k:Int,0≤k∧k≤s.length∧(s.take k.toNat).all jt=true∧v=(s,(s.length:Int),k,()))
   case hv=>exact ⟨0,Int.le_refl _,by omega,rfl,rfl⟩
   rintro v ⟨k,h0,h1,h2,rfl⟩;unfold z5s;dsimp only;with_reducible repeat' (first | exact pN | apply pP | apply pX<;>intro _)
   · have hlt:k.toNat<s.length:=by omega
     rw [c17];simp only [Option.bind_some];with_reducible repeat' (first | exact pN | apply pP | apply pX<;>intro _)
     · exact rfl
     · rename_i ha
       rw [qg (n:=k+1) (by omega)];refine ⟨_,by omega,by omega,?_,rfl⟩;rw [getD_lt hlt] at ha;rw [show (k+1).toNat=k.toNat+1 by omega,ql hlt,List.all_append,h2];simp [ha]
   · rw [List.take_of_length_le (by omega)] at h2
     exact ⟨rfl,h2⟩
 · intro z hz
   refine pS hz ?_ ?_
   · rintro ⟨x,u⟩ ⟨h1,h2⟩
     dsimp only at h1;subst h1;refine pP fun h=>⟨fun e => ?_,h2⟩
     dsimp only at h;subst e;cases h
   · rintro ⟨b,u⟩ hb
     dsimp only at hb;subst hb;exact pP fun h=>by cases h
theorem v3d:∀(q:List (List UInt8)) (r:List UInt8),q.length≤(jn q r).length
 | [],r=>Nat.zero_le _
 | x::q,r=>by
  have:=v3d q r;rw [q1r];simp only [List.length_append,List.length_cons];omega
theorem p88 (s:List UInt8) (hs:s.length≤1000000000):Pf (C88 (s,())) (fun y=>y.1=true→Wd s):=by
 unfold C88 F88;dsimp only;refine pZ (P:=fun y=>(∃q r,y.1=q++[r]∧s=jn q r)∧∀p∈y.1,p.length≤s.length) ?_ ?_
 · unfold z7y v7q
   dsimp only;refine pZ (pA (d3g s hs) (f5l s hs).pf) ?_;rintro y ⟨h1,h2⟩;exact pP ⟨h1,h2.2⟩
 rintro ⟨ps,u⟩ ⟨⟨q,r,hq,hr⟩,hl⟩;dsimp only at hq hl ⊢;refine pZ (P:=Sum.elim (fun _=>∀p∈ps,Atm p) (fun y=>y.1=false)) ?_ ?_
 · refine pL ?I ?h _ ?hv
   case I=>exact (fun v=>∃k:Int,0≤k∧(∀p∈ps.take k.toNat,Atm p)∧v=(ps,(ps.length:Int),k,()))
   case hv=>exact ⟨0,Int.le_refl _,fun p hp=>(by cases hp),rfl⟩
   rintro v ⟨k,h0,h2,rfl⟩;unfold z5t;dsimp only;with_reducible repeat' (first | exact pN | apply pP | apply pX<;>intro _)
   · rename_i hk1 hk2
     have hlt:k.toNat<ps.length:=by omega
     have hmem:ps.getD k.toNat []∈ps:=by rw [getD_lt hlt];exact List.getElem_mem _
     refine pZ (p47 _ (by have:=hl _ hmem;omega)) ?_;rintro ⟨b,u⟩ hb;dsimp only at hb ⊢;with_reducible repeat' (first | exact pN | apply pP | apply pX<;>intro _)
     · exact rfl
     · rename_i hbt
       have ha:=hb hbt;rw [getD_lt hlt] at ha;have hkb:IntKind.i64.wrap (k+1)=k+1∨k≥9000000000000000000:=by
        by_cases h:k≥9000000000000000000
        · exact .inr h
        · exact .inl (qg (by omega))
       have hpl:ps.length≤s.length+1:=by
        have:=v3d q r;rw [hq,hr,List.length_append,List.length_singleton];omega
       rw [qg (n:=k+1) (by omega)];refine ⟨_,by omega,fun p hp => ?_,rfl⟩;rw [show (k+1).toNat=k.toNat+1 by omega,ql hlt] at hp;rcases List.mem_append.1 hp with hp | hp
       · exact h2 p hp
       · rw [List.mem_singleton] at hp
         subst hp;exact ha
   · rw [List.take_of_length_le (by omega)] at h2
     exact h2
 · intro z hz
   refine pS hz ?_ ?_
   · intro u h
     refine pP fun _=>⟨q,r,hr,fun p hp=>h p (by rw [hq];exact List.mem_append_left _ hp),h r (by rw [hq];simp)⟩
   · rintro ⟨b,u⟩ hb
     dsimp only at hb;subst hb;exact pP fun h=>by cases h
theorem v2x (s:List UInt8) (i:Nat):(⟨⟨s⟩⟩:ByteArray).get! i=s.getD i 0:=by
 show (⟨s⟩:Array UInt8)[i]! = _;rcases Nat.lt_or_ge i s.length with h | h
 · rw [getElem!_pos _ _ (by simpa using h),getD_lt h]
   simp
 · rw [getElem!_neg _ _ (by simpa using h),List.getD_eq_getElem?_getD,List.getElem?_eq_none h]
   rfl
theorem x6i (s:List UInt8) (p j:Nat) (h1:1≤j) (h2:j<(wc s p).2):128≤(s.getD (p+j) 0).toNat:=by
 have hsz:(⟨⟨s⟩⟩:ByteArray).size=s.length:=by simp [ByteArray.size]
 unfold wc Utf8.decode at h2;simp only [v2x] at h2;repeat' split at h2
 all_goals try (dsimp only at h2;omega)
 all_goals
  rename_i hc _;simp only [Bool.and_eq_true,decide_eq_true_eq,beq_iff_eq] at hc;dsimp only at h2;have hj:j=1∨j=2∨j=3:=by omega
  rcases hj with rfl | rfl | rfl<;>omega
theorem p85 (x:Int):Pf (C85 (x,())) (fun y=>y.1=false→x=9∨(32≤x∧x≠127)):=by
 unfold C85 F85;dsimp only;with_reducible repeat' (first | exact pN | apply pP | apply pX<;>intro _)
 · exact fun h=>by cases h
 · rename_i h1 h2
   intro h;have h':(x==127)=false:=h;have:x≠127:=by simpa using h'
   exact .inr ⟨by omega,this⟩
 · rename_i h
   exact fun _ => .inl h
theorem x0w {c:UInt8} (h:128≤c.toNat):zf c=true:=by
 rw [←j9p];unfold j1g;rw [decide_eq_true (show 32≤c.toNat by omega),decide_eq_false (show ¬c.toNat=127 by omega)];simp
theorem g7o (s:List UInt8) (hs:s.length≤1000000000000000):Pf (q6k (s,true,())) (fun y=>y.1<0→s.all zf=true):=by
 unfold q6k z4u;dsimp only;refine pZ (P:=Sum.elim (fun y=>0≤y.1) (fun _=>s.all zf=true)) ?_ ?_
 · refine pL ?I ?h _ ?hv
   case I=>exact (fun v=>∃p:Nat,v=(true,(s,(p:Int)),())∧∀i,i<p→i<s.length→zf (s.getD i 0)=true)
   case hv=>exact ⟨0,rfl,fun i h=>by omega⟩
   rintro v ⟨p,rfl,h1⟩;unfold q4b;dsimp only;simp only [Int.toNat_natCast];with_reducible repeat' (first | exact pN | apply pP | apply pX<;>intro _)
   · rename_i hp
     refine pZ (p85 _) ?_;rintro ⟨b,u⟩ hb;dsimp only at hb ⊢;cases b with
     | true=>exact pP (by show (0:Int)≤(p:Int);omega)
     | false =>
      refine pP ⟨_,rfl,fun i hi hil => ?_⟩;by_cases hip:i<p
      · exact h1 i hip hil
      · by_cases he:i=p
        · subst he
          have hb':=hb rfl;by_cases hlo:s[i].toNat<128
          · rw [z2a hp hlo] at hb'
            dsimp only at hb';rw [getD_lt hil,←j9p];unfold j1g;rcases hb' with hb' | hb'
            · rw [decide_eq_true (show s[i].toNat=9 by omega)];rfl
            · rw [decide_eq_true (show 32≤s[i].toNat by omega),decide_eq_false (show ¬s[i].toNat=127 by omega)];simp
          · rw [getD_lt hil]
            exact x0w (by omega)
        · have:=x6i s p (i - p) (by omega) (by omega)
          rw [show p+(i - p)=i by omega] at this;exact x0w this
   · rename_i hp
     show s.all zf=true;rw [List.all_eq_true];intro c hc;obtain ⟨i,hi,rfl⟩:=List.mem_iff_getElem.1 hc;have:=h1 i (by omega) hi;rw [getD_lt hi] at this;exact this
 · intro z hz
   refine pS hz ?_ ?_
   · rintro ⟨a,u⟩ h
     exact pP fun hn=>by
      have h':0≤a:=h;have hn':a<0:=hn;omega
   · intro u h
     exact pP fun _=>h
theorem b1w (s:List UInt8) (hs:s.length≤1000000000000000):Pf (j8h (s,())) (fun y=>y.1=false→s.all zf=true):=by
 unfold j8h y9a;dsimp only;refine pZ (P:=fun y=>y.1<0→s.all zf=true) ?_ ?_
 · unfold j7q z4j
   dsimp only;exact pZ (g7o s hs) fun _ h=>pP h
 · rintro ⟨a,u⟩ h
   refine pP fun hb=>h ?_;dsimp only at hb ⊢;simp only [decide_eq_false_iff_not] at hb;omega
theorem b1v (s:List UInt8) (hs:s.length≤1000000):Pf (C83 (s,())) (fun y=>y.2.1<0→utf s=none):=by
 obtain ⟨o,ho⟩:=c15 s hs;rw [ho];refine pP fun h => ?_;dsimp only at h;cases hu:utf s with
 | none=>rfl
 | some b=>rw [hu] at h;exact (Int.not_lt.2 (Int.natCast_nonneg b) h).elim
section
variable {T:List R6} {A:List R4} {B:List R3}
theorem b1o (s:List UInt8) (hs:s.length≤1000000):Pf (j2d (T,A,B,s,())) (fun y=>y.2.1=true→utf s=none):=by
 unfold j2d x9r;dsimp only;refine pZ (b1v s hs) ?_;rintro ⟨l,at_,u⟩ hl;dsimp only at hl ⊢;with_reducible repeat' (first | exact pN | apply pP | apply pX<;>intro _)
 · exact fun h=>by cases h
 · rename_i hat
   have:=hl (by omega);exact pZ pT fun _ _=>pZ pT fun _ _=>pZ pT fun _ _=>pZ pT fun _ _=>pP fun _=>this
theorem b1m (s:List UInt8) (hs:s.length≤1000000):Pf (z3g (T,A,B,s,())) (fun y=>y.2.2.1=0→utf s=none):=by
 unfold z3g;dsimp only;refine pZ (b1o s hs) ?_;rintro ⟨f,ok,u⟩ hf;dsimp only at hf ⊢;cases ok with
 | true=>exact pM pT fun _ _ _=>hf rfl
 | false =>
  rw [show q0j f false=some ([],7) from rfl];exact pP fun h=>by cases h
def Rm (a b:List UInt8):Prop:=a≠[]∧a.length≤64∧utf a=none∧a.all zf=true∧utf b=none∧((∃t n,ym b 0 = .inl [(5,t,n)])∨Wd b)
theorem p44 (h:TK T A B) (hK:KT T A B) (a b:List UInt8) (ha:a.length≤100000) (hb:b.length≤3000):Pf (C44 (T,A,B,a,b,())) (fun y=>y.1=0→Rm a b):=by
 unfold C44 F44;dsimp only;refine pZ (b1v a (by omega)) ?_;rintro ⟨o,at_,u⟩ hu;dsimp only at hu ⊢;refine pX (fun _=>pP (fun h=>by cases h)) (fun hne => ?_);have hne':a≠[]:=by simpa using hne
 refine pX (fun _=>pP (fun h=>by cases h)) (fun hlen => ?_);refine pX (fun _=>pP (fun h=>by cases h)) (fun hat => ?_);have hu':=hu (by omega);refine pZ (b1w a (by omega)) ?_;rintro ⟨st,u⟩ hst;dsimp only at hst ⊢;refine pX (fun _=>pP (fun h=>by cases h)) (fun hsf => ?_);have hmay:=hst hsf;refine pZ pT ?_;rintro ⟨li,u⟩ -
 dsimp only;refine pX (fun _ => ?_) (fun _ => ?_)
 · rw [c11 b]
   simp only [Option.bind_some];refine pX (fun _=>pP (fun h=>by cases h)) (fun he => ?_);refine pX (fun _=>pP (fun h=>by cases h)) (fun h1 => ?_);refine pX (fun _ => ?_) (fun _=>pN);refine pX (fun _=>pP (fun h=>by cases h)) (fun h5 => ?_);refine pP fun _=>⟨hne',by omega,hu',hmay,?_⟩
   unfold q3k at he h1 h5;by_cases h2:2000<b.length
   · rw [if_pos h2] at he
     cases he
   · rw [if_neg h2] at he h1 h5
     cases hub:utf b with
     | some x=>rw [hub] at he;cases he
     | none =>
      rw [hub] at he h1 h5;refine ⟨rfl,.inl ?_⟩;cases hl:ym b 0 with
      | inr x=>rw [hl] at h1;cases h1
      | inl l =>
       rw [hl] at h1 h5;have h1':(l.length:Int)=1:=h1;have h5':(l.getD 0 (0,([],0))).1=5:=h5
       match l,h1',h5' with
       | [(k,t,n)],_,h5' =>
        have:k=5:=h5';subst this;exact ⟨t,n,rfl⟩
 · refine pZ (P:=fun y=>y.2.1=0→run true 1 (bi b)=0∧utf b=none) ?_ ?_
   · unfold C87 F87
     dsimp only;refine pZ (pA (d3b h hK b hb) (b1m b (by omega))) ?_;rintro ⟨x,y,e,u⟩ ⟨h1,h2⟩;exact pP fun h0=>⟨h1 h0,h2 h0⟩
   · rintro ⟨x,e,u⟩ h1
     refine pP fun h0 => ?_;obtain ⟨h2,h3⟩:=h1 h0;exact ⟨hne',by omega,hu',hmay,h3,.inr (b2b h2)⟩
end
def lcl (a:List UInt8):List UInt8:=match C88 (a,()) with
 | some (true,_)=>a
 | _=>src 1 a
def Hd (w:List UInt8):Prop:=∃c r,w=c::r∧zj c=false∧(c==13)=false
theorem d1y:((List.range 256).all fun n=>(fun c:UInt8 => !jt c||(!zj c && !(c==13))) (UInt8.ofNat n))=true:=by kernel_rfl
theorem k5h {c:UInt8} (h:jt c=true):zj c=false∧(c==13)=false:=by
 have:=wb (fun c:UInt8 => !jt c||(!zj c && !(c==13))) d1y c;simp only [h,Bool.not_true,Bool.false_or,Bool.and_eq_true,Bool.not_eq_true'] at this;exact this
theorem v2z {x y:List UInt8} (h:Atm x):Hd (x++y):=by
 obtain ⟨h1,h2⟩:=h;cases x with
 | nil=>exact (h1 rfl).elim
 | cons c x =>
  simp only [List.all_cons,Bool.and_eq_true] at h2;exact ⟨c,x++y,rfl,k5h h2.1⟩
theorem w7f {w:List UInt8} (h:Wd w):Hd w:=by
 obtain ⟨q,r,rfl,hq,hr⟩:=h;cases q with
 | nil =>
  have:=v2z (y:=[]) hr;rw [List.append_nil] at this;exact this
 | cons x q=>rw [q1r];exact v2z (hq x List.mem_cons_self)
theorem f6n:(zj 34||zj 91)=false:=by kernel_rfl
structure Mp (a b:List UInt8):Prop where
 lc:j8l (lcl a) loc a
 dm:j8l b dom b
 ln:(lcl a).length≤130
 vl:Val (lcl a)
 vb:Val b
 hl:Hd (lcl a)
 hb:Hd b
 pr:C45 (a,b,())=some (lcl a++[64]++b,())
theorem f6u {a b:List UInt8} (h:Rm a b) (hb:b.length≤1000):Mp a b:=by
 obtain ⟨h1,h2,h3,h4,h5,h6⟩:=h;have hD:j8l b dom b:=by
  rcases h6 with ⟨t,n,h6⟩ | h6
  · exact v2g h6
  · exact k3l h6
 have hva:Val a:=(j7p (by omega)).1 h3;have hvb:Val b:=(j7p (by omega)).1 h5;have hsk:=f6n;simp only [Bool.or_eq_false_iff] at hsk;have hHb:Hd b:=by
  rcases h6 with ⟨t,n,h6⟩ | h6
  · rw [←x1c h6,g8m];exact ⟨91,_,rfl,hsk.2,rfl⟩
  · exact w7f h6
 obtain ⟨⟨w,u⟩,hw,-⟩:=d88 a (by omega);cases w with
 | true =>
  have e:lcl a=a:=by unfold lcl;rw [hw]
  have hL:=k8u (p88 a (by omega) _ hw rfl);refine ⟨by rw [e];exact hL,hD,by rw [e];omega,by rw [e];exact hva,hvb,by rw [e];exact w7f (p88 a (by omega) _ hw rfl),hHb,?_⟩;rw [e];show F45 C88 C89 _=_;simp only [F45,hw,Option.bind_some,Bool.not_true,cond_false];rw [decide_eq_true (by simp only [List.length_cons,List.length_nil];omega),decide_eq_true (by simp only [List.length_append,List.length_cons,List.length_nil];omega)];rfl
 | false =>
  have e:lcl a=src 1 a:=by unfold lcl;rw [hw]
  have hlen:=j1f a;have hs:(src 1 a).length≤130:=by
   rw [g8l];simp only [List.length_append,List.length_cons,List.length_nil];omega
  have hv:Val (src 1 a):=by
   have e:src 1 a=[]++34::(esc a++34::[]):=by simp [src]
   rw [e];refine Val.glue (by decide) .nil (Val.glue (by decide) ?_ .nil);have:=x2m a [] (by simpa using hva);simpa using this
  refine ⟨by rw [e];exact g6v h4,hD,by rw [e];exact hs,by rw [e];exact hv,hvb,by rw [e,g8l];exact ⟨34,_,rfl,hsk.1,rfl⟩,hHb,?_⟩;rw [e];show F45 C88 C89 _=_;simp only [F45,hw,Option.bind_some,Bool.not_false,cond_true,c9 1 a 0 (by omega)];rw [decide_eq_true (by simp only [List.length_cons,List.length_nil];omega),decide_eq_true (by simp only [List.length_append,List.length_cons,List.length_nil];omega)];rfl
section
variable {T:List R6} {A:List R4} {B:List R3}
end
abbrev j2r:=qa×Bool×Int×Bool×qa×qa×qp×qq×qu×Bool×qa×qa×Unit→Option ((Bool×Unit)⊕(qa×Bool×qp×qq×qu×Unit))
def x8f (f:j2r):LEnt:=⟨w3r,w6z,f⟩
abbrev j2s:=Bool×Int×qp×qq×qu×Bool×qa×qa×Bool×qa×qa×Unit→Option (Bool×Unit)
def x8g (f:j2s):LEnt:=⟨w3s,j3v,f⟩
abbrev j2t:=Bool×qp×qq×qu×Bool×qa×qa×Unit→Option (Bool×Unit)
def x8h (f:j2t):LEnt:=⟨w3t,j3v,f⟩
abbrev j2u:=qa×Bool×qp×qq×qu×Unit→Option (Bool×Unit)
def x8i (f:j2u):LEnt:=⟨w3u,j3v,f⟩
abbrev j2v:=qa×Bool×Bool×qa×qa×Unit→Option (Bool×Unit)
def x8j (f:j2v):LEnt:=⟨w3v,j3v,f⟩
abbrev T12:=Bool×qa×qa×qa×Unit→Option (Bool×Unit)
def E12 (f:T12):FEnt:=⟨w3q,qx,f⟩
def K12 (f18:T18) (f20:T20) (f22:T22) (f37:T37) (f38:T38) (f40:T40) (f41:T41):=lk [(18,E18 f18),(20,E20 f20),(22,E22 f22),(37,E37 f37),(38,E38 f38),(40,E40 f40),(41,E41 f41)]
theorem z2i:zm Tryz.prog (K12 C18 C20 C22 C37 C38 C40 C41):=(kc f7x (kc g7a (kc f8l (kc d2f (kc d2g (kc b1c (kc b1d kn)))))))
def z4k (f18:T18) (f20:T20) (f22:T22) (f37:T37) (f38:T38) (f40:T40) (f41:T41):j2r:=fun (x0,x1,x2,x3,x4,x5,x6,x7,x8,x9,x10,x11,_) =>
 bif x2 != 0 then some (Sum.inl (false,()))
 else
 bif !(x9==x3&&(x10==x4&&(x11==x5&&true)&&true)) then some (Sum.inl (false,()))
 else
 (f41 (x6,x7,x8,x3,x4,x5,x9,x10,x11,())).bind fun v =>
 bif !v.1 then some (Sum.inl (false,())) else some (Sum.inr (x0,x1,x6,x7,x8,()))
theorem g5d (f18:T18) (f20:T20) (f22:T22) (f37:T37) (f38:T38) (f40:T40) (f41:T41):AqC (K12 f18 f20 f22 f37 f38 f40 f41) 0 (qc (code Tryz.f12) [1,1,1,1,1,0,1,0,1]) .nil w3r w6z (z4k f18 f20 f22 f37 f38 f40 f41):=fun v=>by kernel_rfl
def j7r:j2r:=z4k C18 C20 C22 C37 C38 C40 C41
theorem g5w:zb 0 (qc (code Tryz.f12) [1,1,1,1,1,0,1,0,1]) (x8f j7r) :=
 frc z2i (g5d C18 C20 C22 C37 C38 C40 C41)
def z4l (f18:T18) (f20:T20) (f22:T22) (f37:T37) (f38:T38) (f40:T40) (f41:T41):j2s:=fun (x0,x1,x2,x3,x4,x5,x6,x7,x8,x9,x10,_) =>
 bif x0 then
 (f20 (x2,x3,x4,x5,x6,x7,())).bind fun v =>
 bif v.1==0 then
 bif x1==0 then
 some (bif x8==x5 then bif x9==x6&&(x10==x7&&true) then true else false else false,())
 else some (false,())
 else some (false,())
 else some (false,())
theorem g5e (f18:T18) (f20:T20) (f22:T22) (f37:T37) (f38:T38) (f40:T40) (f41:T41):AqC (K12 f18 f20 f22 f37 f38 f40 f41) 0 (qc (code Tryz.f12) [1,1,1,1,1,1,1,1,1]) .nil w3s j3v (z4l f18 f20 f22 f37 f38 f40 f41):=fun v=>by kernel_rfl
def j7s:j2s:=z4l C18 C20 C22 C37 C38 C40 C41
theorem g5x:zb 0 (qc (code Tryz.f12) [1,1,1,1,1,1,1,1,1]) (x8g j7s) :=
 frc z2i (g5e C18 C20 C22 C37 C38 C40 C41)
def g1u (f12_c1:j2s):Ann:=(.cut .nil (x8g f12_c1))
def z4m (f18:T18) (f20:T20) (f22:T22) (f37:T37) (f38:T38) (f40:T40) (f41:T41) (f12_c1:j2s):j2t:=fun (x0,x1,x2,x3,x4,x5,x6,_) =>
 (f22 (x4,x5,x6,())).bind fun v =>
 (f40 (x1,x2,x3,v.1,())).bind fun v =>
 (f12_c1 (x0,v.2.2.2.1,x1,x2,x3,x4,x5,x6,v.1,v.2.1,v.2.2.1,())).bind
 fun v=>some (v.1,())
theorem g5f (f18:T18) (f20:T20) (f22:T22) (f37:T37) (f38:T38) (f40:T40) (f41:T41) (f12_c1:j2s):AqC (K12 f18 f20 f22 f37 f38 f40 f41) 0 (qc (code Tryz.f12) [1,1,1,1,1,1,1,1]) (g1u f12_c1) w3t j3v (z4m f18 f20 f22 f37 f38 f40 f41 f12_c1):=fun v=>by kernel_rfl
def j7t:j2t:=z4m C18 C20 C22 C37 C38 C40 C41 j7s
theorem g5y:zb 0 (qc (code Tryz.f12) [1,1,1,1,1,1,1,1]) (x8h j7t) :=
 frd z2i (And.intro g5x trivial) (g5f C18 C20 C22 C37 C38 C40 C41 j7s)
def g1v (f12_c2:j2t):Ann:=(.seq .nil (.cut .nil (x8h f12_c2)))
def z4n (f18:T18) (f20:T20) (f22:T22) (f37:T37) (f38:T38) (f40:T40) (f41:T41) (f12_c2:j2t):j2u:=fun (x0,x1,x2,x3,x4,_) =>
 (f40 (x2,x3,x4,x0,())).bind fun v =>
 bif v.2.2.2.1 != 0 then
 bif x1 then
 some
 (bif v.1==false then bif v.2.1==[]&&(v.2.2.1==[]&&true) then true else false
 else false,
 ())
 else some (false,())
 else (f12_c2 (x1,x2,x3,x4,v.1,v.2.1,v.2.2.1,())).bind fun v=>some (v.1,())
theorem g5g (f18:T18) (f20:T20) (f22:T22) (f37:T37) (f38:T38) (f40:T40) (f41:T41) (f12_c2:j2t):AqC (K12 f18 f20 f22 f37 f38 f40 f41) 0 (qc (code Tryz.f12) [1,1,1,1,1,1]) (g1v f12_c2) w3u j3v (z4n f18 f20 f22 f37 f38 f40 f41 f12_c2):=fun v=>by kernel_rfl
def j7u:j2u:=z4n C18 C20 C22 C37 C38 C40 C41 j7t
theorem g5z:zb 0 (qc (code Tryz.f12) [1,1,1,1,1,1]) (x8i j7u) :=
 frd z2i (And.intro g5y trivial) (g5g C18 C20 C22 C37 C38 C40 C41 j7t)
def g1w (f12_c0:j2r) (f12_c3:j2u):Ann:=(.seq .nil (.cut (.seq .nil (.cond (.cut .nil (x8f f12_c0)) .nil)) (x8i f12_c3)))
def z4o (f18:T18) (f20:T20) (f22:T22) (f37:T37) (f38:T38) (f40:T40) (f41:T41) (f12_c0:j2r) (f12_c3:j2u):j2v:=fun (x0,x1,x2,x3,x4,_) =>
 (f18 ()).bind fun v =>
 (f20 (v.1,v.2.1,v.2.2.1,x2,x3,x4,())).bind fun v1 =>
 bif v1.1==0 then
 (f22 (x2,x3,x4,())).bind fun v2 =>
 (f40 (v.1,v.2.1,v.2.2.1,v2.1,())).bind fun v3 =>
 (f12_c0
 (x0,x1,v3.2.2.2.1,x2,x3,x4,v.1,v.2.1,v.2.2.1,v3.1,
 v3.2.1,v3.2.2.1,())).bind
 fun v =>
 Sum.elim (fun v=>some (v.1,()))
 (fun v =>
 (f12_c3 (v.1,v.2.1,v.2.2.1,v.2.2.2.1,v.2.2.2.2.1,())).bind
 fun v=>some (v.1,()))
 v
 else (f12_c3 (x0,x1,v.1,v.2.1,v.2.2.1,())).bind fun v=>some (v.1,())
theorem g5h (f18:T18) (f20:T20) (f22:T22) (f37:T37) (f38:T38) (f40:T40) (f41:T41) (f12_c0:j2r) (f12_c3:j2u):AqC (K12 f18 f20 f22 f37 f38 f40 f41) 0 (qc (code Tryz.f12) [1,1,1,1]) (g1w f12_c0 f12_c3) w3v j3v (z4o f18 f20 f22 f37 f38 f40 f41 f12_c0 f12_c3):=fun v=>by kernel_rfl
def j7v:j2v:=z4o C18 C20 C22 C37 C38 C40 C41 j7r j7u
theorem g6a:zb 0 (qc (code Tryz.f12) [1,1,1,1]) (x8j j7v) :=
 frd z2i (And.intro g5w (And.intro g5z trivial)) (g5h C18 C20 C22 C37 C38 C40 C41 j7r j7u)
def N12 (f12_c4:j2v):Ann:=(.seq .nil (.seq .nil (.seq .nil (.cut .nil (x8j f12_c4)))))
def F12 (f18:T18) (f20:T20) (f22:T22) (f37:T37) (f38:T38) (f40:T40) (f41:T41) (f12_c4:j2v):T12:=fun (x0,x1,x2,x3,_) =>
 (f37 ()).bind fun v =>
 (f38 (x1,x2,())).bind fun v1 =>
 bif !v1.1 then some (v.1,())
 else
 bif decide ((↑x3.length:Int)>300) then some (v.1,())
 else (f12_c4 (x3,v.1,x0,x1,x2,())).bind fun v=>some (v.1,())
theorem h12 (f18:T18) (f20:T20) (f22:T22) (f37:T37) (f38:T38) (f40:T40) (f41:T41) (f12_c4:j2v):yb (K12 f18 f20 f22 f37 f38 f40 f41) 0 Tryz.f12 (N12 f12_c4) w3q qx (F12 f18 f20 f22 f37 f38 f40 f41 f12_c4):=fun v=>by kernel_rfl
def C12:T12:=F12 C18 C20 C22 C37 C38 C40 C41 j7v
theorem ok12:FO 12 (E12 C12) :=
 qo z2i Tryz.func12 (And.intro g6a trivial) (h12 C18 C20 C22 C37 C38 C40 C41 j7v)
def tkB:Bool:=match C18 () with
 | some (T,A,B,_)=>(decide (T.length≤1000000000000)&&T.all fun e=>decide (0≤e.2.2.2.1)&&decide (e.2.2.2.1<8))&&(decide (A.length≤1000000000000)&&decide (B.length≤1000000000000))
 | none=>false
theorem b2a:tkB=true:=by kernel_rfl
theorem tk:∃T A B,C18 ()=some (T,A,B,())∧TK T A B:=by
 have h:=b2a;unfold tkB at h;cases hc:C18 () with
 | none=>rw [hc] at h;cases h
 | some y =>
  obtain ⟨T,A,B,u⟩:=y;rw [hc] at h;simp only [Bool.and_eq_true,decide_eq_true_eq,List.all_eq_true] at h;exact ⟨T,A,B,rfl,⟨h.1.1,h.1.2⟩,h.2.1,h.2.2⟩
theorem g5t:C37 ()=some (true,()):=by kernel_rfl
theorem v4i:C67 ([60,62],())=some ([(2,[60],0),(2,[62],1)],0,0,()):=by kernel_rfl
theorem k2z (T A B):C40 (T,A,B,[60,62],())=some (true,[],[],0,()):=by
 show F40 C44 kz C67 C71 C79 C80 ky q2p _=_;simp only [F40,v4i,Option.bind_some];rfl
theorem g6u:(!jt 60&&q6f 60&&(!jt 62&&q6f 62))=true:=by kernel_rfl
theorem v5q (X:List UInt8):one 60 X=(2,.ok [60] 1):=by
 have h:=g6u;simp only [Bool.and_eq_true,Bool.not_eq_true'] at h;unfold one;rw [if_neg (by rw [h.1.1];decide),if_pos h.1.2]
theorem g7f (X:List UInt8):one 62 X=(2,.ok [62] 1):=by
 have h:=g6u;simp only [Bool.and_eq_true,Bool.not_eq_true'] at h;unfold one;rw [if_neg (by rw [h.2.1];decide),if_pos h.2.2]
theorem y1z (X:List UInt8):stops jt (62::X):=by
 have h:=g6u;simp only [Bool.and_eq_true,Bool.not_eq_true'] at h;exact h.2.1
theorem p81 (k:Int) (t:List UInt8) (n:Int) (h:(k==4||k==3)=false):Pf (C81 (k,t,n,())) (fun y=>y.1=false):=by
 simp only [Bool.or_eq_false_iff,beq_eq_false_iff_ne] at h;unfold C81 F81;dsimp only;with_reducible repeat' (first | exact pN | apply pP | apply pX<;>intro _)
 all_goals first | rfl | (exfalso;omega) | (exact beq_eq_false_iff_ne.2 (by omega))
theorem p80 (l:List Tok) (hl:l.length≤1000000) (h:∀x∈l,(x.1==4||x.1==3)=false):C80 (l,())=some (false,()):=by
 obtain ⟨⟨b,u⟩,h80,-⟩:=d80 l hl;rw [h80];have key:Pf (C80 (l,())) (fun y=>y.1=false):=by
  unfold C80 F80;dsimp only;refine pZ (P:=fun y=>y.1<0) ?_ ?_
  · unfold x7i v7o
    dsimp only;refine pZ (P:=Sum.elim (fun _=>True) (fun _=>False)) ?_ ?_
    · refine pL ?I ?h _ ?hv
      case I=>exact (fun v=>∃k:Int,0≤k∧v=(l,(l.length:Int),k,()))
      case hv=>exact ⟨0,Int.le_refl _,rfl⟩
      rintro v ⟨k,h0,rfl⟩;unfold j5r;dsimp only;with_reducible repeat' (first | exact pN | apply pP | apply pX<;>intro _)
      · have hlt:k.toNat<l.length:=by omega
        rw [getD_lt hlt];refine pZ (p81 _ _ _ (h _ (List.getElem_mem hlt))) ?_;rintro ⟨b,u⟩ hb;dsimp only at hb ⊢;subst hb;simp only [cond_false];rw [qg (n:=k+1) (by omega)];exact pP ⟨_,by omega,rfl⟩
      · trivial
    · intro z hz
      refine pS hz ?_ ?_
      · intro u _
        exact pP (by decide:(-1:Int)<0)
      · intro u h
        exact h.elim
  · rintro ⟨a,u⟩ h
    refine pP ?_;dsimp only at h ⊢;exact decide_eq_false (by omega)
 have:=key _ h80;dsimp only at this;rw [this]
theorem w7a {T A B} (pr:List UInt8) (m:List Tok) (e:Int) (hR:q3k pr=((2,[60],0)::(m++[(2,[62],e)]),0,0)) (hm:Nw m) (hlen:m.length≤1500) {z:Int×Bool×List UInt8×List UInt8×Unit}
 (h2:ky (((m.length+1:Nat):Int),(2,[60],0)::(m++[(2,[62],e)]),4,T,A,B,false,[],[],false,[],[],())=some (.inl z)):C40 (T,A,B,pr,())=some (z.2.1,z.2.2.1,z.2.2.2.1,z.1,()):=by
 have h67:=c11 pr;rw [hR] at h67;dsimp only at h67;have hll:((2,[60],0)::(m++[(2,[62],e)]):List Tok).length=m.length+2:=by simp
 have hml:1≤m.length:=List.length_pos_iff.2 hm.1;have hw:IntKind.i64.wrap ((((2,[60],0)::(m++[(2,[62],e)]):List Tok).length:Int) - 1)=((m.length+1:Nat):Int):=by
  rw [hll,qg (by omega)];omega
 have hg:((2,[60],0)::(m++[(2,[62],e)]):List Tok).getD (m.length+1) (0,([],0))=(2,[62],e):=by
  rw [show ((2,[60],0)::(m++[(2,[62],e)]):List Tok)=((2,[60],0)::m)++[(2,[62],e)] by simp];exact gd (by simp)
 have hd:List.drop 1 (List.take (m.length+1) ((2,[60],0)::(m++[(2,[62],e)]):List Tok))=m:=by
  rw [List.take_succ_cons,List.take_left];rfl
 have h80:=p80 m (by omega) hm.2;have k1:∀a,C79 (2,[60],a,[60],())=some (true,()):=fun a=>rfl;have k2:∀a,C79 (2,[62],a,[62],())=some (true,()):=fun a=>rfl;show F40 C44 kz C67 C71 C79 C80 ky q2p _=_;simp only [F40,h67,Option.bind_some,inF (rfl:(0:Int)=0),cond_false,hw,List.getD_cons_zero,k1,Bool.not_true,Int.toNat_natCast,hg,k2,hd,h80,h2,Sum.elim_inl];rw [decide_eq_false (by omega),hll,decide_eq_true (by omega),decide_eq_true (by omega),decide_eq_true (by omega),decide_eq_true (by omega),decide_eq_true (by omega)];rfl
theorem d4o:((List.range 256).all fun n=>(fun c:UInt8 => !(decide (j4y c∈[112,111,115,116,109,97,115,116,101,114]))||(jt c&&decide (c.toNat<128))) (UInt8.ofNat n))=true:=by kernel_rfl
theorem k9x {c:UInt8} (h:j4y c∈[112,111,115,116,109,97,115,116,101,114]):jt c=true∧c.toNat<128:=by
 have:=wb (fun c:UInt8 => !(decide (j4y c∈[112,111,115,116,109,97,115,116,101,114]))||(jt c&&decide (c.toNat<128))) d4o c;simpa [h] using this
theorem f5f (n:Bool) (a b:List UInt8) (ha:a.length≤1000):kz (n,a,b,())=some (!n&&(b==[])&&(a.map j4y==[112,111,115,116,109,97,115,116,101,114]),()):=by
 show F59 C25 _=_;simp only [F59,p25 a (by omega),Option.bind_some];cases n<;>cases (b==[])<;>rfl
theorem x2l:∀s:List UInt8,(∀c∈s,c.toNat<128)→Val s
 | [],_ => .nil
 | c::s,h=>(Val.one (h c List.mem_cons_self)).app (x2l s fun d hd=>h d (List.mem_cons_of_mem _ hd))
theorem v2y (p:Nat):ym [62] p = .inl [(2,[62],(p:Int))]:=by
 rw [km (g7f []),show ([62]:List UInt8).drop 1=[] from rfl,j9v];rfl
section
variable {T:List R6} {A:List R4} {B:List R3}
theorem p20 (n:Bool) (a b:List UInt8) (ha:a.length≤1000):Pf (C20 (T,A,B,n,a,b,())) (fun y=>y.1=0→(n=true∧a=[]∧b=[])∨(n=false∧kz (false,a,b,())=some (true,()))∨(n=false∧kz (false,a,b,())=some (false,())∧C44 (T,A,B,a,b,())=some (0,()))):=by
 unfold C20 F20;dsimp only;cases n with
 | true =>
  simp only [cond_true];cases hab:(a==[]&&(b==[]&&true)) with
  | true =>
   simp only [Bool.and_eq_true,beq_iff_eq,and_true] at hab;exact pM pT fun _ _ _ => .inl ⟨by simp,hab.1,hab.2⟩
  | false =>
   rw [show kw (!false,T,A,B,true,a,b,())=some (.inl (1,())) from rfl];exact pP fun h=>by cases h
 | false =>
  simp only [cond_false];refine pZ (P:=Sum.elim (fun _=>kz (false,a,b,())=some (true,())) (fun y=>y=(T,A,B,false,a,b,())∧kz (false,a,b,())=some (false,()))) ?_ ?_
  · unfold kw q2s
    dsimp only;simp only [cond_false];refine pZ (P:=fun y=>kz (false,a,b,())=some (y.1,())) (fun y e=>by rw [e]) ?_;rintro ⟨w,u⟩ h59;dsimp only at h59 ⊢;cases w with
    | true=>exact pP h59
    | false=>exact pP ⟨rfl,h59⟩
  · intro z hz
    refine pS hz ?_ ?_
    · intro y h
      exact pP fun _ => .inr (.inl ⟨by simp,h⟩)
    · rintro y ⟨rfl,h⟩
      dsimp only;refine pZ (P:=fun y=>C44 (T,A,B,a,b,())=some (y.1,())) (fun y e=>by rw [e]) ?_;rintro ⟨e,u⟩ h44;refine pP fun h0 => ?_;dsimp only at h0 h44;subst h0;exact .inr (.inr ⟨by simp,h,h44⟩)
theorem b1x (h:TK T A B) (hK:KT T A B) (n:Bool) (a b:List UInt8) (ha:a.length≤1000) (hb:b.length≤1000) (h20:C20 (T,A,B,n,a,b,())=some (0,())):∃pr,C22 (n,a,b,())=some (pr,())∧C40 (T,A,B,pr,())=some (n,a,b,0,()):=by
 rcases p20 n a b ha _ h20 rfl with ⟨rfl,rfl,rfl⟩ | ⟨rfl,h59⟩ | ⟨rfl,h59,h44⟩
 · exact ⟨[60,62],rfl,k2z T A B⟩
 · have h59':=h59
   rw [f5f false a b ha] at h59;simp only [Bool.not_false,Bool.true_and,Option.some.injEq,Prod.mk.injEq,Bool.and_eq_true,beq_iff_eq,and_true] at h59;obtain ⟨rfl,hl⟩:=h59;have hall:∀c∈a,jt c=true∧c.toNat<128:=fun c hc=>k9x (by rw [←hl];exact List.mem_map_of_mem hc);have hlen:a.length=10:=by
    have:=congrArg List.length hl;simpa using this
   have hat:Atm a:=⟨fun e=>(by subst e;cases hlen),List.all_eq_true.2 fun c hc=>(hall c hc).1⟩
   refine ⟨[60]++a++[62],?_,?_⟩
   · show F22 C45 kz _=_
     simp only [F22,cond_false,h59',Option.bind_some,cond_true];rw [decide_eq_true (by simp only [List.length_cons,List.length_nil];omega),decide_eq_true (by simp only [List.length_append,List.length_cons,List.length_nil];omega)];rfl
   · have hx:ym ([60]++a++[62]) 0 = .inl ((2,[60],0)::([(0,a,((0+1:Nat):Int))]++[(2,[62],((0+1+a.length:Nat):Int))])):=by
      rw [show [60]++a++[62]=60::(a++62::[]) by simp,km (v5q _),show (60::(a++62::[])).drop 1=a++[62] from rfl,z7c hat (y1z []),v2y];rfl
     have hR:q3k ([60]++a++[62])=((2,[60],0)::([(0,a,((0+1:Nat):Int))]++[(2,[62],((0+1+a.length:Nat):Int))]),0,0):=by
      unfold q3k;rw [if_neg (by simp only [List.length_append,List.length_cons,List.length_nil];omega),(j7p (by simp only [List.length_append,List.length_cons,List.length_nil];omega)).2 (x2l _ fun c hc=>by
       simp only [List.mem_append,List.mem_singleton] at hc;rcases hc with (rfl | hc) | rfl
       · decide
       · exact (hall c hc).2
       · decide),hx]
      rfl
     refine w7a (z:=(0,false,a,[],())) _ _ _ hR ⟨by simp,fun x hx=>by rw [List.mem_singleton] at hx;subst hx;rfl⟩ (by simp) ?_;show q2t C44 kz C67 C71 C79 C80 kx _=_;simp only [q2t,List.length_singleton,List.singleton_append,List.getD_cons_succ,List.getD_cons_zero,h59',Option.bind_some,List.length_cons,List.length_nil];rfl
 · have hM:=f6u (p44 h hK a b (by omega) (by omega) _ h44 rfl) hb
   have hln:=hM.ln;obtain ⟨ts,n1,k3,k4⟩:=hM.lc (0+1);obtain ⟨td,n2,k1,k2⟩:=hM.dm (0+1+(lcl a).length+1);have g1:=k1 [62] _ (y1z []) (v2y _);have g2:=g6t g1;have g3:=k3 _ _ (v6s _) g2;have e:[60]++(lcl a++[64]++b)++[62]=60::(lcl a++64::(b++[62])):=by simp
   have hm:=f6v (w1:=[]) (w2:=[]) (w3:=[]) (n:=((0+1+(lcl a).length:Nat):Int)) (fun x hx=>by cases hx) (fun x hx=>by cases hx) (fun x hx=>by cases hx) g4l k4 k2;simp only [List.nil_append,List.append_nil,List.length_nil,Nat.zero_add,Nat.add_zero] at hm;have hx:ym ([60]++(lcl a++[64]++b)++[62]) 0 = .inl ((2,[60],0)::((ts++(2,[64],((0+1+(lcl a).length:Nat):Int))::td)++[(2,[62],((0+1+(lcl a).length+1+b.length:Nat):Int))])):=by
    rw [e,km (v5q _),show (60::(lcl a++64::(b++[62]))).drop 1=lcl a++64::(b++[62]) from rfl,g3];simp [z9z]
   have hsz:=z7d _ _ _ _ (Nat.le_refl _) hx;have hpl:([60]++(lcl a++[64]++b)++[62]).length≤1200:=by
    simp only [List.length_append,List.length_cons,List.length_nil];omega
   have hR:q3k ([60]++(lcl a++[64]++b)++[62])=((2,[60],0)::((ts++(2,[64],((0+1+(lcl a).length:Nat):Int))::td)++[(2,[62],((0+1+(lcl a).length+1+b.length:Nat):Int))]),0,0):=by
    unfold q3k;rw [if_neg (by omega),(j7p (by omega)).2 (by
     rw [e];exact Val.glue (a:=[]) (by decide) .nil (hM.vl.app (Val.glue (a:=[]) (by decide) .nil (hM.vb.app (Val.one (by decide)))))),hx]
    rfl
   refine ⟨[60]++(lcl a++[64]++b)++[62],?_,?_⟩
   · show F22 C45 kz _=_
     simp only [F22,cond_false,h59,Option.bind_some,hM.pr];rw [decide_eq_true (by simp only [List.length_append,List.length_cons,List.length_nil];omega),decide_eq_true (by simp only [List.length_append,List.length_cons,List.length_nil];omega)];rfl
   · have hnw:Nw (ts++(2,[64],((0+1+(lcl a).length:Nat):Int))::td):=⟨by simp,fun x hx=>by
      rcases List.mem_append.1 hx with hx | hx
      · exact n1.2 x hx
      · rcases List.mem_cons.1 hx with rfl | hx
        · rfl
        · exact n2.2 x hx⟩
     have hml:3≤(ts++(2,[64],((0+1+(lcl a).length:Nat):Int))::td).length:=by
      have h1:=List.length_pos_iff.2 n1.1;have h2:=List.length_pos_iff.2 n2.1;simp only [List.length_append,List.length_cons];omega
     have hmt:mt (ts++(2,[64],((0+1+(lcl a).length:Nat):Int))::td)=some (a,b,(ts++(2,[64],((0+1+(lcl a).length:Nat):Int))::td).length):=by
      rw [hm];simp only [List.length_append,List.length_cons,skn];congr 3;omega
     generalize hmm:ts++(2,[64],((0+1+(lcl a).length:Nat):Int))::td=m at hR hnw hml hmt hsz;have hszm:szT m+m.length≤2900:=by
      have h1:=hsz.1;have h2:=hsz.2;have h3:szT m≤szT ((2,[60],0)::(m++[(2,[62],((0+1+(lcl a).length+1+b.length:Nat):Int))])):=by
       have q1:=j1z m.length (m++[(2,[62],((0+1+(lcl a).length+1+b.length:Nat):Int))]);rw [List.take_left] at q1;have q2:=vk 1 ((2,[60],0)::(m++[(2,[62],((0+1+(lcl a).length+1+b.length:Nat):Int))]));rw [show ((2,[60],0)::(m++[(2,[62],((0+1+(lcl a).length+1+b.length:Nat):Int))]):List Tok).drop 1=m++[(2,[62],((0+1+(lcl a).length+1+b.length:Nat):Int))] from rfl] at q2;omega
      simp only [List.length_cons,List.length_append,List.length_nil] at h2;omega
     have hml2:m.length≤1300:=by
      have h2:=hsz.2;simp only [List.length_cons,List.length_append,List.length_nil] at h2;omega
     refine w7a (z:=(0,false,a,b,())) _ m _ hR hnw (by omega) ?_;have h71:=c71 m (by omega);rw [hmt] at h71;dsimp only at h71;generalize hle:(0+1+(lcl a).length+1+b.length:Nat)=le;have hd:List.drop 1 (List.take (m.length+1) ((2,[60],0)::(m++[(2,[62],(le:Int))]):List Tok))=m:=by
      rw [List.take_succ_cons,List.take_left];rfl
     have hll:((2,[60],0)::(m++[(2,[62],(le:Int))]):List Tok).length=m.length+2:=by simp
     have hw:IntKind.i64.wrap (((m.length+1:Nat):Int) - 1)=(m.length:Int):=by rw [qg (by omega)];omega
     have hc1:∀y,kx (((m.length+1:Nat):Int),(2,[60],0)::(m++[(2,[62],(le:Int))]),4,T,A,B,false,[],[],false,y,[],())=some (.inr (0,false,a,b,())):=by
      intro y;have hc0:q6o (T,A,B,false,[],[],false,a,b,())=some (0,false,a,b,()):=by
       show j2o C44 kz C67 C71 C79 C80 _=_;simp only [j2o,h44,Option.bind_some];rfl
      show j2p C44 kz C67 C71 C79 C80 q6o _=_;simp only [j2p,Int.toNat_natCast,hd,h71,Option.bind_some,Bool.not_true,cond_false,hw,inF (show (m.length:Int)=(m.length:Int) from rfl),hc0,hll];rw [decide_eq_true (by omega),decide_eq_true (by omega),decide_eq_true (by omega)];rfl
     show q2t C44 kz C67 C71 C79 C80 kx _=_;simp only [q2t,hc1,hll,Option.bind_some,Sum.elim_inr,ibF (show ((m.length+1:Nat):Int)≠1 by omega),ibF (show ((m.length+1:Nat):Int)≠2 by omega),cond_false];rw [decide_eq_true (by omega)];rfl
def Pq (T:List R6) (A:List R4) (B:List R3) (z:Int×Bool×List UInt8×List UInt8×Unit):Prop :=
 (z.1=0→C20 (T,A,B,z.2.1,z.2.2.1,z.2.2.2.1,())=some (0,())∧z.2.2.1.length≤1000∧z.2.2.2.1.length≤1000)∧(z.1≠0→z.2=(false,[],[],()))
theorem g2r (a b:List UInt8) (ha:a.length≤1000) (h44:C44 (T,A,B,a,b,())=some (0,())):C20 (T,A,B,false,a,b,())=some (0,()):=by
 obtain ⟨⟨w,u⟩,h59,-⟩:=d59 false a b ha;have hc:kw (false,T,A,B,false,a,b,())=some (bif w then .inl (0,()) else .inr (T,A,B,false,a,b,())):=by
  show q2s C44 kz _=_;simp only [q2s,cond_false,h59,Option.bind_some];cases w<;>rfl
 show F20 C44 kz kw _=_;simp only [F20,cond_false,hc,Option.bind_some];cases w with
 | true=>rfl
 | false=>simp only [cond_false,Sum.elim_inr,h44,Option.bind_some]
theorem g2s (a b:List UInt8) (h59:kz (false,a,b,())=some (true,())):C20 (T,A,B,false,a,b,())=some (0,()):=by
 have hc:kw (false,T,A,B,false,a,b,())=some (.inl (0,())):=by
  show q2s C44 kz _=_;simp only [q2s,cond_false,h59,Option.bind_some];rfl
 show F20 C44 kz kw _=_;simp only [F20,cond_false,hc,Option.bind_some];rfl
theorem b1s (l:List Tok) (hz:szT l+l.length≤800) (k:Int) (y b:List UInt8) :
 Pf (kx (k,l,4,T,A,B,false,[],[],false,y,b,())) (Sum.elim (fun z=>z.1=4) (fun z=>Pq T A B z)):=by
 unfold kx j2p;dsimp only;refine pX (fun _ => ?_) (fun _=>pN);refine pX (fun _ => ?_) (fun _=>pN);have z1:=j1z k.toNat l;have z2:=vk 1 (l.take k.toNat);have z3:((l.take k.toNat).drop 1).length≤l.length:=by simp only [List.length_drop,List.length_take];omega
 generalize (l.take k.toNat).drop 1=m at z2 z3;rw [c71 m (by omega)];cases hm:mt m with
 | none=>exact pP rfl
 | some r =>
  dsimp only;simp only [Option.bind_some,Bool.not_true,cond_false];refine pX (fun _=>pP rfl) (fun _ => ?_);obtain ⟨-,z4,z5⟩:=w7n m hm;refine pZ (P:=fun z=>Pq T A B z) ?_ (fun z hz=>pP hz);unfold q6o j2o;dsimp only;intro z hz';cases h44:C44 (T,A,B,r.1,r.2.1,()) with
  | none=>rw [h44] at hz';cases hz'
  | some e =>
   rw [h44] at hz';obtain ⟨e,u⟩:=e;simp only [Option.bind_some] at hz';by_cases he:e=0
   · subst he
     rw [ibT (rfl:(0:Int)=0)] at hz';simp only [cond_true,Option.some.injEq] at hz';subst hz';exact ⟨fun _=>⟨g2r r.1 r.2.1 (by omega) h44,(show r.1.length≤1000 by omega),(show r.2.1.length≤1000 by omega)⟩,fun h=>(h rfl).elim⟩
   · rw [ibF he] at hz'
     simp only [cond_false,Option.some.injEq] at hz';subst hz';exact ⟨fun h=>(he h).elim,fun _=>rfl⟩
theorem b1t (l:List Tok) (hz:szT l+l.length≤800) (k:Int) :
 Pf (ky (k,l,4,T,A,B,false,[],[],false,[],[],())) (Sum.elim (fun z=>Pq T A B z) (fun z=>z.1=4)):=by
 unfold ky q2t;dsimp only;refine pX (fun _=>pP ⟨fun _=>⟨rfl,by simp,by simp⟩,fun h=>(h rfl).elim⟩) (fun _ => ?_);refine pX (fun h1 => ?_) (fun _=>pN);have jv:∀y b,Pf ((kx (k,l,4,T,A,B,false,[],[],false,y,b,())).bind fun val=>Sum.elim (fun val=>some (Sum.inr (val.fst,val.snd.fst,val.snd.snd.fst,val.snd.snd.snd.fst,()))) (fun val=>some (Sum.inl (val.fst,val.snd.fst,val.snd.snd.fst,val.snd.snd.snd.fst,()))) val) (Sum.elim (fun z=>Pq T A B z) (fun z=>z.1=4)):=by
  intro y b;refine pZ (b1s l hz k y b) ?_;intro z hz;refine pS hz ?_ ?_
  · intro z h
    exact pP h
  · rintro ⟨z0,z1,z2,z3,u⟩ h
    exact pP h
 have hlt:1<l.length:=by omega
 have hsz:(l.getD 1 (0,([],0))).2.1.length≤800:=by
  match l,hlt,hz with
  | x::y::r,_,hz =>
   simp only [szT] at hz;simp only [List.getD_cons_succ,List.getD_cons_zero];omega
 refine pX (fun _ => ?_) (fun _=>jv _ _);refine pX (fun _ => ?_) (fun _=>pN);refine pX (fun _ => ?_) (fun _=>jv _ _);obtain ⟨⟨w,u⟩,h59,-⟩:=d59 false (l.getD 1 (0,([],0))).2.1 [] (by omega);rw [h59];simp only [Option.bind_some];cases w with
 | true=>exact pP ⟨fun _=>⟨g2s _ _ h59,by first | omega | (dsimp only;omega),by simp⟩,fun h=>(h rfl).elim⟩
 | false=>exact jv _ _
theorem d4n (e:Int) (n:Bool) (x y:List UInt8):q2p (e,n,x,y,())=some (e,false,[],[],()):=by
 obtain ⟨m,hm⟩:∃m,jc=m+1:=⟨jc - 1,by unfold jc;omega⟩
 show qd (j8i C44 kz C67 C71 C79 C80) jc _=_;rw [hm];exact qh rfl
theorem p40 (s:List UInt8) (hs:s.length≤350):Pf (C40 (T,A,B,s,())) (fun y=>Pq T A B (y.2.2.2.1,y.1,y.2.1,y.2.2.1,())):=by
 unfold C40 F40;dsimp only;rw [c11 s];have hz:=x1a s;generalize q3k s=R at hz;obtain ⟨l,o,e⟩:=R;dsimp only at hz ⊢;simp only [Option.bind_some,d4n];have bad:∀e:Int,e≠0→Pq T A B (e,false,[],[],()):=fun e he=>⟨fun h=>(he h).elim,fun _=>rfl⟩
 have jv:∀k,Pf ((ky (k,l,4,T,A,B,false,[],[],false,[],[],())).bind fun val=>Sum.elim (fun val=>some (val.snd.fst,val.snd.snd.fst,val.snd.snd.snd.fst,val.fst,())) (fun val=>some (false,[],[],val.fst,())) val) (fun y=>Pq T A B (y.2.2.2.1,y.1,y.2.1,y.2.2.1,())):=by
  intro k;refine pZ (b1t l (by omega) k) ?_;intro z hz;refine pS hz ?_ ?_
  · rintro ⟨z0,z1,z2,z3,u⟩ h
    exact pP h
  · rintro ⟨z0,z1,z2,z3,u⟩ h
    dsimp only at h;subst h;exact pP (bad 4 (by decide))
 refine pX (fun he=>pP (bad e he)) (fun _ => ?_);refine pX (fun _=>pP (bad 4 (by decide))) (fun _ => ?_);refine pX (fun _ => ?_) (fun _=>pN);refine pZ pT ?_;rintro ⟨w,u⟩ -
 dsimp only;refine pX (fun _=>pP (bad 4 (by decide))) (fun _ => ?_);refine pX (fun _ => ?_) (fun _=>pN);refine pZ pT ?_;rintro ⟨w,u⟩ -
 dsimp only;refine pX (fun _=>pP (bad 4 (by decide))) (fun _ => ?_);refine pX (fun _ => ?_) (fun _=>pN);refine pX (fun _ => ?_) (fun _=>pN);refine pZ pT ?_;rintro ⟨w,u⟩ -
 dsimp only;exact pX (fun _=>pP (bad 4 (by decide))) (fun _=>jv _)
end
theorem k3a {T A B} (h:TK T A B) (n:Bool) (a b:List UInt8) (ha:a.length≤1000) (hb:b.length≤1000) (h20:C20 (T,A,B,n,a,b,())=some (0,())):C41 (T,A,B,n,a,b,n,a,b,())=some (true,()):=by
 obtain ⟨⟨x,y,z,u⟩,h42,-⟩:=d42 h n a b ha hb;show F41 C20 C42 _=_;simp only [F41,h20,h42,Option.bind_some,beq_self_eq_true,cond_true,Bool.and_self]
theorem f4w {T A B} (h:TK T A B) (hK:KT T A B) (s:List UInt8) (hs:s.length≤300):j7u (s,true,T,A,B,())=some (true,()):=by
 obtain ⟨⟨n,x,y,e,u⟩,h40,-⟩:=d40 h s (by omega);obtain ⟨h1,h2⟩:=p40 s (by omega) _ h40;dsimp only at h1 h2;show z4n C18 C20 C22 C37 C38 C40 C41 j7t _=_;simp only [z4n,h40,Option.bind_some];by_cases he:e=0
 · subst he
   obtain ⟨h20,hx,hy⟩:=h1 rfl;obtain ⟨pr,k1,k2⟩:=b1x h hK n x y hx hy h20;have hc1:j7s (true,0,T,A,B,n,x,y,n,x,y,())=some (true,()):=by
    show z4l C18 C20 C22 C37 C38 C40 C41 _=_;simp only [z4l,h20,Option.bind_some,beq_self_eq_true,cond_true,Bool.and_self]
   have hc2:j7t (true,T,A,B,n,x,y,())=some (true,()):=by
    show z4m C18 C20 C22 C37 C38 C40 C41 j7s _=_;simp only [z4m,k1,k2,hc1,Option.bind_some]
   simp only [inF (rfl:(0:Int)=0),cond_false,hc2,Option.bind_some]
 · have:=h2 he
   simp only [Prod.mk.injEq,and_true] at this;obtain ⟨rfl,rfl,rfl⟩:=this;simp only [inT he,cond_true,beq_self_eq_true,Bool.and_self]
theorem b7v {T A B} (h:TK T A B) (n:Bool) (a b:List UInt8) (ha:a.length≤1000) (hb:b.length≤1000):∃e,C20 (T,A,B,n,a,b,())=some (e,()):=by
 cases n with
 | false =>
  obtain ⟨⟨e,u⟩,h20,-⟩:=d20 h a b ha hb;exact ⟨e,h20⟩
 | true =>
  show ∃e,F20 C44 kz kw _=_;simp only [F20,cond_true];cases (a==[]&&(b==[]&&true)) with
  | true=>exact ⟨0,rfl⟩
  | false=>exact ⟨1,rfl⟩
theorem g2q (n:Bool) (a b s:List UInt8):C12 (n,a,b,s,())=some (true,()):=by
 obtain ⟨T,A,B,h18,hT⟩:=tk;have hK:=kt h18;show F12 C18 C20 C22 C37 C38 C40 C41 j7v _=_;simp only [F12,g5t,Option.bind_some];have h38:C38 (a,b,())=some (decide ((a.length:Int)≤150∧(b.length:Int)≤200),()):=by
  show F38 _=_;simp only [F38];by_cases h1:(a.length:Int)≤150
  · rw [decide_eq_true h1]
    simp [h1]
  · rw [decide_eq_false h1]
    simp [h1]
 rw [h38];simp only [Option.bind_some];by_cases hf:(a.length:Int)≤150∧(b.length:Int)≤200
 · rw [decide_eq_true hf]
   simp only [Bool.not_true,cond_false];by_cases hs:(s.length:Int)>300
   · rw [decide_eq_true hs];rfl
   rw [decide_eq_false hs];simp only [cond_false];have h3:=f4w hT hK s (by omega);have h4:j7v (s,true,n,a,b,())=some (true,()):=by
    show z4o C18 C20 C22 C37 C38 C40 C41 j7r j7u _=_;simp only [z4o,h18,Option.bind_some];obtain ⟨e,h20⟩:=b7v hT n a b (by omega) (by omega);simp only [h20,Option.bind_some];by_cases he:e=0
    · subst he
      obtain ⟨pr,k1,k2⟩:=b1x hT hK n a b (by omega) (by omega) h20;have h41:=k3a hT n a b (by omega) (by omega) h20;have hc0:j7r (s,true,0,n,a,b,T,A,B,n,a,b,())=some (.inr (s,true,T,A,B,())):=by
       show z4k C18 C20 C22 C37 C38 C40 C41 _=_;simp only [z4k,h41,Option.bind_some,inF (rfl:(0:Int)=0),cond_false,beq_self_eq_true,Bool.and_self,Bool.not_true]
      simp only [ibT (rfl:(0:Int)=0),cond_true,k1,k2,hc0,Option.bind_some,Sum.elim_inr,h3]
    · simp only [ibF he,cond_false,h3,Option.bind_some]
   simp only [h4,Option.bind_some]
 · rw [decide_eq_false hf]
   rfl
end Go.Proofs.YtiacnhhmkdkpmaaGreatDoorA.W
namespace Go.Proofs.YtiacnhhmkdkpmaaGreatDoorA.PPathBack
open Go Go.Ae Go.Proofs.YtiacnhhmkdkpmaaGreatDoorA.W
theorem pure (x0:(Ty.pair .bool (.pair .str .str)).den) (b0:Bd (Ty.pair .bool (.pair .str .str)) x0) (x1:Ty.str.den) (b1:Bd Ty.str x1):C12 (x0.1,x0.2.1,x0.2.2,x1,())=some (true,()):=g2q _ _ _ _
end Go.Proofs.YtiacnhhmkdkpmaaGreatDoorA.PPathBack
namespace Go.Proofs.YtiacnhhmkdkpmaaGreatDoor
open Go Go.Ae Go.RowKit
theorem glob {W:World} {p:Prop} (hL:p) (hsh:W.ShapedOpen Tryz.prog):GI W m0:=by
 obtain ⟨m,hm⟩:=Go.Proofs.cell_of_shapedOpen_int (g:=2) (k := .i64) (t:=3) (zero := #[.int .i64 0]) hsh (of_decide_eq_true (by kernel_rfl)) (by kernel_rfl) (by kernel_rfl) (by kernel_rfl) (by kernel_rfl) (by kernel_rfl);refine ⟨⟨m,hm⟩,fun b hb=>⟨?_,fun h=>h⟩⟩;simp only [q2w,List.mem_cons,List.not_mem_nil,or_false] at hb;subst hb;exact lt_of_cell hm
end Go.Proofs.YtiacnhhmkdkpmaaGreatDoor
