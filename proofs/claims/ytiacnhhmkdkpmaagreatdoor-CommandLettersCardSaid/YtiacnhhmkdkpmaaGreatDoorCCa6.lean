/- The texts of the proof, one behind the other: PD7, PD8, PD9, PLT, PPN, PCA, PCB, LaidC, Ae32, XItoa, WK, PCC, PCD, WL, PCommandLetters, PGlob. -/
import Derived.Test.YtiacnhhmkdkpmaaGreatDoorCCa5
import Derived.Test.YtiacnhhmkdkpmaaGreatDoorCCa4
import Derived.Lib.IndexMore
import Derived.Shelf.LaysM
import Derived.Shelf.Strconv.Itoa3
import Derived.Test.YtiacnhhmkdkpmaaGreatDoorProg
import Derived.Test.YtiacnhhmkdkpmaaGreatDoorCCa3
import Derived.Test.YtiacnhhmkdkpmaaGreatDoorRows
import Derived.Test.YtiacnhhmkdkpmaaGreatDoorCCa2
import Derived.MakeChecks
set_option linter.unusedVariables false
set_option linter.unusedSimpArgs false
set_option maxRecDepth 100000
namespace Go.Proofs.YtiacnhhmkdkpmaaGreatDoorC.W
open Go Go.Ae
section
variable {T:List R6} {A:List R4} {B:List R3}
theorem j8k (f:Int→Option Int) (h:∀x,∃y,f x=some y):∀l:List (Int×Int),∃y,z6w f l=some y
 | []=>⟨0,rfl⟩
 | x::l=>by
  obtain ⟨b,hb⟩:=h x.2;simp only [z6w,hb,Option.bind_some];cases (b != 6) with
  | true=>exact ⟨b,rfl⟩
  | false=>exact j8k f h l
theorem d0k (h:TK T A B) (l:List Int) (hl:l.length≤1000000000000):Df (j3l (T,A,B,l,())) (fun _=>True):=by
 unfold j3l;dsimp only;rw [decide_eq_true hl];obtain ⟨y,hy⟩:=j8k (fun x=>(q6b (T,A,B,x,())).map fun r=>r.1) (fun x=>by
  obtain ⟨y,e,-⟩:=g6e T A B x h.t;exact ⟨y.1,by simp only [e,Option.map_some]⟩) (bk l)
 exact ⟨(y,()),by simp only [cond_true,hy,Option.map_some],trivial⟩
theorem d0b (h:TK T A B) (l:List Int) (hl:l.length≤1000000000000):Df (x8i (T,A,B,l,())) (fun _=>True):=by
 unfold x8i g2b;dsimp only;refine dZ (f7v h l hl) ?_;rintro ⟨z0,z1,z2,z3,z4,z5,z6,z7,u⟩ -
 refine dZ (d0k h l hl) ?_;rintro ⟨e,u⟩ -
 refine dZ (d0l h l) ?_;rintro ⟨s,u⟩ -
 dsimp only;with_reducible repeat' (first|apply dP|apply dX<;>intro _)
 · exact dZ (v3o _ _ _ rfl) fun _ _=>dP trivial
 · exact dZ (v3o _ _ _ rfl) fun _ _=>dP trivial
 · refine dZ (f7t h l hl) ?_
   rintro ⟨b,u⟩ -
   dsimp only;with_reducible repeat' (first|apply dP|apply dX<;>intro _)
   all_goals trivial
 · trivial
theorem d1m (h:TK T A B) (l:List Int) (hl:l.length≤1000000000000):Df (x9b (T,A,B,l,())) (fun y=>y.2=(T,A,B,l,())):=by
 unfold x9b g2v;dsimp only;refine dZ (f7t h l hl) ?_;rintro ⟨b,u⟩ -
 dsimp only;with_reducible repeat' (first|apply dP|apply dX<;>intro _)
 · exact dZ (d0b h l hl) fun _ _=>dP rfl
 · rfl
theorem d0q (h:TK T A B) (s:List UInt8) (a b:Bool) (hs:s.length≤100000000000):Df (x8l (T,A,B,s,a,b,())) (fun y=>y.1.length≤384*s.length):=by
 unfold x8l g2j;dsimp only;refine dZ (d83 s (by omega)) ?_;rintro ⟨l,at_,u⟩ hl;dsimp only at hl ⊢;with_reducible repeat' (first|apply dP|apply dX<;>intro _)
 · exact (by simp:([]:List UInt8).length≤384*s.length)
 · refine dZ (d0y T A B l a (by omega)) ?_
   rintro ⟨l2,u⟩ h2;dsimp only at h2 ⊢;refine dZ (d0x h.a l2 (by omega)) ?_;rintro ⟨l3,u⟩ h3;dsimp only at h3 ⊢;with_reducible repeat' (first|apply dP|apply dX<;>intro _)
   · refine dZ (d0z T A B l3 (by omega) h.a) ?_
     rintro ⟨l4,u⟩ h4;dsimp only at h4 ⊢;refine dZ (k4l l4 (by omega)) ?_;rintro ⟨s5,b5,u⟩ h5;exact dP (by dsimp only at h5 ⊢;omega)
   · refine dZ (k4l l3 (by omega)) ?_
     rintro ⟨s5,b5,u⟩ h5;exact dP (by dsimp only at h5 ⊢;omega)
theorem f7u (h:TK T A B) (s:List UInt8) (hs:s.length≤100000000000):Df (z2t (T,A,B,s,())) (fun y=>y.1.length≤384*s.length):=by
 unfold z2t g2g;dsimp only;refine dZ (d0q h s false true hs) ?_;rintro ⟨x,b,u⟩ hx;exact dP hx
theorem f7s (h:TK T A B) (s:List UInt8) (hs:s.length≤10000000000):Df (z2p (T,A,B,s,())) (fun y=>y.1.length≤1536*s.length):=by
 unfold z2p x4n;dsimp only;refine dZ (d83 s (by omega)) ?_;rintro ⟨l,at_,u⟩ hl;dsimp only at hl ⊢;with_reducible repeat' (first|apply dP|apply dX<;>intro _)
 · exact (by simp:([]:List UInt8).length≤1536*s.length)
 · refine dZ (d0i T A B l (by omega)) ?_
   rintro ⟨l2,u⟩ h2;dsimp only at h2 ⊢;refine dZ (d0h T A B h.b l2 (by omega)) ?_;rintro ⟨l3,u⟩ h3;dsimp only at h3 ⊢;refine dZ (k4l l3 (by omega)) ?_;rintro ⟨s4,b4,u⟩ h4;dsimp only at h4 ⊢;refine dZ (f7u h s4 (by omega)) ?_;rintro ⟨s5,b5,u⟩ h5;exact dP (by dsimp only at h5 ⊢;omega)
theorem g5y (a b:List UInt8):Df (q6a (a,b,())) (fun y=>y.1=true→b.length≤a.length):=by
 unfold q6a j9u;dsimp only;with_reducible repeat' (first|apply dP|apply dX<;>intro _)
 · intro _;dsimp only at *;omega
 · refine dO ?_;omega
 · intro h;cases h
theorem d0g (a b:List UInt8):Df (y2y (a,b,())) (fun y=>y.1.length≤a.length):=by
 unfold y2y v1j;dsimp only;refine dZ (g5y a b) ?_;rintro ⟨x,u⟩ hx;dsimp only at hx ⊢;with_reducible repeat' (first|apply dP|apply dX<;>intro _)
 · exact Nat.le_refl _
 · exact (by simp:(List.drop _ a).length≤a.length)
 · rename_i h1 h2
   have:=hx h1;refine dO ?_;omega
theorem d0a (a b:List UInt8):Df (j1i (a,b,())) (fun y=>y.1.length≤a.length):=by
 unfold j1i v1c;dsimp only;refine dZ (d0g a b) ?_;rintro ⟨x,b,u⟩ hx;exact dP hx
theorem d96 (a b:List UInt8):Df (C96 (a,b,())) (fun _=>True):=by
 unfold C96 F96;dsimp only;exact dZ (g5y a b) fun _ _=>dP trivial
theorem d2m (a b:List UInt8) (ha:a.length≤1000000000000000) (hb:b.length≤1000000000000000):Df (x9p (a,b,())) (fun _=>True):=by
 unfold x9p g3j;dsimp only;rw [qk (n:=(a.length:Int)-(b.length:Int)) (by omega)];with_reducible repeat' (first|apply dP|apply dX<;>intro _)
 · trivial
 · refine dO ?_;omega
 · trivial
theorem d2d (a b:List UInt8) (ha:a.length≤1000000000000000) (hb:b.length≤1000000000000000):Df (x9l (a,b,())) (fun _=>True):=by
 unfold x9l g3f;dsimp only;exact dZ (d2m a b ha hb) fun _ _=>dP trivial
theorem f8d (a:List UInt8) (ha:a.length≤1000000000000000):Df (y3e (a,())) (fun _=>True):=by
 unfold y3e g2t;dsimp only;refine dZ (d96 _ _) ?_;rintro ⟨x,u⟩ -
 dsimp only;with_reducible repeat' (first|apply dP|apply dX<;>intro _)
 · trivial
 · refine dZ (d2d _ _ ha (by simp)) ?_
   rintro ⟨x,u⟩ -
   dsimp only;with_reducible repeat' (first|apply dP|apply dX<;>intro _)
   · trivial
   · trivial
   · refine dO ?_;omega
   · trivial
theorem d1i (a:List UInt8) (ha:a.length≤1000000000000000):Df (x8y (a,())) (fun y=>y.2.1=a):=by
 unfold x8y g2s;dsimp only;exact dZ (f8d a ha) fun _ _=>dP rfl
theorem d1h (h:TK T A B) (s:List UInt8) (hs:s.length≤100000000000):Df (x8x (T,A,B,s,())) (fun _=>True):=by
 unfold x8x g2r;dsimp only;refine dZ (f7u h s hs) ?_;rintro ⟨x,b,u⟩ -
 dsimp only;with_reducible repeat' (first|apply dP|apply dX<;>intro _)
 all_goals trivial
theorem d1g (h:TK T A B) (s:List UInt8) (hs:s.length≤100000000000):Df (x8w (s,T,A,B,())) (fun y=>y.2=(s,T,A,B,())∧(y.1=false→0<s.length)):=by
 unfold x8w g2q;dsimp only;refine dZ (d21 s (by omega)) ?_;rintro ⟨x,u⟩ hx;dsimp only at hx ⊢;with_reducible repeat' (first|apply dP|apply dX<;>intro _)
 · exact ⟨rfl,fun h=>by cases h⟩
 · refine dZ (d1h h s hs) ?_
   rintro ⟨x,u⟩ -
   exact dP ⟨rfl,fun _=>by omega⟩
theorem d1j (h:TK T A B) (l:List Int) (hl:0<l.length):Df (x8z (T,A,B,l,())) (fun y=>y.2=(T,A,B,l,())):=by
 unfold x8z g2u;dsimp only;with_reducible repeat' (first|apply dP|apply dX<;>intro _)
 · exact dZ (f7x T A B _ h.t) fun _ _=>dP rfl
 · refine dO ?_;omega
theorem d1f (a:Int):Df (x8v (a,())) (fun y=>y.2.1=a∧(y.1=false→a<0)):=by
 unfold x8v g2p;dsimp only;refine dP ⟨rfl,fun h => ?_⟩;dsimp only at h;simp only [decide_eq_false_iff_not] at h;omega
theorem d1n (l:List Int) (a:List UInt8) (b:Bool) (hl:l.length≤1000000000000):Df (x9c (l,a,b,())) (fun y=>y.2.1=l):=by
 unfold x9c g2w;dsimp only;exact dZ (g6f l hl) fun _ _=>dP rfl
theorem d1o (a:List UInt8):Df (x9d (a,())) (fun _=>True):=by
 unfold x9d g2x;dsimp only;exact dP trivial
theorem d1e (h:TK T A B) (a0 a1 a2 a3 a4 a5 a6 a7:Int) (at_:Int) (s:List UInt8) (l:List Int) (c:List UInt8) (d:Bool) (hs:s.length≤100000000000) (hl:l.length≤100000000000) (h0:at_<0→0<s.length→0<l.length) :
 Df (x8u (a0,a1,a2,a3,a4,a5,a6,a7,at_,s,T,A,B,l,c,d,())) (fun _=>True):=by
 unfold x8u g2o;dsimp only;refine dZ (d1f at_) ?_;rintro ⟨b,at',u⟩ hb;dsimp only at hb ⊢;obtain ⟨rfl,hb⟩:=hb;with_reducible repeat' (first|apply dP|apply dX<;>intro _)
 · trivial
 · rename_i h1
   refine dZ (d1g h s hs) ?_;rintro ⟨b2,y⟩ ⟨hy,h2⟩;dsimp only at hy h2;subst hy;dsimp only;with_reducible repeat' (first|apply dP|apply dX<;>intro _)
   · trivial
   · rename_i h3
     refine dZ (d1i s (by omega)) ?_;rintro ⟨b3,s',u⟩ hs';dsimp only at hs' ⊢;with_reducible repeat' (first|apply dP|apply dX<;>intro _)
     · trivial
     · refine dZ (d1j h l (h0 (hb h1) (h2 h3))) ?_
       rintro ⟨b4,y⟩ hy;dsimp only at hy;subst hy;dsimp only;with_reducible repeat' (first|apply dP|apply dX<;>intro _)
       · trivial
       · refine dZ (d1k h l (by omega)) ?_
         rintro ⟨b5,y⟩ hy;dsimp only at hy;subst hy;dsimp only;with_reducible repeat' (first|apply dP|apply dX<;>intro _)
         · trivial
         · refine dZ (d1m h l (by omega)) ?_
           rintro ⟨b6,y⟩ hy;dsimp only at hy;subst hy;dsimp only;with_reducible repeat' (first|apply dP|apply dX<;>intro _)
           · trivial
           · refine dZ (d1n l c d (by omega)) ?_
             rintro ⟨b7,l',c',d',u⟩ -
             dsimp only;with_reducible repeat' (first|apply dP|apply dX<;>intro _)
             · trivial
             · refine dZ (d1o _) ?_
               rintro ⟨b8,c8,u⟩ -
               dsimp only;with_reducible repeat' (first|apply dP|apply dX<;>intro _)
               all_goals trivial
theorem f7z (h:TK T A B) (s:List UInt8) (hs:s.length≤100000000000):Df (x8n (T,A,B,s,())) (fun _=>True):=by
 unfold x8n g2k;dsimp only;refine dZ (d83 s (by omega)) ?_;rintro ⟨l,at_,u⟩ hl;dsimp only at hl ⊢;refine dZ (d1e h _ _ _ _ _ _ _ _ at_ s l _ _ hs (by omega) hl.2.2) ?_;rintro ⟨e,y⟩ -
 exact dP trivial
theorem g6o (a:Int) (b:Bool):Df (q8b (a,b,())) (fun _=>True):=by
 unfold q8b z4v;dsimp only;with_reducible repeat' (first|apply dP|apply dX<;>intro _)
 all_goals trivial
theorem g6p (a:Int) (b:Bool):Df (q8c (a,b,())) (fun _=>True):=by
 unfold q8c z4w;dsimp only;with_reducible repeat' (first|apply dP|apply dX<;>intro _)
 all_goals first|trivial|exact dZ (g6o _ _) fun _ _=>dP trivial
theorem d1p (a:Int):Df (z8o (a,())) (fun _=>True):=by
 unfold z8o g2z;dsimp only;with_reducible repeat' (first|apply dP|apply dX<;>intro _)
 all_goals (refine dZ (g6p _ _) ?_;rintro ⟨x,u⟩ -;dsimp only;(repeat' (first|with_reducible apply dP|(with_reducible apply dB<;>intro _)));all_goals trivial)
theorem d0c (s:List UInt8) (b:Bool) (hs:s.length≤1000000000000000):Df (x8j (s,b,())) (fun _=>True):=by
 unfold x8j g2c;dsimp only;refine dZ (P:=fun _=>True) ?_ (fun z _=>by cases z<;>exact dP trivial);refine dL ?I ?m ?h _ ?hv ?hn
 case I=>exact (fun v=>v.2.1.1=s∧0≤v.2.1.2)
 case m=>exact (fun v=>s.length-v.2.1.2.toNat)
 case hv=>exact ⟨rfl,Int.le_refl _⟩
 case hn=>exact (by (try dsimp only);omega)
 · rintro ⟨x0,⟨x1,p⟩,u⟩ hI
   dsimp only at hI;obtain ⟨rfl,h0⟩:=hI;unfold z3x;dsimp only;with_reducible repeat' (first|apply dP|apply dX<;>intro _)
   · refine dZ (d1p _) ?_
     rintro ⟨x,u⟩ -
     dsimp only;have:=j8i x1 p.toNat
     with_reducible repeat' (first|apply dP|apply dX<;>intro _)
     · trivial
     · exact ⟨⟨rfl,by (try dsimp only);omega⟩,by (try dsimp only);omega⟩
   · trivial
end
section
variable {T:List R6} {A:List R4} {B:List R3}
theorem d84 (s:List UInt8) (hs:s.length≤1000000000000000):Df (C84 (s,())) (fun _=>True):=by
 unfold C84 F84;dsimp only;refine dZ (P:=fun _=>True) ?_ (fun _ _=>dP trivial);unfold v8p g1y;dsimp only;exact dZ (d0c s true hs) fun _ _=>dP trivial
theorem d0t (s:List UInt8) (hs:s.length≤1000000000000000):Df (x8o (s,())) (fun _=>True):=by
 unfold x8o g2l;dsimp only;refine dZ (P:=fun _=>True) ?_ (fun _ _=>dP trivial);unfold z3f y3r;dsimp only;refine dZ (P:=fun y=>y.2.1=s) (dP rfl) ?_;rintro ⟨b,s1,u⟩ h1;dsimp only at h1 ⊢;subst h1;with_reducible repeat' (first|apply dP|apply dX<;>intro _)
 · trivial
 · refine dZ (P:=fun y=>y.2.1=s1) (dP rfl) ?_
   rintro ⟨b,s2,u⟩ h2;dsimp only at h2 ⊢;subst h2;with_reducible repeat' (first|apply dP|apply dX<;>intro _)
   · trivial
   · refine dZ (P:=fun y=>y.2.1=s2) ?_ ?_
     · unfold v8x g2y
       dsimp only;exact dZ (d84 s2 hs) fun _ _=>dP rfl
     rintro ⟨b,s3,u⟩ h3;dsimp only at h3 ⊢;subst h3;with_reducible repeat' (first|apply dP|apply dX<;>intro _)
     · trivial
     · refine dZ (P:=fun _=>True) ?_ ?_
       · unfold v8y g3a
         dsimp only;exact dZ (f8d s3 hs) fun _ _=>dP trivial
       rintro ⟨b,s4,u⟩ -
       dsimp only;with_reducible repeat' (first|apply dP|apply dX<;>intro _)
       all_goals trivial
theorem f0n (n:Int):IntKind.u8.wrap n=n%256:=by simp [IntKind.wrap,IntKind.bits,IntKind.signed]
theorem v3t (x:Int) (b:Bool) (hb:b=true→65≤x∧x≤90):Df (q8f (x,b,())) (Sum.elim (fun y=>0≤y.1∧y.1≤35) (fun _=>True)):=by
 unfold q8f z5d;dsimp only;with_reducible repeat' (first|apply dP|apply dX<;>intro _)
 · rename_i h1
   have:=hb h1;rw [f0n,v8l];exact ⟨by (try dsimp only);omega,by (try dsimp only);omega⟩
 · rw [f0n,v8l]
   exact ⟨by (try dsimp only);omega,by (try dsimp only);omega⟩
 all_goals trivial
theorem v3u (x:Int) (b:Bool) (hb:b=true→48≤x∧x≤57):Df (q8g (x,b,())) (Sum.elim (fun y=>0≤y.1∧y.1≤35) (fun _=>True)):=by
 unfold q8g z5e;dsimp only;with_reducible repeat' (first|apply dP|apply dX<;>intro _)
 · rename_i h1
   have:=hb h1;rw [f0n,v8l,v8l];exact ⟨by (try dsimp only);omega,by (try dsimp only);omega⟩
 · refine dZ (v3t x _ (fun h=>by simp only [decide_eq_true_eq] at h;omega)) ?_
   intro z hz;exact dS hz (fun a ha=>dP ha) (fun _ _=>dP trivial)
 · refine dZ (v3t x _ (fun h=>by cases h)) ?_
   intro z hz;exact dS hz (fun a ha=>dP ha) (fun _ _=>dP trivial)
theorem d2e (x:Int):Df (j6v (x,())) (fun y=>y.2.1=true→0≤y.1∧y.1≤35):=by
 unfold j6v g3h;dsimp only;with_reducible repeat' (first|apply dP|apply dX<;>intro _)
 · refine dZ (v3u x _ (fun h=>by simp only [decide_eq_true_eq] at h;omega)) ?_
   intro z hz;exact dS hz (fun a ha=>dP fun _=>ha) (fun _ _=>dP fun h=>by cases h)
 · refine dZ (v3u x _ (fun h=>by cases h)) ?_
   intro z hz;exact dS hz (fun a ha=>dP fun _=>ha) (fun _ _=>dP fun h=>by cases h)
theorem g6q (s:List UInt8) (b:Int) (hs:s.length≤1000000000000):Df (j4j (s,b,0,1,(s.length:Int),0,())) (Sum.elim (fun _=>True) (Sum.elim (fun _=>True) (fun y=>0≤y.1∧y.1≤2147483647∧y.2.1.length<s.length))):=by
 refine dL ?I ?m ?h _ ?hv ?hn
 case I=>exact (fun v=>v.1=s∧0≤v.2.2.1∧v.2.2.1≤2147483647∧0≤v.2.2.2.1∧v.2.2.2.1≤75161927645∧v.2.2.2.2.1=s.length∧0≤v.2.2.2.2.2.1∧v.2.2.2.2.2.1≤s.length)
 case m=>exact (fun v=>(s.length-v.2.2.2.2.2.1).toNat)
 case hv=>exact ⟨rfl,by (try dsimp only);omega,by (try dsimp only);omega,by (try dsimp only);omega,by (try dsimp only);omega,rfl,by (try dsimp only);omega,by (try dsimp only);omega⟩
 case hn=>exact (by (try dsimp only);omega)
 rintro ⟨x0,x1,x2,x3,x4,x5,u⟩ hI;dsimp only at hI;obtain ⟨rfl,h0,h1,h2,h3,rfl,h4,h5⟩:=hI;unfold z4x;dsimp only;with_reducible repeat' (first|apply dP|apply dX<;>intro _)
 · refine dZ (d2e _) ?_
   rintro ⟨d,ok,u⟩ hd;dsimp only at hd ⊢;refine dH (fun _=>dP trivial) (fun hok => ?_);refine dD (fun _=>dP trivial) (fun hw => ?_)
   · have hd':=hd hok
     have p0:0≤d*x3:=Int.mul_nonneg hd'.1 h2;have p1:d*x3≤35*x3:=Int.mul_le_mul_of_nonneg_right hd'.2 h2;generalize d*x3=P at p0 p1 ⊢;rw [qk (n:=P) (by omega),qk (n:=x2+P) (by omega),qk (n:=x5+1) (by omega)];with_reducible repeat' (first|apply dP|apply dX<;>intro _)
     · trivial
     · refine dZ (g6u _ _) ?_
       rintro ⟨t,u⟩ ht;dsimp only at ht ⊢;have q0:0≤x3*(36-t):=Int.mul_nonneg h2 (by omega);have q1:x3*(36-t)≤x3*35:=Int.mul_le_mul_of_nonneg_left (by omega) h2;rw [qk (n:=36-t) (by omega)];generalize x3*(36-t)=R at q0 q1 ⊢;rw [qk (n:=R) (by omega)];with_reducible repeat' (first|apply dP|apply dX<;>intro _)
       · refine ⟨by (try dsimp only);omega,by (try dsimp only);omega,?_⟩
         simp only [List.length_drop];omega
       · refine dO ?_;omega
       · exact ⟨⟨rfl,by (try dsimp only);omega,by (try dsimp only);omega,by (try dsimp only);omega,by (try dsimp only);omega,rfl,by (try dsimp only);omega,by (try dsimp only);omega⟩,by (try dsimp only);omega⟩
 · refine dO ?_;omega
 · trivial
theorem d1r (s:List UInt8) (b:Int) (hs:s.length≤1000000000000):Df (j9q (s,b,())) (fun y=>y.1<0∨(0≤y.1∧y.1≤2147483647∧y.2.1.length<s.length)):=by
 unfold j9q g3c;dsimp only;refine dZ (g6q s b hs) ?_;intro z hz;refine dS hz ?_ ?_
 · intro u _
   exact dP (.inl (by (try dsimp only);omega))
 · intro z2 hz2
   refine dS hz2 ?_ ?_
   · intro u _
     refine dZ (P:=fun y=>y.1<0) ?_ ?_
     · refine dL ?I ?m ?h _ ?hv ?hn
       case I=>exact (fun _=>True)
       case m=>exact (fun _=>0)
       case hv=>exact trivial
       case hn=>exact (by (try dsimp only);omega)
       intro v _;unfold j5d;exact dP (by decide:(-1:Int)<0)
     · rintro ⟨a,b,u⟩ h
       exact dP (.inl h)
   · rintro ⟨a,b,u⟩ h
     exact dP (.inr h)
theorem d1s (i:Int) (l:List Int) (x:Int) (hi:0≤i∧i≤l.length) (hl:l.length≤1000000000000):Df (j6r (i,l,[x],())) (fun y=>y.1.length=l.length+1):=by
 unfold j6r;dsimp only;rw [decide_eq_true hi.1,decide_eq_true hi.2,decide_eq_true hl];refine dP ?_;simp only [List.length_append,List.length_take,List.length_drop,List.length_cons,List.length_nil];omega
theorem g6j (L:Nat) (hL:L≤1000000000000) (s:List UInt8) (out:List Int) (h:s.length+out.length≤L):Df (j4c (s,128,0,72,true,out,())) (Sum.elim (fun y=>y.1.length≤L) (fun _=>True)):=by
 refine dL ?I ?m ?h _ ?hv ?hn
 case I=>exact (fun v=>v.1.length+v.2.2.2.2.2.1.length≤L∧128≤v.2.1∧v.2.1≤1114111∧0≤v.2.2.1∧v.2.2.1≤v.2.2.2.2.2.1.length)
 case m=>exact (fun v=>v.1.length)
 case hv=>exact ⟨h,by (try dsimp only);omega,by (try dsimp only);omega,by (try dsimp only);omega,by (try dsimp only);omega⟩
 case hn=>exact (by (try dsimp only);omega)
 rintro ⟨x0,x1,x2,x3,x4,x5,u⟩ hI;dsimp only at hI;obtain ⟨h0,h1,h2,h3,h4⟩:=hI;unfold z4k;dsimp only;rw [qk (n:=(x5.length:Int)+1) (by omega)];with_reducible repeat' (first|apply dP|apply dX<;>intro _)
 · refine dZ (d1r x0 x3 (by omega)) ?_
   rintro ⟨d,rest,u⟩ hd;dsimp only at hd ⊢;refine dD (fun _=>dP trivial) (fun hneg => ?_)
   · have hd':=hd.resolve_left hneg
     rw [qk (n:=x2+d) (by omega)];with_reducible repeat' (first|apply dP|apply dX<;>intro _)
     · trivial
     · refine dZ (f8c _ _ _ hd'.1 (by omega)) ?_
       rintro ⟨b,u⟩ -
       dsimp only;have q0:0≤(x2+d)/((x5.length:Int)+1):=Int.ediv_nonneg (by omega) (by omega);have q1:(x2+d)/((x5.length:Int)+1)≤x2+d:=Int.ediv_le_self _ (by omega);have r0:0≤(x2+d)%((x5.length:Int)+1):=Int.emod_nonneg _ (by omega);have r1:(x2+d)%((x5.length:Int)+1)<(x5.length:Int)+1:=Int.emod_lt_of_pos _ (by omega);rw [Int.tdiv_eq_ediv_of_nonneg (by omega),Int.tmod_eq_emod_of_nonneg (by omega)];generalize (x2+d)/((x5.length:Int)+1)=q at q0 q1 ⊢;generalize (x2+d)%((x5.length:Int)+1)=r at r0 r1 ⊢;rw [qk (n:=q) (by omega),qk (n:=x1+q) (by omega)];with_reducible repeat' (first|apply dP|apply dX<;>intro _)
       · trivial
       · refine dZ (g6a _) ?_
         rintro ⟨ok,u⟩ -
         dsimp only;with_reducible repeat' (first|apply dP|apply dX<;>intro _)
         · trivial
         · refine dZ (d1s r x5 _ (by omega) (by omega)) ?_
           rintro ⟨out',u⟩ ho;dsimp only at ho ⊢;rw [qk (n:=r+1) (by omega)];exact dP ⟨⟨by (try dsimp only);omega,by (try dsimp only);omega,by (try dsimp only);omega,by (try dsimp only);omega,by (try dsimp only);omega⟩,by (try dsimp only);omega⟩
         · refine dO ?_;omega
       · refine dO ?_;omega
 · exact (by (try dsimp only);omega:x5.length≤L)
theorem v3p (L:Nat) (hL:L≤1000000000000) (s:List UInt8) (out:List Int) (h:s.length+out.length≤L):Df (q7w (s,out,())) (fun y=>y.2.1.length≤L):=by
 unfold q7w z4j;dsimp only;refine dZ (g6j L hL s out h) ?_;intro z hz;refine dS hz ?_ ?_
 · rintro ⟨a,u⟩ ha
   exact dP ha
 · rintro ⟨a,u⟩ -
   exact dP (by simp)
theorem d1q (s:List UInt8) (c:Int) (hs:s.length≤1000000000000):Df (j9p (s,c,())) (fun y => -1≤y.1∧y.1<s.length):=by
 unfold j9p g3b;dsimp only;refine dZ (P:=fun y => -1≤y.1∧y.1<s.length) ?_ (fun _ h=>dP h);unfold v8z g3g;dsimp only;rw [qk (n:=(s.length:Int)-1) (by omega)];refine dZ (P:=Sum.elim (fun _=>True) (fun y => -1≤y.1∧y.1<s.length)) ?_ ?_
 · refine dL ?I ?m ?h _ ?hv ?hn
   case I=>exact (fun v=>v.1=s ∧ -1≤v.2.2.1∧v.2.2.1<s.length)
   case m=>exact (fun v=>(v.2.2.1+1).toNat)
   case hv=>exact ⟨rfl,by (try dsimp only);omega,by (try dsimp only);omega⟩
   case hn=>exact (by (try dsimp only);omega)
   rintro ⟨x0,x1,x2,u⟩ hI;dsimp only at hI;obtain ⟨rfl,h0,h1⟩:=hI;unfold z5c;dsimp only;with_reducible repeat' (first|apply dP|apply dX<;>intro _)
   · exact ⟨by (try dsimp only);omega,by (try dsimp only);omega⟩
   · rw [qk (n:=x2-1) (by omega)]
     exact ⟨⟨rfl,by (try dsimp only);omega,by (try dsimp only);omega⟩,by (try dsimp only);omega⟩
   · refine dO ?_;omega
   · trivial
 · intro z hz
   refine dS hz ?_ ?_
   · intro u _
     exact dP ⟨by (try dsimp only);omega,by (try dsimp only);omega⟩
   · rintro ⟨a,u⟩ h
     exact dP h
theorem d0u (s:List UInt8) (hs:s.length≤1000000000000):Df (x8p (s,())) (fun y=>y.1.length≤s.length):=by
 unfold x8p g2m;dsimp only;refine dZ (d21 s (by omega)) ?_;rintro ⟨e,u⟩ he;dsimp only at he ⊢;with_reducible repeat' (first|apply dP|apply dX<;>intro _)
 · exact (by simp:([]:List Int).length≤s.length)
 · rename_i hneg
   have hall:=he.2 (by omega);refine dZ (d1q s 45 hs) ?_;rintro ⟨k,u⟩ hk;dsimp only at hk ⊢;rw [qk (n:=k+1) (by omega)];have hb:(decide ((List.take k.toNat s).length≤70368744177664)&&(List.take k.toNat s).all fun b=>decide (b.toNat<128))=true:=by
    rw [decide_eq_true (by rw [List.length_take];omega),Bool.true_and,List.all_eq_true];intro c hc;exact decide_eq_true (hall c (List.mem_of_mem_take hc))
   rw [hb];simp only [cond_true];with_reducible repeat' (first|apply dP|apply dX<;>intro _)
   · refine dZ (v3p s.length hs _ _ (by simp only [List.length_drop,List.length_map,List.length_take];omega)) ?_
     rintro ⟨a,b,u⟩ h;exact dP h
   · refine dO ?_;omega
   · refine dO ?_;omega
   · refine dZ (v3p s.length hs _ _ (by simp)) ?_
     rintro ⟨a,b,u⟩ h;exact dP h
theorem f7w (h:TK T A B) (s:List UInt8) (hs:s.length≤6000000):Df (y3a (T,A,B,s,())) (fun y=>y.1.length≤200000000000∧y.2.1.length≤200000000000):=by
 unfold y3a g2h;dsimp only;refine dZ (f7s h s (by omega)) ?_;rintro ⟨f,ok,u⟩ hf;dsimp only at hf ⊢;refine dZ (d0a f _) ?_;rintro ⟨rest,is,u⟩ hr;dsimp only at hr ⊢;with_reducible repeat' (first|apply dP|apply dX<;>intro _)
 · exact ⟨by simp,by simp⟩
 · refine dZ (d21 f (by omega)) ?_
   rintro ⟨e,u⟩ -
   dsimp only;with_reducible repeat' (first|apply dP|apply dX<;>intro _)
   · refine dZ (d83 f (by omega)) ?_
     rintro ⟨l,at_,u⟩ hl;dsimp only at hl ⊢;refine dZ (g6f l (by omega)) ?_;rintro ⟨code,b,u⟩ hc;dsimp only at hc ⊢;with_reducible repeat' (first|apply dP|apply dX<;>intro _)
     · refine dZ (f7z h f (by omega)) ?_
       rintro ⟨w,u⟩ -
       exact dP ⟨by simp only [zd];omega,by (try dsimp only);omega⟩
     · refine dO ?_;simp only [List.length_cons,List.length_nil] at *;omega
   · refine dZ (d0t f (by omega)) ?_
     rintro ⟨w,u⟩ -
     exact dP ⟨by (try dsimp only);omega,by (try dsimp only);omega⟩
   · refine dZ (d0u rest (by omega)) ?_
     rintro ⟨l,ok2,u⟩ hl;dsimp only at hl ⊢;with_reducible repeat' (first|apply dP|apply dX<;>intro _)
     · exact ⟨by simp,by simp⟩
     · exact ⟨by simp,by simp⟩
     · refine dZ (k4l l (by omega)) ?_
       rintro ⟨us,b,u⟩ hu;dsimp only at hu ⊢;refine dZ (f7z h us (by omega)) ?_;rintro ⟨w,u⟩ -
       dsimp only;with_reducible repeat' (first|apply dP|apply dX<;>intro _)
       · exact ⟨by simp,by simp⟩
       · refine dZ (g6f l (by omega)) ?_
         rintro ⟨code,b,u⟩ -
         dsimp only;with_reducible repeat' (first|apply dP|apply dX<;>intro _)
         · exact ⟨by simp,by simp⟩
         · exact ⟨by (try dsimp only);omega,by (try dsimp only);omega⟩
theorem d0d (h:TK T A B) (s:List UInt8) (hs:s.length≤6000000):Df (y2w (T,A,B,s,())) (fun y=>y.1.length≤200000000000):=by
 unfold y2w g2d;dsimp only;refine dZ (f7w h s hs) ?_;rintro ⟨a,b,e,u⟩ ha;dsimp only at ha ⊢;with_reducible repeat' (first|apply dP|apply dX<;>intro _)
 · exact (by simp:([]:List UInt8).length≤200000000000)
 · exact ha.1
theorem d0e (h:TK T A B) (s:List UInt8) (hs:s.length≤6000000):Df (y2x (T,A,B,s,())) (fun y=>y.1.length≤200000000000):=by
 unfold y2x g2e;dsimp only;refine dZ (f7w h s hs) ?_;rintro ⟨a,b,e,u⟩ ha;dsimp only at ha ⊢;with_reducible repeat' (first|apply dP|apply dX<;>intro _)
 · exact (by simp:([]:List UInt8).length≤200000000000)
 · exact ha.2
theorem q1o (c:UInt8):∀l:List UInt8,Lib.indexByte l c<l.length
 | []=>by simp [Lib.indexByte]
 | b::l=>by
  have:=q1o c l;simp only [Lib.indexByte,List.length_cons];split
  · omega
  · split<;>omega
theorem d0f (s:List UInt8) (c:Int):Df (j1n (s,c,())) (fun y => -1≤y.1∧y.1<s.length):=by
 unfold j1n v1h;dsimp only;exact dZ (P:=fun y => -1≤y.1∧y.1<s.length) (dP ⟨Lib.indexByte_ge s _,q1o _ s⟩) fun _ h=>dP h
theorem g6c (s:List UInt8) (b:Bool) (hb:b=true→0<s.length):Df (q1c (s,[46],1,b,())) (fun y => -1≤y.1∧y.1<s.length):=by
 unfold q1c q8k;dsimp only;with_reducible repeat' (first|apply dP|apply dX<;>intro _)
 · rename_i h1
   have:=hb h1;exact ⟨by (try dsimp only);omega,by (try dsimp only);omega⟩
 · exact dZ (d0f s _) fun _ h=>dP h
 · rename_i h1 h2 h3
   exact absurd (by decide:(0:Int)<(([46]:List UInt8).length:Int)) h3
 all_goals (exfalso;omega)
theorem b9z (s:List UInt8) (hs:s.length≤1000000000000):Df (j1h (s,[46],())) (fun y=>y.1.length≤s.length∧y.2.1.length≤s.length∧(y.2.2.1=true→y.2.1.length<s.length)):=by
 unfold j1h v1b;dsimp only;refine dZ (P:=fun y=>y.1.length≤s.length∧y.2.1.length≤s.length∧(y.2.2.1=true→y.2.1.length<s.length)) ?_ (fun _ h=>dP h);unfold x4e v1i;dsimp only;refine dZ (P:=fun y => -1≤y.1∧y.1<s.length) ?_ ?_
 · unfold z2x v1k
   dsimp only;have e0:((([46]:List UInt8).length:Int)==0)=false:=rfl;rw [e0];simp only [cond_false];refine dZ (g6c s _ fun h => ?_) fun _ h=>dP h;have:=eq_of_beq h;rw [←this];decide
 rintro ⟨k,u⟩ hk;dsimp only at hk ⊢;rw [show (([46]:List UInt8).length:Int)=1 from rfl,qk (n:=k+1) (by omega)];with_reducible repeat' (first|apply dP|apply dX<;>intro _)
 · refine ⟨?_,?_,fun _ => ?_⟩
   · simp only [List.length_take];omega
   · simp only [List.length_drop];omega
   · simp only [List.length_drop];omega
 · refine dO ?_;omega
 · refine dO ?_;omega
 · exact ⟨Nat.le_refl _,by simp,fun h=>by cases h⟩
theorem j3d:∀(n:Nat) (s:List UInt8),s.length<n→s.length≤1000000000000→∃ps,q1v n s=some ps∧ps.length≤n∧∀p∈ps,p.length≤s.length
 | n+1,s,hn,hs=>by
  obtain ⟨⟨a,b,ok,u⟩,e,h1,h2,h3⟩:=b9z s hs;dsimp only at h1 h2 h3;cases ok with
  | true =>
   have h4:=h3 rfl;obtain ⟨ps,e2,h5,h6⟩:=j3d n b (by omega) (by omega);refine ⟨a::ps,by simp only [q1v,e,Option.bind_some,cond_true,e2,Option.map_some],by simp only [List.length_cons];omega,?_⟩;intro p hp;rcases List.mem_cons.1 hp with rfl|hp
   · exact h1
   · have:=h6 p hp;omega
  | false =>
   refine ⟨[a],by simp only [q1v,e,Option.bind_some,cond_false],by simp only [List.length_cons,List.length_nil];omega,?_⟩;intro p hp;rw [List.mem_singleton] at hp;subst hp;exact h1
end
section
variable {T:List R6} {A:List R4} {B:List R3}
theorem x7n {s old:List UInt8} {i:Nat} (h:Lib.index s old=i):i+old.length≤s.length:=by
 have:=Lib.index_room s old (by omega);omega
theorem j3g (old new:List UInt8) (hl:new.length≤old.length):∀(k:Nat) (s:List UInt8),(Lib.replaceK old new k s).length≤s.length
 | 0,s=>Nat.le_refl _
 | k+1,s=>by
  by_cases h:Lib.index s old = -1
  · rw [Lib.replaceK,if_pos (by rw [h];rfl)];exact Nat.le_refl _
  · obtain ⟨i,hi⟩:∃i:Nat,Lib.index s old=i:=⟨(Lib.index s old).toNat,by have:=Lib.index_ge s old;omega⟩
    rw [Lib.replaceK_hit old new k s i hi];have h1:=j3g old new hl k (s.drop (i+old.length));have h2:=x7n hi;simp only [List.length_append,List.length_take,List.length_drop] at h1 ⊢;omega
theorem z0l (s old new:List UInt8) (hl:new.length≤old.length):(Lib.replaceAll s old new).length≤s.length:=by
 unfold Lib.replaceAll Lib.replace;split
 · exact Nat.le_refl _
 · exact j3g old new hl _ s
theorem z7e (f:List UInt8) (ok:Bool) (hf:f.length≤5000000):∃ls c,j0u f ok=some (ls,c)∧ls.length≤32∧∀p∈ls,p.length≤5000000:=by
 unfold j0u;cases ok with
 | false=>exact ⟨[],7,rfl,by simp,fun p hp=>by cases hp⟩
 | true =>
  cases hfe:f.isEmpty with
  | true=>exact ⟨[],13,rfl,by simp,fun p hp=>by cases hp⟩
  | false =>
   simp only [Bool.not_true,cond_false];rw [decide_eq_true (by omega)];simp only [cond_true];have hr:=z0l f [227,128,130] [46] (by decide);obtain ⟨ps,e,h1,h2⟩:=j3d (f.length+2) (Lib.replaceAll f [227,128,130] [46]) (by omega) (by omega);simp only [e,Option.bind_some];rw [decide_eq_true (by omega)];simp only [cond_true];by_cases h3:32<ps.length
   · rw [decide_eq_true h3]
     exact ⟨[],2,rfl,by simp,fun p hp=>by cases hp⟩
   · rw [decide_eq_false h3]
     exact ⟨ps,0,rfl,by omega,fun p hp=>by have:=h2 p hp;omega⟩
theorem z1o (l:List (List UInt8)) (x:List UInt8):Lib.lens (l++[x])=Lib.lens l+x.length:=by simp [Lib.lens]
theorem j8d (f g:List UInt8→Option (List UInt8×Int)) (hf:∀x:List UInt8,x.length≤5000000→∃y,f x=some y∧y.1.length≤200000000000) (hg:∀x:List UInt8,x.length≤5000000→∃y,g x=some y∧y.1.length≤200000000000) :
 ∀(ls ps qs:List (List UInt8)) (n:Nat),(∀p∈ls,p.length≤5000000)→ps.length+ls.length≤32→qs.length+ls.length≤32→Lib.lens ps≤200000000000*n→Lib.lens qs≤200000000000*n→n+ls.length≤32 →
  ∃r,q5u f g ls ps qs=some r∧r.2.1.length≤32∧r.2.2.length≤32∧Lib.lens r.2.1≤6400000000000∧Lib.lens r.2.2≤6400000000000
 | [],ps,qs,n,h,h1,h2,h3,h4,h5=>⟨(0,ps,qs),rfl,by simpa using h1,by simpa using h2,by simp only [List.length_nil] at h5;dsimp only;omega,by simp only [List.length_nil] at h5;dsimp only;omega⟩
 | x::ls,ps,qs,n,h,h1,h2,h3,h4,h5=>by
  obtain ⟨a,ea,ha⟩:=hf x (h x List.mem_cons_self);obtain ⟨b,eb,hb⟩:=hg x (h x List.mem_cons_self);simp only [q5u,ea,Option.bind_some];simp only [List.length_cons] at h1 h2 h5;cases hz:(a.2 != 0) with
  | true=>exact ⟨(a.2,[],[]),rfl,by simp,by simp,by simp [Lib.lens],by simp [Lib.lens]⟩
  | false =>
   simp only [cond_false,eb,Option.bind_some];exact j8d f g hf hg ls (ps++[a.1]) (qs++[b.1]) (n+1) (fun p hp=>h p (List.mem_cons_of_mem _ hp)) (by simp only [zd];omega) (by simp only [zd];omega)
    (by rw [z1o];omega) (by rw [z1o];omega) (by omega)
theorem j8r (l:List (List UInt8)) (h1:l.length≤32) (h2:Lib.lens l≤6400000000000):∃r,q5v (l,[46],())=some (r,()):=by
 unfold q5v;have hj:(Lib.join l [46]).length≤140737488355328:=by
  cases l with
  | nil=>exact Nat.zero_le _
  | cons x r =>
   rw [Lib.join_length];simp only [List.length_cons,List.length_nil] at h1 ⊢;omega
 dsimp only;rw [decide_eq_true (by omega),decide_eq_true hj];exact ⟨_,rfl⟩
theorem x7x (r:Int×List (List UInt8)×List (List UInt8)) (h1:r.2.1.length≤32) (h2:r.2.2.length≤32) (h3:Lib.lens r.2.1≤6400000000000) (h4:Lib.lens r.2.2≤6400000000000):∃o,y6c r=some o:=by
 unfold y6c;cases (r.1 != 0) with
 | true=>exact ⟨_,rfl⟩
 | false =>
  obtain ⟨a,ha⟩:=j8r r.2.1 h1 h3;obtain ⟨b,hb⟩:=j8r r.2.2 h2 h4;simp only [cond_false,ha,Option.bind_some,hb];cases decide (253<a.length) with
  | true=>exact ⟨_,rfl⟩
  | false=>exact ⟨_,rfl⟩
theorem b9y (h:TK T A B) (s:List UInt8) (hs:s.length≤3000):∃y,z8d (T,A,B,s,())=some y:=by
 obtain ⟨⟨f,ok,u⟩,e,hf⟩:=f7s h s (by omega);dsimp only at hf;obtain ⟨ls,c,e2,hll,hls⟩:=z7e f ok (by omega);unfold z8d;dsimp only;simp only [e,Option.bind_some,e2];cases (c != 0) with
 | true=>exact ⟨_,rfl⟩
 | false =>
  simp only [cond_false];rw [decide_eq_true hll];obtain ⟨r,er,h1,h2,h3,h4⟩:=j8d (fun x=>(y2w (T,A,B,x,())).map fun r=>(r.1,r.2.1)) (fun x=>(y2x (T,A,B,x,())).map fun r=>(r.1,r.2.1))
   (fun x hx=>by
    obtain ⟨y,e,hy⟩:=d0d h x (by omega);exact ⟨(y.1,y.2.1),by simp only [e,Option.map_some],hy⟩)
   (fun x hx=>by
    obtain ⟨y,e,hy⟩:=d0e h x (by omega);exact ⟨(y.1,y.2.1),by simp only [e,Option.map_some],hy⟩)
   ls [] [] 0 hls (by simpa using hll) (by simpa using hll) (by simp [Lib.lens]) (by simp [Lib.lens]) (by simpa using hll)
  obtain ⟨o,ho⟩:=x7x r h1 h2 h3 h4;simp only [cond_true,er,Option.bind_some,ho,Option.map_some];exact ⟨_,rfl⟩
end
section
variable {T:List R6} {A:List R4} {B:List R3}
theorem d85 (x:Int):Df (C85 (x,())) (fun _=>True):=by
 unfold C85 F85;dsimp only;with_reducible repeat' (first|apply dP|apply dX<;>intro _)
 all_goals trivial
theorem g6b (s:List UInt8) (b:Bool) (hs:s.length≤1000000000000000):Df (j1k (s,b,())) (fun _=>True):=by
 unfold j1k z3y;dsimp only;refine dZ (P:=fun _=>True) ?_ (fun z _=>by cases z<;>exact dP trivial);refine dL ?I ?m ?h _ ?hv ?hn
 case I=>exact (fun v=>v.2.1.1=s∧0≤v.2.1.2)
 case m=>exact (fun v=>s.length-v.2.1.2.toNat)
 case hv=>exact ⟨rfl,Int.le_refl _⟩
 case hn=>exact (by (try dsimp only);omega)
 · rintro ⟨x0,⟨x1,p⟩,u⟩ hI
   dsimp only at hI;obtain ⟨rfl,h0⟩:=hI;unfold q3w;dsimp only;with_reducible repeat' (first|apply dP|apply dX<;>intro _)
   · refine dZ (d85 _) ?_
     rintro ⟨x,u⟩ -
     dsimp only;have:=j8i x1 p.toNat
     with_reducible repeat' (first|apply dP|apply dX<;>intro _)
     · trivial
     · exact ⟨⟨rfl,by (try dsimp only);omega⟩,by (try dsimp only);omega⟩
   · trivial
theorem f8k (s:List UInt8) (hs:s.length≤1000000000000000):Df (q5n (s,())) (fun _=>True):=by
 unfold q5n x0j;dsimp only;refine dZ (P:=fun _=>True) ?_ (fun z _=>dP trivial);unfold j6k z3r;dsimp only;exact dZ (g6b s true hs) (fun z _=>dP trivial)
theorem d86 (a:List UInt8):Df (C86 (a,())) (fun _=>True):=by
 unfold C86 F86;dsimp only;refine dZ (P:=fun _=>True) ?_ (fun z _=>dP trivial);unfold C96 F96;dsimp only;exact dZ (g5y a [91]) (fun z _=>dP trivial)
theorem d87 (h:TK T A B) (s:List UInt8) (hs:s.length≤3000):Df (C87 (T,A,B,s,())) (fun _=>True):=by
 unfold C87 F87;dsimp only;obtain ⟨y,e⟩:=b9y h s hs;exact dZ (P:=fun _=>True) ⟨y,e,trivial⟩ (fun z _=>dP trivial)
theorem d44 (h:TK T A B) (a b:List UInt8) (ha:a.length≤100000) (hb:b.length≤3000):Df (C44 (T,A,B,a,b,())) (fun _=>True):=by
 unfold C44 F44;dsimp only;refine dZ (d83 a (by omega)) ?_;rintro ⟨x,y,u⟩ -
 dsimp only;with_reducible repeat' (first|apply dP|apply dX<;>intro _)
 · trivial
 · trivial
 · trivial
 · refine dZ (f8k a (by omega)) ?_
   rintro ⟨x,u⟩ -
   dsimp only;with_reducible repeat' (first|apply dP|apply dX<;>intro _)
   · trivial
   · refine dZ (d86 b) ?_
     rintro ⟨x,u⟩ -
     dsimp only;with_reducible repeat' (first|apply dP|apply dX<;>intro _)
     · rw [c11 b]
       simp only [Option.bind_some];with_reducible repeat' (first|apply dP|apply dX<;>intro _)
       · trivial
       · trivial
       · trivial
       · trivial
       · refine dO ?_;omega
     · exact dZ (d87 h b hb) (fun z _=>dP trivial)
end
theorem x2l:∀(m:Nat) (s:List UInt8) (p:Nat) (l:List Tok),s.length≤m→q0l s p = .inl l→szT l≤s.length∧l.length≤s.length
 | _,[],p,l,_,h=>by rw [v5r] at h;cases h;exact ⟨Nat.le_refl _,Nat.le_refl _⟩
 | 0,c::r,p,l,hm,h=>by simp at hm
 | m+1,c::r,p,l,hm,h=>by
  obtain ⟨k,t,u,l',h1,h2,rfl⟩:=y1b h;have hu:=kp h1;have ht:=z7l h1;obtain ⟨i1,i2⟩:=x2l m ((c::r).drop u) (p+u) l' (by simp at hm ⊢;omega) h2;simp only [List.length_drop,List.length_cons,szT] at i1 i2 ⊢;omega
theorem w0a (s:List UInt8):szT (q6l s).1≤s.length∧(q6l s).1.length≤s.length:=by
 have nil:szT ([]:List Tok)≤s.length∧([]:List Tok).length≤s.length:=⟨Nat.zero_le _,Nat.zero_le _⟩
 unfold q6l;split
 · exact nil
 · cases utf s with
   | some b=>exact nil
   | none =>
    cases h:q0l s 0 with
    | inr e=>exact nil
    | inl l=>exact x2l _ s 0 l (Nat.le_refl _) h
theorem v3z:∀(m:Nat) (l:List Tok) (acc:List UInt8),l.length≤m→(dwn acc l).1.length≤acc.length+szT l+l.length
 | _,[],_,_=>by simp [dwn]
 | _,[_],_,_=>by simp only [dwn];omega
 | 0,_::_::_,_,h=>by simp at h
 | m+1,t::u::r,acc,h=>by
  have:=v3z m r (acc++([46]++u.2.1)) (by simp at h;omega);simp only [zd] at this;simp only [dwn,szT,List.length_cons];cases ((t.1==2&&t.2.1==[46])&&u.1==0) with
  | true=>simp only [cond_true];omega
  | false=>simp only [cond_false];omega
theorem v3x (l:List Tok):(dot l).1.length≤szT l+l.length:=by
 cases l with
 | nil=>exact Nat.le_refl _
 | cons t r =>
  have:=v3z r.length r t.2.1 (Nat.le_refl _);simp only [dot,szT,List.length_cons];cases (t.1==0) with
  | true=>simp only [cond_true];omega
  | false=>simp only [cond_false,List.length_nil];omega
theorem g9l (l:List Tok):(loc l).2.1.length≤szT l+l.length:=by
 cases l with
 | nil=>exact Nat.le_refl _
 | cons t r =>
  have:=v3x (t::r);simp only [loc,szT,List.length_cons] at this ⊢;cases (t.1==1) with
  | true=>simp only [cond_true];omega
  | false=>simpa only [cond_false] using this
theorem g7k (l:List Tok):(dom l).2.1.length≤szT l+l.length+2:=by
 cases l with
 | nil=>exact Nat.zero_le _
 | cons t r =>
  have:=v3x (t::r);simp only [dom,szT,List.length_cons] at this ⊢;by_cases h5:t.1=5
  · rw [ibT h5]
    simp only [cond_true,src,h5,zd];simp;omega
  · rw [ibF h5]
    simp only [cond_false];omega
theorem f9h (l:List Tok) {r:List UInt8×List UInt8×Nat} (h:mt l=some r):1≤r.2.2∧r.1.length≤szT l+l.length∧r.2.1.length≤szT l+l.length+2:=by
 unfold mt at h;simp only at h;have b1:=g9l (l.drop (skn l));have b2:=q0y (skn l) l;rw [List.length_drop] at b1;cases hl:(loc (l.drop (skn l))).1 with
 | false=>simp only [hl,Bool.not_false,cond_true] at h;cases h
 | true =>
  simp only [hl,Bool.not_true,cond_false] at h;generalize skn l+(loc (l.drop (skn l))).2.2=n2 at h;generalize n2+skn (l.drop n2)=n3 at h;cases hs:sgn [64] (l.drop n3) with
  | false=>simp only [hs,Bool.not_false,cond_true] at h;cases h
  | true =>
   simp only [hs,Bool.not_true,cond_false] at h;generalize hn5:n3+1+skn (l.drop (n3+1))=n5 at h;have b5:=g7k (l.drop n5);have b6:=q0y n5 l;rw [List.length_drop] at b5;cases hd:(dom (l.drop n5)).1 with
   | false=>simp only [hd,Bool.not_false,cond_true] at h;cases h
   | true =>
    simp only [hd,Bool.not_true,cond_false] at h;cases h;simp only;omega
section
variable {l:List Tok}
end
section
variable {T:List R6} {A:List R4} {B:List R3}
end
def jm (b:UInt8):UInt8:=UInt8.ofNat (((C64 ((b.toNat:Int),())).getD (0,())).1.toNat)
theorem f9b:((List.range 256).all fun n=>(C64 (((UInt8.ofNat n).toNat:Int),())).isSome)=true:=by kernel_rfl
theorem p64 (b:UInt8):∃v:Int,C64 ((b.toNat:Int),())=some (v,())∧UInt8.ofNat v.toNat=jm b:=by
 have h:=List.all_eq_true.1 f9b b.toNat (by simp only [List.mem_range];exact b.toNat_lt)
 simp only [UInt8.ofNat_toNat] at h;obtain ⟨⟨v,u⟩,hv⟩:=Option.isSome_iff_exists.1 h;exact ⟨v,hv,by unfold jm;rw [hv];rfl⟩
theorem b3z:∀(r pre:List UInt8) (p n:Nat) (acc:List UInt8),pre.length=p→acc.length=p→r.length<n→p+r.length≤1000000 →
 qc (j7b C64) n (pre++r,((p+r.length:Nat):Int),(p:Int),acc,())=some (acc++r.map jm,())
 | [],pre,p,n+1,acc,hp,ha,hn,hb=>by
  refine qd ?_;simp only [j7b,List.length_nil,Nat.add_zero];rw [decide_eq_false (by omega)];simp only [cond_false,List.map_nil,List.append_nil]
 | c::r,pre,p,n+1,acc,hp,ha,hn,hb=>by
  simp only [List.length_cons] at hn hb;obtain ⟨v,hv,hl⟩:=p64 c;have hlen:(pre++c::r).length=p+r.length+1:=by simp [hp];omega
  rw [ql (v':=(pre++c::r,((p+(r.length+1):Nat):Int),((p+1:Nat):Int),acc++[jm c],())) ?_]
  · have ih:=b3z r (pre++[c]) (p+1) n (acc++[jm c]) (by simp [hp]) (by simp [ha]) (by omega) (by omega)
    rw [show p+(r.length+1)=p+1+r.length by omega,show pre++c::r=(pre++[c])++r by simp,ih];simp
  · simp only [j7b,List.length_cons]
    rw [decide_eq_true (by omega),decide_eq_true (by omega),decide_eq_true (by omega)];simp only [Bool.and_self,cond_true,Int.toNat_natCast];rw [show (pre++c::r).getD p 0=c by subst hp;simp];simp only [hv,Option.bind_some,hl,wrN p (by omega)];rw [decide_eq_true (by simp only [List.length_cons,List.length_nil];omega)];rfl
theorem p25 (l:List UInt8) (h:l.length≤1000000):C25 (l,())=some (l.map jm,()):=by
 have hl:j6z (l,(l.length:Int),0,[],())=some (l.map jm,()):=by
  have h:=b3z l [] 0 jc [] rfl rfl (by unfold jc;omega) (by omega);rw [Nat.zero_add] at h;exact h
 have h63:C63 (l,())=some (l.map jm,()):=by
  show F63 C64 j6z _=_;simp only [F63,hl,Option.bind_some]
 show F25 C63 _=_;simp only [F25,h63,Option.bind_some];rw [decide_eq_true (by omega)];rfl
section
variable {T:List R6} {A:List R4} {B:List R3}
end
theorem d59 (n:Bool) (a b:List UInt8) (ha:a.length≤1000):Df (C59 (n,a,b,())) (fun y=>y.1=true→n=false∧a≠[]):=by
 unfold C59 F59;dsimp only;with_reducible repeat' (first|apply dP|apply dX<;>intro _)
 · rename_i hn _
   rw [p25 a (by omega)];refine dP fun h=>⟨hn,?_⟩
   rintro rfl;cases h
 · intro h;cases h
 · intro h;cases h
section
variable {T:List R6} {A:List R4} {B:List R3}
end
theorem y2p:∀(k:Nat) (l:List Tok),szT (l.take k)≤szT l
 | 0,l=>by simp [szT]
 | k+1,[]=>by simp
 | k+1,t::r=>by have:=y2p k r;simp only [List.take_succ_cons,szT];omega
section
variable {T:List R6} {A:List R4} {B:List R3}
end
def lw (s:List UInt8):List UInt8:=s.map jm
def lwK (c:UInt8):Bool:=(q0p (jm c)==q0p c)&&((zn (jm c)==zn c)&&((zq (jm c)==zq c)&&((j1d (jm c)==j1d c)&&((jm (jm c)==jm c)&&((decide ((jm c).toNat<128)==decide (c.toNat<128)) &&
 ([10,13,32,34,40,41,44,46,58,59,60,61,62,64,91,92,93]:List UInt8).all fun k=>(jm c==k)==(c==k))))))
theorem d4z:((List.range 256).all fun n=>lwK (UInt8.ofNat n))=true:=by kernel_rfl
theorem j8v (c:UInt8):lwK c=true:=vk lwK d4z c
section
variable (c:UInt8)
theorem x2p:q0p (jm c)=q0p c:=by
 have:=j8v c;simp only [lwK,Bool.and_eq_true,beq_iff_eq] at this;exact this.1
theorem q3h:zn (jm c)=zn c:=by
 have:=j8v c;simp only [lwK,Bool.and_eq_true,beq_iff_eq] at this;exact this.2.1
theorem q6p:zq (jm c)=zq c:=by
 have:=j8v c;simp only [lwK,Bool.and_eq_true,beq_iff_eq] at this;exact this.2.2.1
theorem w0c:j1d (jm c)=j1d c:=by
 have:=j8v c;simp only [lwK,Bool.and_eq_true,beq_iff_eq] at this;exact this.2.2.2.1
theorem g9p:jm (jm c)=jm c:=by
 have:=j8v c;simp only [lwK,Bool.and_eq_true,beq_iff_eq] at this;exact this.2.2.2.2.1
theorem y5u:((jm c).toNat<128)=(c.toNat<128):=by
 have:=j8v c;simp only [lwK,Bool.and_eq_true,beq_iff_eq] at this;exact decide_eq_decide.1 this.2.2.2.2.2.1 |> propext
theorem y1d {k:UInt8} (hk:k∈([10,13,32,34,40,41,44,46,58,59,60,61,62,64,91,92,93]:List UInt8)):(jm c==k)=(c==k):=by
 have:=j8v c;simp only [lwK,Bool.and_eq_true] at this;exact eq_of_beq (List.all_eq_true.1 this.2.2.2.2.2.2 k hk)
theorem q6q {k:UInt8} (hk:k∈([10,13,32,34,40,41,44,46,58,59,60,61,62,64,91,92,93]:List UInt8)):((jm c).toNat=k.toNat)=(c.toNat=k.toNat):=by
 have h:=y1d c hk;rw [UInt8.toNat_inj,UInt8.toNat_inj];apply propext;constructor
 · intro e;rw [e,beq_self_eq_true] at h;exact eq_of_beq h.symm
 · intro e;rw [e,beq_self_eq_true] at h;rw [e];exact eq_of_beq h
theorem n34:((jm c).toNat=34)=(c.toNat=34):=q6q c (k:=34) (by decide)
theorem n92:((jm c).toNat=92)=(c.toNat=92):=q6q c (k:=92) (by decide)
theorem n93:((jm c).toNat=93)=(c.toNat=93):=q6q c (k:=93) (by decide)
theorem n91:((jm c).toNat=91)=(c.toNat=91):=q6q c (k:=91) (by decide)
theorem n40:((jm c).toNat=40)=(c.toNat=40):=q6q c (k:=40) (by decide)
theorem n41:((jm c).toNat=41)=(c.toNat=41):=q6q c (k:=41) (by decide)
theorem b13:(jm c==13)=(c==13):=y1d c (by decide)
theorem b10:(jm c==10)=(c==10):=y1d c (by decide)
end
theorem j8x:lw []=[]:=rfl
theorem jx (c:UInt8) (r:List UInt8):lw (c::r)=jm c::lw r:=rfl
theorem zj (s:List UInt8):(lw s).length=s.length:=List.length_map ..
theorem z7h (a b:List UInt8):lw (a++b)=lw a++lw b:=List.map_append ..
theorem q5h (n:Nat) (s:List UInt8):(lw s).take n=lw (s.take n):=(List.map_take ..).symm
theorem q1s (n:Nat) (s:List UInt8):(lw s).drop n=lw (s.drop n):=(List.map_drop ..).symm
theorem v6b (s:List UInt8):lw (lw s)=lw s:=by
 unfold lw;rw [List.map_map];exact List.map_congr_left fun c _=>g9p c
theorem w9n:∀s,al (lw s)=al s
 | []=>rfl
 | c::r=>by rw [jx];simp only [al,x2p,w9n r]
theorem x2u:∀s,wl (lw s)=wl s
 | []=>rfl
 | [c]=>by simp only [jx,j8x,wl,q3h]
 | [c,b]=>by
  have:=x2u [b];simp only [jx,j8x,wl,q3h] at *
 | c::b::d::r=>by
  have h1:=x2u (b::d::r);have h2:=x2u r;simp only [jx] at h1;simp only [jx];unfold wl;rw [h1,q3h];simp only [b13,b10,q3h,h2]
def Tk.lo:Tk→Tk
 | .ok t u => .ok (lw t) u
 | .bad o e => .bad o e
 | .start => .start
theorem q1r (l:List UInt8) (n:Nat) (k:Tk):(k.push l n).lo=k.lo.push (lw l) n:=by
 cases k
 · simp only [Tk.push,Tk.lo,z7h]
 · rfl
 · rfl
theorem v5t (k:Tk):k.up.lo=k.lo.up:=by cases k<;>rfl
theorem x2t:∀s,qt (lw s)=(qt s).lo
 | []=>rfl
 | [c]=>by
  have h0:=x2t [];simp only [jx,j8x] at *
  by_cases h1:c.toNat=34
  · rw [y2h h1,y2h (by rw [n34];exact h1)];rfl
  by_cases h2:c.toNat=92
  · rw [z1z h2,z1z (by rw [n92];exact h2)];rfl
  rw [y2g h1 h2,y2g (by rw [n34];exact h1) (by rw [n92];exact h2),q6p];cases zq c<;>rfl
 | c::d::r=>by
  have h0:=x2t (d::r);have h3:=x2t r;simp only [jx] at *
  by_cases h1:c.toNat=34
  · rw [y2h h1,y2h (by rw [n34];exact h1)];rfl
  by_cases h2:c.toNat=92
  · rw [z2a h2,z2a (by rw [n92];exact h2),q6p,h3]
    cases zq d
    · rfl
    · exact (q1r [d] 2 _).symm
  rw [y2g h1 h2,y2g (by rw [n34];exact h1) (by rw [n92];exact h2),q6p,h0];cases zq c
  · rfl
  · exact (q1r [c] 1 _).symm
theorem v6a:∀s,ltk (lw s)=(ltk s).lo
 | []=>rfl
 | c::r=>by
  rw [jx];simp only [ltk,n93,n91,n92,q3h,q6p,v6a r];split
  · rfl
  split
  · rfl
  split
  · rfl
  cases zn c
  · cases zq c
    · rfl
    · exact (q1r [c] 1 _).symm
  · rfl
theorem x2s:∀(s:List UInt8) (deep:Nat),nt deep (lw s)=(nt deep s).lo
 | [],deep=>rfl
 | [c],deep=>by
  have h0:=x2s [];simp only [jx,j8x] at *
  by_cases h1:c.toNat=40
  · rw [y1q h1,y1q (by rw [n40];exact h1)];split
    · rfl
    · rfl
  by_cases h2:c.toNat=41
  · rw [y1o h2,y1o (by rw [n41];exact h2)];split
    · rfl
    · rfl
  by_cases h3:c.toNat=92
  · rw [z1r h3,z1r (by rw [n92];exact h3)];rfl
  rw [y1p h1 h2 h3,y1p (by rw [n40];exact h1) (by rw [n41];exact h2) (by rw [n92];exact h3),q6p];cases zq c<;>rfl
 | c::d::r,deep=>by
  have h0:=x2s (d::r);have h4:=x2s r deep;simp only [jx] at *
  by_cases h1:c.toNat=40
  · rw [y1q h1,y1q (by rw [n40];exact h1),h0];split
    · rfl
    · exact (q1r [c] 1 _).symm
  by_cases h2:c.toNat=41
  · rw [y1o h2,y1o (by rw [n41];exact h2),h0];split
    · rfl
    · exact (q1r [c] 1 _).symm
  by_cases h3:c.toNat=92
  · rw [z1s h3,z1s (by rw [n92];exact h3),q6p,h4]
    cases zq d
    · rfl
    · exact (q1r [c,d] 2 _).symm
  rw [y1p h1 h2 h3,y1p (by rw [n40];exact h1) (by rw [n41];exact h2) (by rw [n92];exact h3),q6p,h0];cases zq c
  · rfl
  · exact (q1r [c] 1 _).symm
theorem g9q (c:UInt8) (r:List UInt8):one (jm c) (lw r)=((one c r).1,(one c r).2.lo):=by
 have h1:=w9n (c::r);have h2:=x2u (c::r);rw [jx] at h1 h2;unfold one;rw [h1,h2,←jx,q5h,q5h,x2p,w0c,x2t,v6a,x2s];simp only [n34,n91,n40];split
 · rfl
 split
 · rfl
 split
 · exact Prod.ext rfl (v5t _).symm
 split
 · exact Prod.ext rfl (v5t _).symm
 split
 · exact Prod.ext rfl (v5t _).symm
 split
 · rfl
 · rfl
def lt1 (x:Tok):Tok:=(x.1,lw x.2.1,x.2.2)
def lwT (l:List Tok):List Tok:=l.map lt1
def lwS:List Tok⊕(Nat×Int)→List Tok⊕(Nat×Int)
 | .inl l => .inl (lwT l)
 | .inr e => .inr e
theorem x2r:∀(m:Nat) (s:List UInt8) (p:Nat),s.length≤m→q0l (lw s) p=lwS (q0l s p)
 | m,[],p,h=>rfl
 | 0,c::r,p,h=>by simp at h
 | m+1,c::r,p,h=>by
  have h1:=g9q c r;rw [jx];cases ho:one c r with
  | mk k tk =>
   rw [ho] at h1;cases tk with
   | ok t u =>
    have hu:=kp ho;have ih:=x2r m ((c::r).drop u) (p+u) (by simp only [List.length_drop,List.length_cons] at *;omega);rw [z7f h1,z7f ho,←jx,q1s,ih];cases q0l ((c::r).drop u) (p+u)<;>rfl
   | bad o e=>rw [j8t h1,j8t ho];rfl
   | start=>rw [q6m h1,q6m ho];rfl
def Asc (s:List UInt8):Prop:=∀c∈s,c.toNat<128
theorem j8c {s:List UInt8} (h:Asc s):Asc (lw s):=by
 intro c hc;obtain ⟨d,hd,rfl⟩:=List.mem_map.1 hc;rw [y5u];exact h d hd
theorem z6o {s:List UInt8} (h:Asc s):utf s=none:=v8k _ _ _ h
theorem z9y {s:List UInt8} (h:Asc s) (n:Nat):Asc (s.take n):=fun c hc=>h c (List.mem_of_mem_take hc)
theorem q2y {s:List UInt8} (h:Asc s) (n:Nat):Asc (s.drop n):=fun c hc=>h c (List.mem_of_mem_drop hc)
theorem x2q {s:List UInt8} (h:Asc s):q6l (lw s)=(lwT (q6l s).1,(q6l s).2.1,(q6l s).2.2):=by
 unfold q6l;rw [zj,z6o h,z6o (j8c h),x2r _ _ _ (Nat.le_refl _)];split
 · rfl
 · cases q0l s 0<;>rfl
theorem q0d (x:Tok) (l:List Tok):lwT (x::l)=lt1 x::lwT l:=rfl
theorem q6o (l:List Tok):(lwT l).length=l.length:=List.length_map ..
theorem z7g (n:Nat) (l:List Tok):(lwT l).drop n=lwT (l.drop n):=(List.map_drop ..).symm
theorem x2n (n:Nat) (l:List Tok):(lwT l).take n=lwT (l.take n):=(List.map_take ..).symm
theorem j8w (t:List UInt8) {k:UInt8} (hk:k∈([10,13,32,34,40,41,44,46,58,59,60,61,62,64,91,92,93]:List UInt8)):(lw t==[k])=(t==[k]):=by
 match t with
 | []=>rfl
 | [c] =>
  rw [jx,j8x];have:=y1d c hk;show (jm c==k&&true)=(c==k&&true)
  rw [this]
 | a::b::r =>
  rw [jx,jx];have e1:((jm a::jm b::lw r)==[k])=false:=by simp
  have e2:((a::b::r)==[k])=false:=by simp
  rw [e1,e2]
theorem v5x:∀l,skn (lwT l)=skn l
 | []=>rfl
 | t::r=>by rw [q0d];simp only [skn,lt1,v5x r]
theorem g9o (l:List Tok) {k:UInt8} (hk:k∈([10,13,32,34,40,41,44,46,58,59,60,61,62,64,91,92,93]:List UInt8)):sgn [k] (lwT l)=sgn [k] l:=by
 cases l with
 | nil=>rfl
 | cons t r=>rw [q0d];simp only [sgn,lt1,j8w _ hk]
theorem f8y:lw [46]=[46]:=by decide +kernel
theorem v5w:∀(m:Nat) (l:List Tok) (acc:List UInt8),l.length≤m→dwn (lw acc) (lwT l)=(lw (dwn acc l).1,(dwn acc l).2)
 | m,[],acc,h=>rfl
 | m,[t],acc,h=>rfl
 | 0,t::u::r,acc,h=>by simp at h
 | m+1,t::u::r,acc,h=>by
  have ih:=v5w m r (acc++([46]++u.2.1)) (by simp only [List.length_cons] at h;omega);rw [z7h,z7h,f8y] at ih;rw [q0d,q0d];unfold dwn;simp only [lt1,j8w _ (show (46:UInt8)∈_ by decide)];rw [ih];cases (t.1==2&&t.2.1==[46])&&u.1==0<;>rfl
theorem v5v (l:List Tok):dot (lwT l)=(lw (dot l).1,(dot l).2.1,(dot l).2.2):=by
 cases l with
 | nil=>rfl
 | cons t r =>
  rw [q0d];simp only [dot,lt1,v5w _ r t.2.1 (Nat.le_refl _)];cases t.1==0<;>rfl
theorem g9n (l:List Tok):loc (lwT l)=((loc l).1,lw (loc l).2.1,(loc l).2.2):=by
 cases l with
 | nil=>rfl
 | cons t r =>
  have h:=v5v (t::r);rw [q0d] at h ⊢;simp only [loc,h];simp only [lt1];cases t.1==1<;>rfl
theorem f8z:lw [91]=[91]:=by decide +kernel
theorem f9a:lw [93]=[93]:=by decide +kernel
theorem v8b (t:List UInt8):src 5 t=[91]++t++[93]:=rfl
theorem g9m (l:List Tok):dom (lwT l)=((dom l).1,lw (dom l).2.1,(dom l).2.2):=by
 cases l with
 | nil=>rfl
 | cons t r =>
  have h:=v5v (t::r);rw [q0d] at h ⊢;simp only [dom,h];simp only [lt1];by_cases h5:t.1=5
  · rw [ibT h5,h5,v8b,v8b];simp only [cond_true,z7h,f8z,f9a]
  · rw [ibF h5];rfl
def lwM:Option (List UInt8×List UInt8×Nat)→Option (List UInt8×List UInt8×Nat)
 | some r=>some (lw r.1,lw r.2.1,r.2.2)
 | none=>none
theorem f9d (l:List Tok):mt (lwT l)=lwM (mt l):=by
 unfold mt;simp only [v5x,z7g,g9n,g9m,g9o _ (show (64:UInt8)∈_ by decide)];generalize (!(loc (l.drop (skn l))).1)=a;generalize (!sgn [64] _)=b;generalize (!(dom _).1)=c;cases a<;>cases b<;>cases c<;>rfl
section
variable {α α' β β' γ γ':Type} {Q:α→α'→Prop}
def Re (Q:α→α'→Prop) (x:Option α) (y:Option α'):Prop:=∃a b,x=some a∧y=some b∧Q a b
def Rs (P:β→β'→Prop) (Q:α→α'→Prop):β⊕α→β'⊕α'→Prop
 | .inl a,.inl b=>P a b
 | .inr a,.inr b=>Q a b
 | _,_=>False
theorem rP {a:α} {b:α'} (h:Q a b):Re Q (some a) (some b):=⟨a,b,rfl,rfl,h⟩
theorem rZ {P:β→β'→Prop} {x:Option β} {y:Option β'} {f:β→Option α} {g:β'→Option α'} (h:Re P x y) (hf:∀a b,P a b→Re Q (f a) (g b)):Re Q (x.bind f) (y.bind g):=by
 obtain ⟨a,b,rfl,rfl,h⟩:=h;exact hf a b h
theorem rC {c c':Bool} {x x':Option α} {y y':Option α'} (e:c'=c) (h1:c=true→Re Q x y) (h2:c=false→Re Q x' y'):Re Q (bif c then x else x') (bif c' then y else y'):=by
 subst e;cases c'
 · exact h2 rfl
 · exact h1 rfl
theorem rX {c c':Bool} {p q:Prop} [r:Rd c p q] {x x':Option α} {y y':Option α'} (e:c'=c) (h1:p→Re Q x y) (h2:q→Re Q x' y'):Re Q (bif c then x else x') (bif c' then y else y') :=
 rC e (fun h=>h1 (r.t h)) (fun h=>h2 (r.f h))
theorem rD {P:α→Prop} {x y:Option α} (e:y=x) (h:Df x P):Re (fun a b=>b=a∧P a) x y:=by
 subst e;obtain ⟨a,e,h⟩:=h;exact ⟨a,a,e,e,rfl,h⟩
theorem rS {P:β→β'→Prop} {P':γ→γ'→Prop} {s:β⊕γ} {t:β'⊕γ'} {f:β→Option α} {g:γ→Option α} {f':β'→Option α'} {g':γ'→Option α'} (h:Rs P P' s t) (h1:∀a b,P a b→Re Q (f a) (f' b)) (h2:∀a b,P' a b→Re Q (g a) (g' b)):Re Q (Sum.elim f g s) (Sum.elim f' g' t):=by
 cases s<;>cases t
 · exact h1 _ _ h
 · exact h.elim
 · exact h.elim
 · exact h2 _ _ h
theorem rL {F:β→Option (β⊕α)} {G:β'→Option (β'⊕α')} (I:β→β'→Prop) (μ:β→Nat) (h:∀v w,I v w→Re (Rs (fun v' w'=>I v' w'∧μ v'<μ v) Q) (F v) (G w)) (v:β) (w:β') (hv:I v w) (hn:μ v<1000000000000000000):Re Q (qc F jc v) (qc G jc w):=by
 suffices hs:∀n v w,I v w→μ v<n→Re Q (qc F n v) (qc G n w) from hs jc v w hv (by unfold jc;omega)
 intro n
 induction n with
 | zero=>intro v w _ h;omega
 | succ n ih =>
  intro v w hv hn;obtain ⟨a,b,ea,eb,hab⟩:=h v w hv;cases a with
  | inl a =>
   cases b with
   | inl b =>
    rw [ql ea,ql eb];exact ih a b hab.1 (by have:=hab.2;omega)
   | inr b=>exact hab.elim
  | inr a =>
   cases b with
   | inl b=>exact hab.elim
   | inr b=>rw [qd ea,qd eb];exact rP hab
theorem rEq {x y:Option α} (h:Re Eq x y):y=x:=by
 obtain ⟨a,b,rfl,rfl,rfl⟩:=h;rfl
end
def bi (s:List UInt8):List Int:=s.map fun c=>(c.toNat:Int)
def g5o (c:UInt8):Bool := !q1k c||(decide (js c=0)&&(decide (z0i (vn c)=1)&&decide (vn c=(c.toNat:Int))))
theorem g5n:((List.range 256).all fun n=>g5o (UInt8.ofNat n))=true:=by kernel_rfl
theorem b9f {c:UInt8} (h:c.toNat<128):js c=0∧z0i (vn c)=1∧vn c=(c.toNat:Int):=by
 have:=vk g5o g5n c;simp only [g5o,q1k,decide_eq_true h,Bool.not_true,Bool.false_or,Bool.and_eq_true,decide_eq_true_eq] at this;exact this
theorem f8x:∀(r pre:List UInt8) (p n:Nat) (o:List Int),Asc r→pre.length=p→r.length<n→p+r.length≤1000000→o.length=p →
 qc (xe vg xc q1f) n (pre++r,(p:Int),o,())=some (.inl (o++bi r,()))
 | [],pre,p,n+1,o,ha,hp,hn,hb,ho=>by
  refine qd ?_;simp only [xe,List.append_nil];rw [decide_eq_false (by omega)];simp [bi]
 | c::r,pre,p,n+1,o,ha,hp,hn,hb,ho=>by
  simp only [List.length_cons] at hn hb;obtain ⟨k1,k2,k3⟩:=b9f (ha c List.mem_cons_self);have hlen:(pre++c::r).length=p+r.length+1:=by simp [hp];omega
  have h0:q1f (pre++c::r,0,(c.toNat:Int),(p:Int),IntKind.i64.wrap ((p:Int)+1),o,())=some (.inl (pre++c::r,0,(c.toNat:Int),(p:Int),o,())):=by
   obtain ⟨m,hm⟩:∃m,jc=m+1:=⟨jc-1,by unfold jc;omega⟩
   show qc (q1h vg xc) jc _=_;rw [hm];refine qd ?_;simp only [q1h];rw [qk (by omega),qk (by omega),decide_eq_false (by omega)];rfl
  rw [ql (v':=(pre++c::r,((p+1:Nat):Int),o++[(c.toNat:Int)],())) ?_]
  · have ih:=f8x r (pre++[c]) (p+1) n (o++[(c.toNat:Int)]) (fun d hd=>ha d (List.mem_cons_of_mem _ hd)) (by simp [hp]) (by omega) (by omega) (by simp [ho])
    rw [show pre++c::r=(pre++[c])++r by simp,ih];simp [bi]
  · simp only [xe,hlen]
    rw [decide_eq_true (by omega),decide_eq_true (by omega)];simp only [Bool.and_self,cond_true,Int.toNat_natCast];rw [show (pre++c::r).getD p 0=c by subst hp;simp];simp only [c19,k1,k3,Option.bind_some];rw [qk (by omega),decide_eq_false (by omega),decide_eq_false (by omega)];simp only [cond_false,h0,Option.bind_some,Sum.elim_inl,c20];rw [←k3,k2,k3];rw [decide_eq_true (by simp only [List.length_cons,List.length_nil];omega)];simp only [show IntKind.i64.wrap (0+1)=1 from rfl,inF (rfl:(1:Int)=1),cond_false,cond_true,wrN p (by omega)]
theorem k4h {s:List UInt8} (ha:Asc s) (hs:s.length≤1000000):C83 (s,())=some (bi s,-1,()):=by
 have h:=f8x s [] 0 jc [] ha rfl (by unfold jc;omega) (by omega) rfl;have h1:q2p (s,0,[],())=some (.inl (bi s,())):=h;show F83 vg xc q2o q2p _=_;simp only [F83,h1,Option.bind_some,Sum.elim_inl]
section
variable {T:List R6} {A:List R4} {B:List R3}
theorem w9k:∀(r pre:List Int) (p n:Nat) (o:List Int),(∀x∈r,x<65281)→pre.length=p→r.length<n→p+r.length≤1000000→o.length=p →
 qc (q3x j6o) n (T,A,B,pre++r,((p+r.length:Nat):Int),(p:Int),o,())=some (o++r,())
 | [],pre,p,n+1,o,ha,hp,hn,hb,ho=>by
  refine qd ?_;simp only [q3x,List.append_nil,List.length_nil,Nat.add_zero];rw [decide_eq_false (by omega)];rfl
 | c::r,pre,p,n+1,o,ha,hp,hn,hb,ho=>by
  simp only [List.length_cons] at hn hb;have hlen:(pre++c::r).length=p+r.length+1:=by simp [hp];omega
  have hc:j6o (T,A,B,c,())=some (c,()):=by
   show x4q yd _=_;simp only [x4q];rw [decide_eq_true (ha c List.mem_cons_self)];rfl
  rw [ql (v':=(T,A,B,pre++c::r,((p+(r.length+1):Nat):Int),((p+1:Nat):Int),o++[c],())) ?_]
  · have ih:=w9k r (pre++[c]) (p+1) n (o++[c]) (fun d hd=>ha d (List.mem_cons_of_mem _ hd)) (by simp [hp]) (by omega) (by omega) (by simp [ho])
    rw [show p+(r.length+1)=p+1+r.length by omega,show pre++c::r=(pre++[c])++r by simp,ih];simp
  · simp only [q3x,hlen,List.length_cons]
    rw [decide_eq_true (by omega),decide_eq_true (by omega),decide_eq_true (by omega)];simp only [Bool.and_self,cond_true,Int.toNat_natCast];rw [show (pre++c::r).getD p 0=c by subst hp;simp];simp only [hc,Option.bind_some];rw [decide_eq_true (by simp only [List.length_cons,List.length_nil];omega),wrN p (by omega)];rfl
theorem w8w {l:List Int} (ha:∀x∈l,x<65281) (hl:l.length≤1000000):y2z (T,A,B,l,())=some (l,()):=by
 have h:=w9k (T:=T) (A:=A) (B:=B) l [] 0 jc [] ha rfl (by unfold jc;omega) (by omega) rfl;rw [Nat.zero_add] at h;have h1:q3p (T,A,B,l,(l.length:Int),0,[],())=some (l,()):=h;have h2:y3c (l,T,A,B,())=some (l,()):=by
  show x4p j6o q3p _=_;simp only [x4p,h1,Option.bind_some]
 show x4o y3c _=_;simp only [x4o,h2,Option.bind_some]
def LT (T:List R6) (A:List R4) (B:List R3):Prop:=∀c:UInt8,c.toNat<128→∃v:Int,q2j (T,A,B,(c.toNat:Int),())=some (v,())∧q2j (T,A,B,((jm c).toNat:Int),())=some (v,())
theorem w9l (hT:LT T A B):∀(r pre pre':List UInt8) (p n:Nat) (o:List Int),Asc r→pre.length=p→pre'.length=p→r.length<n→p+r.length≤1000000→o.length=p →
 ∃l,qc (yx q2j) n (T,A,B,bi (pre++r),((p+r.length:Nat):Int),(p:Int),o,())=some (l,())∧qc (yx q2j) n (T,A,B,bi (pre'++lw r),((p+r.length:Nat):Int),(p:Int),o,())=some (l,())
 | [],pre,pre',p,n+1,o,ha,hp,hp',hn,hb,ho=>by
  refine ⟨o,qd ?_,qd ?_⟩;all_goals
   simp only [yx,List.append_nil,List.length_nil,Nat.add_zero];rw [decide_eq_false (by omega)];rfl
 | c::r,pre,pre',p,n+1,o,ha,hp,hp',hn,hb,ho=>by
  simp only [List.length_cons] at hn hb;obtain ⟨v,hv1,hv2⟩:=hT c (ha c List.mem_cons_self);obtain ⟨l,e1,e2⟩:=w9l hT r (pre++[c]) (pre'++[jm c]) (p+1) n (o++[v]) (fun d hd=>ha d (List.mem_cons_of_mem _ hd)) (by simp [hp]) (by simp [hp']) (by omega) (by omega) (by simp [ho]);have hlen:(bi (pre++c::r)).length=p+r.length+1:=by simp [bi,hp];omega
  have hlen':(bi (pre'++jm c::lw r)).length=p+r.length+1:=by simp [bi,hp',lw];omega
  refine ⟨l,?_,?_⟩
  · rw [ql (v':=(T,A,B,bi (pre++c::r),((p+(r.length+1):Nat):Int),((p+1:Nat):Int),o++[v],())) ?_]
    · rw [show p+(r.length+1)=p+1+r.length by omega,show pre++c::r=(pre++[c])++r by simp,e1]
    · simp only [yx,hlen,List.length_cons]
      rw [decide_eq_true (by omega),decide_eq_true (by omega),decide_eq_true (by omega)];simp only [Bool.and_self,cond_true,Int.toNat_natCast];rw [show (bi (pre++c::r)).getD p 0=(c.toNat:Int) by subst hp;simp [bi]];simp only [hv1,Option.bind_some];rw [decide_eq_true (by simp only [List.length_cons,List.length_nil];omega),wrN p (by omega)];rfl
  · rw [jx,ql (v':=(T,A,B,bi (pre'++jm c::lw r),((p+(r.length+1):Nat):Int),((p+1:Nat):Int),o++[v],())) ?_]
    · rw [show p+(r.length+1)=p+1+r.length by omega,show pre'++jm c::lw r=(pre'++[jm c])++lw r by simp,e2]
    · simp only [yx,hlen',List.length_cons]
      rw [decide_eq_true (by omega),decide_eq_true (by omega),decide_eq_true (by omega)];simp only [Bool.and_self,cond_true,Int.toNat_natCast];rw [show (bi (pre'++jm c::lw r)).getD p 0=((jm c).toNat:Int) by subst hp';simp [bi]];simp only [hv2,Option.bind_some];rw [decide_eq_true (by simp only [List.length_cons,List.length_nil];omega),wrN p (by omega)];rfl
theorem f7j (hT:LT T A B) {s:List UInt8} (ha:Asc s) (hs:s.length≤1000000):z8j (T,A,B,bi (lw s),())=z8j (T,A,B,bi s,()):=by
 obtain ⟨l,e1,e2⟩:=w9l hT s [] [] 0 jc [] ha rfl rfl (by unfold jc;omega) (by omega) rfl;rw [Nat.zero_add] at e1 e2;have g1:yw (T,A,B,bi s,((bi s).length:Int),0,[],())=some (l,()):=by
  rw [show (bi s).length=s.length by simp [bi]];exact e1
 have g2:yw (T,A,B,bi (lw s),((bi (lw s)).length:Int),0,[],())=some (l,()):=by
  rw [show (bi (lw s)).length=s.length by simp [bi,lw]];exact e2
 have f1:q1d (bi s,T,A,B,())=some (l,()):=by
  show q2r q2j yw _=_;simp only [q2r,g1,Option.bind_some]
 have f2:q1d (bi (lw s),T,A,B,())=some (l,()):=by
  show q2r q2j yw _=_;simp only [q2r,g2,Option.bind_some]
 show y3q q1d _=y3q q1d _;simp only [y3q,f1,f2]
theorem w8v {s:List UInt8} (ha:Asc s):∀x∈bi s,x<65281:=by
 intro x hx;obtain ⟨c,hc,rfl⟩:=List.mem_map.1 hx;have:=ha c hc;omega
theorem f7h (hT:LT T A B) {s:List UInt8} (ha:Asc s) (hs:s.length≤1000000):z2p (T,A,B,lw s,())=z2p (T,A,B,s,()):=by
 show x4n j9n z8j y2z z2t C83 _=x4n j9n z8j y2z z2t C83 _;have hs':(lw s).length≤1000000:=by rw [zj];exact hs
 have l1:(bi s).length≤1000000:=by simp only [bi,List.length_map];exact hs
 have l2:(bi (lw s)).length≤1000000:=by simp only [bi,List.length_map];exact hs'
 simp only [x4n,k4h ha hs,k4h (j8c ha) hs',Option.bind_some];rw [decide_eq_false (by omega)];simp only [cond_false];rw [w8w (w8v ha) l1,w8w (w8v (j8c ha)) l2];simp only [Option.bind_some];rw [f7j hT ha hs]
theorem b9v (hT:LT T A B) {s:List UInt8} (ha:Asc s) (hs:s.length≤1000000):C87 (T,A,B,lw s,())=C87 (T,A,B,s,()):=by
 show F87 z8d _=F87 z8d _;simp only [F87];unfold z8d;dsimp only;rw [f7h hT ha hs]
def f9f (c:UInt8):Bool:=decide (C85 (((jm c).toNat:Int),())=C85 ((c.toNat:Int),()))
theorem f9g:((List.range 256).all fun n=>f9f (UInt8.ofNat n))=true:=by kernel_rfl
theorem b9t (c:UInt8):C85 (((jm c).toNat:Int),())=C85 ((c.toNat:Int),()):=of_decide_eq_true (vk f9f f9g c)
theorem j0r {s:List UInt8} {p:Nat} (h:p<s.length) (hc:s[p].toNat<128):xl s p=(s[p].toNat,1):=by
 have e:((⟨⟨s⟩⟩:ByteArray).get! (p+0))=s[p]:=by
  show (⟨s⟩:Array UInt8)[p+0]! = _;rw [Nat.add_zero,getElem!_pos _ _ (by simpa using h)];simp
 simp only [xl,Utf8.decode,e];rw [if_pos hc]
theorem z7i {s:List UInt8} {p:Nat} (h:p<s.length):(lw s)[p]'(by rw [zj];exact h)=jm s[p]:=by simp [lw]
theorem b9s {s:List UInt8} (ha:Asc s) (hs:s.length≤1000000):q5n (lw s,())=q5n (s,()):=by
 refine rEq ?_;unfold q5n x0j;dsimp only;refine rZ (P:=Eq) ?_ (fun a b e=>by subst e;exact rP rfl);unfold j6k z3r;dsimp only;refine rZ (P:=Eq) ?_ (fun a b e=>by subst e;exact rP rfl);unfold j1k z3y;dsimp only;refine rZ (P:=Eq) ?_ (fun a b e=>by subst e;obtain ⟨x,u⟩|u:=a<;>exact rP rfl);refine rL (fun v w=>∃k:Nat,v=(true,(s,(k:Int)),())∧w=(true,(lw s,(k:Int)),())) (fun v=>s.length-v.2.1.2.toNat) ?_ _ _ ⟨0,rfl,rfl⟩ (by (try dsimp only);omega);rintro v w ⟨k,rfl,rfl⟩;unfold q3w;dsimp only;simp only [Int.toNat_natCast,zj];refine rX rfl (fun hk => ?_) (fun _=>rP rfl);have hc:=ha _ (List.getElem_mem hk);rw [j0r hk hc,j0r (by rw [zj];exact hk) (by rw [z7i hk,y5u];exact hc),z7i hk];dsimp only;refine rZ (rD (b9t _) (d85 _)) ?_;rintro ⟨b,u⟩ ⟨b',u'⟩ ⟨e,-⟩;cases e;dsimp only;refine rC rfl (fun _=>rP rfl) (fun _=>rP ⟨⟨k+1,rfl,rfl⟩,by (try dsimp only);omega⟩)
theorem w9o (s:List UInt8) {k:UInt8} (hk:k∈([10,13,32,34,40,41,44,46,58,59,60,61,62,64,91,92,93]:List UInt8)):C96 (lw s,[k],())=C96 (s,[k],()):=by
 show F96 q6a _=F96 q6a _;have h:q6a (lw s,[k],())=q6a (s,[k],()):=by
  show j9u _=j9u _;simp only [j9u,zj,q5h,j8w _ hk]
 simp only [F96,h]
theorem b9u (s:List UInt8):C86 (lw s,())=C86 (s,()):=by
 show F86 C96 _=F86 C96 _;simp only [F86,w9o s (show (91:UInt8)∈_ by decide)]
theorem j6h (l:List Tok) (i:Nat):(lwT l).getD i (0,([],0))=lt1 (l.getD i (0,([],0))):=by
 simp only [lwT,List.getD_eq_getElem?_getD,List.getElem?_map];cases l[i]? <;> rfl
theorem ke (a:List UInt8):(lw a==[])=(a==[]):=by cases a<;>rfl
theorem b9r (hT:LT T A B) {a b:List UInt8} (ha:Asc a) (hb:Asc b) (hla:a.length≤1000000) (hlb:b.length≤1000000):C44 (T,A,B,lw a,lw b,())=C44 (T,A,B,a,b,()):=by
 show F44 C67 C83 q5n C86 C87 _=F44 C67 C83 q5n C86 C87 _;simp only [F44,k4h ha hla,k4h (j8c ha) (by rw [zj];exact hla),Option.bind_some,ke,zj,b9s ha hla,b9u,c11,x2q hb,q6o,j6h,lt1,b9v hT hb hlb]
theorem v8e:∀l,szT (lwT l)=szT l
 | []=>rfl
 | t::r=>by rw [q0d];simp only [szT,lt1,zj,v8e r]
end
def Tk.mem (r:List UInt8):Tk→Prop
 | .ok t _=>∀c∈t,c∈r
 | _=>True
theorem y1e {r r':List UInt8} {k:Tk} {l:List UInt8} {n:Nat} (hl:∀c∈l,c∈r') (hr:∀c∈r,c∈r') (h:k.mem r):(k.push l n).mem r':=by
 cases k with
 | ok t u =>
  intro c hc;rcases List.mem_append.1 hc with hc|hc
  · exact hl c hc
  · exact hr c (h c hc)
 | bad o e=>trivial
 | start=>trivial
theorem y6e:∀(m:Nat) (r:List UInt8),r.length≤m→(qt r).mem r
 | _,[],_=>trivial
 | 0,c::r,h=>by simp at h
 | m+1,c::r,h=>by
  simp only [List.length_cons] at h;by_cases h1:c.toNat=34
  · rw [y2h h1];intro d hd;cases hd
  by_cases h2:c.toNat=92
  · cases r with
    | nil=>rw [z1z h2];trivial
    | cons d r =>
     simp only [List.length_cons] at h;rw [z2a h2];cases zq d
     · trivial
     · exact y1e (fun x hx=>by rw [List.mem_singleton.1 hx];simp) (fun x hx=>by simp [hx]) (y6e m r (by omega))
  rw [y2g h1 h2];cases zq c
  · trivial
  · exact y1e (fun x hx=>by rw [List.mem_singleton.1 hx];simp) (fun x hx=>by simp [hx]) (y6e m r (by omega))
theorem w0u {c:UInt8} {r t:List UInt8} {k:Int} {u:Nat} (h:one c r=(k,.ok t u)) (ha:Asc (c::r)):Asc t:=by
 obtain ⟨h1,h2⟩:=x3n h;by_cases hk:k=1
 · obtain ⟨rfl,-⟩:=h2 hk
   rw [b3y] at h;simp only [Prod.mk.injEq] at h;obtain ⟨u',hq,-⟩:=j9m h.2;have hm:=y6e _ r (Nat.le_refl _);rw [hq] at hm;exact fun d hd=>ha d (List.mem_cons_of_mem _ (hm d hd))
 · have e:=h1 hk
   have ht:∀d∈t,d∈src k t:=by
    intro d hd;unfold src;rw [if_neg hk];split
    · simp [hd]
    split
    · simp [hd]
    · exact hd
   intro d hd;have:=ht d hd;rw [e] at this;exact ha d (List.mem_of_mem_take this)
def q5z (l:List Tok):Prop:=∀x∈l,Asc x.2.1
theorem z9x:∀(m:Nat) (s:List UInt8) (p:Nat) (l:List Tok),s.length≤m→Asc s→q0l s p = .inl l→q5z l
 | m,[],p,l,hm,ha,h=>by
  cases h;intro x hx;cases hx
 | 0,c::r,p,l,hm,ha,h=>by simp at hm
 | m+1,c::r,p,l,hm,ha,h=>by
  obtain ⟨k,t,u,l',ho,hl,rfl⟩:=y1b h;have hu:=kp ho;have ih:=z9x m ((c::r).drop u) (p+u) l' (by simp only [List.length_drop,List.length_cons] at *;omega) (q2y ha u) hl;intro x hx;rcases List.mem_cons.1 hx with rfl|hx
  · exact w0u ho ha
  · exact ih x hx
theorem v2w {s:List UInt8} (ha:Asc s):q5z (q6l s).1:=by
 unfold q6l;split
 · intro x hx;cases hx
 rw [z6o ha];cases h:q0l s 0 with
 | inl l=>exact z9x _ _ _ _ (Nat.le_refl _) ha h
 | inr e=>intro x hx;cases hx
theorem q5z.drop {l:List Tok} (h:q5z l) (n:Nat):q5z (l.drop n):=fun x hx=>h x (List.mem_of_mem_drop hx)
theorem q5z.take {l:List Tok} (h:q5z l) (n:Nat):q5z (l.take n):=fun x hx=>h x (List.mem_of_mem_take hx)
theorem Asc.app {a b:List UInt8} (ha:Asc a) (hb:Asc b):Asc (a++b):=fun c hc=>(List.mem_append.1 hc).elim (ha c) (hb c)
theorem g5m {k:UInt8} (h:k.toNat<128):Asc [k]:=fun c hc=>by rw [List.mem_singleton.1 hc];exact h
theorem q1j:Asc []:=fun c hc=>by cases hc
theorem x1x:∀(m:Nat) (l:List Tok) (acc:List UInt8),l.length≤m→q5z l→Asc acc→Asc (dwn acc l).1
 | m,[],acc,h,hl,ha=>ha
 | m,[t],acc,h,hl,ha=>ha
 | 0,t::u::r,acc,h,hl,ha=>by simp at h
 | m+1,t::u::r,acc,h,hl,ha=>by
  unfold dwn;cases (t.1==2&&t.2.1==[46])&&u.1==0
  · exact ha
  · exact x1x m r _ (by simp only [List.length_cons] at h;omega) (fun x hx=>hl x (by simp [hx])) (ha.app ((g5m (by decide)).app (hl u (by simp))))
theorem x1w {l:List Tok} (hl:q5z l):Asc (dot l).1:=by
 cases l with
 | nil=>exact q1j
 | cons t r =>
  simp only [dot];cases t.1==0
  · exact q1j
  · exact x1x _ r _ (Nat.le_refl _) (fun x hx=>hl x (by simp [hx])) (hl t (by simp))
theorem k4d {l:List Tok} (hl:q5z l):Asc (loc l).2.1:=by
 cases l with
 | nil=>exact q1j
 | cons t r =>
  simp only [loc];cases t.1==1
  · exact x1w hl
  · exact hl t (by simp)
theorem k4c {l:List Tok} (hl:q5z l):Asc (dom l).2.1:=by
 cases l with
 | nil=>exact q1j
 | cons t r =>
  simp only [dom];by_cases h5:t.1=5
  · rw [ibT h5,h5,v8b]
    exact ((g5m (by decide)).app (hl t (by simp))).app (g5m (by decide))
  · rw [ibF h5]
    exact x1w hl
theorem g5p {l:List Tok} (hl:q5z l) {r:List UInt8×List UInt8×Nat} (h:mt l=some r):Asc r.1∧Asc r.2.1:=by
 unfold mt at h;dsimp only at h;have h1:=k4d (hl.drop (skn l));have h2:=fun n=>k4c (hl.drop n);revert h;cases (!(loc (l.drop (skn l))).1)
 · simp only [cond_false]
   generalize (!sgn [64] _)=b;generalize hc:(!(dom _).1)=c;cases b
   · cases c
     · intro h
       simp only [cond_false,Option.some.injEq] at h;subst h;exact ⟨h1,h2 _⟩
     · intro h;cases h
   · intro h;cases h
 · intro h;cases h
section
variable {T:List R6} {A:List R4} {B:List R3}
def Qp (y y':Bool×List UInt8×List UInt8×Int×Unit):Prop:=y'.1=y.1∧y'.2.2.2.1=y.2.2.2.1
def Qz (z z':Int×Bool×List UInt8×List UInt8×Unit):Prop:=z'.1=z.1∧z'.2.1=z.2.1
theorem r80 (l:List Tok) (hl:l.length≤1000000):Re Eq (C80 (l,())) (C80 (lwT l,())):=by
 unfold C80 F80;dsimp only;refine rZ (P:=Eq) ?_ (fun a b e=>by subst e;exact rP rfl);unfold v8o g1x;dsimp only;refine rZ (P:=Eq) ?_ (fun a b e=>by subst e;obtain u|⟨x,u⟩:=a<;>exact rP rfl);rw [q6o];refine rL (fun v w=>∃k:Int,0≤k∧v=(l,(l.length:Int),k,())∧w=(lwT l,(l.length:Int),k,())) (fun v=>(l.length-v.2.2.1).toNat) ?_ _ _ ⟨0,Int.le_refl _,rfl,rfl⟩ (by (try dsimp only);omega);rintro v w ⟨k,h0,rfl,rfl⟩;unfold z3q;dsimp only;rw [q6o,j6h];refine rX rfl (fun hk => ?_) (fun _=>rP rfl);refine rX rfl (fun _ => ?_) (fun h=>by omega);refine rZ (P:=Eq) ?_ ?_
 · show Re Eq (C81 _) (C81 _)
   unfold C81 F81;dsimp only;simp only [lt1];refine rC rfl (fun _=>rP rfl) (fun _=>rP rfl)
 · rintro a b rfl
   refine rC rfl (fun _=>rP rfl) (fun _ => ?_);rw [qk (n:=k+1) (by omega)];exact rP ⟨⟨_,by omega,rfl,rfl⟩,by (try dsimp only);omega⟩
theorem d6k (e:Int) (n:Bool) (x y:List UInt8):j6y (e,n,x,y,())=some (e,false,[],[],()):=by
 obtain ⟨m,hm⟩:∃m,jc=m+1:=⟨jc-1,by unfold jc;omega⟩
 show qc (z5r C44 C59 C67 C71 C79 C80) jc _=_;rw [hm];exact qd rfl
theorem b4b (h:TK T A B) (hT:LT T A B) (l:List Tok) (ha:q5z l) (hz:szT l+l.length≤2900) (k:Int) (hk:1≤k∧k≤l.length) (y y' b b':List UInt8) :
 Re (Rs (fun z z'=>z.1=4∧z'.1=4) Qz) (q2n (k,l,4,T,A,B,false,[],[],false,y,b,())) (q2n (k,lwT l,4,T,A,B,false,[],[],false,y',b',())):=by
 unfold q2n y3t;dsimp only;rw [q6o];refine rX rfl (fun _ => ?_) (fun hn=>by omega);refine rX rfl (fun _ => ?_) (fun hn=>by omega);rw [x2n,z7g];have z1:=y2p k.toNat l;have z2:=q0y 1 (l.take k.toNat);have z3:((l.take k.toNat).drop 1).length≤l.length:=by simp only [List.length_drop,List.length_take];omega
 have ha':=(ha.take k.toNat).drop 1;generalize (l.take k.toNat).drop 1=m at z2 z3 ha';rw [c71 m (by omega),c71 (lwT m) (by rw [v8e,q6o];omega),f9d];cases hm:mt m with
 | none=>exact rP ⟨rfl,rfl⟩
 | some r =>
  dsimp only [lwM];simp only [Option.bind_some,Bool.not_true,cond_false];refine rX rfl (fun _=>rP ⟨rfl,rfl⟩) (fun _ => ?_);obtain ⟨-,z4,z5⟩:=f9h m hm;obtain ⟨a1,a2⟩:=g5p ha' hm;refine rZ (P:=Qz) ?_ (fun z z' hz=>rP hz);unfold z3n y3s;dsimp only;refine rZ (rD (b9r hT a1 a2 (by omega) (by omega)) (d44 h r.1 r.2.1 (by omega) (by omega))) ?_;rintro ⟨e,u⟩ ⟨e',u'⟩ ⟨he,-⟩;cases he;dsimp only;exact rC rfl (fun _=>rP ⟨rfl,rfl⟩) (fun _=>rP ⟨rfl,rfl⟩)
theorem b4c (h:TK T A B) (hT:LT T A B) (l:List Tok) (ha:q5z l) (hz:szT l+l.length≤2900) (hz':szT l≤1000) (k:Int) (hk:1≤k∧k≤l.length) (hl:2≤l.length) :
 Re (Rs Qz (fun z z'=>z.1=4∧z'.1=4)) (j1q (k,l,4,T,A,B,false,[],[],false,[],[],())) (j1q (k,lwT l,4,T,A,B,false,[],[],false,[],[],())):=by
 unfold j1q y3u;dsimp only;refine rC rfl (fun _=>rP ⟨rfl,rfl⟩) (fun _ => ?_);rw [q6o];refine rX rfl (fun h1 => ?_) (fun hn=>by omega);have zc:∀y b y' b',Re (Rs Qz (fun z z'=>z.1=4∧z'.1=4)) ((q2n (k,l,4,T,A,B,false,[],[],false,y,b,())).bind fun val=>Sum.elim (fun val=>some (Sum.inr (val.fst,val.snd.fst,val.snd.snd.fst,val.snd.snd.snd.fst,()))) (fun val=>some (Sum.inl (val.fst,val.snd.fst,val.snd.snd.fst,val.snd.snd.snd.fst,()))) val)
  ((q2n (k,lwT l,4,T,A,B,false,[],[],false,y',b',())).bind fun val=>Sum.elim (fun val=>some (Sum.inr (val.fst,val.snd.fst,val.snd.snd.fst,val.snd.snd.snd.fst,()))) (fun val=>some (Sum.inl (val.fst,val.snd.fst,val.snd.snd.fst,val.snd.snd.snd.fst,()))) val):=by
  intro y b y' b';refine rZ (b4b h hT l ha hz k hk y y' b b') ?_;intro z z' hz;exact rS hz (fun a b h=>rP h) (fun a b h=>rP h)
 have hlt:1<l.length:=by omega
 have hsz:(l.getD 1 (0,([],0))).2.1.length≤1000:=by
  match l,hlt,hz' with
  | x::y::r,_,hz =>
   simp only [szT] at hz;simp only [List.getD_cons_succ,List.getD_cons_zero];omega
 rw [j6h];dsimp only [lt1];refine rC rfl (fun _ => ?_) (fun _=>zc _ _ _ _);refine rX rfl (fun _ => ?_) (fun hn=>by omega);refine rC rfl (fun _ => ?_) (fun _=>zc _ _ _ _);have e59:C59 (false,lw (l.getD 1 (0,([],0))).2.1,[],())=C59 (false,(l.getD 1 (0,([],0))).2.1,[],()):=by
  show F59 C25 _=F59 C25 _;simp only [F59,p25 _ (show (lw (l.getD 1 (0,([],0))).2.1).length≤1000000 by rw [zj];omega),p25 _ (show (l.getD 1 (0,([],0))).2.1.length≤1000000 by omega)];rw [show (lw (l.getD 1 (0,([],0))).2.1).map jm=lw (lw (l.getD 1 (0,([],0))).2.1) from rfl,v6b];rfl
 obtain ⟨⟨w,u⟩,h59,-⟩:=d59 false (l.getD 1 (0,([],0))).2.1 [] hsz;rw [e59,h59];simp only [Option.bind_some];exact rC rfl (fun _=>rP ⟨rfl,rfl⟩) (fun _=>zc _ _ _ _)
theorem r40 (h:TK T A B) (hT:LT T A B) (s:List UInt8) (ha:Asc s) (hs:s.length≤1000):Re Qp (C40 (T,A,B,s,())) (C40 (T,A,B,lw s,())):=by
 unfold C40 F40;dsimp only;rw [c11 s,c11 (lw s),x2q ha];have hz:=w0a s;have hA:=v2w ha;generalize q6l s=R at hz hA;obtain ⟨l,o,e⟩:=R;dsimp only at hz hA ⊢;simp only [Option.bind_some,d6k,q6o,j6h,z7g,x2n];refine rX rfl (fun _=>rP ⟨rfl,rfl⟩) (fun _ => ?_);refine rX rfl (fun _=>rP ⟨rfl,rfl⟩) (fun hl => ?_);rw [qk (n:=(l.length:Int)-1) (by omega)] at hl ⊢;refine rX rfl (fun _ => ?_) (fun hn=>by omega);have e79:∀(x:Tok) (k:UInt8),k∈([10,13,32,34,40,41,44,46,58,59,60,61,62,64,91,92,93]:List UInt8)→Re Eq (C79 (x.1,x.2.1,x.2.2,[k],())) (C79 ((lt1 x).1,(lt1 x).2.1,(lt1 x).2.2,[k],())):=by
  intro x k hk;unfold C79 F79;dsimp only;dsimp only [lt1];refine rC rfl (fun _ => ?_) (fun _=>rP rfl);rw [j8w _ hk];exact rP rfl
 refine rZ (e79 _ _ (by decide)) ?_;rintro ⟨b,u⟩ _ rfl;dsimp only;refine rC rfl (fun _=>rP ⟨rfl,rfl⟩) (fun _ => ?_);refine rX rfl (fun _ => ?_) (fun hn=>by omega);refine rZ (e79 _ _ (by decide)) ?_;rintro ⟨b,u⟩ _ rfl;dsimp only;refine rC rfl (fun _=>rP ⟨rfl,rfl⟩) (fun _ => ?_);refine rX rfl (fun _ => ?_) (fun hn=>by omega);refine rX rfl (fun _ => ?_) (fun hn=>by omega);refine rZ (r80 _ (by simp only [List.length_drop,List.length_take];omega)) ?_;rintro ⟨b,u⟩ _ rfl;dsimp only;refine rC rfl (fun _=>rP ⟨rfl,rfl⟩) (fun _ => ?_);refine rZ (b4c h hT l hA (by omega) (by omega) _ (by omega) (by omega)) ?_;intro z z' hz;exact rS hz (fun a b h=>rP ⟨h.2,h.1⟩) (fun a b h=>rP ⟨rfl,by dsimp only;rw [h.1,h.2]⟩)
end
end Go.Proofs.YtiacnhhmkdkpmaaGreatDoorC.W
namespace Go.Proofs
open Go.Shelf
def Tryz.laysM171_ren:Go.Shelf.Ren:=⟨fun|171=>65|243=>103|246=>135|283=>169|284=>170|285=>171|286=>172|129=>206|317=>205|318=>207|319=>208|320=>209|337=>235|338=>236|n=>n,fun|3=>3|9=>9|2=>2|4=>4|171=>216|0=>0|53=>189|37=>49|5=>5|173=>219|212=>245|51=>246|20=>20|213=>247|46=>179|232=>297|233=>298|n=>n,fun|17=>1|18=>5|19=>6|n=>n⟩
theorem Tryz.laysM171:Go.Proofs.LaysM.n171 Tryz.prog Tryz.laysM171_ren:={
 mixed:=by kernel_rfl
 f129:=Tryz.func206.trans (congrArg some (by kernel_rfl))
 f171:=Tryz.func65.trans (congrArg some (by kernel_rfl))
 f243:=Tryz.func103.trans (congrArg some (by kernel_rfl))
 f246:=Tryz.func135.trans (congrArg some (by kernel_rfl))
 f283:=Tryz.func169.trans (congrArg some (by kernel_rfl))
 f284:=Tryz.func170.trans (congrArg some (by kernel_rfl))
 f285:=Tryz.func171.trans (congrArg some (by kernel_rfl))
 f286:=Tryz.func172.trans (congrArg some (by kernel_rfl))
 f317:=Tryz.func205.trans (congrArg some (by kernel_rfl))
 f318:=Tryz.func207.trans (congrArg some (by kernel_rfl))
 f319:=Tryz.func208.trans (congrArg some (by kernel_rfl))
 f320:=Tryz.func209.trans (congrArg some (by kernel_rfl))
 f337:=Tryz.func235.trans (congrArg some (by kernel_rfl))
 f338:=Tryz.func236.trans (congrArg some (by kernel_rfl))
 t0:=Tryz.underlying0
 a0:=Tryz.isAgg0
 z0:=Tryz.sizeOf0
 v0:=Tryz.zeroValue0
 t2:=Tryz.underlying2
 a2:=Tryz.isAgg2
 z2:=Tryz.sizeOf2
 v2:=Tryz.zeroValue2
 t3:=Tryz.underlying3
 a3:=Tryz.isAgg3
 z3:=Tryz.sizeOf3
 v3:=Tryz.zeroValue3
 t4:=Tryz.underlying4
 a4:=Tryz.isAgg4
 z4:=Tryz.sizeOf4
 v4:=Tryz.zeroValue4
 t5:=Tryz.underlying5
 a5:=Tryz.isAgg5
 z5:=Tryz.sizeOf5
 v5:=Tryz.zeroValue5
 t9:=Tryz.underlying9
 a9:=Tryz.isAgg9
 z9:=Tryz.sizeOf9
 v9:=Tryz.zeroValue9
 t20:=Tryz.underlying20
 a20:=Tryz.isAgg20
 z20:=Tryz.sizeOf20
 v20:=Tryz.zeroValue20
 t37:=Tryz.underlying49
 a37:=Tryz.isAgg49
 z37:=Tryz.sizeOf49
 v37:=Tryz.zeroValue49
 t46:=Tryz.underlying179
 a46:=Tryz.isAgg179
 z46:=Tryz.sizeOf179
 v46:=Tryz.zeroValue179
 t51:=Tryz.underlying246
 a51:=Tryz.isAgg246
 z51:=Tryz.sizeOf246
 v51:=Tryz.zeroValue246
 t53:=Tryz.underlying189
 a53:=Tryz.isAgg189
 z53:=Tryz.sizeOf189
 v53:=Tryz.zeroValue189
 t171:=Tryz.underlying216
 a171:=Tryz.isAgg216
 z171:=Tryz.sizeOf216
 v171:=Tryz.zeroValue216
 t173:=Tryz.underlying219
 a173:=Tryz.isAgg219
 z173:=Tryz.sizeOf219
 v173:=Tryz.zeroValue219
 t212:=Tryz.underlying245
 a212:=Tryz.isAgg245
 z212:=Tryz.sizeOf245
 v212:=Tryz.zeroValue245
 t213:=Tryz.underlying247
 a213:=Tryz.isAgg247
 z213:=Tryz.sizeOf247
 t232:=Tryz.underlying297
 a232:=Tryz.isAgg297
 z232:=Tryz.sizeOf297
 v232:=Tryz.zeroValue297
 t233:=Tryz.underlying298
 a233:=Tryz.isAgg298
 z233:=Tryz.sizeOf298
 v233:=Tryz.zeroValue298
 g17:=by kernel_rfl
 g18:=by kernel_rfl
 g19:=by kernel_rfl
 i0:=by kernel_rfl
 i2:=by kernel_rfl
 i3:=by kernel_rfl
 i4:=by kernel_rfl
 i5:=by kernel_rfl
 i9:=by kernel_rfl
 i20:=by kernel_rfl
 i37:=by kernel_rfl
 i46:=by kernel_rfl
 i51:=by kernel_rfl
 i53:=by kernel_rfl
 i171:=by kernel_rfl
 i173:=by kernel_rfl
 i212:=by kernel_rfl
 i232:=by kernel_rfl
 i233:=by kernel_rfl
 m17:=by kernel_rfl
 m18:=by kernel_rfl
 m19:=by kernel_rfl }
end Go.Proofs
namespace Go.Ae
open Go.RowKit
variable {P:Program} {f:FuncId}
theorem f7a {w:World} {m:Md} {g:List Value} {a:AV} {args:Array Value} (h:qf w m g [a] args.toList):∃v,args = #[v]∧qh w m g a v:=by
 obtain ⟨v1,r1,h1,h2,h3⟩:=h;have h3':r1=[]:=h3;subst h3';exact ⟨v1,by cases args;simpa using h1,h2⟩
theorem g9j {fn:Func} (hf:P.funcs[f]? = some fn) (hb:fn.body.isSome=true) (hname:(fn.name == "runtime.NumGoroutine")=false) {k:IntKind} {F:Int×Unit→Option (List UInt8×Unit)}
 (h:∀(n:Int) (y:List UInt8),F (n,())=some (y,())→∀w,z8y w→Calls P f #[.int k n] w fun e w'=>e = .returned (.string ⟨⟨y⟩⟩)∧Below w.heap.size w w') :
 za P f ⟨[.int k],[(.ret,[.str])],F⟩:=by
 intro w m g v args y hob hargs hy;obtain ⟨s,u⟩:=v;obtain ⟨v1,rfl,h1⟩:=f7a hargs;have h1':v1 = .int k s:=h1.1;subst h1';refine .inr ⟨enters hf hb hname _ w,?_⟩;obtain ⟨y,u'⟩:=y;have hy':F (s,())=some (y,()):=hy;refine (h s y hy' w hob.gi.i).mono fun e w' ⟨he,hbl⟩=>⟨_,he,?_⟩
 exact ⟨.ret,[.str],(y,()),m,g,⟨by simp,fun R k=>rfl⟩,zt hbl hob.nm,j2t hob (zt hbl hob.nm),fun _ _ h=>h,⟨_,[],rfl,rfl,rfl⟩⟩
end Go.Ae
namespace Go.Proofs.YtiacnhhmkdkpmaaGreatDoorC.W
open Go Go.Ae Go.RowKit
def k4u:List Sh:=[.int .i64]
def v4g:qb:=[(.ret,[.str])]
abbrev T65:=Int×Unit→Option (List UInt8×Unit)
def E65 (f:T65):FEnt:=⟨k4u,v4g,f⟩
theorem f0l {P:Program} {w:World} {name:String} {b:Nat} {k:IntKind} {zs:List Int} (hg:P.globalNamed name=some b) (h:v8f w b k zs):Lib.TabIs P w name k zs:=by
 obtain ⟨ty,fz,h⟩:=h;unfold Lib.TabIs World.var?;rw [hg];simp only [Option.bind_some,h]
def x7g:Nat→Nat→List UInt8
 | 0,_=>[]
 | f+1,n=>if n<10 then [UInt8.ofNat (48+n)] else x7g f (n/10)++[UInt8.ofNat (48+n%10)]
theorem z6u:∀(f n:Nat),n<10^(f+1)→x7g (f+1) n=Lib.decDigits n
 | 0,n,h=>by
  have:n<10:=by simpa using h
  rw [x7g,if_pos this,Lib.decDigits,dif_pos this]
 | f+1,n,h=>by
  rw [x7g,Lib.decDigits];split
  · rfl
  · rw [z6u f (n/10) (by rw [Nat.pow_succ] at h;omega)]
def w9b (n:Int):List UInt8:=if n<0 then 45::x7g 20 n.natAbs else x7g 20 n.toNat
def C65 (v:Int×Unit):Option (List UInt8×Unit):=if -9223372036854775808≤v.1∧v.1≤9223372036854775807 then some (w9b v.1,()) else none
theorem d5v:za Tryz.prog 65 (E65 C65):=g9j Tryz.func65 (by kernel_rfl) (by kernel_rfl) fun n y h w hg=>by
 simp only [C65] at h;split at h
 · rename_i hc
   obtain ⟨h1,h2⟩:=hc;simp only [Option.some.injEq,Prod.mk.injEq,and_true] at h;have hy:y=Lib.itoa n:=by
    rw [←h];unfold w9b Lib.itoa;split
    · rw [z6u 19 _ (by omega)]
    · rw [z6u 19 _ (by omega)]
   subst hy;obtain ⟨_,h4,_⟩:=hg;have ht:Lib.TabIs Tryz.prog w "internal/strconv.uint64pow10" .u64 Lib.pow10Tab:=by
    have e:Lib.pow10Tab=w1g:=by decide
    rw [e];exact f0l (by kernel_rfl) h4
   refine (Any.strconv_Itoa Tryz.laysM171 n h1 h2 w ht).mono fun e w' ⟨he,k,os,hw⟩=>⟨he,?_⟩
   subst hw;refine ⟨rfl,rfl,rfl,by simp [Sort.grow,World.drewN],fun i hi => ?_⟩;have hi':i<(w.drewN k).heap.size:=hi;show (((w.drewN k).heap++os)[i]? : Option Obj)=w.heap[i]?;rw [Array.getElem?_append_left hi'];rfl
 · cases h
end Go.Proofs.YtiacnhhmkdkpmaaGreatDoorC.W
namespace Go.Proofs.YtiacnhhmkdkpmaaGreatDoorC.W
open Go Go.Ae
def w4o:List Sh:=(List.cons (.str) (tp 6 (List.cons (.agg 8) (List.cons (.str) (List.cons (.str) (List.cons (.str) (List.cons (.str) (List.cons (.str) (List.cons (.str) (List.cons (.str) (List.cons (.str) (List.cons (.int .i64) (tp 20 [])))))))))))))
def w8e:qb:=[((.exit 0),(tp 29 [])),(.ret,(List.cons (.top) (List.cons (.top) (List.cons (.int .i64) (tp 26 [])))))]
def w8f:qb:=[(.ret,[.agg 8,.func (.func 98) 0 0,.func (.func 98) 0 0,.func (.func 99) 0 0,.func (.func 100) 0 0,.func (.func 101) 0 0,.func (.func 101) 0 0,.func (.func 102) 0 0,.func (.func 101) 0 0])]
def w4p:List Sh:=[.str,.func (.func 104) 0 0,.bool]
def w4q:List Sh:=(List.cons (.top) (List.cons (.func (.func 104) 0 0) (List.cons (.bool) (tp 7 (List.cons (.ptr 0 0) (tp 10 (List.cons (.oiter) [])))))))
def w8g:qb:=[(.ret,(tp 6 (List.cons (.int .i64) (tp 14 [])))),((.exit 0),(tp 21 []))]
def x1e:List Sh:=[.str,.func (.func 104) 0 0]
def q5p:List Sh:=[.agg 5,.lst zk,.lst zl,.lst zm,.opq 0,.opq 1,.ptr 0 0,.str,.obox 8,.int .i64,.str,.bool,.str,.str,.int .i64,.bool,.bool]
def q2f:qb:=[(.ret,[.int .i64,.obox 8,.int .i64,.str,.bool,.str,.str,.int .i64,.bool,.bool])]
def w4r:List Sh:=(List.cons (.str) (List.cons (.top) (List.cons (.top) (List.cons (.bool) (List.cons (.bool) (List.cons (.int .i64) (List.cons (.int .u8) (tp 18 (List.cons (.bool) (tp 17 []))))))))))
def w8h:qb:=[(.normal,(List.cons (.str) (List.cons (.top) (List.cons (.top) (List.cons (.bool) (List.cons (.bool) (List.cons (.int .i64) (tp 37 [])))))))),(.ret,(List.cons (.top) (List.cons (.top) (List.cons (.int .i64) (tp 40 [])))))]
def w4s:List Sh:=(List.cons (.str) (List.cons (.top) (List.cons (.top) (List.cons (.bool) (List.cons (.bool) (List.cons (.int .i64) (tp 37 [])))))))
def w8i:qb:=[((.exit 0),(tp 43 [])),(.ret,(List.cons (.top) (List.cons (.top) (List.cons (.int .i64) (tp 40 [])))))]
def w4t:List Sh:=[.agg 5,.lst zk,.lst zl,.lst zm,.opq 0,.opq 1,.ptr 0 0,.str,.str,.obox 8,.int .i64,.str,.bool,.str,.str,.int .i64,.bool,.bool]
def w8j:qb:=[(.ret,[.tuple 3,.str,.str,.int .i64,.obox 8,.int .i64,.str,.bool,.str,.str,.int .i64,.bool,.bool])]
def w8k:qb:=[(.ret,[.tuple 2,.int .i64,.int .i64])]
def w4u:List Sh:=(List.cons (.str) (tp 3 (List.cons (.int .i64) (tp 3 (List.cons (.ptr 0 0) (tp 27 (List.cons (.oiter) [])))))))
def w8l:qb:=[(.ret,(List.cons (.top) (List.cons (.top) (List.cons (.int .i64) (List.cons (.int .i64) (tp 32 [])))))),((.exit 0),(List.cons (.str) (tp 3 (List.cons (.int .i64) (tp 31 [])))))]
def x1f:List Sh:=[.ptr 0 0,.str,.obox 8,.int .i64,.str,.bool,.str,.str,.int .i64,.bool,.bool]
def w8m:qb:=[(.ret,[.tuple 2,.str,.int .i64,.obox 8,.int .i64,.str,.bool,.str,.str,.int .i64,.bool,.bool])]
def w4v:List Sh:=(List.cons (.ptr 0 0) (List.cons (.str) (List.cons (.top) (List.cons (.top) (List.cons (.str) (List.cons (.top) (List.cons (.str) (tp 21 (List.cons (.bool) (tp 32 (List.cons (.obox 8) (List.cons (.int .i64) (List.cons (.str) (List.cons (.bool) (List.cons (.str) (List.cons (.str) (List.cons (.int .i64) (List.cons (.bool) (List.cons (.bool) [])))))))))))))))))))
def x1t:qb:=[(.ret,(tp 4 (List.cons (.str) (List.cons (.int .i64) (tp 55 (List.cons (.obox 8) (List.cons (.int .i64) (List.cons (.str) (List.cons (.bool) (List.cons (.str) (List.cons (.str) (List.cons (.int .i64) (List.cons (.bool) (List.cons (.bool) [])))))))))))))),(.normal,(tp 4 (List.cons (.str) (tp 56 (List.cons (.obox 8) (List.cons (.int .i64) (List.cons (.str) (List.cons (.bool) (List.cons (.str) (List.cons (.str) (List.cons (.int .i64) (List.cons (.bool) (List.cons (.bool) [])))))))))))))]
def w4w:List Sh:=(List.cons (.ptr 0 0) (List.cons (.str) (List.cons (.top) (List.cons (.top) (List.cons (.str) (List.cons (.top) (List.cons (.str) (List.cons (.bool) (tp 8 (List.cons (.bool) (tp 44 (List.cons (.obox 8) (List.cons (.int .i64) (List.cons (.str) (List.cons (.bool) (List.cons (.str) (List.cons (.str) (List.cons (.int .i64) (List.cons (.bool) (List.cons (.bool) []))))))))))))))))))))
def w4x:List Sh:=(List.cons (.lst .str) (List.cons (.str) (tp 5 (List.cons (.int .i64) (List.cons (.int .i64) (tp 10 []))))))
def w8n:qb:=[((.exit 0),(tp 19 [])),(.ret,(tp 4 (List.cons (.int .i64) (tp 14 []))))]
def w4y:List Sh:=(List.cons (.ptr 0 0) (tp 6 (List.cons (.row 1) (tp 13 (List.cons (.lst .str) (List.cons (.int .i64) (List.cons (.int .i64) (tp 27 (List.cons (.obox 8) (List.cons (.int .i64) (List.cons (.str) (List.cons (.bool) (List.cons (.str) (List.cons (.str) (List.cons (.int .i64) (List.cons (.bool) (List.cons (.bool) (List.cons (.orow 9 .str) []))))))))))))))))))
def w8o:qb:=[((.exit 0),(tp 51 (List.cons (.obox 8) (List.cons (.int .i64) (List.cons (.str) (List.cons (.bool) (List.cons (.str) (List.cons (.str) (List.cons (.int .i64) (List.cons (.bool) (List.cons (.bool) []))))))))))),(.ret,(tp 4 (List.cons (.int .i64) (tp 46 (List.cons (.obox 8) (List.cons (.int .i64) (List.cons (.str) (List.cons (.bool) (List.cons (.str) (List.cons (.str) (List.cons (.int .i64) (List.cons (.bool) (List.cons (.bool) [])))))))))))))]
def w4z:List Sh:=(List.cons (.top) (List.cons (.ptr 0 0) (tp 5 (List.cons (.str) (List.cons (.top) (List.cons (.int .i64) (tp 32 (List.cons (.obox 8) (List.cons (.int .i64) (List.cons (.str) (List.cons (.bool) (List.cons (.str) (List.cons (.str) (List.cons (.int .i64) (List.cons (.bool) (List.cons (.bool) []))))))))))))))))
def w8p:qb:=[(.ret,(tp 6 (List.cons (.int .i64) (tp 35 (List.cons (.obox 8) (List.cons (.int .i64) (List.cons (.str) (List.cons (.bool) (List.cons (.str) (List.cons (.str) (List.cons (.int .i64) (List.cons (.bool) (List.cons (.bool) [])))))))))))))]
def w8q:qb:=[(.ret,[.tuple 2,.agg 8,.int .i64,.str,.bool,.str,.str,.int .i64,.bool,.bool,.int .i64])]
def w5a:List Sh:=[.agg 8,.int .i64,.str,.bool,.str,.str,.int .i64,.bool,.bool]
def w5b:List Sh:=(List.cons (.top) (List.cons (.ptr 0 0) (List.cons (.top) (List.cons (.str) (tp 47 (List.cons (.obox 8) (List.cons (.int .i64) (List.cons (.str) (List.cons (.bool) (List.cons (.str) (List.cons (.str) (List.cons (.int .i64) (List.cons (.bool) (List.cons (.bool) []))))))))))))))
def w8r:qb:=[(.normal,(tp 3 (List.cons (.str) (tp 47 []))))]
def w5c:List Sh:=(List.cons (.top) (List.cons (.ptr 0 0) (List.cons (.top) (List.cons (.str) (tp 4 (List.cons (.int .i64) (List.cons (.bool) (tp 41 (List.cons (.obox 8) (List.cons (.int .i64) (List.cons (.str) (List.cons (.bool) (List.cons (.str) (List.cons (.str) (List.cons (.int .i64) (List.cons (.bool) (List.cons (.bool) [])))))))))))))))))
def w8s:qb:=[(.ret,(List.cons (.top) (List.cons (.top) (List.cons (.str) (tp 48 []))))),(.normal,(tp 3 (List.cons (.str) (tp 47 []))))]
def w5d:List Sh:=[.agg 5,.lst zk,.lst zl,.lst zm,.opq 0,.opq 1,.agg 8,.int .i64,.str,.bool,.str,.str,.int .i64,.bool,.bool]
def w5e:List Sh:=(List.cons (.top) (List.cons (.top) (List.cons (.ptr 0 0) (List.cons (.ptr 1 0) (List.cons (.top) (List.cons (.bool) (tp 6 (List.cons (.int .i64) (List.cons (.bool) (tp 64 (List.cons (.obox 5) (List.cons (.lst zk) (List.cons (.lst zl) (List.cons (.lst zm) (List.cons (.opq 0) (List.cons (.opq 1) (List.cons (.obox 8) (List.cons (.int .i64) (List.cons (.str) (List.cons (.bool) (List.cons (.str) (List.cons (.str) (List.cons (.int .i64) (List.cons (.bool) (List.cons (.bool) [])))))))))))))))))))))))))
def w8t:qb:=[(.ret,(tp 4 (List.cons (.bool) (tp 73 [])))),(.normal,(tp 78 []))]
abbrev T97:=qa×qa×Unit→Option (qa×Bool×Unit)
def E97 (f:T97):FEnt:=⟨zu,q2u,f⟩
def K97 (f25:T25):=lk [(25,E25 f25)]
def F97 (f25:T25):T97:=fun (x0,x1,_)=>bif decide ((↑x0.length:Int)<(↑x1.length:Int)) then some ([],false,()) else bif decide (0≤(↑x1.length:Int))&&decide ((↑x1.length:Int)≤(↑x0.length:Int)) then (f25 (List.take (↑x1.length:Int).toNat x0,())).bind fun v=>(f25 (x1,())).bind fun v1=>bif !v.1==v1.1 then some ([],false,()) else bif decide (0≤(↑x1.length:Int))&&decide ((↑x1.length:Int)≤(↑x0.length:Int)) then some (List.drop (↑x1.length:Int).toNat x0,true,()) else none else none
def C97:T97:=F97 C25
theorem b3w:FO 97 (E97 C97):=vf zu q2u K97 F97 C25 (kc w0q kn) Tryz.func97
abbrev z6f:=qa×qa×qa×qa×qa×qa×qa×qa×qa×Int×Unit→Option (Unit⊕(Int×Unit))
def v0o (f:z6f):LEnt:=⟨w4o,w8e,f⟩
abbrev T61:=qa×Unit→Option (Int×Unit)
def E61 (f:T61):FEnt:=⟨zy,jb,f⟩
def K61 (f96:T96) (f97:T97):=lk [(96,E96 f96),(97,E97 f97)]
theorem w9f:zb Tryz.prog (K61 C96 C97):=(kc g9y (kc b3w kn))
def y3v (f96:T96) (f97:T97):yh (qa×qa×qa×qa×qa×qa×qa×qa×qa×Int×Unit) (Unit⊕(Int×Unit)):=fun (x0,x1,x2,x3,x4,x5,x6,x7,x8,x9,_)=>bif decide (x9<8) then bif decide (x9=(↑0:Int)) then (f97 (x0,x1,())).bind fun v=>bif v.2.1 then bif v.1==[] then some (Sum.inr (Sum.inr (x9,()))) else (f96 (v.1,[32],())).bind fun v=>bif v.1 then some (Sum.inr (Sum.inr (x9,()))) else some (Sum.inl (x0,x1,x2,x3,x4,x5,x6,x7,x8,IntKind.i64.wrap (x9+1),())) else some (Sum.inl (x0,x1,x2,x3,x4,x5,x6,x7,x8,IntKind.i64.wrap (x9+1),())) else bif decide (x9=(↑1:Int)) then (f97 (x0,x2,())).bind fun v=>bif v.2.1 then bif v.1==[] then some (Sum.inr (Sum.inr (x9,()))) else (f96 (v.1,[32],())).bind fun v=>bif v.1 then some (Sum.inr (Sum.inr (x9,()))) else some (Sum.inl (x0,x1,x2,x3,x4,x5,x6,x7,x8,IntKind.i64.wrap (x9+1),())) else some (Sum.inl (x0,x1,x2,x3,x4,x5,x6,x7,x8,IntKind.i64.wrap (x9+1),())) else bif decide (x9=(↑2:Int)) then (f97 (x0,x3,())).bind fun v=>bif v.2.1 then bif v.1==[] then some (Sum.inr (Sum.inr (x9,()))) else (f96 (v.1,[32],())).bind fun v=>bif v.1 then some (Sum.inr (Sum.inr (x9,()))) else some (Sum.inl (x0,x1,x2,x3,x4,x5,x6,x7,x8,IntKind.i64.wrap (x9+1),())) else some (Sum.inl (x0,x1,x2,x3,x4,x5,x6,x7,x8,IntKind.i64.wrap (x9+1),())) else bif decide (x9=(↑3:Int)) then (f97 (x0,x4,())).bind fun v=>bif v.2.1 then bif v.1==[] then some (Sum.inr (Sum.inr (x9,()))) else (f96 (v.1,[32],())).bind fun v=>bif v.1 then some (Sum.inr (Sum.inr (x9,()))) else some (Sum.inl (x0,x1,x2,x3,x4,x5,x6,x7,x8,IntKind.i64.wrap (x9+1),())) else some (Sum.inl (x0,x1,x2,x3,x4,x5,x6,x7,x8,IntKind.i64.wrap (x9+1),())) else bif decide (x9=(↑4:Int)) then (f97 (x0,x5,())).bind fun v=>bif v.2.1 then bif v.1==[] then some (Sum.inr (Sum.inr (x9,()))) else (f96 (v.1,[32],())).bind fun v=>bif v.1 then some (Sum.inr (Sum.inr (x9,()))) else some (Sum.inl (x0,x1,x2,x3,x4,x5,x6,x7,x8,IntKind.i64.wrap (x9+1),())) else some (Sum.inl (x0,x1,x2,x3,x4,x5,x6,x7,x8,IntKind.i64.wrap (x9+1),())) else bif decide (x9=(↑5:Int)) then (f97 (x0,x6,())).bind fun v=>bif v.2.1 then bif v.1==[] then some (Sum.inr (Sum.inr (x9,()))) else (f96 (v.1,[32],())).bind fun v=>bif v.1 then some (Sum.inr (Sum.inr (x9,()))) else some (Sum.inl (x0,x1,x2,x3,x4,x5,x6,x7,x8,IntKind.i64.wrap (x9+1),())) else some (Sum.inl (x0,x1,x2,x3,x4,x5,x6,x7,x8,IntKind.i64.wrap (x9+1),())) else bif decide (x9=(↑6:Int)) then (f97 (x0,x7,())).bind fun v=>bif v.2.1 then bif v.1==[] then some (Sum.inr (Sum.inr (x9,()))) else (f96 (v.1,[32],())).bind fun v=>bif v.1 then some (Sum.inr (Sum.inr (x9,()))) else some (Sum.inl (x0,x1,x2,x3,x4,x5,x6,x7,x8,IntKind.i64.wrap (x9+1),())) else some (Sum.inl (x0,x1,x2,x3,x4,x5,x6,x7,x8,IntKind.i64.wrap (x9+1),())) else bif decide (x9=(↑7:Int)) then (f97 (x0,x8,())).bind fun v=>bif v.2.1 then bif v.1==[] then some (Sum.inr (Sum.inr (x9,()))) else (f96 (v.1,[32],())).bind fun v=>bif v.1 then some (Sum.inr (Sum.inr (x9,()))) else some (Sum.inl (x0,x1,x2,x3,x4,x5,x6,x7,x8,IntKind.i64.wrap (x9+1),())) else some (Sum.inl (x0,x1,x2,x3,x4,x5,x6,x7,x8,IntKind.i64.wrap (x9+1),())) else none else some (Sum.inr (Sum.inl ()))
def y3j:z6f:=qc (y3v C96 C97) jc
theorem g8v:jf 0 (qe (code Tryz.f61) [1,0,1,0,0]) (v0o y3j):=zl2 w4o w8e K61 y3v C96 C97 w9f
def N61 (f61_l0:z6f):Ann:=(.seq .nil (.seq (.seq .nil (.blk (.loop (v0o f61_l0)))) .nil))
def F61 (f96:T96) (f97:T97) (f61_l0:z6f):T61:=fun (x0,_)=>(f61_l0 (x0,yb.1,yb.2.1,yb.2.2.1,yb.2.2.2.1,yb.2.2.2.2.1,yb.2.2.2.2.2.1,yb.2.2.2.2.2.2.1,yb.2.2.2.2.2.2.2,0,())).bind fun v=>Sum.elim (fun v=>some (-1,())) (fun v=>some (v.1,())) v
def C61:T61:=F61 C96 C97 y3j
theorem d5r:FO 61 (E61 C61):=q5y zy jb K61 N61 F61 C96 C97 y3j w9f Tryz.func61 (And.intro g8v trivial)
abbrev T62:=Unit→Option (Unit)
def E62 (f:T62):FEnt:=⟨Li7,w8f,f⟩
def F62:T62:=fun (_)=>some ()
def C62:T62:=F62
theorem d5s:FO 62 (E62 C62):=zq0 Li7 w8f yp F62 kn Tryz.func62
abbrev x4z:=Int×Unit→Option (Bool×Unit)
def f0r (f:x4z):FEnt:=⟨q2k,qw,f⟩
def g1w:x4z:=fun (x0,_)=>bif decide (x0≤32) then some (true,()) else some (decide (x0>126),())
def j3j:x4z:=g1w
theorem f9l:FO 104 (f0r j3j):=zq0 q2k qw yp g1w kn Tryz.func104
abbrev q4l:=Bool×(qa×Int)×Unit→Option ((Int×Unit)⊕Unit)
def z0s (f:q4l):LEnt:=⟨w4q,w8g,f⟩
abbrev j7j:=qa×Bool×Unit→Option (Int×Unit)
def x9u (f:j7j):FEnt:=⟨w4p,jb,f⟩
def y4a (f104:x4z):=lk [(104,f0r f104)]
theorem y0u:zb Tryz.prog (y4a j3j):=(kc f9l kn)
def j1r (f104:x4z):yh (Bool×(qa×Int)×Unit) ((Int×Unit)⊕Unit):=fun (x0,x1,_)=>bif decide (Int.toNat x1.2<List.length x1.1) then (f104 ((↑(xl x1.1 (Int.toNat x1.2)).1:Int),())).bind fun v=>bif v.1==x0 then some (Sum.inr (Sum.inl ((↑(Int.toNat x1.2):Int),()))) else some (Sum.inl (x0,(x1.1,(↑(Int.toNat x1.2+(xl x1.1 (Int.toNat x1.2)).2):Int)),())) else some (Sum.inr (Sum.inr ()))
def j1m:q4l:=qc (j1r j3j) jc
theorem x7p:jf 0 (qe (code Tryz.f156) [1,0,1,0,0]) (z0s j1m):=zl1 w4q w8g y4a j1r j3j y0u
def g4y (f156v3_l0:q4l):Ann:=(.seq .nil (.seq (.seq .nil (.blk (.loop (z0s f156v3_l0)))) .nil))
def y3p (f104:x4z) (f156v3_l0:q4l):j7j:=fun (x0,x1,_)=>(f156v3_l0 (x1,(x0,(↑0:Int)),())).bind fun v=>Sum.elim (fun v=>some (v.1,())) (fun v=>some (-1,())) v
def z2r:j7j:=y3p j3j j1m
theorem w0m:FO 156 (x9u z2r):=ve w4p jb y4a g4y y3p j3j j1m y0u Tryz.func156 (And.intro x7p trivial)
abbrev j7f:=qa×Unit→Option (Int×Unit)
def x9r (f:j7f):FEnt:=⟨x1e,jb,f⟩
def g3t (f156v3:j7j):=lk [(156,x9u f156v3)]
def y3o (f156v3:j7j):j7f:=fun (x0,_)=>(f156v3 (x0,true,())).bind fun v=>some (v.1,())
def z2m:j7f:=y3o z2r
theorem w0k:FO 123 (x9r z2m):=vf x1e jb g3t y3o z2r (kc w0m kn) Tryz.func123
abbrev z9r:=qa×Unit→Option (Bool×Unit)
def w1k (f:z9r):FEnt:=⟨x1e,qw,f⟩
def f5e (f123v3:j7f):=lk [(123,x9r f123v3)]
def v1q (f123v3:j7f):z9r:=fun (x0,_)=>(f123v3 (x0,())).bind fun v=>some (decide (v.1≥0),())
def z0q:z9r:=v1q z2m
theorem g9w:FO 84 (w1k z0q):=vf x1e qw f5e v1q z2m (kc w0k kn) Tryz.func84
abbrev T66:=qa×Unit→Option (Bool×Unit)
def E66 (f:T66):FEnt:=⟨zy,qw,f⟩
def K66 (f84v3:z9r):=lk [(84,w1k f84v3)]
def F66 (f84v3:z9r):T66:=fun (x0,_)=>bif !x0==[] then bif decide ((↑x0.length:Int)≤255) then (f84v3 (x0,())).bind fun v=>some (bif v.1 then false else true,()) else some (false,()) else some (false,())
def C66:T66:=F66 z0q
theorem b3t:FO 66 (E66 C66):=vf zy qw K66 F66 z0q (kc g9w kn) Tryz.func66
abbrev T98:=qq×qu×qv×qa×Int×qa×Bool×qa×qa×Int×Bool×Bool×Unit→Option (Int×Int×qa×Bool×qa×qa×Int×Bool×Bool×Unit)
def E98 (f:T98):FEnt:=⟨q5p,q2f,f⟩
def K98 (f132:q8p) (f66:T66):=lk [(132,v9b f132),(66,E66 f66)]
def F98 (f132:q8p) (f66:T66):T98:=fun (x0,x1,x2,x3,x4,x5,x6,x7,x8,x9,x10,x11,_)=>(f132 (x3,[32],())).bind fun v=>bif !v.2.1 then some (501,x4,x5,x6,x7,x8,x9,x10,x11,()) else (f66 (v.1,())).bind fun v1=>bif !v1.1 then some (501,x4,x5,x6,x7,x8,x9,x10,x11,()) else some (0,x4,v.1,x6,x7,x8,x9,x10,x11,())
theorem h98 (f132:q8p) (f66:T66):zw (K98 f132 f66) 1 Tryz.f98 .nil q5p q2f (F98 f132 f66):=fun v=>by kernel_rfl
def C98:T98:=F98 j1i C66
theorem d6i:FO 98 (E98 C98) :=
 q0 (kc v6y (kc b3t kn)) Tryz.func98 (h98 j1i C66)
abbrev q4n:=qa×Bool×Bool×Int×Int×Bool×Unit→Option ((qa×Bool×Bool×Int×Unit)⊕(Int×Unit))
def y7s (f:q4n):LEnt:=⟨w4r,w8h,f⟩
abbrev j5r:=qa×Bool×Bool×Int×Unit→Option (Unit⊕(Int×Unit))
def y7t (f:j5r):LEnt:=⟨w4s,w8i,f⟩
abbrev x5g:=qa×Unit→Option (Int×Unit)
def f1p (f:x5g):FEnt:=⟨zy,jb,f⟩
def z3z:q4n:=fun (x0,x1,x2,x3,x4,x5,_)=>bif x5 then some (Sum.inl (x0,x1,x2,IntKind.i64.wrap (x3+1),())) else bif x1 then some (Sum.inl (x0,x1,x2,x3,())) else bif x4==91 then some (Sum.inl (x0,x1,true,x3,())) else bif x4==62 then some (Sum.inr (IntKind.i64.wrap (x3+1),())) else some (Sum.inl (x0,x1,x2,x3,()))
def vp:q4n:=z3z
theorem k7p:jy 0 (qe (code Tryz.f167) [1,1,0,1,0,0,1,0,0,1,0,1,1,1,1,1]) (y7s vp):=zc0 w4r w8h yp z3z kn
def k3h (f167_c0:q4n):Ann:=(.seq .nil (.seq (.blk (.seq .nil (.blk (.seq .nil (.cond .nil (.seq .nil (.cond .nil (.cut .nil (y7s f167_c0))))))))) .nil))
def xv (f167_c0:q4n):yh (qa×Bool×Bool×Int×Unit) (Unit⊕(Int×Unit)):=fun (x0,x1,x2,x3,_)=>bif decide (x3<(↑x0.length:Int)) then bif decide (0≤x3)&&decide (x3<(↑x0.length:Int)) then bif x2 then some (Sum.inl (x0,x1,bif (↑(x0.getD x3.toNat 0).toNat:Int)==93 then false else true,IntKind.i64.wrap (x3+1),())) else bif (↑(x0.getD x3.toNat 0).toNat:Int)==34 then some (Sum.inl (x0,bif x1 then false else true,x2,IntKind.i64.wrap (x3+1),())) else bif x1 then (f167_c0 (x0,x1,x2,x3,(↑(x0.getD x3.toNat 0).toNat:Int),(↑(x0.getD x3.toNat 0).toNat:Int)==92,())).bind fun v=>Sum.elim (fun v=>some (Sum.inl (v.1,v.2.1,v.2.2.1,IntKind.i64.wrap (v.2.2.2.1+1),()))) (fun v=>some (Sum.inr (Sum.inr (v.1,())))) v else (f167_c0 (x0,x1,x2,x3,(↑(x0.getD x3.toNat 0).toNat:Int),false,())).bind fun v=>Sum.elim (fun v=>some (Sum.inl (v.1,v.2.1,v.2.2.1,IntKind.i64.wrap (v.2.2.2.1+1),()))) (fun v=>some (Sum.inr (Sum.inr (v.1,())))) v else none else some (Sum.inr (Sum.inl ()))
theorem k5i (f167_c0:q4n):AqL yp 0 (qe (code Tryz.f167) [1,1,0,1,0,0]) (k3h f167_c0) w4s w8i (xv f167_c0):=fun v=>by kernel_rfl
def q7r:j5r:=qc (xv vp) jc
theorem k7q:jf 0 (qe (code Tryz.f167) [1,1,0,1,0,0]) (y7t q7r) :=
 frm kn (And.intro k7p trivial) (k5i vp)
def b7s (f167_l0:j5r):Ann:=(.seq .nil (.seq .nil (.seq (.seq .nil (.blk (.loop (y7t f167_l0)))) .nil)))
def v9s (f167_l0:j5r):x5g:=fun (x0,_)=>(f167_l0 (x0,false,false,0,())).bind fun v=>Sum.elim (fun v=>some (0,())) (fun v=>some (v.1,())) v
def v8q:x5g:=v9s q7r
theorem b0j:FO 167 (f1p v8q):=q1a zy jb yp b7s v9s q7r kn Tryz.func167 (And.intro k7q trivial)
abbrev j9y:=qq×qu×qv×qa×qa×Int×qa×Bool×qa×qa×Int×Bool×Bool×Unit→Option (qa×qa×Int×Int×qa×Bool×qa×qa×Int×Bool×Bool×Unit)
def g0w (f:j9y):FEnt:=⟨w4t,w8j,f⟩
def b4t (f167:x5g) (f40:T40) (f97:T97):=lk [(167,f1p f167),(40,E40 f40),(97,E97 f97)]
def g1z (f167:x5g) (f40:T40) (f97:T97):j9y:=fun (x0,x1,x2,x3,x4,x5,x6,x7,x8,x9,x10,x11,x12,_)=>(f97 (x3,x4,())).bind fun v=>(f167 (v.1,())).bind fun v1=>bif !v.2.1 then some ([],[],501,x5,x6,x7,x8,x9,x10,x11,x12,()) else bif v1.1==0 then some ([],[],501,x5,x6,x7,x8,x9,x10,x11,x12,()) else bif decide (0≤v1.1)&&decide (v1.1≤(↑(List.length v.1):Int)) then (f40 (x0,x1,x2,List.take (Int.toNat v1.1) v.1,())).bind fun v2=>bif v2.2.2.2.1 != 0 then some ([],[],553,x5,x6,x7,x8,x9,x10,x11,x12,()) else bif v2.1 then bif x5==3 then some ([],[],553,x5,x6,x7,x8,x9,x10,x11,x12,()) else bif decide (0≤v1.1)&&decide (v1.1≤(↑(List.length v.1):Int)) then bif decide (0≤v1.1)&&decide (v1.1≤(↑(List.length v.1):Int)) then some (List.take (Int.toNat v1.1) v.1,List.drop (Int.toNat v1.1) v.1,0,x5,x6,v2.1,v2.2.1,v2.2.2.1,x10,x11,x12,()) else none else none else bif decide (0≤v1.1)&&decide (v1.1≤(↑(List.length v.1):Int)) then bif decide (0≤v1.1)&&decide (v1.1≤(↑(List.length v.1):Int)) then some (List.take (Int.toNat v1.1) v.1,List.drop (Int.toNat v1.1) v.1,0,x5,x6,v2.1,v2.2.1,v2.2.2.1,x10,x11,x12,()) else none else none else none
theorem d2z (f167:x5g) (f40:T40) (f97:T97):zw (b4t f167 f40 f97) 1 Tryz.f133 .nil w4t w8j (g1z f167 f40 f97):=fun v=>by kernel_rfl
def j6l:j9y:=g1z v8q C40 C97
theorem w9u:FO 133 (g0w j6l) :=
 q0 (kc b0j (kc d5k (kc b3w kn))) Tryz.func133 (d2z v8q C40 C97)
abbrev j5u:=qa×Int×(qa×Int)×Unit→Option ((Int×Int×Unit)⊕(qa×Int×Unit))
def y8c (f:j5u):LEnt:=⟨w4u,w8l,f⟩
abbrev z5v:=qa×Unit→Option (Int×Int×Unit)
def f1z (f:z5v):FEnt:=⟨zy,w8k,f⟩
def z4e:yh (qa×Int×(qa×Int)×Unit) ((Int×Int×Unit)⊕(qa×Int×Unit)):=fun (x0,x1,x2,_)=>bif decide (Int.toNat x2.2<List.length x2.1) then bif decide ((↑(xl x2.1 (Int.toNat x2.2)).1:Int)<48) then some (Sum.inr (Sum.inl (0,501,()))) else bif decide ((↑(xl x2.1 (Int.toNat x2.2)).1:Int)>57) then some (Sum.inr (Sum.inl (0,501,()))) else some (Sum.inl (x0,IntKind.i64.wrap (IntKind.i64.wrap (10*x1)+IntKind.i64.wrap (IntKind.i32.wrap ((↑(xl x2.1 (Int.toNat x2.2)).1:Int)-48))),(x2.1,(↑(Int.toNat x2.2+(xl x2.1 (Int.toNat x2.2)).2):Int)),())) else some (Sum.inr (Sum.inr (x0,x1,())))
def z2y:j5u:=qc (z4e) jc
theorem k7z:jf 0 (qe (code Tryz.f204) [1,1,0,1,0,0]) (y8c z2y):=zl0 w4u w8l yp z4e kn
def b7z (f204_l0:j5u):Ann:=(.seq .nil (.seq .nil (.seq (.seq .nil (.blk (.loop (y8c f204_l0)))) .nil)))
def g2i (f204_l0:j5u):z5v:=fun (x0,_)=>(f204_l0 (x0,0,(x0,(↑0:Int)),())).bind fun v=>Sum.elim (fun v=>some (v.1,v.2.1,())) (fun v=>bif v.1==[] then some (0,501,()) else bif decide ((↑(List.length v.1):Int)>8) then some (0,501,()) else bif decide (v.2.1>16777216) then some (0,552,()) else some (v.2.1,0,())) v
def j9o:z5v:=g2i z2y
theorem b0u:FO 204 (f1z j9o):=q1a zy w8k yp b7z g2i z2y kn Tryz.func204 (And.intro k7z trivial)
abbrev q4o:=qa×qa×qa×Bool×Int×qa×Bool×qa×qa×Int×Bool×Bool×Unit→Option ((qa×Int×Int×qa×Bool×qa×qa×Int×Bool×Bool×Unit)⊕(qa×Int×qa×Bool×qa×qa×Int×Bool×Bool×Unit))
def y7u (f:q4o):LEnt:=⟨w4v,x1t,f⟩
abbrev q4p:=qa×qa×qa×Bool×Bool×Int×qa×Bool×qa×qa×Int×Bool×Bool×Unit→Option ((qa×Int×Int×qa×Bool×qa×qa×Int×Bool×Bool×Unit)⊕(qa×Int×qa×Bool×qa×qa×Int×Bool×Bool×Unit))
def y7v (f:q4p):LEnt:=⟨w4w,x1t,f⟩
abbrev z9g:=qa×Int×qa×Bool×qa×qa×Int×Bool×Bool×Unit→Option (qa×Int×Int×qa×Bool×qa×qa×Int×Bool×Bool×Unit)
def f1q (f:z9g):FEnt:=⟨x1f,w8m,f⟩
def k1z (f129:z5t) (f204:z5v) (f25:T25):=lk [(129,f1c f129),(204,f1z f204),(25,E25 f25)]
theorem y5m:zb Tryz.prog (k1z j1h j9o C25):=(kc w9s (kc b0u (kc w0q kn)))
def z4a (f129:z5t) (f204:z5v) (f25:T25):q4o:=fun (x0,x1,x2,x3,x4,x5,x6,x7,x8,x9,x10,x11,_)=>bif x3 then (f204 (x2,())).bind fun v=>some (Sum.inl (x1,v.2.1,x4,x5,x6,x7,x8,v.1,x10,x11,())) else bif x0==[98,111,100,121,61,56,98,105,116,109,105,109,101] then some (Sum.inr (x1,x4,x5,x6,x7,x8,x9,true,x11,())) else bif x0==[115,109,116,112,117,116,102,56] then some (Sum.inr (x1,x4,x5,x6,x7,x8,x9,x10,true,())) else bif !x0==[98,111,100,121,61,55,98,105,116] then some (Sum.inl (x1,501,x4,x5,x6,x7,x8,x9,x10,x11,())) else some (Sum.inr (x1,x4,x5,x6,x7,x8,x9,x10,x11,()))
def wj:q4o:=z4a j1h j9o C25
theorem k7r:jy 1 (qe (code Tryz.f168) [1,1,1,0,0,1,1,1]) (y7u wj):=zc3 w4v x1t k1z z4a j1h j9o C25 y5m
def k3i (f168_c0:q4o):Ann:=(.cond .nil (.cut .nil (y7u f168_c0)))
def z4b (f129:z5t) (f204:z5v) (f25:T25) (f168_c0:q4o):q4p:=fun (x0,x1,x2,x3,x4,x5,x6,x7,x8,x9,x10,x11,x12,_)=>bif x4 then some (Sum.inl (x1,555,x5,x6,x7,x8,x9,x10,x11,x12,())) else bif x1==[115,105,122,101] then (f168_c0 (x0,x1,x2,x3,x5,x6,x7,x8,x9,x10,x11,x12,())).bind fun v=>Sum.elim (fun v=>some (Sum.inl (v.1,v.2.1,v.2.2.1,v.2.2.2.1,v.2.2.2.2.1,v.2.2.2.2.2.1,v.2.2.2.2.2.2.1,v.2.2.2.2.2.2.2.1,v.2.2.2.2.2.2.2.2.1,v.2.2.2.2.2.2.2.2.2.1,()))) (fun v=>some (Sum.inr (v.1,v.2.1,v.2.2.1,v.2.2.2.1,v.2.2.2.2.1,v.2.2.2.2.2.1,v.2.2.2.2.2.2.1,v.2.2.2.2.2.2.2.1,v.2.2.2.2.2.2.2.2.1,()))) v else (f168_c0 (x0,x1,x2,false,x5,x6,x7,x8,x9,x10,x11,x12,())).bind fun v=>Sum.elim (fun v=>some (Sum.inl (v.1,v.2.1,v.2.2.1,v.2.2.2.1,v.2.2.2.2.1,v.2.2.2.2.2.1,v.2.2.2.2.2.2.1,v.2.2.2.2.2.2.2.1,v.2.2.2.2.2.2.2.2.1,v.2.2.2.2.2.2.2.2.2.1,()))) (fun v=>some (Sum.inr (v.1,v.2.1,v.2.2.1,v.2.2.2.1,v.2.2.2.2.1,v.2.2.2.2.2.1,v.2.2.2.2.2.2.1,v.2.2.2.2.2.2.2.1,v.2.2.2.2.2.2.2.2.1,()))) v
theorem k5j (f129:z5t) (f204:z5v) (f25:T25) (f168_c0:q4o):AqC (k1z f129 f204 f25) 1 (qe (code Tryz.f168) [1,1,1,0,0,1]) (k3i f168_c0) w4w x1t (z4b f129 f204 f25 f168_c0):=fun v=>by kernel_rfl
def wm:q4p:=z4b j1h j9o C25 wj
theorem k7s:jy 1 (qe (code Tryz.f168) [1,1,1,0,0,1]) (y7v wm) :=
 frd y5m (And.intro k7r trivial) (k5j j1h j9o C25 wj)
def b7t (f168_c1:q4p):Ann:=(.seq .nil (.seq .nil (.seq .nil (.seq (.blk (.cut .nil (y7v f168_c1))) .nil))))
def g2f (f129:z5t) (f204:z5v) (f25:T25) (f168_c1:q4p):z9g:=fun (x0,x1,x2,x3,x4,x5,x6,x7,x8,_)=>(f25 (x0,())).bind fun v=>(f129 (v.1,[61],())).bind fun v1=>bif !v1.1==[115,105,122,101] then bif !v1.1==[98,111,100,121] then (f168_c1 (v.1,v1.1,v1.2.1,v1.2.2.1,!v1.1==[115,109,116,112,117,116,102,56],x1,x2,x3,x4,x5,x6,x7,x8,())).bind fun v=>Sum.elim (fun v=>some (v.1,v.2.1,v.2.2.1,v.2.2.2.1,v.2.2.2.2.1,v.2.2.2.2.2.1,v.2.2.2.2.2.2.1,v.2.2.2.2.2.2.2.1,v.2.2.2.2.2.2.2.2.1,v.2.2.2.2.2.2.2.2.2.1,())) (fun v=>some (v.1,0,v.2.1,v.2.2.1,v.2.2.2.1,v.2.2.2.2.1,v.2.2.2.2.2.1,v.2.2.2.2.2.2.1,v.2.2.2.2.2.2.2.1,v.2.2.2.2.2.2.2.2.1,())) v else (f168_c1 (v.1,v1.1,v1.2.1,v1.2.2.1,false,x1,x2,x3,x4,x5,x6,x7,x8,())).bind fun v=>Sum.elim (fun v=>some (v.1,v.2.1,v.2.2.1,v.2.2.2.1,v.2.2.2.2.1,v.2.2.2.2.2.1,v.2.2.2.2.2.2.1,v.2.2.2.2.2.2.2.1,v.2.2.2.2.2.2.2.2.1,v.2.2.2.2.2.2.2.2.2.1,())) (fun v=>some (v.1,0,v.2.1,v.2.2.1,v.2.2.2.1,v.2.2.2.2.1,v.2.2.2.2.2.1,v.2.2.2.2.2.2.1,v.2.2.2.2.2.2.2.1,v.2.2.2.2.2.2.2.2.1,())) v else (f168_c1 (v.1,v1.1,v1.2.1,v1.2.2.1,false,x1,x2,x3,x4,x5,x6,x7,x8,())).bind fun v=>Sum.elim (fun v=>some (v.1,v.2.1,v.2.2.1,v.2.2.2.1,v.2.2.2.2.1,v.2.2.2.2.2.1,v.2.2.2.2.2.2.1,v.2.2.2.2.2.2.2.1,v.2.2.2.2.2.2.2.2.1,v.2.2.2.2.2.2.2.2.2.1,())) (fun v=>some (v.1,0,v.2.1,v.2.2.1,v.2.2.2.1,v.2.2.2.2.1,v.2.2.2.2.2.1,v.2.2.2.2.2.2.1,v.2.2.2.2.2.2.2.1,v.2.2.2.2.2.2.2.2.1,())) v
theorem d3n (f129:z5t) (f204:z5v) (f25:T25) (f168_c1:q4p):zw (k1z f129 f204 f25) 1 Tryz.f168 (b7t f168_c1) x1f w8m (g2f f129 f204 f25 f168_c1):=fun v=>by kernel_rfl
def z2s:z9g:=g2f j1h j9o C25 wm
theorem b0k:FO 168 (f1q z2s) :=
 qo y5m Tryz.func168 (And.intro k7s trivial) (d3n j1h j9o C25 wm)
abbrev z6j:=List (qa)×qa×Int×Int×Unit→Option (Unit⊕(Int×Unit))
def v0x (f:z6j):LEnt:=⟨w4x,w8n,f⟩
abbrev T94:=List (qa)×qa×Unit→Option (Int×Unit)
def E94 (f:T94):FEnt:=⟨v1w,jb,f⟩
def y3x:yh (List (qa)×qa×Int×Int×Unit) (Unit⊕(Int×Unit)):=fun (x0,x1,x2,x3,_)=>bif decide (x3<x2) then bif decide (0≤x3)&&decide (x3<(↑x0.length:Int)) then bif x1==x0.getD x3.toNat [] then some (Sum.inr (Sum.inr (x3,()))) else some (Sum.inl (x0,x1,x2,IntKind.i64.wrap (x3+1),())) else none else some (Sum.inr (Sum.inl ()))
def y3n:z6j:=qc (y3x) jc
theorem g9e:jf 0 (qe (code Tryz.f94) [1,0,1,0,0]) (v0x y3n):=zl0 w4x w8n yp y3x kn
def N94 (f94_l0:z6j):Ann:=(.seq .nil (.seq (.seq .nil (.blk (.loop (v0x f94_l0)))) .nil))
def F94 (f94_l0:z6j):T94:=fun (x0,x1,_)=>(f94_l0 (x0,x1,(↑x0.length:Int),0,())).bind fun v=>Sum.elim (fun v=>some (-1,())) (fun v=>some (v.1,())) v
def C94:T94:=F94 y3n
theorem d6h:FO 94 (E94 C94):=q1a v1w jb yp N94 F94 y3n kn Tryz.func94 (And.intro g9e trivial)
abbrev T93:=List (qa)×qa×Unit→Option (Bool×Unit)
def E93 (f:T93):FEnt:=⟨v1w,qw,f⟩
def K93 (f94:T94):=lk [(94,E94 f94)]
def F93 (f94:T94):T93:=fun (x0,x1,_)=>(f94 (x0,x1,())).bind fun v=>some (decide (v.1≥0),())
def C93:T93:=F93 C94
theorem d6g:FO 93 (E93 C93):=vf v1w qw K93 F93 C94 (kc d6h kn) Tryz.func93
abbrev q8q:=List (qa)×Int×Int×Int×qa×Bool×qa×qa×Int×Bool×Bool×List (qa)×Unit→Option ((Int×qa×Bool×qa×qa×Int×Bool×Bool×Unit)⊕(Int×Int×qa×Bool×qa×qa×Int×Bool×Bool×Unit))
def y6z (f:q8q):LEnt:=⟨w4y,w8o,f⟩
abbrev y4g:=qa×Int×qa×Bool×qa×qa×Int×Bool×Bool×Unit→Option (Int×Int×qa×Bool×qa×qa×Int×Bool×Bool×Unit)
def f1d (f:y4g):FEnt:=⟨x1f,q2f,f⟩
def g3u (f125:j7g) (f132:q8p) (f168:z9g) (f93:T93):=lk [(125,g0u f125),(132,v9b f132),(168,f1q f168),(93,E93 f93)]
theorem v4t:zb Tryz.prog (g3u j3k j1i z2s C93):=(kc w9r (kc v6y (kc b0k (kc d6g kn))))
def z3s (f125:j7g) (f132:q8p) (f168:z9g) (f93:T93):yh (List (qa)×Int×Int×Int×qa×Bool×qa×qa×Int×Bool×Bool×List (qa)×Unit) ((Int×qa×Bool×qa×qa×Int×Bool×Bool×Unit)⊕(Int×Int×qa×Bool×qa×qa×Int×Bool×Bool×Unit)):=fun (x0,x1,x2,x3,x4,x5,x6,x7,x8,x9,x10,x11,_)=>bif decide (x2<x1) then bif decide (0≤x2)&&decide (x2<(↑x0.length:Int)) then (f168 (x0.getD x2.toNat [],x3,x4,x5,x6,x7,x8,x9,x10,())).bind fun v=>(f93 (x11,v.1,())).bind fun v1=>bif v1.1 then some (Sum.inr (Sum.inr (501,x3,x4,x5,x6,x7,x8,x9,x10,()))) else bif v.2.1 != 0 then some (Sum.inr (Sum.inr (v.2.1,x3,x4,x5,x6,x7,x8,x9,x10,()))) else bif decide (x11.length+[v.1].length≤140737488355328/16) then some (Sum.inl (x0,x1,IntKind.i64.wrap (x2+1),v.2.2.1,v.2.2.2.1,v.2.2.2.2.1,v.2.2.2.2.2.1,v.2.2.2.2.2.2.1,v.2.2.2.2.2.2.2.1,v.2.2.2.2.2.2.2.2.1,v.2.2.2.2.2.2.2.2.2.1,x11++[v.1],())) else none else none else some (Sum.inr (Sum.inl (x3,x4,x5,x6,x7,x8,x9,x10,())))
theorem k4x (f125:j7g) (f132:q8p) (f168:z9g) (f93:T93):AqL (g3u f125 f132 f168 f93) 1 (qe (code Tryz.f134) [1,1,1,1,0,1,0,0]) .nil w4y w8o (z3s f125 f132 f168 f93):=fun v=>by kernel_rfl
def z2o:q8q:=qc (z3s j3k j1i z2s C93) jc
theorem k6w:jf 1 (qe (code Tryz.f134) [1,1,1,1,0,1,0,0]) (y6z z2o) :=
 frl v4t (k4x j3k j1i z2s C93)
def b7h (f134_l0:q8q):Ann:=(.seq .nil (.seq .nil (.seq .nil (.seq .nil (.seq (.seq .nil (.blk (.loop (y6z f134_l0)))) .nil)))))
def g2a (f125:j7g) (f132:q8p) (f168:z9g) (f93:T93) (f134_l0:q8q):y4g:=fun (x0,x1,x2,x3,x4,x5,x6,x7,x8,_)=>(f132 (x0,[32],())).bind fun v=>bif !v.2.1 then some (501,x1,x2,x3,x4,x5,x6,x7,x8,()) else (f125 (v.1,[32],())).bind fun v=>(f134_l0 (v.1,(↑(List.length v.1):Int),0,x1,x2,x3,x4,x5,x6,x7,x8,[],())).bind fun v=>Sum.elim (fun v=>some (0,v.1,v.2.1,v.2.2.1,v.2.2.2.1,v.2.2.2.2.1,v.2.2.2.2.2.1,v.2.2.2.2.2.2.1,v.2.2.2.2.2.2.2.1,())) (fun v=>some (v.1,v.2.1,v.2.2.1,v.2.2.2.1,v.2.2.2.2.1,v.2.2.2.2.2.1,v.2.2.2.2.2.2.1,v.2.2.2.2.2.2.2.1,v.2.2.2.2.2.2.2.2.1,())) v
theorem d3a (f125:j7g) (f132:q8p) (f168:z9g) (f93:T93) (f134_l0:q8q):zw (g3u f125 f132 f168 f93) 1 Tryz.f134 (b7h f134_l0) x1f q2f (g2a f125 f132 f168 f93 f134_l0):=fun v=>by kernel_rfl
def z2n:y4g:=g2a j3k j1i z2s C93 z2o
theorem f9w:FO 134 (f1d z2n) :=
 qo v4t Tryz.func134 (And.intro k6w trivial) (d3a j3k j1i z2s C93 z2o)
abbrev j2e:=qa×Int×Int×qa×Bool×qa×qa×Int×Bool×Bool×Unit→Option (Int×Int×qa×Bool×qa×qa×Int×Bool×Bool×Unit)
def v0y (f:j2e):LEnt:=⟨w4z,w8p,f⟩
abbrev T99:=qq×qu×qv×qa×Int×qa×Bool×qa×qa×Int×Bool×Bool×Unit→Option (Int×Int×qa×Bool×qa×qa×Int×Bool×Bool×Unit)
def E99 (f:T99):FEnt:=⟨q5p,q2f,f⟩
def K99 (f133:j9y) (f134:y4g) (f21:T21):=lk [(133,g0w f133),(134,f1d f134),(21,E21 f21)]
theorem w9j:zb Tryz.prog (K99 j6l z2n C21):=(kc w9u (kc f9w (kc v7d kn)))
def y3y (f133:j9y) (f134:y4g) (f21:T21):j2e:=fun (x0,x1,x2,x3,x4,x5,x6,x7,x8,x9,_)=>bif x1==0 then bif !x9 then (f21 (x0,())).bind fun v=>bif decide (v.1≥0) then some (553,x2,x3,x4,x5,x6,x7,x8,x9,()) else some (x1,x2,x3,x4,x5,x6,x7,x8,x9,()) else some (x1,x2,x3,x4,x5,x6,x7,x8,x9,()) else some (x1,x2,x3,x4,x5,x6,x7,x8,x9,())
def q2q:j2e:=y3y j6l z2n C21
theorem g9f:jy 1 (qe (code Tryz.f99) [1,1,1]) (v0y q2q):=zc3 w4z w8p K99 y3y j6l z2n C21 w9j
def N99 (f99_c0:j2e):Ann:=(.seq .nil (.seq .nil (.cut .nil (v0y f99_c0))))
def F99 (f133:j9y) (f134:y4g) (f21:T21) (f99_c0:j2e):T99:=fun (x0,x1,x2,x3,x4,x5,x6,x7,x8,x9,x10,x11,_)=>(f133 (x0,x1,x2,x3,[32,70,82,79,77,58],x4,x5,x6,x7,x8,x9,x10,x11,())).bind fun v=>bif v.2.2.1==0 then bif !v.2.1==[] then (f134 (v.2.1,v.2.2.2.1,v.2.2.2.2.1,v.2.2.2.2.2.1,v.2.2.2.2.2.2.1,v.2.2.2.2.2.2.2.1,v.2.2.2.2.2.2.2.2.1,v.2.2.2.2.2.2.2.2.2.1,v.2.2.2.2.2.2.2.2.2.2.1,())).bind fun v1=>(f99_c0 (v.1,v1.1,v1.2.1,v1.2.2.1,v1.2.2.2.1,v1.2.2.2.2.1,v1.2.2.2.2.2.1,v1.2.2.2.2.2.2.1,v1.2.2.2.2.2.2.2.1,v1.2.2.2.2.2.2.2.2.1,())).bind fun v=>some (v.1,v.2.1,v.2.2.1,v.2.2.2.1,v.2.2.2.2.1,v.2.2.2.2.2.1,v.2.2.2.2.2.2.1,v.2.2.2.2.2.2.2.1,v.2.2.2.2.2.2.2.2.1,()) else (f99_c0 (v.1,v.2.2.1,v.2.2.2.1,v.2.2.2.2.1,v.2.2.2.2.2.1,v.2.2.2.2.2.2.1,v.2.2.2.2.2.2.2.1,v.2.2.2.2.2.2.2.2.1,v.2.2.2.2.2.2.2.2.2.1,v.2.2.2.2.2.2.2.2.2.2.1,())).bind fun v=>some (v.1,v.2.1,v.2.2.1,v.2.2.2.1,v.2.2.2.2.1,v.2.2.2.2.2.1,v.2.2.2.2.2.2.1,v.2.2.2.2.2.2.2.1,v.2.2.2.2.2.2.2.2.1,()) else (f99_c0 (v.1,v.2.2.1,v.2.2.2.1,v.2.2.2.2.1,v.2.2.2.2.2.1,v.2.2.2.2.2.2.1,v.2.2.2.2.2.2.2.1,v.2.2.2.2.2.2.2.2.1,v.2.2.2.2.2.2.2.2.2.1,v.2.2.2.2.2.2.2.2.2.2.1,())).bind fun v=>some (v.1,v.2.1,v.2.2.1,v.2.2.2.1,v.2.2.2.2.1,v.2.2.2.2.2.1,v.2.2.2.2.2.2.1,v.2.2.2.2.2.2.2.1,v.2.2.2.2.2.2.2.2.1,())
theorem h99 (f133:j9y) (f134:y4g) (f21:T21) (f99_c0:j2e):zw (K99 f133 f134 f21) 1 Tryz.f99 (N99 f99_c0) q5p q2f (F99 f133 f134 f21 f99_c0):=fun v=>by kernel_rfl
def C99:T99:=F99 j6l z2n C21 q2q
theorem d6j:FO 99 (E99 C99) :=
 qo w9j Tryz.func99 (And.intro g9f trivial) (h99 j6l z2n C21 q2q)
abbrev x4w:=qq×qu×qv×qa×Int×qa×Bool×qa×qa×Int×Bool×Bool×Unit→Option (Int×Int×qa×Bool×qa×qa×Int×Bool×Bool×Unit)
def f0o (f:x4w):FEnt:=⟨q5p,q2f,f⟩
def b4l (f133:j9y):=lk [(133,g0w f133)]
def g1t (f133:j9y):x4w:=fun (x0,x1,x2,x3,x4,x5,x6,x7,x8,x9,x10,x11,_)=>(f133 (x0,x1,x2,x3,[32,84,79,58],x4,x5,x6,x7,x8,x9,x10,x11,())).bind fun v=>bif v.2.2.1==0 then bif !v.2.1==[] then some (555,v.2.2.2.1,v.2.2.2.2.1,v.2.2.2.2.2.1,v.2.2.2.2.2.2.1,v.2.2.2.2.2.2.2.1,v.2.2.2.2.2.2.2.2.1,v.2.2.2.2.2.2.2.2.2.1,v.2.2.2.2.2.2.2.2.2.2.1,()) else some (v.2.2.1,v.2.2.2.1,v.2.2.2.2.1,v.2.2.2.2.2.1,v.2.2.2.2.2.2.1,v.2.2.2.2.2.2.2.1,v.2.2.2.2.2.2.2.2.1,v.2.2.2.2.2.2.2.2.2.1,v.2.2.2.2.2.2.2.2.2.2.1,()) else some (v.2.2.1,v.2.2.2.1,v.2.2.2.2.1,v.2.2.2.2.2.1,v.2.2.2.2.2.2.1,v.2.2.2.2.2.2.2.1,v.2.2.2.2.2.2.2.2.1,v.2.2.2.2.2.2.2.2.2.1,v.2.2.2.2.2.2.2.2.2.2.1,())
theorem d2r (f133:j9y):zw (b4l f133) 1 Tryz.f100 .nil q5p q2f (g1t f133):=fun v=>by kernel_rfl
def x3x:x4w:=g1t j6l
theorem f9i:FO 100 (f0o x3x) :=
 q0 (kc w9u kn) Tryz.func100 (d2r j6l)
abbrev x4x:=qq×qu×qv×qa×Int×qa×Bool×qa×qa×Int×Bool×Bool×Unit→Option (Int×Int×qa×Bool×qa×qa×Int×Bool×Bool×Unit)
def f0p (f:x4x):FEnt:=⟨q5p,q2f,f⟩
def g1u:x4x:=fun (x0,x1,x2,x3,x4,x5,x6,x7,x8,x9,x10,x11,_)=>bif !x3==[] then some (501,x4,x5,x6,x7,x8,x9,x10,x11,()) else some (0,x4,x5,x6,x7,x8,x9,x10,x11,())
theorem d2s:zw yp 1 Tryz.f101 .nil q5p q2f (g1u):=fun v=>by kernel_rfl
def x3y:x4x:=g1u
theorem f9j:FO 101 (f0p x3y) :=
 q0 kn Tryz.func101 (d2s)
abbrev x4y:=qq×qu×qv×qa×Int×qa×Bool×qa×qa×Int×Bool×Bool×Unit→Option (Int×Int×qa×Bool×qa×qa×Int×Bool×Bool×Unit)
def f0q (f:x4y):FEnt:=⟨q5p,q2f,f⟩
def g1v:x4y:=fun (x0,x1,x2,x3,x4,x5,x6,x7,x8,x9,x10,x11,_)=>some (0,x4,x5,x6,x7,x8,x9,x10,x11,())
theorem d2t:zw yp 1 Tryz.f102 .nil q5p q2f (g1v):=fun v=>by kernel_rfl
def x3z:x4y:=g1v
theorem f9k:FO 102 (f0q x3z) :=
 q0 kn Tryz.func102 (d2t)
abbrev T24:=qq×qu×qv×qa×Unit→Option (Int×qa×Bool×qa×qa×Int×Bool×Bool×Int×Unit)
def E24 (f:T24):FEnt:=⟨ki,w8q,f⟩
def K24 (f100:x4w) (f101:x4x) (f102:x4y) (f61:T61) (f62:T62) (f98:T98) (f99:T99):=lk [(100,f0o f100),(101,f0p f101),(102,f0q f102),(61,E61 f61),(62,E62 f62),(98,E98 f98),(99,E99 f99)]
def F24 (f100:x4w) (f101:x4x) (f102:x4y) (f61:T61) (f62:T62) (f98:T98) (f99:T99):T24:=fun (x0,x1,x2,x3,_)=>(f61 (x3,())).bind fun v=>bif decide ((↑x3.length:Int)>510) then some (0,[],false,[],[],-1,false,false,500,()) else bif decide (v.1<0) then some (0,[],false,[],[],-1,false,false,500,()) else (f62 ()).bind fun v1=>bif decide (v.1=(↑0:Int)) then bif decide (4≤(↑x3.length:Int)) then (f98 (x0,x1,x2,List.drop 4 x3,v.1,[],false,[],[],-1,false,false,())).bind fun v=>bif v.1 != 0 then some (0,[],false,[],[],-1,false,false,v.1,()) else some (v.2.1,v.2.2.1,v.2.2.2.1,v.2.2.2.2.1,v.2.2.2.2.2.1,v.2.2.2.2.2.2.1,v.2.2.2.2.2.2.2.1,v.2.2.2.2.2.2.2.2.1,0,()) else none else bif decide (v.1=(↑1:Int)) then bif decide (4≤(↑x3.length:Int)) then (f98 (x0,x1,x2,List.drop 4 x3,v.1,[],false,[],[],-1,false,false,())).bind fun v=>bif v.1 != 0 then some (0,[],false,[],[],-1,false,false,v.1,()) else some (v.2.1,v.2.2.1,v.2.2.2.1,v.2.2.2.2.1,v.2.2.2.2.2.1,v.2.2.2.2.2.2.1,v.2.2.2.2.2.2.2.1,v.2.2.2.2.2.2.2.2.1,0,()) else none else bif decide (v.1=(↑2:Int)) then bif decide (4≤(↑x3.length:Int)) then (f99 (x0,x1,x2,List.drop 4 x3,v.1,[],false,[],[],-1,false,false,())).bind fun v=>bif v.1 != 0 then some (0,[],false,[],[],-1,false,false,v.1,()) else some (v.2.1,v.2.2.1,v.2.2.2.1,v.2.2.2.2.1,v.2.2.2.2.2.1,v.2.2.2.2.2.2.1,v.2.2.2.2.2.2.2.1,v.2.2.2.2.2.2.2.2.1,0,()) else none else bif decide (v.1=(↑3:Int)) then bif decide (4≤(↑x3.length:Int)) then (f100 (x0,x1,x2,List.drop 4 x3,v.1,[],false,[],[],-1,false,false,())).bind fun v=>bif v.1 != 0 then some (0,[],false,[],[],-1,false,false,v.1,()) else some (v.2.1,v.2.2.1,v.2.2.2.1,v.2.2.2.2.1,v.2.2.2.2.2.1,v.2.2.2.2.2.2.1,v.2.2.2.2.2.2.2.1,v.2.2.2.2.2.2.2.2.1,0,()) else none else bif decide (v.1=(↑4:Int)) then bif decide (4≤(↑x3.length:Int)) then (f101 (x0,x1,x2,List.drop 4 x3,v.1,[],false,[],[],-1,false,false,())).bind fun v=>bif v.1 != 0 then some (0,[],false,[],[],-1,false,false,v.1,()) else some (v.2.1,v.2.2.1,v.2.2.2.1,v.2.2.2.2.1,v.2.2.2.2.2.1,v.2.2.2.2.2.2.1,v.2.2.2.2.2.2.2.1,v.2.2.2.2.2.2.2.2.1,0,()) else none else bif decide (v.1=(↑5:Int)) then bif decide (4≤(↑x3.length:Int)) then (f101 (x0,x1,x2,List.drop 4 x3,v.1,[],false,[],[],-1,false,false,())).bind fun v=>bif v.1 != 0 then some (0,[],false,[],[],-1,false,false,v.1,()) else some (v.2.1,v.2.2.1,v.2.2.2.1,v.2.2.2.2.1,v.2.2.2.2.2.1,v.2.2.2.2.2.2.1,v.2.2.2.2.2.2.2.1,v.2.2.2.2.2.2.2.2.1,0,()) else none else bif decide (v.1=(↑6:Int)) then bif decide (4≤(↑x3.length:Int)) then (f102 (x0,x1,x2,List.drop 4 x3,v.1,[],false,[],[],-1,false,false,())).bind fun v=>bif v.1 != 0 then some (0,[],false,[],[],-1,false,false,v.1,()) else some (v.2.1,v.2.2.1,v.2.2.2.1,v.2.2.2.2.1,v.2.2.2.2.2.1,v.2.2.2.2.2.2.1,v.2.2.2.2.2.2.2.1,v.2.2.2.2.2.2.2.2.1,0,()) else none else bif decide (v.1=(↑7:Int)) then bif decide (4≤(↑x3.length:Int)) then (f101 (x0,x1,x2,List.drop 4 x3,v.1,[],false,[],[],-1,false,false,())).bind fun v=>bif v.1 != 0 then some (0,[],false,[],[],-1,false,false,v.1,()) else some (v.2.1,v.2.2.1,v.2.2.2.1,v.2.2.2.2.1,v.2.2.2.2.2.1,v.2.2.2.2.2.2.1,v.2.2.2.2.2.2.2.1,v.2.2.2.2.2.2.2.2.1,0,()) else none else none
theorem h24 (f100:x4w) (f101:x4x) (f102:x4y) (f61:T61) (f62:T62) (f98:T98) (f99:T99):zw (K24 f100 f101 f102 f61 f62 f98 f99) 0 Tryz.f24 .nil ki w8q (F24 f100 f101 f102 f61 f62 f98 f99):=fun v=>by kernel_rfl
def C24:T24:=F24 x3x x3y x3z C61 C62 C98 C99
theorem b1j:FO 24 (E24 C24) :=
 q0 (kc f9i (kc f9j (kc f9k (kc d5r (kc d5s (kc d6i (kc d6j kn))))))) Tryz.func24 (h24 x3x x3y x3z C61 C62 C98 C99)
abbrev T60:=Int×Unit→Option (qa×Unit)
def E60 (f:T60):FEnt:=⟨x0l,q6e,f⟩
def F60:T60:=fun (x0,_)=>bif decide (x0<0) then some ([],()) else bif decide (x0≥8) then some ([],()) else bif decide (x0=(↑0:Int)) then some (yb.1,()) else bif decide (x0=(↑1:Int)) then some (yb.2.1,()) else bif decide (x0=(↑2:Int)) then some (yb.2.2.1,()) else bif decide (x0=(↑3:Int)) then some (yb.2.2.2.1,()) else bif decide (x0=(↑4:Int)) then some (yb.2.2.2.2.1,()) else bif decide (x0=(↑5:Int)) then some (yb.2.2.2.2.2.1,()) else bif decide (x0=(↑6:Int)) then some (yb.2.2.2.2.2.2.1,()) else bif decide (x0=(↑7:Int)) then some (yb.2.2.2.2.2.2.2,()) else none
def C60:T60:=F60
theorem b3s:FO 60 (E60 C60):=zq0 x0l q6e yp F60 kn Tryz.func60
abbrev j1x:=qa×Int×qa×Bool×qa×qa×Int×Bool×Bool×Unit→Option (qa×Unit)
def v0e (f:j1x):LEnt:=⟨w5b,w8r,f⟩
abbrev j1y:=qa×Int×Bool×Int×qa×Bool×qa×qa×Int×Bool×Bool×Unit→Option ((qa×Unit)⊕(qa×Unit))
def v0f (f:j1y):LEnt:=⟨w5c,w8s,f⟩
abbrev T27:=Int×qa×Bool×qa×qa×Int×Bool×Bool×Unit→Option (qa×Unit)
def E27 (f:T27):FEnt:=⟨w5a,q6e,f⟩
def K27 (f22:T22) (f60:T60) (f65:T65):=lk [(22,E22 f22),(60,E60 f60),(65,E65 f65)]
theorem v5f:zb Tryz.prog (K27 C22 C60 C65):=(kc d5g (kc b3s (kc d5v kn)))
def v1m (f22:T22) (f60:T60) (f65:T65):j1x:=fun (x0,x1,x2,x3,x4,x5,x6,x7,x8,_)=>bif x7 then bif decide (x0.length+[32,66,79,68,89,61,56,66,73,84,77,73,77,69].length≤9223372036854775807) then bif x8 then bif decide ((x0++[32,66,79,68,89,61,56,66,73,84,77,73,77,69]).length+[32,83,77,84,80,85,84,70,56].length≤9223372036854775807) then some (x0++[32,66,79,68,89,61,56,66,73,84,77,73,77,69]++[32,83,77,84,80,85,84,70,56],()) else none else some (x0++[32,66,79,68,89,61,56,66,73,84,77,73,77,69],()) else none else bif x8 then bif decide (x0.length+[32,83,77,84,80,85,84,70,56].length≤9223372036854775807) then some (x0++[32,83,77,84,80,85,84,70,56],()) else none else some (x0,())
def y3f:j1x:=v1m C22 C60 C65
theorem g8n:jy 0 (qe (code Tryz.f27) [1,1,0,1,0,1,1,1,1,1,0,1,1]) (v0e y3f):=zc3 w5b w8r K27 v1m C22 C60 C65 v5f
def g5b (f27_c0:j1x):Ann:=(.cond .nil (.seq .nil (.cond .nil (.seq .nil (.cond (.seq .nil (.cut .nil (v0e f27_c0))) .nil)))))
def v1n (f22:T22) (f60:T60) (f65:T65) (f27_c0:j1x):j1y:=fun (x0,x1,x2,x3,x4,x5,x6,x7,x8,x9,x10,_)=>bif x2 then bif decide (x0.length+[32].length≤9223372036854775807) then bif decide ((x0++[32]).length+x4.length≤9223372036854775807) then some (Sum.inl (x0++[32]++x4,())) else none else none else bif x1==3 then bif decide (x0.length+[32,84,79,58].length≤9223372036854775807) then (f22 (x5,x6,x7,())).bind fun v=>bif decide ((x0++[32,84,79,58]).length+List.length v.1≤9223372036854775807) then some (Sum.inl (x0++[32,84,79,58]++v.1,())) else none else none else bif x1==2 then (f22 (x5,x6,x7,())).bind fun v=>bif decide ([32,70,82,79,77,58].length+List.length v.1≤9223372036854775807) then bif decide (x0.length+([32,70,82,79,77,58]++v.1).length≤9223372036854775807) then bif decide (x8≥0) then (f65 (x8,())).bind fun v1=>bif decide ([32,83,73,90,69,61].length+List.length v1.1≤9223372036854775807) then bif decide ((x0++([32,70,82,79,77,58]++v.1)).length+([32,83,73,90,69,61]++v1.1).length≤9223372036854775807) then (f27_c0 (x0++([32,70,82,79,77,58]++v.1)++([32,83,73,90,69,61]++v1.1),x3,x4,x5,x6,x7,x8,x9,x10,())).bind fun v=>some (Sum.inr (v.1,())) else none else none else (f27_c0 (x0++([32,70,82,79,77,58]++v.1),x3,x4,x5,x6,x7,x8,x9,x10,())).bind fun v=>some (Sum.inr (v.1,())) else none else none else some (Sum.inr (x0,()))
theorem g8b (f22:T22) (f60:T60) (f65:T65) (f27_c0:j1x):AqC (K27 f22 f60 f65) 0 (qe (code Tryz.f27) [1,1,0,1,0,1]) (g5b f27_c0) w5c w8s (v1n f22 f60 f65 f27_c0):=fun v=>by kernel_rfl
def y3g:j1y:=v1n C22 C60 C65 y3f
theorem g8o:jy 0 (qe (code Tryz.f27) [1,1,0,1,0,1]) (v0f y3g) :=
 frd v5f (And.intro g8n trivial) (g8b C22 C60 C65 y3f)
def N27 (f27_c1:j1y):Ann:=(.seq .nil (.seq .nil (.seq (.seq .nil (.blk (.cut .nil (v0f f27_c1)))) .nil)))
def F27 (f22:T22) (f60:T60) (f65:T65) (f27_c1:j1y):T27:=fun (x0,x1,x2,x3,x4,x5,x6,x7,_)=>(f60 (x0,())).bind fun v=>bif x0==0 then (f27_c1 (v.1,x0,true,x0,x1,x2,x3,x4,x5,x6,x7,())).bind fun v=>Sum.elim (fun v=>some (v.1,())) (fun v=>some (v.1,())) v else (f27_c1 (v.1,x0,x0==1,x0,x1,x2,x3,x4,x5,x6,x7,())).bind fun v=>Sum.elim (fun v=>some (v.1,())) (fun v=>some (v.1,())) v
theorem h27 (f22:T22) (f60:T60) (f65:T65) (f27_c1:j1y):zw (K27 f22 f60 f65) 0 Tryz.f27 (N27 f27_c1) w5a q6e (F27 f22 f60 f65 f27_c1):=fun v=>by kernel_rfl
def C27:T27:=F27 C22 C60 C65 y3g
theorem d5i:FO 27 (E27 C27) :=
 qo v5f Tryz.func27 (And.intro g8o trivial) (h27 C22 C60 C65 y3g)
abbrev j7s:=Bool×Int×Bool×qq×qu×qv×Int×qa×Bool×qa×qa×Int×Bool×Bool×Unit→Option ((Bool×Unit)⊕Unit)
def v0i (f:j7s):LEnt:=⟨w5e,w8t,f⟩
abbrev T28:=qq×qu×qv×Int×qa×Bool×qa×qa×Int×Bool×Bool×Unit→Option (Bool×Unit)
def E28 (f:T28):FEnt:=⟨w5d,qw,f⟩
def K28 (f20:T20) (f66:T66):=lk [(20,E20 f20),(66,E66 f66)]
theorem w9d:zb Tryz.prog (K28 C20 C66):=(kc d5f (kc b3t kn))
def v1o (f20:T20) (f66:T66):j7s:=fun (x0,x1,x2,x3,x4,x5,x6,x7,x8,x9,x10,x11,x12,x13,_)=>bif x2 then (f66 (x7,())).bind fun v=>bif v.1 then some (Sum.inl (bif x6==x6 then bif x7==x7 then bif x8==false&&(x9==[]&&(x10==[]&&true)&&true) then bif x11 == -1 then bif x12==false then bif x13==false then true else false else false else false else false else false else false,())) else some (Sum.inl (false,())) else bif x1==2 then bif x7==[] then bif decide (x11 ≥ -1) then bif decide (x11≤16777216) then (f20 (x3,x4,x5,x8,x9,x10,())).bind fun v=>some (Sum.inl (v.1==0,())) else some (Sum.inl (false,())) else some (Sum.inl (false,())) else some (Sum.inl (false,())) else bif x1==3 then bif x6==x6&&(x7==[]&&(x8==x8&&(x9==x9&&(x10==x10&&true)&&true)&&(x11 == -1&&(x12==false&&(x13==false&&true))))) then bif !x8 then (f20 (x3,x4,x5,x8,x9,x10,())).bind fun v=>some (Sum.inl (v.1==0,())) else some (Sum.inl (false,())) else some (Sum.inl (false,())) else bif x1==4 then some (Sum.inl (x0,())) else bif x1==5 then some (Sum.inl (x0,())) else bif x1==6 then some (Sum.inl (x0,())) else bif x1==7 then some (Sum.inl (x0,())) else some (Sum.inr ())
def y3h:j7s:=v1o C20 C66
theorem g8p:jy 0 (qe (code Tryz.f28) [1,1,0,1,0,1]) (v0i y3h):=zc2 w5e w8t K28 v1o C20 C66 w9d
def N28 (f28_c0:j7s):Ann:=(.seq .nil (.seq .nil (.seq (.seq .nil (.blk (.cut .nil (v0i f28_c0)))) .nil)))
def F28 (f20:T20) (f66:T66) (f28_c0:j7s):T28:=fun (x0,x1,x2,x3,x4,x5,x6,x7,x8,x9,x10,_)=>bif x3==0 then (f28_c0 (x3==x3&&(x4==[]&&(x5==false&&(x6==[]&&(x7==[]&&true)&&true)&&(x8 == -1&&(x9==false&&(x10==false&&true))))),x3,true,x0,x1,x2,x3,x4,x5,x6,x7,x8,x9,x10,())).bind fun v=>Sum.elim (fun v=>some (v.1,())) (fun v=>some (false,())) v else (f28_c0 (x3==x3&&(x4==[]&&(x5==false&&(x6==[]&&(x7==[]&&true)&&true)&&(x8 == -1&&(x9==false&&(x10==false&&true))))),x3,x3==1,x0,x1,x2,x3,x4,x5,x6,x7,x8,x9,x10,())).bind fun v=>Sum.elim (fun v=>some (v.1,())) (fun v=>some (false,())) v
def C28:T28:=F28 C20 C66 y3h
theorem d5j:FO 28 (E28 C28):=q5y w5d qw K28 N28 F28 C20 C66 y3h w9d Tryz.func28 (And.intro g8p trivial)
abbrev T23:=Unit→Option (Bool×Unit)
def E23 (f:T23):FEnt:=⟨Li7,qw,f⟩
def K23 (f18:T18) (f24:T24) (f27:T27) (f28:T28) (f60:T60):=lk [(18,E18 f18),(24,E24 f24),(27,E27 f27),(28,E28 f28),(60,E60 f60)]
def C23:T23:=fun _=>some (true,())
theorem h23:y4p Γ (K23 C18 C24 C27 C28 C60) 0 Tryz.f23.ntmps Tryz.f23.results.toList (code Tryz.f23) .nil (em id Li7 ()).1 (em id Li7 ()).2 (j8z 0 qw)=some (true,()):=by kernel_rfl
theorem d5h:FO 23 (E23 C23) :=
 q0 (kc b0m (kc b1j (kc d5i (kc d5j (kc b3s kn))))) Tryz.func23 (fun v=>h23)
def ix (s:List UInt8) (k:UInt8):Int:=Lib.indexByte s k
theorem x2i (s:List UInt8) (k:UInt8) : -1≤ix s k∧ix s k<s.length:=⟨Lib.indexByte_ge s k,q1o k s⟩
theorem toB (k:UInt8):((k.toNat:Int)).toNat.toUInt8=k:=by
 rw [Int.toNat_natCast];exact UInt8.ofNat_toNat
theorem b9n (s:List UInt8) (k:UInt8):j1n (s,(k.toNat:Int),())=some (ix s k,()):=by
 show v1h v8r _=_;simp only [v1h];show (some (Lib.indexByte s ((k.toNat:Int)).toNat.toUInt8,())).bind _=_;rw [toB];rfl
theorem f7k (s:List UInt8) (k:UInt8):z2x (s,[k],())=some (ix s k,()):=by
 have h0:∀b,(b=true→ix s k=0)→q1c (s,[k],1,b,())=some (ix s k,()):=by
  intro b hb;show q8k j1n _=_;simp only [q8k];cases b with
  | true=>rw [hb rfl];rfl
  | false =>
   simp only [cond_false,List.getD_cons_zero,b9n,Option.bind_some];rfl
 show v1k j1n q1c _=_;simp only [v1k,List.length_cons,List.length_nil];rw [show ((((0+1:Nat):Int))==0)=false from rfl];simp only [cond_false];rw [show (((0+1:Nat):Int))=1 from rfl,h0 _ (fun h => ?_)]
 · rfl
 · have:=eq_of_beq h
   rw [←this];simp [ix,Lib.indexByte]
theorem b9o (s:List UInt8) (k:UInt8):q2l (s,[k],())=some (ix s k,()):=by
 show v9x z2x _=_;simp only [v9x,f7k,Option.bind_some]
theorem x2h (c:UInt8) (s:List UInt8) (k:UInt8):ix (c::s) k=if c==k then 0 else if ix s k == -1 then -1 else ix s k+1:=rfl
def sel (s:List UInt8) (k:UInt8):List UInt8×List UInt8×Bool:=if 0≤ix s k then (s.take (ix s k).toNat,s.drop ((ix s k).toNat+1),true) else (s,[],false)
theorem b9l (s:List UInt8) (k:UInt8) (hs:s.length≤1000000):j1h (s,[k],())=some ((sel s k).1,(sel s k).2.1,(sel s k).2.2,()):=by
 have hl:=x2i s k;have h:x4e (s,[k],())=some ((sel s k).1,(sel s k).2.1,(sel s k).2.2,()):=by
  show v1i z2x _=_;simp only [v1i,f7k,Option.bind_some,List.length_cons,List.length_nil];unfold sel;by_cases h0:0≤ix s k
  · have hw:=qk (n:=ix s k+((0+1:Nat):Int)) (by omega)
    simp only [hw];rw [decide_eq_true (show ix s k≥0 by omega),if_pos h0,decide_eq_true (by omega),decide_eq_true (by omega),decide_eq_true (by omega)];simp only [Bool.and_self,cond_true];rw [show (ix s k+((0+1:Nat):Int)).toNat=(ix s k).toNat+1 by omega]
  · rw [decide_eq_false (by omega),if_neg h0]
    rfl
 show v1b x4e _=_;simp only [v1b,h,Option.bind_some]
def spl (k:UInt8):List UInt8→List (List UInt8)
 | []=>[[]]
 | c::r=>bif c==k then []::spl k r else match spl k r with
  | []=>[[c]]
  | p::q=>(c::p)::q
theorem y6k (k:UInt8) (s:List UInt8):∃p q,spl k s=p::q:=by
 cases s with
 | nil=>exact ⟨_,_,rfl⟩
 | cons c r =>
  unfold spl;cases c==k
  · cases spl k r<;>exact ⟨_,_,rfl⟩
  · exact ⟨_,_,rfl⟩
theorem y2m {k:UInt8}:∀{s:List UInt8},ix s k<0→spl k s=[s]
 | [],_=>rfl
 | c::r,h=>by
  rw [x2h] at h;cases hc:c==k
  · rw [hc] at h
    by_cases hr:ix r k = -1
    · have ih:=y2m (s:=r) (k:=k) (by omega)
      unfold spl;rw [hc,ih];rfl
    · have:=x2i r k
      rw [if_neg (by decide),if_neg (by simpa using hr)] at h;omega
  · rw [hc,if_pos rfl] at h;omega
theorem y2n {k:UInt8}:∀{s:List UInt8},0≤ix s k→spl k s=s.take (ix s k).toNat::spl k (s.drop ((ix s k).toNat+1))
 | [],h=>by exact absurd h (show ¬(0:Int) ≤ -1 by decide)
 | c::r,h=>by
  rw [x2h] at h ⊢;cases hc:c==k
  · rw [hc] at h
    have hl:=x2i r k;by_cases hr:ix r k = -1
    · rw [if_neg (by decide),if_pos (by simpa using hr)] at h
      omega
    · rw [if_neg (by decide),if_neg (by simpa using hr)]
      have ih:=y2n (s:=r) (k:=k) (by omega);rw [show (ix r k+1).toNat=(ix r k).toNat+1 by omega];conv=>lhs;unfold spl
      rw [hc,ih];rfl
  · rw [if_pos rfl]
    conv=>lhs;unfold spl
    rw [hc];rfl
theorem z7y (k:UInt8):∀s:List UInt8,(spl k s).length=s.count k+1
 | []=>rfl
 | c::r=>by
  have ih:=z7y k r;obtain ⟨p,q,e⟩:=y6k k r;rw [List.count_cons];unfold spl;cases hc:c==k
  · rw [e] at ih ⊢
    simpa using ih
  · simp only [cond_true,List.length_cons,ih,if_pos]
theorem j3i {α:Type} (l:List α) (i:Nat) (x:α):(l.set i x).take i=l.take i:=by
 induction l generalizing i with
 | nil=>rfl
 | cons a l ih=>cases i with
  | zero=>rfl
  | succ i=>simp [ih]
theorem f8w (k:UInt8) (m:Nat) (hm:m≤1000000):∀(j:Nat) (s:List UInt8) (i n:Nat) (rows:List (List UInt8)),(spl k s).length=j+1→i+j=m→j<n→rows.length=m+1→s.length≤1000000 →
 ∃s' rows',qc (q8j j6n j1o q2l) n (s,[k],0,(m:Int),(i:Int),rows,())=some (s',(m:Int),rows',())∧rows'.length=m+1∧rows'.take m++[s']=rows.take i++spl k s
 | j,s,i,n+1,rows,hj,hi,hn,hr,hs=>by
  have hl:=x2i s k;by_cases h0:0≤ix s k
  · have e:=y2n h0
    obtain ⟨p,q,e2⟩:=y6k k (s.drop ((ix s k).toNat+1));have hj1:1≤j:=by
     rw [e,e2] at hj;simp only [List.length_cons] at hj;omega
    obtain ⟨j,rfl⟩:∃j',j=j'+1:=⟨j-1,by omega⟩
    rw [e,List.length_cons] at hj;obtain ⟨s',rows',e3,e4,e5⟩:=f8w k m hm j (s.drop ((ix s k).toNat+1)) (i+1) n (rows.set i (s.take (ix s k).toNat)) (by omega) (by omega) (by omega) (by rw [List.length_set];exact hr) (by simp only [List.length_drop];omega);refine ⟨s',rows',?_,e4,?_⟩
    · rw [ql (v':=(s.drop ((ix s k).toNat+1),[k],0,(m:Int),((i+1:Nat):Int),rows.set i (s.take (ix s k).toNat),())) ?_]
      · exact e3
      · simp only [q8j,b9o,Option.bind_some,List.length_cons,List.length_nil]
        have hw:=qk (n:=ix s k+((0+1:Nat):Int)) (by omega);have hw':=qk (n:=ix s k+0) (by omega);simp only [hw,hw'];rw [decide_eq_true (show (i:Int)<(m:Int) by omega),decide_eq_false (show ¬ix s k<0 by omega)];rw [decide_eq_true (by omega),decide_eq_true (by omega),decide_eq_true (by omega),decide_eq_true (by omega),decide_eq_true (by omega),decide_eq_true (by omega),wrN i (by omega)];rw [show (ix s k+((0+1:Nat):Int)).toNat=(ix s k).toNat+1 by omega,show (ix s k+0).toNat=(ix s k).toNat by omega];rfl
    · rw [e5,e,je (by rw [List.length_set];omega),j3i]
      simp
  · have e:=y2m (s:=s) (k:=k) (by omega)
    rw [e] at hj;simp only [List.length_cons,List.length_nil] at hj;have:j=0:=by omega
    subst this;have:i=m:=by omega
    subst this;refine ⟨s,rows,qd ?_,hr,by rw [e]⟩;simp only [q8j];rw [decide_eq_false (by omega)];rfl
theorem b9m (k:UInt8) (s:List UInt8) (hs:s.length≤1000000):x8k (s,[k],0,-1,())=some (spl k s,()):=by
 have hc:j1o (s,[k],())=some (((Lib.countByte s ((k.toNat:Int)).toNat.toUInt8:Nat):Int),()):=rfl;rw [toB] at hc;have hle:s.count k≤s.length:=List.count_le_length;have hlen:=z7y k s;generalize hm:s.count k=m at hle hlen;have hc':j1o (s,[k],())=some ((m:Int),()):=by rw [hc];unfold Lib.countByte;rw [hm]
 obtain ⟨s',rows',e1,e2,e3⟩:=f8w k m (by omega) m s 0 jc (List.replicate (m+1) []) hlen (by omega) (by unfold jc;omega) (by simp) hs;have hc0:q7p (s,[k],0,((m:Int)+1),())=some (spl k s,()):=by
  show j4y j6n j1o q2l q7q _=_;unfold j4y;dsimp only;rw [qk (n:=(s.length:Int)+1) (by omega)];have hif:(if (s.length:Int)+1<(m:Int)+1 then (s.length:Int)+1 else (m:Int)+1)=((m+1:Nat):Int):=by rw [if_neg (by omega)];omega
  simp only [hif];have hc:(decide (0≤((m+1:Nat):Int))&&(decide True&&(decide ((16:Int)*((m+1:Nat):Int)≤281474976710656)&&decide (((m+1:Nat):Int)≤140737488355328))))=true:=by
   simp only [Bool.and_eq_true,decide_eq_true_eq];exact ⟨by omega,trivial,by omega,by omega⟩
  have hc':(decide (0≤((m+1:Nat):Int))&&(decide True&&(decide (((16:Nat):Int)*((m+1:Nat):Int)≤281474976710656)&&decide (((m+1:Nat):Int)≤140737488355328))))=true:=hc;first|rw [hc]|rw [hc']
  simp only [cond_true,Int.toNat_natCast];rw [qk (n:=((m+1:Nat):Int)-1) (by omega),show ((m+1:Nat):Int)-1=(m:Int) by omega];have e1':q7q (s,[k],0,(m:Int),0,List.replicate (m+1) [],())=some (s',(m:Int),rows',()):=e1;rw [e1'];simp only [Option.bind_some,Int.toNat_natCast,List.length_set,e2];rw [qk (n:=(m:Int)+1) (by omega),decide_eq_true (by omega),decide_eq_true (by omega),decide_eq_true (by omega),decide_eq_true (by omega),show ((m:Int)+1).toNat=m+1 by omega];rw [je (by rw [List.length_set];omega),j3i];rw [List.getElem_set_self,e3];rfl
 show v9r j6n j1o q2l q7p _=_;simp only [v9r,hc',Option.bind_some];rw [qk (n:=(m:Int)+1) (by omega),hc0];rfl
theorem f7d (k:UInt8) (s:List UInt8) (hs:s.length≤1000000):j3k (s,[k],())=some (spl k s,()):=by
 show v9l x8k _=_;simp only [v9l,b9m k s hs,Option.bind_some]
theorem v6c {k:UInt8} (hk:k∈([10,13,32,34,40,41,44,46,58,59,60,61,62,64,91,92,93]:List UInt8)):∀s:List UInt8,spl k (lw s)=(spl k s).map lw
 | []=>rfl
 | c::r=>by
  rw [jx];unfold spl;rw [y1d c hk,v6c hk r];cases c==k
  · cases spl k r<;>rfl
  · rfl
theorem v8a (k:UInt8):∀s:List UInt8,∀p∈spl k s,p.length≤s.length
 | [],p,hp=>by simp [spl] at hp;simp [hp]
 | c::r,p,hp=>by
  have ih:=v8a k r;obtain ⟨p',q,e⟩:=y6k k r;unfold spl at hp;rw [e] at hp ih;cases hc:c==k
  · rw [hc] at hp
    simp only [cond_false,List.mem_cons] at hp;rcases hp with rfl|hp
    · have:=ih p' List.mem_cons_self
      simp only [List.length_cons];omega
    · have:=ih p (List.mem_cons_of_mem _ hp)
      simp only [List.length_cons];omega
  · rw [hc] at hp
    rw [cond_true] at hp;rcases List.mem_cons.1 hp with rfl|hp
    · simp
    · have:=ih p hp
      simp only [List.length_cons];omega
theorem f7e (s:List UInt8) (k:UInt8):j1i (s,[k],())=some (if s.take 1=[k] then (s.drop 1,true,()) else (s,false,())):=by
 have h1:q6a (s,[k],())=some (decide (s.take 1=[k]),()):=by
  show j9u _=_;simp only [j9u,List.length_cons,List.length_nil];cases s with
  | nil=>rfl
  | cons c s =>
   have hl:(((c::s:List UInt8).length:Int))=(s.length:Int)+1:=by simp
   rw [hl,decide_eq_true (show (s.length:Int)+1≥((0+1:Nat):Int) by omega),decide_eq_true (show (0:Int)≤((0+1:Nat):Int) by omega)];show some (((c::s).take 1==[k]),())=_;by_cases h:(c::s).take 1=[k]
   · rw [decide_eq_true h,h,beq_self_eq_true]
   · rw [decide_eq_false h,beq_eq_false_iff_ne.2 h]
 have h2:y2y (s,[k],())=some (if s.take 1=[k] then (s.drop 1,true,()) else (s,false,())):=by
  show v1j q6a _=_;simp only [v1j,h1,Option.bind_some];by_cases h:s.take 1=[k]
  · rw [decide_eq_true h,if_pos h]
    cases s with
    | nil=>cases h
    | cons c s =>
     simp only [Bool.not_true,cond_false,List.length_cons,List.length_nil];rw [decide_eq_true (by omega),decide_eq_true (by omega)];rfl
  · rw [decide_eq_false h,if_neg h];rfl
 show v1c y2y _=_;simp only [v1c,h2,Option.bind_some]
def q5m (s w:List UInt8):Bool:=decide (w.length≤s.length)&&(lw (s.take w.length)==lw w)
theorem c97 (s w:List UInt8) (hs:s.length≤1000000) (hw:w.length≤1000000):C97 (s,w,())=some (bif q5m s w then s.drop w.length else [],q5m s w,()):=by
 show F97 C25 _=_;simp only [F97];unfold q5m;by_cases h:w.length≤s.length
 · rw [decide_eq_false (by omega),decide_eq_true (show w.length≤s.length from h),decide_eq_true (by omega),decide_eq_true (by omega)]
   simp only [cond_false,Bool.and_self,cond_true,Int.toNat_natCast];rw [p25 _ (by simp only [List.length_take];omega),p25 _ hw];simp only [Option.bind_some,Bool.true_and];show (bif !(lw (s.take w.length)==lw w) then _ else _)=_;cases lw (s.take w.length)==lw w<;>rfl
 · rw [decide_eq_true (by omega),decide_eq_false h]
   rfl
theorem v5y (s w:List UInt8):q5m (lw s) w=q5m s w:=by
 unfold q5m;rw [zj,q5h,v6b]
def ep:List UInt8→Bool→Bool→Nat→Nat
 | [],_,_,_=>0
 | c::r,q,sq,p=>bif sq then ep r q (!((c.toNat:Int)==93)) (p+1) else bif (c.toNat:Int)==34 then ep r (!q) sq (p+1)
  else bif q then (bif (c.toNat:Int)==92 then (match r with | []=>0|_::r'=>ep r' q sq (p+2)) else ep r q sq (p+1))
  else bif (c.toNat:Int)==91 then ep r q true (p+1) else bif (c.toNat:Int)==62 then p+1 else ep r q sq (p+1)
def rep (n:Nat):Unit⊕(Int×Unit):=if n=0 then .inl () else .inr ((n:Int),())
theorem g5t (b:Bool):(bif b then false else true) = !b:=by cases b<;>rfl
theorem g9h:∀(m:Nat) (r pre:List UInt8) (q sq:Bool) (p n:Nat),r.length≤m→pre.length=p→r.length<n→p+r.length≤1000000 →
 qc (xv vp) n (pre++r,q,sq,(p:Int),())=some (rep (ep r q sq p))
 | m,[],pre,q,sq,p,n+1,hm,hp,hn,hb=>by
  refine qd ?_;simp only [xv,List.append_nil];rw [decide_eq_false (by omega)];rfl
 | 0,c::r,pre,q,sq,p,n,hm,hp,hn,hb=>by simp at hm
 | m+1,c::r,pre,q,sq,p,n+1,hm,hp,hn,hb=>by
  simp only [List.length_cons] at hm hn hb;have hlen:(pre++c::r).length=p+r.length+1:=by simp [hp];omega
  have hg:(pre++c::r).getD p 0=c:=by subst hp;simp
  have go:∀q' sq',qc (xv vp) n (pre++c::r,q',sq',((p+1:Nat):Int),())=some (rep (ep r q' sq' (p+1))):=by
   intro q' sq';rw [show pre++c::r=(pre++[c])++r by simp];exact g9h m r (pre++[c]) q' sq' (p+1) n (by omega) (by simp [hp]) (by omega) (by omega)
  have st:∀y,xv vp (pre++c::r,q,sq,(p:Int),())=y→xv vp (pre++c::r,q,sq,(p:Int),())=y:=fun _ h=>h;have hF:xv vp (pre++c::r,q,sq,(p:Int),())=(bif sq then some (.inl (pre++c::r,q,!((c.toNat:Int)==93),((p+1:Nat):Int),())) else bif (c.toNat:Int)==34 then some (.inl (pre++c::r,!q,sq,((p+1:Nat):Int),()))
   else bif q then (bif (c.toNat:Int)==92 then some (.inl (pre++c::r,q,sq,((p+2:Nat):Int),())) else some (.inl (pre++c::r,q,sq,((p+1:Nat):Int),())))
   else bif (c.toNat:Int)==91 then some (.inl (pre++c::r,q,true,((p+1:Nat):Int),())) else bif (c.toNat:Int)==62 then some (.inr (.inr (((p+1:Nat):Int),()))) else some (.inl (pre++c::r,q,sq,((p+1:Nat):Int),()))):=by
   unfold vp;simp only [xv,z3z,hlen,Int.toNat_natCast,hg,wrN p (show p≤9223372036854775806 by omega),g5t];rw [decide_eq_true (by omega),decide_eq_true (by omega)];simp only [Bool.and_self,cond_true];cases sq<;>cases ((c.toNat:Int)==34)<;>cases q<;>cases ((c.toNat:Int)==92)<;>cases ((c.toNat:Int)==91)<;>cases ((c.toNat:Int)==62)<;>try rfl
   all_goals
    simp only [cond_true,cond_false,Option.bind_some,Sum.elim_inl,Sum.elim_inr,wrN p (show p≤9223372036854775806 by omega),wrN (p+1) (show p+1≤9223372036854775806 by omega)]
  unfold ep;cases sq with
  | true =>
   simp only [cond_true] at hF ⊢;rw [ql hF,go]
  | false =>
   simp only [cond_false] at hF ⊢;cases h34:(c.toNat:Int)==34 with
   | true =>
    rw [h34] at hF;simp only [cond_true] at hF ⊢;rw [ql hF,go]
   | false =>
    rw [h34] at hF;simp only [cond_false] at hF ⊢;cases q with
    | true =>
     simp only [cond_true] at hF ⊢;cases h92:(c.toNat:Int)==92 with
     | true =>
      rw [h92] at hF;simp only [cond_true] at hF ⊢;rw [ql hF];cases r with
      | nil =>
       obtain ⟨n,rfl⟩:∃n',n=n'+1:=⟨n-1,by simp only [List.length_nil] at hn;omega⟩
       refine qd ?_;simp only [xv,hlen,List.length_nil];rw [decide_eq_false (by omega)];rfl
      | cons d r =>
       simp only [List.length_cons] at hm hn hb;rw [show pre++c::d::r=(pre++[c,d])++r by simp];exact g9h m r (pre++[c,d]) true false (p+2) n (by omega) (by simp [hp]) (by omega) (by omega)
     | false =>
      rw [h92] at hF;simp only [cond_false] at hF ⊢;rw [ql hF,go]
    | false =>
     simp only [cond_false] at hF ⊢;cases h91:(c.toNat:Int)==91 with
     | true =>
      rw [h91] at hF;simp only [cond_true] at hF ⊢;rw [ql hF,go]
     | false =>
      rw [h91] at hF;simp only [cond_false] at hF ⊢;cases h62:(c.toNat:Int)==62 with
      | true =>
       rw [h62] at hF;simp only [cond_true] at hF ⊢;rw [qd hF];rfl
      | false =>
       rw [h62] at hF;simp only [cond_false] at hF ⊢;rw [ql hF,go]
theorem f7i (s:List UInt8) (hs:s.length≤1000000):v8q (s,())=some (((ep s false false 0:Nat):Int),()):=by
 have h:=g9h _ s [] false false 0 jc (Nat.le_refl _) rfl (by unfold jc;omega) (by omega);have h1:q7r (s,false,false,0,())=some (rep (ep s false false 0)):=h;show v9s q7r _=_;simp only [v9s,h1,Option.bind_some];unfold rep;by_cases h0:ep s false false 0=0
 · rw [if_pos h0,h0];rfl
 · rw [if_neg h0];rfl
theorem v4c:∀(m:Nat) (r:List UInt8) (q sq:Bool) (p:Nat),r.length≤m→ep r q sq p≤p+r.length
 | m,[],q,sq,p,h=>Nat.zero_le _
 | 0,c::r,q,sq,p,h=>by simp at h
 | m+1,c::r,q,sq,p,h=>by
  simp only [List.length_cons] at h ⊢;have ih:=fun q' sq'=>v4c m r q' sq' (p+1) (by omega);have k:∀q' sq',ep r q' sq' (p+1)≤p+(r.length+1):=fun q' sq'=>by have:=ih q' sq';omega
  unfold ep;cases sq with
  | true=>exact k _ _
  | false =>
   simp only [cond_false];cases (c.toNat:Int)==34
   · cases q
     · cases (c.toNat:Int)==91
       · cases (c.toNat:Int)==62
         · exact k _ _
         · simp only [cond_true,cond_false];omega
       · exact k _ _
     · cases (c.toNat:Int)==92
       · exact k _ _
       · cases r with
         | nil=>exact Nat.zero_le _
         | cons d r =>
          have:=v4c m r true false (p+2) (by simp only [List.length_cons] at h;omega);simp only [cond_true,cond_false,List.length_cons];omega
   · exact k _ _
theorem f8p (c:UInt8) (n:Nat):((c.toNat:Int)==(n:Int))=decide (c.toNat=n):=by
 by_cases h:c.toNat=n
 · rw [ibT (by omega),decide_eq_true h]
 · rw [ibF (by omega),decide_eq_false h]
theorem n62 (c:UInt8):((jm c).toNat=62)=(c.toNat=62):=q6q c (k:=62) (by decide)
theorem v5z:∀(m:Nat) (r:List UInt8) (q sq:Bool) (p:Nat),r.length≤m→ep (lw r) q sq p=ep r q sq p
 | m,[],q,sq,p,h=>rfl
 | 0,c::r,q,sq,p,h=>by simp at h
 | m+1,c::r,q,sq,p,h=>by
  simp only [List.length_cons] at h;have ih:=fun q' sq' p'=>v5z m r q' sq' p' (by omega);have e:∀n:Nat,n∈[93,34,92,91,62]→(((jm c).toNat:Int)==(n:Int))=((c.toNat:Int)==(n:Int)):=by
   intro n hn;rw [f8p,f8p];simp only [List.mem_cons,List.not_mem_nil,or_false] at hn;rcases hn with rfl|rfl|rfl|rfl|rfl
   · simp only [n93]
   · simp only [n34]
   · simp only [n92]
   · simp only [n91]
   · simp only [n62]
  have e1:=e 93 (by simp);have e2:=e 34 (by simp);have e3:=e 92 (by simp);have e4:=e 91 (by simp);have e5:=e 62 (by simp);simp only [Int.cast_ofNat_Int] at e1 e2 e3 e4 e5;rw [jx];cases r with
  | nil =>
   unfold ep;rw [e1,e2,e3,e4,e5];rfl
  | cons d r =>
   have ih2:=v5z m r q sq (p+2) (by simp only [List.length_cons] at h;omega);unfold ep;rw [e1,e2,e3,e4,e5];simp only [ih];rw [jx];simp only [ih2]
theorem d0m (s:List UInt8) (hs:s.length≤1000000):Df (j9o (s,())) (fun _=>True):=by
 unfold j9o g2i;dsimp only;refine dZ (P:=fun _=>True) ?_ ?_
 · refine dL ?I ?m ?h _ ?hv ?hn
   case I=>exact (fun v=>v.2.2.1.1.length≤1000000∧0≤v.2.2.1.2)
   case m=>exact (fun v=>v.2.2.1.1.length-v.2.2.1.2.toNat)
   case hv=>exact ⟨hs,Int.le_refl _⟩
   case hn=>exact (by (try dsimp only);omega)
   rintro ⟨a,n,⟨t,k⟩,u⟩ ⟨h1,h2⟩;dsimp only at h1 h2;unfold z4e;dsimp only;with_reducible repeat' (first|apply dP|apply dX<;>intro _)
   · trivial
   · trivial
   · have:=j8i t k.toNat
     exact ⟨⟨h1,by (try dsimp only);omega⟩,by (try dsimp only);omega⟩
   · trivial
 · rintro z -
   cases z with
   | inl z=>exact dP trivial
   | inr z =>
    dsimp only [Sum.elim_inr];with_reducible repeat' (first|apply dP|apply dX<;>intro _)
    all_goals trivial
theorem d94 (l:List (List UInt8)) (k:List UInt8) (hl:l.length≤1000000):Df (C94 (l,k,())) (fun _=>True):=by
 unfold C94 F94;dsimp only;refine dZ (P:=fun _=>True) ?_ (fun z _=>by cases z<;>exact dP trivial);refine dL ?I ?m ?h _ ?hv ?hn
 case I=>exact (fun v=>v.1=l∧v.2.2.1=l.length∧0≤v.2.2.2.1)
 case m=>exact (fun v=>(l.length-v.2.2.2.1).toNat)
 case hv=>exact ⟨rfl,rfl,Int.le_refl _⟩
 case hn=>exact (by (try dsimp only);omega)
 rintro ⟨a,b,n,k',u⟩ ⟨h1,h2,h3⟩;dsimp only at h1 h2 h3;subst h1;subst h2;unfold y3x;dsimp only;with_reducible repeat' (first|apply dP|apply dX<;>intro _)
 · trivial
 · rw [qk (by omega)]
   exact ⟨⟨rfl,rfl,by (try dsimp only);omega⟩,by (try dsimp only);omega⟩
 · refine dO ?_;omega
 · trivial
theorem d93 (l:List (List UInt8)) (k:List UInt8) (hl:l.length≤1000000):Df (C93 (l,k,())) (fun _=>True):=by
 unfold C93 F93;dsimp only;exact dZ (d94 l k hl) fun _ _=>dP trivial
theorem b9w (x:Int):Df (j3j (x,())) (fun _=>True):=by
 unfold j3j g1w;dsimp only;with_reducible repeat' (first|apply dP|apply dX<;>intro _)
 all_goals trivial
theorem f7n (s:List UInt8) (hs:s.length≤1000000):Df (C21 (s,())) (fun y=>(y.1<0→Asc s)∧(Asc s→y.1 = -1)):=by
 unfold C21 F21;dsimp only;refine dZ (P:=Sum.elim (fun _=>Asc s) (fun y=>0≤y.1∧¬Asc s)) ?_ ?_
 · refine dL ?I ?m ?h _ ?hv ?hn
   case I=>exact (fun v=>v.1=s∧v.2.1=s.length∧0≤v.2.2.1∧∀i:Nat,(i:Int)<v.2.2.1→∀h:i<s.length,s[i].toNat<128)
   case m=>exact (fun v=>(s.length-v.2.2.1).toNat)
   case hv=>exact ⟨rfl,rfl,Int.le_refl _,fun i h=>by dsimp only at h;omega⟩
   case hn=>exact (by (try dsimp only);omega)
   rintro ⟨s',n,k,u⟩ ⟨h1,h2,h3,h4⟩;dsimp only at h1 h2 h3 h4;subst h1;subst h2;unfold z4f;dsimp only;with_reducible repeat' (first|apply dP|apply dX<;>intro _)
   · rename_i hk _ hc
     refine ⟨h3,fun ha => ?_⟩;rw [getD_lt (by omega)] at hc;have:=ha _ (List.getElem_mem (show k.toNat<s'.length by omega));omega
   · rename_i hk _ hc
     rw [qk (by omega)];refine ⟨⟨rfl,rfl,by (try dsimp only);omega,fun i hi hl => ?_⟩,by (try dsimp only);omega⟩;dsimp only at hi;by_cases hik:(i:Int)<k
     · exact h4 i hik hl
     · have:i=k.toNat:=by omega
       subst this;rw [getD_lt hl] at hc;omega
   · refine dO ?_;omega
   · rename_i hk
     intro c hc;obtain ⟨i,hi,rfl⟩:=List.mem_iff_getElem.1 hc;exact h4 i (by omega) hi
 · rintro z hz
   cases z with
   | inl z=>exact dP ⟨fun _=>hz,fun _=>rfl⟩
   | inr z=>exact dP ⟨fun h=>by have:=hz.1;dsimp only at h;omega,fun h=>(hz.2 h).elim⟩
theorem f7m (s:List UInt8) (hs:s.length≤1000000) (ha:Asc s):C21 (s,())=some (-1,()):=by
 obtain ⟨⟨y,u⟩,e,-,h⟩:=f7n s hs;rw [e];have:=h ha;dsimp only at this;rw [this]
def w9p (c:UInt8):Bool:=decide (j3j (((jm c).toNat:Int),())=j3j ((c.toNat:Int),()))
theorem g9r:((List.range 256).all fun n=>w9p (UInt8.ofNat n))=true:=by kernel_rfl
theorem f7c (c:UInt8):j3j (((jm c).toNat:Int),())=j3j ((c.toNat:Int),()):=of_decide_eq_true (vk w9p g9r c)
theorem r84 {s:List UInt8} (ha:Asc s) (hs:s.length≤1000000):Re Eq (z0q (s,())) (z0q (lw s,())):=by
 unfold z0q v1q;dsimp only;refine rZ (P:=Eq) ?_ (fun a b e=>by subst e;exact rP rfl);unfold z2m y3o;dsimp only;refine rZ (P:=Eq) ?_ (fun a b e=>by subst e;exact rP rfl);unfold z2r y3p;dsimp only;refine rZ (P:=Eq) ?_ (fun a b e=>by subst e;obtain ⟨x,u⟩|u:=a<;>exact rP rfl);refine rL (fun v w=>∃k:Nat,v=(true,(s,(k:Int)),())∧w=(true,(lw s,(k:Int)),())) (fun v=>s.length-v.2.1.2.toNat) ?_ _ _ ⟨0,rfl,rfl⟩ (by (try dsimp only);omega);rintro v w ⟨k,rfl,rfl⟩;unfold j1r;dsimp only;simp only [Int.toNat_natCast,zj];refine rX rfl (fun hk => ?_) (fun _=>rP rfl);have hc:=ha _ (List.getElem_mem hk);rw [j0r hk hc,j0r (by rw [zj];exact hk) (by rw [z7i hk,y5u];exact hc),z7i hk];dsimp only;refine rZ (rD (f7c _) (b9w _)) ?_;rintro ⟨b,u⟩ ⟨b',u'⟩ ⟨e,-⟩;cases e;dsimp only;refine rC rfl (fun _=>rP rfl) (fun _=>rP ⟨⟨k+1,rfl,rfl⟩,by (try dsimp only);omega⟩)
theorem r66 {s:List UInt8} (ha:Asc s) (hs:s.length≤1000000):Re Eq (C66 (s,())) (C66 (lw s,())):=by
 unfold C66 F66;dsimp only;rw [zj,ke];refine rC rfl (fun _ => ?_) (fun _=>rP rfl);refine rC rfl (fun _ => ?_) (fun _=>rP rfl);refine rZ (r84 ha hs) (fun a b e=>by subst e;exact rP rfl)
theorem v6d (s:List UInt8):((lw s).take 1=[32])=(s.take 1=[32]):=by
 have h:=j8w (s.take 1) (show (32:UInt8)∈_ by decide);rw [q5h];apply propext;constructor
 · intro e;rw [e,beq_self_eq_true] at h;exact eq_of_beq h.symm
 · intro e;rw [e];decide +kernel
abbrev Cmd:=Int×List UInt8×Bool×List UInt8×List UInt8×Int×Bool×Bool×Unit
def Nm (n n':List UInt8):Prop:=n'=lw n∧n.length≤1000
def Cq (c c':Cmd):Prop:=c'.1=c.1∧Nm c.2.1 c'.2.1∧c'.2.2.1=c.2.2.1∧c'.2.2.2.2.2.1=c.2.2.2.2.2.1∧c'.2.2.2.2.2.2.1=c.2.2.2.2.2.2.1∧c'.2.2.2.2.2.2.2.1=c.2.2.2.2.2.2.2.1
def Qr (y y':Int×Cmd):Prop:=y'.1=y.1∧Cq y.2 y'.2
theorem j6f (c:Cmd) (h:c.2.1=[]):Cq c c:=⟨rfl,by rw [h];exact ⟨rfl,Nat.zero_le _⟩,rfl,rfl,rfl,rfl⟩
section
variable {T:List R6} {A:List R4} {B:List R3}
def c0 (v:Int):Cmd:=(v,[],false,[],[],-1,false,false,())
theorem r98 {s:List UInt8} (ha:Asc s) (hs:s.length≤1000) (v:Int):Re Qr (C98 (T,A,B,s,c0 v)) (C98 (T,A,B,lw s,c0 v)):=by
 unfold c0;unfold C98 F98;dsimp only;simp only [f7e,v6d,q1s];by_cases h:s.take 1=[32]
 · simp only [if_pos h,Option.bind_some,Bool.not_true,cond_false]
   refine rZ (r66 (q2y ha 1) (by simp only [List.length_drop];omega)) ?_;rintro ⟨b,u⟩ _ rfl;dsimp only;exact rC rfl (fun _=>rP ⟨rfl,rfl,⟨rfl,Nat.zero_le _⟩,rfl,rfl,rfl,rfl⟩) (fun _=>rP ⟨rfl,rfl,⟨rfl,(show (s.drop 1).length≤1000 by simp only [List.length_drop];omega)⟩,rfl,rfl,rfl,rfl⟩)
 · simp only [if_neg h,Option.bind_some,Bool.not_false,cond_true]
   exact rP ⟨rfl,rfl,⟨rfl,Nat.zero_le _⟩,rfl,rfl,rfl,rfl⟩
def Qt (n:Nat) (y y':List UInt8×List UInt8×Int×Cmd):Prop:=y'.1=lw y.1∧y'.2.1=lw y.2.1∧Asc y.1∧Asc y.2.1∧y.1.length≤n∧y.2.1.length≤n∧Qr y.2.2 y'.2.2∧y.2.2.2.2.1=[]
theorem b4a (h:TK T A B) (hT:LT T A B) {s:List UInt8} (ha:Asc s) (hs:s.length≤1000) (w:List UInt8) (hw:w.length≤1000) (v:Int):Re (Qt s.length) (j6l (T,A,B,s,w,c0 v)) (j6l (T,A,B,lw s,w,c0 v)):=by
 unfold c0;unfold j6l g1z;dsimp only;rw [c97 s w (by omega) (by omega),c97 (lw s) w (by rw [zj];omega) (by omega),v5y,q1s];have e:(bif q5m s w then lw (s.drop w.length) else [])=lw (bif q5m s w then s.drop w.length else []):=by cases q5m s w<;>rfl
 have hl:(bif q5m s w then s.drop w.length else []).length≤s.length:=by
  cases q5m s w
  · exact Nat.zero_le _
  · simp only [cond_true,List.length_drop];omega
 have hA:Asc (bif q5m s w then s.drop w.length else []):=by
  cases q5m s w
  · exact q1j
  · exact q2y ha _
 rw [e];generalize (bif q5m s w then s.drop w.length else [])=t at hl hA;simp only [Option.bind_some];rw [f7i t (by omega),f7i (lw t) (by rw [zj];omega),v5z _ t false false 0 (Nat.le_refl _)];have hp:=v4c _ t false false 0 (Nat.le_refl _);generalize ep t false false 0=p at hp;simp only [Option.bind_some,zj,Int.toNat_natCast,q5h,q1s];have bad:∀e:Int,Re (Qt s.length) (some (([]:List UInt8),([]:List UInt8),e,c0 v)) (some (([]:List UInt8),([]:List UInt8),e,c0 v)):=fun e=>rP ⟨rfl,rfl,q1j,q1j,Nat.zero_le _,Nat.zero_le _,⟨rfl,j6f _ rfl⟩,rfl⟩;refine rC rfl (fun _=>bad _) (fun _ => ?_);refine rC rfl (fun _=>bad _) (fun _ => ?_);refine rX rfl (fun _ => ?_) (fun hn=>by omega);refine rZ (r40 h hT (t.take p) (z9y hA p) (by simp only [List.length_take];omega)) ?_;rintro ⟨n,x,y,e,u⟩ ⟨n',x',y',e',u'⟩ ⟨h1,h2⟩;dsimp only at h1 h2 ⊢;subst h1;subst h2;have zc:∀b,Re (Qt s.length) (some (t.take p,t.drop p,0,v,[],b,x,y,-1,false,false,())) (some (lw (t.take p),lw (t.drop p),0,v,[],b,x',y',-1,false,false,())):=fun b =>
  rP ⟨rfl,rfl,z9y hA p,q2y hA p,(show (t.take p).length≤s.length by simp only [List.length_take];omega),(show (t.drop p).length≤s.length by simp only [List.length_drop];omega),⟨rfl,rfl,⟨rfl,Nat.zero_le _⟩,rfl,rfl,rfl,rfl⟩,rfl⟩
 refine rC rfl (fun _=>bad _) (fun _ => ?_);refine rC rfl (fun hn => ?_) (fun hn => ?_)
 · refine rC rfl (fun _=>bad _) (fun _ => ?_)
   refine rX rfl (fun _ => ?_) (fun hn=>by omega);refine rX rfl (fun _=>zc _) (fun hn=>by omega)
 · refine rX rfl (fun _ => ?_) (fun hn=>by omega)
   refine rX rfl (fun _=>zc _) (fun hn=>by omega)
def Qk (y y':List UInt8×Int×Cmd):Prop:=y'.1=y.1∧Qr y.2 y'.2
theorem f0h (s k w:List UInt8) (b:Bool) (v:Int) (n:List UInt8) (nl:Bool) (x y x' y':List UInt8) (sz:Int) (e8 u8:Bool) (hw:w.length≤1000000) (hn:n.length≤1000) :
 Re (Rs Qk (fun y y'=>y'.1=y.1∧Cq y.2 y'.2)) (wj (s,k,w,b,v,n,nl,x,y,sz,e8,u8,())) (wj (s,k,w,b,v,lw n,nl,x',y',sz,e8,u8,())):=by
 unfold wj z4a;dsimp only;refine rC rfl (fun _ => ?_) (fun _ => ?_)
 · refine rZ (rD rfl (d0m w hw)) ?_
   rintro ⟨a,b,u⟩ _ ⟨rfl,-⟩;exact rP ⟨rfl,rfl,rfl,⟨rfl,hn⟩,rfl,rfl,rfl,rfl⟩
 refine rC rfl (fun _=>rP ⟨rfl,rfl,⟨rfl,hn⟩,rfl,rfl,rfl,rfl⟩) (fun _ => ?_);refine rC rfl (fun _=>rP ⟨rfl,rfl,⟨rfl,hn⟩,rfl,rfl,rfl,rfl⟩) (fun _ => ?_);exact rC rfl (fun _=>rP ⟨rfl,rfl,rfl,⟨rfl,hn⟩,rfl,rfl,rfl,rfl⟩) (fun _=>rP ⟨rfl,rfl,⟨rfl,hn⟩,rfl,rfl,rfl,rfl⟩)
theorem f0i (s k w:List UInt8) (b b2:Bool) (v:Int) (n:List UInt8) (nl:Bool) (x y x' y':List UInt8) (sz:Int) (e8 u8:Bool) (hw:w.length≤1000000) (hn:n.length≤1000) :
 Re (Rs Qk (fun y y'=>y'.1=y.1∧Cq y.2 y'.2)) (wm (s,k,w,b,b2,v,n,nl,x,y,sz,e8,u8,())) (wm (s,k,w,b,b2,v,lw n,nl,x',y',sz,e8,u8,())):=by
 unfold wm z4b;dsimp only;refine rC rfl (fun _=>rP ⟨rfl,rfl,rfl,⟨rfl,hn⟩,rfl,rfl,rfl,rfl⟩) (fun _ => ?_);have zc:∀b,Re (Rs Qk (fun y y'=>y'.1=y.1∧Cq y.2 y'.2)) ((wj (s,k,w,b,v,n,nl,x,y,sz,e8,u8,())).bind fun val=>Sum.elim (fun val=>some (Sum.inl (val.1,val.2.1,val.2.2.1,val.2.2.2.1,val.2.2.2.2.1,val.2.2.2.2.2.1,val.2.2.2.2.2.2.1,val.2.2.2.2.2.2.2.1,val.2.2.2.2.2.2.2.2.1,val.2.2.2.2.2.2.2.2.2.1,()))) (fun val=>some (Sum.inr (val.1,val.2.1,val.2.2.1,val.2.2.2.1,val.2.2.2.2.1,val.2.2.2.2.2.1,val.2.2.2.2.2.2.1,val.2.2.2.2.2.2.2.1,val.2.2.2.2.2.2.2.2.1,()))) val)
  ((wj (s,k,w,b,v,lw n,nl,x',y',sz,e8,u8,())).bind fun val=>Sum.elim (fun val=>some (Sum.inl (val.1,val.2.1,val.2.2.1,val.2.2.2.1,val.2.2.2.2.1,val.2.2.2.2.2.1,val.2.2.2.2.2.2.1,val.2.2.2.2.2.2.2.1,val.2.2.2.2.2.2.2.2.1,val.2.2.2.2.2.2.2.2.2.1,()))) (fun val=>some (Sum.inr (val.1,val.2.1,val.2.2.1,val.2.2.2.1,val.2.2.2.2.1,val.2.2.2.2.2.1,val.2.2.2.2.2.2.1,val.2.2.2.2.2.2.2.1,val.2.2.2.2.2.2.2.2.1,()))) val):=by
  intro b;refine rZ (f0h s k w b v n nl x y x' y' sz e8 u8 hw hn) ?_;intro z z' hz;exact rS hz (fun a b h=>rP h) (fun a b h=>rP h)
 exact rC rfl (fun _=>zc _) (fun _=>zc _)
theorem d6p (p:List UInt8) (hp:p.length≤100000) (v:Int) (n:List UInt8) (nl:Bool) (x y x' y':List UInt8) (sz:Int) (e8 u8:Bool) (hn:n.length≤1000) :
 Re Qk (z2s (p,v,n,nl,x,y,sz,e8,u8,())) (z2s (lw p,v,lw n,nl,x',y',sz,e8,u8,())):=by
 unfold z2s g2f;dsimp only;rw [p25 p (by omega),p25 (lw p) (by rw [zj];omega),show (lw p).map jm=lw (lw p) from rfl,v6b,show p.map jm=lw p from rfl];have hl:(lw p).length≤100000:=by rw [zj];exact hp
 generalize lw p=q at hl;simp only [Option.bind_some];rw [b9l q 61 (by omega)];simp only [Option.bind_some];have hw:(sel q 61).2.1.length≤1000000:=by
  unfold sel;split
  · simp only [List.length_drop];omega
  · exact Nat.zero_le _
 have key:∀b2,Re Qk ((wm (q,(sel q 61).1,(sel q 61).2.1,(sel q 61).2.2,b2,v,n,nl,x,y,sz,e8,u8,())).bind fun val=>Sum.elim
  (fun val=>some (val.1,val.2.1,val.2.2.1,val.2.2.2.1,val.2.2.2.2.1,val.2.2.2.2.2.1,val.2.2.2.2.2.2.1,val.2.2.2.2.2.2.2.1,val.2.2.2.2.2.2.2.2.1,val.2.2.2.2.2.2.2.2.2.1,()))
  (fun val=>some (val.1,0,val.2.1,val.2.2.1,val.2.2.2.1,val.2.2.2.2.1,val.2.2.2.2.2.1,val.2.2.2.2.2.2.1,val.2.2.2.2.2.2.2.1,val.2.2.2.2.2.2.2.2.1,())) val)
  ((wm (q,(sel q 61).1,(sel q 61).2.1,(sel q 61).2.2,b2,v,lw n,nl,x',y',sz,e8,u8,())).bind fun val=>Sum.elim
   (fun val=>some (val.1,val.2.1,val.2.2.1,val.2.2.2.1,val.2.2.2.2.1,val.2.2.2.2.2.1,val.2.2.2.2.2.2.1,val.2.2.2.2.2.2.2.1,val.2.2.2.2.2.2.2.2.1,val.2.2.2.2.2.2.2.2.2.1,()))
   (fun val=>some (val.1,0,val.2.1,val.2.2.1,val.2.2.2.1,val.2.2.2.2.1,val.2.2.2.2.2.1,val.2.2.2.2.2.2.1,val.2.2.2.2.2.2.2.1,val.2.2.2.2.2.2.2.2.1,())) val):=by
  intro b2;refine rZ (f0i q _ _ _ b2 v n nl x y x' y' sz e8 u8 hw hn) ?_;intro z z' hz;exact rS hz (fun a b h=>rP h) (fun a b h=>rP ⟨h.1,rfl,h.2⟩)
 refine rC rfl (fun _ => ?_) (fun _=>key _);exact rC rfl (fun _=>key _) (fun _=>key _)
theorem d6n (s:List UInt8) (hs:s.length≤1000) (c c':Cmd) (hc:Cq c c'):Re Qr (z2n (s,c)) (z2n (lw s,c')):=by
 obtain ⟨v,n,nl,x,y,sz,e8,u8,u⟩:=c;obtain ⟨v',n',nl',x',y',sz',e8',u8',u'⟩:=c';obtain ⟨k1,⟨k2,kn⟩,k3,k4,k5,k6⟩:=hc;dsimp only at k1 k2 kn k3 k4 k5 k6;subst k1 k2 k3 k4 k5 k6;unfold z2n g2a;dsimp only;simp only [f7e,v6d,q1s];by_cases h:s.take 1=[32]
 · simp only [if_pos h,Option.bind_some,Bool.not_true,cond_false]
   rw [f7d 32 (s.drop 1) (by simp only [List.length_drop];omega),f7d 32 (lw (s.drop 1)) (by rw [zj];simp only [List.length_drop];omega),v6c (by decide)];have hl:=z7y 32 (s.drop 1);have hle:(s.drop 1).count 32≤(s.drop 1).length:=List.count_le_length;have hpl:=v8a 32 (s.drop 1);have hd:(s.drop 1).length≤1000:=by simp only [List.length_drop];omega
   generalize spl 32 (s.drop 1)=ps at hl hpl;simp only [Option.bind_some,List.length_map];refine rZ (P:=Rs Cq Qr) ?_ (fun z z' hz=>rS hz (fun a b h=>rP ⟨rfl,h⟩) (fun a b h=>rP h));refine rL (fun v w=>∃(k:Nat) (c c':Cmd) (had:List (List UInt8)),had.length=k∧Cq c c'∧v=(ps,(ps.length:Int),(k:Int),c.1,c.2.1,c.2.2.1,c.2.2.2.1,c.2.2.2.2.1,c.2.2.2.2.2.1,c.2.2.2.2.2.2.1,c.2.2.2.2.2.2.2.1,had,())∧w=(ps.map lw,(ps.length:Int),(k:Int),c'.1,c'.2.1,c'.2.2.1,c'.2.2.2.1,c'.2.2.2.2.1,c'.2.2.2.2.2.1,c'.2.2.2.2.2.2.1,c'.2.2.2.2.2.2.2.1,had,())) (fun v=>(ps.length-v.2.2.1).toNat) ?_ _ _ ⟨0,(v',n,nl',x,y,sz',e8',u8',()),(v',lw n,nl',x',y',sz',e8',u8',()),[],rfl,⟨rfl,⟨rfl,kn⟩,rfl,rfl,rfl,rfl⟩,rfl,rfl⟩ (by (try dsimp only);omega);rintro _ _ ⟨k,⟨v,n,nl,x,y,sz,e8,u8,u⟩,⟨v',n',nl',x',y',sz',e8',u8',u'⟩,had,hh,⟨k1,⟨k2,kn⟩,k3,k4,k5,k6⟩,rfl,rfl⟩;dsimp only at k1 k2 kn k3 k4 k5 k6;subst k1 k2 k3 k4 k5 k6;unfold z3s;dsimp only;rw [List.length_map];refine rX rfl (fun hk => ?_) (fun _=>rP ⟨rfl,⟨rfl,kn⟩,rfl,rfl,rfl,rfl⟩);refine rX rfl (fun _ => ?_) (fun hn=>by omega);have hg:(ps.map lw).getD ((k:Int)).toNat []=lw (ps.getD ((k:Int)).toNat []):=by
    rw [List.getD_eq_getElem?_getD,List.getD_eq_getElem?_getD,List.getElem?_map];cases ps[((k:Int)).toNat]? <;> rfl
   rw [hg];have hq:(ps.getD ((k:Int)).toNat []).length≤1000:=by
    rw [getD_lt (by omega)];have:=hpl _ (List.getElem_mem (show ((k:Int)).toNat<ps.length by omega));omega
   refine rZ (d6p _ (by omega) v' n nl' x y x' y' sz' e8' u8' kn) ?_;rintro ⟨key,e,c⟩ ⟨key',e',c'⟩ ⟨g1,g2,g3⟩;dsimp only at g1 g2 g3 ⊢;subst g1 g2;refine rZ (rD rfl (d93 had key' (by omega))) ?_;rintro ⟨b,u⟩ _ ⟨rfl,-⟩;dsimp only;refine rC rfl (fun _=>rP ⟨rfl,rfl,⟨rfl,kn⟩,rfl,rfl,rfl,rfl⟩) (fun _ => ?_);refine rC rfl (fun _=>rP ⟨rfl,rfl,⟨rfl,kn⟩,rfl,rfl,rfl,rfl⟩) (fun _ => ?_);refine rX rfl (fun _ => ?_) (fun hn=>by simp only [List.length_cons,List.length_nil] at hn;omega);rw [wrN k (by omega)];exact rP ⟨⟨k+1,c,c',had++[key'],by simp [hh],g3,rfl,rfl⟩,by (try dsimp only);omega⟩
 · simp only [if_neg h,Option.bind_some,Bool.not_false,cond_true]
   exact rP ⟨rfl,rfl,⟨rfl,kn⟩,rfl,rfl,rfl,rfl⟩
theorem b4d (t:List UInt8) (ha:Asc t) (ht:t.length≤1000) (y y':Int×Cmd) (h:Qr y y'):Re Qr (q2q (t,y)) (q2q (lw t,y')):=by
 obtain ⟨e,v,n,nl,x,y,sz,e8,u8,u⟩:=y;obtain ⟨e',v',n',nl',x',y',sz',e8',u8',u'⟩:=y';obtain ⟨k0,k1,⟨k2,kn⟩,k3,k4,k5,k6⟩:=h;dsimp only at k0 k1 k2 kn k3 k4 k5 k6;subst k0 k1 k2 k3 k4 k5 k6;unfold q2q y3y;dsimp only;rw [f7m t (by omega) ha,f7m (lw t) (by rw [zj];omega) (j8c ha)];have zc:Re Qr (some (e',v',n,nl',x,y,sz',e8',u8',())) (some (e',v',lw n,nl',x',y',sz',e8',u8',())):=rP ⟨rfl,rfl,⟨rfl,kn⟩,rfl,rfl,rfl,rfl⟩;refine rC rfl (fun _ => ?_) (fun _=>zc);refine rC rfl (fun _ => ?_) (fun _=>zc);exact zc
theorem r99 (h:TK T A B) (hT:LT T A B) {s:List UInt8} (ha:Asc s) (hs:s.length≤1000) (v:Int):Re Qr (C99 (T,A,B,s,c0 v)) (C99 (T,A,B,lw s,c0 v)):=by
 unfold c0;unfold C99 F99;dsimp only;refine rZ (b4a h hT ha hs [32,70,82,79,77,58] (by simp) v) ?_;rintro ⟨t,r,e,c⟩ ⟨t',r',e',c'⟩ ⟨k1,k2,k3,k4,k5,k6,⟨k7,k8⟩,k9⟩;dsimp only at k1 k2 k3 k4 k5 k6 k7 k8 k9;subst k1 k2 k7;dsimp only;rw [ke];have zc:∀y y',Qr y y'→Re Qr ((q2q (t,y)).bind fun val=>some (val.1,val.2.1,val.2.2.1,val.2.2.2.1,val.2.2.2.2.1,val.2.2.2.2.2.1,val.2.2.2.2.2.2.1,val.2.2.2.2.2.2.2.1,val.2.2.2.2.2.2.2.2.1,())) ((q2q (lw t,y')).bind fun val=>some (val.1,val.2.1,val.2.2.1,val.2.2.2.1,val.2.2.2.2.1,val.2.2.2.2.2.1,val.2.2.2.2.2.2.1,val.2.2.2.2.2.2.2.1,val.2.2.2.2.2.2.2.2.1,())) :=
  fun y y' h=>rZ (b4d t k3 (by omega) y y' h) fun a b h=>rP h
 refine rC rfl (fun _ => ?_) (fun _=>zc (e',c) (e',c') ⟨rfl,k8⟩);refine rC rfl (fun _ => ?_) (fun _=>zc (e',c) (e',c') ⟨rfl,k8⟩);refine rZ (d6n r (by omega) c c' k8) ?_;intro y y' hy;exact zc y y' hy
theorem d6l (h:TK T A B) (hT:LT T A B) {s:List UInt8} (ha:Asc s) (hs:s.length≤1000) (v:Int):Re Qr (x3x (T,A,B,s,c0 v)) (x3x (T,A,B,lw s,c0 v)):=by
 unfold c0;unfold x3x g1t;dsimp only;refine rZ (b4a h hT ha hs [32,84,79,58] (by simp) v) ?_;rintro ⟨t,r,e,c⟩ ⟨t',r',e',c'⟩ ⟨k1,k2,k3,k4,k5,k6,⟨k7,k8⟩,k9⟩;dsimp only at k1 k2 k3 k4 k5 k6 k7 k8 k9;subst k1 k2 k7;dsimp only;rw [ke];refine rC rfl (fun _ => ?_) (fun _=>rP ⟨rfl,k8⟩);exact rC rfl (fun _=>rP ⟨rfl,k8⟩) (fun _=>rP ⟨rfl,k8⟩)
theorem f0g (s:List UInt8) (v:Int):Re Qr (x3y (T,A,B,s,c0 v)) (x3y (T,A,B,lw s,c0 v)):=by
 unfold c0;unfold x3y g1u;dsimp only;rw [ke];exact rC rfl (fun _=>rP ⟨rfl,j6f _ rfl⟩) (fun _=>rP ⟨rfl,j6f _ rfl⟩)
theorem d6m (s:List UInt8) (v:Int):Re Qr (x3z (T,A,B,s,c0 v)) (x3z (T,A,B,lw s,c0 v)):=by
 unfold c0;unfold x3z g1v;dsimp only;exact rP ⟨rfl,j6f _ rfl⟩
end
abbrev W10:=List UInt8×List UInt8×List UInt8×List UInt8×List UInt8×List UInt8×List UInt8×List UInt8×List UInt8×Int×Unit
abbrev stW (s:List UInt8) (k:Int):W10:=(s,[69,72,76,79],[72,69,76,79],[77,65,73,76],[82,67,80,84],[68,65,84,65],[82,83,69,84],[78,79,79,80],[81,85,73,84],k,())
abbrev QW (s:List UInt8) (k:Nat):W10⊕(Unit⊕(Int×Unit))→W10⊕(Unit⊕(Int×Unit))→Prop:=Rs (fun v' w'=>(∃k:Nat,v'=stW s (k:Int)∧w'=stW (lw s) (k:Int))∧(8-v'.2.2.2.2.2.2.2.2.2.1).toNat<(8-(k:Int)).toNat) (Rs (fun _ _=>True) (fun y y'=>y'.1=y.1∧0≤y.1∧y.1<8∧4≤s.length))
theorem r61 (s:List UInt8) (hs:s.length≤1000):Re (fun y y'=>y'.1=y.1 ∧ -1≤y.1∧y.1<8∧(0≤y.1→4≤s.length)) (C61 (s,())) (C61 (lw s,())):=by
 unfold C61 F61;dsimp only;unfold yb;dsimp only;refine rZ (P:=Rs (fun _ _=>True) (fun y y'=>y'.1=y.1∧0≤y.1∧y.1<8∧4≤s.length)) ?_ (fun z z' hz=>rS hz (fun a b h=>rP ⟨rfl,by omega,by omega,fun h=>by omega⟩) (fun a b h=>rP ⟨h.1,(by have:=h.2.1;omega : -1≤a.1),h.2.2.1,fun _=>h.2.2.2⟩));refine rL (fun v w=>∃k:Nat,v=(stW s (k:Int))∧w=(stW (lw s) (k:Int))) (fun v=>(8-v.2.2.2.2.2.2.2.2.2.1).toNat) ?_ _ _ ⟨0,rfl,rfl⟩ (by (try dsimp only);omega);rintro _ _ ⟨k,rfl,rfl⟩;have key:∀w:List UInt8,w.length=4→k<8→Re (α:=W10⊕(Unit⊕(Int×Unit))) (α':=W10⊕(Unit⊕(Int×Unit))) (QW s k)
  ((C97 (s,w,())).bind fun val=>bif val.2.1 then bif val.1==[] then some (Sum.inr (Sum.inr ((k:Int),()))) else (C96 (val.1,[32],())).bind fun val=>bif val.1 then some (Sum.inr (Sum.inr ((k:Int),()))) else some (Sum.inl (stW s (IntKind.i64.wrap ((k:Int)+1)))) else some (Sum.inl (stW s (IntKind.i64.wrap ((k:Int)+1)))))
  ((C97 (lw s,w,())).bind fun val=>bif val.2.1 then bif val.1==[] then some (Sum.inr (Sum.inr ((k:Int),()))) else (C96 (val.1,[32],())).bind fun val=>bif val.1 then some (Sum.inr (Sum.inr ((k:Int),()))) else some (Sum.inl (stW (lw s) (IntKind.i64.wrap ((k:Int)+1)))) else some (Sum.inl (stW (lw s) (IntKind.i64.wrap ((k:Int)+1))))):=by
  intro w hw hk;rw [c97 s w (by omega) (by omega),c97 (lw s) w (by rw [zj];omega) (by omega),v5y,q1s,wrN k (by omega)];have nxt:∀(z:Unit),Re (α:=W10⊕(Unit⊕(Int×Unit))) (α':=W10⊕(Unit⊕(Int×Unit))) (QW s k)
   (some (Sum.inl (stW s ((k+1:Nat):Int)))) (some (Sum.inl (stW (lw s) ((k+1:Nat):Int)))):=fun _=>rP ⟨⟨k+1,rfl,rfl⟩,by (try dsimp only);omega⟩
  cases hc:q5m s w with
  | false=>exact nxt ()
  | true =>
   have h4:4≤s.length:=by
    unfold q5m at hc;simp only [Bool.and_eq_true,decide_eq_true_eq] at hc;omega
   have yes:Re (α:=W10⊕(Unit⊕(Int×Unit))) (α':=W10⊕(Unit⊕(Int×Unit))) (QW s k) (some (Sum.inr (Sum.inr ((k:Int),())))) (some (Sum.inr (Sum.inr ((k:Int),())))):=rP ⟨rfl,by (try dsimp only);omega,by (try dsimp only);omega,h4⟩;simp only [Option.bind_some,cond_true,ke];refine rC rfl (fun _=>yes) (fun _ => ?_);rw [w9o _ (by decide)];have hd:∀t:List UInt8,∃b,C96 (t,[32],())=some (b,()):=by
    intro t;show ∃b,F96 q6a _=_;have h1:∃b,q6a (t,[32],())=some (b,()):=by
     show ∃b,j9u _=_;simp only [j9u,List.length_cons,List.length_nil];by_cases hl:(t.length:Int)≥((0+1:Nat):Int)
     · rw [decide_eq_true hl,decide_eq_true (show (0:Int)≤((0+1:Nat):Int) by omega)]
       exact ⟨_,rfl⟩
     · rw [decide_eq_false hl]
       exact ⟨_,rfl⟩
    obtain ⟨b,hb⟩:=h1;exact ⟨b,by simp only [F96,hb,Option.bind_some]⟩
   obtain ⟨b,hb⟩:=hd (s.drop w.length);rw [hb];simp only [Option.bind_some];exact rC rfl (fun _=>yes) (fun _=>nxt ())
 unfold y3v;dsimp only;refine rX rfl (fun hk => ?_) (fun _=>rP trivial);refine rX rfl (fun _=>key _ rfl (by omega)) (fun n0 => ?_);refine rX rfl (fun _=>key _ rfl (by omega)) (fun n1 => ?_);refine rX rfl (fun _=>key _ rfl (by omega)) (fun n2 => ?_);refine rX rfl (fun _=>key _ rfl (by omega)) (fun n3 => ?_);refine rX rfl (fun _=>key _ rfl (by omega)) (fun n4 => ?_);refine rX rfl (fun _=>key _ rfl (by omega)) (fun n5 => ?_);refine rX rfl (fun _=>key _ rfl (by omega)) (fun n6 => ?_);refine rX rfl (fun _=>key _ rfl (by omega)) (fun n7 => ?_);omega
section
variable {T:List R6} {A:List R4} {B:List R3}
def Ql (y y':Int×List UInt8×Bool×List UInt8×List UInt8×Int×Bool×Bool×Int×Unit):Prop :=
 y'.1=y.1∧Nm y.2.1 y'.2.1∧y'.2.2.1=y.2.2.1∧y'.2.2.2.2.2.1=y.2.2.2.2.2.1∧y'.2.2.2.2.2.2.1=y.2.2.2.2.2.2.1∧y'.2.2.2.2.2.2.2.1=y.2.2.2.2.2.2.2.1∧y'.2.2.2.2.2.2.2.2.1=y.2.2.2.2.2.2.2.2.1
theorem r24 (h:TK T A B) (hT:LT T A B) {s:List UInt8} (ha:Asc s) (hs:s.length≤1000):Re Ql (C24 (T,A,B,s,())) (C24 (T,A,B,lw s,())):=by
 unfold C24 F24;dsimp only;refine rZ (r61 s hs) ?_;rintro ⟨v,u⟩ ⟨v',u'⟩ ⟨g1,g2,g3,g4⟩;dsimp only at g1 g2 g3 g4 ⊢;subst g1;rw [zj,q1s];refine rX rfl (fun _=>rP ⟨rfl,⟨rfl,Nat.zero_le _⟩,rfl,rfl,rfl,rfl,rfl⟩) (fun _ => ?_);refine rX rfl (fun _=>rP ⟨rfl,⟨rfl,Nat.zero_le _⟩,rfl,rfl,rfl,rfl,rfl⟩) (fun hv => ?_);have h62:C62 ()=some ():=rfl;rw [h62];simp only [Option.bind_some];have h4:=g4 (by omega);have ha':=q2y ha 4;have hs':(s.drop 4).length≤1000:=by simp only [List.length_drop];omega
 have zc:∀{x y:Option (Int×Cmd)},Re Qr x y→Re Ql (x.bind fun val=>bif val.1 != 0 then some (0,[],false,[],[],-1,false,false,val.1,()) else some (val.2.1,val.2.2.1,val.2.2.2.1,val.2.2.2.2.1,val.2.2.2.2.2.1,val.2.2.2.2.2.2.1,val.2.2.2.2.2.2.2.1,val.2.2.2.2.2.2.2.2.1,0,()))
  (y.bind fun val=>bif val.1 != 0 then some (0,[],false,[],[],-1,false,false,val.1,()) else some (val.2.1,val.2.2.1,val.2.2.2.1,val.2.2.2.2.1,val.2.2.2.2.2.1,val.2.2.2.2.2.2.1,val.2.2.2.2.2.2.2.1,val.2.2.2.2.2.2.2.2.1,0,())):=by
  intro x y h;refine rZ h ?_;rintro y y' ⟨e1,e2,e3,e4,e5,e6,e7⟩;refine rC (by rw [e1]) (fun _=>rP ⟨rfl,⟨rfl,Nat.zero_le _⟩,rfl,rfl,rfl,rfl,e1⟩) (fun _=>rP ⟨e2,e3,e4,e5,e6,e7,rfl⟩)
 refine rX rfl (fun _=>rX rfl (fun _=>zc (r98 ha' (by omega) v')) (fun hn=>by omega)) (fun n0 => ?_);refine rX rfl (fun _=>rX rfl (fun _=>zc (r98 ha' (by omega) v')) (fun hn=>by omega)) (fun n1 => ?_);refine rX rfl (fun _=>rX rfl (fun _=>zc (r99 h hT ha' hs' v')) (fun hn=>by omega)) (fun n2 => ?_);refine rX rfl (fun _=>rX rfl (fun _=>zc (d6l h hT ha' hs' v')) (fun hn=>by omega)) (fun n3 => ?_);refine rX rfl (fun _=>rX rfl (fun _=>zc (f0g _ v')) (fun hn=>by omega)) (fun n4 => ?_);refine rX rfl (fun _=>rX rfl (fun _=>zc (f0g _ v')) (fun hn=>by omega)) (fun n5 => ?_);refine rX rfl (fun _=>rX rfl (fun _=>zc (d6m _ v')) (fun hn=>by omega)) (fun n6 => ?_);refine rX rfl (fun _=>rX rfl (fun _=>zc (f0g _ v')) (fun hn=>by omega)) (fun n7 => ?_);omega
end
def w5f:List Sh:=(tp 3 (List.cons (.bool) (List.cons (.top) (List.cons (.ptr 0 0) (List.cons (.int .i64) (List.cons (.ptr 1 0) (List.cons (.int .i64) (tp 75 (List.cons (.obox 8) (List.cons (.int .i64) (List.cons (.str) (List.cons (.bool) (List.cons (.str) (List.cons (.str) (List.cons (.int .i64) (List.cons (.bool) (List.cons (.bool) (List.cons (.obox 8) (List.cons (.int .i64) (List.cons (.str) (List.cons (.bool) (List.cons (.str) (List.cons (.str) (List.cons (.int .i64) (List.cons (.bool) (List.cons (.bool) []))))))))))))))))))))))))))
def w8u:qb:=[(.ret,(List.cons (.top) (List.cons (.top) (List.cons (.bool) (tp 81 [])))))]
abbrev z1d:=Bool×Int×Int×Int×qa×Bool×qa×qa×Int×Bool×Bool×Int×qa×Bool×qa×qa×Int×Bool×Bool×Unit→Option (Bool×Unit)
def w1i (f:z1d):LEnt:=⟨w5f,w8u,f⟩
abbrev T6:=qa×Unit→Option (Bool×Unit)
def E6 (f:T6):FEnt:=⟨zy,qw,f⟩
def K6 (f18:T18) (f21:T21) (f23:T23) (f24:T24) (f25:T25):=lk [(18,E18 f18),(21,E21 f21),(23,E23 f23),(24,E24 f24),(25,E25 f25)]
theorem f8s:zb Tryz.prog (K6 C18 C21 C23 C24 C25):=(kc b0m (kc v7d (kc d5h (kc b1j (kc w0q kn)))))
def x0i (f18:T18) (f21:T21) (f23:T23) (f24:T24) (f25:T25):z1d:=fun (x0,x1,x2,x3,x4,x5,x6,x7,x8,x9,x10,x11,x12,x13,x14,x15,x16,x17,x18,_)=>bif x0 then bif x1==x2 then bif x3==x11 then bif x8==x16 then bif x9==x17 then bif x10==x18 then (f25 (x4,())).bind fun v=>bif v.1==x12 then some (x5==x13,()) else some (false,()) else some (false,()) else some (false,()) else some (false,()) else some (false,()) else some (false,()) else some (false,())
theorem f8n (f18:T18) (f21:T21) (f23:T23) (f24:T24) (f25:T25):AqC (K6 f18 f21 f23 f24 f25) 0 (qe (code Tryz.f6) [1,1,1,1,1,1]) .nil w5f w8u (x0i f18 f21 f23 f24 f25):=fun v=>by kernel_rfl
def z8w:z1d:=x0i C18 C21 C23 C24 C25
theorem f8r:jy 0 (qe (code Tryz.f6) [1,1,1,1,1,1]) (w1i z8w) :=
 frc f8s (f8n C18 C21 C23 C24 C25)
def N6 (f6_c0:z1d):Ann:=(.seq .nil (.seq .nil (.seq .nil (.seq .nil (.seq .nil (.cut .nil (w1i f6_c0)))))))
def F6 (f18:T18) (f21:T21) (f23:T23) (f24:T24) (f25:T25) (f6_c0:z1d):T6:=fun (x0,_)=>(f23 ()).bind fun v=>bif decide ((↑x0.length:Int)>600) then some (v.1,()) else (f21 (x0,())).bind fun v1=>bif decide (v1.1≥0) then some (v.1,()) else (f18 ()).bind fun v2=>(f24 (v2.1,v2.2.1,v2.2.2.1,x0,())).bind fun v3=>(f25 (x0,())).bind fun v4=>(f24 (v2.1,v2.2.1,v2.2.2.1,v4.1,())).bind fun v5=>(f6_c0 (v.1,v3.2.2.2.2.2.2.2.2.1,v5.2.2.2.2.2.2.2.2.1,v3.1,v3.2.1,v3.2.2.1,v3.2.2.2.1,v3.2.2.2.2.1,v3.2.2.2.2.2.1,v3.2.2.2.2.2.2.1,v3.2.2.2.2.2.2.2.1,v5.1,v5.2.1,v5.2.2.1,v5.2.2.2.1,v5.2.2.2.2.1,v5.2.2.2.2.2.1,v5.2.2.2.2.2.2.1,v5.2.2.2.2.2.2.2.1,())).bind fun v=>some (v.1,())
theorem h6 (f18:T18) (f21:T21) (f23:T23) (f24:T24) (f25:T25) (f6_c0:z1d):zw (K6 f18 f21 f23 f24 f25) 0 Tryz.f6 (N6 f6_c0) zy qw (F6 f18 f21 f23 f24 f25 f6_c0):=fun v=>by kernel_rfl
def C6:T6:=F6 C18 C21 C23 C24 C25 z8w
theorem ok6:FO 6 (E6 C6) :=
 qo f8s Tryz.func6 (And.intro f8r trivial) (h6 C18 C21 C23 C24 C25 z8w)
def tkB:Bool:=match C18 () with
 | some (T,A,B,_)=>(decide (T.length≤1000000000000)&&T.all fun e=>decide (0≤e.2.2.2.1)&&decide (e.2.2.2.1<8))&&(decide (A.length≤1000000000000)&&decide (B.length≤1000000000000))
 | none=>false
theorem b4f:tkB=true:=by kernel_rfl
theorem tk:∃T A B,C18 ()=some (T,A,B,())∧TK T A B:=by
 have h:=b4f;unfold tkB at h;cases hc:C18 () with
 | none=>rw [hc] at h;cases h
 | some y =>
  obtain ⟨T,A,B,u⟩:=y;rw [hc] at h;simp only [Bool.and_eq_true,decide_eq_true_eq,List.all_eq_true] at h;exact ⟨T,A,B,rfl,⟨h.1.1,h.1.2⟩,h.2.1,h.2.2⟩
def v5u (T:List R6) (A:List R4) (B:List R3) (c:UInt8):Bool := !q1k c||(match q2j (T,A,B,(c.toNat:Int),()),q2j (T,A,B,((jm c).toNat:Int),()) with|some (a,_),some (b,_)=>a==b|_,_=>false)
def ltB:Bool:=match C18 () with
 | some (T,A,B,_)=>(List.range 256).all fun n=>v5u T A B (UInt8.ofNat n)
 | none=>false
theorem f9c:ltB=true:=by kernel_rfl
theorem f9e {T A B} (h18:C18 ()=some (T,A,B,())):LT T A B:=by
 have h:=f9c;unfold ltB at h;rw [h18] at h;intro c hc;have:=vk (v5u T A B) h c;unfold v5u at this;rw [show q1k c=true from decide_eq_true hc] at this;simp only [Bool.not_true,Bool.false_or] at this;cases h1:q2j (T,A,B,(c.toNat:Int),()) with
 | none=>rw [h1] at this;cases this
 | some y =>
  cases h2:q2j (T,A,B,((jm c).toNat:Int),()) with
  | none=>rw [h1,h2] at this;cases this
  | some z =>
   rw [h1,h2] at this;obtain ⟨a,u⟩:=y;obtain ⟨b,u'⟩:=z;have e:a=b:=by simpa using this
   subst e;exact ⟨a,rfl,rfl⟩
theorem f8o:C23 ()=some (true,()):=by kernel_rfl
theorem f7p (s:List UInt8):C6 (s,())=some (true,()):=by
 obtain ⟨T,A,B,h18,hT⟩:=tk;have hL:=f9e h18;show F6 C18 C21 C23 C24 C25 z8w _=_;simp only [F6,f8o,Option.bind_some];by_cases hs:(s.length:Int)>600
 · rw [decide_eq_true hs];rfl
 rw [decide_eq_false hs];obtain ⟨⟨e,u⟩,h21,h1,-⟩:=f7n s (by omega);simp only [cond_false,h21,Option.bind_some];dsimp only at h1;by_cases he:e≥0
 · rw [decide_eq_true he];rfl
 rw [decide_eq_false he];simp only [cond_false,h18,Option.bind_some];obtain ⟨y,y',e1,e2,hq⟩:=r24 hT hL (h1 (by omega)) (show s.length≤1000 by omega);obtain ⟨v,n,nl,a,b,sz,e8,u8,cd,u⟩:=y;obtain ⟨v',n',nl',a',b',sz',e8',u8',cd',u'⟩:=y';obtain ⟨k1,⟨k2,kn⟩,k3,k4,k5,k6,k7⟩:=hq;dsimp only at k1 k2 kn k3 k4 k5 k6 k7;subst k1 k2 k3 k4 k5 k6 k7;rw [p25 s (by omega)];simp only [e1,Option.bind_some];rw [show s.map jm=lw s from rfl,e2];simp only [Option.bind_some];have hc0:z8w (true,cd',cd',v',n,nl',a,b,sz',e8',u8',v',lw n,nl',a',b',sz',e8',u8',())=some (true,()):=by
  show x0i C18 C21 C23 C24 C25 _=_;simp only [x0i,ibT (rfl:cd'=cd'),ibT (rfl:v'=v'),ibT (rfl:sz'=sz'),beq_self_eq_true,cond_true,p25 n (by omega),Option.bind_some];rw [show n.map jm=lw n from rfl,beq_self_eq_true];rfl
 simp only [hc0,Option.bind_some]
end Go.Proofs.YtiacnhhmkdkpmaaGreatDoorC.W
namespace Go.Proofs.YtiacnhhmkdkpmaaGreatDoorC.PCommandLetters
open Go Go.Ae Go.Proofs.YtiacnhhmkdkpmaaGreatDoorC.W
theorem pure (x0:Ty.str.den) (b0:Bd Ty.str x0):C6 (x0,())=some (true,()):=f7p x0
end Go.Proofs.YtiacnhhmkdkpmaaGreatDoorC.PCommandLetters
namespace Go.Proofs.YtiacnhhmkdkpmaaGreatDoor
open Go Go.Ae Go.RowKit Go.ChangeShapes
theorem z0g {H:Type} {enc:TypeId×Value→H} {P:Program} {w:World} {base:Nat} {sp:Nat→Bool} {held:Bool} {fuel:Nat} {t e:TypeId} {n:Nat} {cs:List Value} {zs:List (List UInt8)} {p:List MemPlace}
 (ht:P.underlying t=some (.array n e)) (he:P.underlying e=some .string) (hce:P.cellsOf e=1) (hct:P.cellsOf t=n)
 (h:DataW.trod enc P w base sp held fuel t cs=some (.agg (zs.map fun z => .lit (.string z)),p)):cs=zs.map fun z=>Value.string ⟨⟨z⟩⟩:=by
 cases fuel with
 | zero=>simp [DataW.trod] at h
 | succ fuel =>
  simp only [DataW.trod,ht,hce,hct,Nat.mul_one] at h;split at h
  · rename_i hl
    obtain ⟨xs,hm,hx⟩:=Option.map_eq_some_iff.1 h;have hxs:xs.map (·.1)=zs.map fun z=>(DataW.lit (.string z):DataW H):=by
     have:=congrArg Prod.fst hx;simpa using this
    have hxl:xs.length=n:=by simpa using Lib.mapM_length hm
    have hzl:zs.length=n:=by
     have:=congrArg List.length hxs;simp at this;omega
    apply List.ext_getElem?;intro i;by_cases hi:i<n
    · obtain ⟨b,hb,hf⟩:=Lib.mapM_at hm i i (by simp [hi])
      obtain ⟨z,hc,rfl,_⟩:=DataW.trod_string he hf;have h1:cs[i]? = some (.string z):=by
       have:=congrArg (·[0]?) hc;simpa [List.getElem?_take,List.getElem?_drop] using this
      have h2:(xs.map (·.1))[i]? = some (DataW.lit (.string z.data.toList):DataW H):=by simp [hb]
      rw [hxs] at h2;simp only [List.getElem?_map,Option.map_eq_some_iff,DataW.lit.injEq,Lit.string.injEq] at h2;obtain ⟨z',hz',rfl⟩:=h2;simp [h1,hz']
    · rw [List.getElem?_eq_none (by omega),List.getElem?_eq_none (by simp;omega)]
  · cases h
theorem z8a {P:Program} {W:World} {name:String} {zs:List (List UInt8)} {rest:List (String×DataW Unit)} {g:Nat} {t e:TypeId} {n:Nat}
 (hg:P.globalNamed name=some g) (hty:(P.globals[g]?).map (·.type)=some t) (ht:P.underlying t=some (.array n e)) (he:P.underlying e=some .string) (hce:P.cellsOf e=1) (hct:P.cellsOf t=n)
 (h:laidMet P ((name,.agg (zs.map fun z => .lit (.string z)))::rest) W):W.var? P name=some (zs.map fun z=>Value.string ⟨⟨z⟩⟩).toArray:=by
 obtain ⟨ps,⟨g',t',cs,fuel,p,q,hg',ht',hvar,hd,_,_⟩,_⟩:=h;obtain rfl:=Option.some.inj (hg.symm.trans hg');obtain rfl:=Option.some.inj (hty.symm.trans ht');rw [hvar,←z0g ht he hce hct hd]
theorem glob {W:World} (hL:laidMetH Tryz.prog Rows.commandLongRow.laid W) (hsh:W.ShapedOpen Tryz.prog):GI W m0:=by
 rw [MakeChecks.laidMetH_plain _ _ _ (by kernel_rfl)] at hL;obtain ⟨m,hm⟩:=Go.Proofs.cell_of_shapedOpen_int (g:=2) (k := .i64) (t:=3) (zero := #[.int .i64 0]) hsh (of_decide_eq_true (by kernel_rfl)) (by kernel_rfl) (by kernel_rfl) (by kernel_rfl) (by kernel_rfl) (by kernel_rfl);have g1:Tryz.prog.globalNamed "internal/strconv.uint64pow10" = some 1:=by kernel_rfl
 have g0:Tryz.prog.globalNamed "pillarbox/command.words" = some 0:=by kernel_rfl
 have h1:Lib.TabIs Tryz.prog W "internal/strconv.uint64pow10" .u64 w1g:=Lib.tabIs_of_head (zs:=w1g) (t:=245) (e:=189) (n:=20) g1 (by kernel_rfl) (by kernel_rfl) (by kernel_rfl) (by kernel_rfl) (by kernel_rfl) hL.tail.tail;have h0:W.var? Tryz.prog "pillarbox/command.words" = some (z8c.map fun z=>Value.string ⟨⟨z⟩⟩).toArray:=z8a (zs:=z8c) (t:=153) (e:=9) (n:=8) g0 (by kernel_rfl) (by kernel_rfl) (by kernel_rfl) (by kernel_rfl) (by kernel_rfl) hL.tail.tail.tail.tail;obtain ⟨ty1,fz1,k1⟩:=y2u g1 h1;obtain ⟨ty0,fz0,k0⟩:=y2u g0 h0;refine ⟨⟨⟨m,hm⟩,⟨ty1,fz1,k1⟩,⟨ty0,fz0,k0⟩⟩,fun b hb=>⟨?_,fun h=>h⟩⟩;simp only [wy,List.mem_cons,List.not_mem_nil,or_false] at hb;rcases hb with rfl|rfl|rfl
 · exact lt_of_heap k0
 · exact lt_of_heap k1
 · exact lt_of_cell hm
end Go.Proofs.YtiacnhhmkdkpmaaGreatDoor
