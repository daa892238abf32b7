/- The texts of the proof, one behind the other: PR3, PR4, PL1, PL2, PL3, PL4, PL5, PL6, PL7, PQ, PL8, PL9, PM1, PM2, PLT, PPN, PMB, PPB, PCA, PCB, LaidC, Ae32, XItoa. -/
import Derived.Test.YtiacnhhmkdkpmaaGreatDoorCCb5
import Derived.Shelf.LaysM
import Derived.Shelf.Strconv.Itoa3
import Derived.Test.YtiacnhhmkdkpmaaGreatDoorProg
import Derived.Test.YtiacnhhmkdkpmaaGreatDoorCCb3
open Go.Proofs.Tryz
open Bool (and_eq_true not_eq_true')
open Int (natCast_zero toNat_natCast)
open List (all_cons all_eq_true append_assoc append_nil cons_append drop_append drop_drop drop_left drop_zero getD_cons_succ getD_cons_zero getElem?_eq_none getElem_mem length_append length_cons length_drop length_nil length_set length_singleton length_take mem_append mem_cons mem_cons_of_mem mem_cons_self mem_range mem_singleton nil_append take_append take_append_drop take_left take_of_length_le take_succ_cons take_zero)
open Nat (add_assoc add_comm add_zero le_refl le_trans lt_or_ge zero_add zero_le)
open Option (map_eq_some_iff)
set_option linter.unusedVariables false
set_option linter.unusedSimpArgs false
set_option maxRecDepth 100000
namespace Go.Proofs.YtiacnhhmkdkpmaaGreatDoorC.W
open Go Go.Ae
theorem z4e{s:List UInt8}{p:Nat}(h:p<s.length)(hc:s[p].toNat<128):yw s p=(s[p].toNat,1):=by
 have e:((⟨⟨s⟩⟩:ByteArray).get! (p+0))=s[p]:=by
  show (⟨s⟩:Array UInt8)[p+0]! = _;rw[add_zero,getElem!_pos _ _ (by simpa using h)];simp
 simp only[yw,Utf8.decode,e];rw[if_pos hc]
theorem f4v:((List.range 128).all λn => !kk (n:Int)||(match j9s ((n:Int),())with|some (b,_)=>b|none=>false))=true:=by kernel_rfl
theorem b2x{x:Int}(hk:kk x=true):Pf (j9s (x,())) (λy=>y.1=true):=by
 have h:=(q4m x).1 hk;have h1:=all_eq_true.1 f4v x.toNat (mem_range.2 (by omega))
 rw[show ((x.toNat:Nat):Int)=x by omega,hk]at h1;intro y hy;rw[hy]at h1;simpa using h1
theorem m2v(s:List UInt8)(hs:s.length<=1000000000000000)(ha:∀c∈s,c.toNat<128)(hk:∃x∈bi s,kk x=true):Pf (y5b (s,true,())) (λy=>0<=y.1):=by
 unfold y5b k3c;dsimp only;refine pZ (P:=Sum.elim (λy=>0<=y.1) (λ_=>False)) ?_ ?_
 . refine pL ?I ?h _ ?hv
   case I=>exact(λv=>∃p:Nat,v=(true,(s,(p:Int)),())/\∀x∈bi (s.take p),kk x=false)
   case hv=>exact⟨0,rfl,λx hx=>by cases hx⟩
   rintro v ⟨p,rfl,h1⟩;unfold j7p;dsimp only;simp only[toNat_natCast];with_reducible repeat' (first|exact pN|apply pP|apply pX<;>intro _)
   . rename_i hp
     rw[z4e hp (ha _ (getElem_mem hp))];dsimp only;have hnk:kk ((s[p].toNat:Nat):Int)=true->Pf (j9s (((s[p].toNat:Nat):Int),())) (λy=>y.1=true):=b2x;refine pZ (P:=λy=>kk ((s[p].toNat:Nat):Int)=true->y.1=true) (λy e hk=>hnk hk y e) ?_;rintro⟨b,u⟩ hb;dsimp only at hb ⊢;cases b with
     | true=>exact pP (by show (0:Int)<=(p:Int);omega)
     | false =>
      refine pP ⟨p+1,rfl,λx hx => ?_⟩;rw[qk hp,xq]at hx;rcases mem_append.1 hx with hx|hx
      . exact h1 x hx
      . have hx':x=((s[p].toNat:Nat):Int):=by simpa[bi]using hx
        subst hx';cases hkx:kk ((s[p].toNat:Nat):Int)with
        | false=>rfl
        | true=>have:=hb hkx;cases this
   . rename_i hp
     obtain⟨x,hx,hxk⟩:=hk;rw[take_of_length_le (by omega)]at h1;rw[h1 x hx]at hxk;cases hxk
 . intro z hz
   refine pS hz ?_ ?_
   . rintro⟨a,u⟩ h
     exact pP h
   . intro u h
     exact h.elim
theorem p84(s:List UInt8)(hs:s.length<=1000000000000000)(ha:∀c∈s,c.toNat<128)(hk:∃x∈bi s,kk x=true):Pf (C84 (s,())) (λy=>y.1=true):=by
 unfold C84 F84;dsimp only;refine pZ (P:=λy=>0<=y.1) ?_ ?_
 . unfold v1p k2w
   dsimp only;exact pZ (m2v s hs ha hk) λ_ h=>pP h
 . rintro⟨a,u⟩ h
   refine pP ?_;dsimp only at h ⊢;exact decide_eq_true h
theorem m3j(s:List UInt8)(hs:s.length<=1000000000000000)(ha:∀c∈s,c.toNat<128)(hk:s=[]\/∃x∈bi s,kk x=true):Pf (y0p (s,())) (λy=>y.1≠0):=by
 rcases hk with rfl|hk
 . have e:y0p ([],())=some (13,()):=by kernel_rfl
   rw[e];exact pP (by decide)
 unfold y0p k3q;dsimp only;refine pZ (P:=λy=>y.1≠0) ?_ (λ_ h=>pP h);unfold j9r z7e;dsimp only;refine pZ (P:=λy=>y.2.1=s) (pP rfl) ?_;rintro⟨b,s1,u⟩ h1;dsimp only at h1 ⊢;subst h1;with_reducible repeat' (first|exact pN|apply pP|apply pX<;>intro _)
 . exact(by decide:(13:Int)≠0)
 . refine pZ (P:=λy=>y.2.1=s1) (pP rfl) ?_
   rintro⟨b,s2,u⟩ h2;dsimp only at h2 ⊢;subst h2;with_reducible repeat' (first|exact pN|apply pP|apply pX<;>intro _)
   . exact(by decide:(5:Int)≠0)
   . refine pZ (P:=λy=>y.1=true/\y.2.1=s2) ?_ ?_
     . unfold v2b k4g
       dsimp only;refine pZ (p84 s2 hs ha hk) ?_;intro y hy;exact pP ⟨hy,rfl⟩
     rintro⟨b,s3,u⟩ ⟨h3,h4⟩;dsimp only at h3 h4 ⊢;subst h3 h4;exact pP (by decide:(8:Int)≠0)
section
variable {T:List R6} {A:List R4} {B:List R3}
theorem f4u:((List.range 128).all λn=>match z5v ((n:Int),())with|some (.inr (.inr (.inr (.inr (.inr (.inr (.inr (.inr _))))))))=>true|_=>false)=true:=by kernel_rfl
theorem b2s{x:Int}(h0:0<=x)(h1:x<128):z5v (x,())=some (.inr (.inr (.inr (.inr (.inr (.inr (.inr (.inr ())))))))):=by
 have h:=all_eq_true.1 f4u x.toNat (mem_range.2 (by omega))
 rw[show ((x.toNat:Nat):Int)=x by omega]at h;revert h;cases hc:z5v (x,())with
 | none=>intro h;cases h
 | some z =>
  rcases z with z|z|z|z|z|z|z|z|z;all_goals intro h;first|rfl|cases h
theorem m3c(l:List Int)(p:Int)(hk:kk (l.getD p.toNat 0)=true):Pf (z2m (T,A,B,l,p,())) (λy=>y.1=0):=by
 have h:=(q4m _).1 hk;show Pf (x7o z5v x6r x6s z6d x6w x6x x6y x6z x7a _) _;unfold x7o;dsimp only;with_reducible repeat' (first|exact pN|apply pP|apply pX<;>intro _)
 . exact rfl
 . exact rfl
 . rw[b2s h.1 h.2.1]
   exact pP rfl
theorem m3t(hK:KT T A B)(l:List Int)(hl:l.length<=1000000000000)(hk:∃x∈l,kk x=true):Pf (x6u (T,A,B,l,())) (λy=>y.1=true):=by
 show Pf (x7u z2m j4f j0b _) _;unfold x7u;dsimp only;refine pZ (P:=Sum.elim (λ_=>False) (λy=>y.1=true)) ?_ ?_
 . refine pL ?I ?h _ ?hv
   case I=>exact(λv=>∃k:Int,0<=k/\k<=l.length/\(∀x∈l.take k.toNat,kk x=false)/\v=(l,l,(l.length:Int),k,T,A,B,()))
   case hv=>exact⟨0,Int.le_refl _,by omega,λx hx=>(by cases hx),rfl⟩
   rintro v ⟨k,h0,h1,h2,rfl⟩;unfold j8b;dsimp only;with_reducible repeat' (first|exact pN|apply pP|apply pX<;>intro _)
   . have hlt:k.toNat<l.length:=by omega
     refine pZ (P:=λy=>kk (l.getD k.toNat 0)=true->y.1=0) (λy e hk=>m3c l k hk y e) ?_;rintro⟨b,u⟩ hb;dsimp only at hb ⊢;have jh:kk (l.getD k.toNat 0)=false->∃k':Int,0<=k'/\k'<=l.length/\(∀x∈l.take k'.toNat,kk x=false)/\(l,l,(l.length:Int),IntKind.i64.wrap (k+1),T,A,B,())=(l,l,(l.length:Int),k',T,A,B,()):=by
      intro hn;rw[qg (n:=k+1) (by omega)];refine⟨_,by omega,by omega,λx hx => ?_,rfl⟩;rw[show (k+1).toNat=k.toNat+1 by omega,qk hlt]at hx;rcases mem_append.1 hx with hx|hx
      . exact h2 x hx
      . rw[mem_singleton]at hx
        rw[getD_lt hlt]at hn;subst hx;exact hn
     with_reducible repeat' (first|exact pN|apply pP|apply pX<;>intro _)
     . exact rfl
     . refine pZ (P:=λy=>kk (l.getD k.toNat 0)=true->y.1=false) (λy e hk=>by rw[hK.ca _ hk]at e;cases e;rfl) ?_
       rintro⟨c,u⟩ hc;dsimp only at hc ⊢;with_reducible repeat' (first|exact pN|apply pP|apply pX<;>intro _)
       . exact rfl
       . rename_i hct
         refine jh ?_;cases hkx:kk (l.getD k.toNat 0)with
         | false=>rfl
         | true=>rw[hc hkx]at hct;cases hct
     . rename_i hb1 hb2
       refine jh ?_;cases hkx:kk (l.getD k.toNat 0)with
       | false=>rfl
       | true=>exact(hb2 (hb hkx)).elim
   . obtain⟨x,hx,hxk⟩:=hk
     rw[take_of_length_le (by omega)]at h2;rw[h2 x hx]at hxk;cases hxk
 . intro z hz
   refine pS hz ?_ ?_
   . intro u h
     exact h.elim
   . rintro⟨b,u⟩ h
     exact pP h
theorem m3p(s:List UInt8):Pf (y0t (s,T,A,B,())) (λy=>y.2=(s,T,A,B,())):=by
 unfold y0t v4h;dsimp only;refine pZ pT ?_;rintro⟨x,u⟩ -
 dsimp only;with_reducible repeat' (first|exact pN|apply pP|apply pX<;>intro _)
 . exact rfl
 . exact pZ pT λ_ _=>pP rfl
theorem m3q(a:List UInt8):Pf (y5i (a,())) (λy=>y.2.1=a):=by
 unfold y5i k4e;dsimp only;exact pZ pT λ_ _=>pP rfl
theorem m3r(l:List Int):Pf (y5k (T,A,B,l,())) (λy=>y.2=(T,A,B,l,())):=by
 unfold y5k k4f;dsimp only;with_reducible repeat' (first|exact pN|apply pP|apply pX<;>intro _)
 exact pZ pT λ_ _=>pP rfl
theorem m3s(hK:KT T A B)(l:List Int)(hl:l.length<=1000000000000)(hk:∃x∈l,kk x=true):Pf (x6t (T,A,B,l,())) (λy=>y.1=true):=by
 unfold x6t v4i;dsimp only;exact pZ (m3t hK l hl hk) λ_ h=>pP h
theorem m3o(hK:KT T A B)(at_:Int)(s:List UInt8)(l:List Int)(c:List UInt8)(d:Bool)(hl:l.length<=100000000000)(h0:at_<0->∃x∈l,kk x=true) :
 Pf (y0s (7,4,11,10,8,9,12,5,at_,s,T,A,B,l,c,d,())) (λy=>y.1≠0):=by
 unfold y0s v4g;dsimp only;refine pZ (P:=λy=>y.1=false->at_<0) (pP λh=>by
  have h':decide (at_>=0)=false:=h;simp only[decide_eq_false_iff_not]at h';omega) ?_
 rintro⟨b,at',u⟩ hb;dsimp only at hb ⊢;with_reducible repeat' (first|exact pN|apply pP|apply pX<;>intro _)
 . exact(by decide:(7:Int)≠0)
 . rename_i h1
   have hk:=h0 (hb h1);refine pZ (m3p s) ?_;rintro⟨b2,y⟩ hy;dsimp only at hy;subst hy;dsimp only;with_reducible repeat' (first|exact pN|apply pP|apply pX<;>intro _)
   . exact(by decide:(4:Int)≠0)
   . refine pZ (m3q s) ?_
     rintro⟨b3,s',u⟩ hs';dsimp only at hs' ⊢;with_reducible repeat' (first|exact pN|apply pP|apply pX<;>intro _)
     . exact(by decide:(11:Int)≠0)
     . refine pZ (m3r l) ?_
       rintro⟨b4,y⟩ hy;dsimp only at hy;subst hy;dsimp only;with_reducible repeat' (first|exact pN|apply pP|apply pX<;>intro _)
       . exact(by decide:(10:Int)≠0)
       . refine pZ (m3s hK l (by omega) hk) ?_
         rintro⟨b5,y⟩ hy;dsimp only at hy;subst hy;exact pP (by decide:(8:Int)≠0)
theorem m3i(hK:KT T A B)(s:List UInt8)(hs:s.length<=100000000000)(hk:∃x∈bi s,kk x=true):Pf (z5x (T,A,B,s,())) (λy=>y.1≠0):=by
 unfold z5x v4f;dsimp only;refine pZ (pA (d83 s (by omega)).pf (p83 s (by omega))) ?_;rintro⟨l,at_,u⟩ ⟨hl,hl'⟩;dsimp only at hl hl' ⊢;refine pZ (m3o hK at_ s l _ _ (by omega) λh=>(hl' h).mem hk) ?_;rintro⟨e,y⟩ h;exact pP h
theorem f4x:((List.range 256).all λn=>match j4i ((n:Int),())with|some (_,b,_) => !b || !kk (n:Int)|none=>true)=true:=by kernel_rfl
theorem m4a(c:UInt8):Pf (j4i ((c.toNat:Int),())) (λy=>y.2.1=true->kk (c.toNat:Int)=false):=by
 have h:=all_eq_true.1 f4x c.toNat (mem_range.2 c.toNat_lt)
 intro y hy hb;rw[hy]at h;obtain⟨a,b,u⟩:=y;dsimp only at h hb;rw[hb]at h;simpa using h
theorem m3v(s:List UInt8)(b:Int)(hs:s.length<=1000000000000):Pf (j6k (s,b,())) (λy=>(∃x∈bi s,kk x=true)->y.1<0\/∃x∈bi y.2.1,kk x=true):=by
 unfold j6k k4i;dsimp only;refine pZ (P:=Sum.elim (λ_=>True) (Sum.elim (λ_=>True) (λy=>∃k:Nat,y.2.1=s.drop k/\∀x∈bi (s.take k),kk x=false))) ?_ ?_
 . refine pL ?I ?h _ ?hv
   case I=>exact(λv=>∃(n w k:Int),0<=k/\k<=s.length/\(∀x∈bi (s.take k.toNat),kk x=false)/\v=(s,b,n,w,(s.length:Int),k,()))
   case hv=>exact⟨_,_,0,Int.le_refl _,by omega,λx hx=>(by cases hx),rfl⟩
   rintro v ⟨n,w,k,h0,h1,h2,rfl⟩;unfold j8c;dsimp only;with_reducible repeat' (first|exact pN|apply pP|apply pX<;>intro _)
   . have hlt:k.toNat<s.length:=by omega
     refine pZ (m4a _) ?_;rintro⟨d,ok,u⟩ hd;dsimp only at hd ⊢;have hst:ok=true->∀x∈bi (s.take (k.toNat+1)),kk x=false:=by
      intro hok x hx;rw[qk hlt,xq]at hx;rcases mem_append.1 hx with hx|hx
      . exact h2 x hx
      . have hx':x=((s[k.toNat].toNat:Nat):Int):=by simpa[bi]using hx
        have:=hd hok;rw[getD_lt hlt]at this;subst hx';exact this
     rw[qg (n:=k+1) (by omega)];with_reducible repeat' (first|exact pN|apply pP|apply pX<;>intro _)
     . trivial
     . trivial
     . trivial
     . rename_i h3 h4 h5
       refine pZ pT ?_;rintro⟨t,u⟩ -
       dsimp only;have hst':=hst h3;rw[show k.toNat+1=(k+1).toNat by omega]at hst';with_reducible repeat' (first|exact pN|apply pP|apply pX<;>intro _)
       . exact⟨_,rfl,hst'⟩
       . exact⟨_,_,_,by omega,by omega,hst',rfl⟩
   . trivial
 . intro z hz
   refine pS hz ?_ ?_
   . intro u _
     exact pP λ_ => .inl (by decide)
   . intro z2 hz2
     refine pS hz2 ?_ ?_
     . intro u _
       refine pZ (P:=λy=>y.1<0) ?_ ?_
       . refine pL ?I ?h _ ?hv
         case I=>exact(λ_=>True)
         case hv=>exact trivial
         intro v _;unfold j0q;exact pP (by decide:(-1:Int)<0)
       . rintro⟨a,b,u⟩ h
         exact pP λ_ => .inl h
     . rintro⟨a,b,u⟩ ⟨k,hk,hn⟩
       dsimp only at hk;subst hk;refine pP ?_;rintro⟨x,hx,hxk⟩;rw[<-take_append_drop k s,xq]at hx;rcases mem_append.1 hx with hx|hx
       . rw[hn x hx]at hxk;cases hxk
       . exact .inr ⟨x,hx,hxk⟩
theorem m3w(i:Int)(l v:List Int):Pf (j4h (i,l,v,())) (λy=>∀z∈l,z∈y.1):=by
 unfold j4h;dsimp only;cases h:((decide (0<=i)&&decide (i<=(l.length:Int)))&&(decide (v.length=1)&&decide (l.length<=1000000000000)))with
 | false=>exact pN
 | true =>
  refine pP λz hz => ?_;rw[<-take_append_drop i.toNat l]at hz;simp only[mem_append]at hz ⊢;rcases hz with hz|hz
  . exact .inl (.inl hz)
  . exact .inr hz
theorem k1b(s:List UInt8)(out:List Int)(hs:s.length<=1000000000000)(h:(∃x∈bi s,kk x=true)\/∃x∈out,kk x=true):Pf (q2d (s,out,())) (λy=>y.1=true->∃x∈y.2.1,kk x=true):=by
 unfold q2d j7t;dsimp only;refine pZ (P:=Sum.elim (λy=>∃x∈y.1,kk x=true) (λy=>y.1=false)) ?_ ?_
 . refine pL ?I ?h _ ?hv
   case I=>exact(λv=>∃(s:List UInt8) (a b c:Int) (d:Bool) (out:List Int),s.length<=1000000000000/\((∃x∈bi s,kk x=true)\/∃x∈out,kk x=true)/\v=(s,a,b,c,d,out,()))
   case hv=>exact⟨_,_,_,_,_,_,hs,h,rfl⟩
   rintro v ⟨s,a,b,c,d,out,hs,h,rfl⟩;unfold j7u;dsimp only;with_reducible repeat' (first|exact pN|apply pP|apply pX<;>intro _)
   . refine pZ (pA (b3y s c hs).pf (m3v s c hs)) ?_
     rintro⟨n,rest,u⟩ ⟨hd,hr⟩;dsimp only at hd hr ⊢;with_reducible repeat' (first|exact pN|apply pP|apply pX<;>intro _)
     . exact rfl
     . exact rfl
     . rename_i hneg _
       refine pZ pT ?_;rintro⟨z,u⟩ -
       dsimp only;with_reducible repeat' (first|exact pN|apply pP|apply pX<;>intro _)
       . exact rfl
       . refine pZ pT ?_
         rintro⟨ok,u⟩ -
         dsimp only;with_reducible repeat' (first|exact pN|apply pP|apply pX<;>intro _)
         . exact rfl
         . refine pZ (m3w _ _ _) ?_
           rintro⟨o2,u⟩ ho;dsimp only at ho ⊢;refine pP ⟨_,_,_,_,_,_,by omega,?_,rfl⟩;rcases h with h|⟨x,hx,hxk⟩
           . exact .inl ((hr h).resolve_left hneg)
           . exact .inr ⟨x,ho x hx,hxk⟩
   . rename_i he
     rcases h with⟨x,hx,hxk⟩|h
     . have:s=[]:=by simpa using he
       subst this;cases hx
     . exact h
 . intro z hz
   refine pS hz ?_ ?_
   . rintro⟨a,u⟩ ha
     exact pP λ_=>ha
   . rintro⟨a,u⟩ ha
     dsimp only at ha;exact pP λh=>by rw[ha]at h;cases h
theorem m3u(s:List UInt8)(c:Int):Pf (j6j (s,c,())) (λy=>0<=y.1->y.1<s.length/\((s.getD y.1.toNat 0).toNat:Int)=c):=by
 unfold j6j k4h;dsimp only;refine pZ (P:=λy=>0<=y.1->y.1<s.length/\((s.getD y.1.toNat 0).toNat:Int)=c) ?_ (λ_ h=>pP h);unfold v2f k4x;dsimp only;refine pZ (P:=Sum.elim (λ_=>True) (λy=>0<=y.1->y.1<s.length/\((s.getD y.1.toNat 0).toNat:Int)=c)) ?_ ?_
 . refine pL ?I ?h _ ?hv
   case I=>exact(λv=>∃k:Int,v=(s,c,k,()))
   case hv=>exact⟨_,rfl⟩
   rintro v ⟨k,rfl⟩;unfold j8e;dsimp only;with_reducible repeat' (first|exact pN|apply pP|apply pX<;>intro _)
   . rename_i h1 h2 h3
     exact λ_=>⟨by omega,h3⟩
   . exact⟨_,rfl⟩
   . trivial
 . intro z hz
   refine pS hz ?_ ?_
   . intro u _
     exact pP λh=>by cases h
   . rintro⟨a,u⟩ h
     exact pP h
theorem m3k(s:List UInt8)(hs:s.length<=1000000000000)(h:∃x∈bi s,kk x=true):Pf (y5g (s,())) (λy=>y.2.1=true->∃x∈y.1,kk x=true):=by
 unfold y5g k3r;dsimp only;refine pZ pT ?_;rintro⟨e,u⟩ -
 dsimp only;with_reducible repeat' (first|exact pN|apply pP|apply pX<;>intro _)
 . exact λh=>by cases h
 . refine pZ (m3u s 45) ?_
   rintro⟨k,u⟩ hk;dsimp only at hk ⊢;refine pX (λhpos => ?_) (λ_ => ?_)
   . have hk':=hk (by omega)
     have hlt:k.toNat<s.length:=by omega
     rw[qg (n:=k+1) (by omega)];with_reducible repeat' (first|exact pN|apply pP|apply pX<;>intro _)
     have hsplit:(∃x∈bi (s.drop (k+1).toNat),kk x=true)\/∃x∈List.map (λb:UInt8=>(b.toNat:Int)) (List.take k.toNat s),kk x=true:=by
      obtain⟨x,hx,hxk⟩:=h;rw[<-take_append_drop (k+1).toNat s,xq,show (k+1).toNat=k.toNat+1 by omega,qk hlt,xq]at hx;rcases mem_append.1 hx with hx|hx
      . rcases mem_append.1 hx with hx|hx
        . exact .inr ⟨x,hx,hxk⟩
        . have hx':x=((s[k.toNat].toNat:Nat):Int):=by simpa[bi]using hx
          have h2:=hk'.2;rw[getD_lt hlt]at h2;rw[hx',h2]at hxk;cases hxk
      . exact .inl ⟨x,by rw[show (k+1).toNat=k.toNat+1 by omega];exact hx,hxk⟩
     refine pZ (k1b _ _ (by simp only[length_drop];omega) hsplit) ?_;rintro⟨a,b,u⟩ h;exact pP h
   . refine pZ (k1b _ _ hs (.inl h)) ?_
     rintro⟨a,b,u⟩ h;exact pP h
theorem m2u(f x:List UInt8):Pf (q3m (f,x,())) (λy=>y.2.1=true->f=x++y.1):=by
 unfold q3m x7g;dsimp only;refine pZ (P:=λy=>y.2.1=true->f=x++y.1) ?_ (λ_ h=>pP h);unfold y0o x7m;dsimp only;refine pZ (P:=λy=>y.1=true->f.take x.length=x) ?_ ?_
 . unfold q3l j4j
   dsimp only;with_reducible repeat' (first|exact pN|apply pP|apply pX<;>intro _)
   . intro h
     have h':(List.take x.length f==x)=true:=h;exact eq_of_beq h'
   . exact λh=>by cases h
 . rintro⟨b,u⟩ hb
   dsimp only at hb ⊢;with_reducible repeat' (first|exact pN|apply pP|apply pX<;>intro _)
   . exact λh=>by cases h
   . rename_i h1 h2
     intro _;have:=hb h1;conv=>lhs;rw[<-take_append_drop x.length f,this]
     rfl
theorem g5o(s:List UInt8)(hK:KT T A B)(hs:s.length<=100000000000)(hk:s=[]\/∃x∈bi s,kk x=true):Pf (z5x (T,A,B,s,())) (λy=>y.1≠0):=by
 rcases hk with rfl|hk
 . unfold z5x v4f
   dsimp only;refine pZ pT ?_;rintro⟨l,at_,u⟩ -
   dsimp only;refine pZ (P:=λy=>y.1≠0) ?_ (λ_ h=>pP h);unfold y0s v4g;dsimp only;refine pZ pT ?_;rintro⟨b,at',u⟩ -
   dsimp only;with_reducible repeat' (first|exact pN|apply pP|apply pX<;>intro _)
   . exact(by decide:(7:Int)≠0)
   . refine pZ (P:=λy=>y.1=true) ?_ ?_
     . unfold y0t v4h
       dsimp only;have e:C21 ([],())=some (-1,()):=by kernel_rfl
       rw[e];exact pP rfl
     . rintro⟨b,y⟩ hb
       dsimp only at hb;subst hb;exact pP (by decide:(4:Int)≠0)
 . exact m3i hK s hs hk
theorem m3d(h:TK T A B)(hK:KT T A B)(s:List UInt8)(hs:s.length<=6000000)(hk:s=[]\/∃x∈bi s,kk x=true):Pf (z5r (T,A,B,s,())) (λy=>y.2.2.1≠0):=by
 unfold z5r k3i;dsimp only;refine pZ (pA (k8l h s (by omega)).pf (d0a h hK s (by omega))) ?_;rintro⟨f,ok,u⟩ ⟨hf,hf'⟩;dsimp only at hf hf' ⊢;refine pZ (pA (b3g f _).pf (m2u f _)) ?_;rintro⟨rest,is,u⟩ ⟨hr,hr'⟩;dsimp only at hr hr' ⊢;with_reducible repeat' (first|exact pN|apply pP|apply pX<;>intro _)
 . exact(by decide:(7:Int)≠0)
 . rename_i hok
   have hfk:f=[]\/∃x∈bi f,kk x=true:=by
    rcases hk with rfl|hk
    . exact .inl (List.eq_nil_of_length_eq_zero (by simpa using hf))
    . exact(hf' hok).imp id λhR=>hR.mem hk
   refine pZ (d21 f (by omega)).pf ?_;rintro⟨e,u⟩ he;dsimp only at he ⊢;with_reducible repeat' (first|exact pN|apply pP|apply pX<;>intro _)
   . refine pZ pT ?_
     rintro⟨l,at_,u⟩ -
     refine pZ pT ?_;rintro⟨code,b,u⟩ -
     dsimp only;with_reducible repeat' (first|exact pN|apply pP|apply pX<;>intro _)
     refine pZ (g5o f hK (by omega) hfk) ?_;rintro⟨w,u⟩ hw;exact pP hw
   . refine pZ (m3j f (by omega) (he.2 (by omega)) hfk) ?_
     rintro⟨w,u⟩ hw;exact pP hw
   . rename_i h1 his
     have hfr:=hr' his;have hk2:∃x∈bi rest,kk x=true:=by
      rcases hfk with hf0|⟨x,hx,hxk⟩
      . rw[hf0]at hfr;cases hfr
      . rw[hfr,xq]at hx
        rcases mem_append.1 hx with hx|hx
        . have:∀x∈bi [120,110,45,45],kk x=false:=by decide
          rw[this x hx]at hxk;cases hxk
        . exact⟨x,hx,hxk⟩
     refine pZ (pA (b3q rest (by omega)).pf (m3k rest (by omega) hk2)) ?_;rintro⟨l,ok2,u⟩ ⟨hl,hl'⟩;dsimp only at hl hl' ⊢;with_reducible repeat' (first|exact pN|apply pP|apply pX<;>intro _)
     . exact(by decide:(12:Int)≠0)
     . exact(by decide:(5:Int)≠0)
     . rename_i hok2 _
       have hlk:=hl' hok2;refine pZ (pA (v0k l (by omega)).pf (f4q l (by omega))) ?_;rintro⟨us,b,u⟩ ⟨hu,hu1,hu2⟩;dsimp only at hu hu1 hu2 ⊢;have huk:us=[]\/∃x∈bi us,kk x=true:=by
        cases b with
        | true=>exact .inr ((hu1 rfl).mem hlk)
        | false=>exact .inl (hu2 rfl)
       refine pZ (g5o us hK (by omega) huk) ?_;rintro⟨w,u⟩ hw;dsimp only at hw ⊢;with_reducible repeat' (first|exact pN|apply pP|apply pX<;>intro _)
       . exact hw
       . rename_i hz
         exact(hw hz).elim
theorem m2w(h:TK T A B)(hK:KT T A B)(s:List UInt8)(hs:s.length<=6000000)(hk:s=[]\/∃x∈bi s,kk x=true):Pf (z5n (T,A,B,s,())) (λy=>y.2.1≠0):=by
 unfold z5n k3d;dsimp only;refine pZ (m3d h hK s hs hk) ?_;rintro⟨a,b,e,u⟩ he;dsimp only at he ⊢;with_reducible repeat' (first|exact pN|apply pP|apply pX<;>intro _)
 . exact he
 . rename_i hz
   exact(he hz).elim
end
theorem j3t(new:List UInt8)(d:Bool):∀(k:Nat) (s:List UInt8) (a b:Nat),a<=b->run d a (bi s)<=run d b (bi (Lib.replaceK [227,128,130] new k s))
 | 0,s,a,b,h=>j3q d _ h
 | k+1,s,a,b,h=>by
  rcases Lib.index_spec s [227,128,130]with⟨hi,-⟩|⟨i,hi,h1,h2,-⟩
  . rw[Lib.replaceK,if_pos (by rw[hi];rfl)]
    exact j3q d _ h
  . rw[Lib.replaceK_hit _ new k s i hi]
    have hfit:i+[(227:UInt8),128,130].length<=s.length:=z4j hi;rw[Lib.occAt_iff_take _ _ _ hfit]at h2;have h3:(s.drop i).take 3=[227,128,130]:=eq_of_beq h2;have e:s=s.take i++([227,128,130]++s.drop (i+3)):=by
     conv=>lhs;rw[<-take_append_drop i s,<-take_append_drop 3 (s.drop i),h3,drop_drop]
    rw[show i+[(227:UInt8),128,130].length=i+3 from rfl];generalize hD:s.drop (i+3)=D at e ⊢;generalize hP:s.take i=P at e ⊢;rw[e,xq,xq,xq,xq,xu,xu,xu,xu];refine j3t new d k D _ _ ?_;rw[j3r d (bi [227,128,130]) _ (by simp[bi]) (by decide)];split
    . rename_i h2
      exact q7g d _ (le_trans h2 (j3q d _ h))
    . exact zero_le _
theorem y8f(s new:List UInt8):Rr (bi s) (bi (Lib.replaceAll s [227,128,130] new)):=by
 intro d;unfold Lib.replaceAll Lib.replace;split
 . exact le_refl _
 . exact j3t new d _ s 1 1 (le_refl _)
theorem j3f(c:UInt8):∀l:List UInt8,0<=Lib.indexByte l c->l[(Lib.indexByte l c).toNat]? = some c
 | [],h=>by simp[Lib.indexByte]at h
 | b::l,h=>by
  have ih:=j3f c l;have hge:=Lib.indexByte_ge l c;simp only[Lib.indexByte]at h ⊢;split
  . rename_i hb
    have:b=c:=by simpa using hb
    simp[this]
  . rename_i hb
    rw[if_neg hb]at h;split
    . rename_i hm
      rw[if_pos hm]at h;omega
    . rename_i hm
      have h0:0<=Lib.indexByte l c:=by
       have:Lib.indexByte l c ≠ -1:=by simpa using hm
       omega
      rw[show (Lib.indexByte l c+1).toNat=(Lib.indexByte l c).toNat+1 by omega,List.getElem?_cons_succ];exact ih h0
theorem m2y(s:List UInt8)(c:Int):Pf (q7z (s,c,())) (λy=>0<=y.1->s[y.1.toNat]? = some c.toNat.toUInt8):=by
 unfold q7z x7k;dsimp only;refine pZ (P:=λy=>0<=y.1->s[y.1.toNat]? = some c.toNat.toUInt8) (pP λh=>j3f _ s h) λ_ h=>pP h
theorem d0c(s:List UInt8):Pf (j6i (s,[46],())) (λy=>0<=y.1->s[y.1.toNat]? = some 46):=by
 unfold j6i y5t;dsimp only;have e0:((([46]:List UInt8).length:Int)==0)=false:=rfl;rw[e0];simp only[cond_false];refine pZ (P:=λy=>0<=y.1->s[y.1.toNat]? = some 46) ?_ λ_ h=>pP h;unfold q0q q5l;dsimp only;with_reducible repeat' (first|exact pN|apply pP|apply pX<;>intro _)
 . rename_i h
   have:[46]=s:=by simpa using h
   subst this;exact λ_=>rfl
 . exact pZ (m2y s 46) λ_ h=>pP h
 all_goals (exfalso;simp at *)
theorem m2t(s:List UInt8)(hs:s.length<=1000000000000):Pf (q1c (s,[46],())) (λy=>(y.2.2.1=true->s=y.1++([46]++y.2.1))/\(y.2.2.1=false->y.1=s)):=by
 unfold q1c x7f;dsimp only;refine pZ (P:=λy=>(y.2.2.1=true->s=y.1++([46]++y.2.1))/\(y.2.2.1=false->y.1=s)) ?_ (λ_ h=>pP h);unfold y5d x7l;dsimp only;refine pZ (d0c s) ?_;rintro⟨k,u⟩ hk;dsimp only at hk ⊢;rw[show (([46]:List UInt8).length:Int)=1 from rfl];with_reducible repeat' (first|exact pN|apply pP|apply pX<;>intro _)
 . rename_i h1 h2 h3
   refine⟨λ_ => ?_,λh=>by cases h⟩;have h4:=hk h1;rw[qg (n:=k+1) (by omega)];have hlt:k.toNat<s.length:=by
    rcases lt_or_ge k.toNat s.length with h|h
    . exact h
    . rw[getElem?_eq_none h]at h4;cases h4
   rw[List.getElem?_eq_getElem hlt,Option.some.injEq]at h4;dsimp only;rw[show (k+1).toNat=k.toNat+1 by omega,<-h4,List.singleton_append,List.getElem_cons_drop,take_append_drop]
 . exact⟨λh=>(by cases h),λ_=>rfl⟩
theorem z4u:∀(n:Nat) (s:List UInt8) (ps:List (List UInt8)),s.length<=1000000000000->kl n s=some ps->1<=run true 1 (bi s)->∃p∈ps,p=[]\/∃x∈bi p,kk x=true
 | 0,_,_,_,h,_=>by cases h
 | n+1,s,ps,hs,h,hr=>by
  simp only[kl]at h;cases hc:q1c (s,[46],())with
  | none=>rw[hc]at h;cases h
  | some y =>
   obtain⟨a,b,ok,u⟩:=y;obtain⟨h1,h2⟩:=m2t s hs _ hc;dsimp only at h1 h2;rw[hc]at h;simp only[Option.bind_some]at h;cases ok with
   | true =>
    simp only[cond_true,map_eq_some_iff]at h;obtain⟨qs,hq,rfl⟩:=h;by_cases ha:a=[]
    . exact⟨a,mem_cons_self,.inl ha⟩
    by_cases hk:∃x∈bi a,kk x=true
    . exact⟨a,mem_cons_self,.inr hk⟩
    have hs':=h1 rfl;have hn:∀x∈bi a,kk x=false:=λx hx=>by
     cases hkx:kk x with
     | false=>rfl
     | true=>exact(hk ⟨x,hx,hkx⟩).elim
    rw[hs',xq,xq,xu,xu,z5b true (bi a) 1 (by simpa[bi]using ha) (by omega) hn]at hr;have hb:b.length<=1000000000000:=by
     have:=congrArg List.length hs';simp only[length_append]at this;omega
    obtain⟨p,hp,hp'⟩:=z4u n b qs hb hq hr;exact⟨p,mem_cons_of_mem _ hp,hp'⟩
   | false =>
    simp only[cond_false,Option.some.injEq]at h;subst h;have ha:=h2 rfl;subst ha;refine⟨a,List.mem_singleton_self a,?_⟩;by_cases ha:a=[]
    . exact .inl ha
    refine .inr ?_;by_cases hk:∃x∈bi a,kk x=true
    . exact hk
    . have hn:∀x∈bi a,kk x=false:=λx hx=>by
       cases hkx:kk x with
       | false=>rfl
       | true=>exact(hk ⟨x,hx,hkx⟩).elim
      rw[z5b true (bi a) 1 (by simpa[bi]using ha) (by omega) hn]at hr;omega
theorem y2e(A U:List UInt8->Option (List UInt8×Int)):∀(ls ps qs:List (List UInt8)) r,q3f A U ls ps qs=some r->r.1=0->∀x∈ls,∃a,A x=some (a,0)
 | [],_,_,_,_,_,x,hx=>by cases hx
 | y::ls,ps,qs,r,h,h0,x,hx=>by
  simp only[q3f]at h;cases ha:A y with
  | none=>rw[ha]at h;cases h
  | some a =>
   rw[ha]at h;simp only[Option.bind_some]at h;by_cases hz:a.2=0
   . rw[inF hz]at h
     simp only[cond_false]at h;rcases mem_cons.1 hx with rfl|hx
     . exact⟨a.1,by rw[ha,<-hz]⟩
     . cases hu:U y with
       | none=>rw[hu]at h;cases h
       | some u =>
        rw[hu]at h;exact y2e A U ls _ _ r h h0 x hx
   . rw[inT hz]at h
     simp only[cond_true,Option.some.injEq]at h;subst h;exact(hz h0).elim
section
variable {T:List R6} {A:List R4} {B:List R3}
theorem y7q(s f:List UInt8)(ok:Bool)(hf:f.length<=5000000)(hR:ok=true->f=[]\/Rr (bi s) (bi f))(hr:1<=run true 1 (bi s))(ls:List (List UInt8))(h:q0y f ok=some (ls,0)):∃p∈ls,p=[]\/∃x∈bi p,kk x=true:=by
 unfold q0y at h;cases ok with
 | false=>simp at h
 | true =>
  simp only[Bool.not_true,cond_false]at h;cases hfe:f.isEmpty with
  | true=>rw[hfe]at h;simp at h
  | false =>
   rw[hfe]at h;simp only[cond_false]at h;rw[decide_eq_true (by omega)]at h;simp only[cond_true]at h;rcases hR rfl with rfl|hR
   . cases hfe
   cases hp:kl (f.length+2) (Lib.replaceAll f [227,128,130] [46])with
   | none=>rw[hp]at h;cases h
   | some ps =>
    rw[hp]at h;simp only[Option.bind_some]at h;have hl:=q7t f [227,128,130] [46] (by decide);have hb:=z4u _ _ ps (by omega) hp (le_trans hr (le_trans (hR true) (y8f f [46] true)));cases h1:decide (ps.length<=1000000000000)with
    | false=>rw[h1]at h;cases h
    | true =>
     rw[h1]at h;simp only[cond_true]at h;cases h2:decide (32<ps.length)with
     | true=>rw[h2]at h;simp at h
     | false =>
      rw[h2]at h;simp only[cond_false,Option.some.injEq,Prod.mk.injEq,and_true]at h;subst h;exact hb
theorem m2s(h:TK T A B)(hK:KT T A B)(s:List UInt8)(hs:s.length<=3000):Pf (z5k (T,A,B,s,())) (λy=>y.2.2.1=0->run true 1 (bi s)=0):=by
 by_cases hr:1<=run true 1 (bi s)
 . refine pM (P:=λy=>y.2.2.1≠0) ?_ (λy h0 h1=>(h0 h1).elim)
   unfold z5k;dsimp only;refine pZ (pA (k8l h s (by omega)).pf (d0a h hK s (by omega))) ?_;rintro⟨f,ok,u⟩ ⟨hf,hf'⟩;dsimp only at hf hf' ⊢;obtain⟨ls,c,e,hll,hls⟩:=j3h f ok (by omega);rw[e];simp only[Option.bind_some];with_reducible repeat' (first|exact pN|apply pP|apply pX<;>intro _)
   . assumption
   . rename_i hc h32
     have hc':c=0:=hc;subst hc';obtain⟨p,hp,hpb⟩:=y7q s f ok (by omega) hf' hr ls e;refine pZ (P:=λr=>r.1≠0) ?_ ?_
     . intro r er h0
       obtain⟨a,ha⟩:=y2e _ _ ls [] [] r er h0 p hp;simp only[map_eq_some_iff]at ha;obtain⟨y,ey,hy⟩:=ha;have:=m2w h hK p (by have:=hls p hp;omega) hpb y ey;simp only[Prod.mk.injEq]at hy;exact this hy.2
     . intro r hr0 y ey
       simp only[map_eq_some_iff]at ey;obtain⟨o,eo,rfl⟩:=ey;unfold y4h at eo;rw[inT hr0]at eo;simp only[cond_true,Option.some.injEq]at eo;subst eo;exact hr0
 . exact pM pT λ_ _ _=>by omega
end
def ktB:Bool:=match C18 ()with
 | some (T,A,B,_)=>(List.range 128).all λn => !kk (n:Int)||((match xj (T,A,B,(n:Int),())with|some (c,_)=>c==0|none=>false)&&(match j4e (T,A,B,(n:Int),())with|some (c,_)=>c==(n:Int)|none=>false)&&(match j4f (T,A,B,(n:Int),())with|some (c,_) => !c|none=>false))
 | none=>false
theorem b4v:ktB=true:=by kernel_rfl
theorem kt{T A B}(h18:C18 ()=some (T,A,B,())):KT T A B:=by
 have h:=b4v;unfold ktB at h;rw[h18]at h;simp only[all_eq_true]at h;have key:∀x,kk x=true->(match xj (T,A,B,x,())with|some (c,_)=>c==0|none=>false)=true/\(match j4e (T,A,B,x,())with|some (c,_)=>c==x|none=>false)=true/\(match j4f (T,A,B,x,())with|some (c,_) => !c|none=>false)=true:=by
  intro x hx;have h1:=(q4m x).1 hx;have h2:=h x.toNat (mem_range.2 (by omega))
  rw[show ((x.toNat:Nat):Int)=x by omega,hx]at h2;simp only[Bool.not_true,Bool.false_or,and_eq_true]at h2;exact⟨h2.1.1,h2.1.2,h2.2⟩
 refine⟨λx hx => ?_,λx hx => ?_,λx hx => ?_⟩
 . have:=(key x hx).1
   cases hc:xj (T,A,B,x,())with
   | none=>rw[hc]at this;cases this
   | some y =>
    obtain⟨c,u⟩:=y;rw[hc]at this;have:c=0:=by simpa using this
    subst this;rfl
 . have:=(key x hx).2.1
   cases hc:j4e (T,A,B,x,())with
   | none=>rw[hc]at this;cases this
   | some y =>
    obtain⟨c,u⟩:=y;rw[hc]at this;have:c=x:=by simpa using this
    subst this;rfl
 . have:=(key x hx).2.2
   cases hc:j4f (T,A,B,x,())with
   | none=>rw[hc]at this;cases this
   | some y =>
    obtain⟨c,u⟩:=y;rw[hc]at this;have:c=false:=by simpa using this
    subst this;rfl
theorem xp(p:UInt8->Bool)(h:(List.range 256).all (λn=>p (UInt8.ofNat n))=true)(c:UInt8):p c=true:=by
 have h1:=all_eq_true.1 h c.toNat (mem_range.2 (by have:=c.toNat_lt;omega))
 simpa using h1
def gB(o:Option (Bool×Unit)):Bool:=match o with|some (b,_)=>b|none=>false
def okB(o:Option (Bool×Unit)):Bool:=match o with|some (_,_)=>true|none=>false
theorem z1z{o:Option (Bool×Unit)}(h:okB o=true):o=some (gB o,()):=by
 cases o with
 | none=>cases h
 | some x=>rfl
def jk(c:UInt8):Bool:=gB (C90 ((c.toNat:Int),()))
def jy(c:UInt8):Bool:=gB (xx ((c.toNat:Int),()))
def jz(c:UInt8):Bool:=gB (yn ((c.toNat:Int),()))
def x6b(c:UInt8):Int:=match q3k ([60,62,58,59,64,44,46],(c.toNat:Int),())with|some (i,_)=>i|none=>0
def q3j(c:UInt8):Bool:=decide (x6b c>=0)
theorem c17(c:UInt8):C90 ((c.toNat:Int),())=some (jk c,()):=z1z (xp (λc=>okB (C90 ((c.toNat:Int),()))) (by kernel_rfl) c)
theorem c32(c:UInt8):xx ((c.toNat:Int),())=some (jy c,()):=z1z (xp (λc=>okB (xx ((c.toNat:Int),()))) (by kernel_rfl) c)
theorem c31(c:UInt8):yn ((c.toNat:Int),())=some (jz c,()):=z1z (xp (λc=>okB (yn ((c.toNat:Int),()))) (by kernel_rfl) c)
theorem v0e(c:UInt8):q3k ([60,62,58,59,64,44,46],(c.toNat:Int),())=some (x6b c,()):=rfl
theorem gd{α:Type}{pre r:List α}{c d:α}{p:Nat}(h:pre.length=p):(pre++c::r).getD p d=c:=by subst h;simp
theorem dr{α:Type}{pre r:List α}{p:Nat}(h:pre.length=p):List.drop p (pre++r)=r:=by subst h;simp
theorem Sk:(∀{p:Prop} [Decidable p],p->decide p=true)/\(∀{p:Prop} [Decidable p],¬p->decide p=false)/\(∀{α:Type} (a b:α),(bif true then a else b)=a)/\(∀{α:Type} (a b:α),(bif false then a else b)=b) /\
 (∀b:Bool,(b&&b)=b)/\(∀b:Bool,(true&&b)=b)/\(∀b:Bool,(b&&true)=b)/\(∀b:Bool,(false&&b)=false)/\(∀b:Bool,(b&&false)=false)/\(!true)=false/\(!false)=true /\
 (∀{α:Type} {a b:List α},(a++b).length=a.length+b.length)/\(∀{α:Type} {a:α} {l:List α},(a::l).length=l.length+1)/\(∀{α:Type},([]:List α).length=0)/\(∀n:Nat,((n:Int)).toNat=n) /\
 (∀{a b:Int},a=b->(a==b)=true)/\(∀{a b:Int},a≠b->(a==b)=false)/\(∀{a b:Int},a≠b->(a != b)=true)/\(∀{a b:Int},a=b->(a != b)=false) /\
 (∀n:Nat,n<=9223372036854775806->IntKind.i64.wrap ((n:Int)+1)=((n+1:Nat):Int))/\(∀{α:Type} {pre r:List α} {c d:α} {p:Nat},pre.length=p->(pre++c::r).getD p d=c)/\(∀{α:Type} {pre r:List α} {p:Nat},pre.length=p->List.drop p (pre++r)=r) /\
 (∀{α β:Type} (a:α) (f:α->Option β),(some a).bind f=f a)/\(∀{α β γ:Type} (f:α->γ) (g:β->γ) (x:α),Sum.elim f g (Sum.inl x)=f x)/\(∀{α β γ:Type} (f:α->γ) (g:β->γ) (x:β),Sum.elim f g (Sum.inr x)=g x)/\(∀b:UInt8,UInt8.ofNat ((b.toNat:Int)).toNat=b)/\∀b:UInt8,UInt8.ofNat b.toNat=b :=
 ⟨@decide_eq_true,@decide_eq_false,λ_ _=>rfl,λ_ _=>rfl,Bool.and_self,Bool.true_and,Bool.and_true,Bool.false_and,Bool.and_false,rfl,rfl,@λ_ _ _=>length_append,@λ_ _ _=>length_cons,@λ_=>length_nil,toNat_natCast,@ibT,@ibF,@inT,@inF,wrN,@gd,@dr,@Option.bind_some,λ_ _ _=>rfl,λ_ _ _=>rfl,byte_back,x5p⟩
theorem shift{α:Type}(pre:List α)(c:α)(r:List α):pre++c::r=(pre++[c])++r:=by simp
theorem c27(k e:Int)(s:List UInt8)(at_ bad err:Int):ya (k,e,s,at_,bad,err,())=some (s,at_,k,e,()):=rfl
def al:List UInt8->Nat
 | []=>0
 | c::r=>bif jk c then al r+1 else 0
theorem v5l:∀r,al r<=r.length
 | []=>le_refl _
 | c::r=>by have:=v5l r;simp only[al];cases jk c<;>simp;omega
theorem l21(f bad err:Int):∀(r pre:List UInt8) (p n:Nat),pre.length=p->r.length<n->p+r.length<=140737488355328 ->
 qc (q5i C90 q2a) n (f,pre++r,(p:Int),bad,err,())=some (f,pre++r,((p+al r:Nat):Int),bad,err,())
 | [],pre,p,n+1,hp,hn,hb=>by
  refine qe ?_;simp (disch:=(first|omega|(simp only[jf];omega))) only[q5i,q2a,j0n,Sk,al,append_nil,add_zero]
 | c::r,pre,p,n+1,hp,hn,hb=>by
  simp only[length_cons]at hn hb;cases h:jk c with
  | true =>
   rw[qm (v':=(f,pre++c::r,((p+1:Nat):Int),bad,err,())) (by simp (disch:=(first|omega|(simp only[jf];omega))) only[q5i,q2a,j0n,Sk,c17,h])];rw[shift,l21 f bad err r (pre++[c]) (p+1) n (by simp[hp]) (by omega) (by omega)];simp only[al,h,cond_true,add_assoc,add_comm 1]
  | false =>
   refine qe ?_;simp (disch:=(first|omega|(simp only[jf];omega))) only[q5i,q2a,j0n,Sk,c17,h,al,add_zero]
theorem c21(pre r:List UInt8)(p:Nat)(bad err:Int)(hp:pre.length=p)(hb:p+r.length<=140737488355328) :
 y0j (pre++r,(p:Int),bad,err,())=some (r.take (al r),pre++r,((p+al r:Nat):Int),bad,err,()):=by
 have:=v5l r;show k2y C90 q9f (pre++r,(p:Int),bad,err,())=_;have hl:q9f ((p:Int),pre++r,(p:Int),bad,err,())=_:=l21 p bad err r pre p qz hp (by unfold qz;omega) hb;simp (disch:=(first|omega|(simp only[jf];omega))) only[k2y,hl,Sk];rw[show List.drop p (List.take (p+al r) (pre++r))=r.take (al r) by rw[<-hp,take_append,take_of_length_le (by omega),drop_append];simp]
def wl:List UInt8->Nat
 | []=>0
 | c::r=>bif jy c then wl r+1 else
  match r with
  | b::d::r'=>bif(c==13&&b==10)&&jy d then wl r'+3 else 0
  | _=>0
theorem y4z:∀r,wl r<=r.length
 | []=>le_refl _
 | [c]=>by simp only[wl];cases jy c<;>simp
 | [c,b]=>by have:=y4z [b];simp only[wl]at *;cases jy c<;>cases jy b<;>simp
 | c::b::d::r'=>by
  have h1:=y4z (b::d::r');have h2:=y4z r';rw[wl];cases jy c
  . simp only[cond_false];cases (c==13&&b==10)&&jy d<;>simp;omega
  . simp only[cond_true,length_cons]at *;omega
theorem g9k(c b:UInt8):([c,b]==[13,10])=(c==13&&b==10):=by
 rw[Bool.eq_iff_iff];simp
theorem v5w(f p:Nat)(s:List UInt8)(bad err:Int)(b:Bool)(hf:f<=p)(hp:p<=s.length)(hb:p<=140737488355328) :
 vh ((f:Int),b,s,(p:Int),bad,err,())=some (bif b then .inl ((f:Int),s,((p+3:Nat):Int),bad,err,())else .inr (List.drop f (List.take p s),s,(p:Int),bad,err,())):=by
 cases b with
 | true=>simp only[vh,j7m,cond_true];rw[wr (by omega) (by omega)];rfl
 | false=>simp (disch:=(first|omega|(simp only[jf];omega))) only[vh,j7m,Sk]
theorem m4p{c:UInt8}{r:List UInt8}(h:jy c=true):wl (c::r)=wl r+1:=by
 match r with
 | []=>simp[wl,h]
 | [b]=>simp[wl,h]
 | b::d::r=>rw[wl,h];rfl
theorem x6g{c:UInt8}{r:List UInt8}(h:jy c=false)(h2:r.length<2):wl (c::r)=0:=by
 match r,h2 with
 | [],_=>simp[wl,h]
 | [b],_=>simp[wl,h]
 | b::d::r,h2=>simp at h2;omega
theorem l26(f:Nat)(bad err:Int):∀(m:Nat) (r pre:List UInt8) (p n:Nat),r.length<=m->pre.length=p->r.length<n->f<=p->p+r.length<=140737488355328 ->
 qc (yp xx vh) n ((f:Int),pre++r,(p:Int),bad,err,())=some (.inl ((f:Int),pre++r,((p+wl r:Nat):Int),bad,err,())) \/
 qc (yp xx vh) n ((f:Int),pre++r,(p:Int),bad,err,())=some (.inr (List.drop f (List.take (p+wl r) (pre++r)),pre++r,((p+wl r:Nat):Int),bad,err,()))
 | _,_,_,_,0,_,_,hn,_,_=>by omega
 | m,[],pre,p,n+1,hm,hp,hn,hf,hb=>by
  refine .inl (qe ?_);simp (disch:=(first|omega|(simp only[jf];omega))) only[yp,Sk,wl,append_nil,add_zero]
 | 0,c::r,pre,p,n+1,hm,hp,hn,hf,hb=>by simp at hm
 | m+1,c::r,pre,p,n+1,hm,hp,hn,hf,hb=>by
  simp only[length_cons]at hn hb hm;cases h:jy c with
  | true =>
   rw[qm (v':=((f:Int),pre++c::r,((p+1:Nat):Int),bad,err,())) (by simp (disch:=(first|omega|(simp only[jf];omega))) only[yp,Sk,c32,h,getD_cons_zero])];rw[shift];have:=l26 f bad err m r (pre++[c]) (p+1) n (by omega) (by simp[hp]) (by omega) (by omega) (by omega);rw[show p+wl (c::r)=p+1+wl r by rw[m4p h];omega];exact this
  | false =>
   have stop:∀(hw:wl (c::r)=0),yp xx vh ((f:Int),pre++c::r,(p:Int),bad,err,())=some (.inr (.inr (List.drop f (List.take p (pre++c::r)),pre++c::r,(p:Int),bad,err,()))) ->
    qc (yp xx vh) (n+1) ((f:Int),pre++c::r,(p:Int),bad,err,())=some (.inr (List.drop f (List.take (p+wl (c::r)) (pre++c::r)),pre++c::r,((p+wl (c::r):Nat):Int),bad,err,())):=by
    intro hw h;rw[hw];exact qe h
   match r,hm,hn,hb with
   | [],hm,hn,hb =>
    refine .inr (stop (x6g h (by simp)) ?_);simp (disch:=(first|omega|(simp only[jf];omega))) only[yp,Sk,c32,h,getD_cons_zero,v5w]
   | [b],hm,hn,hb =>
    refine .inr (stop (x6g h (by simp)) ?_);simp only[length_cons,length_nil]at hn hb hm;simp (disch:=(first|omega|(simp only[jf];omega))) only[yp,Sk,c32,h,getD_cons_zero,v5w]
   | b::d::r',hm,hn,hb =>
    simp only[length_cons]at hn hb hm;cases hq:(c==13&&b==10)with
    | false =>
     refine .inr (stop (by rw[wl,h,hq];rfl) ?_);simp (disch:=(first|omega|(simp only[jf];omega))) only[yp,Sk,c32,h,getD_cons_zero,v5w,take_succ_cons,take_zero,g9k,hq]
    | true =>
     cases hd:jy d with
     | false =>
      refine .inr (stop (by rw[wl,h,hq,hd];rfl) ?_);simp (disch:=(first|omega|(simp only[jf];omega))) only[yp,Sk,c32,h,getD_cons_zero,getD_cons_succ,v5w,take_succ_cons,take_zero,g9k,hq,hd]
     | true =>
      rw[qm (v':=((f:Int),pre++c::b::d::r',((p+3:Nat):Int),bad,err,())) (by simp (disch:=(first|omega|(simp only[jf];omega))) only[yp,Sk,c32,h,getD_cons_zero,getD_cons_succ,v5w,take_succ_cons,take_zero,g9k,hq,hd])];have:=l26 f bad err m r' (pre++[c,b,d]) (p+3) n (by omega) (by simp[hp]) (by omega) (by omega) (by omega);rw[show p+wl (c::b::d::r')=p+3+wl r' by rw[wl,h,hq,hd];simp only[cond_true,cond_false,Bool.and_self];omega];rw[show pre++c::b::d::r'=(pre++[c,b,d])++r' by simp];exact this
theorem j3w{pre r:List UInt8}{p k:Nat}(hp:pre.length=p):List.drop p (List.take (p+k) (pre++r))=r.take k:=by
 rw[<-hp,take_append,take_of_length_le (by omega),drop_append];simp
theorem c26(pre r:List UInt8)(p:Nat)(bad err:Int)(hp:pre.length=p)(hb:p+r.length<=140737488355328) :
 y0n (pre++r,(p:Int),bad,err,())=some (r.take (wl r),pre++r,((p+wl r:Nat):Int),bad,err,()):=by
 have:=y4z r;show v3x xx q4z (pre++r,(p:Int),bad,err,())=_;rcases l26 p bad err r.length r pre p qz (le_refl _) hp (by unfold qz;omega) (le_refl _) hb with hl|hl
 . have hl':q4z ((p:Int),pre++r,(p:Int),bad,err,())=_:=hl
   simp (disch:=(first|omega|(simp only[jf];omega))) only[v3x,hl',Sk,j3w]
 . have hl':q4z ((p:Int),pre++r,(p:Int),bad,err,())=_:=hl
   simp (disch:=(first|omega|(simp only[jf];omega))) only[v3x,hl',Sk,j3w]
inductive Tk where
 | ok (t:List UInt8) (u:Nat)
 | bad (off:Nat) (e:Int)
 | start
def Tk.push(l:List UInt8)(n:Nat):Tk->Tk
 | .ok t u => .ok (l++t) (n+u)
 | .bad off e => .bad (n+off) e
 | .start => .start
def qt:List UInt8->Tk
 | [] => .start
 | c::r=>if c.toNat=34 then .ok [] 1 else if c.toNat=92 then
  match r with
  | [] => .start
  | d::r'=>bif jz d then(qt r').push [d] 2 else .bad 1 4
  else bif jz c then(qt r).push [c] 1 else .bad 0 4
theorem k1g{c:UInt8}{r:List UInt8}(h:c.toNat=34):qt (c::r) = .ok [] 1:=by cases r<;>simp[qt,h]
theorem x5x{c:UInt8}(h:c.toNat=92):qt [c] = .start:=by simp[qt,h]
theorem y4l{c d:UInt8}{r:List UInt8}(h:c.toNat=92):qt (c::d::r)=bif jz d then(qt r).push [d] 2 else .bad 1 4:=by simp[qt,h]
theorem k1e{c:UInt8}{r:List UInt8}(h1:¬c.toNat=34)(h2:¬c.toNat=92):qt (c::r)=bif jz c then(qt r).push [c] 1 else .bad 0 4:=by cases r<;>simp[qt,h1,h2]
def z3h(s:List UInt8)(a bad err:Int)(out:List UInt8)(q:Nat):Tk->(List UInt8×Int×Int×Int×Unit)⊕(List UInt8×List UInt8×Int×Int×Int×Unit)
 | .ok t u => .inr (out++t,s,((q+u:Nat):Int),bad,err,())
 | .bad off e => .inr ([],s,a,((q+off:Nat):Int),e,())
 | .start => .inl (s,a,bad,err,())
theorem z4z(s:List UInt8)(a bad err:Int)(out:List UInt8)(q:Nat)(l:List UInt8)(n:Nat)(k:Tk):z3h s a bad err out q (k.push l n)=z3h s a bad err (out++l) (q+n) k:=by
 cases k<;>simp[Tk.push,z3h,add_assoc]
theorem b2w(pre r out:List UInt8)(d:UInt8)(q:Nat)(a bad err:Int)(hq:pre.length=q)(hb:q+r.length<=140737488355320)(ho:out.length+1<=140737488355328) :
 q4x ((q:Int),pre++d::r,a,bad,err,out,())=some (bif jz d then .inr ((q:Int),pre++d::r,a,bad,err,out++[d],())else .inl ([],pre++d::r,a,(q:Int),4,())):=by
 cases h:jz d<;>simp (disch:=(first|omega|(simp only[jf];omega))) only[q4x,z6n,Sk,c31,c27,h]
theorem l23(a bad err:Int):∀(m:Nat) (r pre out:List UInt8) (q n:Nat),r.length<=m->pre.length=q->r.length<n->q+r.length<=140737488355320->out.length+r.length<=140737488355320 ->
 qc (vp ya yn q4x) n ((q:Int),pre++r,a,bad,err,out,())=some (z3h (pre++r) a bad err out q (qt r))
 | _,_,_,_,_,0,_,_,hn,_,_=>by omega
 | m,[],pre,out,q,n+1,hm,hq,hn,hb,ho=>by
  refine qe ?_;simp (disch:=(first|omega|(simp only[jf];omega))) only[vp,Sk,append_nil,qt,z3h]
 | 0,c::r,pre,out,q,n+1,hm,hq,hn,hb,ho=>by simp at hm
 | m+1,c::r,pre,out,q,n+1,hm,hq,hn,hb,ho=>by
  simp only[length_cons]at hn hb hm ho;by_cases e1:c.toNat=34
  . refine qe ?_
    rw[k1g e1];simp (disch:=(first|omega|(simp only[jf];omega))) only[vp,Sk,z3h,append_nil]
  . by_cases e2:c.toNat=92
    . match r,hm,hn,hb,ho with
      | [],hm,hn,hb,ho =>
       refine qe ?_;rw[x5x e2];simp (disch:=(first|omega|(simp only[jf];omega))) only[vp,Sk,z3h,append_nil]
      | d::r',hm,hn,hb,ho =>
       simp only[length_cons]at hn hb hm ho;have hc:=b2w (pre++[c]) r' out d (q+1) a bad err (by simp[hq]) (by omega) (by omega);rw[<-shift]at hc;rw[y4l e2];cases h:jz d with
       | true =>
        rw[h]at hc;simp only[cond_true]at hc ⊢;rw[qm (v':=(((q+2:Nat):Int),pre++c::d::r',a,bad,err,out++[d],())) (by
         simp (disch:=(first|omega|(simp only[jf];omega))) only[vp,Sk,hc])]
        have:=l23 a bad err m r' (pre++[c,d]) (out++[d]) (q+2) n (by omega) (by simp[hq]) (by omega) (by omega) (by simp;omega);rw[show pre++c::d::r'=(pre++[c,d])++r' by simp,this,<-z4z]
       | false =>
        rw[h]at hc;simp only[cond_false]at hc ⊢;refine qe ?_;simp (disch:=(first|omega|(simp only[jf];omega))) only[vp,Sk,hc,z3h]
    . have hc:=b2w pre r out c q a bad err hq (by omega) (by omega)
      rw[k1e e1 e2];cases h:jz c with
      | true =>
       rw[h]at hc;simp only[cond_true]at hc ⊢;rw[qm (v':=(((q+1:Nat):Int),pre++c::r,a,bad,err,out++[c],())) (by
        simp (disch:=(first|omega|(simp only[jf];omega))) only[vp,Sk,hc])]
       have:=l23 a bad err m r (pre++[c]) (out++[c]) (q+1) n (by omega) (by simp[hq]) (by omega) (by omega) (by simp;omega);rw[shift,this,<-z4z]
      | false =>
       rw[h]at hc;simp only[cond_false]at hc ⊢;refine qe ?_;simp (disch:=(first|omega|(simp only[jf];omega))) only[vp,Sk,hc,z3h,add_zero]
def jh(s:List UInt8)(p:Nat)(bad err:Int)(q:Nat):Tk->List UInt8×List UInt8×Int×Int×Int×Unit
 | .ok t u=>(t,s,((q+u:Nat):Int),bad,err,())
 | .bad off e=>([],s,(p:Int),((q+off:Nat):Int),e,())
 | .start=>([],s,(p:Int),(p:Int),4,())
theorem c23(pre r:List UInt8)(c:UInt8)(p:Nat)(bad err:Int)(hp:pre.length=p)(hb:p+r.length<=140737488355000) :
 y0k (pre++c::r,(p:Int),bad,err,())=some (jh (pre++c::r) p bad err (p+1) (qt r)):=by
 show k2z ya yn q9g (pre++c::r,(p:Int),bad,err,())=_;have hl:=l23 p bad err r.length r (pre++[c]) [] (p+1) qz (le_refl _) (by simp[hp]) (by unfold qz;omega) (by omega) (by simp;omega);rw[<-shift]at hl;have hl':q9g (((p+1:Nat):Int),pre++c::r,(p:Int),bad,err,[],())=_:=hl;cases hq:qt r<;>rw[hq]at hl'<;>simp (disch:=(first|omega|(simp only[jf];omega))) only[k2z,Sk,hl',z3h,jh,c27,nil_append]
def ltk:List UInt8->Tk
 | [] => .start
 | c::r=>if c.toNat=93 then .ok [] 1 else if c.toNat=91 then .bad 0 4 else if c.toNat=92 then .bad 0 4 else
  bif jy c then .bad 0 4 else bif jz c then(ltk r).push [c] 1 else .bad 0 4
def j5q(s:List UInt8)(a bad err:Int)(from_:Nat)(q:Nat):Tk->(List UInt8×Int×Int×Int×Unit)⊕(List UInt8×List UInt8×Int×Int×Int×Unit)
 | .ok t u => .inr (List.drop from_ (List.take (q+t.length) s),s,((q+u:Nat):Int),bad,err,())
 | .bad off e => .inr ([],s,a,((q+off:Nat):Int),e,())
 | .start => .inl (s,a,bad,err,())
theorem v1i(s:List UInt8)(a bad err:Int)(f q:Nat)(l:List UInt8)(n:Nat)(hl:l.length=n)(k:Tk):j5q s a bad err f q (k.push l n)=j5q s a bad err f (q+n) k:=by
 cases k<;>simp[Tk.push,j5q,add_assoc,hl]
theorem l24(a:Nat)(bad err:Int):∀(r pre:List UInt8) (q n:Nat),pre.length=q->a+1<=q->r.length<n->q+r.length<=140737488355320 ->
 qc (vq ya yn xx xh) n ((q:Int),pre++r,(a:Int),bad,err,())=some (j5q (pre++r) a bad err (a+1) q (ltk r))
 | _,_,_,0,_,_,hn,_=>by omega
 | [],pre,q,n+1,hq,ha,hn,hb=>by
  refine qe ?_;simp (disch:=(first|omega|(simp only[jf];omega))) only[vq,xh,wa,Sk,append_nil,ltk,j5q]
 | c::r,pre,q,n+1,hq,ha,hn,hb=>by
  simp only[length_cons]at hn hb;by_cases e1:c.toNat=93
  . refine qe ?_
    simp (disch:=(first|omega|(simp only[jf];omega))) only[vq,xh,wa,Sk,ltk,if_pos,j5q,add_zero]
  . by_cases e2:c.toNat=91
    . refine qe ?_
      simp (disch:=(first|omega|(simp only[jf];omega))) only[vq,xh,wa,Sk,ltk,if_pos,if_neg,j5q,add_zero,c27]
    . by_cases e3:c.toNat=92
      . refine qe ?_
        simp (disch:=(first|omega|(simp only[jf];omega))) only[vq,xh,wa,Sk,ltk,if_pos,if_neg,j5q,add_zero,c27]
      . cases h1:jy c with
        | true =>
         refine qe ?_;simp (disch:=(first|omega|(simp only[jf];omega))) only[vq,xh,wa,Sk,ltk,if_pos,if_neg,j5q,add_zero,c27,c32,h1]
        | false =>
         cases h2:jz c with
         | false =>
          refine qe ?_;simp (disch:=(first|omega|(simp only[jf];omega))) only[vq,xh,wa,Sk,ltk,if_pos,if_neg,j5q,add_zero,c27,c32,c31,h1,h2]
         | true =>
          rw[qm (v':=(((q+1:Nat):Int),pre++c::r,(a:Int),bad,err,())) (by
           simp (disch:=(first|omega|(simp only[jf];omega))) only[vq,xh,wa,Sk,c32,c31,h1,h2])]
          have:=l24 a bad err r (pre++[c]) (q+1) n (by simp[hq]) (by omega) (by omega) (by omega);rw[shift,this,<-v1i (l:=[c]) (n:=1) _ _ _ _ _ _ rfl];simp only[ltk,if_neg e1,if_neg e2,if_neg e3,h1,h2,cond_true,cond_false]
theorem z9k:∀{r t:List UInt8} {u:Nat},ltk r = .ok t u->u=t.length+1/\t.length<r.length/\r.take t.length=t
 | [],t,u,h=>by simp[ltk]at h
 | c::r,t,u,h=>by
  unfold ltk at h;split at h
  . cases h;simp
  . split at h
    . cases h
    . split at h
      . cases h
      . cases h1:jy c<;>cases h2:jz c<;>rw[h1,h2]at h<;>simp only[cond_true,cond_false]at h<;>try (cases h;done)
        cases hr:ltk r with
        | ok t' u' =>
         rw[hr]at h;cases h;obtain⟨i1,i2,i3⟩:=z9k hr;exact⟨by simp;omega,by simpa using i2,by simpa using i3⟩
        | bad o e=>rw[hr]at h;cases h
        | start=>rw[hr]at h;cases h
theorem c24(pre r:List UInt8)(c:UInt8)(p:Nat)(bad err:Int)(hp:pre.length=p)(hb:p+r.length<=140737488355000) :
 y0l (pre++c::r,(p:Int),bad,err,())=some (jh (pre++c::r) p bad err (p+1) (ltk r)):=by
 show x7h ya yn xx q9h (pre++c::r,(p:Int),bad,err,())=_;have hl:=l24 p bad err r (pre++[c]) (p+1) qz (by simp[hp]) (by omega) (by unfold qz;omega) (by omega);rw[<-shift]at hl;have hl':q9h (((p+1:Nat):Int),pre++c::r,(p:Int),bad,err,())=_:=hl;cases hq:ltk r with
 | ok t u =>
  rw[hq]at hl';obtain⟨i1,i2,i3⟩:=z9k hq;simp (disch:=(first|omega|(simp only[jf];omega))) only[x7h,Sk,hl',j5q,jh];rw[shift,j3w (by simp[hp]),i3]
 | bad o e=>rw[hq]at hl';simp (disch:=(first|omega|(simp only[jf];omega))) only[x7h,Sk,hl',j5q,jh]
 | start=>rw[hq]at hl';simp (disch:=(first|omega|(simp only[jf];omega))) only[x7h,Sk,hl',j5q,jh,c27]
def nt:Nat->List UInt8->Tk
 | _,[] => .start
 | deep,c::r=>if c.toNat=40 then(if deep+1>32 then .bad 0 6 else(nt (deep+1) r).push [c] 1)
  else if c.toNat=41 then(if deep=1 then .ok [] 1 else(nt (deep-1) r).push [c] 1)
  else if c.toNat=92 then
   match r with
   | [] => .start
   | d::r'=>bif jz d then(nt deep r').push [c,d] 2 else .bad 1 4
  else bif jz c then(nt deep r).push [c] 1 else .bad 0 4
theorem w4q{deep:Nat}{c:UInt8}{r:List UInt8}(h:c.toNat=40):nt deep (c::r)=if deep+1>32 then .bad 0 6 else(nt (deep+1) r).push [c] 1:=by cases r<;>simp[nt,h]
theorem w4o{deep:Nat}{c:UInt8}{r:List UInt8}(h:c.toNat=41):nt deep (c::r)=if deep=1 then .ok [] 1 else(nt (deep-1) r).push [c] 1:=by cases r<;>simp[nt,h]
theorem x5m{deep:Nat}{c:UInt8}(h:c.toNat=92):nt deep [c] = .start:=by simp[nt,h]
theorem x5n{deep:Nat}{c d:UInt8}{r:List UInt8}(h:c.toNat=92):nt deep (c::d::r)=bif jz d then(nt deep r).push [c,d] 2 else .bad 1 4:=by simp[nt,h]
theorem w4p{deep:Nat}{c:UInt8}{r:List UInt8}(h1:¬c.toNat=40)(h2:¬c.toNat=41)(h3:¬c.toNat=92):nt deep (c::r)=bif jz c then(nt deep r).push [c] 1 else .bad 0 4:=by cases r<;>simp[nt,h1,h2,h3]
theorem wrM(n:Nat)(h:n<=9223372036854775806)(h1:1<=n):IntKind.i64.wrap ((n:Int)-1)=((n-1:Nat):Int):=by rw[wr]<;>omega
def q8w(s:List UInt8)(f:Nat)(a bad err:Int)(q:Nat):Tk->((Int×Int×List UInt8×Int×Int×Int×Unit)⊕(Int×Int×List UInt8×Int×Int×Int×Unit)⊕(List UInt8×List UInt8×Int×Int×Int×Unit))
 | .ok t u => .inr (.inr (List.drop (f+1) (List.take (q+t.length) s),s,((q+u:Nat):Int),bad,err,()))
 | .bad off e => .inr (.inl (e,((q+off:Nat):Int),s,a,bad,err,()))
 | .start => .inl ((f:Int),4,s,a,bad,err,())
theorem z4y(s:List UInt8)(f:Nat)(a bad err:Int)(q:Nat)(l:List UInt8)(n:Nat)(hl:l.length=n)(k:Tk):q8w s f a bad err q (k.push l n)=q8w s f a bad err (q+n) k:=by
 cases k<;>simp[Tk.push,q8w,add_assoc,hl]
theorem l25(f:Nat)(a bad err:Int):∀(m:Nat) (r pre:List UInt8) (deep q n:Nat),r.length<=m->1<=deep->deep<=32->pre.length=q->f+1<=q->r.length<n->q+r.length<=140737488355320 ->
 qc (zq ya yn) n ((f:Int),(deep:Int),4,(q:Int),pre++r,a,bad,err,())=some (q8w (pre++r) f a bad err q (nt deep r))
 | _,_,_,_,_,0,_,_,_,_,_,hn,_=>by omega
 | m,[],pre,deep,q,n+1,hm,hd,hd2,hq,hf,hn,hb=>by
  refine qe ?_;simp (disch:=(first|omega|(simp only[jf];omega))) only[zq,Sk,append_nil,nt,q8w]
 | 0,c::r,pre,deep,q,n+1,hm,hd,hd2,hq,hf,hn,hb=>by simp at hm
 | m+1,c::r,pre,deep,q,n+1,hm,hd,hd2,hq,hf,hn,hb=>by
  simp only[length_cons]at hn hb hm;have next:∀(d':Nat),1<=d'->d'<=32->zq ya yn ((f:Int),(deep:Int),4,(q:Int),pre++c::r,a,bad,err,())=some (.inl ((f:Int),(d':Int),4,((q+1:Nat):Int),pre++c::r,a,bad,err,())) ->
   qc (zq ya yn) (n+1) ((f:Int),(deep:Int),4,(q:Int),pre++c::r,a,bad,err,())=some (q8w (pre++c::r) f a bad err q ((nt d' r).push [c] 1)):=by
   intro d' h1 h2 h3;rw[qm h3,z4y (l:=[c]) (n:=1) _ _ _ _ _ _ rfl];have:=l25 f a bad err m r (pre++[c]) d' (q+1) n (by omega) h1 h2 (by simp[hq]) (by omega) (by omega) (by omega);rw[shift,this]
  by_cases e1:c.toNat=40
  . rw[w4q e1]
    by_cases hdd:deep+1>32
    . rw[if_pos hdd]
      refine qe ?_;simp (disch:=(first|omega|(simp only[jf];omega))) only[zq,Sk,q8w,add_zero]
    . rw[if_neg hdd]
      refine next (deep+1) (by omega) (by omega) ?_;simp (disch:=(first|omega|(simp only[jf];omega))) only[zq,Sk]
  . by_cases e2:c.toNat=41
    . rw[w4o e2]
      by_cases hd1:deep=1
      . rw[if_pos hd1]
        refine qe ?_;subst hd1;simp (disch:=(first|omega|(simp only[jf];omega))) only[zq,Sk,q8w,add_zero,wrM]
      . rw[if_neg hd1]
        refine next (deep-1) (by omega) (by omega) ?_;simp (disch:=(first|omega|(simp only[jf];omega))) only[zq,Sk,wrM]
    . by_cases e3:c.toNat=92
      . match r,hm,hn,hb with
        | [],hm,hn,hb =>
         rw[x5m e3];simp only[length_nil]at hn hb hm;rw[qm (v':=((f:Int),(deep:Int),4,((q+2:Nat):Int),pre++[c],a,bad,err,())) (by
          simp (disch:=(first|omega|(simp only[jf];omega))) only[zq,Sk])]
         obtain⟨n',rfl⟩:∃n',n=n'+1:=⟨n-1,by omega⟩
         refine qe ?_;simp (disch:=(first|omega|(simp only[jf];omega))) only[zq,Sk,q8w]
        | d::r',hm,hn,hb =>
         simp only[length_cons]at hn hb hm;rw[x5n e3];have hg:(pre++c::d::r').getD (q+1) 0=d:=by rw[shift];exact gd (by simp[hq])
         cases h:jz d with
         | true =>
          rw[qm (v':=((f:Int),(deep:Int),4,((q+2:Nat):Int),pre++c::d::r',a,bad,err,())) (by
           simp (disch:=(first|omega|(simp only[jf];omega))) only[zq,Sk,hg,c31,h])]
          have:=l25 f a bad err m r' (pre++[c,d]) deep (q+2) n (by omega) hd hd2 (by simp[hq]) (by omega) (by omega) (by omega);rw[show pre++c::d::r'=(pre++[c,d])++r' by simp,this,cond_true,z4y (l:=[c,d]) (n:=2) _ _ _ _ _ _ rfl]
         | false =>
          refine qe ?_;simp (disch:=(first|omega|(simp only[jf];omega))) only[zq,Sk,hg,c31,h,q8w]
      . rw[w4p e1 e2 e3]
        cases h:jz c with
        | true =>
         refine next deep hd hd2 ?_;simp (disch:=(first|omega|(simp only[jf];omega))) only[zq,Sk,c31,h]
        | false =>
         refine qe ?_;simp (disch:=(first|omega|(simp only[jf];omega))) only[zq,Sk,c31,h,q8w,add_zero]
theorem wj{k:Tk}{l t:List UInt8}{n u:Nat}(h:k.push l n = .ok t u):∃t' u',k = .ok t' u'/\t=l++t'/\u=n+u':=by
 cases k<;>simp[Tk.push]at h
 exact⟨_,_,rfl,h.1.symm,h.2.symm⟩
theorem x5o:∀(m:Nat) {r t:List UInt8} {u deep:Nat},r.length<=m->nt deep r = .ok t u->u=t.length+1/\t.length<r.length/\r.take t.length=t
 | _,[],t,u,deep,_,h=>by simp[nt]at h
 | 0,c::r,t,u,deep,hm,h=>by simp at hm
 | m+1,c::r,t,u,deep,hm,h=>by
  simp only[length_cons]at hm;have one:∀(d':Nat),(nt d' r).push [c] 1 = .ok t u->u=t.length+1/\t.length<(c::r).length/\(c::r).take t.length=t:=by
   intro d' h;obtain⟨t',u',h1,rfl,rfl⟩:=wj h;obtain⟨i1,i2,i3⟩:=x5o m (by omega) h1;exact⟨by simp;omega,by simpa using i2,by simpa using i3⟩
  by_cases e1:c.toNat=40
  . rw[w4q e1]at h
    split at h
    . cases h
    . exact one _ h
  . by_cases e2:c.toNat=41
    . rw[w4o e2]at h
      split at h
      . cases h;simp
      . exact one _ h
    . by_cases e3:c.toNat=92
      . match r,hm,h with
        | [],hm,h=>rw[x5m e3]at h;cases h
        | d::r',hm,h =>
         simp only[length_cons]at hm;rw[x5n e3]at h;cases hd:jz d<;>rw[hd]at h
         . cases h
         . obtain⟨t',u',h1,rfl,rfl⟩:=wj h
           obtain⟨i1,i2,i3⟩:=x5o m (by omega) h1;exact⟨by simp;omega,by simpa using i2,by simpa using i3⟩
      . rw[w4p e1 e2 e3]at h
        cases hd:jz c<;>rw[hd]at h
        . cases h
        . exact one _ h
theorem d6a(k e:Int)(s:List UInt8)(a bad err:Int):q4y (e,k,s,a,bad,err,())=some ([],s,a,k,e,()):=by
 show qc _ qz _=_;rw[show qz=999999999999999999999+1 from rfl];exact qe rfl
theorem c25(pre r:List UInt8)(c:UInt8)(p:Nat)(bad err:Int)(hc:c.toNat=40)(hp:pre.length=p)(hb:p+r.length<=140737488355000) :
 y0m (pre++c::r,(p:Int),bad,err,())=some (jh (pre++c::r) p bad err (p+1) (nt 1 r)):=by
 show x7i ya yn q4y q9i (pre++c::r,(p:Int),bad,err,())=_;have hl:=l25 p p bad err r.length r (pre++[c]) 1 (p+1) 999999999999999999999 (le_refl _) (by omega) (by omega) (by simp[hp]) (by omega) (by omega) (by omega);rw[<-shift]at hl;have h0:q9i ((p:Int),0,4,(p:Int),pre++c::r,(p:Int),bad,err,())=some (q8w (pre++c::r) p p bad err (p+1) (nt 1 r)):=by
  rw[<-hl];show qc _ (999999999999999999999+1) _=_;refine qm ?_;simp (disch:=(first|omega|(simp only[jf];omega))) only[zq,Sk];rfl
 cases hq:nt 1 r with
 | ok t u =>
  rw[hq]at h0;obtain⟨i1,i2,i3⟩:=x5o _ (le_refl _) hq;simp (disch:=(first|omega|(simp only[jf];omega))) only[x7i,Sk,h0,q8w,jh];rw[shift,j3w (by simp[hp]),i3]
 | bad o e=>rw[hq]at h0;simp (disch:=(first|omega|(simp only[jf];omega))) only[x7i,Sk,h0,q8w,jh,d6a]
 | start=>rw[hq]at h0;simp (disch:=(first|omega|(simp only[jf];omega))) only[x7i,Sk,h0,q8w,jh,c27]
def g1(o:Option (Int×Int×Unit)):Int:=match o with|some (n,_,_)=>n|none=>0
def g2(o:Option (Int×Int×Unit)):Int:=match o with|some (_,v,_)=>v|none=>0
def ok2(o:Option (Int×Int×Unit)):Bool:=match o with|some _=>true|none=>false
theorem k0m{o:Option (Int×Int×Unit)}(h:ok2 o=true):o=some (g1 o,g2 o,()):=by
 cases o with
 | none=>cases h
 | some x=>rfl
def zd(c:UInt8):Int:=g1 (kp ((c.toNat:Int),()))
def q3h(c:UInt8):Int:=g2 (kp ((c.toNat:Int),()))
theorem d5z:((List.range 256).all λn=>(λc:UInt8=>ok2 (kp ((c.toNat:Int),()))) (UInt8.ofNat n))=true:=by kernel_rfl
theorem c19(c:UInt8):kp ((c.toNat:Int),())=some (zd c,q3h c,()):=k0m (xp (λc=>ok2 (kp ((c.toNat:Int),()))) d5z c)
def f5o:Int->Bool
 | .ofNat n=>Nat.ble n 3
 | .negSucc n=>Nat.beq n 0
theorem f3l:((List.range 256).all λn=>(λc:UInt8=>f5o (zd c)) (UInt8.ofNat n))=true:=by kernel_rfl
theorem v9d(c:UInt8):zd c = -1\/0<=zd c/\zd c<=3:=by
 have h:f5o (zd c)=true:=xp (λc=>f5o (zd c)) f3l c;generalize zd c=x at h;cases x with
 | ofNat n=>have:=Nat.le_of_ble_eq_true h;right;simp;omega
 | negSucc n=>have:=Nat.eq_of_beq_eq_true h;subst this;left;rfl
def y3k(v:Int):Int:=match xg (v,())with|some (n,_)=>n|none=>0
theorem c20(v:Int):xg (v,())=some (y3k v,()):=by
 have h:∃n,xg (v,())=some (n,()):=by
  show ∃n,y1a xi (v,())=some (n,());have h29:∃b,xi (v,())=some (b,()):=by
   simp only[xi,v4b];cases decide (v>=0)<;>cases decide (v<=1114111)<;>cases decide (v>=55296)<;>exact⟨_,rfl⟩
  obtain⟨b,hb⟩:=h29;simp only[y1a,hb,Option.bind_some];cases b<;>cases decide (v<=127)<;>cases decide (v<=2047)<;>cases decide (v<=65535)<;>exact⟨_,rfl⟩
 obtain⟨n,hn⟩:=h;rw[y3k,hn]
def j5v(c:UInt8):Bool := !(intBits BinOp.andNot IntKind.u8 (c.toNat:Int) 63 != 128)
def k1r(v:Int)(c:UInt8):Int:=intBits BinOp.or IntKind.i32 (IntKind.i32.wrap (v*2^min 6 IntKind.i32.bits)) (IntKind.i32.wrap (intBits BinOp.and IntKind.u8 (c.toNat:Int) 63))
def xr:Nat->List UInt8->Int->Option Int
 | 0,_,v=>some v
 | _+1,[],_=>none
 | n+1,c::r,v=>bif j5v c then xr n r (k1r v c)else none
def ch:List UInt8->Nat
 | []=>0
 | c::r=>if zd c<0 then 0 else if r.length<(zd c).toNat then 0 else
  match xr (zd c).toNat r (q3h c)with
  | none=>0
  | some v=>if y3k v=zd c+1 then(zd c).toNat+1 else 0
theorem v6a:∀s,ch s<=s.length
 | []=>le_refl _
 | c::r=>by
  simp only[ch,length_cons];split
  . omega
  . split
    . omega
    . split
      . omega
      . split<;>omega
def v1h(s:List UInt8)(n a:Int)(out:List Int):Option Int->(List UInt8×Int×Int×Int×List Int×Unit)⊕(Int×List Int×Unit)
 | some v => .inl (s,n,v,a,out,())
 | none => .inr (a,out,())
theorem b4y(a:Nat)(m:Nat)(out:List Int):∀(j:Nat) (r pre:List UInt8) (v:Int) (k n:Nat),pre.length=k->k+j=a+m+1->j<=r.length->j<n->k+r.length<=140737488355320->m<=3 ->
 qc (q3y kp xg) n (pre++r,(m:Int),v,(a:Int),(k:Int),out,())=some (v1h (pre++r) m a out (xr j r v))
 | _,_,_,_,_,0,_,_,_,hn,_,_=>by omega
 | 0,r,pre,v,k,n+1,hk,hj,hr,hn,hb,hm=>by
  refine qe ?_;have h:IntKind.i64.wrap ((a:Int)+(m:Int))=(a:Int)+m:=wr (by omega) (by omega);simp (disch:=(first|omega|(simp only[jf];omega))) only[q3y,h,Sk,xr,v1h]
 | j+1,[],pre,v,k,n+1,hk,hj,hr,hn,hb,hm=>by simp at hr
 | j+1,c::r,pre,v,k,n+1,hk,hj,hr,hn,hb,hm=>by
  simp only[length_cons]at hr hb;have h:IntKind.i64.wrap ((a:Int)+(m:Int))=(a:Int)+m:=wr (by omega) (by omega);cases hc:j5v c with
  | true =>
   have hc':(intBits BinOp.andNot IntKind.u8 (c.toNat:Int) 63 != 128)=false:=by simpa[j5v]using hc
   rw[qm (v':=(pre++c::r,(m:Int),k1r v c,(a:Int),((k+1:Nat):Int),out,())) (by
    simp (disch:=(first|omega|(simp only[jf];omega))) only[q3y,h,Sk,hc'];rfl)]
   rw[shift,b4y a m out j r (pre++[c]) (k1r v c) (k+1) n (by simp[hk]) (by omega) (by omega) (by omega) (by omega) hm];simp only[xr,hc,cond_true]
  | false =>
   have hc':(intBits BinOp.andNot IntKind.u8 (c.toNat:Int) 63 != 128)=true:=by simpa[j5v]using hc
   refine qe ?_;simp (disch:=(first|omega|(simp only[jf];omega))) only[q3y,h,Sk,hc',xr,hc,v1h]
def ut:Nat->List UInt8->Nat->Option Nat
 | 0,_,_=>none
 | n+1,s,p=>if s=[]then none else if ch s=0 then some p else ut n (s.drop (ch s)) (p+ch s)
def r15(out:List Int):Option Nat->(List Int×Unit)⊕(Int×List Int×Unit)
 | none => .inl (out,())
 | some b => .inr ((b:Int),out,())
theorem m4m(c:UInt8)(r pre:List UInt8)(out:List Int)(p:Nat)(hp:pre.length=p)(hb:p+r.length<=140737488355000)(ho:out.length<=1000000000) :
 kh kp xg q3v (pre++c::r,(p:Int),out,())=some (if ch (c::r)=0 then .inr (.inr ((p:Int),out,()))else
  .inl (pre++c::r,((p+ch (c::r):Nat):Int),out++[((xr (zd c).toNat r (q3h c)).getD 0)],())):=by
 have hrng:=v9d c;by_cases h1:zd c<0
 . have:ch (c::r)=0:=by simp[ch,h1]
   rw[if_pos this];simp (disch:=(first|omega|(simp only[jf];omega))) only[kh,Sk,c19]
 . have hw:IntKind.i64.wrap (((pre.length+(r.length+1):Nat):Int)-(p:Int))=(r.length:Int)+1:=by rw[wr]<;>omega
   obtain⟨m,hm⟩:∃m:Nat,zd c=m:=⟨(zd c).toNat,by omega⟩
   by_cases h2:r.length<m
   . have:ch (c::r)=0:=by simp[ch,hm,h2]
     rw[if_pos this];simp (disch:=(first|omega|(simp only[jf];omega))) only[kh,Sk,c19,hw,hm]
   . have hl:=b4y p m out m r (pre++[c]) (q3h c) (p+1) qz (by simp[hp]) (by omega) (by omega) (by unfold qz;omega) (by omega) (by omega)
     rw[<-shift]at hl;have hl':q3v (pre++c::r,(m:Int),q3h c,(p:Int),((p+1:Nat):Int),out,())=_:=hl;cases hc:xr m r (q3h c)with
     | none =>
      have:ch (c::r)=0:=by simp[ch,hm,h2,hc]
      rw[if_pos this];simp (disch:=(first|omega|(simp only[jf];omega))) only[kh,Sk,c19,hw,hm,hl',hc,v1h]
     | some v =>
      have hw2:IntKind.i64.wrap ((m:Int)+1)=(m:Int)+1:=wr (by omega) (by omega);by_cases h3:y3k v=m+1
      . have hch:ch (c::r)=m+1:=by simp[ch,hm,h2,hc,h3]
        have hw3:IntKind.i64.wrap ((p:Int)+((m:Int)+1))=((p+(m+1):Nat):Int):=by rw[wr]<;>omega
        rw[if_neg (by omega),hch];simp (disch:=(first|omega|(simp only[jf];omega))) only[kh,hw2,hw3,decide_eq_true,decide_eq_false,cond_true,cond_false,Bool.and_self,jf,toNat_natCast,inF,gd,Option.bind_some,Sum.elim_inl,wrN,c19,hw,hm,hl',hc,v1h,c20,Option.getD_some]
      . have:ch (c::r)=0:=by simp[ch,hm,h2,hc,h3]
        rw[if_pos this];simp (disch:=(first|omega|(simp only[jf];omega))) only[kh,hw2,Sk,c19,hw,hm,hl',hc,v1h,c20]
theorem b4z:∀(m:Nat) (r pre:List UInt8) (out:List Int) (p n:Nat),r.length<=m->pre.length=p->r.length<n->p+r.length<=140737488355000->out.length+r.length<=1000000000 ->
 ∃o,qc (kh kp xg q3v) n (pre++r,(p:Int),out,())=some (r15 o (ut n r p))
 | _,_,_,_,_,0,_,_,hn,_,_=>by omega
 | m,[],pre,out,p,n+1,hm,hp,hn,hb,ho=>by
  refine⟨out,qe ?_⟩;simp (disch:=(first|omega|(simp only[jf];omega))) only[kh,Sk,append_nil,ut,if_true,r15]
 | 0,c::r,pre,out,p,n+1,hm,hp,hn,hb,ho=>by simp at hm
 | m+1,c::r,pre,out,p,n+1,hm,hp,hn,hb,ho=>by
  simp only[length_cons]at hm hn hb ho;have hr:=m4m c r pre out p hp (by omega) (by omega);by_cases h:ch (c::r)=0
  . rw[if_pos h]at hr
    refine⟨out,?_⟩;rw[qe hr];simp[ut,h,r15]
  . rw[if_neg h]at hr
    have hle:=v6a (c::r);simp only[length_cons]at hle;have hsplit:pre++c::r=(pre++(c::r).take (ch (c::r)))++(c::r).drop (ch (c::r)):=by rw[append_assoc,take_append_drop]
    obtain⟨o,ho'⟩:=b4z m ((c::r).drop (ch (c::r))) (pre++(c::r).take (ch (c::r))) (out++[((xr (zd c).toNat r (q3h c)).getD 0)]) (p+ch (c::r)) n (by simp;omega) (by simp[hp];omega) (by simp;omega) (by simp;omega) (by simp;omega);refine⟨o,?_⟩;rw[qm hr];rw[<-hsplit]at ho';rw[ho'];simp[ut,h]
def utf(s:List UInt8):Option Nat:=ut qz s 0
theorem c15(s:List UInt8)(hb:s.length<=1000000):∃o,C83 (s,())=some (o,(match utf s with|none => -1|some b=>(b:Int)),()):=by
 obtain⟨o,h⟩:=b4z s.length s [] [] 0 qz (le_refl _) rfl (by unfold qz;omega) (by omega) (by simp;omega);have h':q8e (s,0,[],())=some (r15 o (utf s)):=h;refine⟨o,?_⟩;show F83 kp xg q3u q8e (s,())=_;have hg:∀(b:Int) (o:List Int),q3u (b,o,())=some (b,o,()):=by
  intro b o;show qc _ qz _=_;rw[show qz=999999999999999999999+1 from rfl];exact qe rfl
 simp only[F83,h',Option.bind_some];cases utf s<;>simp[r15,hg]
def Tk.up:Tk->Tk
 | .ok t u => .ok t (1+u)
 | .bad off e => .bad (1+off) e
 | .start => .start
def one(c:UInt8)(r:List UInt8):Int×Tk :=
 if jk c=true then(0,.ok ((c::r).take (al (c::r))) (al (c::r)))
 else if q3j c=true then(2,.ok [c] 1)
 else if c.toNat=34 then(1,(qt r).up)
 else if c.toNat=91 then(5,(ltk r).up)
 else if c.toNat=40 then(3,(nt 1 r).up)
 else if wl (c::r)=0 then(4,.start)else(4,.ok ((c::r).take (wl (c::r))) (wl (c::r)))
theorem y6v(s:List UInt8)(p:Nat)(bad err:Int)(k:Tk):jh s p bad err (p+1) k=jh s p bad err p k.up:=by
 cases k<;>simp[jh,Tk.up,add_assoc]
def q4v(s:List UInt8)(p:Nat)(bad err:Int)(x:Int×Tk):Int×List UInt8×Int×List UInt8×Int×Int×Int×Unit :=
 (x.1,(jh s p bad err p x.2).1,(p:Int),(jh s p bad err p x.2).2)
theorem c16(pre r:List UInt8)(c:UInt8)(p:Nat)(bad err:Int)(hp:pre.length=p)(hb:p+r.length<=140737488354000) :
 z5h (pre++c::r,(p:Int),bad,err,())=some (q4v (pre++c::r) p bad err (one c r)):=by
 show z2s q3k y0j y0k y0l y0m y0n ya C90 xf (pre++c::r,(p:Int),bad,err,())=_;have h21:=c21 pre (c::r) p bad err hp (by simp;omega);have h26:=c26 pre (c::r) p bad err hp (by simp;omega);have h23:=c23 pre r c p bad err hp (by omega);have h24:=c24 pre r c p bad err hp (by omega);unfold one;by_cases h1:jk c=true
 . rw[if_pos h1]
   simp (disch:=(first|omega|(simp only[jf];omega))) only[z2s,xf,ky,Sk,c17,h1,h21,q4v,jh]
 . rw[if_neg h1]
   have h1':jk c=false:=by simpa using h1
   by_cases h2:q3j c=true
   . rw[if_pos h2]
     have h2':x6b c>=0:=by simpa[q3j]using h2
     have ht:List.drop p (List.take (p+1) (pre++c::r))=[c]:=by rw[j3w hp];rfl
     simp (disch:=(first|omega|(simp only[jf];omega))) only[z2s,xf,ky,Sk,c17,h1',v0e,ht,q4v,jh]
   . rw[if_neg h2]
     have h2':¬x6b c>=0:=by simpa[q3j]using h2
     by_cases h3:c.toNat=34
     . rw[if_pos h3]
       rw[y6v]at h23;simp (disch:=(first|omega|(simp only[jf];omega))) only[z2s,xf,ky,Sk,c17,h1',v0e,h23,q4v]
     . rw[if_neg h3]
       by_cases h4:c.toNat=91
       . rw[if_pos h4]
         rw[y6v]at h24;simp (disch:=(first|omega|(simp only[jf];omega))) only[z2s,xf,ky,Sk,c17,h1',v0e,h24,q4v]
       . rw[if_neg h4]
         by_cases h5:c.toNat=40
         . rw[if_pos h5]
           have h25:=c25 pre r c p bad err h5 hp (by omega);rw[y6v]at h25;simp (disch:=(first|omega|(simp only[jf];omega))) only[z2s,xf,ky,Sk,c17,h1',v0e,h25,q4v]
         . rw[if_neg h5]
           by_cases h6:wl (c::r)=0
           . rw[if_pos h6]
             rw[h6]at h26;simp (disch:=(first|omega|(simp only[jf];omega))) only[z2s,xf,ky,Sk,c17,h1',v0e,h26,q4v,jh,take_zero,c27,beq_self_eq_true,add_zero]
           . rw[if_neg h6]
             obtain⟨w,hw⟩:∃w,wl (c::r)=w+1:=⟨wl (c::r)-1,by omega⟩
             have hne:((c::r).take (wl (c::r))==[])=false:=by rw[hw];rfl
             simp (disch:=(first|omega|(simp only[jf];omega))) only[z2s,xf,ky,Sk,c17,h1',v0e,h26,q4v,jh,hne]
abbrev Tok:=Int×(List UInt8×Int)
def lx:Nat->List UInt8->Nat->List Tok⊕(Nat×Int)
 | 0,_,_ => .inl []
 | n+1,s,p=>match s with
  | [] => .inl []
  | c::r=>match one c r with
   | (k,.ok t u)=>match lx n ((c::r).drop u) (p+u)with
    | .inl l => .inl ((k,t,(p:Int))::l)
    | .inr e => .inr e
   | (_,.bad off e) => .inr (p+off,e)
   | (_,.start) => .inr (p,4)
theorem j9i:∀(m:Nat) {r t:List UInt8} {u:Nat},r.length<=m->qt r = .ok t u->t.length+1<=u/\u<=r.length
 | _,[],t,u,_,h=>by simp[qt]at h
 | 0,c::r,t,u,hm,h=>by simp at hm
 | m+1,c::r,t,u,hm,h=>by
  simp only[length_cons]at hm ⊢;by_cases e1:c.toNat=34
  . rw[k1g e1]at h;cases h;simp
  . by_cases e2:c.toNat=92
    . match r,hm,h with
      | [],hm,h=>rw[x5x e2]at h;cases h
      | d::r',hm,h =>
       rw[y4l e2]at h;cases hd:jz d<;>rw[hd]at h
       . cases h
       . obtain⟨t',u',h1,rfl,rfl⟩:=wj h
         have:=j9i m (by simp at hm;omega) h1;simp;omega
    . rw[k1e e1 e2]at h
      cases hd:jz c<;>rw[hd]at h
      . cases h
      . obtain⟨t',u',h1,rfl,rfl⟩:=wj h
        have:=j9i m (by omega) h1;simp;omega
theorem j3x{k:Tk}{t:List UInt8}{u:Nat}(h:k.up = .ok t u):∃u',k = .ok t u'/\u=1+u':=by
 cases k<;>simp[Tk.up]at h
 obtain⟨rfl,rfl⟩:=h;exact⟨_,rfl,rfl⟩
theorem g9h{c:UInt8}{r:List UInt8}(h:jk c=true):1<=al (c::r):=by simp[al,h]
theorem q0b{c:UInt8}{r t:List UInt8}{k:Int}{u:Nat}(h:one c r=(k,.ok t u)):1<=u/\u<=r.length+1:=by
 unfold one at h;split at h
 . rename_i h1
   cases h;have:=v5l (c::r);exact⟨g9h h1,by simpa using this⟩
 . split at h
   . cases h;exact⟨by omega,by omega⟩
   . split at h
     . obtain⟨u',h1,rfl⟩:=j3x (Prod.mk.inj h).2
       have:=j9i _ (le_refl _) h1;omega
     . split at h
       . obtain⟨u',h1,rfl⟩:=j3x (Prod.mk.inj h).2
         have:=z9k h1;omega
       . split at h
         . obtain⟨u',h1,rfl⟩:=j3x (Prod.mk.inj h).2
           have:=x5o _ (le_refl _) h1;omega
         . split at h
           . cases h
           . rename_i h6
             cases h;have:=y4z (c::r);exact⟨by omega,by simpa using this⟩
def z9y(out:List Tok):List Tok⊕(Nat×Int)->(List Tok×Unit)⊕(Int×Int×Unit)
 | .inl l => .inl (out++l,())
 | .inr (b,e) => .inr ((b:Int),e,())
def Tk.eok:Tk->Prop
 | .bad _ e=>e=4\/e=6
 | _=>True
theorem q0g{k:Tk}{l:List UInt8}{n:Nat}(h:k.eok):(k.push l n).eok:=by cases k<;>first|exact h|exact trivial
theorem y8o{k:Tk}(h:k.eok):k.up.eok:=by cases k<;>first|exact h|exact trivial
theorem f5n:∀(m:Nat) (r:List UInt8),r.length<=m->(qt r).eok
 | _,[],_=>trivial
 | 0,c::r,hm=>by simp at hm
 | m+1,c::r,hm=>by
  simp only[length_cons]at hm;by_cases e1:c.toNat=34
  . rw[k1g e1];trivial
  . by_cases e2:c.toNat=92
    . match r,hm with
      | [],hm=>rw[x5x e2];trivial
      | d::r',hm =>
       rw[y4l e2];cases jz d
       . exact .inl rfl
       . exact q0g (f5n m r' (by simp at hm;omega))
    . rw[k1e e1 e2]
      cases jz c
      . exact .inl rfl
      . exact q0g (f5n m r (by omega))
theorem g4h:∀r:List UInt8,(ltk r).eok
 | []=>trivial
 | c::r=>by
  unfold ltk;split
  . trivial
  . split
    . exact .inl rfl
    . split
      . exact .inl rfl
      . cases jy c
        . cases jz c
          . exact .inl rfl
          . exact q0g (g4h r)
        . exact .inl rfl
theorem k0c:∀(m deep:Nat) (r:List UInt8),r.length<=m->(nt deep r).eok
 | _,_,[],_=>by simp[nt,Tk.eok]
 | 0,_,c::r,hm=>by simp at hm
 | m+1,deep,c::r,hm=>by
  simp only[length_cons]at hm;by_cases e1:c.toNat=40
  . rw[w4q e1]
    split
    . exact .inr rfl
    . exact q0g (k0c m _ r (by omega))
  . by_cases e2:c.toNat=41
    . rw[w4o e2]
      split
      . trivial
      . exact q0g (k0c m _ r (by omega))
    . by_cases e3:c.toNat=92
      . match r,hm with
        | [],hm=>rw[x5m e3];trivial
        | d::r',hm =>
         rw[x5n e3];cases jz d
         . exact .inl rfl
         . exact q0g (k0c m _ r' (by simp at hm;omega))
      . rw[w4p e1 e2 e3]
        cases jz c
        . exact .inl rfl
        . exact q0g (k0c m _ r (by omega))
theorem b9y(c:UInt8)(r:List UInt8):(one c r).2.eok:=by
 unfold one;split
 . trivial
 . split
   . trivial
   . split
     . exact y8o (f5n _ r (le_refl _))
     . split
       . exact y8o (g4h r)
       . split
         . exact y8o (k0c _ _ r (le_refl _))
         . split<;>trivial
theorem l11(s:List UInt8):∀(m:Nat) (r pre:List UInt8) (out:List Tok) (bad:Int) (p n:Nat),r.length<=m->s=pre++r->pre.length=p->r.length<n->p+r.length<=100000->out.length+r.length<=100000 ->
 qc (q3x z5h C83) n (s,out,s,(p:Int),bad,0,())=some (z9y out (lx m r p))
 | _,_,_,_,_,_,0,_,_,_,hn,_,_=>by omega
 | 0,[],pre,out,bad,p,n+1,hm,hs,hp,hn,hb,ho=>by
  refine qe ?_;have:s.length=p:=by rw[hs];simp[hp]
  simp (disch:=(first|omega|(simp only[jf];omega))) only[q3x,this,Sk,lx,z9y,append_nil]
 | m+1,[],pre,out,bad,p,n+1,hm,hs,hp,hn,hb,ho=>by
  refine qe ?_;have:s.length=p:=by rw[hs];simp[hp]
  simp (disch:=(first|omega|(simp only[jf];omega))) only[q3x,this,Sk,lx,z9y,append_nil]
 | 0,c::r,pre,out,bad,p,n+1,hm,hs,hp,hn,hb,ho=>by simp at hm
 | m+1,c::r,pre,out,bad,p,n+1,hm,hs,hp,hn,hb,ho=>by
  simp only[length_cons]at hm hn hb ho;have h16:=c16 pre r c p bad 0 hp (by omega);have he:=b9y c r;rw[<-hs]at h16;have hl:s.length=p+(r.length+1):=by rw[hs];simp[hp]
  cases h1:one c r with
  | mk k tk =>
   rw[h1]at h16 he;cases tk with
   | ok t u =>
    have hu:=q0b h1;rw[qm (v':=(s,out++[(k,t,(p:Int))],s,((p+u:Nat):Int),bad,0,())) (by
     simp (disch:=(first|omega|(simp only[jf];omega))) only[q3x,hl,Sk,h16,q4v,jh])]
    have:=l11 s m ((c::r).drop u) (pre++(c::r).take u) (out++[(k,t,(p:Int))]) bad (p+u) n (by simp;omega) (by rw[hs,append_assoc,take_append_drop]) (by simp[hp];omega) (by simp;omega) (by simp;omega) (by simp;omega);rw[this];simp only[lx,h1];cases lx m ((c::r).drop u) (p+u)with
    | inl l=>simp[z9y]
    | inr e=>rfl
   | bad off e =>
    have he':e=4\/e=6:=he;refine qe ?_;simp (disch:=(first|omega|(simp only[jf];omega))) only[q3x,hl,Sk,h16,q4v,jh,lx,h1,z9y]
   | start =>
    refine qe ?_;simp (disch:=(first|omega|(simp only[jf];omega))) only[q3x,hl,Sk,h16,q4v,jh,lx,h1,z9y]
theorem x4z:∀(n m:Nat) (s:List UInt8) (p:Nat),s.length<=n->s.length<=m->lx n s p=lx m s p
 | 0,0,_,_,_,_=>rfl
 | 0,m+1,[],p,_,_=>rfl
 | n+1,0,[],p,_,_=>rfl
 | n+1,m+1,[],p,_,_=>rfl
 | 0,_,c::r,p,h,_=>by simp at h
 | n+1,0,c::r,p,_,h=>by simp at h
 | n+1,m+1,c::r,p,h,h'=>by
  simp only[length_cons]at h h';simp only[lx];cases h1:one c r with
  | mk k tk =>
   cases tk with
   | ok t u =>
    have hu:=q0b h1;simp only;rw[x4z n m ((c::r).drop u) (p+u) (by simp;omega) (by simp;omega)]
   | bad off e=>rfl
   | start=>rfl
def yi(s:List UInt8)(p:Nat):List Tok⊕(Nat×Int):=lx s.length s p
theorem z1u(p:Nat):yi [] p = .inl []:=rfl
theorem j5h(c:UInt8)(r:List UInt8)(p:Nat):yi (c::r) p=match one c r with
 | (k,.ok t u)=>(match yi ((c::r).drop u) (p+u)with
  | .inl l => .inl ((k,t,(p:Int))::l)
  | .inr e => .inr e)
 | (_,.bad off e) => .inr (p+off,e)
 | (_,.start) => .inr (p,4):=by
 unfold yi;simp only[length_cons,lx];cases h1:one c r with
 | mk k tk =>
  cases tk with
  | ok t u =>
   have hu:=q0b h1;simp only;rw[x4z r.length ((c::r).drop u).length ((c::r).drop u) (p+u) (by simp;omega) (le_refl _)]
  | bad off e=>rfl
  | start=>rfl
def y2o(x:Tok):List Tok⊕(Nat×Int)->List Tok⊕(Nat×Int)
 | .inl l => .inl (x::l)
 | .inr e => .inr e
theorem wg{c:UInt8}{r t:List UInt8}{k:Int}{u:Nat}(h:one c r=(k,.ok t u))(p:Nat):yi (c::r) p=y2o (k,t,(p:Int)) (yi ((c::r).drop u) (p+u)):=by
 rw[j5h,h];rfl
theorem v9f{c:UInt8}{r:List UInt8}{k e:Int}{off:Nat}(h:one c r=(k,.bad off e))(p:Nat):yi (c::r) p = .inr (p+off,e):=by
 rw[j5h,h]
theorem y7s{c:UInt8}{r:List UInt8}{k:Int}(h:one c r=(k,.start))(p:Nat):yi (c::r) p = .inr (p,4):=by
 rw[j5h,h]
def f1l:List Tok⊕(Nat×Int)->List Tok×Int×Int
 | .inl l=>(l,0,0)
 | .inr x=>([],(x.1:Int),x.2)
def k8u:Option Nat->List Tok⊕(Nat×Int)->List Tok×Int×Int
 | some b,_=>([],(b:Int),7)
 | none,x=>f1l x
def q1o(s:List UInt8):List Tok×Int×Int:=if 2000<s.length then([],0,5)else k8u (utf s) (yi s 0)
theorem c11(s:List UInt8):C67 (s,())=some ((q1o s).1,(q1o s).2.1,(q1o s).2.2,()):=by
 show F67 z5h C83 j9y (s,())=_;unfold q1o;by_cases h:2000<s.length
 . simp only[if_pos h]
   simp (disch:=(first|omega|(simp only[jf];omega))) only[F67,Sk]
 . simp only[if_neg h]
   obtain⟨o,h15⟩:=c15 s (by omega);cases hu:utf s with
   | some b =>
    rw[hu]at h15;simp only at h15;simp (disch:=(first|omega|(simp only[jf];omega))) only[F67,Sk,h15,k8u]
   | none =>
    rw[hu]at h15;have hl:=l11 s s.length s [] [] 0 0 qz (le_refl _) (by simp) rfl (by unfold qz;omega) (by omega) (by simp;omega);have hl':j9y (s,[],s,0,0,0,())=some (z9y [] (yi s 0)):=hl;simp (disch:=(first|omega|(simp only[jf];omega))) only[F67,Sk,h15,hl'];cases yi s 0 with
    | inl l=>simp[z9y,k8u,f1l]
    | inr x=>obtain⟨b,e⟩:=x;simp[z9y,k8u,f1l]
theorem x4x:∀{r t:List UInt8} {u:Nat},ltk r = .ok t u->u=t.length+1/\∃x,r=t++93::x
 | [],t,u,h=>by simp[ltk]at h
 | c::r,t,u,h=>by
  unfold ltk at h;split at h
  . rename_i hc
    cases h;exact⟨rfl,r,by rw[y4w hc];rfl⟩
  . split at h
    . cases h
    . split at h
      . cases h
      . cases h1:jy c<;>cases h2:jz c<;>rw[h1,h2]at h<;>simp only[cond_true,cond_false]at h<;>try (cases h;done)
        obtain⟨t',u',h3,rfl,rfl⟩:=wj h;obtain⟨i1,x,i2⟩:=x4x h3;exact⟨by simp;omega,x,by rw[i2];simp⟩
theorem y7u:∀(m:Nat) {r t:List UInt8} {u deep:Nat},r.length<=m->nt deep r = .ok t u->u=t.length+1/\∃x,r=t++41::x
 | _,[],t,u,deep,_,h=>by simp[nt]at h
 | 0,c::r,t,u,deep,hm,h=>by simp at hm
 | m+1,c::r,t,u,deep,hm,h=>by
  simp only[length_cons]at hm;have one:∀(d':Nat),(nt d' r).push [c] 1 = .ok t u->u=t.length+1/\∃x,c::r=t++41::x:=by
   intro d' h;obtain⟨t',u',h1,rfl,rfl⟩:=wj h;obtain⟨i1,x,i2⟩:=y7u m (by omega) h1;exact⟨by simp;omega,x,by rw[i2];simp⟩
  by_cases e1:c.toNat=40
  . rw[w4q e1]at h
    split at h
    . cases h
    . exact one _ h
  . by_cases e2:c.toNat=41
    . rw[w4o e2]at h
      split at h
      . cases h;exact⟨rfl,r,by rw[y4w e2];rfl⟩
      . exact one _ h
    . by_cases e3:c.toNat=92
      . match r,hm,h with
        | [],hm,h=>rw[x5m e3]at h;cases h
        | d::r',hm,h =>
         simp only[length_cons]at hm;rw[x5n e3]at h;cases hd:jz d<;>rw[hd]at h
         . cases h
         . obtain⟨t',u',h1,rfl,rfl⟩:=wj h
           obtain⟨i1,x,i2⟩:=y7u m (by omega) h1;exact⟨by simp;omega,x,by rw[i2];simp⟩
      . rw[w4p e1 e2 e3]at h
        cases hd:jz c<;>rw[hd]at h
        . cases h
        . exact one _ h
theorem z9o{c:UInt8}{r t:List UInt8}{k:Int}{u:Nat}(h:one c r=(k,.ok t u)):(k≠1->src k t=(c::r).take u)/\(k=1->c=34/\t.length+2<=u):=by
 unfold one at h;split at h
 . cases h;exact⟨λ_=>by simp[src],λh=>by cases h⟩
 . split at h
   . cases h;exact⟨λ_=>by simp[src],λh=>by cases h⟩
   . split at h
     . rename_i hc
       obtain⟨u',h1,rfl⟩:=j3x (Prod.mk.inj h).2;have hk:=(Prod.mk.inj h).1;have:=j9i _ (le_refl _) h1;exact⟨λhk'=>absurd hk.symm hk',λ_=>⟨y4w hc,by omega⟩⟩
     . split at h
       . rename_i hc
         obtain⟨u',h1,rfl⟩:=j3x (Prod.mk.inj h).2;obtain⟨i1,x,i2⟩:=x4x h1;have hk:=(Prod.mk.inj h).1;subst hk;refine⟨λ_ => ?_,λh=>by cases h⟩;rw[i2,i1,y4w hc];simp[src,add_comm 1,take_append,take_of_length_le]
       . split at h
         . rename_i hc
           obtain⟨u',h1,rfl⟩:=j3x (Prod.mk.inj h).2;obtain⟨i1,x,i2⟩:=y7u _ (le_refl _) h1;have hk:=(Prod.mk.inj h).1;subst hk;refine⟨λ_ => ?_,λh=>by cases h⟩;rw[i2,i1,y4w hc];simp[src,add_comm 1,take_append,take_of_length_le]
         . split at h
           . cases h
           . cases h;exact⟨λ_=>by simp[src],λh=>by cases h⟩
theorem j3j{c:UInt8}{r t:List UInt8}{k:Int}{u:Nat}(h:one c r=(k,.ok t u)):t.length<=u:=by
 obtain⟨h1,h2⟩:=z9o h;have hu:=q0b h;by_cases hk:k=1
 . have:=(h2 hk).2;omega
 . have:=h1 hk
   have hl:t.length<=(src k t).length:=by
    unfold src;split
    . rename_i h;exact absurd h hk
    . split
      . simp;omega
      . split
        . simp;omega
        . omega
   rw[this]at hl;simp only[length_take,length_cons]at hl;omega
theorem v0i{x:Tok}{y:List Tok⊕(Nat×Int)}{l:List Tok}(h:y2o x y = .inl l):∃l',y = .inl l'/\l=x::l':=by cases y<;>simp[y2o]at h;exact⟨_,rfl,h.symm⟩
theorem q4o{c:UInt8}{r:List UInt8}{p:Nat}{l:List Tok}(h:yi (c::r) p = .inl l):∃k t u l',one c r=(k,.ok t u)/\yi ((c::r).drop u) (p+u) = .inl l'/\l=(k,t,(p:Int))::l':=by
 cases h1:one c r with
 | mk k tk =>
  cases tk with
  | ok t u =>
   rw[wg h1]at h;obtain⟨l',h2,h3⟩:=v0i h;exact⟨k,t,u,l',rfl,h2,h3⟩
  | bad off e=>rw[v9f h1]at h;cases h
  | start=>rw[y7s h1]at h;cases h
def j3e(c:UInt8):Bool:=decide (c.toNat=9)||(decide (32<=c.toNat) && !decide (c.toNat=127))
theorem f1x:((List.range 256).all λn=>(λc:UInt8=>(j3e c&&jz c)||(!j3e c && !jz c)) (UInt8.ofNat n))=true:=by kernel_rfl
theorem z1p(c:UInt8):j3e c=jz c:=by
 have h:=xp (λc:UInt8=>(j3e c&&jz c)||(!j3e c && !jz c)) f1x c;cases h1:j3e c<;>cases h2:jz c<;>simp_all
theorem b5f{c:UInt8}(h:c.toNat=34\/c.toNat=92):jz c=true:=by
 rw[<-z1p];unfold j3e;rcases h with h|h<;>rw[h]<;>rfl
theorem k1f:∀(s x:List UInt8),(s.all jz=true->qt (vv s++34::x) = .ok s ((vv s).length+1))/\(s.all jz=false->∃off,qt (vv s++34::x) = .bad off 4)
 | [],x=>⟨λ_=>by rw[show vv []=[] from rfl,nil_append,k1g rfl];rfl,λh=>by simp at h⟩
 | c::s,x=>by
  obtain⟨i1,i2⟩:=k1f s x;have he:vv (c::s)++34::x=xt c++(vv s++34::x):=by simp[vv]
  have hl:(vv (c::s)).length=(xt c).length+(vv s).length:=by simp[vv]
  rw[he,hl];by_cases e1:c.toNat=34\/c.toNat=92
  . have hm:=b5f e1
    have h1:xt c=[92,c]:=by simp[xt,e1]
    rw[h1,cons_append,cons_append,nil_append,y4l rfl,hm,cond_true];refine⟨λh => ?_,λh => ?_⟩
    . rw[i1 (by simpa[hm]using h)];simp[Tk.push];omega
    . obtain⟨off,ho⟩:=i2 (by simpa[hm]using h)
      rw[ho];exact⟨_,rfl⟩
  . have h1:xt c=[c]:=by simp[xt,e1]
    have e2:¬c.toNat=34:=λh=>e1 (.inl h);have e3:¬c.toNat=92:=λh=>e1 (.inr h);rw[h1,cons_append,nil_append,k1e e2 e3];cases hm:jz c with
    | true =>
     rw[cond_true];refine⟨λh => ?_,λh => ?_⟩
     . rw[i1 (by simpa[hm]using h)];simp[Tk.push];omega
     . obtain⟨off,ho⟩:=i2 (by simpa[hm]using h)
       rw[ho];exact⟨_,rfl⟩
    | false=>exact⟨λh=>by simp[hm]at h,λ_=>⟨0,rfl⟩⟩
theorem y2c:(jk 34||q3j 34)=false:=by kernel_rfl
theorem g5n(r:List UInt8):one 34 r=(1,(qt r).up):=by
 have h:=y2c;simp only[Bool.or_eq_false_iff]at h;unfold one;rw[if_neg (by rw[h.1];decide),if_neg (by rw[h.2];decide),if_pos (show UInt8.toNat 34=34 from rfl)]
def z1f(c:UInt8):Bool:=decide (c.toNat<128)
theorem b2j:((List.range 256).all λn=>(λc:UInt8 => !z1f c||(decide (zd c=0)&&decide (y3k (q3h c)=1))) (UInt8.ofNat n))=true:=by kernel_rfl
theorem z1i{c:UInt8}(h:c.toNat<128)(r:List UInt8):ch (c::r)=1:=by
 have h1:(!z1f c||(decide (zd c=0)&&decide (y3k (q3h c)=1)))=true:=xp (λc:UInt8 => !z1f c||(decide (zd c=0)&&decide (y3k (q3h c)=1))) b2j c;have h2:z1f c=true:=by simp[z1f,h]
 simp only[h2,Bool.not_true,Bool.false_or,and_eq_true,decide_eq_true_eq]at h1;simp[ch,h1.1,xr,h1.2]
theorem k1z:∀(n:Nat) (s:List UInt8) (p:Nat),(∀c∈s,c.toNat<128)->ut n s p=none
 | 0,_,_,_=>rfl
 | n+1,[],p,_=>by simp[ut]
 | n+1,c::r,p,h=>by
  have:=z1i (h c (by simp)) r;simp only[ut,this,List.drop_succ_cons,drop_zero];simp only[reduceCtorEq,if_false,Nat.one_ne_zero];exact k1z n r (p+1) λc hc=>h c (by simp[hc])
def y8m(l:List Tok):List UInt8:=l.flatMap λx=>src x.1 x.2.1
def stops(p:UInt8->Bool):List UInt8->Prop
 | []=>True
 | b::_=>p b=false
theorem v5k{X:List UInt8}(hX:stops jk X):∀y:List UInt8,y.all jk=true->al (y++X)=y.length
 | [],_=>by
  cases X with
  | nil=>rfl
  | cons b X=>have:jk b=false:=hX;simp[al,this]
 | c::y,h=>by
  simp only[all_cons,and_eq_true]at h;simp only[cons_append,al,h.1,cond_true,length_cons,v5k hX y h.2]
theorem v9j(X:List UInt8):∀{r t:List UInt8} {u:Nat},ltk r = .ok t u->ltk (t++93::X) = .ok t u
 | [],t,u,h=>by simp[ltk]at h
 | c::r,t,u,h=>by
  unfold ltk at h;split at h
  . cases h;simp[ltk]
  . rename_i e1
    split at h
    . cases h
    . rename_i e2
      split at h
      . cases h
      . rename_i e3
        cases h1:jy c<;>cases h2:jz c<;>rw[h1,h2]at h<;>simp only[cond_true,cond_false]at h<;>try (cases h;done)
        obtain⟨t',u',h3,rfl,rfl⟩:=wj h;have:=v9j X h3;simp only[cons_append,nil_append,ltk,if_neg e1,if_neg e2,if_neg e3,h1,h2,cond_true,cond_false,this,Tk.push]
theorem z2k:∀(m:Nat) (s:List UInt8) (p:Nat) (l:List Tok),s.length<=m->yi s p = .inl l->(y8m l).length<=2*s.length/\(∀x∈l,x.2.1.length<=s.length)/\((∀x∈l,x.1≠1)->y8m l=s)
 | _,[],p,l,_,h=>by rw[z1u]at h;cases h;simp[y8m]
 | 0,c::r,p,l,hm,h=>by simp at hm
 | m+1,c::r,p,l,hm,h=>by
  obtain⟨k,t,u,l',h1,h2,rfl⟩:=q4o h;have hu:=q0b h1;obtain⟨i1,i2,i3⟩:=z2k m ((c::r).drop u) (p+u) l' (by simp at hm ⊢;omega) h2;obtain⟨f1,f2⟩:=z9o h1;have ht:=j3j h1;have hs:y8m ((k,t,(p:Int))::l')=src k t++y8m l':=rfl;simp only[length_drop,length_cons]at i1 i2 ⊢;refine⟨?_,λx hx => ?_,λhq => ?_⟩
  . rw[hs,length_append]
    by_cases hk:k=1
    . have:=(f2 hk).2
      have he:=q7b t;have:(src k t).length=(vv t).length+2:=by simp[src,hk]
      omega
    . rw[f1 hk,length_take,length_cons];omega
  . rcases mem_cons.1 hx with rfl|hx
    . simp only;omega
    . have:=i2 x hx;omega
  . rw[hs,f1 (hq (k,t,(p:Int)) (by simp)),i3 λx hx=>hq x (by simp[hx]),take_append_drop]
inductive Val:List UInt8->Prop
 | nil:Val []
 | cons (s:List UInt8) (h:ch s≠0) (h2:Val (s.drop (ch s))):Val s
theorem k2a:∀(n:Nat) (s:List UInt8) (p:Nat),s.length<n->ut n s p=none->Val s
 | 0,_,_,h,_=>by omega
 | n+1,s,p,h,hu=>by
  unfold ut at hu;split at hu
  . rename_i hs;subst hs;exact .nil
  . split at hu
    . cases hu
    . rename_i hs h0
      have:=v6a s;exact .cons s h0 (k2a n _ _ (by simp;omega) hu)
theorem f5s{s:List UInt8}(h:Val s):∀(n p:Nat),ut n s p=none:=by
 induction h with
 | nil=>intro n p;cases n<;>simp[ut]
 | cons s h h2 ih =>
  intro n p;cases n with
  | zero=>rfl
  | succ n =>
   unfold ut;split
   . rfl
   . first|exact ih n _|(rw[if_neg h];exact ih n _)
theorem j9k{s:List UInt8}(hl:s.length<=1000000):utf s=none↔Val s :=
 ⟨λh=>k2a _ _ _ (by unfold qz;omega) h,λh=>f5s h _ _⟩
def v6f(c:UInt8):Bool := !j5v c||decide (128<=c.toNat)
theorem g9t:((List.range 256).all λn=>v6f (UInt8.ofNat n))=true:=by kernel_rfl
theorem k8j{c:UInt8}(h:j5v c=true):128<=c.toNat:=by
 have:=xp v6f g9t c;simpa[v6f,h]using this
theorem y2p:∀(n:Nat) (r:List UInt8) (v v':Int),xr n r v=some v'->n<=r.length/\∀c∈r.take n,128<=c.toNat
 | 0,r,v,v',_=>⟨by omega,by simp⟩
 | n+1,[],v,v',h=>by simp[xr]at h
 | n+1,c::r,v,v',h=>by
  cases hc:j5v c with
  | true =>
   simp only[xr,hc,cond_true]at h;obtain⟨h1,h2⟩:=y2p n r _ _ h;refine⟨by simp;omega,λx hx => ?_⟩;rw[take_succ_cons]at hx;rcases mem_cons.1 hx with rfl|hx
   . exact k8j hc
   . exact h2 x hx
  | false=>simp[xr,hc]at h
theorem j5c:∀(n:Nat) (r x:List UInt8) (v:Int),n<=r.length->xr n (r++x) v=xr n r v
 | 0,r,x,v,_=>by cases r<;>rfl
 | n+1,[],x,v,h=>by simp at h
 | n+1,c::r,x,v,h=>by
  simp only[cons_append,xr];cases j5v c
  . rfl
  . exact j5c n r x _ (by simpa using h)
theorem z8u{c:UInt8}{r:List UInt8}(h:ch (c::r)≠0):∃v,¬zd c<0/\¬r.length<(zd c).toNat/\xr (zd c).toNat r (q3h c)=some v/\y3k v=zd c+1/\ch (c::r)=(zd c).toNat+1:=by
 simp only[ch]at h;split at h
 . exact absurd rfl h
 . rename_i h1
   split at h
   . exact absurd rfl h
   . rename_i h2
     split at h
     . exact absurd rfl h
     . rename_i v hv
       split at h
       . rename_i h3
         exact⟨v,h1,h2,hv,h3,by simp[ch,h1,h2,hv,h3]⟩
       . exact absurd rfl h
theorem v5z{s x:List UInt8}(h:ch s≠0):ch (s++x)=ch s:=by
 cases s with
 | nil=>exact absurd rfl h
 | cons c r =>
  obtain⟨v,h1,h2,h3,h4,h5⟩:=z8u h;have:xr (zd c).toNat (r++x) (q3h c)=some v:=by rw[j5c _ _ _ _ (by omega),h3]
  rw[h5,cons_append];simp only[ch,if_neg h1,if_neg (show ¬(r++x).length<(zd c).toNat by simp;omega),this,if_pos h4]
theorem v6b{s x:List UInt8}(h:ch (s++x)≠0)(hl:ch (s++x)<=s.length):ch s=ch (s++x):=by
 cases s with
 | nil=>simp at hl;exact absurd hl h
 | cons c r =>
  obtain⟨v,h1,h2,h3,h4,h5⟩:=z8u (r:=r++x) h;have h5':ch (c::r++x)=(zd c).toNat+1:=h5;rw[h5']at hl ⊢;simp only[length_cons]at hl;rw[j5c _ _ _ _ (by omega)]at h3;simp only[ch,if_neg h1,if_neg (show ¬r.length<(zd c).toNat by omega),h3,if_pos h4]
theorem Val.app{a b:List UInt8}(ha:Val a)(hb:Val b):Val (a++b):=by
 induction ha with
 | nil=>exact hb
 | cons s h h2 ih =>
  have:=v6a s;refine .cons _ (by rw[v5z h];exact h) ?_;rw[v5z h,drop_append,show ch s-s.length=0 by omega,drop_zero];exact ih
theorem Val.one{c:UInt8}(h:c.toNat<128):Val [c] := .cons _ (by rw[z1i h];simp) (by rw[z1i h];exact .nil)
theorem Val.split:∀(m:Nat) (a:List UInt8) (c:UInt8) (b:List UInt8),a.length<=m->c.toNat<128->Val (a++c::b)->Val a/\Val b
 | m,[],c,b,_,hc,h=>by
  refine⟨.nil,?_⟩;cases h with
  | cons _ h h2=>simpa[z1i hc]using h2
 | 0,d::a,c,b,hm,hc,h=>by simp at hm
 | m+1,d::a,c,b,hm,hc,h=>by
  cases h with
  | cons _ h0 h2 =>
   have hk:ch (d::a++c::b)<=(d::a).length:=by
    by_cases hd:d.toNat<128
    . have:ch (d::a++c::b)=1:=z1i hd _
      rw[this];simp
    . obtain⟨v,g1,g2,g3,g4,g5⟩:=z8u (r:=a++c::b) h0
      have g5':ch (d::a++c::b)=(zd d).toNat+1:=g5;rw[g5',length_cons];obtain⟨e1,e2⟩:=y2p _ _ _ _ g3;rcases lt_or_ge a.length (zd d).toNat with hlt|hge
      . exfalso
        have:c∈(a++c::b).take (zd d).toNat:=by
         rw[take_append];obtain⟨j,hj⟩:∃j,(zd d).toNat-a.length=j+1:=⟨(zd d).toNat-a.length-1,by omega⟩
         rw[hj,take_succ_cons];simp
        have:=e2 c this;omega
      . omega
   have hsame:=v6b (s:=d::a) (x:=c::b) h0 hk;have h0':ch (d::a)≠0:=by rw[hsame];exact h0
   rw[drop_append,show ch (d::a++c::b)-(d::a).length=0 by omega,drop_zero,<-hsame]at h2;obtain⟨i1,i2⟩:=Val.split m ((d::a).drop (ch (d::a))) c b (by simp at hm ⊢;omega) hc h2;exact⟨.cons _ h0' i1,i2⟩
theorem Val.cut{a b:List UInt8}{c:UInt8}(hc:c.toNat<128)(h:Val (a++c::b)):Val a/\Val b:=Val.split _ a c b (le_refl _) hc h
theorem Val.glue{a b:List UInt8}{c:UInt8}(hc:c.toNat<128)(ha:Val a)(hb:Val b):Val (a++c::b):=ha.app ((Val.one hc).app hb)
theorem x6f:∀(t a:List UInt8),Val (a++t)->Val (a++vv t)
 | [],a,h=>h
 | c::t,a,h=>by
  have he:a++vv (c::t)=(a++xt c)++vv t:=by simp[vv]
  rw[he];refine x6f t _ ?_;by_cases e1:c.toNat=34\/c.toNat=92
  . have hc:c.toNat<128:=by omega
    obtain⟨i1,i2⟩:=Val.cut hc h;have h1:xt c=[92,c]:=by simp[xt,e1]
    rw[h1,show a++[92,c]++t=a++92::([]++c::t) by simp];exact Val.glue (by decide) i1 (Val.glue hc .nil i2)
  . have h1:xt c=[c]:=by simp[xt,e1]
    rw[h1];simpa using h
def kd(d:Nat)(l:List Tok):Int:=match l[d]? with|some t=>t.1|none => -1
theorem gdk{pre l:List Tok}{p d:Nat}(hp:pre.length=p){x:Tok}:(pre++l).getD (p+d) x=l.getD d x:=by
 subst hp;simp[List.getD_eq_getElem?_getD,List.getElem?_append_right]
theorem y6n(d:Nat)(pre l:List Tok)(p:Nat)(a b:List UInt8)(hp:pre.length=p)(hb:p+d+l.length<=1000000000) :
 yv ((d:Int),pre++l,(p:Int),a,b,())=some (kd d l,pre++l,(p:Int),a,b,()):=by
 show k3a q9j _=_;have hw:IntKind.i64.wrap ((p:Int)+(d:Int))=((p+d:Nat):Int):=by rw[wr (by omega) (by omega)];simp
 have hlen:(pre++l).length=p+l.length:=by simp[hp]
 simp only[k3a,hw,hlen];by_cases h:l.length<=d
 . rw[decide_eq_true (by omega)]
   simp only[cond_true,kd,getElem?_eq_none h]
 . rw[decide_eq_false (by omega)]
   simp only[cond_false,q9j,z6p,hw,hlen];rw[decide_eq_true (by omega),decide_eq_true (by omega)];simp only[Bool.and_self,cond_true,toNat_natCast,Option.bind_some];rw[gdk hp];simp only[kd,List.getElem?_eq_getElem (show d<l.length by omega),getD_lt (show d<l.length by omega)]
def skn:List Tok->Nat
 | []=>0
 | t::r=>bif t.1==4||t.1==3 then skn r+1 else 0
theorem y0a:∀l,skn l<=l.length
 | []=>le_refl _
 | t::r=>by have:=y0a r;simp only[skn];cases (t.1==4||t.1==3)<;>simp;omega
theorem q4l(t:Tok)(r:List Tok):kd 0 (t::r)=t.1:=rfl
theorem f3i(a b:List UInt8):∀(l pre:List Tok) (p n:Nat),pre.length=p->l.length<n->p+l.length<=100000000 ->
 qc (q2h yv) n (pre++l,(p:Int),a,b,())=some (pre++l,((p+skn l:Nat):Int),a,b,())
 | [],pre,p,n+1,hp,hn,hb=>by
  have h:=y6n 0 pre [] p a b hp (by simp at hb ⊢;omega);refine qe ?_;simp only[q2h,natCast_zero]at h ⊢;simp only[h,Option.bind_some,show kd 0 ([]:List Tok) = -1 from rfl,ibF (show (-1:Int)≠4 by decide),ibF (show (-1:Int)≠3 by decide),cond_false,skn,add_zero]
 | t::l,pre,p,n+1,hp,hn,hb=>by
  simp only[length_cons]at hn hb;have h:=y6n 0 pre (t::l) p a b hp (by simp only[length_cons];omega);simp only[natCast_zero,q4l]at h;have hw:=wrN p (by omega);by_cases h4:t.1=4
  . rw[qm (v':=(pre++t::l,((p+1:Nat):Int),a,b,())) (by simp only[q2h,h,Option.bind_some,ibT h4,cond_true,hw])]
    rw[shift,f3i a b l (pre++[t]) (p+1) n (by simp[hp]) (by omega) (by omega)];simp only[skn,ibT h4,Bool.true_or,cond_true,add_assoc,add_comm 1]
  . by_cases h3:t.1=3
    . rw[qm (v':=(pre++t::l,((p+1:Nat):Int),a,b,())) (by simp only[q2h,h,Option.bind_some,ibF h4,ibT h3,cond_true,cond_false,hw])]
      rw[shift,f3i a b l (pre++[t]) (p+1) n (by simp[hp]) (by omega) (by omega)];simp only[skn,ibT h3,Bool.or_true,cond_true,add_assoc,add_comm 1]
    . refine qe ?_
      simp only[q2h,h,Option.bind_some,ibF h4,ibF h3,cond_false,skn,Bool.or_self,add_zero]
theorem d5s(pre l:List Tok)(p:Nat)(a b:List UInt8)(hp:pre.length=p)(hb:p+l.length<=100000000) :
 x6i (pre++l,(p:Int),a,b,())=some (true,pre++l,((p+skn l:Nat):Int),a,b,()):=by
 show k2t yv q8z _=_;have hl:q8z (pre++l,(p:Int),a,b,())=_:=f3i a b l pre p qz hp (by unfold qz;omega) hb;simp only[k2t,hl,Option.bind_some]
def sgn(s:List UInt8):List Tok->Bool
 | t::_=>t.1==2&&t.2.1==s
 | []=>false
theorem b2o(s:List UInt8)(pre l:List Tok)(p:Nat)(a b:List UInt8)(hp:pre.length=p)(hb:p+l.length<=100000000) :
 q9m (s,pre++l,(p:Int),a,b,())=some (sgn s l,pre++l,(p:Int),a,b,()):=by
 show v3z yv _=_;have h:=y6n 0 pre l p a b hp (by omega);simp only[natCast_zero]at h;have hlen:(pre++l).length=p+l.length:=by simp[hp]
 cases l with
 | nil=>simp only[v3z,h,Option.bind_some,show kd 0 ([]:List Tok) = -1 from rfl,ibF (show (-1:Int)≠2 by decide),cond_false,sgn]
 | cons t r =>
  simp only[length_cons]at hlen hb;simp only[v3z,h,Option.bind_some,q4l];by_cases h2:t.1=2
  . simp only[ibT h2,cond_true,hlen,sgn,Bool.true_and]
    rw[decide_eq_true (by omega),decide_eq_true (by omega)];simp only[Bool.and_self,cond_true,toNat_natCast,gd hp]
  . simp only[ibF h2,cond_false,sgn,Bool.false_and]
def szT:List Tok->Nat
 | []=>0
 | t::r=>t.2.1.length+szT r
def dwn(acc:List UInt8):List Tok->List UInt8×Nat
 | t::u::r=>bif(t.1==2&&t.2.1==[46])&&u.1==0 then((dwn (acc++([46]++u.2.1)) r).1,(dwn (acc++([46]++u.2.1)) r).2+2)else(acc,0)
 | _=>(acc,0)
theorem b4x(a b:List UInt8):∀(m:Nat) (l pre:List Tok) (acc:List UInt8) (p n:Nat),l.length<=m->pre.length=p->l.length<n->p+l.length<=100000000->acc.length+szT l+l.length<=100000000 ->
 qc (q0r yv q9m) n (acc,pre++l,(p:Int),a,b,())=some ((dwn acc l).1,pre++l,((p+(dwn acc l).2:Nat):Int),a,b,())
 | m,l,pre,acc,p,n+1,hm,hp,hn,hb,hz=>by
  have h:=b2o [46] pre l p a b hp hb;have hlen:(pre++l).length=p+l.length:=by simp[hp]
  have hw:=wrN p (by omega);have h1:=y6n 1 pre l p a b hp (by omega);simp only[Int.natCast_one]at h1
  match l,hm,hn,hb,hz,h,hlen,h1 with
  | [],hm,hn,hb,hz,h,hlen,h1 =>
   refine qe ?_;simp only[q0r,h,Option.bind_some,sgn,cond_false,dwn,add_zero]
  | [t],hm,hn,hb,hz,h,hlen,h1 =>
   refine qe ?_;simp only[q0r,h,Option.bind_some,sgn];cases hs:(t.1==2&&t.2.1==[46])with
   | false=>simp only[cond_false,dwn,add_zero]
   | true=>simp only[cond_true,h1,Option.bind_some,show kd 1 [t] = -1 from rfl,ibF (show (-1:Int)≠0 by decide),cond_false,dwn,add_zero]
  | t::u::r,hm,hn,hb,hz,h,hlen,h1 =>
   simp only[length_cons,szT]at hm hn hb hz hlen;cases hs:(t.1==2&&t.2.1==[46])with
   | false =>
    refine qe ?_;simp only[q0r,h,Option.bind_some,sgn,hs,cond_false,dwn,Bool.false_and,add_zero]
   | true =>
    by_cases hu:u.1=0
    . have hgd:(pre++t::u::r).getD (p+1) ((0,([],0)):Tok)=u:=by rw[gdk hp];rfl
      rw[qm (v':=(acc++([46]++u.2.1),pre++t::u::r,((p+2:Nat):Int),a,b,())) ?_]
      . rw[show pre++t::u::r=(pre++[t,u])++r by simp]
        rw[b4x a b (m-2) r (pre++[t,u]) _ (p+2) n (by omega) (by simp[hp]) (by omega) (by omega) (by simp only[jf];omega)];simp only[dwn,hs,ibT hu,Bool.and_self,cond_true];rw[show p+2+(dwn (acc++([46]++u.2.1)) r).2=p+((dwn (acc++([46]++u.2.1)) r).2+2) by omega]
      . simp only[q0r,h,Option.bind_some,sgn,hs,cond_true,h1,show kd 1 (t::u::r)=u.1 from rfl,ibT hu,hw,hlen,toNat_natCast,hgd]
        rw[decide_eq_true (by omega),decide_eq_true (by omega),decide_eq_true (by simp only[length_cons,length_nil];omega),decide_eq_true (by simp only[jf];omega)];simp only[Bool.and_self,cond_true];rw[show IntKind.i64.wrap ((p:Int)+2)=((p+2:Nat):Int) by rw[wr (by omega) (by omega)];simp]
    . refine qe ?_
      simp only[q0r,h,Option.bind_some,sgn,hs,cond_true,h1,show kd 1 (t::u::r)=u.1 from rfl,ibF hu,cond_false,dwn,Bool.and_false,add_zero]
def dot:List Tok->List UInt8×Bool×Nat
 | t::r=>bif t.1==0 then((dwn t.2.1 r).1,true,(dwn t.2.1 r).2+1)else([],false,0)
 | []=>([],false,0)
theorem b2n(pre l:List Tok)(p:Nat)(a b:List UInt8)(hp:pre.length=p)(hb:p+l.length<=100000000)(hz:szT l+l.length<=100000000) :
 q9k (pre++l,(p:Int),a,b,())=some ((dot l).1,(dot l).2.1,pre++l,((p+(dot l).2.2:Nat):Int),a,b,()):=by
 show v3y yv q9m q9l _=_;have h:=y6n 0 pre l p a b hp (by omega);simp only[natCast_zero]at h;have hlen:(pre++l).length=p+l.length:=by simp[hp]
 have hw:=wrN p (by omega);cases l with
 | nil=>simp only[v3y,h,Option.bind_some,show kd 0 ([]:List Tok) = -1 from rfl,inT (show (-1:Int)≠0 by decide),cond_true,dot,add_zero]
 | cons t r =>
  simp only[length_cons,szT]at hlen hb hz;simp only[v3y,h,Option.bind_some,q4l];by_cases h0:t.1=0
  . have hl:j6w (t.2.1,(pre++[t])++r,((p+1:Nat):Int),a,b,())=_:=b4x a b r.length r (pre++[t]) t.2.1 (p+1) qz (le_refl _) (by simp[hp]) (by unfold qz;omega) (by omega) (by omega)
    rw[<-shift]at hl;simp only[inF h0,cond_false,hlen,toNat_natCast,gd hp];rw[decide_eq_true (by omega),decide_eq_true (by omega)];simp only[Bool.and_self,cond_true,q9l,z6q,hw,hl,Option.bind_some,dot,ibT h0];rw[show p+1+(dwn t.2.1 r).2=p+((dwn t.2.1 r).2+1) by omega]
  . simp only[inT h0,cond_true,dot,ibF h0,cond_false,add_zero]
def loc:List Tok->Bool×List UInt8×Nat
 | t::r=>bif t.1==1 then(true,t.2.1,1)else((dot (t::r)).2.1,(dot (t::r)).1,(dot (t::r)).2.2)
 | []=>(false,[],0)
theorem d5t(pre l:List Tok)(p:Nat)(a b:List UInt8)(hp:pre.length=p)(hb:p+l.length<=100000000)(hz:szT l+l.length<=100000000) :
 x6j (pre++l,(p:Int),a,b,())=some ((loc l).1,pre++l,((p+(loc l).2.2:Nat):Int),(loc l).2.1,b,()):=by
 show v3t yv q9k q9a _=_;have h:=y6n 0 pre l p a b hp (by omega);have hd:=b2n pre l p a b hp hb hz;simp only[natCast_zero]at h;have hlen:(pre++l).length=p+l.length:=by simp[hp]
 have hw:=wrN p (by omega);cases l with
 | nil=>simp only[v3t,h,Option.bind_some,show kd 0 ([]:List Tok) = -1 from rfl,ibF (show (-1:Int)≠1 by decide),cond_false,hd,dot,loc,add_zero]
 | cons t r =>
  simp only[length_cons]at hlen hb;simp only[v3t,h,Option.bind_some,q4l];by_cases h1:t.1=1
  . simp only[ibT h1,cond_true,hlen,toNat_natCast,gd hp]
    rw[decide_eq_true (by omega),decide_eq_true (by omega)];simp only[Bool.and_self,cond_true,q9a,z6k,hw,Option.bind_some,loc,ibT h1]
  . simp only[ibF h1,cond_false,hd,Option.bind_some,loc]
theorem d5u(pre l:List Tok)(p:Nat)(a b:List UInt8)(hp:pre.length=p)(hb:p+l.length<=100000000) :
 x6k (pre++l,(p:Int),a,b,())=some (sgn [64] l,pre++l,((p+1:Nat):Int),a,b,()):=by
 show k2u q9m _=_;simp only[k2u,b2o [64] pre l p a b hp hb,Option.bind_some,wrN p (show p<=9223372036854775806 by omega)]
def dom:List Tok->Bool×List UInt8×Nat
 | t::r=>bif t.1==5 then(true,src t.1 t.2.1,1)else((dot (t::r)).2.1,(dot (t::r)).1,(dot (t::r)).2.2)
 | []=>(false,[],0)
theorem d5v(pre l:List Tok)(p:Nat)(a b:List UInt8)(hp:pre.length=p)(hb:p+l.length<=100000000)(hz:szT l+l.length<=9000) :
 x6l (pre++l,(p:Int),a,b,())=some ((dom l).1,pre++l,((p+(dom l).2.2:Nat):Int),a,(dom l).2.1,()):=by
 show v3u yv q9k C89 q9b _=_;have h:=y6n 0 pre l p a b hp (by omega);have hd:=b2n pre l p a b hp hb (by omega);simp only[natCast_zero]at h;have hlen:(pre++l).length=p+l.length:=by simp[hp]
 have hw:=wrN p (by omega);cases l with
 | nil=>simp only[v3u,h,Option.bind_some,show kd 0 ([]:List Tok) = -1 from rfl,ibF (show (-1:Int)≠5 by decide),cond_false,hd,dot,dom,add_zero]
 | cons t r =>
  simp only[length_cons,szT]at hlen hb hz;simp only[v3u,h,Option.bind_some,q4l];by_cases h1:t.1=5
  . simp only[ibT h1,cond_true,hlen,toNat_natCast,gd hp]
    rw[decide_eq_true (by omega),decide_eq_true (by omega),c9 t.1 t.2.1 t.2.2 (by omega)];simp only[Bool.and_self,cond_true,q9b,z6l,hw,Option.bind_some,dom,ibT h1]
  . simp only[ibF h1,cond_false,hd,Option.bind_some,dom]
theorem xv:∀(p:Nat) (l:List Tok),szT (l.drop p)<=szT l
 | 0,l=>le_refl _
 | p+1,[]=>le_refl _
 | p+1,t::r=>le_trans (xv p r) (by simp only[szT];omega)
theorem w4r(l:List Tok)(p:Nat)(a b:List UInt8)(hp:p<=l.length)(hb:l.length<=9000) :
 x6i (l,(p:Int),a,b,())=some (true,l,((p+skn (l.drop p):Nat):Int),a,b,()):=by
 have h:=d5s (l.take p) (l.drop p) p a b (by simp;omega) (by simp;omega)
 rwa[take_append_drop]at h
theorem m1h(l:List Tok)(p:Nat)(a b:List UInt8)(hp:p<=l.length)(hb:szT l+l.length<=9000) :
 x6j (l,(p:Int),a,b,())=some ((loc (l.drop p)).1,l,((p+(loc (l.drop p)).2.2:Nat):Int),(loc (l.drop p)).2.1,b,()):=by
 have hs:=xv p l;have h:=d5t (l.take p) (l.drop p) p a b (by simp;omega) (by simp;omega) (by simp;omega)
 rwa[take_append_drop]at h
theorem m1i(l:List Tok)(p:Nat)(a b:List UInt8)(hp:p<=l.length)(hb:l.length<=9000) :
 x6k (l,(p:Int),a,b,())=some (sgn [64] (l.drop p),l,((p+1:Nat):Int),a,b,()):=by
 have h:=d5u (l.take p) (l.drop p) p a b (by simp;omega) (by simp;omega)
 rwa[take_append_drop]at h
theorem m1j(l:List Tok)(p:Nat)(a b:List UInt8)(hp:p<=l.length)(hb:szT l+l.length<=9000) :
 x6l (l,(p:Int),a,b,())=some ((dom (l.drop p)).1,l,((p+(dom (l.drop p)).2.2:Nat):Int),a,(dom (l.drop p)).2.1,()):=by
 have hs:=xv p l;have h:=d5v (l.take p) (l.drop p) p a b (by simp;omega) (by simp;omega) (by simp;omega)
 rwa[take_append_drop]at h
theorem v7d:∀(m:Nat) (l:List Tok) (acc:List UInt8),l.length<=m->(dwn acc l).2<=l.length
 | _,[],_,_=>le_refl _
 | _,[_],_,_=>zero_le _
 | 0,_::_::_,_,h=>by simp at h
 | m+1,t::u::r,acc,h=>by
  have:=v7d m r (acc++([46]++u.2.1)) (by simp at h;omega);simp only[dwn];cases ((t.1==2&&t.2.1==[46])&&u.1==0)with
  | true=>simp only[cond_true,length_cons];omega
  | false=>simp only[cond_false];omega
theorem v7a(l:List Tok):(dot l).2.2<=l.length:=by
 cases l with
 | nil=>exact le_refl _
 | cons t r =>
  have:=v7d r.length r t.2.1 (le_refl _);simp only[dot];cases (t.1==0)with
  | true=>simp only[cond_true,length_cons];omega
  | false=>simp only[cond_false];omega
theorem f3q(l:List Tok):(loc l).2.2<=l.length:=by
 cases l with
 | nil=>exact le_refl _
 | cons t r =>
  have:=v7a (t::r);simp only[loc];cases (t.1==1)with
  | true=>simp
  | false=>simpa using this
theorem f1i(l:List Tok):(dom l).2.2<=l.length:=by
 cases l with
 | nil=>exact le_refl _
 | cons t r =>
  have:=v7a (t::r);simp only[dom];cases (t.1==5)with
  | true=>simp
  | false=>simpa using this
def mt(l:List Tok):Option (List UInt8×List UInt8×Nat) :=
 let n1:=skn l
 let n2:=n1+(loc (l.drop n1)).2.2
 let n3:=n2+skn (l.drop n2)
 let n5:=n3+1+skn (l.drop (n3+1))
 let n6:=n5+(dom (l.drop n5)).2.2
 bif !(loc (l.drop n1)).1 then none else bif !sgn [64] (l.drop n3)then none else bif !(dom (l.drop n5)).1 then none else
 some ((loc (l.drop n1)).2.1,(dom (l.drop n5)).2.1,n6+skn (l.drop n6))
theorem w5r{s:List UInt8}{l:List Tok}(h:sgn s l=true):1<=l.length:=by
 cases l with
 | nil=>cases h
 | cons t r=>simp
theorem c71(l:List Tok)(hb:szT l+l.length<=9000) :
 C71 (l,())=some (match mt l with|some r=>(r.1,r.2.1,(r.2.2:Int),true,())|none=>([],[],0,false,())):=by
 show F71 x6i x6j x6k x6l _=_;have h1:=w4r l 0 [] [] (zero_le _) (by omega);simp only[natCast_zero,drop_zero,zero_add]at h1;have b1:=y0a l;have h2:=m1h l (skn l) [] [] b1 hb;have b2:=f3q (l.drop (skn l));rw[length_drop]at b2;simp only[F71,h1,h2,Option.bind_some,Bool.not_true,cond_false,mt];cases hl:(loc (l.drop (skn l))).1 with
 | false=>simp only[Bool.not_false,cond_true]
 | true =>
  simp only[Bool.not_true,cond_false];generalize hn2:skn l+(loc (l.drop (skn l))).2.2=n2;have b3:n2<=l.length:=by omega
  generalize (loc (l.drop (skn l))).2.1=A;rw[w4r l n2 A [] b3 (by omega)];have b4:=y0a (l.drop n2);rw[length_drop]at b4;simp only[Option.bind_some,Bool.not_true,cond_false];generalize hn3:n2+skn (l.drop n2)=n3;rw[m1i l n3 A [] (by omega) (by omega)];simp only[Option.bind_some];cases hs:sgn [64] (l.drop n3)with
  | false=>simp only[Bool.not_false,cond_true]
  | true =>
   have b5:=w5r hs;rw[length_drop]at b5;simp only[Bool.not_true,cond_false];rw[w4r l (n3+1) A [] (by omega) (by omega)];have b6:=y0a (l.drop (n3+1));rw[length_drop]at b6;simp only[Option.bind_some,Bool.not_true,cond_false];generalize hn5:n3+1+skn (l.drop (n3+1))=n5;rw[m1j l n5 A [] (by omega) hb];have b7:=f1i (l.drop n5);rw[length_drop]at b7;simp only[Option.bind_some];cases hd:(dom (l.drop n5)).1 with
   | false=>simp only[Bool.not_false,cond_true]
   | true =>
    simp only[Bool.not_true,cond_false];rw[w4r l _ A _ (by omega) (by omega)];simp only[Option.bind_some,Bool.not_true,cond_false]
section
variable {T:List R6} {A:List R4} {B:List R3}
theorem d85(x:Int):Df (C85 (x,())) (λ_=>True):=by
 unfold C85 F85;dsimp only;with_reducible repeat' (first|apply dP|apply dX<;>intro _)
 all_goals trivial
theorem g9y(s:List UInt8)(b:Bool)(hs:s.length<=1000000000000000):Df (q7y (s,b,())) (λ_=>True):=by
 unfold q7y z6r;dsimp only;refine dZ (P:=λ_=>True) ?_ (λz _=>by cases z<;>exact dP trivial);refine dL ?I ?m ?h _ ?hv ?hn
 case I=>exact(λv=>v.2.1.1=s/\0<=v.2.1.2)
 case m=>exact(λv=>s.length-v.2.1.2.toNat)
 case hv=>exact⟨rfl,Int.le_refl _⟩
 case hn=>exact(by(try dsimp only);omega)
 . rintro⟨x0,⟨x1,p⟩,u⟩ hI
   dsimp only at hI;obtain⟨rfl,h0⟩:=hI;unfold q5j;dsimp only;with_reducible repeat' (first|apply dP|apply dX<;>intro _)
   . refine dZ (d85 _) ?_
     rintro⟨x,u⟩ -
     dsimp only;have:=j3c x1 p.toNat
     with_reducible repeat' (first|apply dP|apply dX<;>intro _)
     . trivial
     . exact⟨⟨rfl,by(try dsimp only);omega⟩,by(try dsimp only);omega⟩
   . trivial
theorem b4g(s:List UInt8)(hs:s.length<=1000000000000000):Df (j9z (s,())) (λ_=>True):=by
 unfold j9z x2m;dsimp only;refine dZ (P:=λ_=>True) ?_ (λz _=>dP trivial);unfold j9l z6m;dsimp only;exact dZ (g9y s true hs) (λz _=>dP trivial)
theorem d86(a:List UInt8):Df (C86 (a,())) (λ_=>True):=by
 unfold C86 F86;dsimp only;refine dZ (P:=λ_=>True) ?_ (λz _=>dP trivial);unfold C96 F96;dsimp only;exact dZ (g9w a [91]) (λz _=>dP trivial)
theorem d87(h:TK T A B)(s:List UInt8)(hs:s.length<=3000):Df (C87 (T,A,B,s,())) (λ_=>True):=by
 unfold C87 F87;dsimp only;obtain⟨y,e⟩:=d6i h s hs;exact dZ (P:=λ_=>True) ⟨y,e,trivial⟩ (λz _=>dP trivial)
theorem d44(h:TK T A B)(a b:List UInt8)(ha:a.length<=100000)(hb:b.length<=3000):Df (C44 (T,A,B,a,b,())) (λ_=>True):=by
 unfold C44 F44;dsimp only;refine dZ (d83 a (by omega)) ?_;rintro⟨x,y,u⟩ -
 dsimp only;with_reducible repeat' (first|apply dP|apply dX<;>intro _)
 . trivial
 . trivial
 . trivial
 . refine dZ (b4g a (by omega)) ?_
   rintro⟨x,u⟩ -
   dsimp only;with_reducible repeat' (first|apply dP|apply dX<;>intro _)
   . trivial
   . refine dZ (d86 b) ?_
     rintro⟨x,u⟩ -
     dsimp only;with_reducible repeat' (first|apply dP|apply dX<;>intro _)
     . rw[c11 b]
       simp only[Option.bind_some];with_reducible repeat' (first|apply dP|apply dX<;>intro _)
       . trivial
       . trivial
       . trivial
       . trivial
       . refine dO ?_;omega
     . exact dZ (d87 h b hb) (λz _=>dP trivial)
end
theorem z9i:∀(m:Nat) (s:List UInt8) (p:Nat) (l:List Tok),s.length<=m->yi s p = .inl l->szT l<=s.length/\l.length<=s.length
 | _,[],p,l,_,h=>by rw[z1u]at h;cases h;exact⟨le_refl _,le_refl _⟩
 | 0,c::r,p,l,hm,h=>by simp at hm
 | m+1,c::r,p,l,hm,h=>by
  obtain⟨k,t,u,l',h1,h2,rfl⟩:=q4o h;have hu:=q0b h1;have ht:=j3j h1;obtain⟨i1,i2⟩:=z9i m ((c::r).drop u) (p+u) l' (by simp at hm ⊢;omega) h2;simp only[length_drop,length_cons,szT]at i1 i2 ⊢;omega
theorem z9g(s:List UInt8):szT (q1o s).1<=s.length/\(q1o s).1.length<=s.length:=by
 have nil:szT ([]:List Tok)<=s.length/\([]:List Tok).length<=s.length:=⟨zero_le _,zero_le _⟩
 unfold q1o;split
 . exact nil
 . cases utf s with
   | some b=>exact nil
   | none =>
    cases h:yi s 0 with
    | inr e=>exact nil
    | inl l=>exact z9i _ s 0 l (le_refl _) h
theorem v7f:∀(m:Nat) (l:List Tok) (acc:List UInt8),l.length<=m->(dwn acc l).1.length<=acc.length+szT l+l.length
 | _,[],_,_=>by simp[dwn]
 | _,[_],_,_=>by simp only[dwn];omega
 | 0,_::_::_,_,h=>by simp at h
 | m+1,t::u::r,acc,h=>by
  have:=v7f m r (acc++([46]++u.2.1)) (by simp at h;omega);simp only[jf]at this;simp only[dwn,szT,length_cons];cases ((t.1==2&&t.2.1==[46])&&u.1==0)with
  | true=>simp only[cond_true];omega
  | false=>simp only[cond_false];omega
theorem v7b(l:List Tok):(dot l).1.length<=szT l+l.length:=by
 cases l with
 | nil=>exact le_refl _
 | cons t r =>
  have:=v7f r.length r t.2.1 (le_refl _);simp only[dot,szT,length_cons];cases (t.1==0)with
  | true=>simp only[cond_true];omega
  | false=>simp only[cond_false,length_nil];omega
theorem f3r(l:List Tok):(loc l).2.1.length<=szT l+l.length:=by
 cases l with
 | nil=>exact le_refl _
 | cons t r =>
  have:=v7b (t::r);simp only[loc,szT,length_cons]at this ⊢;cases (t.1==1)with
  | true=>simp only[cond_true];omega
  | false=>simpa only[cond_false]using this
theorem f1j(l:List Tok):(dom l).2.1.length<=szT l+l.length+2:=by
 cases l with
 | nil=>exact zero_le _
 | cons t r =>
  have:=v7b (t::r);simp only[dom,szT,length_cons]at this ⊢;by_cases h5:t.1=5
  . rw[ibT h5]
    simp only[cond_true,src,h5,jf];simp;omega
  . rw[ibF h5]
    simp only[cond_false];omega
theorem g4l(l:List Tok){r:List UInt8×List UInt8×Nat}(h:mt l=some r):1<=r.2.2/\r.1.length<=szT l+l.length/\r.2.1.length<=szT l+l.length+2:=by
 unfold mt at h;simp only at h;have b1:=f3r (l.drop (skn l));have b2:=xv (skn l) l;rw[length_drop]at b1;cases hl:(loc (l.drop (skn l))).1 with
 | false=>simp only[hl,Bool.not_false,cond_true]at h;cases h
 | true =>
  simp only[hl,Bool.not_true,cond_false]at h;generalize skn l+(loc (l.drop (skn l))).2.2=n2 at h;generalize n2+skn (l.drop n2)=n3 at h;cases hs:sgn [64] (l.drop n3)with
  | false=>simp only[hs,Bool.not_false,cond_true]at h;cases h
  | true =>
   simp only[hs,Bool.not_true,cond_false]at h;generalize hn5:n3+1+skn (l.drop (n3+1))=n5 at h;have b5:=f1j (l.drop n5);have b6:=xv n5 l;rw[length_drop]at b5;cases hd:(dom (l.drop n5)).1 with
   | false=>simp only[hd,Bool.not_false,cond_true]at h;cases h
   | true =>
    simp only[hd,Bool.not_true,cond_false]at h;cases h;simp only;omega
section
variable {l:List Tok}
end
section
variable {T:List R6} {A:List R4} {B:List R3}
end
def yc(b:UInt8):UInt8:=UInt8.ofNat (((C64 ((b.toNat:Int),())).getD (0,())).1.toNat)
theorem b5c:((List.range 256).all λn=>(C64 (((UInt8.ofNat n).toNat:Int),())).isSome)=true:=by kernel_rfl
theorem p64(b:UInt8):∃v:Int,C64 ((b.toNat:Int),())=some (v,())/\UInt8.ofNat v.toNat=yc b:=by
 have h:=all_eq_true.1 b5c b.toNat (by simp only[mem_range];exact b.toNat_lt)
 simp only[UInt8.ofNat_toNat]at h;obtain⟨⟨v,u⟩,hv⟩:=Option.isSome_iff_exists.1 h;exact⟨v,hv,by unfold yc;rw[hv];rfl⟩
theorem d0m:∀(r pre:List UInt8) (p n:Nat) (acc:List UInt8),pre.length=p->acc.length=p->r.length<n->p+r.length<=1000000 ->
 qc (z0b C64) n (pre++r,((p+r.length:Nat):Int),(p:Int),acc,())=some (acc++r.map yc,())
 | [],pre,p,n+1,acc,hp,ha,hn,hb=>by
  refine qe ?_;simp only[z0b,length_nil,add_zero];rw[decide_eq_false (by omega)];simp only[cond_false,List.map_nil,append_nil]
 | c::r,pre,p,n+1,acc,hp,ha,hn,hb=>by
  simp only[length_cons]at hn hb;obtain⟨v,hv,hl⟩:=p64 c;have hlen:(pre++c::r).length=p+r.length+1:=by simp[hp];omega
  rw[qm (v':=(pre++c::r,((p+(r.length+1):Nat):Int),((p+1:Nat):Int),acc++[yc c],())) ?_]
  . have ih:=d0m r (pre++[c]) (p+1) n (acc++[yc c]) (by simp[hp]) (by simp[ha]) (by omega) (by omega)
    rw[show p+(r.length+1)=p+1+r.length by omega,show pre++c::r=(pre++[c])++r by simp,ih];simp
  . simp only[z0b,length_cons]
    rw[decide_eq_true (by omega),decide_eq_true (by omega),decide_eq_true (by omega)];simp only[Bool.and_self,cond_true,toNat_natCast];rw[show (pre++c::r).getD p 0=c by subst hp;simp];simp only[hv,Option.bind_some,hl,wrN p (by omega)];rw[decide_eq_true (by simp only[length_cons,length_nil];omega)];rfl
theorem p25(l:List UInt8)(h:l.length<=1000000):C25 (l,())=some (l.map yc,()):=by
 have hl:j9x (l,(l.length:Int),0,[],())=some (l.map yc,()):=by
  have h:=d0m l [] 0 qz [] rfl rfl (by unfold qz;omega) (by omega);rw[zero_add]at h;exact h
 have h63:C63 (l,())=some (l.map yc,()):=by
  show F63 C64 j9x _=_;simp only[F63,hl,Option.bind_some]
 show F25 C63 _=_;simp only[F25,h63,Option.bind_some];rw[decide_eq_true (by omega)];rfl
section
variable {T:List R6} {A:List R4} {B:List R3}
end
theorem d6u(s:List UInt8):Df (q1d (s,[46],())) (λy => -1<=y.1/\y.1<s.length):=by
 unfold q1d x7p;dsimp only;refine dZ (P:=λy => -1<=y.1/\y.1<s.length) ?_ λ_ h=>dP h;unfold j6i y5t;dsimp only;have e0:((([46]:List UInt8).length:Int)==0)=false:=rfl;rw[e0];simp only[cond_false];refine dZ (v6m s _ λh => ?_) λ_ h=>dP h;have:=eq_of_beq h;rw[<-this];decide
theorem d6t(s:List UInt8):Df (q9r (s,[46],())) (λy=>0<=y.1/\y.1<=s.length):=by
 refine⟨((Lib.countByte s 46:Nat),()),rfl,Int.natCast_nonneg _,?_⟩;have:Lib.countByte s 46<=s.length:=List.count_le_length;dsimp only;omega
theorem g9z(L n:Nat)(hn:1<=n)(hL:L<=1000000000000)(hnL:n<=1000000000000)(s:List UInt8)(hs:s.length<=L)(rows:List (List UInt8))(hr:rows.length=n)(ha:∀r∈rows,r.length<=L) :
 Df (q5a (s,[46],0,(n:Int)-1,0,rows,())) (λy=>y.1.length<=L/\0<=y.2.1/\y.2.1<n/\y.2.2.1.length=n/\∀r∈y.2.2.1,r.length<=L):=by
 refine dL ?I ?m ?h _ ?hv ?hn
 case I=>exact(λv=>(v.2.1,v.2.2.1,v.2.2.2.1)=([46],0,(n:Int)-1)/\v.1.length<=L/\0<=v.2.2.2.2.1/\v.2.2.2.2.1<n/\v.2.2.2.2.2.1.length=n/\∀r∈v.2.2.2.2.2.1,r.length<=L)
 case m=>exact(λv=>(n-v.2.2.2.2.1).toNat)
 case hv=>exact⟨rfl,hs,Int.le_refl _,by(try dsimp only);omega,hr,ha⟩
 case hn=>exact(by(try dsimp only);omega)
 rintro⟨s',x1,x2,x3,i,rows,u⟩ ⟨e,i1,i2,i3,i4,i5⟩;dsimp only at e i1 i2 i3 i4 i5;cases e;unfold q2i;dsimp only;with_reducible repeat' (first|apply dP|apply dX<;>intro _)
 . refine dZ (d6u s') ?_
   rintro⟨m,u⟩ ⟨h1,h2⟩;dsimp only at h1 h2 ⊢;rw[qg (n:=m+0) (by omega),qg (n:=m+(([46]:List UInt8).length:Int)) (by simp only[length_cons,length_nil];omega)];with_reducible repeat' (first|apply dP|apply dX<;>intro _)
   . exact⟨i1,i2,i3,i4,i5⟩
   . rw[qg (by omega)]
     refine⟨⟨rfl,by simp only[length_drop];omega,by(try dsimp only);omega,by(try dsimp only);omega,by simp only[length_set];omega,λr hr => ?_⟩,by(try dsimp only);omega⟩;dsimp only at hr;rcases List.mem_or_eq_of_mem_set hr with h|h
     . exact i5 r h
     . subst h;simp only[length_take];omega
   . refine dO ?_;rename_i hc;simp only[length_cons,length_nil]at hc;omega
   . refine dO ?_;omega
   . refine dO ?_;omega
 . exact⟨i1,i2,i3,i4,i5⟩
theorem b3i(s:List UInt8)(hs:s.length<=1000000000):Df (z5o (s,[46],0,-1,())) (λy=>y.1.length<=s.length+1/\∀p∈y.1,p.length<=s.length):=by
 unfold z5o x7j;dsimp only;rw[show ((-1:Int)==0)=false from rfl,show (([46]:List UInt8)==[])=false from rfl,show decide ((-1:Int)<0)=true from rfl];simp only[cond_false,cond_true];refine dZ (d6t s) ?_;rintro⟨c,u⟩ ⟨h1,h2⟩;dsimp only at h1 h2 ⊢;rw[qg (n:=c+1) (by omega)];refine dZ (P:=λy=>y.1.length<=s.length+1/\∀p∈y.1,p.length<=s.length) ?_ λ_ h=>dP h;unfold q2b q5k;dsimp only;rw[qg (n:=(s.length:Int)+1) (by omega)];obtain⟨n,rfl⟩:∃n:Nat,c=(n:Int):=⟨c.toNat,by omega⟩
 have hif:(if(s.length:Int)+1<(n:Int)+1 then(s.length:Int)+1 else(n:Int)+1)=((n+1:Nat):Int):=by rw[if_neg (by omega)];omega
 simp only[hif];have hc:(decide (0<=((n+1:Nat):Int))&&(decide True&&(decide ((16:Int)*((n+1:Nat):Int)<=281474976710656)&&decide (((n+1:Nat):Int)<=140737488355328))))=true:=by
  simp only[and_eq_true,decide_eq_true_eq];exact⟨by omega,trivial,by omega,by omega⟩
 have hc':(decide (0<=((n+1:Nat):Int))&&(decide True&&(decide (((16:Nat):Int)*((n+1:Nat):Int)<=281474976710656)&&decide (((n+1:Nat):Int)<=140737488355328))))=true:=hc;first|rw[hc]|rw[hc']
 simp only[cond_true,toNat_natCast];rw[qg (n:=((n+1:Nat):Int)-1) (by omega)];refine dZ (g9z s.length (n+1) (by omega) (by omega) (by omega) s (le_refl _) (List.replicate (n+1) []) (by simp) (λr hr=>by rw[(List.mem_replicate.1 hr).2];exact zero_le _)) ?_;rintro⟨s',i,rows,u⟩ ⟨j1,j2,j3,j4,j5⟩;dsimp only at j1 j2 j3 j4 j5 ⊢;rw[qg (n:=i+1) (by omega)];with_reducible repeat' (first|apply dP|apply dX<;>intro _)
 . refine⟨?_,λp hp => ?_⟩
   . simp only[length_take,length_set];omega
   . rcases List.mem_or_eq_of_mem_set (List.mem_of_mem_take hp)with h|h
     . exact j5 p h
     . subst h;exact j1
 . refine dO ?_;rename_i hc;simp only[length_set]at hc;omega
 . refine dO ?_;omega
theorem d47(s:List UInt8)(hs:s.length<=1000000000):Df (C47 (s,())) (λ_=>True):=by
 unfold C47 F47;dsimp only;refine dZ (P:=λ_=>True) ?_ (λz _=>by cases z<;>exact dP trivial);refine dL ?I ?m ?h _ ?hv ?hn
 case I=>exact(λv=>v.1=s/\v.2.1=s.length/\0<=v.2.2.1)
 case m=>exact(λv=>(s.length-v.2.2.1).toNat)
 case hv=>exact⟨rfl,rfl,Int.le_refl _⟩
 case hn=>exact(by(try dsimp only);omega)
 rintro⟨s',n,k,u⟩ ⟨h1,h2,h3⟩;dsimp only at h1 h2 h3;subst h1;subst h2;unfold z7s;dsimp only;with_reducible repeat' (first|apply dP|apply dX<;>intro _)
 . rw[c17]
   simp only[Option.bind_some];with_reducible repeat' (first|apply dP|apply dX<;>intro _)
   . trivial
   . rw[qg (by omega)]
     exact⟨⟨rfl,rfl,by(try dsimp only);omega⟩,by(try dsimp only);omega⟩
 . refine dO ?_;omega
 . trivial
theorem d88(s:List UInt8)(hs:s.length<=1000000000):Df (C88 (s,())) (λ_=>True):=by
 unfold C88 F88;dsimp only;refine dZ (P:=λy=>y.1.length<=s.length+1/\∀p∈y.1,p.length<=s.length) ?_ ?_
 . unfold q7i x7e
   dsimp only;exact dZ (b3i s hs) λ_ h=>dP h
 rintro⟨ps,u⟩ ⟨g1,g2⟩;dsimp only at g1 g2 ⊢;refine dZ (P:=λ_=>True) ?_ (λz _=>by cases z<;>exact dP trivial);refine dL ?I ?m ?h _ ?hv ?hn
 case I=>exact(λv=>v.1=ps/\v.2.1=ps.length/\0<=v.2.2.1)
 case m=>exact(λv=>(ps.length-v.2.2.1).toNat)
 case hv=>exact⟨rfl,rfl,Int.le_refl _⟩
 case hn=>exact(by(try dsimp only);omega)
 rintro⟨s',n,k,u⟩ ⟨h1,h2,h3⟩;dsimp only at h1 h2 h3;subst h1;subst h2;unfold z7t;dsimp only;with_reducible repeat' (first|apply dP|apply dX<;>intro _)
 . have hg:(s'.getD k.toNat [])∈s':=by rw[getD_lt (by omega)];exact getElem_mem _
   have:=g2 _ hg;refine dZ (d47 _ (by omega)) ?_;rintro⟨b,u⟩ -
   dsimp only;with_reducible repeat' (first|apply dP|apply dX<;>intro _)
   . trivial
   . rw[qg (by omega)]
     exact⟨⟨rfl,rfl,by(try dsimp only);omega⟩,by(try dsimp only);omega⟩
 . refine dO ?_;omega
 . trivial
theorem d45(a b:List UInt8)(ha:a.length<=1100)(hb:b.length<=1100):Df (C45 (a,b,())) (λy=>y.1≠[]/\y.1.length<=2*a.length+b.length+3):=by
 unfold C45 F45;dsimp only;refine dZ (d88 a (by omega)) ?_;rintro⟨w,u⟩ -
 dsimp only;have he:=q7b a;have hq:(src 1 a).length=(vv a).length+2:=by simp[src]
 with_reducible repeat' (first|apply dP|apply dX<;>intro _)
 . rw[c9 1 a 0 (by omega)]
   simp only[Option.bind_some];with_reducible repeat' (first|apply dP|apply dX<;>intro _)
   . exact⟨by simp,by simp only[jf];omega⟩
   all_goals (refine dO ?_;rename_i hc;simp only[jf]at hc;omega)
 . exact⟨by simp,by simp only[jf];omega⟩
 all_goals (refine dO ?_;rename_i hc;simp only[jf]at hc;omega)
theorem d59(n:Bool)(a b:List UInt8)(ha:a.length<=1100):Df (wm (n,a,b,())) (λy=>y.1=true->n=false/\a≠[]):=by
 unfold wm F59;dsimp only;with_reducible repeat' (first|apply dP|apply dX<;>intro _)
 . rename_i hn _
   rw[p25 a (by omega)];refine dP λh=>⟨hn,?_⟩
   rintro rfl;cases h
 . intro h;cases h
 . intro h;cases h
theorem d22(n:Bool)(a b:List UInt8)(ha:a.length<=1100)(hb:b.length<=1100):Df (C22 (n,a,b,())) (λy=>(n=true->y.1=[60,62])/\(n=false->∃x,x≠[]/\y.1=[60]++x++[62])/\y.1.length<=2*a.length+b.length+5):=by
 unfold C22 F22;dsimp only;with_reducible repeat' (first|apply dP|apply dX<;>intro _)
 . rename_i hn
   exact⟨λ_=>rfl,λh=>(by rw[hn]at h;cases h),by simp only[length_cons,length_nil];omega⟩
 . rename_i hn
   refine dZ (d59 n a b ha) ?_;rintro⟨m,u⟩ hm;dsimp only at hm ⊢;with_reducible repeat' (first|apply dP|apply dX<;>intro _)
   . rename_i h1 _ _
     exact⟨λh=>(by rw[hn]at h;cases h),λ_=>⟨a,(hm h1).2,rfl⟩,by simp only[jf];omega⟩
   . refine dO ?_;rename_i hc;simp only[jf]at hc;omega
   . refine dO ?_;rename_i hc;simp only[jf]at hc;omega
   . refine dZ (d45 a b ha hb) ?_
     rintro⟨x,u⟩ ⟨k1,k2⟩;dsimp only at k1 k2 ⊢;with_reducible repeat' (first|apply dP|apply dX<;>intro _)
     . exact⟨λh=>(by rw[hn]at h;cases h),λ_=>⟨x,k1,rfl⟩,by simp only[jf];omega⟩
     all_goals (refine dO ?_;rename_i hc;simp only[jf]at hc;omega)
section
variable {T:List R6} {A:List R4} {B:List R3}
theorem d20(h:TK T A B)(a b:List UInt8)(ha:a.length<=1100)(hb:b.length<=1100):Df (C20 (T,A,B,false,a,b,())) (λ_=>True):=by
 unfold C20 F20;dsimp only;refine dZ (P:=λy=>∀z,y = .inr z->z=(T,A,B,false,a,b,())) ?_ ?_
 . unfold wu q3w
   dsimp only;refine dZ (d59 false a b ha) ?_;rintro⟨m,u⟩ -
   dsimp only;with_reducible repeat' (first|apply dP|apply dX<;>intro _)
   . intro z hz;cases hz
   . intro z hz;cases hz;rfl
 intro z hz;cases z with
 | inl z=>exact dP trivial
 | inr z =>
  have e:=hz _ rfl;subst e;exact dZ (d44 h a b (by omega) (by omega)) λ_ _=>dP trivial
end
theorem d79(k:Int)(s:List UInt8)(p:Int)(t:List UInt8):Df (C79 (k,s,p,t,())) (λy=>y.1=true->k=2/\s=t):=by
 unfold C79 F79;dsimp only;with_reducible repeat' (first|apply dP|apply dX<;>intro _)
 . rename_i hk;exact λh=>⟨hk,eq_of_beq h⟩
 . intro h;cases h
theorem d80(l:List Tok)(hl:l.length<=1000000):Df (C80 (l,())) (λ_=>True):=by
 unfold C80 F80;dsimp only;refine dZ (P:=λ_=>True) ?_ (λz _=>dP trivial);unfold v1o k2v;dsimp only;refine dZ (P:=λ_=>True) ?_ (λz _=>by cases z<;>exact dP trivial);refine dL ?I ?m ?h _ ?hv ?hn
 case I=>exact(λv=>v.1=l/\v.2.1=l.length/\0<=v.2.2.1)
 case m=>exact(λv=>(l.length-v.2.2.1).toNat)
 case hv=>exact⟨rfl,rfl,Int.le_refl _⟩
 case hn=>exact(by(try dsimp only);omega)
 rintro⟨s',n,k,u⟩ ⟨h1,h2,h3⟩;dsimp only at h1 h2 h3;subst h1;subst h2;unfold j7l;dsimp only;with_reducible repeat' (first|apply dP|apply dX<;>intro _)
 . refine dZ (P:=λ_=>True) ?_ ?_
   . unfold C81 F81
     dsimp only;with_reducible repeat' (first|apply dP|apply dX<;>intro _)
     all_goals trivial
   rintro⟨b,u⟩ -
   dsimp only;with_reducible repeat' (first|apply dP|apply dX<;>intro _)
   . trivial
   . rw[qg (by omega)]
     exact⟨⟨rfl,rfl,by(try dsimp only);omega⟩,by(try dsimp only);omega⟩
 . refine dO ?_;omega
 . trivial
theorem q4u:∀(k:Nat) (l:List Tok),szT (l.take k)<=szT l
 | 0,l=>by simp[szT]
 | k+1,[]=>by simp
 | k+1,t::r=>by have:=q4u k r;simp only[take_succ_cons,szT];omega
section
variable {T:List R6} {A:List R4} {B:List R3}
theorem g3v(h:TK T A B)(l:List Tok)(hz:szT l+l.length<=2900)(k:Int)(hk:1<=k/\k<=l.length)(a b:List UInt8) :
 Df (xm (k,l,4,T,A,B,false,[],[],false,a,b,())) (λy=>Sum.elim (λz=>z.2.1=false) (λz=>z.2.1=false) y):=by
 unfold xm q8h;dsimp only;have z1:=q4u k.toNat l;have z2:=xv 1 (l.take k.toNat);with_reducible repeat' (first|apply dP|apply dX<;>intro _)
 . rw[c71 (List.drop 1 (List.take k.toNat l)) (by simp only[length_drop,length_take];omega)]
   simp only[Option.bind_some];cases hm:mt (List.drop 1 (List.take k.toNat l))with
   | none=>exact dP rfl
   | some r =>
    have m:=g4l _ hm;simp only[length_drop,length_take]at m;dsimp only;with_reducible repeat' (first|apply dP|apply dX<;>intro _)
    . rename_i hc;cases hc
    . rfl
    . refine dZ (P:=λy=>y.2.1=false) ?_ λ_ h=>dP h
      unfold q3t q8g;dsimp only;refine dZ (d44 h r.1 r.2.1 (by omega) (by omega)) ?_;rintro⟨e,u⟩ -
      dsimp only;with_reducible repeat' (first|apply dP|apply dX<;>intro _)
      . rfl
      . rfl
 all_goals (refine dO ?_;omega)
theorem b4e(h:TK T A B)(l:List Tok)(hz:szT l+l.length<=2900)(k:Int)(hk:1<=k/\k<=l.length)(hl:2<=l.length) :
 Df (xn (k,l,4,T,A,B,false,[],[],false,[],[],())) (λy=>Sum.elim (λz=>z.2.1=true->k=1) (λz=>True) y):=by
 unfold xn q2k;dsimp only;with_reducible repeat' (first|apply dP|apply dX<;>intro _)
 . rename_i hk1;exact λ_=>hk1
 . have hx:(l.getD 1 ((0,([],0)):Tok)).2.1.length<=3000:=by
    rw[getD_lt (by omega)];have:∀(l:List Tok) (x:Tok),x∈l->x.2.1.length<=szT l:=λl=>by
     induction l with
     | nil=>intro x hx;cases hx
     | cons t r ih =>
      intro x hx;simp only[szT];rcases mem_cons.1 hx with rfl|hx
      . omega
      . have:=ih x hx;omega
    have:=this l _ (getElem_mem (show 1<l.length by omega));omega
   refine dZ (P:=λy=>y.1=true->True) ?_ ?_
   . unfold wm F59
     dsimp only;with_reducible repeat' (first|apply dP|apply dX<;>intro _)
     . rw[p25 _ (by omega)];exact dP λ_=>trivial
     all_goals (intro _;trivial)
   rintro⟨m,u⟩ -
   dsimp only;with_reducible repeat' (first|apply dP|apply dX<;>intro _)
   . intro h;cases h
   . refine dZ (g3v h l hz k hk _ []) ?_
     intro z hz';cases z with
     | inl z=>exact dP trivial
     | inr z=>exact dP λh=>by rw[show z.2.1=false from hz']at h;cases h
 all_goals first
  | (refine dO ?_;omega)
  | (refine dZ (g3v h l hz k hk _ []) ?_
     intro z hz';cases z with
     | inl z=>exact dP trivial
     | inr z=>exact dP λh=>by rw[show z.2.1=false from hz']at h;cases h)
theorem w5w(s:List UInt8)(l:List Tok)(o:Int)(hR:q1o s=(l,o,0))(hl:l.length=2)(h0:(l.getD 0 ((0,([],0)):Tok)).1=2/\(l.getD 0 ((0,([],0)):Tok)).2.1=[60])(h1:(l.getD 1 ((0,([],0)):Tok)).1=2/\(l.getD 1 ((0,([],0)):Tok)).2.1=[62]):s=[60,62]:=by
 have hx:yi s 0 = .inl l:=by
  unfold q1o at hR;have no:l≠[]:=λh=>by subst h;cases hl
  split at hR
  . exact absurd (congrArg Prod.fst hR).symm no
  . cases hu:utf s with
    | some b=>rw[hu]at hR;exact absurd (congrArg Prod.fst hR).symm no
    | none =>
     rw[hu]at hR;cases hx:yi s 0 with
     | inr e=>rw[hx]at hR;exact absurd (congrArg Prod.fst hR).symm no
     | inl l'=>rw[hx]at hR;cases hR;rfl
 match l,hl with
 | [t,u],_ =>
  obtain⟨a1,a2⟩:=h0;obtain⟨b1,b2⟩:=h1;have a1:t.1=2:=a1;have a2:t.2.1=[60]:=a2;have b1:u.1=2:=b1;have b2:u.2.1=[62]:=b2;have hs:=(z2k s.length s 0 [t,u] (le_refl _) hx).2.2 (λx hx=>by
   rcases mem_cons.1 hx with rfl|hx
   . rw[a1];decide
   . rw[mem_singleton]at hx;subst hx;rw[b1];decide)
  rw[<-hs];simp only[y8m,List.flatMap_cons,List.flatMap_nil,a1,a2,b1,b2];rfl
theorem g40(e:Int)(n:Bool)(a b:List UInt8):q2g (e,n,a,b,())=some (e,false,[],[],()):=by
 obtain⟨k,hk⟩:∃k,qz=k+1:=⟨qz-1,by unfold qz;omega⟩
 show qc (j4p C44 wm C67 C71 C79 C80) qz _=_;rw[hk];exact qe rfl
theorem d40(h:TK T A B)(s:List UInt8)(hs:s.length<=1400):Df (C40 (T,A,B,s,())) (λy=>y.1=true->s=[60,62]):=by
 unfold C40 F40;dsimp only;rw[c11 s];have hz:=z9g s;simp only[Option.bind_some];generalize hR:q1o s=R at hz ⊢;obtain⟨l,o,e⟩:=R;dsimp only at hz ⊢;simp only[g40,Option.bind_some];rw[qg (n:=(l.length:Int)-1) (by omega)];with_reducible repeat' (first|apply dP|apply dX<;>intro _)
 . intro h;cases h
 . intro h;cases h
 . rename_i he _ _
   refine dZ (d79 _ _ _ _) ?_;rintro⟨q1,u⟩ hq1;dsimp only at hq1 ⊢;with_reducible repeat' (first|apply dP|apply dX<;>intro _)
   . intro h;cases h
   . rename_i ht1 _
     refine dZ (d79 _ _ _ _) ?_;rintro⟨q2,u⟩ hq2;dsimp only at hq2 ⊢;with_reducible repeat' (first|apply dP|apply dX<;>intro _)
     . intro h;cases h
     . rename_i ht2 _ _
       refine dZ (d80 _ (by simp only[length_drop,length_take];omega)) ?_;rintro⟨q3,u⟩ -
       dsimp only;with_reducible repeat' (first|apply dP|apply dX<;>intro _)
       . intro h;cases h
       . refine dZ (b4e h l (by omega) ((l.length:Int)-1) (by omega) (by omega)) ?_
         intro z hz';cases z with
         | inl z =>
          refine dP λhn => ?_;have hk:(l.length:Int)-1=1:=hz' hn;have h2:=hq2 ht2;rw[hk]at h2;exact w5w s l o (by rw[hR,he]) (by omega) (hq1 ht1) h2
         | inr z=>exact dP λh=>by cases h
     all_goals (refine dO ?_;omega)
   all_goals (refine dO ?_;omega)
 all_goals (refine dO ?_;omega)
end
def jn(q:List (List UInt8))(r:List UInt8):List UInt8:=q.flatMap (λp=>p++[46])++r
def Atm(p:List UInt8):Prop:=p≠[]/\p.all jk=true
def Wd(w:List UInt8):Prop:=∃q r,w=jn q r/\(∀p∈q,Atm p)/\Atm r
theorem q0x(x:List UInt8)(q r):jn (x::q) r=x++46::jn q r:=by simp[jn]
theorem v0x:((List.range 256).all λn=>(λc:UInt8=>kk (c.toNat:Int)||jk c) (UInt8.ofNat n))=true:=by kernel_rfl
theorem w4g{c:UInt8}(h:kk (c.toNat:Int)=false):jk c=true:=by
 have:=xp (λc:UInt8=>kk (c.toNat:Int)||jk c) v0x c;simp only[h,Bool.false_or]at this;exact this
theorem y8s:∀(w cur:List UInt8),cur.all jk=true->run true (if cur=[]then 1 else 0) (bi w)=0->Wd (cur++w)
 | [],cur,hc,h=>by
  have hne:cur≠[]:=λe=>by rw[if_pos e]at h;cases h
  exact⟨[],cur,by simp[jn],λp hp=>(by cases hp),hne,hc⟩
 | c::w,cur,hc,h=>by
  have hb:bi (c::w)=(c.toNat:Int)::bi w:=rfl;rw[hb,q4s]at h;cases hk:kk (c.toNat:Int)with
  | false =>
   rw[q2z true hk,if_neg (by split<;>omega)]at h;have:=y8s w (cur++[c]) (by rw[List.all_append,hc];simp[w4g hk]) (by rw[if_neg (by simp)];exact h);simpa using this
  | true =>
   by_cases h46:(c.toNat:Int)=46
   . have hc46:c=46:=UInt8.toNat_inj.1 (by show c.toNat=46;omega)
     by_cases hcur:cur=[]
     . exfalso
       rw[if_pos hcur]at h;have h2:2<=stp true 1 (c.toNat:Int):=by
        unfold stp;rw[if_neg (by omega),if_pos hk,if_pos ⟨h46,rfl⟩];exact le_refl _
       have:=q7g true (bi w) h2;omega
     . rw[if_neg hcur]at h
       have e:stp true 0 (c.toNat:Int)=1:=by
        unfold stp;rw[if_neg (by omega),if_pos hk,if_pos ⟨h46,rfl⟩]
       rw[e]at h;obtain⟨q,r,e2,h1,h2⟩:=y8s w [] rfl (by rw[if_pos rfl];exact h);refine⟨cur::q,r,?_,?_,h2⟩
       . rw[nil_append]at e2
         rw[q0x,<-e2,hc46]
       . intro p hp
         rcases mem_cons.1 hp with rfl|hp
         . exact⟨hcur,hc⟩
         . exact h1 p hp
   . exfalso
     have h2:∀s,2<=stp true s (c.toNat:Int):=by
      intro s;unfold stp;by_cases h2:2<=s
      . rw[if_pos h2];exact le_refl _
      . rw[if_neg h2,if_pos hk,if_neg (λh=>h46 h.1)]
        exact le_refl _
     have:=q7g true (bi w) (h2 (if cur=[]then 1 else 0));omega
theorem d0s{w:List UInt8}(h:run true 1 (bi w)=0):Wd w:=by
 have:=y8s w [] rfl (by rw[if_pos rfl];exact h);simpa using this
theorem k1n:(!jk 46&&q3j 46&&(!jk 64&&q3j 64)&&(!jk 91 && !q3j 91))=true:=by kernel_rfl
theorem w5e(X:List UInt8):one 46 X=(2,.ok [46] 1):=by
 have h:=k1n;simp only[and_eq_true,not_eq_true']at h;unfold one;rw[if_neg (by rw[h.1.1.1];decide),if_pos h.1.1.2]
theorem f4f(X:List UInt8):one 64 X=(2,.ok [64] 1):=by
 have h:=k1n;simp only[and_eq_true,not_eq_true']at h;unfold one;rw[if_neg (by rw[h.1.2.1];decide),if_pos h.1.2.2]
theorem v1k(X:List UInt8):stops jk (46::X):=by
 have h:=k1n;simp only[and_eq_true,not_eq_true']at h;exact h.1.1.1
theorem k1t(X:List UInt8):stops jk (64::X):=by
 have h:=k1n;simp only[and_eq_true,not_eq_true']at h;exact h.1.2.1
theorem f3m{X:List UInt8}{l:List Tok}{p:Nat}(h:yi X (p+1) = .inl l):yi (64::X) p = .inl ((2,[64],(p:Int))::l):=by
 rw[wg (f4f X),show (64::X).drop 1=X from rfl,h];rfl
theorem z9h{x X:List UInt8}(hx:Atm x)(hX:stops jk X)(p:Nat):yi (x++X) p=y2o (0,x,(p:Int)) (yi X (p+x.length)):=by
 obtain⟨hne,ha⟩:=hx;cases x with
 | nil=>exact(hne rfl).elim
 | cons c y =>
  have hal:=v5k hX (c::y) ha;have hc:jk c=true:=by
   simp only[all_cons,and_eq_true]at ha;exact ha.1
  have ho:one c (y++X)=(0,.ok (c::y) (y.length+1)):=by
   unfold one;rw[if_pos hc];rw[cons_append]at hal;rw[hal,length_cons,<-cons_append];rw[show y.length+1=(c::y).length from rfl,take_left]
  rw[cons_append,wg ho,<-cons_append,show y.length+1=(c::y).length from rfl,drop_left]
def wt:List (List UInt8)->List UInt8->Nat->List Tok
 | [],r,p=>[(0,r,(p:Int))]
 | x::q,r,p=>(0,x,(p:Int))::(2,[46],((p+x.length:Nat):Int))::wt q r (p+x.length+1)
theorem y7r(X:List UInt8)(l:List Tok)(hX:stops jk X):∀(q:List (List UInt8)) (r:List UInt8) (p:Nat),(∀p∈q,Atm p)->Atm r->yi X (p+(jn q r).length) = .inl l->yi (jn q r++X) p = .inl (wt q r p++l)
 | [],r,p,hq,hr,h=>by
  have e:jn [] r=r:=rfl;rw[e]at h ⊢;rw[z9h hr hX,h];rfl
 | x::q,r,p,hq,hr,h=>by
  rw[q0x,length_append,length_cons]at h;rw[q0x,append_assoc,cons_append,z9h (hq x mem_cons_self) (v1k _),wg (w5e _)];rw[show (46::(jn q r++X)).drop 1=jn q r++X from rfl,y7r X l hX q r _ (λy hy=>hq y (mem_cons_of_mem _ hy)) hr (by rw[<-h];congr 1;omega)];rfl
theorem x6h(q:List (List UInt8))(r:List UInt8)(p:Nat):∃x a t,wt q r p=(0,x,a)::t:=by
 cases q with
 | nil=>exact⟨_,_,_,rfl⟩
 | cons y q=>exact⟨_,_,_,rfl⟩
theorem v7e(acc x:List UInt8)(a a':Int)(l:List Tok):dwn acc ((2,[46],a)::(0,x,a')::l)=((dwn (acc++([46]++x)) l).1,(dwn (acc++([46]++x)) l).2+2):=by
 conv=>lhs;unfold dwn
 rfl
theorem v7g(l:List Tok)(hl:∀acc,dwn acc l=(acc,0)):∀(q:List (List UInt8)) (r:List UInt8) (p:Nat) (acc:List UInt8) (a:Int),dwn acc ((2,[46],a)::(wt q r p++l))=(acc++([46]++jn q r),(wt q r p).length+1)
 | [],r,p,acc,a=>by
  show dwn acc ((2,[46],a)::(0,r,(p:Int))::l)=_;simp only[dwn,beq_self_eq_true,Bool.and_self,cond_true,hl];rfl
 | x::q,r,p,acc,a=>by
  show dwn acc ((2,[46],a)::(0,x,(p:Int))::((2,[46],((p+x.length:Nat):Int))::(wt q r (p+x.length+1)++l)))=_;have ih:=v7g l hl q r (p+x.length+1) (acc++([46]++x)) ((p+x.length:Nat):Int);rw[v7e];rw[ih,q0x];simp[wt]
theorem v7c(l:List Tok)(hl:∀acc,dwn acc l=(acc,0))(q:List (List UInt8))(r:List UInt8)(p:Nat):dot (wt q r p++l)=(jn q r,true,(wt q r p).length):=by
 cases q with
 | nil =>
  show dot ((0,r,(p:Int))::l)=_;simp only[dot,beq_self_eq_true,cond_true,hl];rfl
 | cons x q =>
  show dot ((0,x,(p:Int))::((2,[46],((p+x.length:Nat):Int))::(wt q r (p+x.length+1)++l)))=_;simp only[dot,beq_self_eq_true,cond_true,v7g l hl,q0x];simp[wt]
def Dn(l:List Tok):Prop:=∀acc,dwn acc l=(acc,0)
def Nw(l:List Tok):Prop:=l≠[]/\∀x∈l,(x.1==4||x.1==3)=false
theorem k2g:∀(q:List (List UInt8)) (r:List UInt8) (p:Nat),Nw (wt q r p)
 | [],r,p=>⟨by simp[wt],λx hx=>by simp only[wt,mem_singleton]at hx;subst hx;rfl⟩
 | y::q,r,p=>⟨by simp[wt],λx hx=>by
  simp only[wt,mem_cons]at hx;rcases hx with rfl|rfl|hx
  . rfl
  . rfl
  . exact(k2g q r _).2 x hx⟩
def z0e(w:List UInt8)(f:List Tok->Bool×List UInt8×Nat)(v:List UInt8):Prop :=
 ∀p:Nat,∃ts,Nw ts/\(∀(X:List UInt8) (l:List Tok),stops jk X->yi X (p+w.length) = .inl l->yi (w++X) p = .inl (ts++l))/\∀l,Dn l->f (ts++l)=(true,v,ts.length)/\skn (ts++l)=0
theorem v9h(x:List UInt8)(a:Int)(l:List Tok):loc ((0,x,a)::l)=((dot ((0,x,a)::l)).2.1,(dot ((0,x,a)::l)).1,(dot ((0,x,a)::l)).2.2):=rfl
theorem v6z(x:List UInt8)(a:Int)(l:List Tok):dom ((0,x,a)::l)=((dot ((0,x,a)::l)).2.1,(dot ((0,x,a)::l)).1,(dot ((0,x,a)::l)).2.2):=rfl
theorem w4i{w:List UInt8}(h:Wd w):z0e w loc w:=by
 obtain⟨q,r,rfl,hq,hr⟩:=h;intro p;refine⟨wt q r p,k2g q r p,λX l hX hl=>y7r X l hX q r p hq hr hl,λl hl => ?_⟩;have hd:=v7c l hl q r p;obtain⟨x,a,t,ht⟩:=x6h q r p;rw[ht]at hd ⊢;refine⟨?_,rfl⟩;rw[cons_append]at hd ⊢;rw[v9h,hd]
theorem k8t{w:List UInt8}(h:Wd w):z0e w dom w:=by
 obtain⟨q,r,rfl,hq,hr⟩:=h;intro p;refine⟨wt q r p,k2g q r p,λX l hX hl=>y7r X l hX q r p hq hr hl,λl hl => ?_⟩;have hd:=v7c l hl q r p;obtain⟨x,a,t,ht⟩:=x6h q r p;rw[ht]at hd ⊢;refine⟨?_,rfl⟩;rw[cons_append]at hd ⊢;rw[v6z,hd]
theorem f5q(a:List UInt8):src 1 a=34::(vv a++[34]):=by simp[src]
theorem f3p{a:List UInt8}(h:a.all jz=true):z0e (src 1 a) loc a:=by
 intro p;refine⟨[(1,a,(p:Int))],⟨by simp,λx hx=>by rw[mem_singleton]at hx;subst hx;rfl⟩,λX l hX hl => ?_,λl hl=>⟨rfl,rfl⟩⟩;rw[f5q]at hl ⊢;have e:(34::(vv a++[34]))++X=34::(vv a++34::X):=by simp
 have ho:one 34 (vv a++34::X)=(1,.ok a ((34::(vv a++[34])).length)):=by
  rw[g5n,(k1f a X).1 h];show (1,Tk.ok a (1+((vv a).length+1)))=_;rw[length_cons,length_append,length_singleton,add_comm 1]
 rw[e,wg ho,<-e,drop_left,hl];rfl
theorem g5m(r:List UInt8):one 91 r=(5,(ltk r).up):=by
 have h:=k1n;simp only[and_eq_true,not_eq_true']at h;unfold one;rw[if_neg (by rw[h.2.1];decide),if_neg (by rw[h.2.2];decide),if_neg (by decide),if_pos (show UInt8.toNat 91=91 from rfl)]
theorem z9j{b t:List UInt8}{n:Int}(h:yi b 0 = .inl [(5,t,n)]):src 5 t=b:=by
 have:=(z2k b.length b 0 _ (le_refl _) h).2.2 (by intro x hx;rw[mem_singleton]at hx;subst hx;show (5:Int)≠1;decide);simpa[y8m]using this
theorem w5s(t:List UInt8):src 5 t=91::(t++[93]):=by simp[src]
theorem v6y{b t:List UInt8}{n:Int}(h:yi b 0 = .inl [(5,t,n)]):z0e b dom b:=by
 have hb:=z9j h;have hu:∃u,ltk (t++93::[]) = .ok t u:=by
  rw[<-hb,w5s]at h;obtain⟨k,t',u,l',h1,h2,h3⟩:=q4o h;rw[g5m]at h1;simp only[List.cons.injEq,Prod.mk.injEq]at h3 h1;obtain⟨u',h4,-⟩:=j3x h1.2;rw[<-h3.1.2.1]at h4;exact⟨u',h4⟩
 obtain⟨u,hu⟩:=hu;intro p;refine⟨[(5,t,(p:Int))],⟨by simp,λx hx=>by rw[mem_singleton]at hx;subst hx;rfl⟩,λX l hX hl => ?_,λl hl=>⟨?_,rfl⟩⟩
 . rw[<-hb,w5s]at hl ⊢
   have e:(91::(t++[93]))++X=91::(t++93::X):=by simp
   have hl2:=(z9k hu).1;have ho:one 91 (t++93::X)=(5,.ok t ((91::(t++[93])).length)):=by
    rw[g5m,v9j X hu];show (5,Tk.ok t (1+u))=_;rw[hl2,length_cons,length_append,length_singleton,add_comm 1]
   rw[e,wg ho,<-e,drop_left,hl];rfl
 . show (true,src 5 t,1)=_
   rw[hb];rfl
def Wh(l:List Tok):Prop:=∀x∈l,(x.1==4||x.1==3)=true
theorem y0b:∀(w l:List Tok),Wh w->skn (w++l)=w.length+skn l
 | [],l,_=>by simp
 | x::w,l,h=>by
  rw[cons_append];simp only[skn,h x mem_cons_self,cond_true,y0b w l (λy hy=>h y (mem_cons_of_mem _ hy)),length_cons];omega
theorem x4m{t:Tok}{l:List Tok}(h:(t.1==2&&t.2.1==[46])=false):Dn (t::l):=by
 intro acc;cases l with
 | nil=>rfl
 | cons u r=>simp only[dwn,h,Bool.false_and,cond_false]
theorem f1h:Dn []:=λacc=>rfl
theorem b4k{w l:List Tok}(hw:Wh w)(hl:Dn l):Dn (w++l):=by
 cases w with
 | nil=>exact hl
 | cons x w =>
  refine x4m ?_;have:=hw x mem_cons_self;have h2:(x.1==2)=false:=by
   cases h:(x.1==2)with
   | false=>rfl
   | true =>
    have h3:x.1=2:=eq_of_beq h;rw[h3]at this;cases this
  rw[h2];rfl
theorem b5g{a b:List UInt8}{w1 w2 w3 ts td z:List Tok}{n:Int}(h1:Wh w1)(h2:Wh w2)(h3:Wh w3)(hz:Dn z)(hL:∀l,Dn l->loc (ts++l)=(true,a,ts.length)/\skn (ts++l)=0)(hD:∀l,Dn l->dom (td++l)=(true,b,td.length)/\skn (td++l)=0) :
 mt (w1++(ts++(w2++((2,[64],n)::(w3++(td++z))))))=some (a,b,w1.length+ts.length+w2.length+1+w3.length+td.length+skn z):=by
 have hn:Dn (w2++((2,[64],n)::(w3++(td++z)))):=b4k h2 (x4m rfl);obtain⟨h4,h5⟩:=hL _ hn;obtain⟨h6,h7⟩:=hD _ hz;have s1:skn (w1++(ts++(w2++((2,[64],n)::(w3++(td++z))))))=w1.length:=by rw[y0b _ _ h1,h5,add_zero]
 have e1:(w1++(ts++(w2++((2,[64],n)::(w3++(td++z)))))).drop w1.length=ts++(w2++((2,[64],n)::(w3++(td++z)))):=drop_left;have e2:(w1++(ts++(w2++((2,[64],n)::(w3++(td++z)))))).drop (w1.length+ts.length)=w2++((2,[64],n)::(w3++(td++z))):=by
  rw[<-drop_drop,e1,drop_left]
 have s2:skn (w2++((2,[64],n)::(w3++(td++z))))=w2.length:=by rw[y0b _ _ h2];rfl
 have e3:(w1++(ts++(w2++((2,[64],n)::(w3++(td++z)))))).drop (w1.length+ts.length+w2.length)=(2,[64],n)::(w3++(td++z)):=by
  rw[<-drop_drop,e2,drop_left]
 have e4:(w1++(ts++(w2++((2,[64],n)::(w3++(td++z)))))).drop (w1.length+ts.length+w2.length+1)=w3++(td++z):=by
  rw[<-drop_drop,e3];rfl
 have s3:skn (w3++(td++z))=w3.length:=by rw[y0b _ _ h3,h7,add_zero]
 have e5:(w1++(ts++(w2++((2,[64],n)::(w3++(td++z)))))).drop (w1.length+ts.length+w2.length+1+w3.length)=td++z:=by
  rw[<-drop_drop,e4,drop_left]
 have e6:(w1++(ts++(w2++((2,[64],n)::(w3++(td++z)))))).drop (w1.length+ts.length+w2.length+1+w3.length+td.length)=z:=by
  rw[<-drop_drop,e5,drop_left]
 have hs:sgn [64] ((2,[64],n)::(w3++(td++z)))=true:=rfl;unfold mt;simp only[s1,e1,h4,e2,s2,e3,hs,e4,s3,e5,h6,e6,Bool.not_true,cond_false]
theorem m3e(s:List UInt8):Pf (q1d (s,[46],())) (λy=>0<=y.1->s[y.1.toNat]? = some 46):=by
 unfold q1d x7p;dsimp only;exact pZ (d0c s) λ_ h=>pP h
theorem q7u{α:Type}(l:List α)(i:Nat)(v:α)(h:i<l.length):(l.set i v).take (i+1)=l.take i++[v]:=by
 rw[qk (by rw[length_set];exact h),List.getElem_set_self];congr 1;exact List.take_set_of_le (le_refl _)
def jq(q:List (List UInt8)):List UInt8:=q.flatMap (λp=>p++[46])
theorem m2x(s:List UInt8)(hs:s.length<=1000000000):Pf (z5o (s,[46],0,-1,())) (λy=>∃q r,y.1=q++[r]/\s=jn q r):=by
 unfold z5o x7j;dsimp only;rw[show ((-1:Int)==0)=false from rfl,show (([46]:List UInt8)==[])=false from rfl,show decide ((-1:Int)<0)=true from rfl];simp only[cond_false,cond_true];refine pZ pT ?_;rintro⟨c,u⟩ -
 dsimp only;generalize IntKind.i64.wrap (c+1)=m;refine pZ (P:=λy=>∃q r,y.1=q++[r]/\s=jn q r) ?_ λ_ h=>pP h;unfold q2b q5k;dsimp only;generalize (if IntKind.i64.wrap ((s.length:Int)+1)<m then IntKind.i64.wrap ((s.length:Int)+1)else m)=M;refine pX (λhM => ?_) (λ_=>pN);have hM':M<=140737488355328:=by
  simp only[and_eq_true,decide_eq_true_eq]at hM;omega
 refine pZ (P:=λy=>0<=y.2.1/\y.2.2.1.length<=140737488355328/\s=jq (y.2.2.1.take y.2.1.toNat)++y.1) ?_ ?_
 . refine pL ?I ?h _ ?hv
   case I=>exact(λv=>∃(x:List UInt8) (N i:Int) (rows:List (List UInt8)),0<=i/\rows.length<=140737488355328/\s=jq (rows.take i.toNat)++x/\v=(x,[46],0,N,i,rows,()))
   case hv=>exact⟨_,_,_,_,Int.le_refl _,by rw[List.length_replicate];omega,by simp[jq],rfl⟩
   rintro v ⟨x,N,i,rows,h0,hr,h1,rfl⟩;unfold q2i;dsimp only;with_reducible repeat' (first|exact pN|apply pP|apply pX<;>intro _)
   . refine pZ (m3e x) ?_
     rintro⟨k,u⟩ hk;dsimp only at hk ⊢;rw[show (([46]:List UInt8).length:Int)=1 from rfl];have hxs:x.length<=s.length:=by rw[h1];simp
     refine pX (λ_=>pP ⟨h0,hr,h1⟩) (λhneg => ?_);have h4:=hk (by omega);have hlt:k.toNat<x.length:=by
      rcases lt_or_ge k.toNat x.length with h|h
      . exact h
      . rw[getElem?_eq_none h]at h4;cases h4
     rw[List.getElem?_eq_getElem hlt,Option.some.injEq]at h4;rw[qg (n:=k+0) (by omega),qg (n:=k+1) (by omega),Int.add_zero];refine pX (λ_ => ?_) (λ_=>pN);refine pX (λhi => ?_) (λ_=>pN);refine pX (λ_ => ?_) (λ_=>pN);rw[qg (n:=i+1) (by omega)];have hil:i.toNat<rows.length:=by omega
     refine pP ⟨_,_,_,_,by omega,by rw[length_set];exact hr,?_,rfl⟩;rw[show (i+1).toNat=i.toNat+1 by omega,q7u _ _ _ hil];conv=>lhs;rw[h1,<-take_append_drop k.toNat x,<-List.getElem_cons_drop hlt,h4]
     rw[show (k+1).toNat=k.toNat+1 by omega];simp[jq]
   . exact⟨h0,hr,h1⟩
 . rintro⟨x,i,rows,u⟩ ⟨h0,hr,h1⟩
   dsimp only at h0 hr h1 ⊢;refine pX (λh2 => ?_) (λ_=>pN);refine pX (λh3 => ?_) (λ_=>pN);have hil:i.toNat<rows.length:=by omega
   refine pP ⟨rows.take i.toNat,x,?_,h1⟩;dsimp only;rw[qg (n:=i+1) (by omega),show (i+1).toNat=i.toNat+1 by omega,q7u _ _ _ hil]
theorem p47(s:List UInt8)(hs:s.length<=1000000000):Pf (C47 (s,())) (λy=>y.1=true->Atm s):=by
 unfold C47 F47;dsimp only;refine pZ (P:=Sum.elim (λy=>y.1=s/\s.all jk=true) (λy=>y.1=false)) ?_ ?_
 . refine pL ?I ?h _ ?hv
   case I=>exact(λv=>∃k:Int,0<=k/\k<=s.length/\(s.take k.toNat).all jk=true/\v=(s,(s.length:Int),k,()))
   case hv=>exact⟨0,Int.le_refl _,by omega,rfl,rfl⟩
   rintro v ⟨k,h0,h1,h2,rfl⟩;unfold z7s;dsimp only;with_reducible repeat' (first|exact pN|apply pP|apply pX<;>intro _)
   . have hlt:k.toNat<s.length:=by omega
     rw[c17];simp only[Option.bind_some];with_reducible repeat' (first|exact pN|apply pP|apply pX<;>intro _)
     . exact rfl
     . rename_i ha
       rw[qg (n:=k+1) (by omega)];refine⟨_,by omega,by omega,?_,rfl⟩;rw[getD_lt hlt]at ha;rw[show (k+1).toNat=k.toNat+1 by omega,qk hlt,List.all_append,h2];simp[ha]
   . rw[take_of_length_le (by omega)]at h2
     exact⟨rfl,h2⟩
 . intro z hz
   refine pS hz ?_ ?_
   . rintro⟨x,u⟩ ⟨h1,h2⟩
     dsimp only at h1;subst h1;refine pP λh=>⟨λe => ?_,h2⟩
     dsimp only at h;subst e;cases h
   . rintro⟨b,u⟩ hb
     dsimp only at hb;subst hb;exact pP λh=>by cases h
theorem v7z:∀(q:List (List UInt8)) (r:List UInt8),q.length<=(jn q r).length
 | [],r=>zero_le _
 | x::q,r=>by
  have:=v7z q r;rw[q0x];simp only[length_append,length_cons];omega
theorem p88(s:List UInt8)(hs:s.length<=1000000000):Pf (C88 (s,())) (λy=>y.1=true->Wd s):=by
 unfold C88 F88;dsimp only;refine pZ (P:=λy=>(∃q r,y.1=q++[r]/\s=jn q r)/\∀p∈y.1,p.length<=s.length) ?_ ?_
 . unfold q7i x7e
   dsimp only;refine pZ (pA (m2x s hs) (b3i s hs).pf) ?_;rintro y ⟨h1,h2⟩;exact pP ⟨h1,h2.2⟩
 rintro⟨ps,u⟩ ⟨⟨q,r,hq,hr⟩,hl⟩;dsimp only at hq hl ⊢;refine pZ (P:=Sum.elim (λ_=>∀p∈ps,Atm p) (λy=>y.1=false)) ?_ ?_
 . refine pL ?I ?h _ ?hv
   case I=>exact(λv=>∃k:Int,0<=k/\(∀p∈ps.take k.toNat,Atm p)/\v=(ps,(ps.length:Int),k,()))
   case hv=>exact⟨0,Int.le_refl _,λp hp=>(by cases hp),rfl⟩
   rintro v ⟨k,h0,h2,rfl⟩;unfold z7t;dsimp only;with_reducible repeat' (first|exact pN|apply pP|apply pX<;>intro _)
   . rename_i hk1 hk2
     have hlt:k.toNat<ps.length:=by omega
     have hmem:ps.getD k.toNat []∈ps:=by rw[getD_lt hlt];exact getElem_mem _
     refine pZ (p47 _ (by have:=hl _ hmem;omega)) ?_;rintro⟨b,u⟩ hb;dsimp only at hb ⊢;with_reducible repeat' (first|exact pN|apply pP|apply pX<;>intro _)
     . exact rfl
     . rename_i hbt
       have ha:=hb hbt;rw[getD_lt hlt]at ha;have hkb:IntKind.i64.wrap (k+1)=k+1\/k>=9000000000000000000:=by
        by_cases h:k>=9000000000000000000
        . exact .inr h
        . exact .inl (qg (by omega))
       have hpl:ps.length<=s.length+1:=by
        have:=v7z q r;rw[hq,hr,length_append,length_singleton];omega
       rw[qg (n:=k+1) (by omega)];refine⟨_,by omega,λp hp => ?_,rfl⟩;rw[show (k+1).toNat=k.toNat+1 by omega,qk hlt]at hp;rcases mem_append.1 hp with hp|hp
       . exact h2 p hp
       . rw[mem_singleton]at hp
         subst hp;exact ha
   . rw[take_of_length_le (by omega)]at h2
     exact h2
 . intro z hz
   refine pS hz ?_ ?_
   . intro u h
     refine pP λ_=>⟨q,r,hr,λp hp=>h p (by rw[hq];exact List.mem_append_left _ hp),h r (by rw[hq];simp)⟩
   . rintro⟨b,u⟩ hb
     dsimp only at hb;subst hb;exact pP λh=>by cases h
theorem v7s(s:List UInt8)(i:Nat):(⟨⟨s⟩⟩:ByteArray).get! i=s.getD i 0:=by
 show (⟨s⟩:Array UInt8)[i]! = _;rcases lt_or_ge i s.length with h|h
 . rw[getElem!_pos _ _ (by simpa using h),getD_lt h]
   simp
 . rw[getElem!_neg _ _ (by simpa using h),List.getD_eq_getElem?_getD,getElem?_eq_none h]
   rfl
theorem v0l(s:List UInt8)(p j:Nat)(h1:1<=j)(h2:j<(yw s p).2):128<=(s.getD (p+j) 0).toNat:=by
 have hsz:(⟨⟨s⟩⟩:ByteArray).size=s.length:=by simp[ByteArray.size]
 unfold yw Utf8.decode at h2;simp only[v7s]at h2;repeat' split at h2
 all_goals try (dsimp only at h2;omega)
 all_goals
  rename_i hc _;simp only[and_eq_true,decide_eq_true_eq,beq_iff_eq]at hc;dsimp only at h2;have hj:j=1\/j=2\/j=3:=by omega
  rcases hj with rfl|rfl|rfl<;>omega
theorem p85(x:Int):Pf (C85 (x,())) (λy=>y.1=false->x=9\/(32<=x/\x≠127)):=by
 unfold C85 F85;dsimp only;with_reducible repeat' (first|exact pN|apply pP|apply pX<;>intro _)
 . exact λh=>by cases h
 . rename_i h1 h2
   intro h;have h':(x==127)=false:=h;have:x≠127:=by simpa using h'
   exact .inr ⟨by omega,this⟩
 . rename_i h
   exact λ_ => .inl h
theorem x4q{c:UInt8}(h:128<=c.toNat):jz c=true:=by
 rw[<-z1p];unfold j3e;rw[decide_eq_true (show 32<=c.toNat by omega),decide_eq_false (show ¬c.toNat=127 by omega)];simp
theorem f4p(s:List UInt8)(hs:s.length<=1000000000000000):Pf (q7y (s,true,())) (λy=>y.1<0->s.all jz=true):=by
 unfold q7y z6r;dsimp only;refine pZ (P:=Sum.elim (λy=>0<=y.1) (λ_=>s.all jz=true)) ?_ ?_
 . refine pL ?I ?h _ ?hv
   case I=>exact(λv=>∃p:Nat,v=(true,(s,(p:Int)),())/\∀i,i<p->i<s.length->jz (s.getD i 0)=true)
   case hv=>exact⟨0,rfl,λi h=>by omega⟩
   rintro v ⟨p,rfl,h1⟩;unfold q5j;dsimp only;simp only[toNat_natCast];with_reducible repeat' (first|exact pN|apply pP|apply pX<;>intro _)
   . rename_i hp
     refine pZ (p85 _) ?_;rintro⟨b,u⟩ hb;dsimp only at hb ⊢;cases b with
     | true=>exact pP (by show (0:Int)<=(p:Int);omega)
     | false =>
      refine pP ⟨_,rfl,λi hi hil => ?_⟩;by_cases hip:i<p
      . exact h1 i hip hil
      . by_cases he:i=p
        . subst he
          have hb':=hb rfl;by_cases hlo:s[i].toNat<128
          . rw[z4e hp hlo]at hb'
            dsimp only at hb';rw[getD_lt hil,<-z1p];unfold j3e;rcases hb' with hb'|hb'
            . rw[decide_eq_true (show s[i].toNat=9 by omega)];rfl
            . rw[decide_eq_true (show 32<=s[i].toNat by omega),decide_eq_false (show ¬s[i].toNat=127 by omega)];simp
          . rw[getD_lt hil]
            exact x4q (by omega)
        . have:=v0l s p (i-p) (by omega) (by omega)
          rw[show p+(i-p)=i by omega]at this;exact x4q this
   . rename_i hp
     show s.all jz=true;rw[all_eq_true];intro c hc;obtain⟨i,hi,rfl⟩:=List.mem_iff_getElem.1 hc;have:=h1 i (by omega) hi;rw[getD_lt hi]at this;exact this
 . intro z hz
   refine pS hz ?_ ?_
   . rintro⟨a,u⟩ h
     exact pP λhn=>by
      have h':0<=a:=h;have hn':a<0:=hn;omega
   . intro u h
     exact pP λ_=>h
theorem d0j(s:List UInt8)(hs:s.length<=1000000000000000):Pf (j9z (s,())) (λy=>y.1=false->s.all jz=true):=by
 unfold j9z x2m;dsimp only;refine pZ (P:=λy=>y.1<0->s.all jz=true) ?_ ?_
 . unfold j9l z6m
   dsimp only;exact pZ (f4p s hs) λ_ h=>pP h
 . rintro⟨a,u⟩ h
   refine pP λhb=>h ?_;dsimp only at hb ⊢;simp only[decide_eq_false_iff_not]at hb;omega
theorem d0i(s:List UInt8)(hs:s.length<=1000000):Pf (C83 (s,())) (λy=>y.2.1<0->utf s=none):=by
 obtain⟨o,ho⟩:=c15 s hs;rw[ho];refine pP λh => ?_;dsimp only at h;cases hu:utf s with
 | none=>rfl
 | some b=>rw[hu]at h;exact(Int.not_lt.2 (Int.natCast_nonneg b) h).elim
section
variable {T:List R6} {A:List R4} {B:List R3}
theorem d0b(s:List UInt8)(hs:s.length<=1000000):Pf (j9m (T,A,B,s,())) (λy=>y.2.1=true->utf s=none):=by
 unfold j9m v4a;dsimp only;refine pZ (d0i s hs) ?_;rintro⟨l,at_,u⟩ hl;dsimp only at hl ⊢;with_reducible repeat' (first|exact pN|apply pP|apply pX<;>intro _)
 . exact λh=>by cases h
 . rename_i hat
   have:=hl (by omega);exact pZ pT λ_ _=>pZ pT λ_ _=>pZ pT λ_ _=>pZ pT λ_ _=>pP λ_=>this
theorem b9z(s:List UInt8)(hs:s.length<=1000000):Pf (z5k (T,A,B,s,())) (λy=>y.2.2.1=0->utf s=none):=by
 unfold z5k;dsimp only;refine pZ (d0b s hs) ?_;rintro⟨f,ok,u⟩ hf;dsimp only at hf ⊢;cases ok with
 | true=>exact pM pT λ_ _ _=>hf rfl
 | false =>
  rw[show q0y f false=some ([],7) from rfl];exact pP λh=>by cases h
def Rm(a b:List UInt8):Prop:=a≠[]/\a.length<=64/\utf a=none/\a.all jz=true/\utf b=none/\((∃t n,yi b 0 = .inl [(5,t,n)])\/Wd b)
theorem p44(h:TK T A B)(hK:KT T A B)(a b:List UInt8)(ha:a.length<=100000)(hb:b.length<=3000):Pf (C44 (T,A,B,a,b,())) (λy=>y.1=0->Rm a b):=by
 unfold C44 F44;dsimp only;refine pZ (d0i a (by omega)) ?_;rintro⟨o,at_,u⟩ hu;dsimp only at hu ⊢;refine pX (λ_=>pP (λh=>by cases h)) (λhne => ?_);have hne':a≠[]:=by simpa using hne
 refine pX (λ_=>pP (λh=>by cases h)) (λhlen => ?_);refine pX (λ_=>pP (λh=>by cases h)) (λhat => ?_);have hu':=hu (by omega);refine pZ (d0j a (by omega)) ?_;rintro⟨st,u⟩ hst;dsimp only at hst ⊢;refine pX (λ_=>pP (λh=>by cases h)) (λhsf => ?_);have hmay:=hst hsf;refine pZ pT ?_;rintro⟨li,u⟩ -
 dsimp only;refine pX (λ_ => ?_) (λ_ => ?_)
 . rw[c11 b]
   simp only[Option.bind_some];refine pX (λ_=>pP (λh=>by cases h)) (λhe => ?_);refine pX (λ_=>pP (λh=>by cases h)) (λh1 => ?_);refine pX (λ_ => ?_) (λ_=>pN);refine pX (λ_=>pP (λh=>by cases h)) (λh5 => ?_);refine pP λ_=>⟨hne',by omega,hu',hmay,?_⟩
   unfold q1o at he h1 h5;by_cases h2:2000<b.length
   . rw[if_pos h2]at he
     cases he
   . rw[if_neg h2]at he h1 h5
     cases hub:utf b with
     | some x=>rw[hub]at he;cases he
     | none =>
      rw[hub]at he h1 h5;refine⟨rfl,.inl ?_⟩;cases hl:yi b 0 with
      | inr x=>rw[hl]at h1;cases h1
      | inl l =>
       rw[hl]at h1 h5;have h1':(l.length:Int)=1:=h1;have h5':(l.getD 0 (0,([],0))).1=5:=h5
       match l,h1',h5' with
       | [(k,t,n)],_,h5' =>
        have:k=5:=h5';subst this;exact⟨t,n,rfl⟩
 . refine pZ (P:=λy=>y.2.1=0->run true 1 (bi b)=0/\utf b=none) ?_ ?_
   . unfold C87 F87
     dsimp only;refine pZ (pA (m2s h hK b hb) (b9z b (by omega))) ?_;rintro⟨x,y,e,u⟩ ⟨h1,h2⟩;exact pP λh0=>⟨h1 h0,h2 h0⟩
   . rintro⟨x,e,u⟩ h1
     refine pP λh0 => ?_;obtain⟨h2,h3⟩:=h1 h0;exact⟨hne',by omega,hu',hmay,h3,.inr (d0s h2)⟩
end
def lcl(a:List UInt8):List UInt8:=match C88 (a,())with
 | some (true,_)=>a
 | _=>src 1 a
def Hd(w:List UInt8):Prop:=∃c r,w=c::r/\jy c=false/\(c==13)=false
theorem m1b:((List.range 256).all λn=>(λc:UInt8 => !jk c||(!jy c && !(c==13))) (UInt8.ofNat n))=true:=by kernel_rfl
theorem w0r{c:UInt8}(h:jk c=true):jy c=false/\(c==13)=false:=by
 have:=xp (λc:UInt8 => !jk c||(!jy c && !(c==13))) m1b c;simp only[h,Bool.not_true,Bool.false_or,and_eq_true,not_eq_true']at this;exact this
theorem v7u{x y:List UInt8}(h:Atm x):Hd (x++y):=by
 obtain⟨h1,h2⟩:=h;cases x with
 | nil=>exact(h1 rfl).elim
 | cons c x =>
  simp only[all_cons,and_eq_true]at h2;exact⟨c,x++y,rfl,w0r h2.1⟩
theorem g3y{w:List UInt8}(h:Wd w):Hd w:=by
 obtain⟨q,r,rfl,hq,hr⟩:=h;cases q with
 | nil =>
  have:=v7u (y:=[]) hr;rw[append_nil]at this;exact this
 | cons x q=>rw[q0x];exact v7u (hq x mem_cons_self)
theorem b4q:(jy 34||jy 91)=false:=by kernel_rfl
structure Mp (a b:List UInt8):Prop where
 lc:z0e (lcl a) loc a
 dm:z0e b dom b
 ln:(lcl a).length<=130
 vl:Val (lcl a)
 vb:Val b
 hl:Hd (lcl a)
 hb:Hd b
 pr:C45 (a,b,())=some (lcl a++[64]++b,())
theorem g4k{a b:List UInt8}(h:Rm a b)(hb:b.length<=3000):Mp a b:=by
 obtain⟨h1,h2,h3,h4,h5,h6⟩:=h;have hD:z0e b dom b:=by
  rcases h6 with⟨t,n,h6⟩|h6
  . exact v6y h6
  . exact k8t h6
 have hva:Val a:=(j9k (by omega)).1 h3;have hvb:Val b:=(j9k (by omega)).1 h5;have hsk:=b4q;simp only[Bool.or_eq_false_iff]at hsk;have hHb:Hd b:=by
  rcases h6 with⟨t,n,h6⟩|h6
  . rw[<-z9j h6,w5s];exact⟨91,_,rfl,hsk.2,rfl⟩
  . exact g3y h6
 obtain⟨⟨w,u⟩,hw,-⟩:=d88 a (by omega);cases w with
 | true =>
  have e:lcl a=a:=by unfold lcl;rw[hw]
  have hL:=w4i (p88 a (by omega) _ hw rfl);refine⟨by rw[e];exact hL,hD,by rw[e];omega,by rw[e];exact hva,hvb,by rw[e];exact g3y (p88 a (by omega) _ hw rfl),hHb,?_⟩;rw[e];show F45 C88 C89 _=_;simp only[F45,hw,Option.bind_some,Bool.not_true,cond_false];rw[decide_eq_true (by simp only[length_cons,length_nil];omega),decide_eq_true (by simp only[jf];omega)];rfl
 | false =>
  have e:lcl a=src 1 a:=by unfold lcl;rw[hw]
  have hlen:=q7b a;have hs:(src 1 a).length<=130:=by
   rw[f5q];simp only[jf];omega
  have hv:Val (src 1 a):=by
   have e:src 1 a=[]++34::(vv a++34::[]):=by simp[src]
   rw[e];refine Val.glue (by decide) .nil (Val.glue (by decide) ?_ .nil);have:=x6f a [] (by simpa using hva);simpa using this
  refine⟨by rw[e];exact f3p h4,hD,by rw[e];exact hs,by rw[e];exact hv,hvb,by rw[e,f5q];exact⟨34,_,rfl,hsk.1,rfl⟩,hHb,?_⟩;rw[e];show F45 C88 C89 _=_;simp only[F45,hw,Option.bind_some,Bool.not_false,cond_true,c9 1 a 0 (by omega)];rw[decide_eq_true (by simp only[length_cons,length_nil];omega),decide_eq_true (by simp only[jf];omega)];rfl
section
variable {T:List R6} {A:List R4} {B:List R3}
end
def tkB:Bool:=match C18 ()with
 | some (T,A,B,_)=>(decide (T.length<=1000000000000)&&T.all λe=>decide (0<=e.2.2.2.1)&&decide (e.2.2.2.1<8))&&(decide (A.length<=1000000000000)&&decide (B.length<=1000000000000))
 | none=>false
theorem d0q:tkB=true:=by kernel_rfl
theorem tk:∃T A B,C18 ()=some (T,A,B,())/\TK T A B:=by
 have h:=d0q;unfold tkB at h;cases hc:C18 ()with
 | none=>rw[hc]at h;cases h
 | some y =>
  obtain⟨T,A,B,u⟩:=y;rw[hc]at h;simp only[and_eq_true,decide_eq_true_eq,all_eq_true]at h;exact⟨T,A,B,rfl,⟨h.1.1,h.1.2⟩,h.2.1,h.2.2⟩
theorem v9e:C67 ([60,62],())=some ([(2,[60],0),(2,[62],1)],0,0,()):=by kernel_rfl
theorem k8h(T A B):C40 (T,A,B,[60,62],())=some (true,[],[],0,()):=by
 show F40 C44 wm C67 C71 C79 C80 xn q2g _=_;simp only[F40,v9e,Option.bind_some];rfl
theorem f3n:(!jk 60&&q3j 60&&(!jk 62&&q3j 62))=true:=by kernel_rfl
theorem k0o(X:List UInt8):one 60 X=(2,.ok [60] 1):=by
 have h:=f3n;simp only[and_eq_true,not_eq_true']at h;unfold one;rw[if_neg (by rw[h.1.1];decide),if_pos h.1.2]
theorem f4g(X:List UInt8):one 62 X=(2,.ok [62] 1):=by
 have h:=f3n;simp only[and_eq_true,not_eq_true']at h;unfold one;rw[if_neg (by rw[h.2.1];decide),if_pos h.2.2]
theorem y4t(X:List UInt8):stops jk (62::X):=by
 have h:=f3n;simp only[and_eq_true,not_eq_true']at h;exact h.2.1
theorem p81(k:Int)(t:List UInt8)(n:Int)(h:(k==4||k==3)=false):Pf (C81 (k,t,n,())) (λy=>y.1=false):=by
 simp only[Bool.or_eq_false_iff,beq_eq_false_iff_ne]at h;unfold C81 F81;dsimp only;with_reducible repeat' (first|exact pN|apply pP|apply pX<;>intro _)
 all_goals first|rfl|(exfalso;omega)|(exact beq_eq_false_iff_ne.2 (by omega))
theorem p80(l:List Tok)(hl:l.length<=1000000)(h:∀x∈l,(x.1==4||x.1==3)=false):C80 (l,())=some (false,()):=by
 obtain⟨⟨b,u⟩,h80,-⟩:=d80 l hl;rw[h80];have key:Pf (C80 (l,())) (λy=>y.1=false):=by
  unfold C80 F80;dsimp only;refine pZ (P:=λy=>y.1<0) ?_ ?_
  . unfold v1o k2v
    dsimp only;refine pZ (P:=Sum.elim (λ_=>True) (λ_=>False)) ?_ ?_
    . refine pL ?I ?h _ ?hv
      case I=>exact(λv=>∃k:Int,0<=k/\v=(l,(l.length:Int),k,()))
      case hv=>exact⟨0,Int.le_refl _,rfl⟩
      rintro v ⟨k,h0,rfl⟩;unfold j7l;dsimp only;with_reducible repeat' (first|exact pN|apply pP|apply pX<;>intro _)
      . have hlt:k.toNat<l.length:=by omega
        rw[getD_lt hlt];refine pZ (p81 _ _ _ (h _ (getElem_mem hlt))) ?_;rintro⟨b,u⟩ hb;dsimp only at hb ⊢;subst hb;simp only[cond_false];rw[qg (n:=k+1) (by omega)];exact pP ⟨_,by omega,rfl⟩
      . trivial
    . intro z hz
      refine pS hz ?_ ?_
      . intro u _
        exact pP (by decide:(-1:Int)<0)
      . intro u h
        exact h.elim
  . rintro⟨a,u⟩ h
    refine pP ?_;dsimp only at h ⊢;exact decide_eq_false (by omega)
 have:=key _ h80;dsimp only at this;rw[this]
theorem g3r{T A B}(pr:List UInt8)(m:List Tok)(e:Int)(hR:q1o pr=((2,[60],0)::(m++[(2,[62],e)]),0,0))(hm:Nw m)(hlen:m.length<=1500){z:Int×Bool×List UInt8×List UInt8×Unit}(h2:xn (((m.length+1:Nat):Int),(2,[60],0)::(m++[(2,[62],e)]),4,T,A,B,false,[],[],false,[],[],())=some (.inl z)):C40 (T,A,B,pr,())=some (z.2.1,z.2.2.1,z.2.2.2.1,z.1,()):=by
 have h67:=c11 pr;rw[hR]at h67;dsimp only at h67;have hll:((2,[60],0)::(m++[(2,[62],e)]):List Tok).length=m.length+2:=by simp
 have hml:1<=m.length:=List.length_pos_iff.2 hm.1;have hw:IntKind.i64.wrap ((((2,[60],0)::(m++[(2,[62],e)]):List Tok).length:Int)-1)=((m.length+1:Nat):Int):=by
  rw[hll,qg (by omega)];omega
 have hg:((2,[60],0)::(m++[(2,[62],e)]):List Tok).getD (m.length+1) (0,([],0))=(2,[62],e):=by
  rw[show ((2,[60],0)::(m++[(2,[62],e)]):List Tok)=((2,[60],0)::m)++[(2,[62],e)] by simp];exact gd (by simp)
 have hd:List.drop 1 (List.take (m.length+1) ((2,[60],0)::(m++[(2,[62],e)]):List Tok))=m:=by
  rw[take_succ_cons,take_left];rfl
 have h80:=p80 m (by omega) hm.2;have k1:∀a,C79 (2,[60],a,[60],())=some (true,()):=λa=>rfl;have k2:∀a,C79 (2,[62],a,[62],())=some (true,()):=λa=>rfl;show F40 C44 wm C67 C71 C79 C80 xn q2g _=_;simp only[F40,h67,Option.bind_some,inF (rfl:(0:Int)=0),cond_false,hw,getD_cons_zero,k1,Bool.not_true,toNat_natCast,hg,k2,hd,h80,h2,Sum.elim_inl];rw[decide_eq_false (by omega),hll,decide_eq_true (by omega),decide_eq_true (by omega),decide_eq_true (by omega),decide_eq_true (by omega),decide_eq_true (by omega)];rfl
theorem m4g:((List.range 256).all λn=>(λc:UInt8 => !(decide (yc c∈[112,111,115,116,109,97,115,116,101,114]))||(jk c&&decide (c.toNat<128))) (UInt8.ofNat n))=true:=by kernel_rfl
theorem x5w{c:UInt8}(h:yc c∈[112,111,115,116,109,97,115,116,101,114]):jk c=true/\c.toNat<128:=by
 have:=xp (λc:UInt8 => !(decide (yc c∈[112,111,115,116,109,97,115,116,101,114]))||(jk c&&decide (c.toNat<128))) m4g c;simpa[h]using this
theorem g3s(n:Bool)(a b:List UInt8)(ha:a.length<=1100):wm (n,a,b,())=some (!n&&(b==[])&&(a.map yc==[112,111,115,116,109,97,115,116,101,114]),()):=by
 show F59 C25 _=_;simp only[F59,p25 a (by omega),Option.bind_some];cases n<;>cases (b==[])<;>rfl
theorem x6e:∀s:List UInt8,(∀c∈s,c.toNat<128)->Val s
 | [],_ => .nil
 | c::s,h=>(Val.one (h c mem_cons_self)).app (x6e s λd hd=>h d (mem_cons_of_mem _ hd))
theorem v7t(p:Nat):yi [62] p = .inl [(2,[62],(p:Int))]:=by
 rw[wg (f4g []),show ([62]:List UInt8).drop 1=[] from rfl,z1u];rfl
section
variable {T:List R6} {A:List R4} {B:List R3}
theorem p20(n:Bool)(a b:List UInt8)(ha:a.length<=1100):Pf (C20 (T,A,B,n,a,b,())) (λy=>y.1=0->(n=true/\a=[]/\b=[])\/(n=false/\wm (false,a,b,())=some (true,()))\/(n=false/\wm (false,a,b,())=some (false,())/\C44 (T,A,B,a,b,())=some (0,()))):=by
 unfold C20 F20;dsimp only;cases n with
 | true =>
  simp only[cond_true];cases hab:(a==[]&&(b==[]&&true))with
  | true =>
   simp only[and_eq_true,beq_iff_eq,and_true]at hab;exact pM pT λ_ _ _ => .inl ⟨by simp,hab.1,hab.2⟩
  | false =>
   rw[show wu (!false,T,A,B,true,a,b,())=some (.inl (1,())) from rfl];exact pP λh=>by cases h
 | false =>
  simp only[cond_false];refine pZ (P:=Sum.elim (λ_=>wm (false,a,b,())=some (true,())) (λy=>y=(T,A,B,false,a,b,())/\wm (false,a,b,())=some (false,()))) ?_ ?_
  . unfold wu q3w
    dsimp only;simp only[cond_false];refine pZ (P:=λy=>wm (false,a,b,())=some (y.1,())) (λy e=>by rw[e]) ?_;rintro⟨w,u⟩ h59;dsimp only at h59 ⊢;cases w with
    | true=>exact pP h59
    | false=>exact pP ⟨rfl,h59⟩
  . intro z hz
    refine pS hz ?_ ?_
    . intro y h
      exact pP λ_ => .inr (.inl ⟨by simp,h⟩)
    . rintro y ⟨rfl,h⟩
      dsimp only;refine pZ (P:=λy=>C44 (T,A,B,a,b,())=some (y.1,())) (λy e=>by rw[e]) ?_;rintro⟨e,u⟩ h44;refine pP λh0 => ?_;dsimp only at h0 h44;subst h0;exact .inr (.inr ⟨by simp,h,h44⟩)
theorem d0l(h:TK T A B)(hK:KT T A B)(n:Bool)(a b:List UInt8)(ha:a.length<=1000)(hb:b.length<=1000)(h20:C20 (T,A,B,n,a,b,())=some (0,())):∃pr,C22 (n,a,b,())=some (pr,())/\C40 (T,A,B,pr,())=some (n,a,b,0,()):=by
 rcases p20 n a b (by omega) _ h20 rfl with⟨rfl,rfl,rfl⟩|⟨rfl,h59⟩|⟨rfl,h59,h44⟩
 . exact⟨[60,62],rfl,k8h T A B⟩
 . have h59':=h59
   rw[g3s false a b (by omega)]at h59;simp only[Bool.not_false,Bool.true_and,Option.some.injEq,Prod.mk.injEq,and_eq_true,beq_iff_eq,and_true]at h59;obtain⟨rfl,hl⟩:=h59;have hall:∀c∈a,jk c=true/\c.toNat<128:=λc hc=>x5w (by rw[<-hl];exact List.mem_map_of_mem hc);have hlen:a.length=10:=by
    have:=congrArg List.length hl;simpa using this
   have hat:Atm a:=⟨λe=>(by subst e;cases hlen),all_eq_true.2 λc hc=>(hall c hc).1⟩
   refine⟨[60]++a++[62],?_,?_⟩
   . show F22 C45 wm _=_
     simp only[F22,cond_false,h59',Option.bind_some,cond_true];rw[decide_eq_true (by simp only[length_cons,length_nil];omega),decide_eq_true (by simp only[jf];omega)];rfl
   . have hx:yi ([60]++a++[62]) 0 = .inl ((2,[60],0)::([(0,a,((0+1:Nat):Int))]++[(2,[62],((0+1+a.length:Nat):Int))])):=by
      rw[show [60]++a++[62]=60::(a++62::[]) by simp,wg (k0o _),show (60::(a++62::[])).drop 1=a++[62] from rfl,z9h hat (y4t []),v7t];rfl
     have hR:q1o ([60]++a++[62])=((2,[60],0)::([(0,a,((0+1:Nat):Int))]++[(2,[62],((0+1+a.length:Nat):Int))]),0,0):=by
      unfold q1o;rw[if_neg (by simp only[jf];omega),(j9k (by simp only[jf];omega)).2 (x6e _ λc hc=>by
       simp only[mem_append,mem_singleton]at hc;rcases hc with (rfl|hc)|rfl
       . decide
       . exact(hall c hc).2
       . decide),hx]
      rfl
     refine g3r (z:=(0,false,a,[],())) _ _ _ hR ⟨by simp,λx hx=>by rw[mem_singleton]at hx;subst hx;rfl⟩ (by simp) ?_;show q2k C44 wm C67 C71 C79 C80 xm _=_;simp only[q2k,length_singleton,List.singleton_append,getD_cons_succ,getD_cons_zero,h59',Option.bind_some,length_cons,length_nil];rfl
 . have hM:=g4k (p44 h hK a b (by omega) (by omega) _ h44 rfl) (by omega)
   have hln:=hM.ln;obtain⟨ts,n1,k3,k4⟩:=hM.lc (0+1);obtain⟨td,n2,k1,k2⟩:=hM.dm (0+1+(lcl a).length+1);have g1:=k1 [62] _ (y4t []) (v7t _);have g2:=f3m g1;have g3:=k3 _ _ (k1t _) g2;have e:[60]++(lcl a++[64]++b)++[62]=60::(lcl a++64::(b++[62])):=by simp
   have hm:=b5g (w1:=[]) (w2:=[]) (w3:=[]) (n:=((0+1+(lcl a).length:Nat):Int)) (λx hx=>by cases hx) (λx hx=>by cases hx) (λx hx=>by cases hx) f1h k4 k2;simp only[nil_append,append_nil,length_nil,zero_add,add_zero]at hm;have hx:yi ([60]++(lcl a++[64]++b)++[62]) 0 = .inl ((2,[60],0)::((ts++(2,[64],((0+1+(lcl a).length:Nat):Int))::td)++[(2,[62],((0+1+(lcl a).length+1+b.length:Nat):Int))])):=by
    rw[e,wg (k0o _),show (60::(lcl a++64::(b++[62]))).drop 1=lcl a++64::(b++[62]) from rfl,g3];simp[y2o]
   have hsz:=z9i _ _ _ _ (le_refl _) hx;have hpl:([60]++(lcl a++[64]++b)++[62]).length<=1200:=by
    simp only[jf];omega
   have hR:q1o ([60]++(lcl a++[64]++b)++[62])=((2,[60],0)::((ts++(2,[64],((0+1+(lcl a).length:Nat):Int))::td)++[(2,[62],((0+1+(lcl a).length+1+b.length:Nat):Int))]),0,0):=by
    unfold q1o;rw[if_neg (by omega),(j9k (by omega)).2 (by
     rw[e];exact Val.glue (a:=[]) (by decide) .nil (hM.vl.app (Val.glue (a:=[]) (by decide) .nil (hM.vb.app (Val.one (by decide)))))),hx]
    rfl
   refine⟨[60]++(lcl a++[64]++b)++[62],?_,?_⟩
   . show F22 C45 wm _=_
     simp only[F22,cond_false,h59,Option.bind_some,hM.pr];rw[decide_eq_true (by simp only[jf];omega),decide_eq_true (by simp only[jf];omega)];rfl
   . have hnw:Nw (ts++(2,[64],((0+1+(lcl a).length:Nat):Int))::td):=⟨by simp,λx hx=>by
      rcases mem_append.1 hx with hx|hx
      . exact n1.2 x hx
      . rcases mem_cons.1 hx with rfl|hx
        . rfl
        . exact n2.2 x hx⟩
     have hml:3<=(ts++(2,[64],((0+1+(lcl a).length:Nat):Int))::td).length:=by
      have h1:=List.length_pos_iff.2 n1.1;have h2:=List.length_pos_iff.2 n2.1;simp only[length_append,length_cons];omega
     have hmt:mt (ts++(2,[64],((0+1+(lcl a).length:Nat):Int))::td)=some (a,b,(ts++(2,[64],((0+1+(lcl a).length:Nat):Int))::td).length):=by
      rw[hm];simp only[length_append,length_cons,skn];congr 3;omega
     generalize hmm:ts++(2,[64],((0+1+(lcl a).length:Nat):Int))::td=m at hR hnw hml hmt hsz;have hszm:szT m+m.length<=2900:=by
      have h1:=hsz.1;have h2:=hsz.2;have h3:szT m<=szT ((2,[60],0)::(m++[(2,[62],((0+1+(lcl a).length+1+b.length:Nat):Int))])):=by
       have q1:=q4u m.length (m++[(2,[62],((0+1+(lcl a).length+1+b.length:Nat):Int))]);rw[take_left]at q1;have q2:=xv 1 ((2,[60],0)::(m++[(2,[62],((0+1+(lcl a).length+1+b.length:Nat):Int))]));rw[show ((2,[60],0)::(m++[(2,[62],((0+1+(lcl a).length+1+b.length:Nat):Int))]):List Tok).drop 1=m++[(2,[62],((0+1+(lcl a).length+1+b.length:Nat):Int))] from rfl]at q2;omega
      simp only[length_cons,length_append,length_nil]at h2;omega
     have hml2:m.length<=1300:=by
      have h2:=hsz.2;simp only[length_cons,length_append,length_nil]at h2;omega
     refine g3r (z:=(0,false,a,b,())) _ m _ hR hnw (by omega) ?_;have h71:=c71 m (by omega);rw[hmt]at h71;dsimp only at h71;generalize hle:(0+1+(lcl a).length+1+b.length:Nat)=le;have hd:List.drop 1 (List.take (m.length+1) ((2,[60],0)::(m++[(2,[62],(le:Int))]):List Tok))=m:=by
      rw[take_succ_cons,take_left];rfl
     have hll:((2,[60],0)::(m++[(2,[62],(le:Int))]):List Tok).length=m.length+2:=by simp
     have hw:IntKind.i64.wrap (((m.length+1:Nat):Int)-1)=(m.length:Int):=by rw[qg (by omega)];omega
     have hc1:∀y,xm (((m.length+1:Nat):Int),(2,[60],0)::(m++[(2,[62],(le:Int))]),4,T,A,B,false,[],[],false,y,[],())=some (.inr (0,false,a,b,())):=by
      intro y;have hc0:q3t (T,A,B,false,[],[],false,a,b,())=some (0,false,a,b,()):=by
       show q8g C44 wm C67 C71 C79 C80 _=_;simp only[q8g,h44,Option.bind_some];rfl
      show q8h C44 wm C67 C71 C79 C80 q3t _=_;simp only[q8h,toNat_natCast,hd,h71,Option.bind_some,Bool.not_true,cond_false,hw,inF (show (m.length:Int)=(m.length:Int) from rfl),hc0,hll];rw[decide_eq_true (by omega),decide_eq_true (by omega),decide_eq_true (by omega)];rfl
     show q2k C44 wm C67 C71 C79 C80 xm _=_;simp only[q2k,hc1,hll,Option.bind_some,Sum.elim_inr,ibF (show ((m.length+1:Nat):Int)≠1 by omega),ibF (show ((m.length+1:Nat):Int)≠2 by omega),cond_false];rw[decide_eq_true (by omega)];rfl
def Pq(T:List R6)(A:List R4)(B:List R3)(z:Int×Bool×List UInt8×List UInt8×Unit):Prop :=
 (z.1=0->C20 (T,A,B,z.2.1,z.2.2.1,z.2.2.2.1,())=some (0,())/\z.2.2.1.length<=1100/\z.2.2.2.1.length<=1100)/\(z.1≠0->z.2=(false,[],[],()))
theorem g9q(a b:List UInt8)(ha:a.length<=1100)(h44:C44 (T,A,B,a,b,())=some (0,())):C20 (T,A,B,false,a,b,())=some (0,()):=by
 obtain⟨⟨w,u⟩,h59,-⟩:=d59 false a b ha;have hc:wu (false,T,A,B,false,a,b,())=some (bif w then .inl (0,())else .inr (T,A,B,false,a,b,())):=by
  show q3w C44 wm _=_;simp only[q3w,cond_false,h59,Option.bind_some];cases w<;>rfl
 show F20 C44 wm wu _=_;simp only[F20,cond_false,hc,Option.bind_some];cases w with
 | true=>rfl
 | false=>simp only[cond_false,Sum.elim_inr,h44,Option.bind_some]
theorem g9r(a b:List UInt8)(h59:wm (false,a,b,())=some (true,())):C20 (T,A,B,false,a,b,())=some (0,()):=by
 have hc:wu (false,T,A,B,false,a,b,())=some (.inl (0,())):=by
  show q3w C44 wm _=_;simp only[q3w,cond_false,h59,Option.bind_some];rfl
 show F20 C44 wm wu _=_;simp only[F20,cond_false,hc,Option.bind_some];rfl
theorem d0f(l:List Tok)(hz:szT l+l.length<=1030)(k:Int)(y b:List UInt8) :
 Pf (xm (k,l,4,T,A,B,false,[],[],false,y,b,())) (Sum.elim (λz=>z.1=4) (λz=>Pq T A B z)):=by
 unfold xm q8h;dsimp only;refine pX (λ_ => ?_) (λ_=>pN);refine pX (λ_ => ?_) (λ_=>pN);have z1:=q4u k.toNat l;have z2:=xv 1 (l.take k.toNat);have z3:((l.take k.toNat).drop 1).length<=l.length:=by simp only[length_drop,length_take];omega
 generalize (l.take k.toNat).drop 1=m at z2 z3;rw[c71 m (by omega)];cases hm:mt m with
 | none=>exact pP rfl
 | some r =>
  dsimp only;simp only[Option.bind_some,Bool.not_true,cond_false];refine pX (λ_=>pP rfl) (λ_ => ?_);obtain⟨-,z4,z5⟩:=g4l m hm;refine pZ (P:=λz=>Pq T A B z) ?_ (λz hz=>pP hz);unfold q3t q8g;dsimp only;intro z hz';cases h44:C44 (T,A,B,r.1,r.2.1,())with
  | none=>rw[h44]at hz';cases hz'
  | some e =>
   rw[h44]at hz';obtain⟨e,u⟩:=e;simp only[Option.bind_some]at hz';by_cases he:e=0
   . subst he
     rw[ibT (rfl:(0:Int)=0)]at hz';simp only[cond_true,Option.some.injEq]at hz';subst hz';exact⟨λ_=>⟨g9q r.1 r.2.1 (by omega) h44,(show r.1.length<=1100 by omega),(show r.2.1.length<=1100 by omega)⟩,λh=>(h rfl).elim⟩
   . rw[ibF he]at hz'
     simp only[cond_false,Option.some.injEq]at hz';subst hz';exact⟨λh=>(he h).elim,λ_=>rfl⟩
theorem d0g(l:List Tok)(hz:szT l+l.length<=1030)(k:Int) :
 Pf (xn (k,l,4,T,A,B,false,[],[],false,[],[],())) (Sum.elim (λz=>Pq T A B z) (λz=>z.1=4)):=by
 unfold xn q2k;dsimp only;refine pX (λ_=>pP ⟨λ_=>⟨rfl,by simp,by simp⟩,λh=>(h rfl).elim⟩) (λ_ => ?_);refine pX (λh1 => ?_) (λ_=>pN);have jh:∀y b,Pf ((xm (k,l,4,T,A,B,false,[],[],false,y,b,())).bind λval=>Sum.elim (λval=>some (Sum.inr (val.fst,val.snd.fst,val.snd.snd.fst,val.snd.snd.snd.fst,()))) (λval=>some (Sum.inl (val.fst,val.snd.fst,val.snd.snd.fst,val.snd.snd.snd.fst,()))) val) (Sum.elim (λz=>Pq T A B z) (λz=>z.1=4)):=by
  intro y b;refine pZ (d0f l hz k y b) ?_;intro z hz;refine pS hz ?_ ?_
  . intro z h
    exact pP h
  . rintro⟨z0,z1,z2,z3,u⟩ h
    exact pP h
 have hlt:1<l.length:=by omega
 have hsz:(l.getD 1 (0,([],0))).2.1.length<=1030:=by
  match l,hlt,hz with
  | x::y::r,_,hz =>
   simp only[szT]at hz;simp only[getD_cons_succ,getD_cons_zero];omega
 refine pX (λ_ => ?_) (λ_=>jh _ _);refine pX (λ_ => ?_) (λ_=>pN);refine pX (λ_ => ?_) (λ_=>jh _ _);obtain⟨⟨w,u⟩,h59,-⟩:=d59 false (l.getD 1 (0,([],0))).2.1 [] (by omega);rw[h59];simp only[Option.bind_some];cases w with
 | true=>exact pP ⟨λ_=>⟨g9r _ _ h59,by(try dsimp only);omega,by simp⟩,λh=>(h rfl).elim⟩
 | false=>exact jh _ _
theorem m4e(e:Int)(n:Bool)(x y:List UInt8):q2g (e,n,x,y,())=some (e,false,[],[],()):=by
 obtain⟨m,hm⟩:∃m,qz=m+1:=⟨qz-1,by unfold qz;omega⟩
 show qc (j4p C44 wm C67 C71 C79 C80) qz _=_;rw[hm];exact qe rfl
theorem p40(s:List UInt8)(hs:s.length<=512):Pf (C40 (T,A,B,s,())) (λy=>Pq T A B (y.2.2.2.1,y.1,y.2.1,y.2.2.1,())):=by
 unfold C40 F40;dsimp only;rw[c11 s];have hz:=z9g s;generalize q1o s=R at hz;obtain⟨l,o,e⟩:=R;dsimp only at hz ⊢;simp only[Option.bind_some,m4e];have bad:∀e:Int,e≠0->Pq T A B (e,false,[],[],()):=λe he=>⟨λh=>(he h).elim,λ_=>rfl⟩
 have jh:∀k,Pf ((xn (k,l,4,T,A,B,false,[],[],false,[],[],())).bind λval=>Sum.elim (λval=>some (val.snd.fst,val.snd.snd.fst,val.snd.snd.snd.fst,val.fst,())) (λval=>some (false,[],[],val.fst,())) val) (λy=>Pq T A B (y.2.2.2.1,y.1,y.2.1,y.2.2.1,())):=by
  intro k;refine pZ (d0g l (by omega) k) ?_;intro z hz;refine pS hz ?_ ?_
  . rintro⟨z0,z1,z2,z3,u⟩ h
    exact pP h
  . rintro⟨z0,z1,z2,z3,u⟩ h
    dsimp only at h;subst h;exact pP (bad 4 (by decide))
 refine pX (λhe=>pP (bad e he)) (λ_ => ?_);refine pX (λ_=>pP (bad 4 (by decide))) (λ_ => ?_);refine pX (λ_ => ?_) (λ_=>pN);refine pZ pT ?_;rintro⟨w,u⟩ -
 dsimp only;refine pX (λ_=>pP (bad 4 (by decide))) (λ_ => ?_);refine pX (λ_ => ?_) (λ_=>pN);refine pZ pT ?_;rintro⟨w,u⟩ -
 dsimp only;refine pX (λ_=>pP (bad 4 (by decide))) (λ_ => ?_);refine pX (λ_ => ?_) (λ_=>pN);refine pX (λ_ => ?_) (λ_=>pN);refine pZ pT ?_;rintro⟨w,u⟩ -
 dsimp only;exact pX (λ_=>pP (bad 4 (by decide))) (λ_=>jh _)
end
theorem d6v{T A B}(h:TK T A B)(n:Bool)(a b:List UInt8)(ha:a.length<=1100)(hb:b.length<=1100):∃e,C20 (T,A,B,n,a,b,())=some (e,()):=by
 cases n with
 | false =>
  obtain⟨⟨e,u⟩,h20,-⟩:=d20 h a b ha hb;exact⟨e,h20⟩
 | true =>
  show ∃e,F20 C44 wm wu _=_;simp only[F20,cond_true];cases (a==[]&&(b==[]&&true))with
  | true=>exact⟨0,rfl⟩
  | false=>exact⟨1,rfl⟩
def lw(s:List UInt8):List UInt8:=s.map yc
def lwK(c:UInt8):Bool:=(jk (yc c)==jk c)&&((jy (yc c)==jy c)&&((jz (yc c)==jz c)&&((q3j (yc c)==q3j c)&&((yc (yc c)==yc c)&&((decide ((yc c).toNat<128)==decide (c.toNat<128)) &&
 ([10,13,32,34,40,41,44,46,58,59,60,61,62,64,91,92,93]:List UInt8).all λk=>(yc c==k)==(c==k))))))
theorem m1d:((List.range 256).all λn=>lwK (UInt8.ofNat n))=true:=by kernel_rfl
theorem g4i(c:UInt8):lwK c=true:=xp lwK m1d c
section
variable (c:UInt8)
theorem f3v:yc (yc c)=yc c:=by
 have:=g4i c;simp only[lwK,and_eq_true,beq_iff_eq]at this;exact this.2.2.2.2.1
theorem g4j{k:UInt8}(hk:k∈([10,13,32,34,40,41,44,46,58,59,60,61,62,64,91,92,93]:List UInt8)):(yc c==k)=(c==k):=by
 have:=g4i c;simp only[lwK,and_eq_true]at this;exact eq_of_beq (all_eq_true.1 this.2.2.2.2.2.2 k hk)
theorem b10:(yc c==10)=(c==10):=g4j c (by decide)
end
theorem f3w:lw []=[]:=rfl
theorem j9g(c:UInt8)(r:List UInt8):lw (c::r)=yc c::lw r:=rfl
theorem z9l(s:List UInt8):(lw s).length=s.length:=List.length_map ..
theorem f3s(a b:List UInt8):lw (a++b)=lw a++lw b:=List.map_append ..
theorem x4y(n:Nat)(s:List UInt8):(lw s).take n=lw (s.take n):=(List.map_take ..).symm
theorem w4j(n:Nat)(s:List UInt8):(lw s).drop n=lw (s.drop n):=(List.map_drop ..).symm
theorem b5e(s:List UInt8):lw (lw s)=lw s:=by
 unfold lw;rw[List.map_map];exact List.map_congr_left λc _=>f3v c
def Tk.lo:Tk->Tk
 | .ok t u => .ok (lw t) u
 | .bad o e => .bad o e
 | .start => .start
def lt1(x:Tok):Tok:=(x.1,lw x.2.1,x.2.2)
def Asc(s:List UInt8):Prop:=∀c∈s,c.toNat<128
theorem k8a{s:List UInt8}(h:Asc s):utf s=none:=k1z _ _ _ h
theorem v5p{s:List UInt8}(h:Asc s)(n:Nat):Asc (s.drop n):=λc hc=>h c (List.mem_of_mem_drop hc)
theorem f3u(t:List UInt8){k:UInt8}(hk:k∈([10,13,32,34,40,41,44,46,58,59,60,61,62,64,91,92,93]:List UInt8)):(lw t==[k])=(t==[k]):=by
 match t with
 | []=>rfl
 | [c] =>
  rw[j9g,f3w];have:=g4j c hk;show (yc c==k&&true)=(c==k&&true)
  rw[this]
 | a::b::r =>
  rw[j9g,j9g];have e1:((yc a::yc b::lw r)==[k])=false:=by simp
  have e2:((a::b::r)==[k])=false:=by simp
  rw[e1,e2]
theorem d0o(t:List UInt8):src 5 t=[91]++t++[93]:=rfl
section
variable {α α' β β' γ γ':Type} {Q:α->α'->Prop}
def Re(Q:α->α'->Prop)(x:Option α)(y:Option α'):Prop:=∃a b,x=some a/\y=some b/\Q a b
def Rs(P:β->β'->Prop)(Q:α->α'->Prop):β⊕α->β'⊕α'->Prop
 | .inl a,.inl b=>P a b
 | .inr a,.inr b=>Q a b
 | _,_=>False
theorem rP{a:α}{b:α'}(h:Q a b):Re Q (some a) (some b):=⟨a,b,rfl,rfl,h⟩
theorem rZ{P:β->β'->Prop}{x:Option β}{y:Option β'}{f:β->Option α}{g:β'->Option α'}(h:Re P x y)(hf:∀a b,P a b->Re Q (f a) (g b)):Re Q (x.bind f) (y.bind g):=by
 obtain⟨a,b,rfl,rfl,h⟩:=h;exact hf a b h
theorem rC{c c':Bool}{x x':Option α}{y y':Option α'}(e:c'=c)(h1:c=true->Re Q x y)(h2:c=false->Re Q x' y'):Re Q (bif c then x else x') (bif c' then y else y'):=by
 subst e;cases c'
 . exact h2 rfl
 . exact h1 rfl
theorem rX{c c':Bool}{p q:Prop}[r:Rd c p q]{x x':Option α}{y y':Option α'}(e:c'=c)(h1:p->Re Q x y)(h2:q->Re Q x' y'):Re Q (bif c then x else x') (bif c' then y else y') :=
 rC e (λh=>h1 (r.t h)) (λh=>h2 (r.f h))
theorem rS{P:β->β'->Prop}{P':γ->γ'->Prop}{s:β⊕γ}{t:β'⊕γ'}{f:β->Option α}{g:γ->Option α}{f':β'->Option α'}{g':γ'->Option α'}(h:Rs P P' s t)(h1:∀a b,P a b->Re Q (f a) (f' b))(h2:∀a b,P' a b->Re Q (g a) (g' b)):Re Q (Sum.elim f g s) (Sum.elim f' g' t):=by
 cases s<;>cases t
 . exact h1 _ _ h
 . exact h.elim
 . exact h.elim
 . exact h2 _ _ h
theorem rL{F:β->Option (β⊕α)}{G:β'->Option (β'⊕α')}(I:β->β'->Prop)(μ:β->Nat)(h:∀v w,I v w->Re (Rs (λv' w'=>I v' w'/\μ v'<μ v) Q) (F v) (G w))(v:β)(w:β')(hv:I v w)(hn:μ v<1000000000000000000):Re Q (qc F qz v) (qc G qz w):=by
 suffices hs:∀n v w,I v w->μ v<n->Re Q (qc F n v) (qc G n w) from hs qz v w hv (by unfold qz;omega)
 intro n
 induction n with
 | zero=>intro v w _ h;omega
 | succ n ih =>
  intro v w hv hn;obtain⟨a,b,ea,eb,hab⟩:=h v w hv;cases a with
  | inl a =>
   cases b with
   | inl b =>
    rw[qm ea,qm eb];exact ih a b hab.1 (by have:=hab.2;omega)
   | inr b=>exact hab.elim
  | inr a =>
   cases b with
   | inl b=>exact hab.elim
   | inr b=>rw[qe ea,qe eb];exact rP hab
end
section
variable {T:List R6} {A:List R4} {B:List R3}
theorem v6u{s:List UInt8}{p:Nat}(h:p<s.length)(hc:s[p].toNat<128):yw s p=(s[p].toNat,1):=by
 have e:((⟨⟨s⟩⟩:ByteArray).get! (p+0))=s[p]:=by
  show (⟨s⟩:Array UInt8)[p+0]! = _;rw[add_zero,getElem!_pos _ _ (by simpa using h)];simp
 simp only[yw,Utf8.decode,e];rw[if_pos hc]
theorem b5d(s:List UInt8){k:UInt8}(hk:k∈([10,13,32,34,40,41,44,46,58,59,60,61,62,64,91,92,93]:List UInt8)):C96 (lw s,[k],())=C96 (s,[k],()):=by
 show F96 q3l _=F96 q3l _;have h:q3l (lw s,[k],())=q3l (s,[k],()):=by
  show j4j _=j4j _;simp only[j4j,z9l,x4y,f3u _ hk]
 simp only[F96,h]
theorem v0z(a:List UInt8):(lw a==[])=(a==[]):=by cases a<;>rfl
end
def Tk.mem(r:List UInt8):Tk->Prop
 | .ok t _=>∀c∈t,c∈r
 | _=>True
theorem y3m{r r':List UInt8}{k:Tk}{l:List UInt8}{n:Nat}(hl:∀c∈l,c∈r')(hr:∀c∈r,c∈r')(h:k.mem r):(k.push l n).mem r':=by
 cases k with
 | ok t u =>
  intro c hc;rcases mem_append.1 hc with hc|hc
  . exact hl c hc
  . exact hr c (h c hc)
 | bad o e=>trivial
 | start=>trivial
theorem y8c:∀(m:Nat) (r:List UInt8),r.length<=m->(qt r).mem r
 | _,[],_=>trivial
 | 0,c::r,h=>by simp at h
 | m+1,c::r,h=>by
  simp only[length_cons]at h;by_cases h1:c.toNat=34
  . rw[k1g h1];intro d hd;cases hd
  by_cases h2:c.toNat=92
  . cases r with
    | nil=>rw[x5x h2];trivial
    | cons d r =>
     simp only[length_cons]at h;rw[y4l h2];cases jz d
     . trivial
     . exact y3m (λx hx=>by rw[mem_singleton.1 hx];simp) (λx hx=>by simp[hx]) (y8c m r (by omega))
  rw[k1e h1 h2];cases jz c
  . trivial
  . exact y3m (λx hx=>by rw[mem_singleton.1 hx];simp) (λx hx=>by simp[hx]) (y8c m r (by omega))
theorem w5d{c:UInt8}{r t:List UInt8}{k:Int}{u:Nat}(h:one c r=(k,.ok t u))(ha:Asc (c::r)):Asc t:=by
 obtain⟨h1,h2⟩:=z9o h;by_cases hk:k=1
 . obtain⟨rfl,-⟩:=h2 hk
   rw[g5n]at h;simp only[Prod.mk.injEq]at h;obtain⟨u',hq,-⟩:=j3x h.2;have hm:=y8c _ r (le_refl _);rw[hq]at hm;exact λd hd=>ha d (mem_cons_of_mem _ (hm d hd))
 . have e:=h1 hk
   have ht:∀d∈t,d∈src k t:=by
    intro d hd;unfold src;rw[if_neg hk];split
    . simp[hd]
    split
    . simp[hd]
    . exact hd
   intro d hd;have:=ht d hd;rw[e]at this;exact ha d (List.mem_of_mem_take this)
def q7x(l:List Tok):Prop:=∀x∈l,Asc x.2.1
theorem y2b:∀(m:Nat) (s:List UInt8) (p:Nat) (l:List Tok),s.length<=m->Asc s->yi s p = .inl l->q7x l
 | m,[],p,l,hm,ha,h=>by
  cases h;intro x hx;cases hx
 | 0,c::r,p,l,hm,ha,h=>by simp at hm
 | m+1,c::r,p,l,hm,ha,h=>by
  obtain⟨k,t,u,l',ho,hl,rfl⟩:=q4o h;have hu:=q0b ho;have ih:=y2b m ((c::r).drop u) (p+u) l' (by simp only[length_drop,length_cons]at *;omega) (v5p ha u) hl;intro x hx;rcases mem_cons.1 hx with rfl|hx
  . exact w5d ho ha
  . exact ih x hx
theorem v5q{s:List UInt8}(ha:Asc s):q7x (q1o s).1:=by
 unfold q1o;split
 . intro x hx;cases hx
 rw[k8a ha];cases h:yi s 0 with
 | inl l=>exact y2b _ _ _ _ (le_refl _) ha h
 | inr e=>intro x hx;cases hx
theorem q7x.drop{l:List Tok}(h:q7x l)(n:Nat):q7x (l.drop n):=λx hx=>h x (List.mem_of_mem_drop hx)
theorem q7x.take{l:List Tok}(h:q7x l)(n:Nat):q7x (l.take n):=λx hx=>h x (List.mem_of_mem_take hx)
theorem Asc.app{a b:List UInt8}(ha:Asc a)(hb:Asc b):Asc (a++b):=λc hc=>(mem_append.1 hc).elim (ha c) (hb c)
theorem j5b{k:UInt8}(h:k.toNat<128):Asc [k]:=λc hc=>by rw[mem_singleton.1 hc];exact h
theorem yf:Asc []:=λc hc=>by cases hc
theorem x4c:∀(m:Nat) (l:List Tok) (acc:List UInt8),l.length<=m->q7x l->Asc acc->Asc (dwn acc l).1
 | m,[],acc,h,hl,ha=>ha
 | m,[t],acc,h,hl,ha=>ha
 | 0,t::u::r,acc,h,hl,ha=>by simp at h
 | m+1,t::u::r,acc,h,hl,ha=>by
  unfold dwn;cases (t.1==2&&t.2.1==[46])&&u.1==0
  . exact ha
  . exact x4c m r _ (by simp only[length_cons]at h;omega) (λx hx=>hl x (by simp[hx])) (ha.app ((j5b (by decide)).app (hl u (by simp))))
theorem x4b{l:List Tok}(hl:q7x l):Asc (dot l).1:=by
 cases l with
 | nil=>exact yf
 | cons t r =>
  simp only[dot];cases t.1==0
  . exact yf
  . exact x4c _ r _ (le_refl _) (λx hx=>hl x (by simp[hx])) (hl t (by simp))
theorem k7y{l:List Tok}(hl:q7x l):Asc (loc l).2.1:=by
 cases l with
 | nil=>exact yf
 | cons t r =>
  simp only[loc];cases t.1==1
  . exact x4b hl
  . exact hl t (by simp)
theorem k7x{l:List Tok}(hl:q7x l):Asc (dom l).2.1:=by
 cases l with
 | nil=>exact yf
 | cons t r =>
  simp only[dom];by_cases h5:t.1=5
  . rw[ibT h5,h5,d0o]
    exact((j5b (by decide)).app (hl t (by simp))).app (j5b (by decide))
  . rw[ibF h5]
    exact x4b hl
theorem g9j{l:List Tok}(hl:q7x l){r:List UInt8×List UInt8×Nat}(h:mt l=some r):Asc r.1/\Asc r.2.1:=by
 unfold mt at h;dsimp only at h;have h1:=k7y (hl.drop (skn l));have h2:=λn=>k7x (hl.drop n);revert h;cases (!(loc (l.drop (skn l))).1)
 . simp only[cond_false]
   generalize (!sgn [64] _)=b;generalize hc:(!(dom _).1)=c;cases b
   . cases c
     . intro h
       simp only[cond_false,Option.some.injEq]at h;subst h;exact⟨h1,h2 _⟩
     . intro h;cases h
   . intro h;cases h
 . intro h;cases h
section
variable {T:List R6} {A:List R4} {B:List R3}
theorem m4f(e:Int)(n:Bool)(x y:List UInt8):q2g (e,n,x,y,())=some (e,false,[],[],()):=by
 obtain⟨m,hm⟩:∃m,qz=m+1:=⟨qz-1,by unfold qz;omega⟩
 show qc (j4p C44 wm C67 C71 C79 C80) qz _=_;rw[hm];exact qe rfl
end
end Go.Proofs.YtiacnhhmkdkpmaaGreatDoorC.W
namespace Go.Proofs
open Go.Shelf
def laysM171_ren:Go.Shelf.Ren:=⟨fun|171=>65|243=>103|246=>135|283=>169|284=>170|285=>171|286=>172|129=>206|317=>205|318=>207|319=>208|320=>209|337=>235|338=>236|n=>n,fun|3=>3|9=>9|2=>2|4=>4|171=>216|0=>0|53=>189|37=>49|5=>5|173=>219|212=>245|51=>246|20=>20|213=>247|46=>179|232=>297|233=>298|n=>n,fun|17=>1|18=>5|19=>6|n=>n⟩
theorem laysM171:Go.Proofs.LaysM.n171 prog laysM171_ren:={
 mixed:=by kernel_rfl
 f129:=func206.trans (congrArg some (by kernel_rfl))
 f171:=func65.trans (congrArg some (by kernel_rfl))
 f243:=func103.trans (congrArg some (by kernel_rfl))
 f246:=func135.trans (congrArg some (by kernel_rfl))
 f283:=func169.trans (congrArg some (by kernel_rfl))
 f284:=func170.trans (congrArg some (by kernel_rfl))
 f285:=func171.trans (congrArg some (by kernel_rfl))
 f286:=func172.trans (congrArg some (by kernel_rfl))
 f317:=func205.trans (congrArg some (by kernel_rfl))
 f318:=func207.trans (congrArg some (by kernel_rfl))
 f319:=func208.trans (congrArg some (by kernel_rfl))
 f320:=func209.trans (congrArg some (by kernel_rfl))
 f337:=func235.trans (congrArg some (by kernel_rfl))
 f338:=func236.trans (congrArg some (by kernel_rfl))
 t0:=underlying0
 a0:=isAgg0
 z0:=sizeOf0
 v0:=zeroValue0
 t2:=underlying2
 a2:=isAgg2
 z2:=sizeOf2
 v2:=zeroValue2
 t3:=underlying3
 a3:=isAgg3
 z3:=sizeOf3
 v3:=zeroValue3
 t4:=underlying4
 a4:=isAgg4
 z4:=sizeOf4
 v4:=zeroValue4
 t5:=underlying5
 a5:=isAgg5
 z5:=sizeOf5
 v5:=zeroValue5
 t9:=underlying9
 a9:=isAgg9
 z9:=sizeOf9
 v9:=zeroValue9
 t20:=underlying20
 a20:=isAgg20
 z20:=sizeOf20
 v20:=zeroValue20
 t37:=underlying49
 a37:=isAgg49
 z37:=sizeOf49
 v37:=zeroValue49
 t46:=underlying179
 a46:=isAgg179
 z46:=sizeOf179
 v46:=zeroValue179
 t51:=underlying246
 a51:=isAgg246
 z51:=sizeOf246
 v51:=zeroValue246
 t53:=underlying189
 a53:=isAgg189
 z53:=sizeOf189
 v53:=zeroValue189
 t171:=underlying216
 a171:=isAgg216
 z171:=sizeOf216
 v171:=zeroValue216
 t173:=underlying219
 a173:=isAgg219
 z173:=sizeOf219
 v173:=zeroValue219
 t212:=underlying245
 a212:=isAgg245
 z212:=sizeOf245
 v212:=zeroValue245
 t213:=underlying247
 a213:=isAgg247
 z213:=sizeOf247
 t232:=underlying297
 a232:=isAgg297
 z232:=sizeOf297
 v232:=zeroValue297
 t233:=underlying298
 a233:=isAgg298
 z233:=sizeOf298
 v233:=zeroValue298
 g17:=by kernel_rfl
 g18:=by kernel_rfl
 g19:=by kernel_rfl
 i0:=by kernel_rfl
 i2:=by kernel_rfl
 i3:=by kernel_rfl
 i4:=by kernel_rfl
 i5:=by kernel_rfl
 i9:=by kernel_rfl
 i20:=by kernel_rfl
 i37:=by kernel_rfl
 i46:=by kernel_rfl
 i51:=by kernel_rfl
 i53:=by kernel_rfl
 i171:=by kernel_rfl
 i173:=by kernel_rfl
 i212:=by kernel_rfl
 i232:=by kernel_rfl
 i233:=by kernel_rfl
 m17:=by kernel_rfl
 m18:=by kernel_rfl
 m19:=by kernel_rfl }
end Go.Proofs
namespace Go.Ae
open Go.RowKit
variable {P:Program} {f:FuncId}
theorem b2i{w:World}{m:Md}{g:List Value}{a:AV}{args:Array Value}(h:qf w m g [a] args.toList):∃v,args = #[v]/\qi w m g a v:=by
 obtain⟨v1,r1,h1,h2,h3⟩:=h;have h3':r1=[]:=h3;subst h3';exact⟨v1,by cases args;simpa using h1,h2⟩
theorem f3o{fn:Func}(hf:P.funcs[f]? = some fn)(hb:fn.body.isSome=true)(hname:(fn.name == "runtime.NumGoroutine")=false){k:IntKind}{F:Int×Unit->Option (List UInt8×Unit)}(h:∀(n:Int) (y:List UInt8),F (n,())=some (y,())->∀w,y1d w->Calls P f #[.int k n] w λe w'=>e = .returned (.string ⟨⟨y⟩⟩)/\Below w.heap.size w w') :
 zg P f ⟨[.int k],[(.ret,[.str])],F⟩:=by
 intro w m g v args y hob hargs hy;obtain⟨s,u⟩:=v;obtain⟨v1,rfl,h1⟩:=b2i hargs;have h1':v1 = .int k s:=h1.1;subst h1';refine .inr ⟨enters hf hb hname _ w,?_⟩;obtain⟨y,u'⟩:=y;have hy':F (s,())=some (y,()):=hy;refine(h s y hy' w hob.gi.i).mono λe w' ⟨he,hbl⟩=>⟨_,he,?_⟩
 exact⟨.ret,[.str],(y,()),m,g,⟨by simp,λR k=>rfl⟩,zv hbl hob.nm,j5p hob (zv hbl hob.nm),λ_ _ h=>h,⟨_,[],rfl,rfl,rfl⟩⟩
end Go.Ae
namespace Go.Proofs.YtiacnhhmkdkpmaaGreatDoorC.W
open Go Go.Ae Go.RowKit
def k8y:List Sh:=[.int .i64]
def v7o:qb:=[(.ret,[.str])]
abbrev T65:=Int×Unit->Option (List UInt8×Unit)
def E65(f:T65):FEnt:=⟨k8y,v7o,f⟩
theorem f5r{P:Program}{w:World}{name:String}{b:Nat}{k:IntKind}{zs:List Int}(hg:P.globalNamed name=some b)(h:k1u w b k zs):Lib.TabIs P w name k zs:=by
 obtain⟨ty,fz,h⟩:=h;unfold Lib.TabIs World.var?;rw[hg];simp only[Option.bind_some,h]
def q3o:Nat->Nat->List UInt8
 | 0,_=>[]
 | f+1,n=>if n<10 then [UInt8.ofNat (48+n)]else q3o f (n/10)++[UInt8.ofNat (48+n%10)]
theorem z8w:∀(f n:Nat),n<10^(f+1)->q3o (f+1) n=Lib.decDigits n
 | 0,n,h=>by
  have:n<10:=by simpa using h
  rw[q3o,if_pos this,Lib.decDigits,dif_pos this]
 | f+1,n,h=>by
  rw[q3o,Lib.decDigits];split
  . rfl
  . rw[z8w f (n/10) (by rw[Nat.pow_succ]at h;omega)]
def xw(n:Int):List UInt8:=if n<0 then 45::q3o 20 n.natAbs else q3o 20 n.toNat
def C65(v:Int×Unit):Option (List UInt8×Unit):=if -9223372036854775808<=v.1/\v.1<=9223372036854775807 then some (xw v.1,())else none
theorem m2a:zg prog 65 (E65 C65):=f3o func65 (by kernel_rfl) (by kernel_rfl) λn y h w hg=>by
 simp only[C65]at h;split at h
 . rename_i hc
   obtain⟨h1,h2⟩:=hc;simp only[Option.some.injEq,Prod.mk.injEq,and_true]at h;have hy:y=Lib.itoa n:=by
    rw[<-h];unfold xw Lib.itoa;split
    . rw[z8w 19 _ (by omega)]
    . rw[z8w 19 _ (by omega)]
   subst hy;obtain⟨_,h4,_⟩:=hg;have ht:Lib.TabIs prog w "internal/strconv.uint64pow10" .u64 Lib.pow10Tab:=by
    have e:Lib.pow10Tab=w5v:=by decide
    rw[e];exact f5r (by kernel_rfl) h4
   refine(Any.strconv_Itoa laysM171 n h1 h2 w ht).mono λe w' ⟨he,k,os,hw⟩=>⟨he,?_⟩
   subst hw;refine⟨rfl,rfl,rfl,by simp[Sort.grow,World.drewN],λi hi => ?_⟩;have hi':i<(w.drewN k).heap.size:=hi;show (((w.drewN k).heap++os)[i]? : Option Obj)=w.heap[i]?;rw[Array.getElem?_append_left hi'];rfl
 . cases h
end Go.Proofs.YtiacnhhmkdkpmaaGreatDoorC.W
