/- The texts of the proof, one behind the other: Ae33. -/
import Derived.Test.YtgkmfhhghcccjaaGreatDoorAMt2
open List (cons_append flatMap_cons length_append nil_append)
open Nat (le_refl)
set_option linter.unusedVariables false
set_option linter.unusedSimpArgs false
set_option maxRecDepth 10000
namespace Go.Pl
open Go Go.Ae
def rightB(v:Int):Bool:=(decide (0<=v)&&decide (v<=1114111)) && !(decide (55296<=v)&&decide (v<=57343))
theorem rightB_iff{v:Int}:rightB v=true↔0<=v/\v<=1114111/\¬(55296<=v/\v<=57343):=by
 simp[rightB];omega
def lenE(v:Int):Nat:=bif rightB v then(bif decide (v<=127)then 1 else bif decide (v<=2047)then 2 else bif decide (v<=65535)then 3 else 4)else 0
def b8(n:Int):UInt8:=UInt8.ofNat n.toNat
theorem b8_val{n:Int}(h0:0<=n)(h1:n<256):((b8 n).toNat:Int)=n:=by
 simp only[b8,UInt8.toNat_ofNat'];omega
theorem b8_of{n:Int}{c:UInt8}(h:(c.toNat:Int)=n):b8 n=c:=by
 subst h;simp[b8]
def enc(v:Int):List UInt8:=match lenE v with
 | 1=>[b8 v]
 | 2=>[b8 (192+v/64),b8 (128+v%64)]
 | 3=>[b8 (224+v/4096),b8 (128+v/64%64),b8 (128+v%64)]
 | 4=>[b8 (240+v/262144),b8 (128+v/4096%64),b8 (128+v/64%64),b8 (128+v%64)]
 | _=>[]
theorem lenE0{v:Int}(h:rightB v=false):lenE v=0:=by simp[lenE,h]
theorem lenE1{v:Int}(h0:0<=v)(h1:v<=127):lenE v=1:=by
 have:rightB v=true:=rightB_iff.2 (by omega);simp[lenE,this,h1]
theorem lenE2{v:Int}(h0:128<=v)(h1:v<=2047):lenE v=2:=by
 have:rightB v=true:=rightB_iff.2 (by omega);have h2:¬v<=127:=by omega
 simp[lenE,this,h1,h2]
theorem lenE3{v:Int}(hr:rightB v=true)(h0:2048<=v)(h1:v<=65535):lenE v=3:=by
 have h2:¬v<=127:=by omega
 have h3:¬v<=2047:=by omega
 simp[lenE,hr,h1,h2,h3]
theorem lenE4{v:Int}(hr:rightB v=true)(h0:65536<=v):lenE v=4:=by
 have h2:¬v<=127:=by omega
 have h3:¬v<=2047:=by omega
 have h4:¬v<=65535:=by omega
 simp[lenE,hr,h2,h3,h4]
theorem enc1{v:Int}(h:lenE v=1):enc v=[b8 v]:=by simp[enc,h]
theorem enc2{v:Int}(h:lenE v=2):enc v=[b8 (192+v/64),b8 (128+v%64)]:=by simp[enc,h]
theorem enc3{v:Int}(h:lenE v=3):enc v=[b8 (224+v/4096),b8 (128+v/64%64),b8 (128+v%64)]:=by simp[enc,h]
theorem enc4{v:Int}(h:lenE v=4):enc v=[b8 (240+v/262144),b8 (128+v/4096%64),b8 (128+v/64%64),b8 (128+v%64)]:=by simp[enc,h]
theorem lenE_cases{v:Int}(hr:rightB v=true):(lenE v=1/\0<=v/\v<=127)\/(lenE v=2/\128<=v/\v<=2047)\/(lenE v=3/\2048<=v/\v<=65535)\/(lenE v=4/\65536<=v/\v<=1114111):=by
 have h:=rightB_iff.1 hr;by_cases h1:v<=127
 . exact .inl ⟨lenE1 h.1 h1,h.1,h1⟩
 . by_cases h2:v<=2047
   . exact .inr (.inl ⟨lenE2 (by omega) h2,by omega,h2⟩)
   . by_cases h3:v<=65535
     . exact .inr (.inr (.inl ⟨lenE3 hr (by omega) h3,by omega,h3⟩))
     . exact .inr (.inr (.inr ⟨lenE4 hr (by omega),by omega,h.2.1⟩))
theorem enc_len(v:Int):(enc v).length=lenE v:=by
 cases hr:rightB v with
 | false=>simp[enc,lenE0 hr]
 | true=>rcases lenE_cases hr with⟨h,_⟩|⟨h,_⟩|⟨h,_⟩|⟨h,_⟩<;>simp[enc,h]
theorem lenE_pos{v:Int}(hr:rightB v=true):1<=lenE v/\lenE v<=4:=by
 rcases lenE_cases hr with⟨h,_⟩|⟨h,_⟩|⟨h,_⟩|⟨h,_⟩<;>omega
def cv(c:UInt8):Int:=(c.toNat:Int)
theorem cv_rng(c:UInt8):0<=cv c/\cv c<=255:=by have:=c.toNat_lt;simp only[cv];omega
def contC(c:UInt8):Bool:=decide (128<=cv c)&&decide (cv c<192)
theorem contC_iff{c:UInt8}:contC c=true↔128<=cv c/\cv c<192:=by simp[contC]
def ifLen(n:Nat)(v:Int):Option Int:=bif Nat.beq (lenE v) n then some v else none
theorem ifLen_some{n:Nat}{v u:Int}:ifLen n v=some u↔u=v/\lenE v=n:=by
 unfold ifLen;cases h:Nat.beq (lenE v) n with
 | true=>have:=Nat.eq_of_beq_eq_true h;simp[this,eq_comm]
 | false=>simp;intro _ h';rw[h']at h;simp at h
def dec2(a:UInt8):List UInt8->Option Int
 | b::_=>bif contC b then ifLen 2 ((cv a-192)*64+(cv b-128))else none
 | []=>none
def dec3(a:UInt8):List UInt8->Option Int
 | b::c::_=>bif contC b&&contC c then ifLen 3 ((cv a-224)*4096+(cv b-128)*64+(cv c-128))else none
 | _=>none
def dec4(a:UInt8):List UInt8->Option Int
 | b::c::d::_=>bif contC b&&(contC c&&contC d)then ifLen 4 ((cv a-240)*262144+(cv b-128)*4096+(cv c-128)*64+(cv d-128))else none
 | _=>none
def decC(a:UInt8)(r:List UInt8):Option Int :=
 bif decide (cv a<128)then some (cv a)
 else bif decide (cv a<194)then none
 else bif decide (cv a<224)then dec2 a r
 else bif decide (cv a<240)then dec3 a r
 else bif decide (cv a<245)then dec4 a r
 else none
def dec:List UInt8->Option Int
 | []=>none
 | a::r=>decC a r
theorem dec_nil:dec []=none:=rfl
theorem dec_cons(a:UInt8)(r:List UInt8):dec (a::r)=decC a r:=rfl
theorem dec2_cons(a b:UInt8)(t:List UInt8):dec2 a (b::t)=bif contC b then ifLen 2 ((cv a-192)*64+(cv b-128))else none:=rfl
theorem dec3_cons(a b c:UInt8)(t:List UInt8):dec3 a (b::c::t)=bif contC b&&contC c then ifLen 3 ((cv a-224)*4096+(cv b-128)*64+(cv c-128))else none:=rfl
theorem dec4_cons(a b c d:UInt8)(t:List UInt8):dec4 a (b::c::d::t)=bif contC b&&(contC c&&contC d)then ifLen 4 ((cv a-240)*262144+(cv b-128)*4096+(cv c-128)*64+(cv d-128))else none:=rfl
theorem b8_cv{n:Int}(h0:0<=n)(h1:n<256):cv (b8 n)=n:=b8_val h0 h1
theorem dec_at{s:List UInt8}{v:Int}(h:dec s=some v):rightB v=true/\∃t,s=enc v++t:=by
 have hR:∀{n:Nat} {v:Int},lenE v=n->1<=n->rightB v=true:=by
  intro n v h1 h2;cases hr:rightB v with
  | true=>rfl
  | false=>rw[lenE0 hr]at h1;omega
 cases s with
 | nil=>cases h
 | cons a r =>
  have ra:=cv_rng a;rw[dec_cons,decC]at h;by_cases h1:cv a<128
  . simp only[h1,decide_true,cond_true,Option.some.injEq]at h
    subst h;have:=lenE1 ra.1 (by omega:cv a<=127);exact⟨hR this (le_refl _),r,by rw[enc1 this,b8_of (c:=a) (n:=cv a) rfl];rfl⟩
  . by_cases h2:cv a<194
    . simp[h1,h2]at h
    . by_cases h3:cv a<224
      . simp only[h1,h2,h3,decide_true,decide_false,cond_true,cond_false]at h
        cases r with
        | nil=>cases h
        | cons b t =>
         rw[dec2_cons]at h;have rb:=cv_rng b;cases hb:contC b with
         | false=>simp[hb]at h
         | true =>
          have hb':=contC_iff.1 hb;simp only[hb,cond_true]at h;obtain⟨rfl,hl⟩:=ifLen_some.1 h;refine⟨hR hl (by omega),t,?_⟩;rw[enc2 hl,b8_of (c:=a) (by show cv a=_;omega),b8_of (c:=b) (by show cv b=_;omega)];rfl
      . by_cases h4:cv a<240
        . simp only[h1,h2,h3,h4,decide_true,decide_false,cond_true,cond_false]at h
          rcases r with _|⟨b,_|⟨c,t⟩⟩
          . cases h
          . cases h
          . rw[dec3_cons]at h
            cases hb:contC b with
            | false=>simp[hb]at h
            | true =>
             cases hc:contC c with
             | false=>simp[hb,hc]at h
             | true =>
              have hb':=contC_iff.1 hb;have hc':=contC_iff.1 hc;simp only[hb,hc,Bool.and_self,cond_true]at h;obtain⟨rfl,hl⟩:=ifLen_some.1 h;refine⟨hR hl (by omega),t,?_⟩;rw[enc3 hl,b8_of (c:=a) (by show cv a=_;omega),b8_of (c:=b) (by show cv b=_;omega),b8_of (c:=c) (by show cv c=_;omega)];rfl
        . by_cases h5:cv a<245
          . simp only[h1,h2,h3,h4,h5,decide_true,decide_false,cond_true,cond_false]at h
            rcases r with _|⟨b,_|⟨c,_|⟨d,t⟩⟩⟩
            . cases h
            . cases h
            . cases h
            . rw[dec4_cons]at h
              cases hb:contC b with
              | false=>simp[hb]at h
              | true =>
               cases hc:contC c with
               | false=>simp[hb,hc]at h
               | true =>
                cases hd:contC d with
                | false=>simp[hb,hc,hd]at h
                | true =>
                 have hb':=contC_iff.1 hb;have hc':=contC_iff.1 hc;have zy:=contC_iff.1 hd;simp only[hb,hc,hd,Bool.and_self,cond_true]at h;obtain⟨rfl,hl⟩:=ifLen_some.1 h;refine⟨hR hl (by omega),t,?_⟩;rw[enc4 hl,b8_of (c:=a) (by show cv a=_;omega),b8_of (c:=b) (by show cv b=_;omega),b8_of (c:=c) (by show cv c=_;omega),b8_of (c:=d) (by show cv d=_;omega)];rfl
          . simp[h1,h2,h3,h4,h5]at h
theorem dec_enc{v:Int}(hr:rightB v=true)(t:List UInt8):dec (enc v++t)=some v:=by
 have hi:=rightB_iff.1 hr;rcases lenE_cases hr with⟨h,h1,h2⟩|⟨h,h1,h2⟩|⟨h,h1,h2⟩|⟨h,h1,h2⟩
 . rw[enc1 h]
   have e:=b8_cv h1 (by omega:v<256);have g:v<128:=by omega
   simp only[dec_cons,decC,dec2_cons,dec3_cons,dec4_cons,cons_append,nil_append,e,g,decide_true,cond_true]
 . rw[enc2 h]
   have e1:=b8_cv (n:=192+v/64) (by omega) (by omega);have e2:=b8_cv (n:=128+v%64) (by omega) (by omega);have hc:contC (b8 (128+v%64))=true:=contC_iff.2 (by omega);have g1:¬192+v/64<128:=by omega
   have g2:¬192+v/64<194:=by omega
   have g3:192+v/64<224:=by omega
   simp only[dec_cons,decC,dec2_cons,dec3_cons,dec4_cons,cons_append,nil_append,e1,g1,g2,g3,decide_true,decide_false,cond_true,cond_false,hc,e2];exact ifLen_some.2 ⟨by omega,by rw[show (192+v/64-192)*64+(128+v%64-128)=v by omega];exact h⟩
 . rw[enc3 h]
   have e1:=b8_cv (n:=224+v/4096) (by omega) (by omega);have e2:=b8_cv (n:=128+v/64%64) (by omega) (by omega);have e3:=b8_cv (n:=128+v%64) (by omega) (by omega);have hc2:contC (b8 (128+v/64%64))=true:=contC_iff.2 (by omega);have hc3:contC (b8 (128+v%64))=true:=contC_iff.2 (by omega);have g1:¬224+v/4096<128:=by omega
   have g2:¬224+v/4096<194:=by omega
   have g3:¬224+v/4096<224:=by omega
   have g4:224+v/4096<240:=by omega
   simp only[dec_cons,decC,dec2_cons,dec3_cons,dec4_cons,cons_append,nil_append,e1,g1,g2,g3,g4,decide_true,decide_false,cond_true,cond_false,hc2,hc3,Bool.and_self,e2,e3];exact ifLen_some.2 ⟨by omega,by rw[show (224+v/4096-224)*4096+(128+v/64%64-128)*64+(128+v%64-128)=v by omega];exact h⟩
 . rw[enc4 h]
   have e1:=b8_cv (n:=240+v/262144) (by omega) (by omega);have e2:=b8_cv (n:=128+v/4096%64) (by omega) (by omega);have e3:=b8_cv (n:=128+v/64%64) (by omega) (by omega);have e4:=b8_cv (n:=128+v%64) (by omega) (by omega);have hc2:contC (b8 (128+v/4096%64))=true:=contC_iff.2 (by omega);have hc3:contC (b8 (128+v/64%64))=true:=contC_iff.2 (by omega);have hc4:contC (b8 (128+v%64))=true:=contC_iff.2 (by omega);have g1:¬240+v/262144<128:=by omega
   have g2:¬240+v/262144<194:=by omega
   have g3:¬240+v/262144<224:=by omega
   have g4:¬240+v/262144<240:=by omega
   have g5:240+v/262144<245:=by omega
   simp only[dec_cons,decC,dec2_cons,dec3_cons,dec4_cons,cons_append,nil_append,e1,g1,g2,g3,g4,g5,decide_true,decide_false,cond_true,cond_false,hc2,hc3,hc4,Bool.and_self,e2,e3,e4];exact ifLen_some.2 ⟨by omega,by rw[show (240+v/262144-240)*262144+(128+v/4096%64-128)*4096+(128+v/64%64-128)*64+(128+v%64-128)=v by omega];exact h⟩
def runes:Nat->List UInt8->List Int×List UInt8
 | 0,s=>([],s)
 | n+1,s=>match dec s with
  | some v=>(v::(runes n (s.drop (lenE v))).1,(runes n (s.drop (lenE v))).2)
  | none=>([],s)
def rl(s:List UInt8):List Int:=(runes s.length s).1
def rr(s:List UInt8):List UInt8:=(runes s.length s).2
theorem dec_len{s:List UInt8}{v:Int}(h:dec s=some v):1<=lenE v/\lenE v<=s.length:=by
 obtain⟨hr,t,rfl⟩:=dec_at h;have:=lenE_pos hr;rw[length_append,enc_len];omega
theorem runes_more:∀(n m:Nat) (s:List UInt8),s.length<=n->s.length<=m->runes n s=runes m s
 | 0,0,s,_,_=>rfl
 | 0,m+1,s,h,_=>by
  have:s=[]:=List.length_eq_zero_iff.1 (by omega);subst this;rfl
 | n+1,0,s,_,h=>by
  have:s=[]:=List.length_eq_zero_iff.1 (by omega);subst this;rfl
 | n+1,m+1,s,h1,h2=>by
  cases hd:dec s with
  | none=>simp only[runes,hd]
  | some v =>
   have:=dec_len hd;simp only[runes,hd,runes_more n m (s.drop (lenE v)) (by simp;omega) (by simp;omega)]
theorem runes_some{s:List UInt8}{v:Int}(h:dec s=some v):rl s=v::rl (s.drop (lenE v))/\rr s=rr (s.drop (lenE v)):=by
 have hl:=dec_len h;obtain⟨n,hn⟩:∃n,s.length=n+1:=⟨s.length-1,by omega⟩
 have e:=runes_more n (s.drop (lenE v)).length (s.drop (lenE v)) (by simp;omega) (le_refl _);constructor
 . unfold rl;rw[hn];simp only[runes,h,e]
 . unfold rr;rw[hn];simp only[runes,h,e]
theorem runes_none{s:List UInt8}(h:dec s=none):rl s=[]/\rr s=s:=by
 unfold rl rr;cases s.length with
 | zero=>exact⟨rfl,rfl⟩
 | succ n=>simp[runes,h]
theorem runes_cons{v:Int}(hr:rightB v=true)(t:List UInt8):rl (enc v++t)=v::rl t/\rr (enc v++t)=rr t:=by
 have h:=runes_some (dec_enc hr t);rw[<-enc_len,List.drop_left]at h;exact h
theorem runes_of:∀(l:List Int) (r:List UInt8),(∀v∈l,rightB v=true)->dec r=none->rl (l.flatMap enc++r)=l/\rr (l.flatMap enc++r)=r
 | [],r,_,h=>runes_none h
 | v::l,r,hl,h=>by
  have ih:=runes_of l r (λu hu=>hl u (List.mem_cons_of_mem _ hu)) h;have hc:=runes_cons (hl v List.mem_cons_self) (l.flatMap enc++r);rw[flatMap_cons,List.append_assoc];exact⟨by rw[hc.1,ih.1],by rw[hc.2,ih.2]⟩
theorem runes_back:∀(n:Nat) (s:List UInt8),s.length<=n->s=(rl s).flatMap enc++rr s/\(∀v∈rl s,rightB v=true)/\dec (rr s)=none
 | n,s,hn=>by
  cases hd:dec s with
  | none =>
   have h:=runes_none hd;rw[h.1,h.2];exact⟨rfl,(λv hv=>absurd hv (by simp)),hd⟩
  | some v =>
   have hl:=dec_len hd;obtain⟨hr,t,ht⟩:=dec_at hd
   match n with
   | 0=>omega
   | n+1 =>
    have hc:=runes_cons hr t;rw[<-ht]at hc;have ih:=runes_back n t (by rw[ht,length_append,enc_len]at hn;omega);rw[hc.1,hc.2];refine⟨?_,?_,ih.2.2⟩
    . rw[flatMap_cons,List.append_assoc,<-ih.1];exact ht
    . intro u hu
      rcases List.mem_cons.1 hu with rfl|hu
      . exact hr
      . exact ih.2.1 u hu
theorem rl_rr(s:List UInt8):s=(rl s).flatMap enc++rr s:=(runes_back _ s (le_refl _)).1
theorem rl_right(s:List UInt8):∀v∈rl s,rightB v=true:=(runes_back _ s (le_refl _)).2.1
def badAt(s:List UInt8):Int:=if rr s=[]then -1 else((s.length-(rr s).length:Nat):Int)
theorem rr_le(s:List UInt8):(rr s).length<=s.length:=by
 have:=congrArg List.length (rl_rr s);rw[length_append]at this;omega
theorem rl_len(s:List UInt8):(rl s).length<=s.length:=by
 have h:∀l:List Int,(∀v∈l,rightB v=true)->l.length<=(l.flatMap enc).length:=by
  intro l
  induction l with
  | nil=>intro _;simp
  | cons v l ih =>
   intro hl;have:=ih λu hu=>hl u (List.mem_cons_of_mem _ hu);have:=lenE_pos (hl v List.mem_cons_self);rw[flatMap_cons,length_append,enc_len,List.length_cons];omega
 have h1:=h (rl s) (rl_right s);have h2:=congrArg List.length (rl_rr s);rw[length_append]at h2;omega
theorem badAt_neg{s:List UInt8}(h:badAt s<0):rr s=[]:=by
 unfold badAt at h;split at h
 . assumption
 . omega
theorem badAt_nil{s:List UInt8}(h:rr s=[]):badAt s = -1:=by simp[badAt,h]
end Go.Pl
