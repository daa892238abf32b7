/- The texts of the proof, one behind the other: PF1, PS6, PR3, PR4, PF2, PS7, PG1, PG2, PL6, PL7, PQ, PL8, PL9, PM1, PM2, PLT, PG3, PPN, PG4, PG5, PG7, PT0, PMailboxForms, PGlob. -/
import Derived.Test.YtbifjondkjgkmaaGreatDoorAMf7
import Derived.Test.YtbifjondkjgkmaaGreatDoorAMf6
import Derived.Test.YtbifjondkjgkmaaGreatDoorRows
import Derived.Test.YtbifjondkjgkmaaGreatDoorProg
import Derived.Test.YtbifjondkjgkmaaGreatDoorAMf2
import Derived.MakeChecks
open Go.Proofs.Tryz
open Bool (and_eq_true not_eq_true' or_eq_true)
open Int (toNat_natCast)
open List (all_eq_true append_assoc append_nil cons_append find?_some flatMap_append getElem_mem length_append length_cons length_map length_nil mem_append mem_cons mem_cons_of_mem mem_cons_self mem_filter mem_flatMap mem_map mem_range mem_singleton nil_append not_mem_nil take_append_drop take_length take_succ_cons take_zero)
open Nat (add_zero le_refl zero_le)
open Option (map_eq_some_iff)
open Sum (elim_inl)
open UInt8 (ofNat_toNat)
set_option linter.unusedVariables false
set_option linter.unusedSimpArgs false
set_option maxRecDepth 100000
namespace Go.Proofs.YtbifjondkjgkmaaGreatDoorA.W
open Go Go.Ae
open Go.Pl (rl rr rr_le enc enc1 enc2 enc3 enc4 rightB lenE lenE_cases b8 b8_val runes_of rl_rr rl_right badAt badAt_neg dec_nil)
def Nf(B:List R3)(x:Int):Prop:=∀e∈B,¬(e.1<=x/\x<=e.2.1)
def nfB(B:List R3)(x:Int):Bool:=B.all λe => !(decide (e.1<=x)&&decide (x<=e.2.1))
theorem nf_iff{B:List R3}{x:Int}:nfB B x=true↔Nf B x:=by
 unfold nfB Nf;simp only[all_eq_true,not_eq_true',Bool.and_eq_false_iff,decide_eq_false_iff_not];constructor
 . intro h e he ⟨h1,h2⟩
   rcases h e he with h|h
   . exact h h1
   . exact h h2
 . intro h e he
   by_cases h1:e.1<=x
   . exact .inr λh2=>h e he ⟨h1,h2⟩
   . exact .inl h1
structure LN (B:List R3):Prop where
 len:B.length<=1000000000000
 sh:∀e∈B,(0<=e.1/\e.2.1<=1114111 /\ -100000<=e.2.2/\e.2.2<=100000)/\∀e'∈B,e.2.1+e.2.2<e'.1\/e'.2.1<e.1+e.2.2
 up:∀x,65<=x->x<=90->¬Nf B x
 lo:∀x,0<=x->x<128->¬(65<=x/\x<=90)->Nf B x
 hg:∀x,4352<=x->x<=4607->Nf B x
 jm:∀x,44032<=x->x<=55203->Nf B x
 sp:∀s∈splitT,s.2.2.2.1=false->Nf B s.1->Nf B s.2.1/\Nf B s.2.2.1
 pr:∀s∈splitT,s.2.2.2.1=false->s.2.2.2.2=false->Nf B s.2.1->Nf B s.2.2.1->Nf B s.1
def lnB(B:List R3):Bool :=
 decide (B.length<=1000)&&(B.all λe=>(decide (0<=e.1)&&(decide (e.2.1<=1114111)&&(decide (-100000<=e.2.2)&&decide (e.2.2<=100000))))&&B.all λe'=>decide (e.2.1+e.2.2<e'.1)||decide (e'.2.1<e.1+e.2.2)) &&
 ((List.range 128).all λn=>nfB B (n:Int) == !(Nat.ble 65 n&&Nat.ble n 90)) &&
 (B.all λe=>(decide (e.2.1<4352)||decide (4607<e.1))&&(decide (e.2.1<44032)||decide (55203<e.1))) &&
 (splitT.all λs=>s.2.2.2.1||(!nfB B s.1||(nfB B s.2.1&&nfB B s.2.2.1))) &&
 (splitT.all λs=>s.2.2.2.1||(s.2.2.2.2||(!(nfB B s.2.1&&nfB B s.2.2.1)||nfB B s.1)))
theorem ln_ofB{B:List R3}(h:lnB B=true):LN B:=by
 unfold lnB at h;simp only[and_eq_true,decide_eq_true_eq]at h;obtain⟨⟨⟨⟨⟨h1,h2⟩,h3⟩,h4⟩,h5⟩,h6⟩:=h;rw[all_eq_true]at h2 h3 h4 h5 h6;have asc:∀x:Int,0<=x->x<128->nfB B x = !(Nat.ble 65 x.toNat&&Nat.ble x.toNat 90):=by
  intro x h0 h1;have:=h3 x.toNat (mem_range.2 (by omega))
  rw[show ((x.toNat:Nat):Int)=x by omega]at this;exact eq_of_beq this
 refine⟨by omega,λe he => ?_,λx a b => ?_,λx a b c => ?_,λx a b => ?_,λx a b => ?_,λs hs h0 hn => ?_,λs hs h0 h0' hn hn' => ?_⟩
 . have:=h2 e he
   simp only[and_eq_true,decide_eq_true_eq,all_eq_true,or_eq_true]at this;exact⟨⟨this.1.1,this.1.2.1,this.1.2.2.1,this.1.2.2.2⟩,this.2⟩
 . rw[<-nf_iff,asc x (by omega) (by omega)]
   have e1:Nat.ble 65 x.toNat=true:=Nat.ble_eq_true_of_le (by omega);have e2:Nat.ble x.toNat 90=true:=Nat.ble_eq_true_of_le (by omega);rw[e1,e2];decide
 . rw[<-nf_iff,asc x a b]
   cases e1:Nat.ble 65 x.toNat with
   | false=>rfl
   | true =>
    cases e2:Nat.ble x.toNat 90 with
    | false=>rfl
    | true=>exact absurd ⟨by have:=Nat.le_of_ble_eq_true e1;omega,by have:=Nat.le_of_ble_eq_true e2;omega⟩ c
 . intro e he ⟨h7,h8⟩
   have:=h4 e he;simp only[and_eq_true,or_eq_true,decide_eq_true_eq]at this;omega
 . intro e he ⟨h7,h8⟩
   have:=h4 e he;simp only[and_eq_true,or_eq_true,decide_eq_true_eq]at this;omega
 . have:=h5 s hs
   rw[h0,nf_iff.2 hn]at this;simp only[Bool.false_or,Bool.not_true,and_eq_true]at this;exact⟨nf_iff.1 this.1,nf_iff.1 this.2⟩
 . have:=h6 s hs
   rw[h0,h0',nf_iff.2 hn,nf_iff.2 hn']at this;simp only[Bool.false_or,Bool.and_self,Bool.not_true]at this;exact nf_iff.1 this
def lnC:Bool:=match C9 ()with
 | some (_,_,B,_)=>lnB B
 | none=>false
theorem lnC_k:lnC=true:=by kernel_rfl
theorem ln_of{T A B}(h18:C9 ()=some (T,A,B,())):LN B:=by
 have h:=lnC_k;unfold lnC at h;rw[h18]at h;exact ln_ofB h
section
variable {T:List R6} {A:List R4} {B:List R3}
theorem p238(a b c r:Int):Pf (C141 (a,b,c,r,())) (λy=>y=(decide (a<=r/\r<=b),r,())):=by
 unfold C141 F141;dsimp only;with_reducible repeat' (first|exact pN|apply pP|apply pX<;>intro _)
 . rename_i h
   congr 1;exact decide_eq_decide.2 (by omega)
 . rename_i h
   rw[decide_eq_false (by omega)]
theorem p237(r:Int)(hB:B.length<=1000000000000):Pf (C140 (B,r,())) (λy=>(Nf B r/\y=(-1,r,()))\/∃i:Nat,i<B.length/\y=((i:Int),r,())/\(B.getD i (0,(0,0))).1<=r/\r<=(B.getD i (0,(0,0))).2.1):=by
 unfold C140 F140;dsimp only;refine pZ (P:=Sum.elim (λy=>y=(r,())/\Nf B r) (λy=>∃i:Nat,i<B.length/\y=((i:Int),r,())/\(B.getD i (0,(0,0))).1<=r/\r<=(B.getD i (0,(0,0))).2.1)) ?_ ?_
 . refine pL ?I ?h _ ?hv
   case I=>exact(λv=>∃k:Nat,k<=B.length/\v=(B,(B.length:Int),(k:Int),r,())/\∀e∈B.take k,¬(e.1<=r/\r<=e.2.1))
   case hv=>exact⟨0,zero_le _,rfl,λe he=>by simp at he⟩
   rintro _ ⟨k,hk,rfl,hno⟩;unfold F140_l0;dsimp only;simp only[toNat_natCast];refine pX (λhlt => ?_) (λhge => ?_)
   . have hlt':k<B.length:=by omega
     refine pX (λ_ => ?_) (λ_=>pN);refine pZ (p238 _ _ _ _) ?_;rintro _ rfl;dsimp only;rw[wrN k (by omega)];refine pX (λh=>pP ⟨k,hlt',rfl,h⟩) (λh=>pP ⟨k+1,by omega,rfl,λe he => ?_⟩);rw[take_succ_get hlt']at he;rcases mem_append.1 he with he|he
     . exact hno e he
     . rw[mem_singleton.1 he,<-getD_lt (d:=(0,(0,0))) hlt']
       exact h
   . have:k=B.length:=by omega
     subst this;rw[take_length]at hno;exact pP ⟨rfl,hno⟩
 . intro z hz
   refine pS hz ?_ ?_
   . rintro _ ⟨rfl,h⟩
     exact pP (.inl ⟨h,rfl⟩)
   . rintro _ ⟨i,h1,rfl,h2⟩
     exact pP (.inr ⟨i,h1,rfl,h2⟩)
theorem p211(hL:LN B)(r:Int):Pf (C114 (T,A,B,r,())) (λy=>Nf B y.1/\(Nf B r->y.1=r)):=by
 unfold C114 F114;dsimp only;refine pZ (p237 r hL.len) ?_;rintro _ (⟨hn,rfl⟩|⟨i,hi,rfl,h1,h2⟩)
 . exact pX (λ_=>pP ⟨hn,λ_=>rfl⟩) (λh=>by omega)
 . have hm:B.getD i (0,(0,0))∈B:=by rw[getD_lt hi];exact getElem_mem _
   refine pX (λh=>by omega) (λ_ => ?_);refine pX (λ_ => ?_) (λ_=>pN);simp only[toNat_natCast];obtain⟨⟨b1,b2,b3,b4⟩,hs⟩:=hL.sh _ hm;rw[w32s (by omega)];refine pP ⟨λe' he' ⟨h3,h4⟩ => ?_,λhn=>(hn _ hm ⟨h1,h2⟩).elim⟩;have:=hs e' he';dsimp only at h3 h4;omega
theorem n210(hL:LN B)(l:List Int)(hl:l.length<=1000000000000):Pf (C113v1 (l,T,A,B,())) (λy=>(∀x∈y.1,Nf B x)/\((∀x∈l,Nf B x)->y.1=l)):=by
 show Pf (F113v1 C114 C113v1_l0 _) _;unfold F113v1;dsimp only;refine pZ (P:=λy=>(∀x∈y.1,Nf B x)/\((∀x∈l,Nf B x)->y.1=l)) ?_ (λ_ h=>pP h);refine pL ?I ?h _ ?hv
 case I=>exact(λv=>∃(k:Nat) (o:List Int),k<=l.length/\v=(T,A,B,l,(l.length:Int),(k:Int),o,())/\(∀x∈o,Nf B x)/\((∀x∈l,Nf B x)->o=l.take k))
 case hv=>exact⟨0,[],zero_le _,rfl,λx hx=>(by cases hx),λ_=>rfl⟩
 rintro _ ⟨k,o,hk,rfl,h1,h2⟩;unfold F113v1_l0;dsimp only;simp only[toNat_natCast];refine pX (λhlt => ?_) (λhge => ?_)
 . have hlt':k<l.length:=by omega
   refine pX (λ_ => ?_) (λ_=>pN);refine pZ (p211 hL _) ?_;rintro⟨m,u⟩ ⟨h3,h4⟩;dsimp only at h3 h4 ⊢;rw[wrN k (by omega)];refine pX (λ_=>pP ⟨k+1,o++[m],by omega,rfl,λx hx => ?_,λhall => ?_⟩) (λ_=>pN)
   . rcases mem_append.1 hx with hx|hx
     . exact h1 x hx
     . rw[mem_singleton.1 hx];exact h3
   . rw[h2 hall,take_succ_get hlt',h4 (by rw[getD_lt hlt'];exact hall _ (getElem_mem _)),getD_lt hlt']
 . have:k=l.length:=by omega
   subst this;rw[take_length]at h2;exact pP ⟨h1,h2⟩
theorem p300x(a b c:Int)(hb:0<=b/\b<=1000000)(hc:0<=c/\c<=1000000):Pf (C225 (a,b,c,())) (λy=>y.1=true->b<=a/\a<b+c):=by
 show Pf (F225 _) _;unfold F225;dsimp only;rw[w32s (n:=c) (by omega),w32s (n:=b+c) (by omega)];with_reducible repeat' (first|exact pN|apply pP|apply pX<;>intro _)
 . exact λh=>⟨by omega,by simpa using h⟩
 . exact λh=>by cases h
variable {D:List R3}
theorem n301(hL:LN D)(a:Int)(ha:44032<=a/\a<55204):Pf (C226 (a,())) (λy=>∀x∈y.1,Nf D x):=by
 unfold C226 F226;dsimp only;have w1:=w32s (n:=a-44032) (by omega);simp only[w1,Int.tmod_eq_emod_of_nonneg (show 0<=a-44032 by omega),Int.tdiv_eq_ediv_of_nonneg (show 0<=a-44032 by omega)];have w2:=w32s (n:=(a-44032)/588) (by omega);have w3:=w32s (n:=(a-44032)/28) (by omega);have q:0<=(a-44032)/28:=by omega
 simp only[w2,w3,Int.tmod_eq_emod_of_nonneg q];have w4:=w32s (n:=4352+(a-44032)/588) (by omega);have w5:=w32s (n:=4449+(a-44032)/28%21) (by omega);have w6:=w32s (n:=4519+(a-44032)%28) (by omega);rw[w4,w5,w6];have k1:=hL.hg (4352+(a-44032)/588) (by omega) (by omega);have k2:=hL.hg (4449+(a-44032)/28%21) (by omega) (by omega);have k3:=hL.hg (4519+(a-44032)%28) (by omega) (by omega);with_reducible repeat' (first|exact pN|apply pP|apply pX<;>intro _)
 . intro x hx
   simp only[mem_append,mem_cons,not_mem_nil,or_false]at hx;rcases hx with (rfl|rfl)|rfl
   . exact k1
   . exact k2
   . exact k3
 . intro x hx
   simp only[mem_cons,not_mem_nil,or_false]at hx;rcases hx with rfl|rfl
   . exact k1
   . exact k2
theorem n302(a b:List Int)(Q:Int->Prop)(ha:∀x∈a,Q x)(hb:∀x∈b,Q x):Pf (C227 ([a,b],())) (λy=>∀x∈y.1,Q x):=by
 unfold C227 F227;dsimp only;refine pZ (P:=λy=>y.1=[a,b]) ?_ ?_
 . refine pL ?I ?h _ ?hv
   case I=>exact(λv=>v.1=[a,b])
   case hv=>exact rfl
   rintro⟨x0,x1,x2,x3,x4,u⟩ h;dsimp only at h;subst h;unfold F227_l0;dsimp only;with_reducible repeat' (first|exact pN|apply pP|apply pX<;>intro _)
   . exact(rfl:([a,b]:List (List Int))=[a,b])
   . rfl
 rintro⟨ls,n,u⟩ h;dsimp only at h ⊢;subst h;refine pZ (P:=λy=>y.1=[]) ?_ ?_
 . unfold C244
   dsimp only;with_reducible repeat' (first|exact pN|apply pP|apply pX<;>intro _)
   rfl
 rintro⟨o,u⟩ h;dsimp only at h ⊢;subst h;refine pZ (P:=λy=>∀x∈y.1,Q x) ?_ (λ_ h=>pP h);refine pL ?I ?h _ ?hv
 case I=>exact(λv=>v.1=[a,b]/\∀x∈v.2.2.2.1,Q x)
 case hv=>exact⟨rfl,λx hx=>by cases hx⟩
 rintro⟨x0,x1,x2,x3,u⟩ ⟨h,h3⟩;dsimp only at h h3;subst h;unfold F227_l1;dsimp only;with_reducible repeat' (first|exact pN|apply pP|apply pX<;>intro _)
 . rename_i h1 h2 _
   refine⟨rfl,λx hx => ?_⟩;rcases mem_append.1 hx with hx|hx
   . exact h3 x hx
   . have:x2.toNat=0\/x2.toNat=1:=by simp only[length_cons,length_nil]at h2;omega
     rcases this with e|e
     . rw[e]at hx;exact ha x hx
     . rw[e]at hx;exact hb x hx
 . exact h3
theorem n279(hL:LN D)(r:Int)(hr:Nf D r):Pf (C178 (T,A,B,r,false,())) (λy=>∀x∈y.1,Nf D x):=by
 have key:Pf (recN (λG=>F178 C119 G C225 C226 C227 (F178_c0 C119 G C225 C226 C227)) big (T,A,B,r,false,())) ((λ(v:List R6×List R4×List R3×Int×Bool×Unit) (y:List Int×Unit)=>v.2.2.1=B->v.2.2.2.2.1=false->Nf D v.2.2.2.1->∀x∈y.1,Nf D x) (T,A,B,r,false,())):=by
  refine pRn (P:=λ(v:List R6×List R4×List R3×Int×Bool×Unit) (y:List Int×Unit)=>v.2.2.1=B->v.2.2.2.2.1=false->Nf D v.2.2.2.1->∀x∈y.1,Nf D x) ?_ big _;rintro G hG ⟨T,A,B',r,sf,u⟩;by_cases hB:B'=B
  . by_cases hsf:sf=false
    . by_cases hN:Nf D r
      . subst hB hsf
        suffices hs:Pf (F178 C119 G C225 C226 C227 (F178_c0 C119 G C225 C226 C227) (T,A,B',r,false,())) (λy=>∀x∈y.1,Nf D x) from pM hs λy h _ _ _=>h
        unfold F178;dsimp only;refine pZ (P:=λv=>v.2.2.2.2.2.1=true->v.2.2.2.1=false->Nf D v.2.1/\Nf D v.2.2.1) ?_ ?_
        . unfold C119
          dsimp only;refine pX (λ_=>pP λ_ h=>by cases h) (λ_ => ?_);cases hd:splitD r with
          | none=>exact pP λh=>by cases h
          | some s =>
           refine pP λ_ h => ?_;unfold splitD at hd;have h1:=List.mem_of_find?_eq_some hd;have h2:=find?_some hd;have h3:r=s.1:=by simpa using h2
           exact hL.sp s h1 h (h3▸hN)
        rintro⟨s0,s1,s2,s3,s4,s5,u⟩ hs;dsimp only at hs ⊢;refine pZ (p300x _ _ _ (by omega) (by omega)) ?_;rintro⟨hgl,u⟩ hh;dsimp only at hh ⊢;refine pX (λh=>pZ (n301 hL r (hh h)) λ_ h=>pP h) (λ_ => ?_);have self:∀x∈[r],Nf D x:=λx hx=>by rw[mem_singleton.1 hx];exact hN
        refine pX (λ_ => ?_) (λh5 => ?_)
        . unfold F178_c0
          dsimp only;simp only[cond_true,Option.bind_some,elim_inl];exact pP self
        refine pX (λ_ => ?_) (λh3 => ?_)
        . unfold F178_c0
          dsimp only;simp only[Bool.not_false,cond_true,Option.bind_some,elim_inl];exact pP self
        have h5':s5=true:=by simpa using h5
        have h3':s3=false:=by simpa using h3
        obtain⟨k1,k2⟩:=hs h5' h3';refine pZ (P:=Sum.elim (λy=>∀x∈y.1,Nf D x) (λy=>y=(false,T,A,B',s0,s1,s2,s3,s4,()))) ?_ ?_
        . unfold F178_c0
          dsimp only;simp only[cond_false];refine pX (λ_=>pZ (hG (T,A,B',s1,false,())) λy h=>pP (h rfl rfl k1)) (λ_=>pP rfl)
        . intro z hz
          refine pS hz (λy h=>pP h) ?_;rintro _ rfl;dsimp only;refine pZ (hG (T,A,B',s1,false,())) λy1 g1 => ?_;refine pZ (hG (T,A,B',s2,false,())) λy2 g2 => ?_;exact pZ (n302 _ _ _ (g1 rfl rfl k1) (g2 rfl rfl k2)) λ_ h=>pP h
      . exact pM pT λ_ _ _ _ h=>absurd h hN
    . exact pM pT λ_ _ _ h=>absurd h hsf
  . exact pM pT λ_ _ h=>absurd h hB
 intro y e;exact key y e rfl rfl hr
theorem n240(hL:LN D)(l:List Int)(hl:l.length<=100000000000)(h:∀x∈l,Nf D x):Pf (C143 (T,A,B,l,false,())) (λy=>∀x∈y.1,Nf D x):=by
 unfold C143 F143;dsimp only;refine pZ (P:=λy=>∀x∈y.1,Nf D x) ?_ (λ_ h=>pP h);refine pL ?I ?h _ ?hv
 case I=>exact(λv=>∃(k:Int) (o:List Int),0<=k/\v=(false,l,(l.length:Int),k,T,A,B,o,())/\∀x∈o,Nf D x)
 case hv=>exact⟨0,[],Int.le_refl _,rfl,λx hx=>by cases hx⟩
 rintro _ ⟨k,o,h0,rfl,ho⟩;unfold F143_l0;dsimp only;with_reducible repeat' (first|exact pN|apply pP|apply pX<;>intro _)
 . rename_i h1 h2
   have hm:l.getD k.toNat 0∈l:=by rw[getD_lt (by omega)];exact getElem_mem _
   refine pZ (n279 hL _ (h _ hm)) ?_;rintro⟨m,u⟩ hy;dsimp only at hy ⊢;rw[w64s (n:=k+1) (by omega)];with_reducible repeat' (first|exact pN|apply pP|apply pX<;>intro _)
   refine⟨_,_,by omega,rfl,λx hx => ?_⟩;rcases mem_append.1 hx with hx|hx
   . exact ho x hx
   . exact hy x hx
 . exact ho
theorem n239(hL:LN D)(l:List Int)(hl:l.length<=35184372088832)(h:∀x∈l,Nf D x):Pf (C142 (T,A,B,l,())) (λy=>∀x∈y.1,Nf D x):=by
 unfold C142 F142;dsimp only;refine pZ (P:=λy=>y.1=l) ?_ ?_
 . unfold C174
   dsimp only;with_reducible repeat' (first|exact pN|apply pP|apply pX<;>intro _)
   rfl
 rintro⟨l',u⟩ hl';dsimp only at hl' ⊢;subst hl';refine pZ (P:=λy=>∀x∈y.1,Nf D x) ?_ (λ_ h=>pP h);refine pL ?I ?h _ ?hv
 case I=>exact(λv=>∃(f k:Int) (r':List Int),v=(f,k,T,A,B,r',())/\∀x∈r',Nf D x)
 case hv=>exact⟨0,0,l',rfl,h⟩
 rintro _ ⟨f,k,r',rfl,hr'⟩;unfold F142_l0;dsimp only;have fin:Pf ((C142_c0 (f,k,T,A,B,r',())).bind λval=>some (Sum.inl (val.fst,IntKind.i64.wrap (val.snd.fst+1),val.snd.snd.fst,val.snd.snd.snd.fst,val.snd.snd.snd.snd.fst,val.snd.snd.snd.snd.snd.fst,())))
  (Sum.elim (λv':Int×Int×List R6×List R4×List R3×List Int×Unit=>∃(f k:Int) (r':List Int),v'=(f,k,T,A,B,r',())/\∀x∈r',Nf D x) (λy:List Int×Unit=>∀x∈y.1,Nf D x)):=by
  refine pZ (p239_0 f k r') ?_;rintro y ⟨r2,h7,h8,rfl⟩;exact pP ⟨_,_,r2,rfl,λx hx=>(h8.2.2 x hx).elim (λe=>by rw[e];exact hL.lo 0 (by omega) (by omega) (by omega)) (hr' x)⟩
 with_reducible repeat' (first|exact pN|apply pP|apply pX<;>intro _)
 . refine pZ pT ?_
   rintro⟨c,u⟩ -
   dsimp only;with_reducible repeat' (first|exact pN|apply pP|apply pX<;>intro _)
   . exact⟨_,_,r',rfl,hr'⟩
   . exact fin
 . exact fin
 . exact hr'
theorem n303(hL:LN D)(a b:Int)(ha:Nf D a)(hb:Nf D b):Pf (C228 (T,A,B,a,b,())) (λy=>y.2.1=true->Nf D y.1/\128<=b):=by
 unfold C228;dsimp only;cases hp:pairD a b with
 | none=>exact pP λh=>by cases h
 | some s =>
  refine pP λ_ => ?_;unfold pairD at hp;have h1:=mem_filter.1 (List.mem_of_find?_eq_some hp);have h2:=find?_some hp;simp only[and_eq_true,beq_iff_eq,not_eq_true']at h1 h2;have h3:(splitT.all λs=>s.2.2.2.1||(s.2.2.2.2||decide (128<=s.2.2.1)))=true:=by kernel_rfl
  have h4:=all_eq_true.1 h3 s h1.1;rw[h1.2.1,h1.2.2]at h4;exact⟨hL.pr s h1.1 h1.2.1 h1.2.2 (h2.1▸ha) (h2.2▸hb),by rw[h2.2];simpa using h4⟩
theorem n280_0(hL:LN D)(a b:Int)(f:Bool)(hf:f=true->(4352<=a/\a<4371)/\(4449<=b/\b<4470)):Pf (C179_c0 (a,b,f,T,A,B,())) (Sum.elim (λy=>y.2.1=true->Nf D y.1/\128<=b) (λy=>y=(a,b,T,A,B,()))):=by
 show Pf (F179_c0 C225 C228 _) _;unfold F179_c0;dsimp only;refine pX (λh => ?_) (λ_ => ?_)
 . obtain⟨h1,h2⟩:=hf h
   refine pP λ_ => ?_;have w1:=w32s (n:=a-4352) (by omega);have w2:=w32s (n:=(a-4352)*21) (by omega);have w3:=w32s (n:=(a-4352)*21+b) (by omega);have w4:=w32s (n:=(a-4352)*21+b-4449) (by omega);have w5:=w32s (n:=((a-4352)*21+b-4449)*28) (by omega);have w6:=w32s (n:=44032+((a-4352)*21+b-4449)*28) (by omega);dsimp only;rw[w1,w2,w3,w4,w5,w6];exact⟨hL.jm _ (by omega) (by omega),by omega⟩
 refine pZ (p300x _ _ _ (by omega) (by omega)) ?_;rintro⟨z,u⟩ hz;dsimp only at hz ⊢;refine pX (λh1 => ?_) (λ_=>pP rfl);have h3:=hz h1;rw[w32s (n:=a-44032) (by omega),Int.tmod_eq_emod_of_nonneg (by omega)];refine pX (λh2 => ?_) (λ_=>pP rfl);refine pZ (p300x _ _ _ (by omega) (by omega)) ?_;rintro⟨z,u⟩ hz';dsimp only at hz' ⊢;refine pX (λh4 => ?_) (λ_=>pP rfl);have h5:=hz' h4;have h2':(a-44032)%28=0:=by simpa using h2
 refine pP λ_ => ?_;dsimp only;rw[w32s (n:=a+b) (by omega),w32s (n:=a+b-4519) (by omega)];exact⟨hL.jm _ (by omega) (by omega),by omega⟩
theorem n280(hL:LN D)(a b:Int)(ha:Nf D a)(hb:Nf D b):Pf (C179 (T,A,B,a,b,())) (λy=>y.2.1=true->Nf D y.1/\128<=b):=by
 show Pf (F179 C225 C228 C179_c0 _) _;unfold F179;dsimp only;have fin:∀f,(f=true->(4352<=a/\a<4371)/\(4449<=b/\b<4470))->Pf ((C179_c0 (a,b,f,T,A,B,())).bind λval=>Sum.elim (λval=>some (val.fst,val.snd.fst,())) (λval=>(C228 (val.snd.snd.fst,val.snd.snd.snd.fst,val.snd.snd.snd.snd.fst,val.fst,val.snd.fst,())).bind λval=>some (val.fst,val.snd.fst,())) val) (λy=>y.2.1=true->Nf D y.1/\128<=b):=by
  intro f hf;refine pZ (n280_0 hL a b f hf) ?_;intro z hz;refine pS hz (λy h=>pP h) ?_;rintro y rfl;exact pZ (n303 hL a b ha hb) λy h=>pP h
 refine pZ (p300x _ _ _ (by omega) (by omega)) ?_;rintro⟨z,u⟩ hz;dsimp only at hz ⊢;refine pX (λh1 => ?_) (λ_=>fin _ λh=>by cases h);have h2:=hz h1;refine pZ (p300x _ _ _ (by omega) (by omega)) ?_;rintro⟨z,u⟩ hz';dsimp only at hz' ⊢;exact fin _ λh=>⟨by omega,by have:=hz' h;omega⟩
theorem n241_0(hL:LN D)(x0 x1 x2 x3:Int)(x4:List Int)(x5 x6:Int)(x7:Bool)(x11:List Int)(h11:∀x∈x11,Nf D x)(h2:Nf D x2) :
 Pf (C144_c0 (x0,x1,x2,x3,x4,x5,x6,x7,T,A,B,x11,())) (Sum.elim (λy=>128<=x2/\∃o:List Int,(∀x∈o,Nf D x)/\y=(x0,x1,x4,x5,x6,T,A,B,o,())) (λy=>y=(x0,x1,x2,x3,x4,x5,x6,T,A,B,x11,()))):=by
 show Pf (F144_c0 C175 C179 _) _;unfold F144_c0;dsimp only;refine pX (λ_ => ?_) (λ_=>pP rfl);refine pX (λhc => ?_) (λ_=>pN);have hm:x11.getD x0.toNat 0∈x11:=by rw[getD_lt (by omega)];exact getElem_mem _
 refine pZ (n280 hL _ _ (h11 _ hm) h2) ?_;rintro⟨a,b,u⟩ hab;dsimp only at hab ⊢;refine pX (λh1 => ?_) (λ_=>pP rfl);refine pX (λ_ => ?_) (λ_=>pN);refine pP ⟨(hab h1).2,_,λx hx => ?_,rfl⟩;rcases List.mem_or_eq_of_mem_set hx with hx|rfl
 . exact h11 x hx
 . exact(hab h1).1
theorem n241(hL:LN D)(l:List Int)(hl:l.length<=10000000000000)(h:∀x∈l,Nf D x):Pf (C144 (T,A,B,l,())) (λy=>(∀x∈y.1,Nf D x)/\((∀x∈l,x<128)->y.1=l)):=by
 show Pf (F144 C175 C179 C144_l0 _) _;unfold F144;dsimp only;refine pZ (P:=λy=>(∀x∈y.1,Nf D x)/\((∀x∈l,x<128)->y.1=l)) ?_ (λ_ h=>pP h);refine pL ?I ?h _ ?hv
 case I=>exact(λv=>∃(st la:Int) (k:Nat) (o:List Int),k<=l.length/\(∀x∈o,Nf D x)/\((∀x∈l,x<128)->o=l.take k)/\v=(st,la,l,(l.length:Int),(k:Int),T,A,B,o,()))
 case hv=>exact⟨-1,0,0,[],zero_le _,λx hx=>(by cases hx),λ_=>rfl,rfl⟩
 rintro v ⟨st,la,k,o,hk,ho,hx,rfl⟩;have fin:∀(cl:Int) (f:Bool),k<l.length->Pf ((C144_c0 (st,la,l.getD k 0,cl,l,(l.length:Int),(k:Int),f,T,A,B,o,())).bind λval =>
  Sum.elim (λval=>some (Sum.inl (val.fst,val.snd.fst,val.snd.snd.fst,val.snd.snd.snd.fst,IntKind.i64.wrap (val.snd.snd.snd.snd.fst+1),val.snd.snd.snd.snd.snd.fst,val.snd.snd.snd.snd.snd.snd.fst,val.snd.snd.snd.snd.snd.snd.snd.fst,val.snd.snd.snd.snd.snd.snd.snd.snd.fst,())))
   (λval=>bif decide (List.length val.snd.snd.snd.snd.snd.snd.snd.snd.snd.snd.fst+[val.snd.snd.fst].length<=140737488355328/4)then
    bif val.snd.snd.snd.fst==0 then some (Sum.inl (IntKind.i64.wrap ((↑(val.snd.snd.snd.snd.snd.snd.snd.snd.snd.snd.fst++[val.snd.snd.fst]).length:Int)-1),0,val.snd.snd.snd.snd.fst,val.snd.snd.snd.snd.snd.fst,IntKind.i64.wrap (val.snd.snd.snd.snd.snd.snd.fst+1),val.snd.snd.snd.snd.snd.snd.snd.fst,val.snd.snd.snd.snd.snd.snd.snd.snd.fst,val.snd.snd.snd.snd.snd.snd.snd.snd.snd.fst,val.snd.snd.snd.snd.snd.snd.snd.snd.snd.snd.fst++[val.snd.snd.fst],()))
    else some (Sum.inl (val.fst,if val.snd.snd.snd.fst>val.snd.fst then val.snd.snd.snd.fst else val.snd.fst,val.snd.snd.snd.snd.fst,val.snd.snd.snd.snd.snd.fst,IntKind.i64.wrap (val.snd.snd.snd.snd.snd.snd.fst+1),val.snd.snd.snd.snd.snd.snd.snd.fst,val.snd.snd.snd.snd.snd.snd.snd.snd.fst,val.snd.snd.snd.snd.snd.snd.snd.snd.snd.fst,val.snd.snd.snd.snd.snd.snd.snd.snd.snd.snd.fst++[val.snd.snd.fst],()))
    else none) val)
  (Sum.elim (λv':Int×Int×List Int×Int×Int×List R6×List R4×List R3×List Int×Unit=>∃(st la:Int) (k:Nat) (o:List Int),k<=l.length/\(∀x∈o,Nf D x)/\((∀x∈l,x<128)->o=l.take k)/\v'=(st,la,l,(l.length:Int),(k:Int),T,A,B,o,())) (λy:List Int×Unit=>(∀x∈y.1,Nf D x)/\((∀x∈l,x<128)->y.1=l))):=by
  intro cl f hlt;have hm:l.getD k 0∈l:=by rw[getD_lt hlt];exact getElem_mem _
  refine pZ (n241_0 hL _ _ _ _ _ _ _ _ o ho (h _ hm)) ?_;intro z hz;refine pS hz ?_ ?_
  . rintro y ⟨h3,o',h4,rfl⟩
    dsimp only;rw[wrN k (by omega)];exact pP ⟨_,_,k+1,o',by omega,h4,λha=>by have:=ha _ hm;omega,rfl⟩
  . rintro y rfl
    dsimp only;rw[wrN k (by omega)];have ho':∀x∈o++[l.getD k 0],Nf D x:=λx hx=>(mem_append.1 hx).elim (ho x) λhx=>by rw[mem_singleton.1 hx];exact h _ hm
    have hx':(∀x∈l,x<128)->o++[l.getD k 0]=l.take (k+1):=λha=>by rw[hx ha,take_succ_get hlt,getD_lt hlt]
    with_reducible repeat' (first|exact pN|apply pP|apply pX<;>intro _)
    . exact⟨_,_,k+1,_,by omega,ho',hx',rfl⟩
    . exact⟨_,_,k+1,_,by omega,ho',hx',rfl⟩
 unfold F144_l0;dsimp only;simp only[toNat_natCast];with_reducible repeat' (first|exact pN|apply pP|apply pX<;>intro _)
 . rename_i h4 h5
   refine pZ pT ?_;rintro⟨cl,u⟩ -
   dsimp only;with_reducible repeat' (first|exact pN|apply pP|apply pX<;>intro _)
   all_goals exact fin _ _ (by omega)
 . have:k=l.length:=by omega
   subst this;rw[take_length]at hx;exact⟨ho,hx⟩
end
def syl(r:Int):List Int:=if(r-44032)%28>0 then [4352+(r-44032)/588,4449+(r-44032)/28%21,4519+(r-44032)%28]else [4352+(r-44032)/588,4449+(r-44032)/28%21]
def oneF:Nat->Int->List Int
 | 0,r=>[r]
 | n+1,r=>if 44032<=r/\r<55204 then syl r else if 65281<=r/\r<=65374 then [r]else match splitD r with
  | none=>[r]
  | some s=>if s.2.2.2.1=true then [r]else if s.2.2.1=0 then oneF n s.2.1 else oneF n s.2.1++oneF n s.2.2.1
def on1(r:Int):List Int:=oneF 5 r
def spB:Bool:=splitT.all λs=>decide ((splitD s.1)=some s)&&(decide (¬(44032<=s.1/\s.1<55204))&&(decide (¬(65281<=s.1/\s.1<=65374))&&(decide (¬(4352<=s.1/\s.1<4608)) &&
 (s.2.2.2.1||(decide (oneF 5 s.1=if s.2.2.1=0 then oneF 5 s.2.1 else oneF 5 s.2.1++oneF 5 s.2.2.1)&&((oneF 5 s.1).all (λe=>decide (oneF 5 e=[e]))&&(s.2.2.2.2||decide (oneF 5 s.1=oneF 5 s.2.1++oneF 5 s.2.2.1))))))))
theorem spB_k:spB=true:=by kernel_rfl
structure SpF (s:Int×Int×Int×Bool×Bool):Prop where
 own:splitD s.1=some s
 han:¬(44032<=s.1/\s.1<55204)
 wid:¬(65281<=s.1/\s.1<=65374)
 jam:¬(4352<=s.1/\s.1<4608)
 eq:s.2.2.2.1=false->on1 s.1=if s.2.2.1=0 then on1 s.2.1 else on1 s.2.1++on1 s.2.2.1
 irr:s.2.2.2.1=false->∀e∈on1 s.1,on1 e=[e]
 pair:s.2.2.2.1=false->s.2.2.2.2=false->on1 s.1=on1 s.2.1++on1 s.2.2.1
theorem spF{s:Int×Int×Int×Bool×Bool}(hs:s∈splitT):SpF s:=by
 have h:=all_eq_true.1 spB_k s hs;simp only[and_eq_true,decide_eq_true_eq]at h;obtain⟨h1,h2,h3,h4,h5⟩:=h;refine⟨h1,h2,h3,h4,λe => ?_,λe => ?_,λe e' => ?_⟩
 . rw[e,Bool.false_or]at h5
   simp only[and_eq_true,decide_eq_true_eq]at h5;exact h5.1
 . rw[e,Bool.false_or]at h5
   simp only[and_eq_true,decide_eq_true_eq,all_eq_true]at h5;exact h5.2.1
 . rw[e,Bool.false_or]at h5
   simp only[and_eq_true,decide_eq_true_eq]at h5;have:=h5.2.2;rw[e',Bool.false_or,decide_eq_true_eq]at this;exact this
theorem splitD_mem{r:Int}{s:Int×Int×Int×Bool×Bool}(h:splitD r=some s):s∈splitT/\r=s.1:=by
 unfold splitD at h;have h1:=List.mem_of_find?_eq_some h;have h2:=find?_some h;exact⟨h1,by simpa using h2⟩
theorem on1_han{r:Int}(h:44032<=r/\r<55204):on1 r=syl r:=by
 unfold on1 oneF;rw[if_pos h]
theorem on1_wid{r:Int}(h:65281<=r/\r<=65374):on1 r=[r]:=by
 unfold on1 oneF;rw[if_neg (by omega),if_pos h]
theorem on1_none{r:Int}(h:¬(44032<=r/\r<55204))(hd:splitD r=none):on1 r=[r]:=by
 unfold on1 oneF;rw[if_neg h,hd];split<;>rfl
theorem on1_soft{r:Int}(h:¬(44032<=r/\r<55204)){s:Int×Int×Int×Bool×Bool}(hd:splitD r=some s)(hs:s.2.2.2.1=true):on1 r=[r]:=by
 unfold on1 oneF;rw[if_neg h,hd];dsimp only;rw[if_pos hs];split<;>rfl
theorem on1_jam{r:Int}(h:4352<=r/\r<4608):on1 r=[r]:=by
 refine on1_none (by omega) ?_;cases hd:splitD r with
 | none=>rfl
 | some s =>
  obtain⟨h1,h2⟩:=splitD_mem hd;have:=(spF h1).jam;omega
theorem on1_irr(r:Int):∀e∈on1 r,on1 e=[e]:=by
 by_cases hh:44032<=r/\r<55204
 . rw[on1_han hh]
   intro e he;unfold syl at he;refine on1_jam ?_;split at he
   . simp only[mem_cons,not_mem_nil,or_false]at he
     omega
   . simp only[mem_cons,not_mem_nil,or_false]at he
     omega
 . have self:on1 r=[r]->∀e∈on1 r,on1 e=[e]:=λh e he=>by
    rw[h]at he;rw[mem_singleton.1 he];exact h
   by_cases hw:65281<=r/\r<=65374
   . exact self (on1_wid hw)
   . cases hd:splitD r with
     | none=>exact self (on1_none hh hd)
     | some s =>
      obtain⟨h1,h2⟩:=splitD_mem hd;cases hs:s.2.2.2.1 with
      | true=>exact self (on1_soft hh hd hs)
      | false=>rw[h2];exact(spF h1).irr hs
section
variable {T:List R6} {A:List R4} {B:List R3}
theorem m301(a:Int)(ha:44032<=a/\a<55204):Pf (C226 (a,())) (λy=>y.1=syl a):=by
 unfold C226 F226;dsimp only;have w1:=w32s (n:=a-44032) (by omega);simp only[w1,Int.tmod_eq_emod_of_nonneg (show 0<=a-44032 by omega),Int.tdiv_eq_ediv_of_nonneg (show 0<=a-44032 by omega)];have w2:=w32s (n:=(a-44032)/588) (by omega);have w3:=w32s (n:=(a-44032)/28) (by omega);have q:0<=(a-44032)/28:=by omega
 simp only[w2,w3,Int.tmod_eq_emod_of_nonneg q];have w4:=w32s (n:=4352+(a-44032)/588) (by omega);have w5:=w32s (n:=4449+(a-44032)/28%21) (by omega);have w6:=w32s (n:=4519+(a-44032)%28) (by omega);rw[w4,w5,w6];refine pX (λh=>pP ?_) (λh=>pP ?_)
 . unfold syl;rw[if_pos h];rfl
 . unfold syl;rw[if_neg h]
theorem m302(a b:List Int):Pf (C227 ([a,b],())) (λy=>y.1=a++b):=by
 unfold C227 F227;dsimp only;refine pZ (P:=λy=>y.1=[a,b]) ?_ ?_
 . refine pL ?I ?h _ ?hv
   case I=>exact(λv=>v.1=[a,b])
   case hv=>exact rfl
   rintro⟨x0,x1,x2,x3,x4,u⟩ h;dsimp only at h;subst h;unfold F227_l0;dsimp only;with_reducible repeat' (first|exact pN|apply pP|apply pX<;>intro _)
   . exact(rfl:([a,b]:List (List Int))=[a,b])
   . rfl
 rintro⟨ls,n,u⟩ h;dsimp only at h ⊢;subst h;refine pZ (P:=λy=>y.1=[]) ?_ ?_
 . unfold C244
   dsimp only;with_reducible repeat' (first|exact pN|apply pP|apply pX<;>intro _)
   rfl
 rintro⟨o,u⟩ h;dsimp only at h ⊢;subst h;refine pZ (P:=λy=>y.1=a++b) ?_ (λ_ h=>pP h);refine pL ?I ?h _ ?hv
 case I=>exact(λv=>∃k:Nat,k<=2/\v=([a,b],2,(k:Int),(([a,b]:List (List Int)).take k).flatten,()))
 case hv=>exact⟨0,by omega,rfl⟩
 rintro _ ⟨k,hk,rfl⟩;unfold F227_l1;dsimp only;refine pX (λh1 => ?_) (λh1 => ?_)
 . refine pX (λ_ => ?_) (λ_=>pN)
   refine pX (λ_ => ?_) (λ_=>pN);rw[wrN k (by omega)];refine pP ⟨k+1,by omega,?_⟩;have:k=0\/k=1:=by omega
   rcases this with rfl|rfl<;>simp
 . have:k=2:=by omega
   subst this;exact pP (by simp)
theorem m279(r:Int):Pf (C178 (T,A,B,r,false,())) (λy=>y.1=on1 r):=by
 have key:Pf (recN (λG=>F178 C119 G C225 C226 C227 (F178_c0 C119 G C225 C226 C227)) big (T,A,B,r,false,())) ((λ(v:List R6×List R4×List R3×Int×Bool×Unit) (y:List Int×Unit)=>v.2.2.2.2.1=false->y.1=on1 v.2.2.2.1) (T,A,B,r,false,())):=by
  refine pRn (P:=λ(v:List R6×List R4×List R3×Int×Bool×Unit) (y:List Int×Unit)=>v.2.2.2.2.1=false->y.1=on1 v.2.2.2.1) ?_ big _;rintro G hG ⟨T,A,B',r,sf,u⟩;by_cases hsf:sf=false
  . subst hsf
    suffices hs:Pf (F178 C119 G C225 C226 C227 (F178_c0 C119 G C225 C226 C227) (T,A,B',r,false,())) (λy=>y.1=on1 r) from pM hs λy h _=>h
    unfold F178;dsimp only;refine pZ (P:=λv=>(v.2.2.2.2.2.1=true->v.2.2.2.1=false->¬(65281<=r/\r<=65374)/\∃s,splitD r=some s/\s.2.2.2.1=false/\v.2.1=s.2.1/\v.2.2.1=s.2.2.1)/\((v.2.2.2.2.2.1=false\/v.2.2.2.1=true)->¬(44032<=r/\r<55204)->on1 r=[r])) ?_ ?_
    . unfold C119
      dsimp only;refine pX (λhw=>pP ⟨λ_ h=>(by cases h),λ_ _=>on1_wid hw⟩) (λhw => ?_);cases hd:splitD r with
      | none=>exact pP ⟨λh=>(by cases h),λ_ hh=>on1_none hh hd⟩
      | some s=>exact pP ⟨λ_ h=>⟨hw,s,rfl,h,rfl,rfl⟩,λh hh=>by
       rcases h with h|h
       . cases h
       . exact on1_soft hh hd h⟩
    rintro⟨s0,s1,s2,s3,s4,s5,u⟩ ⟨hs,hn⟩;dsimp only at hs hn ⊢;refine pZ (P:=λy=>y.1=(decide (44032<=r)&&decide (r<55204))) ?_ ?_
    . show Pf (F225 _) _
      unfold F225;dsimp only;rw[w32s (n:=11172) (by omega),w32s (n:=44032+11172) (by omega)];refine pX (λh=>pP ?_) (λh=>pP ?_)
      . rw[decide_eq_true (show (44032:Int)<=r from h)];rfl
      . rw[decide_eq_false (show ¬(44032:Int)<=r from h)];rfl
    rintro⟨hgl,u⟩ hh;dsimp only at hh ⊢;subst hh;refine pX (λh=>pZ (m301 r h) λ_ h'=>pP (by rw[h',on1_han h])) (λhh => ?_);refine pX (λh5 => ?_) (λh5 => ?_)
    . unfold F178_c0
      dsimp only;simp only[cond_true,Option.bind_some,elim_inl];exact pP (hn (.inl (by simpa using h5)) hh).symm
    refine pX (λh3 => ?_) (λh3 => ?_)
    . unfold F178_c0
      dsimp only;simp only[Bool.not_false,cond_true,Option.bind_some,elim_inl];exact pP (hn (.inr (by simpa using h3)) hh).symm
    have h5':s5=true:=by simpa using h5
    have h3':s3=false:=by simpa using h3
    obtain⟨hw,s,hd,k0,k1,k2⟩:=hs h5' h3';obtain⟨hm,he⟩:=splitD_mem hd;have heq:=(spF hm).eq k0;rw[<-he,<-k1,<-k2]at heq;refine pZ (P:=Sum.elim (λy=>y.1=on1 r) (λy=>y=(false,T,A,B',s0,s1,s2,s3,s4,())/\s2≠0)) ?_ ?_
    . unfold F178_c0
      dsimp only;simp only[cond_false];refine pX (λhz=>pZ (hG (T,A,B',s1,false,())) λy h=>pP ?_) (λhz=>pP ⟨rfl,hz⟩);rw[if_pos hz]at heq;exact(h rfl).trans heq.symm
    . intro z hz
      refine pS hz (λy h=>pP h) ?_;rintro _ ⟨rfl,hz⟩;dsimp only;refine pZ (hG (T,A,B',s1,false,())) λy1 g1 => ?_;refine pZ (hG (T,A,B',s2,false,())) λy2 g2 => ?_;refine pZ (m302 _ _) λ_ h=>pP ?_;rw[if_neg hz]at heq;rw[h,g1 rfl,g2 rfl,heq]
  . exact pM pT λ_ _ h=>absurd h hsf
 intro y e;exact key y e rfl
theorem m240(l:List Int)(hl:l.length<=100000000000):Pf (C143 (T,A,B,l,false,())) (λy=>y.1=l.flatMap on1):=by
 unfold C143 F143;dsimp only;refine pZ (P:=λy=>y.1=l.flatMap on1) ?_ (λ_ h=>pP h);refine pL ?I ?h _ ?hv
 case I=>exact(λv=>∃k:Nat,k<=l.length/\v=(false,l,(l.length:Int),(k:Int),T,A,B,(l.take k).flatMap on1,()))
 case hv=>exact⟨0,zero_le _,rfl⟩
 rintro _ ⟨k,hk,rfl⟩;unfold F143_l0;dsimp only;simp only[toNat_natCast];refine pX (λhlt => ?_) (λhge => ?_)
 . have hlt':k<l.length:=by omega
   refine pX (λ_ => ?_) (λ_=>pN);refine pZ (m279 _) ?_;rintro⟨m,u⟩ hy;dsimp only at hy ⊢;subst hy;rw[wrN k (by omega)];refine pX (λ_=>pP ⟨k+1,by omega,?_⟩) (λ_=>pN);rw[take_succ_get hlt',getD_lt hlt',flatMap_append,List.flatMap_singleton]
 . have:k=l.length:=by omega
   subst this;rw[take_length];exact pP rfl
theorem m303(a b:Int):Pf (C228 (T,A,B,a,b,())) (λy=>y.2.1=true->on1 y.1=on1 a++on1 b):=by
 unfold C228;dsimp only;cases hp:pairD a b with
 | none=>exact pP λh=>by cases h
 | some s =>
  refine pP λ_ => ?_;unfold pairD at hp;have h1:=mem_filter.1 (List.mem_of_find?_eq_some hp);have h2:=find?_some hp;simp only[and_eq_true,beq_iff_eq,not_eq_true']at h1 h2;have:=(spF h1.1).pair h1.2.1 h1.2.2;rw[<-h2.1,<-h2.2]at this;exact this
theorem m280_0(a b:Int)(f:Bool)(hf:f=true->(4352<=a/\a<4371)/\(4449<=b/\b<4470)):Pf (C179_c0 (a,b,f,T,A,B,())) (Sum.elim (λy=>y.2.1=true->on1 y.1=on1 a++on1 b) (λy=>y=(a,b,T,A,B,()))):=by
 show Pf (F179_c0 C225 C228 _) _;unfold F179_c0;dsimp only;refine pX (λh=>pP λ_ => ?_) (λ_ => ?_)
 . obtain⟨k1,k2⟩:=hf h
   dsimp only;rw[w32s (n:=a-4352) (by omega),w32s (n:=(a-4352)*21) (by omega),w32s (n:=(a-4352)*21+b) (by omega),w32s (n:=(a-4352)*21+b-4449) (by omega),w32s (n:=((a-4352)*21+b-4449)*28) (by omega),w32s (n:=44032+((a-4352)*21+b-4449)*28) (by omega)];rw[on1_han (by omega),on1_jam (r:=a) (by omega),on1_jam (r:=b) (by omega)];unfold syl;rw[if_neg (by omega)];show [_,_]=[a,b]
   congr 1
   . omega
   . congr 1
     omega
 refine pZ (p300x _ _ _ (by omega) (by omega)) ?_;rintro⟨z,u⟩ hz;dsimp only at hz ⊢;refine pX (λh1 => ?_) (λ_=>pP rfl);have h3:=hz h1;rw[w32s (n:=a-44032) (by omega),Int.tmod_eq_emod_of_nonneg (by omega)];refine pX (λh2 => ?_) (λ_=>pP rfl);refine pZ (p300x _ _ _ (by omega) (by omega)) ?_;rintro⟨z,u⟩ hz';dsimp only at hz' ⊢;refine pX (λh4 => ?_) (λ_=>pP rfl);have h5:=hz' h4;have h2':(a-44032)%28=0:=by simpa using h2
 refine pP λ_ => ?_;dsimp only;rw[w32s (n:=a+b) (by omega),w32s (n:=a+b-4519) (by omega)];rw[on1_han (by omega),on1_han (r:=a) (by omega),on1_jam (r:=b) (by omega)];unfold syl;rw[if_pos (by omega),if_neg (by omega)];show [_,_,_]=[_,_,b]
 congr 1
 . omega
 . congr 1
   . omega
   . congr 1
     omega
theorem m280(a b:Int):Pf (C179 (T,A,B,a,b,())) (λy=>y.2.1=true->on1 y.1=on1 a++on1 b):=by
 show Pf (F179 C225 C228 C179_c0 _) _;unfold F179;dsimp only;have fin:∀f,(f=true->(4352<=a/\a<4371)/\(4449<=b/\b<4470))->Pf ((C179_c0 (a,b,f,T,A,B,())).bind λval=>Sum.elim (λval=>some (val.fst,val.snd.fst,())) (λval=>(C228 (val.snd.snd.fst,val.snd.snd.snd.fst,val.snd.snd.snd.snd.fst,val.fst,val.snd.fst,())).bind λval=>some (val.fst,val.snd.fst,())) val) (λy=>y.2.1=true->on1 y.1=on1 a++on1 b):=by
  intro f hf;refine pZ (m280_0 a b f hf) ?_;intro z hz;refine pS hz (λy h=>pP h) ?_;rintro y rfl;exact pZ (m303 a b) λy h=>pP h
 refine pZ (p300x _ _ _ (by omega) (by omega)) ?_;rintro⟨z,u⟩ hz;dsimp only at hz ⊢;refine pX (λh1 => ?_) (λ_=>fin _ λh=>by cases h);have h2:=hz h1;refine pZ (p300x _ _ _ (by omega) (by omega)) ?_;rintro⟨z,u⟩ hz';dsimp only at hz' ⊢;exact fin _ λh=>⟨by omega,by have:=hz' h;omega⟩
def Jn(cl:Int->Int)(st la:Int)(p o:List Int):Prop :=
 Al cl (o.flatMap on1) p/\(st<0\/∃(o1:List Int) (s:Int) (M:List Int),o=o1++s::M/\st=o1.length/\0<=la/\∀m∈M,on1 m=[m]/\0<cl m/\cl m<=la)
theorem flat_irr:∀{M:List Int},(∀m∈M,on1 m=[m])->M.flatMap on1=M
 | [],_=>rfl
 | m::M,h=>by rw[List.flatMap_cons,h m mem_cons_self,flat_irr λx hx=>h x (mem_cons_of_mem _ hx)];rfl
theorem Jn.put{cl:Int->Int}{st la:Int}{p o:List Int}(h0:∀x,0<=cl x)(h:Jn cl st la p o){r x:Int}(hr:on1 r=[r])(hst:0<=st)(hc:la<cl r\/st=(o.length:Int)-1)(hx:on1 x=on1 (o.getD st.toNat 0)++on1 r):Jn cl st la (p++[r]) (o.set st.toNat x):=by
 obtain⟨h1,h2⟩:=h;rcases h2 with h2|⟨o1,s,M,rfl,rfl,hla,hM⟩
 . omega
 . have e1:((o1++s::M:List Int)).getD ((o1.length:Int)).toNat 0=s:=by
    rw[toNat_natCast,getD_lt (by simp),List.getElem_append_right (le_refl _)];simp
   have e2:(o1++s::M).set ((o1.length:Int)).toNat x=o1++x::M:=by
    rw[toNat_natCast,List.set_append_right _ _ (le_refl _)];simp
   rw[e1]at hx;rw[e2];refine⟨?_,.inr ⟨o1,x,M,rfl,rfl,hla,hM⟩⟩;have eM:=flat_irr λm hm=>(hM m hm).1;rw[flatMap_append,List.flatMap_cons,eM]at h1 ⊢;rw[hx,hr];refine Al.trans ?_ (Al.app h1 Al.refl);rw[append_assoc,append_assoc,append_assoc];refine Al.app Al.refl (Al.app Al.refl ?_);cases M with
   | nil=>exact Al.refl
   | cons m M =>
    have hlt:la<cl r:=by
     rcases hc with hc|hc
     . exact hc
     . simp only[length_append,length_cons]at hc;omega
    exact Al.past (by omega) λy hy=>by have:=hM y hy;omega
theorem Jn.add{cl:Int->Int}{st la:Int}{p o:List Int}(h:Jn cl st la p o){r:Int}(hr:on1 r=[r])(hc:0<cl r):Jn cl st (if cl r>la then cl r else la) (p++[r]) (o++[r]):=by
 obtain⟨h1,h2⟩:=h;refine⟨by rw[flatMap_append,List.flatMap_singleton,hr];exact Al.app h1 Al.refl,?_⟩;rcases h2 with h2|⟨o1,s,M,rfl,hst,hla,hM⟩
 . exact .inl h2
 . refine .inr ⟨o1,s,M++[r],by simp,hst,by split<;>omega,λm hm => ?_⟩
   rcases mem_append.1 hm with hm|hm
   . have:=hM m hm
     refine⟨this.1,this.2.1,?_⟩;split<;>omega
   . rw[mem_singleton.1 hm]
     refine⟨hr,hc,?_⟩;split<;>omega
theorem Jn.start{cl:Int->Int}{st la:Int}{p o:List Int}(h:Jn cl st la p o){r:Int}(hr:on1 r=[r]):Jn cl ((((o++[r]).length:Nat):Int)-1) 0 (p++[r]) (o++[r]):=by
 obtain⟨h1,-⟩:=h;refine⟨by rw[flatMap_append,List.flatMap_singleton,hr];exact Al.app h1 Al.refl,.inr ⟨o,r,[],rfl,by simp,Int.le_refl _,λm hm=>by cases hm⟩⟩
theorem m241_0(h:CK T A B)(st la r:Int)(l:List Int)(N k:Int)(f:Bool)(p o:List Int)(hr:on1 r=[r])(hJ:Jn (clx T A B) st la p o)(hf:f=true->la<clx T A B r\/st=(o.length:Int)-1) :
 Pf (C144_c0 (st,la,r,clx T A B r,l,N,k,f,T,A,B,o,())) (Sum.elim (λy=>∃o':List Int,o'.length=o.length/\Jn (clx T A B) st la (p++[r]) o'/\y=(st,la,l,N,k,T,A,B,o',())) (λy=>y=(st,la,r,clx T A B r,l,N,k,T,A,B,o,()))):=by
 show Pf (F144_c0 C175 C179 _) _;unfold F144_c0;dsimp only;refine pX (λh1 => ?_) (λ_=>pP rfl);refine pX (λhc => ?_) (λ_=>pN);refine pZ (m280 _ _) ?_;rintro⟨x,b,u⟩ hab;dsimp only at hab ⊢;refine pX (λh2 => ?_) (λ_=>pP rfl);refine pX (λ_ => ?_) (λ_=>pN);exact pP ⟨_,List.length_set,hJ.put (λx=>(h.bd x).1) hr (by omega) (hf h1) (hab h2),rfl⟩
theorem m241(h:CK T A B)(l:List Int)(hl:l.length<=10000000000000)(hir:∀x∈l,on1 x=[x]):Pf (C144 (T,A,B,l,())) (λy=>Al (clx T A B) (y.1.flatMap on1) l):=by
 show Pf (F144 C175 C179 C144_l0 _) _;unfold F144;dsimp only;refine pZ (P:=λy=>Al (clx T A B) (y.1.flatMap on1) l) ?_ (λ_ h=>pP h);refine pL ?I ?h _ ?hv
 case I=>exact(λv=>∃(st la:Int) (k:Nat) (o:List Int),k<=l.length /\ -1<=st/\o.length<=k/\Jn (clx T A B) st la (l.take k) o/\v=(st,la,l,(l.length:Int),(k:Int),T,A,B,o,()))
 case hv=>exact⟨-1,0,0,[],zero_le _,by omega,zero_le _,⟨Al.refl,.inl (by omega)⟩,rfl⟩
 rintro v ⟨st,la,k,o,hk,hst,hol,hJ,rfl⟩;have fin:∀(f:Bool),k<l.length->(f=true->la<clx T A B (l.getD k 0)\/st=(o.length:Int)-1)->Pf ((C144_c0 (st,la,l.getD k 0,clx T A B (l.getD k 0),l,(l.length:Int),(k:Int),f,T,A,B,o,())).bind λval =>
  Sum.elim (λval=>some (Sum.inl (val.fst,val.snd.fst,val.snd.snd.fst,val.snd.snd.snd.fst,IntKind.i64.wrap (val.snd.snd.snd.snd.fst+1),val.snd.snd.snd.snd.snd.fst,val.snd.snd.snd.snd.snd.snd.fst,val.snd.snd.snd.snd.snd.snd.snd.fst,val.snd.snd.snd.snd.snd.snd.snd.snd.fst,())))
   (λval=>bif decide (List.length val.snd.snd.snd.snd.snd.snd.snd.snd.snd.snd.fst+[val.snd.snd.fst].length<=140737488355328/4)then
    bif val.snd.snd.snd.fst==0 then some (Sum.inl (IntKind.i64.wrap ((↑(val.snd.snd.snd.snd.snd.snd.snd.snd.snd.snd.fst++[val.snd.snd.fst]).length:Int)-1),0,val.snd.snd.snd.snd.fst,val.snd.snd.snd.snd.snd.fst,IntKind.i64.wrap (val.snd.snd.snd.snd.snd.snd.fst+1),val.snd.snd.snd.snd.snd.snd.snd.fst,val.snd.snd.snd.snd.snd.snd.snd.snd.fst,val.snd.snd.snd.snd.snd.snd.snd.snd.snd.fst,val.snd.snd.snd.snd.snd.snd.snd.snd.snd.snd.fst++[val.snd.snd.fst],()))
    else some (Sum.inl (val.fst,if val.snd.snd.snd.fst>val.snd.fst then val.snd.snd.snd.fst else val.snd.fst,val.snd.snd.snd.snd.fst,val.snd.snd.snd.snd.snd.fst,IntKind.i64.wrap (val.snd.snd.snd.snd.snd.snd.fst+1),val.snd.snd.snd.snd.snd.snd.snd.fst,val.snd.snd.snd.snd.snd.snd.snd.snd.fst,val.snd.snd.snd.snd.snd.snd.snd.snd.snd.fst,val.snd.snd.snd.snd.snd.snd.snd.snd.snd.snd.fst++[val.snd.snd.fst],()))
    else none) val)
  (Sum.elim (λv':Int×Int×List Int×Int×Int×List R6×List R4×List R3×List Int×Unit=>∃(st la:Int) (k:Nat) (o:List Int),k<=l.length /\ -1<=st/\o.length<=k/\Jn (clx T A B) st la (l.take k) o/\v'=(st,la,l,(l.length:Int),(k:Int),T,A,B,o,())) (λy:List Int×Unit=>Al (clx T A B) (y.1.flatMap on1) l)):=by
  intro f hlt hf;have hm:l.getD k 0∈l:=by rw[getD_lt hlt];exact getElem_mem _
  have hr:=hir _ hm;have ht:l.take (k+1)=l.take k++[l.getD k 0]:=by rw[take_succ_get hlt,getD_lt hlt]
  refine pZ (m241_0 h _ _ _ _ _ _ _ _ o hr hJ hf) ?_;intro z hz;refine pS hz ?_ ?_
  . rintro y ⟨o',hl4,h4,rfl⟩
    dsimp only;rw[wrN k (by omega)];refine pP ⟨_,_,k+1,o',by omega,hst,by omega,by rw[ht];exact h4,rfl⟩
  . rintro y rfl
    dsimp only;rw[wrN k (by omega),w64s (n:=((((o++[l.getD k 0]).length:Nat):Int)-1)) (by simp only[vl];omega)];refine pX (λ_ => ?_) (λ_=>pN);refine pX (λh0=>pP ⟨_,_,k+1,_,by omega,?_,by simp only[vl];omega,by rw[ht];exact hJ.start hr,rfl⟩) (λh0=>pP ⟨_,_,k+1,_,by omega,hst,by simp only[vl];omega,by rw[ht];exact hJ.add hr (by have:=(h.bd (l.getD k 0)).1;omega),rfl⟩);simp only[vl];omega
 unfold F144_l0;dsimp only;simp only[toNat_natCast];refine pX (λhlt => ?_) (λhge => ?_)
 . refine pX (λ_ => ?_) (λ_=>pN)
   rw[h.eq];simp only[Option.bind_some];refine pX (λh1 => ?_) (λh1=>fin _ (by omega) λh=>by cases h);refine pX (λh2=>fin _ (by omega) λ_ => .inl h2) (λh2=>fin _ (by omega) λh3 => .inr ?_);rw[w64s (by omega)]at h3;simpa using h3
 . have:k=l.length:=by omega
   subst this;rw[take_length]at hJ;exact pP hJ.1
end
theorem decR_low'{s:List UInt8}{p:Nat}(h:p<s.length)(hc:s[p].toNat<128):decR s p=(s[p].toNat,1):=by
 have e:((⟨⟨s⟩⟩:ByteArray).get! (p+0))=s[p]:=by
  show (⟨s⟩:Array UInt8)[p+0]! = _;rw[add_zero,getElem!_pos _ _ (by simpa using h)];simp
 simp only[decR,Utf8.decode,e];rw[if_pos hc]
theorem c21n(s:List UInt8)(hb:s.length<=1000000000000000):Pf (C12 (s,())) (λy=>y.1<0->∀c∈s,c.toNat<128):=pM (d21 s hb).pf λ_ h=>h.2
theorem p268_k:((List.range 128).all λn => !kk (n:Int)||(match C208 ((n:Int),())with|some (b,_)=>b|none=>false))=true:=by kernel_rfl
theorem c268k{x:Int}(hk:kk x=true):Pf (C208 (x,())) (λy=>y.1=true):=by
 have h:=(kk_iff x).1 hk;have h1:=all_eq_true.1 p268_k x.toNat (mem_range.2 (by omega))
 rw[show ((x.toNat:Nat):Int)=x by omega,hk]at h1;intro y hy;rw[hy]at h1;simpa using h1
theorem p156(s:List UInt8)(hs:s.length<=1000000000000000)(ha:∀c∈s,c.toNat<128)(hk:∃x∈bi s,kk x=true):Pf (C99 (s,true,())) (λy=>0<=y.1):=by
 unfold C99 F99;dsimp only;refine pZ (P:=Sum.elim (λy=>0<=y.1) (λ_=>False)) ?_ ?_
 . refine pL ?I ?h _ ?hv
   case I=>exact(λv=>∃p:Nat,v=(true,(s,(p:Int)),())/\∀x∈bi (s.take p),kk x=false)
   case hv=>exact⟨0,rfl,λx hx=>by cases hx⟩
   rintro v ⟨p,rfl,h1⟩;unfold F99_l0;dsimp only;simp only[toNat_natCast];with_reducible repeat' (first|exact pN|apply pP|apply pX<;>intro _)
   . rename_i hp
     rw[decR_low' hp (ha _ (getElem_mem hp))];dsimp only;have hnk:kk ((s[p].toNat:Nat):Int)=true->Pf (C208 (((s[p].toNat:Nat):Int),())) (λy=>y.1=true):=c268k;refine pZ (P:=λy=>kk ((s[p].toNat:Nat):Int)=true->y.1=true) (λy e hk=>hnk hk y e) ?_;rintro⟨b,u⟩ hb;dsimp only at hb ⊢;cases b with
     | true=>exact pP (by show (0:Int)<=(p:Int);omega)
     | false =>
      refine pP ⟨p+1,rfl,λx hx => ?_⟩;rw[take_succ_get hp,bi_app]at hx;rcases mem_append.1 hx with hx|hx
      . exact h1 x hx
      . have hx':x=((s[p].toNat:Nat):Int):=by simpa[bi]using hx
        subst hx';cases hkx:kk ((s[p].toNat:Nat):Int)with
        | false=>rfl
        | true=>have:=hb hkx;cases this
   . rename_i hp
     obtain⟨x,hx,hxk⟩:=hk;rw[List.take_of_length_le (by omega)]at h1;rw[h1 x hx]at hxk;cases hxk
 . intro z hz
   refine pS hz ?_ ?_
   . rintro⟨a,u⟩ h
     exact pP h
   . intro u h
     exact h.elim
theorem p84(s:List UInt8)(hs:s.length<=1000000000000000)(ha:∀c∈s,c.toNat<128)(hk:∃x∈bi s,kk x=true):Pf (C35 (s,())) (λy=>y.1=true):=by
 unfold C35 F35;dsimp only;refine pZ (P:=λy=>0<=y.1) ?_ ?_
 . unfold C65 F65
   dsimp only;exact pZ (p156 s hs ha hk) λ_ h=>pP h
 . rintro⟨a,u⟩ h
   refine pP ?_;dsimp only at h ⊢;exact decide_eq_true h
theorem p225(s:List UInt8)(hs:s.length<=1000000000000000)(ha:∀c∈s,c.toNat<128)(hk:s=[]\/∃x∈bi s,kk x=true):Pf (C159 (s,())) (λy=>y.1≠0):=by
 rcases hk with rfl|hk
 . have e:C159 ([],())=some (13,()):=by kernel_rfl
   rw[e];exact pP (by decide)
 unfold C159 F159;dsimp only;refine pZ (P:=λy=>y.1≠0) ?_ (λ_ h=>pP h);unfold C193v1 F193v1;dsimp only;refine pZ (P:=λy=>y.2.1=s) (pP rfl) ?_;rintro⟨b,s1,u⟩ h1;dsimp only at h1 ⊢;subst h1;with_reducible repeat' (first|exact pN|apply pP|apply pX<;>intro _)
 . exact(by decide:(13:Int)≠0)
 . refine pZ (P:=λy=>y.2.1=s1) (pP rfl) ?_
   rintro⟨b,s2,u⟩ h2;dsimp only at h2 ⊢;subst h2;with_reducible repeat' (first|exact pN|apply pP|apply pX<;>intro _)
   . exact(by decide:(5:Int)≠0)
   . refine pZ (P:=λy=>y.1=true/\y.2.1=s2) ?_ ?_
     . unfold C207 F207
       dsimp only;refine pZ (p84 s2 hs ha hk) ?_;intro y hy;exact pP ⟨hy,rfl⟩
     rintro⟨b,s3,u⟩ ⟨h3,h4⟩;dsimp only at h3 h4 ⊢;subst h3 h4;exact pP (by decide:(8:Int)≠0)
section
variable {T:List R6} {A:List R4} {B:List R3}
theorem p242_k:((List.range 128).all λn=>match C117 ((n:Int),())with|some (.inr (.inr (.inr (.inr (.inr (.inr (.inr (.inr _))))))))=>true|_=>false)=true:=by kernel_rfl
theorem c214k{x:Int}(h0:0<=x)(h1:x<128):C117 (x,())=some (.inr (.inr (.inr (.inr (.inr (.inr (.inr (.inr ())))))))):=by
 have h:=all_eq_true.1 p242_k x.toNat (mem_range.2 (by omega))
 rw[show ((x.toNat:Nat):Int)=x by omega]at h;revert h;cases hc:C117 (x,())with
 | none=>intro h;cases h
 | some z =>
  rcases z with z|z|z|z|z|z|z|z|z;all_goals intro h;first|rfl|cases h
theorem p183(l:List Int)(p:Int)(hk:kk (l.getD p.toNat 0)=true):Pf (C87 (T,A,B,l,p,())) (λy=>y.1=0):=by
 have h:=(kk_iff _).1 hk;show Pf (F87 C117 C146 C149 C181 C182 C183 C184 C185 C186 _) _;unfold F87;dsimp only;with_reducible repeat' (first|exact pN|apply pP|apply pX<;>intro _)
 . exact rfl
 . exact rfl
 . rw[c214k h.1 h.2.1]
   exact pP rfl
theorem p261(hK:KT T A B)(l:List Int)(hl:l.length<=1000000000000)(hk:∃x∈l,kk x=true):Pf (C201 (T,A,B,l,())) (λy=>y.1=true):=by
 show Pf (F201 C120 C87 C201_l0 _) _;unfold F201;dsimp only;refine pZ (P:=Sum.elim (λ_=>False) (λy=>y.1=true)) ?_ ?_
 . refine pL ?I ?h _ ?hv
   case I=>exact(λv=>∃k:Int,0<=k/\k<=l.length/\(∀x∈l.take k.toNat,kk x=false)/\v=(l,l,(l.length:Int),k,T,A,B,()))
   case hv=>exact⟨0,Int.le_refl _,by omega,λx hx=>(by cases hx),rfl⟩
   rintro v ⟨k,h0,h1,h2,rfl⟩;unfold F201_l0;dsimp only;with_reducible repeat' (first|exact pN|apply pP|apply pX<;>intro _)
   . have hlt:k.toNat<l.length:=by omega
     refine pZ (P:=λy=>kk (l.getD k.toNat 0)=true->y.1=0) (λy e hk=>p183 l k hk y e) ?_;rintro⟨b,u⟩ hb;dsimp only at hb ⊢;have fin:kk (l.getD k.toNat 0)=false->∃k':Int,0<=k'/\k'<=l.length/\(∀x∈l.take k'.toNat,kk x=false)/\(l,l,(l.length:Int),IntKind.i64.wrap (k+1),T,A,B,())=(l,l,(l.length:Int),k',T,A,B,()):=by
      intro hn;rw[w64s (n:=k+1) (by omega)];refine⟨_,by omega,by omega,λx hx => ?_,rfl⟩;rw[show (k+1).toNat=k.toNat+1 by omega,take_succ_get hlt]at hx;rcases mem_append.1 hx with hx|hx
      . exact h2 x hx
      . rw[mem_singleton]at hx
        rw[getD_lt hlt]at hn;subst hx;exact hn
     with_reducible repeat' (first|exact pN|apply pP|apply pX<;>intro _)
     . exact rfl
     . refine pZ (P:=λy=>kk (l.getD k.toNat 0)=true->y.1=false) (λy e hk=>by rw[hK.ca _ hk]at e;cases e;rfl) ?_
       rintro⟨c,u⟩ hc;dsimp only at hc ⊢;with_reducible repeat' (first|exact pN|apply pP|apply pX<;>intro _)
       . exact rfl
       . rename_i hct
         refine fin ?_;cases hkx:kk (l.getD k.toNat 0)with
         | false=>rfl
         | true=>rw[hc hkx]at hct;cases hct
     . rename_i hb1 hb2
       refine fin ?_;cases hkx:kk (l.getD k.toNat 0)with
       | false=>rfl
       | true=>exact(hb2 (hb hkx)).elim
   . obtain⟨x,hx,hxk⟩:=hk
     rw[List.take_of_length_le (by omega)]at h2;rw[h2 x hx]at hxk;cases hxk
 . intro z hz
   refine pS hz ?_ ?_
   . intro u h
     exact h.elim
   . rintro⟨b,u⟩ h
     exact pP h
theorem p255(s:List UInt8):Pf (C195 (s,T,A,B,())) (λy=>y.2=(s,T,A,B,())):=by
 unfold C195 F195;dsimp only;refine pZ pT ?_;rintro⟨x,u⟩ -
 dsimp only;with_reducible repeat' (first|exact pN|apply pP|apply pX<;>intro _)
 . exact rfl
 . exact pZ pT λ_ _=>pP rfl
theorem p257(a:List UInt8):Pf (C197 (a,())) (λy=>y.2.1=a):=by
 unfold C197 F197;dsimp only;exact pZ pT λ_ _=>pP rfl
theorem p259(l:List Int):Pf (C199 (T,A,B,l,())) (λy=>y.2=(T,A,B,l,())):=by
 unfold C199 F199;dsimp only;with_reducible repeat' (first|exact pN|apply pP|apply pX<;>intro _)
 exact pZ pT λ_ _=>pP rfl
theorem p260(hK:KT T A B)(l:List Int)(hl:l.length<=1000000000000)(hk:∃x∈l,kk x=true):Pf (C200 (T,A,B,l,())) (λy=>y.1=true):=by
 unfold C200 F200;dsimp only;exact pZ (p261 hK l hl hk) λ_ h=>pP h
theorem p253(hK:KT T A B)(at_:Int)(s:List UInt8)(l:List Int)(c:List UInt8)(d:Bool)(hl:l.length<=100000000000)(h0:at_<0->∃x∈l,kk x=true) :
 Pf (C193 (7,4,11,10,8,9,12,5,at_,s,T,A,B,l,c,d,())) (λy=>y.1≠0):=by
 unfold C193 F193;dsimp only;refine pZ (P:=λy=>y.1=false->at_<0) (pP λh=>by
  have h':decide (at_>=0)=false:=h;simp only[decide_eq_false_iff_not]at h';omega) ?_
 rintro⟨b,at',u⟩ hb;dsimp only at hb ⊢;with_reducible repeat' (first|exact pN|apply pP|apply pX<;>intro _)
 . exact(by decide:(7:Int)≠0)
 . rename_i h1
   have hk:=h0 (hb h1);refine pZ (p255 s) ?_;rintro⟨b2,y⟩ hy;dsimp only at hy;subst hy;dsimp only;with_reducible repeat' (first|exact pN|apply pP|apply pX<;>intro _)
   . exact(by decide:(4:Int)≠0)
   . refine pZ (p257 s) ?_
     rintro⟨b3,s',u⟩ hs';dsimp only at hs' ⊢;with_reducible repeat' (first|exact pN|apply pP|apply pX<;>intro _)
     . exact(by decide:(11:Int)≠0)
     . refine pZ (p259 l) ?_
       rintro⟨b4,y⟩ hy;dsimp only at hy;subst hy;dsimp only;with_reducible repeat' (first|exact pN|apply pP|apply pX<;>intro _)
       . exact(by decide:(10:Int)≠0)
       . refine pZ (p260 hK l (by omega) hk) ?_
         rintro⟨b5,y⟩ hy;dsimp only at hy;subst hy;exact pP (by decide:(8:Int)≠0)
theorem p224(hK:KT T A B)(s:List UInt8)(hs:s.length<=100000000000)(hk:∃x∈bi s,kk x=true):Pf (C158 (T,A,B,s,())) (λy=>y.1≠0):=by
 unfold C158 F158;dsimp only;refine pZ (pA (d83 s (by omega)).pf (p83 s (by omega))) ?_;rintro⟨l,at_,u⟩ ⟨hl,hl'⟩;dsimp only at hl hl' ⊢;refine pZ (p253 hK at_ s l _ _ (by omega) λh=>(hl' h).mem hk) ?_;rintro⟨e,y⟩ h;exact pP h
theorem p294_k:((List.range 256).all λn=>match C237 ((n:Int),())with|some (_,b,_) => !b || !kk (n:Int)|none=>true)=true:=by kernel_rfl
theorem p294(c:UInt8):Pf (C237 ((c.toNat:Int),())) (λy=>y.2.1=true->kk (c.toNat:Int)=false):=by
 have h:=all_eq_true.1 p294_k c.toNat (mem_range.2 c.toNat_lt)
 intro y hy hb;rw[hy]at h;obtain⟨a,b,u⟩:=y;dsimp only at h hb;rw[hb]at h;simpa using h
theorem p271(s:List UInt8)(b:Int)(hs:s.length<=1000000000000):Pf (C211 (s,b,())) (λy=>(∃x∈bi s,kk x=true)->y.1<0\/∃x∈bi y.2.1,kk x=true):=by
 unfold C211 F211;dsimp only;refine pZ (P:=Sum.elim (λ_=>True) (Sum.elim (λ_=>True) (λy=>∃k:Nat,y.2.1=s.drop k/\∀x∈bi (s.take k),kk x=false))) ?_ ?_
 . refine pL ?I ?h _ ?hv
   case I=>exact(λv=>∃(n w k:Int),0<=k/\k<=s.length/\(∀x∈bi (s.take k.toNat),kk x=false)/\v=(s,b,n,w,(s.length:Int),k,()))
   case hv=>exact⟨_,_,0,Int.le_refl _,by omega,λx hx=>(by cases hx),rfl⟩
   rintro v ⟨n,w,k,h0,h1,h2,rfl⟩;unfold F211_l0;dsimp only;with_reducible repeat' (first|exact pN|apply pP|apply pX<;>intro _)
   . have hlt:k.toNat<s.length:=by omega
     refine pZ (p294 _) ?_;rintro⟨d,ok,u⟩ hd;dsimp only at hd ⊢;have hst:ok=true->∀x∈bi (s.take (k.toNat+1)),kk x=false:=by
      intro hok x hx;rw[take_succ_get hlt,bi_app]at hx;rcases mem_append.1 hx with hx|hx
      . exact h2 x hx
      . have hx':x=((s[k.toNat].toNat:Nat):Int):=by simpa[bi]using hx
        have:=hd hok;rw[getD_lt hlt]at this;subst hx';exact this
     rw[w64s (n:=k+1) (by omega)];with_reducible repeat' (first|exact pN|apply pP|apply pX<;>intro _)
     . trivial
     . trivial
     . trivial
     . rename_i h3 h4 h5
       refine pZ pT ?_;rintro⟨t,u⟩ -
       dsimp only;have hst':=hst h3;rw[show k.toNat+1=(k+1).toNat by omega]at hst';with_reducible repeat' (first|exact pN|apply pP|apply pX<;>intro _)
       . exact⟨_,rfl,hst'⟩
       . exact⟨_,_,_,by omega,by omega,hst',rfl⟩
   . trivial
 . intro z hz
   refine pS hz ?_ ?_
   . intro u _
     exact pP λ_ => .inl (by decide)
   . intro z2 hz2
     refine pS hz2 ?_ ?_
     . intro u _
       refine pZ (P:=λy=>y.1<0) ?_ ?_
       . refine pL ?I ?h _ ?hv
         case I=>exact(λ_=>True)
         case hv=>exact trivial
         intro v _;unfold F211_g0;exact pP (by decide:(-1:Int)<0)
       . rintro⟨a,b,u⟩ h
         exact pP λ_ => .inl h
     . rintro⟨a,b,u⟩ ⟨k,hk,hn⟩
       dsimp only at hk;subst hk;refine pP ?_;rintro⟨x,hx,hxk⟩;rw[<-take_append_drop k s,bi_app]at hx;rcases mem_append.1 hx with hx|hx
       . rw[hn x hx]at hxk;cases hxk
       . exact .inr ⟨x,hx,hxk⟩
theorem p272(i:Int)(l v:List Int):Pf (C212 (i,l,v,())) (λy=>∀z∈l,z∈y.1):=by
 unfold C212;dsimp only;cases h:((decide (0<=i)&&decide (i<=(l.length:Int)))&&(decide (v.length=1)&&decide (l.length<=1000000000000)))with
 | false=>exact pN
 | true =>
  refine pP λz hz => ?_;rw[<-take_append_drop i.toNat l]at hz;simp only[mem_append]at hz ⊢;rcases hz with hz|hz
  . exact .inl (.inl hz)
  . exact .inr hz
theorem p226_0(s:List UInt8)(out:List Int)(hs:s.length<=1000000000000)(h:(∃x∈bi s,kk x=true)\/∃x∈out,kk x=true):Pf (C160_c0 (s,out,())) (λy=>y.1=true->∃x∈y.2.1,kk x=true):=by
 unfold C160_c0 F160_c0;dsimp only;refine pZ (P:=Sum.elim (λy=>∃x∈y.1,kk x=true) (λy=>y.1=false)) ?_ ?_
 . refine pL ?I ?h _ ?hv
   case I=>exact(λv=>∃(s:List UInt8) (a b c:Int) (d:Bool) (out:List Int),s.length<=1000000000000/\((∃x∈bi s,kk x=true)\/∃x∈out,kk x=true)/\v=(s,a,b,c,d,out,()))
   case hv=>exact⟨_,_,_,_,_,_,hs,h,rfl⟩
   rintro v ⟨s,a,b,c,d,out,hs,h,rfl⟩;unfold F160_l0;dsimp only;with_reducible repeat' (first|exact pN|apply pP|apply pX<;>intro _)
   . refine pZ (pA (d271 s c hs).pf (p271 s c hs)) ?_
     rintro⟨n,rest,u⟩ ⟨hd,hr⟩;dsimp only at hd hr ⊢;with_reducible repeat' (first|exact pN|apply pP|apply pX<;>intro _)
     . exact rfl
     . exact rfl
     . rename_i hneg _
       refine pZ pT ?_;rintro⟨z,u⟩ -
       dsimp only;with_reducible repeat' (first|exact pN|apply pP|apply pX<;>intro _)
       . exact rfl
       . refine pZ pT ?_
         rintro⟨ok,u⟩ -
         dsimp only;with_reducible repeat' (first|exact pN|apply pP|apply pX<;>intro _)
         . exact rfl
         . refine pZ (p272 _ _ _) ?_
           rintro⟨o2,u⟩ ho;dsimp only at ho ⊢;refine pP ⟨_,_,_,_,_,_,by omega,?_,rfl⟩;rcases h with h|⟨x,hx,hxk⟩
           . exact .inl ((hr h).resolve_left hneg)
           . exact .inr ⟨x,ho x hx,hxk⟩
   . rename_i he
     rcases h with⟨x,hx,hxk⟩|h
     . have:s=[]:=by simpa using he
       subst this;cases hx
     . exact h
 . intro z hz
   refine pS hz ?_ ?_
   . rintro⟨a,u⟩ ha
     exact pP λ_=>ha
   . rintro⟨a,u⟩ ha
     dsimp only at ha;exact pP λh=>by rw[ha]at h;cases h
theorem p270(s:List UInt8)(c:Int):Pf (C210 (s,c,())) (λy=>0<=y.1->y.1<s.length/\((s.getD y.1.toNat 0).toNat:Int)=c):=by
 unfold C210 F210;dsimp only;refine pZ (P:=λy=>0<=y.1->y.1<s.length/\((s.getD y.1.toNat 0).toNat:Int)=c) ?_ (λ_ h=>pP h);unfold C236 F236;dsimp only;refine pZ (P:=Sum.elim (λ_=>True) (λy=>0<=y.1->y.1<s.length/\((s.getD y.1.toNat 0).toNat:Int)=c)) ?_ ?_
 . refine pL ?I ?h _ ?hv
   case I=>exact(λv=>∃k:Int,v=(s,c,k,()))
   case hv=>exact⟨_,rfl⟩
   rintro v ⟨k,rfl⟩;unfold F236_l0;dsimp only;with_reducible repeat' (first|exact pN|apply pP|apply pX<;>intro _)
   . rename_i h1 h2 h3
     exact λ_=>⟨by omega,h3⟩
   . exact⟨_,rfl⟩
   . trivial
 . intro z hz
   refine pS hz ?_ ?_
   . intro u _
     exact pP λh=>by cases h
   . rintro⟨a,u⟩ h
     exact pP h
theorem p226(s:List UInt8)(hs:s.length<=1000000000000)(h:∃x∈bi s,kk x=true):Pf (C160 (s,())) (λy=>y.2.1=true->∃x∈y.1,kk x=true):=by
 unfold C160 F160;dsimp only;refine pZ pT ?_;rintro⟨e,u⟩ -
 dsimp only;with_reducible repeat' (first|exact pN|apply pP|apply pX<;>intro _)
 . exact λh=>by cases h
 . refine pZ (p270 s 45) ?_
   rintro⟨k,u⟩ hk;dsimp only at hk ⊢;refine pX (λhpos => ?_) (λ_ => ?_)
   . have hk':=hk (by omega)
     have hlt:k.toNat<s.length:=by omega
     rw[w64s (n:=k+1) (by omega)];with_reducible repeat' (first|exact pN|apply pP|apply pX<;>intro _)
     have hsplit:(∃x∈bi (s.drop (k+1).toNat),kk x=true)\/∃x∈List.map (λb:UInt8=>(b.toNat:Int)) (List.take k.toNat s),kk x=true:=by
      obtain⟨x,hx,hxk⟩:=h;rw[<-take_append_drop (k+1).toNat s,bi_app,show (k+1).toNat=k.toNat+1 by omega,take_succ_get hlt,bi_app]at hx;rcases mem_append.1 hx with hx|hx
      . rcases mem_append.1 hx with hx|hx
        . exact .inr ⟨x,hx,hxk⟩
        . have hx':x=((s[k.toNat].toNat:Nat):Int):=by simpa[bi]using hx
          have h2:=hk'.2;rw[getD_lt hlt]at h2;rw[hx',h2]at hxk;cases hxk
      . exact .inl ⟨x,by rw[show (k+1).toNat=k.toNat+1 by omega];exact hx,hxk⟩
     refine pZ (p226_0 _ _ (by simp only[List.length_drop];omega) hsplit) ?_;rintro⟨a,b,u⟩ h;exact pP h
   . refine pZ (p226_0 _ _ hs (.inl h)) ?_
     rintro⟨a,b,u⟩ h;exact pP h
theorem p132(f x:List UInt8):Pf (C156 (f,x,())) (λy=>y.2.1=true->f=x++y.1):=by
 unfold C156 F156;dsimp only;refine pZ (P:=λy=>y.2.1=true->f=x++y.1) ?_ (λ_ h=>pP h);unfold C189 F189;dsimp only;refine pZ (P:=λy=>y.1=true->f.take x.length=x) ?_ ?_
 . unfold C92 F92
   dsimp only;with_reducible repeat' (first|exact pN|apply pP|apply pX<;>intro _)
   . intro h
     have h':(List.take x.length f==x)=true:=h;exact eq_of_beq h'
   . exact λh=>by cases h
 . rintro⟨b,u⟩ hb
   dsimp only at hb ⊢;with_reducible repeat' (first|exact pN|apply pP|apply pX<;>intro _)
   . exact λh=>by cases h
   . rename_i h1 h2
     intro _;have:=hb h1;conv=>lhs;rw[<-take_append_drop x.length f,this]
     rfl
theorem p224n(s:List UInt8)(hK:KT T A B)(hs:s.length<=100000000000)(hk:s=[]\/∃x∈bi s,kk x=true):Pf (C158 (T,A,B,s,())) (λy=>y.1≠0):=by
 rcases hk with rfl|hk
 . unfold C158 F158
   dsimp only;refine pZ pT ?_;rintro⟨l,at_,u⟩ -
   dsimp only;refine pZ (P:=λy=>y.1≠0) ?_ (λ_ h=>pP h);unfold C193 F193;dsimp only;refine pZ pT ?_;rintro⟨b,at',u⟩ -
   dsimp only;with_reducible repeat' (first|exact pN|apply pP|apply pX<;>intro _)
   . exact(by decide:(7:Int)≠0)
   . refine pZ (P:=λy=>y.1=true) ?_ ?_
     . unfold C195 F195
       dsimp only;have e:C12 ([],())=some (-1,()):=by kernel_rfl
       rw[e];exact pP rfl
     . rintro⟨b,y⟩ hb
       dsimp only at hb;subst hb;exact pP (by decide:(4:Int)≠0)
 . exact p224 hK s hs hk
theorem p192(h:TK T A B)(hK:KT T A B)(s:List UInt8)(hs:s.length<=6000000)(hk:s=[]\/∃x∈bi s,kk x=true):Pf (C127 (T,A,B,s,())) (λy=>y.2.2.1≠0):=by
 unfold C127 F127;dsimp only;refine pZ (pA (d151 h s (by omega)).pf (p151 h hK s (by omega))) ?_;rintro⟨f,ok,u⟩ ⟨hf,hf'⟩;dsimp only at hf hf' ⊢;refine pZ (pA (d132 f _).pf (p132 f _)) ?_;rintro⟨rest,is,u⟩ ⟨hr,hr'⟩;dsimp only at hr hr' ⊢;with_reducible repeat' (first|exact pN|apply pP|apply pX<;>intro _)
 . exact(by decide:(7:Int)≠0)
 . rename_i hok
   have hfk:f=[]\/∃x∈bi f,kk x=true:=by
    rcases hk with rfl|hk
    . exact .inl (List.eq_nil_of_length_eq_zero (by simpa using hf))
    . exact(hf' hok).imp id λhR=>hR.mem hk
   refine pZ (d21 f (by omega)).pf ?_;rintro⟨e,u⟩ he;dsimp only at he ⊢;with_reducible repeat' (first|exact pN|apply pP|apply pX<;>intro _)
   . refine pZ pT ?_
     rintro⟨l,at_,u⟩ -
     refine pZ pT ?_;rintro⟨code,b,u⟩ -
     dsimp only;with_reducible repeat' (first|exact pN|apply pP|apply pX<;>intro _)
     refine pZ (p224n f hK (by omega) hfk) ?_;rintro⟨w,u⟩ hw;exact pP hw
   . refine pZ (p225 f (by omega) (he.2 (by omega)) hfk) ?_
     rintro⟨w,u⟩ hw;exact pP hw
   . rename_i h1 his
     have hfr:=hr' his;have hk2:∃x∈bi rest,kk x=true:=by
      rcases hfk with hf0|⟨x,hx,hxk⟩
      . rw[hf0]at hfr;cases hfr
      . rw[hfr,bi_app]at hx
        rcases mem_append.1 hx with hx|hx
        . have:∀x∈bi [120,110,45,45],kk x=false:=by decide
          rw[this x hx]at hxk;cases hxk
        . exact⟨x,hx,hxk⟩
     refine pZ (pA (d226 rest (by omega)).pf (p226 rest (by omega) hk2)) ?_;rintro⟨l,ok2,u⟩ ⟨hl,hl'⟩;dsimp only at hl hl' ⊢;with_reducible repeat' (first|exact pN|apply pP|apply pX<;>intro _)
     . exact(by decide:(12:Int)≠0)
     . exact(by decide:(5:Int)≠0)
     . rename_i hok2 _
       have hlk:=hl' hok2;refine pZ (pA (d178 l (by omega)).pf (p178 l (by omega))) ?_;rintro⟨us,b,u⟩ ⟨hu,hu1,hu2⟩;dsimp only at hu hu1 hu2 ⊢;have huk:us=[]\/∃x∈bi us,kk x=true:=by
        cases b with
        | true=>exact .inr ((hu1 rfl).mem hlk)
        | false=>exact .inl (hu2 rfl)
       refine pZ (p224n us hK (by omega) huk) ?_;rintro⟨w,u⟩ hw;dsimp only at hw ⊢;with_reducible repeat' (first|exact pN|apply pP|apply pX<;>intro _)
       . exact hw
       . rename_i hz
         exact(hw hz).elim
theorem p159(h:TK T A B)(hK:KT T A B)(s:List UInt8)(hs:s.length<=6000000)(hk:s=[]\/∃x∈bi s,kk x=true):Pf (C95 (T,A,B,s,())) (λy=>y.2.1≠0):=by
 unfold C95 F95;dsimp only;refine pZ (p192 h hK s hs hk) ?_;rintro⟨a,b,e,u⟩ he;dsimp only at he ⊢;with_reducible repeat' (first|exact pN|apply pP|apply pX<;>intro _)
 . exact he
 . rename_i hz
   exact(he hz).elim
end
section
variable {T:List R6} {A:List R4} {B:List R3}
end
def ktB:Bool:=match C9 ()with
 | some (T,A,B,_)=>(List.range 128).all λn => !kk (n:Int)||((match C175 (T,A,B,(n:Int),())with|some (c,_)=>c==0|none=>false)&&(match C114 (T,A,B,(n:Int),())with|some (c,_)=>c==(n:Int)|none=>false)&&(match C120 (T,A,B,(n:Int),())with|some (c,_) => !c|none=>false))
 | none=>false
theorem ktB_k:ktB=true:=by kernel_rfl
theorem kt{T A B}(h18:C9 ()=some (T,A,B,())):KT T A B:=by
 have h:=ktB_k;unfold ktB at h;rw[h18]at h;simp only[all_eq_true]at h;have key:∀x,kk x=true->(match C175 (T,A,B,x,())with|some (c,_)=>c==0|none=>false)=true/\(match C114 (T,A,B,x,())with|some (c,_)=>c==x|none=>false)=true/\(match C120 (T,A,B,x,())with|some (c,_) => !c|none=>false)=true:=by
  intro x hx;have h1:=(kk_iff x).1 hx;have h2:=h x.toNat (mem_range.2 (by omega))
  rw[show ((x.toNat:Nat):Int)=x by omega,hx]at h2;simp only[Bool.not_true,Bool.false_or,and_eq_true]at h2;exact⟨h2.1.1,h2.1.2,h2.2⟩
 refine⟨λx hx => ?_,λx hx => ?_,λx hx => ?_⟩
 . have:=(key x hx).1
   cases hc:C175 (T,A,B,x,())with
   | none=>rw[hc]at this;cases this
   | some y =>
    obtain⟨c,u⟩:=y;rw[hc]at this;have:c=0:=by simpa using this
    subst this;rfl
 . have:=(key x hx).2.1
   cases hc:C114 (T,A,B,x,())with
   | none=>rw[hc]at this;cases this
   | some y =>
    obtain⟨c,u⟩:=y;rw[hc]at this;have:c=x:=by simpa using this
    subst this;rfl
 . have:=(key x hx).2.2
   cases hc:C120 (T,A,B,x,())with
   | none=>rw[hc]at this;cases this
   | some y =>
    obtain⟨c,u⟩:=y;rw[hc]at this;have:c=false:=by simpa using this
    subst this;rfl
open Go.Pl (rl rr rr_le enc enc1 enc2 enc3 enc4 rightB rightB_iff lenE lenE1 lenE_cases b8 b8_val b8_of runes_of rl_rr rl_right rl_len badAt badAt_neg badAt_nil dec_nil)
theorem ex_of{α:Type}{x:Option α}{P:α->Prop}{c:α}(h:Df x P)(h':Pf x λy=>y=c):x=some c:=by
 obtain⟨y,e,-⟩:=h;rw[e,h' y e]
theorem enc_bytes{v:Int}(hr:rightB v=true){c:UInt8}(hc:c∈enc v):((c.toNat:Int)=v/\v<=127)\/128<=c.toNat:=by
 rcases lenE_cases hr with⟨h,h0,h1⟩|⟨h,h0,h1⟩|⟨h,h0,h1⟩|⟨h,h0,h1⟩
 . rw[enc1 h]at hc
   rw[mem_singleton.1 hc];exact .inl ⟨b8_val h0 (by omega),h1⟩
 . right
   rw[enc2 h]at hc;simp only[mem_cons,not_mem_nil,or_false]at hc;rcases hc with rfl|rfl
   . have:=b8_val (n:=192+v/64) (by omega) (by omega);omega
   . have:=b8_val (n:=128+v%64) (by omega) (by omega);omega
 . right
   rw[enc3 h]at hc;simp only[mem_cons,not_mem_nil,or_false]at hc;rcases hc with rfl|rfl|rfl
   . have:=b8_val (n:=224+v/4096) (by omega) (by omega);omega
   . have:=b8_val (n:=128+v/64%64) (by omega) (by omega);omega
   . have:=b8_val (n:=128+v%64) (by omega) (by omega);omega
 . right
   have hm:=(rightB_iff.1 hr).2.1;rw[enc4 h]at hc;simp only[mem_cons,not_mem_nil,or_false]at hc;rcases hc with rfl|rfl|rfl|rfl
   . have:=b8_val (n:=240+v/262144) (by omega) (by omega);omega
   . have:=b8_val (n:=128+v/4096%64) (by omega) (by omega);omega
   . have:=b8_val (n:=128+v/64%64) (by omega) (by omega);omega
   . have:=b8_val (n:=128+v%64) (by omega) (by omega);omega
def NS(B:List R3)(s:List UInt8):Prop:=∀c∈s,c.toNat<128->Nf B (c.toNat:Int)
theorem ns_flat{B:List R3}{l:List Int}(hn:∀x∈l,Nf B x)(hr:∀x∈l,rightB x=true):NS B (l.flatMap enc):=by
 intro c hc h128;obtain⟨v,hv,hcv⟩:=mem_flatMap.1 hc;rcases enc_bytes (hr v hv) hcv with⟨h,-⟩|h
 . rw[h];exact hn v hv
 . omega
theorem rl_flat{l:List Int}(hr:∀x∈l,rightB x=true):rl (l.flatMap enc)=l/\rr (l.flatMap enc)=[]:=by
 have:=runes_of l [] hr dec_nil;rw[append_nil]at this;exact this
theorem str_of{l:List Int}(hl:l.length<=1000000000):(∃x∈l,rightB x=false)/\C82 (l,())=some ([],false,())\/(∀x∈l,rightB x=true)/\C82 (l,())=some (l.flatMap enc,true,()):=by
 rw[c178 l hl,strE_all];cases h:l.all rightB with
 | true=>exact .inr ⟨all_eq_true.1 h,rfl⟩
 | false =>
  refine .inl ⟨?_,rfl⟩;simpa using h
theorem rl_asc{s:List UInt8}(ha:∀c∈s,c.toNat<128):rl s=bi s/\badAt s = -1:=by
 have hr:∀x∈bi s,rightB x=true:=by
  intro x hx;obtain⟨c,hc,rfl⟩:=mem_map.1 hx;have:=ha c hc;exact rightB_iff.2 ⟨by omega,by omega,by omega⟩
 have e:(bi s).flatMap enc=s:=by
  clear hr
  induction s with
  | nil=>rfl
  | cons c s ih =>
   have hc:=ha c (by simp);have h1:enc (c.toNat:Int)=[c]:=by
    rw[enc1 (lenE1 (by omega) (by omega)),b8_of rfl]
   show enc (c.toNat:Int)++(bi s).flatMap enc=c::s;rw[h1,ih λd hd=>ha d (by simp[hd])];rfl
 have:=rl_flat hr;rw[e]at this;exact⟨this.1,badAt_nil this.2⟩
theorem rl_back{s:List UInt8}(h:badAt s<0):(rl s).flatMap enc=s:=by
 have:=rl_rr s;rw[badAt_neg h,append_nil]at this;exact this.symm
section
variable {T:List R6} {A:List R4} {B:List R3}
theorem n213(h:TK T A B)(hL:LN B)(s:List UInt8)(hs:s.length<=10000000)(hn:∀x∈rl s,Nf B x):Pf (C116 (T,A,B,s,false,true,())) (λy=>NS B y.1):=by
 have hl:=rl_len s;unfold C116 F116;dsimp only;rw[x83 s (by omega)];simp only[Option.bind_some];refine pX (λ_=>pP λc hc=>by cases hc) (λ_ => ?_);refine pZ (pA (d240 T A B (rl s) false (by omega)).pf (n240 hL (rl s) (by omega) hn)) ?_;rintro⟨l2,u⟩ ⟨h2,r2⟩;dsimp only at h2 r2 ⊢;refine pZ (pA (d239 h.a l2 (by omega)).pf (n239 hL l2 (by omega) r2)) ?_;rintro⟨l3,u⟩ ⟨h3,r3⟩;dsimp only at h3 r3 ⊢;simp only[cond_true];refine pZ (pA (d241 T A B l3 (by omega) h.a).pf (n241 hL l3 (by omega) r3)) ?_;rintro⟨l4,u⟩ ⟨h4,r4,-⟩;dsimp only at h4 r4 ⊢;rcases str_of (l:=l4) (by omega)with⟨-,e⟩|⟨hr,e⟩
 . rw[e]
   exact pP λc hc=>by cases hc
 . rw[e]
   exact pP (ns_flat r4 hr)
theorem n151(h:TK T A B)(hL:LN B)(s:List UInt8)(hs:s.length<=2500000):Pf (C55 (T,A,B,s,())) (λy=>NS B y.1):=by
 have hl:=rl_len s;unfold C55 F55;dsimp only;rw[x83 s (by omega)];simp only[Option.bind_some];refine pX (λ_=>pP λc hc=>by cases hc) (λ_ => ?_);refine pZ (d180 T A B (rl s) (by omega)).pf ?_;rintro⟨l2,u⟩ h2;dsimp only at h2 ⊢;refine pZ (P:=λy=>y.1.length=l2.length/\∀x∈y.1,Nf B x) ?_ ?_
 . refine pM (pA (d179 T A B h.b l2 (by omega)).pf (P':=λy=>∀x∈y.1,Nf B x) ?_) λ_ h=>h
   unfold C83 F83;dsimp only;exact pZ (n210 hL l2 (by omega)) λ_ h=>pP h.1
 rintro⟨l3,u⟩ ⟨h3,r3⟩;dsimp only at h3 r3 ⊢;have fin:∀x:List UInt8,x.length<=10000000->(∀v∈rl x,Nf B v)->Pf ((C85 (T,A,B,x,())).bind λval=>some (val.1,val.2.1,())) (λy=>NS B y.1):=by
  intro x hx hn;refine pZ (P:=λy=>NS B y.1) ?_ λ_ h=>pP h;unfold C85 F85;dsimp only;exact pZ (n213 h hL x hx hn) λ_ h=>pP h
 rcases str_of (l:=l3) (by omega)with⟨-,e⟩|⟨hr,e⟩
 . rw[e]
   exact fin [] (by simp) (λv hv=>by cases hv)
 . obtain⟨y,e2,h5⟩:=d178 l3 (by omega)
   rw[e]at e2;cases e2;rw[e];dsimp only at h5;exact fin (l3.flatMap enc) (by omega) (by rw[(rl_flat hr).1];exact r3)
theorem split_lo:(splitT.all λs=>decide (128<=s.1))=true:=by kernel_rfl
theorem c216a{r:Int}(h0:0<=r/\r<128):C119 (T,A,B,r,())=some (0,0,0,false,false,false,()):=by
 unfold C119;dsimp only;have e:(decide (65281<=r)&&decide (r<=65374))=false:=by simp;omega
 rw[e];have hs:splitD r=none:=by
  unfold splitD;rw[List.find?_eq_none];intro s hs he;have h1:=all_eq_true.1 split_lo s hs;have h2:r=s.1:=by simpa using he
  simp only[decide_eq_true_eq]at h1;omega
 rw[hs];rfl
theorem i279(r:Int)(hr:0<=r/\r<128):Pf (C178 (T,A,B,r,false,())) (λy=>y.1=[r]):=by
 have key:Pf (recN (λG=>F178 C119 G C225 C226 C227 (F178_c0 C119 G C225 C226 C227)) big (T,A,B,r,false,())) ((λ(v:List R6×List R4×List R3×Int×Bool×Unit) (y:List Int×Unit)=>0<=v.2.2.2.1/\v.2.2.2.1<128->y.1=[v.2.2.2.1]) (T,A,B,r,false,())):=by
  refine pRn (P:=λ(v:List R6×List R4×List R3×Int×Bool×Unit) (y:List Int×Unit)=>0<=v.2.2.2.1/\v.2.2.2.1<128->y.1=[v.2.2.2.1]) ?_ big _;rintro G - ⟨T,A,B,r,sf,u⟩;by_cases hk:0<=r/\r<128
  . suffices hs:Pf (F178 C119 G C225 C226 C227 (F178_c0 C119 G C225 C226 C227) (T,A,B,r,sf,())) (λy=>y.1=[r]) from pM hs λy h _=>h
    unfold F178;dsimp only;simp only[c216a hk,Option.bind_some];refine pZ (p300x _ _ _ (by omega) (by omega)) ?_;rintro⟨z,u⟩ hz;dsimp only at hz ⊢;refine pX (λh=>by have:=hz h;omega) (λ_ => ?_);simp only[Bool.not_false,cond_true];unfold F178_c0;dsimp only;simp only[cond_true,Option.bind_some,elim_inl];exact pP rfl
  . exact pM pT λ_ _ h=>absurd h hk
 intro y e;exact key y e hr
theorem i240(l:List Int)(hl:l.length<=100000000)(h:∀x∈l,0<=x/\x<128):C143 (T,A,B,l,false,())=some (l,()):=by
 refine ex_of (d240 T A B l false (by omega)) ?_;unfold C143 F143;dsimp only;refine pZ (P:=λy=>y.1=l) ?_ (λy h=>pP (by rw[h]));refine pL ?I ?h _ ?hv
 case I=>exact(λv=>∃k:Nat,k<=l.length/\v=(false,l,(l.length:Int),(k:Int),T,A,B,l.take k,()))
 case hv=>exact⟨0,zero_le _,rfl⟩
 rintro _ ⟨k,hk,rfl⟩;unfold F143_l0;dsimp only;simp only[toNat_natCast];refine pX (λhlt => ?_) (λhge => ?_)
 . have hlt':k<l.length:=by omega
   refine pX (λ_ => ?_) (λ_=>pN);refine pZ (i279 _ (h _ (by rw[getD_lt hlt'];exact getElem_mem _))) ?_;rintro⟨m,u⟩ hy;dsimp only at hy ⊢;subst hy;rw[wrN k (by omega)];refine pX (λ_=>pP ⟨k+1,by omega,?_⟩) (λ_=>pN);rw[take_succ_get hlt',getD_lt hlt']
 . have:k=l.length:=by omega
   subst this;rw[take_length];exact pP rfl
def LC(T:List R6)(A:List R4)(B:List R3):Prop:=∀x,0<=x->x<128->C175 (T,A,B,x,())=some (0,())
theorem i239(h:TK T A B)(hC:LC T A B)(l:List Int)(hl:l.length<=100000000)(ha:∀x∈l,0<=x/\x<128):C142 (T,A,B,l,())=some (l,()):=by
 refine ex_of (d239 h.a l (by omega)) ?_;unfold C142 F142;dsimp only;refine pZ (P:=λy=>y.1=l) ?_ ?_
 . unfold C174
   dsimp only;with_reducible repeat' (first|exact pN|apply pP|apply pX<;>intro _)
   rfl
 rintro⟨l',u⟩ hl';dsimp only at hl' ⊢;subst hl';refine pZ (P:=λy=>y.1=l') ?_ (λy h=>pP (by rw[h]));refine pL ?I ?h _ ?hv
 case I=>exact(λv=>∃k:Nat,k<=l'.length+1/\v=((k:Int),(k:Int),T,A,B,l',()))
 case hv=>exact⟨0,zero_le _,rfl⟩
 rintro _ ⟨k,hk,rfl⟩;unfold F142_l0;dsimp only;simp only[toNat_natCast];have fin:k<=l'.length->Pf ((C142_c0 ((k:Int),(k:Int),T,A,B,l',())).bind λval=>some (Sum.inl (val.fst,IntKind.i64.wrap (val.snd.fst+1),val.snd.snd.fst,val.snd.snd.snd.fst,val.snd.snd.snd.snd.fst,val.snd.snd.snd.snd.snd.fst,())))
  (Sum.elim (λv':Int×Int×List R6×List R4×List R3×List Int×Unit=>∃k:Nat,k<=l'.length+1/\v'=((k:Int),(k:Int),T,A,B,l',())) (λy:List Int×Unit=>y.1=l')):=by
  intro hk;refine pZ (p239_0 (k:Int) (k:Int) l') ?_;rintro y ⟨r2,h7,h8,rfl⟩;dsimp only;rw[wrN k (by omega)];have e:r2=l':=by
   refine List.ext_getElem? λi=>h8.2.1 i ?_;rw[toNat_natCast];omega
  subst e;exact pP ⟨k+1,by omega,rfl⟩
 refine pX (λh1 => ?_) (λ_=>pP rfl);refine pX (λhlt => ?_) (λ_=>fin (by omega));have hlt':k<l'.length:=by omega
 refine pX (λ_ => ?_) (λ_=>pN);obtain⟨a1,a2⟩:=ha _ (show l'.getD k 0∈l' by rw[getD_lt hlt'];exact getElem_mem _);rw[hC _ a1 a2];simp only[Option.bind_some];exact pX (λh=>by omega) (λ_=>fin (by omega))
def Lw(B:List R3)(s:List UInt8):Prop:=∀c∈s,c.toNat<128/\Nf B (c.toNat:Int)
theorem i213(h:TK T A B)(hL:LN B)(hC:LC T A B)(s:List UInt8)(hs:s.length<=100000)(hw:Lw B s):C116 (T,A,B,s,false,true,())=some (s,true,()):=by
 have ha:∀c∈s,c.toNat<128:=λc hc=>(hw c hc).1;obtain⟨e1,e2⟩:=rl_asc ha;have hb:∀x∈bi s,(0<=x/\x<128)/\Nf B x:=by
  intro x hx;obtain⟨c,hc,rfl⟩:=mem_map.1 hx;exact⟨⟨by omega,by have:=ha c hc;omega⟩,(hw c hc).2⟩
 have hl:(bi s).length<=100000:=by unfold bi;rw[length_map];exact hs
 have h241:C144 (T,A,B,bi s,())=some (bi s,()):=by
  refine ex_of (d241 T A B (bi s) (by omega) h.a) ?_;refine pM (n241 hL (bi s) (by omega) λx hx=>(hb x hx).2) λy hy => ?_;obtain⟨y1,u⟩:=y;have:=hy.2 λx hx=>(hb x hx).1.2;dsimp only at this;rw[this]
 have h178:C82 (bi s,())=some (s,true,()):=by
  rcases str_of (l:=bi s) (by omega)with⟨⟨x,hx,hx'⟩,-⟩|⟨-,e⟩
  . exfalso
    have:=hb x hx;rw[rightB_iff.2 ⟨by omega,by omega,by omega⟩]at hx';cases hx'
  . rw[e,<-e1,rl_back (by omega)]
 show F116 C142 C143 C144 C34 C82 _=_;simp only[F116,x83 s (by omega),e1,e2,Option.bind_some,i240 (bi s) (by omega) λx hx=>(hb x hx).1,i239 h hC (bi s) (by omega) λx hx=>(hb x hx).1,h241,h178,cond_true];rw[decide_eq_false (by omega)];rfl
theorem i180(l:List Int)(hl:l.length<=100000000)(h:∀x∈l,x<65281):C84 (T,A,B,l,())=some (l,()):=by
 refine ex_of (d180 T A B l (by omega)) ?_;unfold C84 F84;dsimp only;refine pZ (P:=λy=>y.1=l) ?_ (λy h=>pP (by rw[h]));show Pf (F113 C115 C113_l0 _) _;unfold F113;dsimp only;refine pZ (P:=λy=>y.1=l) ?_ (λ_ h=>pP h);refine pL ?I ?h _ ?hv
 case I=>exact(λv=>∃k:Nat,k<=l.length/\v=(T,A,B,l,(l.length:Int),(k:Int),l.take k,()))
 case hv=>exact⟨0,zero_le _,rfl⟩
 rintro _ ⟨k,hk,rfl⟩;unfold F113_l0;dsimp only;simp only[toNat_natCast];refine pX (λhlt => ?_) (λhge => ?_)
 . have hlt':k<l.length:=by omega
   refine pX (λ_ => ?_) (λ_=>pN);have hx:=h _ (show l.getD k 0∈l by rw[getD_lt hlt'];exact getElem_mem _);have e:C115 (T,A,B,l.getD k 0,())=some (l.getD k 0,()):=by
    show F115 C119 _=_;simp only[F115];rw[decide_eq_true hx];rfl
   rw[e,wrN k (by omega)];simp only[Option.bind_some];refine pX (λ_=>pP ⟨k+1,by omega,?_⟩) (λ_=>pN);rw[take_succ_get hlt',getD_lt hlt']
 . have:k=l.length:=by omega
   subst this;rw[take_length];exact pP rfl
theorem i151(h:TK T A B)(hL:LN B)(hC:LC T A B)(s:List UInt8)(hs:s.length<=100000)(hw:Lw B s):C55 (T,A,B,s,())=some (s,true,()):=by
 have ha:∀c∈s,c.toNat<128:=λc hc=>(hw c hc).1;obtain⟨e1,e2⟩:=rl_asc ha;have hb:∀x∈bi s,(0<=x/\x<128)/\Nf B x:=by
  intro x hx;obtain⟨c,hc,rfl⟩:=mem_map.1 hx;exact⟨⟨by omega,by have:=ha c hc;omega⟩,(hw c hc).2⟩
 have hl:(bi s).length<=100000:=by unfold bi;rw[length_map];exact hs
 have h179:C83 (T,A,B,bi s,())=some (bi s,()):=by
  refine ex_of (d179 T A B h.b (bi s) (by omega)) ?_;unfold C83 F83;dsimp only;refine pZ (n210 hL (bi s) (by omega)) λy hy=>pP ?_;rw[hy.2 λx hx=>(hb x hx).2]
 have h178:C82 (bi s,())=some (s,true,()):=by
  rcases str_of (l:=bi s) (by omega)with⟨⟨x,hx,hx'⟩,-⟩|⟨-,e⟩
  . exfalso
    have:=hb x hx;rw[rightB_iff.2 ⟨by omega,by omega,by omega⟩]at hx';cases hx'
  . rw[e,<-e1,rl_back (by omega)]
 have h181:C85 (T,A,B,s,())=some (s,true,()):=by
  show F85 C116 _=_;simp only[F85,i213 h hL hC s hs hw,Option.bind_some]
 show F55 C34 C82 C83 C84 C85 _=_;simp only[F55,x83 s (by omega),e1,e2,Option.bind_some,i180 (bi s) (by omega) λx hx=>by have:=(hb x hx).1;omega,h179,h178,h181];rw[decide_eq_false (by omega)];rfl
end
def lcB:Bool:=match C9 ()with
 | some (T,A,B,_)=>(List.range 128).all λn=>match C175 (T,A,B,(n:Int),())with|some (c,_)=>c==0|none=>false
 | none=>false
theorem lcB_k:lcB=true:=by kernel_rfl
theorem lc_of{T A B}(h18:C9 ()=some (T,A,B,())):LC T A B:=by
 have h:=lcB_k;unfold lcB at h;rw[h18]at h;intro x h0 h1;have:=all_eq_true.1 h x.toNat (mem_range.2 (by omega))
 rw[show ((x.toNat:Nat):Int)=x by omega]at this;cases hc:C175 (T,A,B,x,())with
 | none=>rw[hc]at this;cases this
 | some y =>
  rw[hc]at this;obtain⟨c,u⟩:=y;have e:c=0:=by simpa using this
  rw[e]
open Go.Pl (rl rr rr_le enc rightB rightB_iff rl_right rl_len badAt badAt_neg badAt_nil)
def Wd(x:Int):Prop:=¬(65281<=x/\x<=65374)
def wideT(B:List R3):List R3:=B.filter (λe => !(decide (65281<=e.1)&&decide (e.2.1<=65374)))++[(65281,65374,100000)]
theorem nf_wide{B:List R3}{x:Int}(h:Nf B x)(hw:Wd x):Nf (wideT B) x:=by
 intro e he;rcases mem_append.1 he with he|he
 . exact h e (mem_filter.1 he).1
 . rw[mem_singleton.1 he]
   exact hw
theorem wd_of{B:List R3}{x:Int}(h:Nf (wideT B) x):Wd x:=h (65281,65374,100000) (List.mem_append_right _ (List.mem_singleton_self _))
def lnW:Bool:=match C9 ()with
 | some (_,_,B,_)=>lnB (wideT B)
 | none=>false
theorem lnW_k:lnW=true:=by kernel_rfl
theorem ln_wide{T A B}(h18:C9 ()=some (T,A,B,())):LN (wideT B):=by
 have h:=lnW_k;unfold lnW at h;rw[h18]at h;exact ln_ofB h
def LW(B:List R3):Prop:=∀e∈B,(65281<=e.1/\e.2.1<=65374)\/e.2.1+e.2.2<65281\/65374<e.1+e.2.2
def lwD:Bool:=match C9 ()with
 | some (_,_,B,_)=>B.all λe=>(decide (65281<=e.1)&&decide (e.2.1<=65374))||(decide (e.2.1+e.2.2<65281)||decide (65374<e.1+e.2.2))
 | none=>false
theorem lwD_k:lwD=true:=by kernel_rfl
theorem lw_of{T A B}(h18:C9 ()=some (T,A,B,())):LW B:=by
 have h:=lwD_k;unfold lwD at h;rw[h18]at h;intro e he;have:=all_eq_true.1 h e he;simp only[or_eq_true,and_eq_true,decide_eq_true_eq]at this;omega
theorem p298(a b c d r:Int):Pf (C223 (a,b,c,d,r,())) (λy=>y=(decide (a<=r/\r<=b),r,())):=by
 unfold C223 F223;dsimp only;refine pX (λh=>pP ?_) (λh=>pP ?_)
 . congr 1
   exact decide_eq_decide.2 (by omega)
 . rw[decide_eq_false (by omega)]
theorem p297{A:List R4}(r:Int)(hA:A.length<=1000000000000):Pf (C222 (A,r,())) (λy=>y=(-1,r,())\/∃i:Nat,i<A.length/\y=((i:Int),r,())/\(A.getD i (0,(0,(0,0)))).1<=r/\r<=(A.getD i (0,(0,(0,0)))).2.1):=by
 unfold C222 F222;dsimp only;refine pZ (P:=Sum.elim (λy=>y=(r,())) (λy=>∃i:Nat,i<A.length/\y=((i:Int),r,())/\(A.getD i (0,(0,(0,0)))).1<=r/\r<=(A.getD i (0,(0,(0,0)))).2.1)) ?_ ?_
 . refine pL ?I ?h _ ?hv
   case I=>exact(λv=>∃k:Nat,k<=A.length/\v=(A,(A.length:Int),(k:Int),r,()))
   case hv=>exact⟨0,zero_le _,rfl⟩
   rintro _ ⟨k,hk,rfl⟩;unfold F222_l0;dsimp only;simp only[toNat_natCast];refine pX (λhlt => ?_) (λhge=>pP rfl);have hlt':k<A.length:=by omega
   refine pX (λ_ => ?_) (λ_=>pN);refine pZ (p298 _ _ _ _ _) ?_;rintro _ rfl;dsimp only;rw[wrN k (by omega)];exact pX (λh=>pP ⟨k,hlt',rfl,h⟩) (λh=>pP ⟨k+1,by omega,rfl⟩)
 . intro z hz
   refine pS hz ?_ ?_
   . rintro _ rfl
     exact pP (.inl rfl)
   . rintro _ ⟨i,h1,rfl,h2⟩
     exact pP (.inr ⟨i,h1,rfl,h2⟩)
def ckB:Bool:=match C9 ()with
 | some (_,A,_,_)=>A.all λe=>(decide (e.2.2.2=0)||decide (e.2.2.2=1))&&(decide (0<=e.2.2.1)&&(decide (e.2.2.1+(e.2.1-e.1)<=255)&&(decide (0<=e.1)&&decide (e.2.1<=1114111))))
 | none=>false
theorem ckB_k:ckB=true:=by kernel_rfl
theorem ck_of{T A B}(h18:C9 ()=some (T,A,B,()))(hA:A.length<=1000000000000):CK T A B:=by
 have h:=ckB_k;unfold ckB at h;rw[h18]at h;have key:∀x,∃c,C175 (T,A,B,x,())=some (c,())/\0<=c/\c<=255:=by
  intro x;obtain⟨⟨c,u⟩,e,-⟩:=d276 T A B x hA;refine⟨c,e,?_⟩;have hp:Pf (C175 (T,A,B,x,())) (λy=>0<=y.1/\y.1<=255):=by
   unfold C175 F175;dsimp only;refine pZ (p297 x hA) ?_;rintro _ (rfl|⟨i,hi,rfl,h1,h2⟩)
   . exact pX (λ_=>pP (by decide)) (λh=>by omega)
   . have hm:A.getD i (0,(0,(0,0)))∈A:=by rw[getD_lt hi];exact getElem_mem _
     refine pX (λ_=>pP (by decide)) (λ_ => ?_);refine pX (λ_ => ?_) (λ_=>pN);simp only[toNat_natCast];have:=all_eq_true.1 h _ hm;simp only[and_eq_true,or_eq_true,decide_eq_true_eq]at this;obtain⟨k1,k2,k3,k4,k5⟩:=this;rw[w32s (n:=x-(A.getD i (0,(0,(0,0)))).1) (by omega),w64s (n:=x-(A.getD i (0,(0,(0,0)))).1) (by omega)];rcases k1 with k1|k1
     . rw[k1,Int.zero_mul,w64s (n:=0) (by omega),Int.add_zero,w64s (by omega)]
       exact pP ⟨k2,by(try dsimp only);omega⟩
     . rw[k1,Int.one_mul,w64s (n:=x-(A.getD i (0,(0,(0,0)))).1) (by omega),w64s (by omega)]
       exact pP ⟨by(try dsimp only);omega,by(try dsimp only);omega⟩
  exact hp _ e
 have eq:∀x,C175 (T,A,B,x,())=some (clx T A B x,()):=λx=>by
  obtain⟨c,e,-⟩:=key x;unfold clx;rw[e];rfl
 refine⟨eq,λx => ?_⟩;obtain⟨c,e,hc⟩:=key x;rw[eq x]at e;cases e;exact hc
section
variable {T:List R6} {A:List R4} {B:List R3}
theorem w211(hL:LN B)(hW:LW B)(r:Int)(hr:Wd r):Pf (C114 (T,A,B,r,())) (λy=>Wd y.1):=by
 unfold C114 F114;dsimp only;refine pZ (p237 r hL.len) ?_;rintro _ (⟨hn,rfl⟩|⟨i,hi,rfl,h1,h2⟩)
 . exact pX (λ_=>pP hr) (λh=>by omega)
 . have hm:B.getD i (0,(0,0))∈B:=by rw[getD_lt hi];exact getElem_mem _
   refine pX (λh=>by omega) (λ_ => ?_);refine pX (λ_ => ?_) (λ_=>pN);simp only[toNat_natCast];obtain⟨⟨b1,b2,b3,b4⟩,-⟩:=hL.sh _ hm;have hw:=hW _ hm;rw[w32s (by omega)];refine pP ?_;unfold Wd at hr ⊢;dsimp only;omega
theorem w210(hL:LN B)(hW:LW B)(l:List Int)(hl:l.length<=1000000000000)(hwd:∀x∈l,Wd x):Pf (C113v1 (l,T,A,B,())) (λy=>∀x∈y.1,Wd x):=by
 show Pf (F113v1 C114 C113v1_l0 _) _;unfold F113v1;dsimp only;refine pZ (P:=λy=>∀x∈y.1,Wd x) ?_ (λ_ h=>pP h);refine pL ?I ?h _ ?hv
 case I=>exact(λv=>∃(k:Nat) (o:List Int),k<=l.length/\v=(T,A,B,l,(l.length:Int),(k:Int),o,())/\(∀x∈o,Wd x))
 case hv=>exact⟨0,[],zero_le _,rfl,λx hx=>(by cases hx)⟩
 rintro _ ⟨k,o,hk,rfl,h1⟩;unfold F113v1_l0;dsimp only;simp only[toNat_natCast];refine pX (λhlt => ?_) (λhge=>pP h1);have hlt':k<l.length:=by omega
 refine pX (λ_ => ?_) (λ_=>pN);refine pZ (w211 hL hW _ (by rw[getD_lt hlt'];exact hwd _ (getElem_mem _))) ?_;rintro⟨m,u⟩ h3;dsimp only at h3 ⊢;rw[wrN k (by omega)];refine pX (λ_=>pP ⟨k+1,o++[m],by omega,rfl,λx hx => ?_⟩) (λ_=>pN);rcases mem_append.1 hx with hx|hx
 . exact h1 x hx
 . rw[mem_singleton.1 hx];exact h3
theorem w212(r:Int):Pf (C115 (T,A,B,r,())) (λy=>Wd y.1/\(Wd r->y.1=r)):=by
 unfold C115 F115;dsimp only;unfold Wd;refine pX (λh=>pP ⟨by(try dsimp only);omega,λ_=>rfl⟩) (λh1 => ?_);refine pX (λh=>pP ⟨by(try dsimp only);omega,λ_=>rfl⟩) (λh2 => ?_);unfold C119;dsimp only;rw[decide_eq_true (show 65281<=r by omega),decide_eq_true (show r<=65374 by omega)];simp only[Bool.and_self,cond_true,Option.bind_some];exact pP ⟨by(try dsimp only);omega,λh=>by omega⟩
theorem w180(l:List Int)(hl:l.length<=1000000000000):Pf (C84 (T,A,B,l,())) (λy=>(∀x∈y.1,Wd x)/\((∀x∈l,Wd x)->y.1=l)):=by
 unfold C84 F84;dsimp only;refine pZ (P:=λy=>(∀x∈y.1,Wd x)/\((∀x∈l,Wd x)->y.1=l)) ?_ (λ_ h=>pP h);show Pf (F113 C115 C113_l0 _) _;unfold F113;dsimp only;refine pZ (P:=λy=>(∀x∈y.1,Wd x)/\((∀x∈l,Wd x)->y.1=l)) ?_ (λ_ h=>pP h);refine pL ?I ?h _ ?hv
 case I=>exact(λv=>∃(k:Nat) (o:List Int),k<=l.length/\v=(T,A,B,l,(l.length:Int),(k:Int),o,())/\(∀x∈o,Wd x)/\((∀x∈l,Wd x)->o=l.take k))
 case hv=>exact⟨0,[],zero_le _,rfl,λx hx=>(by cases hx),λ_=>rfl⟩
 rintro _ ⟨k,o,hk,rfl,h1,h2⟩;unfold F113_l0;dsimp only;simp only[toNat_natCast];refine pX (λhlt => ?_) (λhge => ?_)
 . have hlt':k<l.length:=by omega
   refine pX (λ_ => ?_) (λ_=>pN);refine pZ (w212 _) ?_;rintro⟨m,u⟩ ⟨h3,h4⟩;dsimp only at h3 h4 ⊢;rw[wrN k (by omega)];refine pX (λ_=>pP ⟨k+1,o++[m],by omega,rfl,λx hx => ?_,λhall => ?_⟩) (λ_=>pN)
   . rcases mem_append.1 hx with hx|hx
     . exact h1 x hx
     . rw[mem_singleton.1 hx];exact h3
   . rw[h2 hall,take_succ_get hlt',h4 (by rw[getD_lt hlt'];exact hall _ (getElem_mem _)),getD_lt hlt']
 . have:k=l.length:=by omega
   subst this;rw[take_length]at h2;exact pP ⟨h1,h2⟩
structure Fdd (T:List R6) (A:List R4) (B:List R3) (J:List Int):Prop where
 rt:∀x∈J,rightB x=true
 nf:∀x∈J,Nf B x
 wd:∀x∈J,Wd x
 o:∃O:List Int,(∀x∈O,on1 x=[x])/\BS (clx T A B) O/\C144 (T,A,B,O,())=some (J,())/\O.length<=1000000000000
theorem g213(h:TK T A B)(hL:LN B)(hN:LN (wideT B))(hk:CK T A B)(s:List UInt8)(hs:s.length<=10000000)(hn:∀x∈rl s,Nf B x/\Wd x):Pf (C116 (T,A,B,s,false,true,())) (λy=>y.2.1=true->∃J,Fdd T A B J/\y.1=J.flatMap enc):=by
 have hl:=rl_len s;have hd:∀x,Nf B x/\Wd x->Nf (wideT B) x:=λx hx=>nf_wide hx.1 hx.2;unfold C116 F116;dsimp only;rw[x83 s (by omega)];simp only[Option.bind_some];refine pX (λ_=>pP λh=>by cases h) (λ_ => ?_);refine pZ (pA (d240 T A B (rl s) false (by omega)).pf (pA (m240 (rl s) (by omega)) (pA (n240 hL (rl s) (by omega) λx hx=>(hn x hx).1) (n240 hN (rl s) (by omega) λx hx=>hd x (hn x hx))))) ?_;rintro⟨l2,u⟩ ⟨h2,e2,r2,q2⟩;dsimp only at h2 e2 r2 q2 ⊢;refine pZ (pA (s239 hk h.a l2 (by omega)) (pA (n239 hL l2 (by omega) r2) (n239 hN l2 (by omega) q2))) ?_;rintro⟨l3,u⟩ ⟨⟨b3,a3,h3⟩,r3,q3⟩;dsimp only at b3 a3 h3 r3 q3 ⊢;simp only[cond_true];refine pZ (P:=λy=>C144 (T,A,B,l3,())=some y/\(y.1.length<=l3.length)/\(∀x∈y.1,Nf B x)/\∀x∈y.1,Nf (wideT B) x) (λy e=>⟨e,(d241 T A B l3 (by omega) h.a).pf y e,(n241 hL l3 (by omega) r3 y e).1,(n241 hN l3 (by omega) q3 y e).1⟩) ?_;rintro⟨l4,u⟩ ⟨e4,h4,r4,q4⟩;dsimp only at h4 r4 q4 ⊢;have irr:∀x∈l3,on1 x=[x]:=by
  intro x hx;have hx2:x∈l2:=by
   by_cases hc:clx T A B x=0
   . have:x∈pj (clx T A B) 1 l3:=mem_filter.2 ⟨hx,by rw[ibT hc];rfl⟩
     rw[a3 1 (by omega)]at this;exact(mem_filter.1 this).1
   . have hp:0<clx T A B x:=by have:=(hk.bd x).1;omega
     have:x∈pj (clx T A B) (clx T A B x) l3:=mem_filter.2 ⟨hx,by rw[ibT (a:=clx T A B x) (b:=clx T A B x) rfl,Bool.or_true]⟩;rw[a3 _ hp]at this;exact(mem_filter.1 this).1
  rw[e2]at hx2;obtain⟨z,-,hz⟩:=mem_flatMap.1 hx2;exact on1_irr z x hz
 rcases str_of (l:=l4) (by omega)with⟨-,e⟩|⟨hr,e⟩
 . rw[e]
   exact pP λh=>by cases h
 . rw[e]
   exact pP λ_=>⟨l4,⟨hr,r4,λx hx=>wd_of (q4 x hx),l3,irr,b3,e4,by omega⟩,rfl⟩
theorem g151(h:TK T A B)(hL:LN B)(hN:LN (wideT B))(hW:LW B)(hk:CK T A B)(s:List UInt8)(hs:s.length<=2500000):Pf (C55 (T,A,B,s,())) (λy=>y.2.1=true->∃J,Fdd T A B J/\y.1=J.flatMap enc):=by
 have hl:=rl_len s;unfold C55 F55;dsimp only;rw[x83 s (by omega)];simp only[Option.bind_some];refine pX (λ_=>pP λh=>by cases h) (λ_ => ?_);refine pZ (pA (d180 T A B (rl s) (by omega)).pf (w180 (rl s) (by omega))) ?_;rintro⟨l2,u⟩ ⟨h2,w2,-⟩;dsimp only at h2 w2 ⊢;refine pZ (P:=λy=>y.1.length=l2.length/\∀x∈y.1,Nf B x/\Wd x) ?_ ?_
 . refine pM (pA (d179 T A B h.b l2 (by omega)).pf (P':=λy=>∀x∈y.1,Nf B x/\Wd x) ?_) λ_ h=>h
   unfold C83 F83;dsimp only;exact pZ (pA (n210 hL l2 (by omega)) (w210 hL hW l2 (by omega) w2)) λ_ h=>pP λx hx=>⟨h.1.1 x hx,h.2 x hx⟩
 rintro⟨l3,u⟩ ⟨h3,r3⟩;dsimp only at h3 r3 ⊢;have fin:∀x:List UInt8,x.length<=10000000->(∀v∈rl x,Nf B v/\Wd v)->Pf ((C85 (T,A,B,x,())).bind λval=>some (val.1,val.2.1,())) (λy=>y.2.1=true->∃J,Fdd T A B J/\y.1=J.flatMap enc):=by
  intro x hx hn;refine pZ (P:=λy=>y.2.1=true->∃J,Fdd T A B J/\y.1=J.flatMap enc) ?_ λ_ h=>pP h;unfold C85 F85;dsimp only;exact pZ (g213 h hL hN hk x hx hn) λ_ h=>pP h
 rcases str_of (l:=l3) (by omega)with⟨-,e⟩|⟨hr,e⟩
 . rw[e]
   exact fin [] (by simp) (λv hv=>by cases hv)
 . obtain⟨y,e2,h5⟩:=d178 l3 (by omega)
   rw[e]at e2;cases e2;rw[e];dsimp only at h5;exact fin (l3.flatMap enc) (by omega) (by rw[(rl_flat hr).1];exact r3)
theorem fold_fix(h:TK T A B)(hL:LN B)(hk:CK T A B){J:List Int}(hJ:Fdd T A B J)(hl:(J.flatMap enc).length<=1000000):C55 (T,A,B,J.flatMap enc,())=some (J.flatMap enc,true,()):=by
 obtain⟨e1,e2⟩:=rl_flat hJ.rt;have e3:badAt (J.flatMap enc) = -1:=badAt_nil e2;have hlen:J.length<=1000000:=by have:=rl_len (J.flatMap enc);rw[e1]at this;omega
 have h178:C82 (J,())=some (J.flatMap enc,true,()):=by
  rcases str_of (l:=J) (by omega)with⟨⟨x,hx,hx'⟩,-⟩|⟨-,e⟩
  . rw[hJ.rt x hx]at hx';cases hx'
  . exact e
 have h180:C84 (T,A,B,J,())=some (J,()):=by
  refine ex_of (d180 T A B J (by omega)) ?_;refine pM (w180 J (by omega)) λy hy => ?_;obtain⟨y1,u⟩:=y;have:=hy.2 hJ.wd;dsimp only at this;rw[this]
 have h179:C83 (T,A,B,J,())=some (J,()):=by
  refine ex_of (d179 T A B h.b J (by omega)) ?_;unfold C83 F83;dsimp only;refine pZ (n210 hL J (by omega)) λy hy=>pP ?_;rw[hy.2 hJ.nf]
 obtain⟨O,o1,o2,o3,o4⟩:=hJ.o;have h213:C116 (T,A,B,J.flatMap enc,false,true,())=some (J.flatMap enc,true,()):=by
  obtain⟨⟨l2,u⟩,f2,k2⟩:=d240 T A B J false (by omega);have g2:=m240 J (by omega) _ f2;dsimp only at g2 k2;obtain⟨⟨l3,u⟩,f3,k3⟩:=d239 h.a l2 (by omega);obtain⟨b3,a3,-⟩:=s239 hk h.a l2 (by omega) _ f3;dsimp only at b3 a3 k3;have hal:=m241 hk O (by omega) o1 _ o3;dsimp only at hal;have:l3=O:=bs_uniq (λx=>(hk.bd x).1) l3 O b3 o2 (a3.trans (by rw[g2];exact hal));subst this;show F116 C142 C143 C144 C34 C82 _=_;simp only[F116,x83 _ (show (J.flatMap enc).length<=1000000000 by omega),e1,e3,Option.bind_some,f2,f3,o3,h178,cond_true];rw[decide_eq_false (by omega)];rfl
 have h181:C85 (T,A,B,J.flatMap enc,())=some (J.flatMap enc,true,()):=by
  show F85 C116 _=_;simp only[F85,h213,Option.bind_some]
 show F55 C34 C82 C83 C84 C85 _=_;simp only[F55,x83 _ (show (J.flatMap enc).length<=1000000000 by omega),e1,e3,Option.bind_some,h180,h179,h178,h181];rw[decide_eq_false (by omega)];rfl
theorem fold_id(h:TK T A B)(hL:LN B)(hN:LN (wideT B))(hW:LW B)(hk:CK T A B)(s f:List UInt8)(hs:s.length<=600)(e:C55 (T,A,B,s,())=some (f,true,())):C55 (T,A,B,f,())=some (f,true,()):=by
 obtain⟨J,hJ,hf⟩:=g151 h hL hN hW hk s (by omega) _ e rfl;dsimp only at hf;subst hf;obtain⟨y,e',hy⟩:=d151 h s (by omega);rw[e]at e';cases e';dsimp only at hy;exact fold_fix h hL hk hJ (by omega)
theorem name_id(h:TK T A B)(hL:LN B)(hN:LN (wideT B))(hW:LW B)(hk:CK T A B)(a n:List UInt8)(ha:a.length<=600)(e:C30 (T,A,B,a,())=some (n,0,())):C30 (T,A,B,n,())=some (n,0,()):=by
 have key:∀f,C55 (T,A,B,a,())=some (f,true,())->Pf (C30 (T,A,B,a,())) (λy=>y.2.1=0->y.1=f):=by
  intro f ef;unfold C30 F30;dsimp only;rw[ef];simp only[Option.bind_some,Bool.not_true,cond_false];refine pZ pT ?_;rintro⟨c,u⟩ -
  dsimp only;refine pX (λhc=>pP λh=>(hc h).elim) (λ_ => ?_);refine pZ pT ?_;rintro⟨l,at_,u⟩ -
  dsimp only;refine pZ pT ?_;rintro⟨b,u⟩ -
  dsimp only;refine pX (λ_ => ?_) (λ_=>pP λ_=>rfl);refine pZ pT ?_;rintro⟨b,u⟩ -
  dsimp only;exact pX (λ_=>pP λh=>absurd h (by decide)) (λ_=>pP λ_=>rfl)
 obtain⟨⟨f,ok,u⟩,ef,-⟩:=d151 h a (by omega);cases ok with
 | false =>
  exfalso;have e':F30 C34 C55 C56 C57 C58 (T,A,B,a,())=some (n,0,()):=e;simp only[F30,ef,Option.bind_some,Bool.not_false,cond_true,Option.some.injEq,Prod.mk.injEq]at e';exact absurd e'.2.1 (by decide)
 | true =>
  have hn:=key f ef _ e rfl;dsimp only at hn;subst hn;have e2:=fold_id h hL hN hW hk a n ha ef;rw[<-e];show F30 C34 C55 C56 C57 C58 _=F30 C34 C55 C56 C57 C58 _;unfold F30;dsimp only;rw[e2,ef]
end
open Go.Pl (rl rr rr_le enc enc1 rightB rightB_iff lenE lenE1 lenE_cases b8 b8_val b8_of rl_right rl_len badAt badAt_neg)
theorem u251l(n b k:Int)(o:List UInt8):Pf (C191_l0 (n,b,k,o,())) (λy=>o.length+1<=y.1.length/\y.1.length<=140737488355328):=by
 refine pL ?I ?h _ ?hv
 case I=>exact(λv=>o.length<=v.2.2.2.1.length)
 case hv=>exact(le_refl _)
 rintro⟨n,b,k,o',u⟩ hI;dsimp only at hI;unfold F191_l0;dsimp only;refine pZ pT ?_;rintro⟨t,u⟩ -
 dsimp only;refine pX (λ_ => ?_) (λ_ => ?_)
 . refine pZ pT ?_
   rintro⟨c,u⟩ -
   dsimp only;refine pX (λh=>pP ?_) (λ_=>pN);show o.length+1<=(o'++[_]).length/\(o'++[_]).length<=_;simp only[vl]at h ⊢;omega
 . refine pX (λ_ => ?_) (λ_=>pN)
   refine pZ pT ?_;rintro⟨c,u⟩ -
   dsimp only;refine pX (λh => ?_) (λ_=>pN);refine pX (λ_=>pP ?_) (λ_=>pN);show o.length<=(o'++[_]).length;simp only[vl];omega
theorem u251(n b:Int)(o:List UInt8):Pf (C191 (n,b,o,())) (λy=>o.length+1<=y.1.length/\y.1.length<=140737488355328):=by
 unfold C191 F191;dsimp only;refine pZ pT ?_;rintro⟨t,u⟩ -
 dsimp only;refine pX (λ_ => ?_) (λ_ => ?_)
 . refine pZ pT ?_
   rintro⟨c,u⟩ -
   dsimp only;refine pX (λh=>pP ?_) (λ_=>pN);simp only[vl]at h ⊢;omega
 . refine pX (λ_ => ?_) (λ_=>pN)
   refine pZ pT ?_;rintro⟨c,u⟩ -
   dsimp only;refine pX (λh => ?_) (λ_=>pN);refine pX (λ_ => ?_) (λ_=>pN);refine pZ (u251l _ _ _ _) ?_;rintro⟨y,u⟩ hy;simp only[vl]at hy;refine pP ?_;dsimp only;omega
theorem u223_1(l:List Int)(P m delta bias h:Int)(o:List UInt8)(h0:0<=h/\h<=o.length)(ho:o.length<=140737488355328) :
 Pf (C157_l1 (l,P,m,delta,bias,h,l,(l.length:Int),0,o,())) (λy=>y.1=l/\(0<=y.2.2.2.2.2.1/\y.2.2.2.2.2.1<=y.2.2.2.2.2.2.1.length)/\y.2.2.2.2.2.2.1.length<=140737488355328):=by
 refine pL ?I ?h _ ?hv
 case I=>exact(λv=>v.1=l/\(0<=v.2.2.2.2.2.1/\v.2.2.2.2.2.1<=v.2.2.2.2.2.2.2.2.2.1.length)/\v.2.2.2.2.2.2.2.2.2.1.length<=140737488355328)
 case hv=>exact⟨rfl,h0,ho⟩
 rintro⟨l0,P,n,delta,bias,h,l',N,p,o,u⟩ ⟨e,h0,ho⟩;dsimp only at e h0 ho;subst e;unfold F157_l1;dsimp only;refine pX (λ_ => ?_) (λ_=>pP ⟨rfl,h0,ho⟩);refine pX (λ_ => ?_) (λ_=>pN);refine pX (λ_=>pP ⟨rfl,h0,ho⟩) (λ_ => ?_);refine pX (λ_ => ?_) (λ_=>pP ⟨rfl,h0,ho⟩);refine pZ (u251 _ _ o) ?_;rintro⟨o2,u⟩ ⟨g1,g2⟩;dsimp only at g1 g2 ⊢;refine pZ pT ?_;rintro⟨b2,u⟩ -
 rw[w64s (n:=h+1) (by omega)];refine pP ⟨rfl,?_,g2⟩;dsimp only;omega
theorem u223_2(l:List Int)(P h:Int)(o:List UInt8)(h0:0<=h/\h<=o.length)(ho:o.length<=140737488355328) :
 Pf (C157_l2 (l,P,128,0,72,h,o,())) (Sum.elim (λy=>l.length<=y.1.length) (λy=>y.2.1=false)):=by
 refine pL ?I ?h _ ?hv
 case I=>exact(λv=>v.1=l/\(0<=v.2.2.2.2.2.1/\v.2.2.2.2.2.1<=v.2.2.2.2.2.2.1.length)/\v.2.2.2.2.2.2.1.length<=140737488355328)
 case hv=>exact⟨rfl,h0,ho⟩
 rintro⟨l0,P,n,delta,bias,h,o,u⟩ ⟨e,h0,ho⟩;dsimp only at e h0 ho;subst e;unfold F157_l2;dsimp only;refine pX (λ_ => ?_) (λhge=>pP ?_)
 . refine pZ pT ?_
   rintro⟨m,u⟩ -
   dsimp only;refine pX (λ_=>pP rfl) (λ_ => ?_);refine pZ (u223_1 l0 P m _ bias h o h0 ho) ?_;rintro⟨a,b,c,d,e,f,g,u⟩ ⟨h1,h2,h3⟩;exact pP ⟨h1,h2,h3⟩
 . show l0.length<=o.length
   omega
theorem u223(l:List Int)(hl:l.length<=1000000000000):Pf (C157 (l,())) (λy=>y.2.1=true->l.length<=y.1.length):=by
 unfold C157 F157;dsimp only;refine pZ (pl223_0 l hl) ?_;intro z hz;refine pS hz ?_ (λy h=>pP λh'=>by rw[h]at h';cases h');rintro _ ⟨rfl,hR⟩;have hle:=List.length_filter_le (λr:Int=>decide (r<128)) l;have hlen:(pb (lt' 128 l)).length=(lt' 128 l).length:=by simp[pb]
 have hle':(lt' 128 l).length<=l.length:=by unfold lt';omega
 have key:∀pre:List UInt8,(pb (lt' 128 l)).length<=pre.length->pre.length<=140737488355328->Pf (C157_c0 (l,((pb (lt' 128 l)).length:Int),pre,())) (λy=>y.2.1=true->l.length<=y.1.length):=by
  intro pre hpre hp2;unfold C157_c0 F157_c0;dsimp only;refine pZ (u223_2 l _ _ pre (by omega) hp2) ?_;intro z hz;refine pS hz ?_ (λy h=>pP λh'=>by rw[h]at h';cases h');intro y h;exact pP λ_=>h
 dsimp only;refine pX (λhpos => ?_) (λhpos => ?_)
 . refine pX (λh => ?_) (λ_=>pN)
   refine pZ (key _ (by simp) (by simp only[vl]at h ⊢;omega)) ?_;intro y hy;exact pP hy
 . refine pZ (key _ (le_refl _) (by omega)) ?_
   intro y hy;exact pP hy
section
variable {T:List R6} {A:List R4} {B:List R3}
theorem f260(l:List Int):Pf (C200 (T,A,B,l,())) (λy=>y.2=(T,A,B,l,())):=by
 unfold C200 F200;dsimp only;exact pZ pT λ_ _=>pP rfl
theorem f262(l:List Int):Pf (C202 (T,A,B,l,())) (λy=>y.2=(T,A,B,l,())):=by
 unfold C202 F202;dsimp only;refine pZ pT ?_;rintro⟨b,u⟩ -
 dsimp only;refine pX (λ_ => ?_) (λ_=>pP rfl);exact pZ pT λ_ _=>pP rfl
theorem f263(l:List Int)(c:List UInt8)(d:Bool):Pf (C203 (l,c,d,())) (λy=>∃code ok,C157 (l,())=some (code,ok,())/\y=(!ok,l,code,ok,())):=by
 unfold C203 F203;dsimp only;refine pZ (P:=λy=>C157 (l,())=some y) (λy e=>e) ?_;rintro⟨code,ok,u⟩ e;refine pP ⟨code,ok,e,?_⟩;cases ok<;>rfl
theorem w224(s:List UInt8)(hs:s.length<=1000000000):Pf (C158 (T,A,B,s,())) (λy=>y.1=0->badAt s<0/\∃code,C157 (rl s,())=some (code,true,())/\4+code.length<=63):=by
 have hl:=rl_len s;unfold C158 F158;dsimp only;rw[x83 s hs];simp only[Option.bind_some];refine pZ (P:=λy=>y.1=0->badAt s<0/\∃code,C157 (rl s,())=some (code,true,())/\4+code.length<=63) ?_ (λ_ h=>pP h);unfold C193 F193;dsimp only;refine pZ (P:=λy=>y=(decide (badAt s>=0),badAt s,())) (pP rfl) ?_;rintro _ rfl;dsimp only;refine pX (λ_=>pP λh=>absurd h (by dsimp only;decide)) (λhb => ?_);refine pZ (p255 s) ?_;rintro⟨b2,y⟩ hy;dsimp only at hy;subst hy;dsimp only;refine pX (λ_=>pP λh=>absurd h (by dsimp only;decide)) (λ_ => ?_);refine pZ (p257 s) ?_;rintro⟨b3,s',u⟩ hs';dsimp only at hs' ⊢;refine pX (λ_=>pP λh=>absurd h (by dsimp only;decide)) (λ_ => ?_);refine pZ (p259 (rl s)) ?_;rintro⟨b4,y⟩ hy;dsimp only at hy;subst hy;dsimp only;refine pX (λ_=>pP λh=>absurd h (by dsimp only;decide)) (λ_ => ?_);refine pZ (f260 (rl s)) ?_;rintro⟨b5,y⟩ hy;dsimp only at hy;subst hy;dsimp only;refine pX (λ_=>pP λh=>absurd h (by dsimp only;decide)) (λ_ => ?_);refine pZ (f262 (rl s)) ?_;rintro⟨b6,y⟩ hy;dsimp only at hy;subst hy;dsimp only;refine pX (λ_=>pP λh=>absurd h (by dsimp only;decide)) (λ_ => ?_);refine pZ (f263 (rl s) _ _) ?_;rintro _ ⟨code,ok,e,rfl⟩;dsimp only;cases ok with
 | false=>exact pP λh=>absurd h (by dsimp only;decide)
 | true =>
  simp only[Bool.not_true,cond_false];obtain⟨y,ey,hy⟩:=d223 (rl s) (by omega);rw[e]at ey;cases ey;dsimp only at hy;refine pZ (P:=λy=>y=(decide (IntKind.i64.wrap (4+(code.length:Int))>63),code,())) (pP rfl) ?_;rintro _ rfl;rw[w64s (n:=4+(code.length:Int)) (by omega)];dsimp only;refine pX (λ_=>pP λh=>absurd h (by dsimp only;decide)) (λh63=>pP λ_=>⟨by omega,code,e,by omega⟩)
end
open Go.Pl (rl rr rr_le enc enc1 rightB rightB_iff lenE lenE1 b8 b8_of rl_right rl_len badAt badAt_neg)
theorem c132a(x r:List UInt8)(hx:x.length+r.length<=1000000000000):C156 (x++r,x,())=some (r,true,()):=by
 have hl:(((x++r).length:Nat):Int)=(x.length:Int)+r.length:=by simp
 have h1:C92 (x++r,x,())=some (true,()):=by
  show F92 _=_;simp only[F92];rw[hl,decide_eq_true (show (x.length:Int)+r.length>=(x.length:Int) by omega),decide_eq_true (show (0:Int)<=(x.length:Int) by omega),toNat_natCast,List.take_left,beq_self_eq_true];rfl
 have h2:C189 (x++r,x,())=some (r,true,()):=by
  show F189 C92 _=_;simp only[F189,h1,Option.bind_some,Bool.not_true,cond_false];rw[hl,decide_eq_true (show (0:Int)<=(x.length:Int) by omega),decide_eq_true (show (x.length:Int)<=(x.length:Int)+r.length by omega),toNat_natCast,List.drop_left];rfl
 show F156 C189 _=_;simp only[F156,h2,Option.bind_some]
section
variable {T:List R6} {A:List R4} {B:List R3}
theorem g192(h:TK T A B)(hL:LN B)(p:List UInt8)(hp:p.length<=620000):Pf (C127 (T,A,B,p,())) (λy=>y.2.2.1=0->∃f,C55 (T,A,B,p,())=some (f,true,())/\NS B f/\((y.1=f/\∀c∈f,c.toNat<128)\/(badAt f<0/\f.length<=1000000000/\∃code,C157 (rl f,())=some (code,true,())/\4+code.length<=63/\y.1=[120,110,45,45]++code/\C158 (T,A,B,f,())=some (0,())))):=by
 unfold C127 F127;dsimp only;refine pZ (P:=λy=>C55 (T,A,B,p,())=some y/\NS B y.1/\y.1.length<=1000000000) (λy e=>⟨e,n151 h hL p (by omega) y e,?_⟩) ?_
 . obtain⟨y',e',hy'⟩:=d151 h p (by omega)
   rw[e]at e';cases e';omega
 rintro⟨f,ok,u⟩ ⟨e,hn,hlen⟩;dsimp only at hn hlen ⊢;refine pZ pT ?_;rintro⟨rest,is,u⟩ -
 dsimp only;cases ok with
 | false=>exact pP λh=>absurd h (by dsimp only;decide)
 | true =>
  simp only[Bool.not_true,cond_false];refine pZ (c21n f (by omega)) ?_;rintro⟨e8,u⟩ h8;dsimp only at h8 ⊢;refine pX (λ_ => ?_) (λhneg => ?_)
  . rw[x83 f hlen]
    simp only[Option.bind_some];refine pZ (P:=λy=>C157 (rl f,())=some y) (λy e=>e) ?_;rintro⟨code,ok2,u⟩ e223;dsimp only;refine pX (λ_ => ?_) (λ_=>pN);refine pZ (P:=λy=>C158 (T,A,B,f,())=some y) (λy e=>e) ?_;rintro⟨w,u⟩ e224;refine pP λh0 => ?_;dsimp only at h0;subst h0;obtain⟨hb,code',e',h63⟩:=w224 f hlen _ e224 rfl;rw[e223]at e';cases e';exact⟨f,e,hn,.inr ⟨hb,hlen,code,e223,h63,rfl,e224⟩⟩
  . have ha:=h8 (by omega)
    refine pX (λ_ => ?_) (λ_ => ?_)
    . refine pZ pT ?_
      rintro⟨c,u⟩ -
      exact pP λ_=>⟨f,e,hn,.inl ⟨rfl,ha⟩⟩
    . refine pZ pT ?_
      rintro⟨l,okX3,u⟩ -
      dsimp only;refine pX (λ_=>pP λh=>absurd h (by dsimp only;decide)) (λ_ => ?_);refine pX (λ_=>pP λh=>absurd h (by dsimp only;decide)) (λ_ => ?_);refine pZ pT ?_;rintro⟨us,b,u⟩ -
      dsimp only;refine pZ pT ?_;rintro⟨w,u⟩ -
      dsimp only;refine pX (λhw=>pP λh=>(hw h).elim) (λ_ => ?_);refine pZ pT ?_;rintro⟨code,b3,u⟩ -
      dsimp only;refine pX (λ_=>pP λh=>absurd h (by dsimp only;decide)) (λ_=>pP λ_=>⟨f,e,hn,.inl ⟨rfl,ha⟩⟩)
theorem e159{p a:List UInt8}(e:C95 (T,A,B,p,())=some (a,0,())):∃w,C127 (T,A,B,p,())=some (a,w,0,()):=by
 have e':F95 C127 (T,A,B,p,())=some (a,0,()):=e;unfold F95 at e';dsimp only at e';cases hc:C127 (T,A,B,p,())with
 | none=>rw[hc]at e';cases e'
 | some y =>
  obtain⟨x,w,c,u⟩:=y;rw[hc]at e';simp only[Option.bind_some]at e';by_cases hz:c=0
  . subst hz
    refine⟨w,?_⟩;have e2:some (x,(0:Int),())=some (a,0,()):=e';cases e2;rfl
  . rw[inT hz]at e'
    simp only[cond_true,Option.some.injEq,Prod.mk.injEq]at e';exact(hz e'.2.1).elim
theorem f159{p a w:List UInt8}(e:C127 (T,A,B,p,())=some (a,w,0,())):C95 (T,A,B,p,())=some (a,0,()):=by
 show F95 C127 _=_;simp only[F95,e,Option.bind_some];rfl
theorem same192{x y:List UInt8}(e:C55 (T,A,B,x,())=C55 (T,A,B,y,())):C127 (T,A,B,x,())=C127 (T,A,B,y,()):=by
 show F127 C12 C156 C157 C158 C159 C160 C34 C55 C82 _=F127 C12 C156 C157 C158 C159 C160 C34 C55 C82 _;unfold F127;dsimp only;rw[e]
theorem lab(h:TK T A B)(hL:LN B)(hC:LC T A B)(p:List UInt8)(hp:p.length<=620000)(a:List UInt8)(ha:a.length<=100000)(e:C95 (T,A,B,p,())=some (a,0,())):C95 (T,A,B,a,())=some (a,0,())/\Lw B a:=by
 obtain⟨w,e192⟩:=e159 e;obtain⟨f,e151,hn,hcase⟩:=g192 h hL p hp _ e192 rfl;dsimp only at hcase;rcases hcase with⟨rfl,hasc⟩|⟨hb,hlen,code,e223,h63,rfl,e224⟩
 . have hw:Lw B a:=λc hc=>⟨hasc c hc,hn c hc (hasc c hc)⟩
   refine⟨f159 (w:=w) ?_,hw⟩;rw[same192 ((i151 h hL hC a ha hw).trans e151.symm)];exact e192
 . have hlc:(rl f).length<=code.length:=u223 (rl f) (by have:=rl_len f;omega) _ e223 rfl
   obtain⟨p1,p2,p3,p4,p5,p6⟩:=puny (rl f) (by omega) code e223;have hrb:=rl_back hb;have low:∀c:UInt8,c.toNat<128->(c.toNat:Int)∈rl f->c∈f:=by
    intro c h1 hc;rw[<-hrb];refine mem_flatMap.2 ⟨_,hc,?_⟩;rw[enc1 (lenE1 (by omega) (by omega)),b8_of rfl];exact List.mem_singleton_self _
   have hcode:∀c∈code,Nf B (c.toNat:Int):=by
    intro c hc;have h128:=p4 c hc;rcases p6 c hc with rfl|h6|h6
    . exact hL.lo _ (by decide) (by decide) (by decide)
    . exact hL.lo _ (by omega) (by omega) (by omega)
    . exact hn c (low c h128 h6) h128
   have hw:Lw B ([120,110,45,45]++code):=by
    intro c hc;rcases mem_append.1 hc with hc|hc
    . simp only[mem_cons,not_mem_nil,or_false]at hc
      rcases hc with rfl|rfl|rfl|rfl;all_goals exact⟨by decide,hL.lo _ (by decide) (by decide) (by decide)⟩
    . exact⟨p4 c hc,hcode c hc⟩
   refine⟨f159 (w:=f) ?_,hw⟩;have e151a:=i151 h hL hC ([120,110,45,45]++code) ha hw;have e132:=c132a [120,110,45,45] code (by simp only[length_cons,length_nil];omega);have e21:=c21y ([120,110,45,45]++code) (by omega) λc hc=>(hw c hc).1;have e178:C82 (rl f,())=some (f,true,()):=by
    rcases str_of (l:=rl f) (by omega)with⟨⟨x,hx,hx'⟩,-⟩|⟨-,e⟩
    . rw[rl_right f x hx]at hx'
      cases hx'
    . rw[e,hrb]
   have hl63:¬((([120,110,45,45]++code:List UInt8).length:Nat):Int)>63:=by
    simp only[vl];omega
   show F127 C12 C156 C157 C158 C159 C160 C34 C55 C82 _=_;simp only[F127,e151a,e132,e21,p1,e178,e224,e223,Option.bind_some,Bool.not_true,cond_false];rw[decide_eq_false (show ¬(-1:Int)>=0 by decide),decide_eq_false hl63];simp only[cond_false,beq_self_eq_true,Bool.not_true];rfl
end
def Tk.up:Tk->Tk
 | .ok t u => .ok t (1+u)
 | .bad off e => .bad (1+off) e
 | .start => .start
def one(c:UInt8)(r:List UInt8):Int×Tk :=
 if atomB c=true then(0,.ok ((c::r).take (al (c::r))) (al (c::r)))
 else if signB c=true then(2,.ok [c] 1)
 else if c.toNat=34 then(1,(qt r).up)
 else if c.toNat=91 then(5,(ltk r).up)
 else if c.toNat=40 then(3,(nt 1 r).up)
 else if wl (c::r)=0 then(4,.start)else(4,.ok ((c::r).take (wl (c::r))) (wl (c::r)))
theorem fin_up(s:List UInt8)(p:Nat)(bad err:Int)(k:Tk):fin s p bad err (p+1) k=fin s p bad err p k.up:=by
 cases k<;>simp[fin,Tk.up,Nat.add_assoc]
def tkres(s:List UInt8)(p:Nat)(bad err:Int)(x:Int×Tk):Int×List UInt8×Int×List UInt8×Int×Int×Int×Unit :=
 (x.1,(fin s p bad err p x.2).1,(p:Int),(fin s p bad err p x.2).2)
theorem c16(pre r:List UInt8)(c:UInt8)(p:Nat)(bad err:Int)(hp:pre.length=p)(hb:p+r.length<=140737488354000) :
 C66 (pre++c::r,(p:Int),bad,err,())=some (tkres (pre++c::r) p bad err (one c r)):=by
 show F66 C100 C101 C102 C103 C104 C105 C106 C107 C66_c0 (pre++c::r,(p:Int),bad,err,())=_;have h21:=c21 pre (c::r) p bad err hp (by simp;omega);have h26:=c26 pre (c::r) p bad err hp (by simp;omega);have h23:=c23 pre r c p bad err hp (by omega);have h24:=c24 pre r c p bad err hp (by omega);unfold one;by_cases h1:atomB c=true
 . rw[if_pos h1]
   simp (disch:=(first|omega|(simp only[vl];omega))) only[F66,C66_c0,F66_c0,Sk,c17,h1,h21,tkres,fin]
 . rw[if_neg h1]
   have h1':atomB c=false:=by simpa using h1
   by_cases h2:signB c=true
   . rw[if_pos h2]
     have h2':signI c>=0:=by simpa[signB]using h2
     have ht:List.drop p (List.take (p+1) (pre++c::r))=[c]:=by rw[text_eq hp];rfl
     simp (disch:=(first|omega|(simp only[vl];omega))) only[F66,C66_c0,F66_c0,Sk,c17,h1',c22s,ht,tkres,fin]
   . rw[if_neg h2]
     have h2':¬signI c>=0:=by simpa[signB]using h2
     by_cases h3:c.toNat=34
     . rw[if_pos h3]
       rw[fin_up]at h23;simp (disch:=(first|omega|(simp only[vl];omega))) only[F66,C66_c0,F66_c0,Sk,c17,h1',c22s,h23,tkres]
     . rw[if_neg h3]
       by_cases h4:c.toNat=91
       . rw[if_pos h4]
         rw[fin_up]at h24;simp (disch:=(first|omega|(simp only[vl];omega))) only[F66,C66_c0,F66_c0,Sk,c17,h1',c22s,h24,tkres]
       . rw[if_neg h4]
         by_cases h5:c.toNat=40
         . rw[if_pos h5]
           have h25:=c25 pre r c p bad err h5 hp (by omega);rw[fin_up]at h25;simp (disch:=(first|omega|(simp only[vl];omega))) only[F66,C66_c0,F66_c0,Sk,c17,h1',c22s,h25,tkres]
         . rw[if_neg h5]
           by_cases h6:wl (c::r)=0
           . rw[if_pos h6]
             rw[h6]at h26;simp (disch:=(first|omega|(simp only[vl];omega))) only[F66,C66_c0,F66_c0,Sk,c17,h1',c22s,h26,tkres,fin,take_zero,c27,beq_self_eq_true,add_zero]
           . rw[if_neg h6]
             obtain⟨w,hw⟩:∃w,wl (c::r)=w+1:=⟨wl (c::r)-1,by omega⟩
             have hne:((c::r).take (wl (c::r))==[])=false:=by rw[hw];rfl
             simp (disch:=(first|omega|(simp only[vl];omega))) only[F66,C66_c0,F66_c0,Sk,c17,h1',c22s,h26,tkres,fin,hne]
abbrev Tok:=Int×(List UInt8×Int)
def lx:Nat->List UInt8->Nat->List Tok⊕(Nat×Int)
 | 0,_,_ => .inl []
 | n+1,s,p=>match s with
  | [] => .inl []
  | c::r=>match one c r with
   | (k,.ok t u)=>match lx n ((c::r).drop u) (p+u)with
    | .inl l => .inl ((k,t,(p:Int))::l)
    | .inr e => .inr e
   | (_,.bad off e) => .inr (p+off,e)
   | (_,.start) => .inr (p,4)
theorem qt_used:∀(m:Nat) {r t:List UInt8} {u:Nat},r.length<=m->qt r = .ok t u->t.length+1<=u/\u<=r.length
 | _,[],t,u,_,h=>by simp[qt]at h
 | 0,c::r,t,u,hm,h=>by simp at hm
 | m+1,c::r,t,u,hm,h=>by
  simp only[length_cons]at hm ⊢;by_cases e1:c.toNat=34
  . rw[qt_q e1]at h;cases h;simp
  . by_cases e2:c.toNat=92
    . match r,hm,h with
      | [],hm,h=>rw[qt_b0 e2]at h;cases h
      | d::r',hm,h =>
       rw[qt_b1 e2]at h;cases hd:mayB d<;>rw[hd]at h
       . cases h
       . obtain⟨t',u',h1,rfl,rfl⟩:=push_ok h
         have:=qt_used m (by simp at hm;omega) h1;simp;omega
    . rw[qt_c e1 e2]at h
      cases hd:mayB c<;>rw[hd]at h
      . cases h
      . obtain⟨t',u',h1,rfl,rfl⟩:=push_ok h
        have:=qt_used m (by omega) h1;simp;omega
theorem up_ok{k:Tk}{t:List UInt8}{u:Nat}(h:k.up = .ok t u):∃u',k = .ok t u'/\u=1+u':=by
 cases k<;>simp[Tk.up]at h
 obtain⟨rfl,rfl⟩:=h;exact⟨_,rfl,rfl⟩
theorem al_pos{c:UInt8}{r:List UInt8}(h:atomB c=true):1<=al (c::r):=by simp[al,h]
theorem one_used{c:UInt8}{r t:List UInt8}{k:Int}{u:Nat}(h:one c r=(k,.ok t u)):1<=u/\u<=r.length+1:=by
 unfold one at h;split at h
 . rename_i h1
   cases h;have:=al_le (c::r);exact⟨al_pos h1,by simpa using this⟩
 . split at h
   . cases h;exact⟨by omega,by omega⟩
   . split at h
     . obtain⟨u',h1,rfl⟩:=up_ok (Prod.mk.inj h).2
       have:=qt_used _ (le_refl _) h1;omega
     . split at h
       . obtain⟨u',h1,rfl⟩:=up_ok (Prod.mk.inj h).2
         have:=ltk_ok h1;omega
       . split at h
         . obtain⟨u',h1,rfl⟩:=up_ok (Prod.mk.inj h).2
           have:=nt_ok _ (le_refl _) h1;omega
         . split at h
           . cases h
           . rename_i h6
             cases h;have:=wl_le (c::r);exact⟨by omega,by simpa using this⟩
def rL11(out:List Tok):List Tok⊕(Nat×Int)->(List Tok×Unit)⊕(Int×Int×Unit)
 | .inl l => .inl (out++l,())
 | .inr (b,e) => .inr ((b:Int),e,())
def Tk.eok:Tk->Prop
 | .bad _ e=>e=4\/e=6
 | _=>True
theorem push_eok{k:Tk}{l:List UInt8}{n:Nat}(h:k.eok):(k.push l n).eok:=by cases k<;>first|exact h|exact trivial
theorem up_eok{k:Tk}(h:k.eok):k.up.eok:=by cases k<;>first|exact h|exact trivial
theorem qt_e:∀(m:Nat) (r:List UInt8),r.length<=m->(qt r).eok
 | _,[],_=>trivial
 | 0,c::r,hm=>by simp at hm
 | m+1,c::r,hm=>by
  simp only[length_cons]at hm;by_cases e1:c.toNat=34
  . rw[qt_q e1];trivial
  . by_cases e2:c.toNat=92
    . match r,hm with
      | [],hm=>rw[qt_b0 e2];trivial
      | d::r',hm =>
       rw[qt_b1 e2];cases mayB d
       . exact .inl rfl
       . exact push_eok (qt_e m r' (by simp at hm;omega))
    . rw[qt_c e1 e2]
      cases mayB c
      . exact .inl rfl
      . exact push_eok (qt_e m r (by omega))
theorem ltk_e:∀r:List UInt8,(ltk r).eok
 | []=>trivial
 | c::r=>by
  unfold ltk;split
  . trivial
  . split
    . exact .inl rfl
    . split
      . exact .inl rfl
      . cases blankB c
        . cases mayB c
          . exact .inl rfl
          . exact push_eok (ltk_e r)
        . exact .inl rfl
theorem nt_e:∀(m deep:Nat) (r:List UInt8),r.length<=m->(nt deep r).eok
 | _,_,[],_=>by simp[nt,Tk.eok]
 | 0,_,c::r,hm=>by simp at hm
 | m+1,deep,c::r,hm=>by
  simp only[length_cons]at hm;by_cases e1:c.toNat=40
  . rw[nt_o e1]
    split
    . exact .inr rfl
    . exact push_eok (nt_e m _ r (by omega))
  . by_cases e2:c.toNat=41
    . rw[nt_c e2]
      split
      . trivial
      . exact push_eok (nt_e m _ r (by omega))
    . by_cases e3:c.toNat=92
      . match r,hm with
        | [],hm=>rw[nt_b0 e3];trivial
        | d::r',hm =>
         rw[nt_b1 e3];cases mayB d
         . exact .inl rfl
         . exact push_eok (nt_e m _ r' (by simp at hm;omega))
      . rw[nt_m e1 e2 e3]
        cases mayB c
        . exact .inl rfl
        . exact push_eok (nt_e m _ r (by omega))
theorem one_e(c:UInt8)(r:List UInt8):(one c r).2.eok:=by
 unfold one;split
 . trivial
 . split
   . trivial
   . split
     . exact up_eok (qt_e _ r (le_refl _))
     . split
       . exact up_eok (ltk_e r)
       . split
         . exact up_eok (nt_e _ _ r (le_refl _))
         . split<;>trivial
theorem l11(s:List UInt8):∀(m:Nat) (r pre:List UInt8) (out:List Tok) (bad:Int) (p n:Nat),r.length<=m->s=pre++r->pre.length=p->r.length<n->p+r.length<=100000->out.length+r.length<=100000 ->
 loopN (F37_l0 C34 C66) n (s,out,s,(p:Int),bad,0,())=some (rL11 out (lx m r p))
 | _,_,_,_,_,_,0,_,_,_,hn,_,_=>by omega
 | 0,[],pre,out,bad,p,n+1,hm,hs,hp,hn,hb,ho=>by
  refine loopN_inr ?_;have:s.length=p:=by rw[hs];simp[hp]
  simp (disch:=(first|omega|(simp only[vl];omega))) only[F37_l0,this,Sk,lx,rL11,append_nil]
 | m+1,[],pre,out,bad,p,n+1,hm,hs,hp,hn,hb,ho=>by
  refine loopN_inr ?_;have:s.length=p:=by rw[hs];simp[hp]
  simp (disch:=(first|omega|(simp only[vl];omega))) only[F37_l0,this,Sk,lx,rL11,append_nil]
 | 0,c::r,pre,out,bad,p,n+1,hm,hs,hp,hn,hb,ho=>by simp at hm
 | m+1,c::r,pre,out,bad,p,n+1,hm,hs,hp,hn,hb,ho=>by
  simp only[length_cons]at hm hn hb ho;have h16:=c16 pre r c p bad 0 hp (by omega);have he:=one_e c r;rw[<-hs]at h16;have hl:s.length=p+(r.length+1):=by rw[hs];simp[hp]
  cases h1:one c r with
  | mk k tk =>
   rw[h1]at h16 he;cases tk with
   | ok t u =>
    have hu:=one_used h1;rw[loopN_inl (v':=(s,out++[(k,t,(p:Int))],s,((p+u:Nat):Int),bad,0,())) (by
     simp (disch:=(first|omega|(simp only[vl];omega))) only[F37_l0,hl,Sk,h16,tkres,fin])]
    have:=l11 s m ((c::r).drop u) (pre++(c::r).take u) (out++[(k,t,(p:Int))]) bad (p+u) n (by simp;omega) (by rw[hs,append_assoc,take_append_drop]) (by simp[hp];omega) (by simp;omega) (by simp;omega) (by simp;omega);rw[this];simp only[lx,h1];cases lx m ((c::r).drop u) (p+u)with
    | inl l=>simp[rL11]
    | inr e=>rfl
   | bad off e =>
    have he':e=4\/e=6:=he;refine loopN_inr ?_;simp (disch:=(first|omega|(simp only[vl];omega))) only[F37_l0,hl,Sk,h16,tkres,fin,lx,h1,rL11]
   | start =>
    refine loopN_inr ?_;simp (disch:=(first|omega|(simp only[vl];omega))) only[F37_l0,hl,Sk,h16,tkres,fin,lx,h1,rL11]
def lexs(s:List UInt8)(p:Nat):List Tok⊕(Nat×Int):=lx s.length s p
def end1:List Tok⊕(Nat×Int)->List Tok×Int×Int
 | .inl l=>(l,0,0)
 | .inr x=>([],(x.1:Int),x.2)
def end2:Option Nat->List Tok⊕(Nat×Int)->List Tok×Int×Int
 | some b,_=>([],(b:Int),7)
 | none,x=>end1 x
def lexR(s:List UInt8):List Tok×Int×Int:=if 2000<s.length then([],0,5)else end2 (utf s) (lexs s 0)
theorem c11(s:List UInt8):C37 (s,())=some ((lexR s).1,(lexR s).2.1,(lexR s).2.2,()):=by
 show F37 C34 C66 C37_l0 (s,())=_;unfold lexR;by_cases h:2000<s.length
 . simp only[if_pos h]
   simp (disch:=(first|omega|(simp only[vl];omega))) only[F37,Sk]
 . simp only[if_neg h]
   obtain⟨o,h15⟩:=c15 s (by omega);cases hu:utf s with
   | some b =>
    rw[hu]at h15;simp only at h15;simp (disch:=(first|omega|(simp only[vl];omega))) only[F37,Sk,h15,end2]
   | none =>
    rw[hu]at h15;have hl:=l11 s s.length s [] [] 0 0 big (le_refl _) (by simp) rfl (by unfold big;omega) (by omega) (by simp;omega);have hl':C37_l0 (s,[],s,0,0,0,())=some (rL11 [] (lexs s 0)):=hl;simp (disch:=(first|omega|(simp only[vl];omega))) only[F37,Sk,h15,hl'];cases lexs s 0 with
    | inl l=>simp[rL11,end2,end1]
    | inr x=>obtain⟨b,e⟩:=x;simp[rL11,end2,end1]
def asciiB(c:UInt8):Bool:=decide (c.toNat<128)
theorem asc_k:((List.range 256).all λn=>(λc:UInt8 => !asciiB c||(decide (leadN c=0)&&decide (lenR (leadV c)=1))) (UInt8.ofNat n))=true:=by kernel_rfl
theorem ch_asc{c:UInt8}(h:c.toNat<128)(r:List UInt8):ch (c::r)=1:=by
 have h1:(!asciiB c||(decide (leadN c=0)&&decide (lenR (leadV c)=1)))=true:=all256 (λc:UInt8 => !asciiB c||(decide (leadN c=0)&&decide (lenR (leadV c)=1))) asc_k c;have h2:asciiB c=true:=by simp[asciiB,h]
 simp only[h2,Bool.not_true,Bool.false_or,and_eq_true,decide_eq_true_eq]at h1;simp[ch,h1.1,conts,h1.2]
def stops(p:UInt8->Bool):List UInt8->Prop
 | []=>True
 | b::_=>p b=false
inductive Val:List UInt8->Prop
 | nil:Val []
 | cons (s:List UInt8) (h:ch s≠0) (h2:Val (s.drop (ch s))):Val s
def contK(c:UInt8):Bool := !contB c||decide (128<=c.toNat)
theorem cont_k:((List.range 256).all λn=>contK (UInt8.ofNat n))=true:=by kernel_rfl
theorem cont_hi{c:UInt8}(h:contB c=true):128<=c.toNat:=by
 have:=all256 contK cont_k c;simpa[contK,h]using this
theorem conts_hi:∀(n:Nat) (r:List UInt8) (v v':Int),conts n r v=some v'->n<=r.length/\∀c∈r.take n,128<=c.toNat
 | 0,r,v,v',_=>⟨by omega,by simp⟩
 | n+1,[],v,v',h=>by simp[conts]at h
 | n+1,c::r,v,v',h=>by
  cases hc:contB c with
  | true =>
   simp only[conts,hc,cond_true]at h;obtain⟨h1,h2⟩:=conts_hi n r _ _ h;refine⟨by simp;omega,λx hx => ?_⟩;rw[take_succ_cons]at hx;rcases mem_cons.1 hx with rfl|hx
   . exact cont_hi hc
   . exact h2 x hx
  | false=>simp[conts,hc]at h
theorem conts_app:∀(n:Nat) (r x:List UInt8) (v:Int),n<=r.length->conts n (r++x) v=conts n r v
 | 0,r,x,v,_=>by cases r<;>rfl
 | n+1,[],x,v,h=>by simp at h
 | n+1,c::r,x,v,h=>by
  simp only[cons_append,conts];cases contB c
  . rfl
  . exact conts_app n r x _ (by simpa using h)
theorem ch_some{c:UInt8}{r:List UInt8}(h:ch (c::r)≠0):∃v,¬leadN c<0/\¬r.length<(leadN c).toNat/\conts (leadN c).toNat r (leadV c)=some v/\lenR v=leadN c+1/\ch (c::r)=(leadN c).toNat+1:=by
 simp only[ch]at h;split at h
 . exact absurd rfl h
 . rename_i h1
   split at h
   . exact absurd rfl h
   . rename_i h2
     split at h
     . exact absurd rfl h
     . rename_i v hv
       split at h
       . rename_i h3
         exact⟨v,h1,h2,hv,h3,by simp[ch,h1,h2,hv,h3]⟩
       . exact absurd rfl h
theorem ch_app{s x:List UInt8}(h:ch s≠0):ch (s++x)=ch s:=by
 cases s with
 | nil=>exact absurd rfl h
 | cons c r =>
  obtain⟨v,h1,h2,h3,h4,h5⟩:=ch_some h;have:conts (leadN c).toNat (r++x) (leadV c)=some v:=by rw[conts_app _ _ _ _ (by omega),h3]
  rw[h5,cons_append];simp only[ch,if_neg h1,if_neg (show ¬(r++x).length<(leadN c).toNat by simp;omega),this,if_pos h4]
theorem ch_unapp{s x:List UInt8}(h:ch (s++x)≠0)(hl:ch (s++x)<=s.length):ch s=ch (s++x):=by
 cases s with
 | nil=>simp at hl;exact absurd hl h
 | cons c r =>
  obtain⟨v,h1,h2,h3,h4,h5⟩:=ch_some (r:=r++x) h;have h5':ch (c::r++x)=(leadN c).toNat+1:=h5;rw[h5']at hl ⊢;simp only[length_cons]at hl;rw[conts_app _ _ _ _ (by omega)]at h3;simp only[ch,if_neg h1,if_neg (show ¬r.length<(leadN c).toNat by omega),h3,if_pos h4]
theorem Val.app{a b:List UInt8}(ha:Val a)(hb:Val b):Val (a++b):=by
 induction ha with
 | nil=>exact hb
 | cons s h h2 ih =>
  have:=ch_le s;refine .cons _ (by rw[ch_app h];exact h) ?_;rw[ch_app h,List.drop_append,show ch s-s.length=0 by omega,List.drop_zero];exact ih
theorem Val.one{c:UInt8}(h:c.toNat<128):Val [c] := .cons _ (by rw[ch_asc h];simp) (by rw[ch_asc h];exact .nil)
theorem Val.split:∀(m:Nat) (a:List UInt8) (c:UInt8) (b:List UInt8),a.length<=m->c.toNat<128->Val (a++c::b)->Val a/\Val b
 | m,[],c,b,_,hc,h=>by
  refine⟨.nil,?_⟩;cases h with
  | cons _ h h2=>simpa[ch_asc hc]using h2
 | 0,d::a,c,b,hm,hc,h=>by simp at hm
 | m+1,d::a,c,b,hm,hc,h=>by
  cases h with
  | cons _ h0 h2 =>
   have hk:ch (d::a++c::b)<=(d::a).length:=by
    by_cases hd:d.toNat<128
    . have:ch (d::a++c::b)=1:=ch_asc hd _
      rw[this];simp
    . obtain⟨v,g1,g2,g3,g4,g5⟩:=ch_some (r:=a++c::b) h0
      have g5':ch (d::a++c::b)=(leadN d).toNat+1:=g5;rw[g5',length_cons];obtain⟨e1,e2⟩:=conts_hi _ _ _ _ g3;rcases Nat.lt_or_ge a.length (leadN d).toNat with hlt|hge
      . exfalso
        have:c∈(a++c::b).take (leadN d).toNat:=by
         rw[List.take_append];obtain⟨j,hj⟩:∃j,(leadN d).toNat-a.length=j+1:=⟨(leadN d).toNat-a.length-1,by omega⟩
         rw[hj,take_succ_cons];simp
        have:=e2 c this;omega
      . omega
   have hsame:=ch_unapp (s:=d::a) (x:=c::b) h0 hk;have h0':ch (d::a)≠0:=by rw[hsame];exact h0
   rw[List.drop_append,show ch (d::a++c::b)-(d::a).length=0 by omega,List.drop_zero,<-hsame]at h2;obtain⟨i1,i2⟩:=Val.split m ((d::a).drop (ch (d::a))) c b (by simp at hm ⊢;omega) hc h2;exact⟨.cons _ h0' i1,i2⟩
theorem Val.cut{a b:List UInt8}{c:UInt8}(hc:c.toNat<128)(h:Val (a++c::b)):Val a/\Val b:=Val.split _ a c b (le_refl _) hc h
theorem Val.glue{a b:List UInt8}{c:UInt8}(hc:c.toNat<128)(ha:Val a)(hb:Val b):Val (a++c::b):=ha.app ((Val.one hc).app hb)
def skn:List Tok->Nat
 | []=>0
 | t::r=>bif t.1==4||t.1==3 then skn r+1 else 0
def sgn(s:List UInt8):List Tok->Bool
 | t::_=>t.1==2&&t.2.1==s
 | []=>false
def dwn(acc:List UInt8):List Tok->List UInt8×Nat
 | t::u::r=>bif(t.1==2&&t.2.1==[46])&&u.1==0 then((dwn (acc++([46]++u.2.1)) r).1,(dwn (acc++([46]++u.2.1)) r).2+2)else(acc,0)
 | _=>(acc,0)
def dot:List Tok->List UInt8×Bool×Nat
 | t::r=>bif t.1==0 then((dwn t.2.1 r).1,true,(dwn t.2.1 r).2+1)else([],false,0)
 | []=>([],false,0)
def loc:List Tok->Bool×List UInt8×Nat
 | t::r=>bif t.1==1 then(true,t.2.1,1)else((dot (t::r)).2.1,(dot (t::r)).1,(dot (t::r)).2.2)
 | []=>(false,[],0)
def dom:List Tok->Bool×List UInt8×Nat
 | t::r=>bif t.1==5 then(true,src t.1 t.2.1,1)else((dot (t::r)).2.1,(dot (t::r)).1,(dot (t::r)).2.2)
 | []=>(false,[],0)
def mt(l:List Tok):Option (List UInt8×List UInt8×Nat) :=
 let n1:=skn l
 let n2:=n1+(loc (l.drop n1)).2.2
 let n3:=n2+skn (l.drop n2)
 let n5:=n3+1+skn (l.drop (n3+1))
 let n6:=n5+(dom (l.drop n5)).2.2
 bif !(loc (l.drop n1)).1 then none else bif !sgn [64] (l.drop n3)then none else bif !(dom (l.drop n5)).1 then none else
 some ((loc (l.drop n1)).2.1,(dom (l.drop n5)).2.1,n6+skn (l.drop n6))
section
variable {T:List R6} {A:List R4} {B:List R3}
theorem d85(x:Int):Df (C36 (x,())) (λ_=>True):=by
 unfold C36 F36;dsimp only;with_reducible repeat' (first|apply dP|apply dX<;>intro _)
 all_goals trivial
theorem d156v1(s:List UInt8)(b:Bool)(hs:s.length<=1000000000000000):Df (C99v1 (s,b,())) (λ_=>True):=by
 unfold C99v1 F99v1;dsimp only;refine dZ (P:=λ_=>True) ?_ (λz _=>by cases z<;>exact dP trivial);refine dL ?I ?m ?h _ ?hv ?hn
 case I=>exact(λv=>v.2.1.1=s/\0<=v.2.1.2)
 case m=>exact(λv=>s.length-v.2.1.2.toNat)
 case hv=>exact⟨rfl,Int.le_refl _⟩
 case hn=>exact(by(try dsimp only);omega)
 . rintro⟨x0,⟨x1,p⟩,u⟩ hI
   dsimp only at hI;obtain⟨rfl,h0⟩:=hI;unfold F99v1_l0;dsimp only;with_reducible repeat' (first|apply dP|apply dX<;>intro _)
   . refine dZ (d85 _) ?_
     rintro⟨x,u⟩ -
     dsimp only;have:=decR_pos x1 p.toNat
     with_reducible repeat' (first|apply dP|apply dX<;>intro _)
     . trivial
     . exact⟨⟨rfl,by(try dsimp only);omega⟩,by(try dsimp only);omega⟩
   . trivial
theorem d84v1(s:List UInt8)(hs:s.length<=1000000000000000):Df (C35v1 (s,())) (λ_=>True):=by
 unfold C35v1 F35v1;dsimp only;refine dZ (P:=λ_=>True) ?_ (λz _=>dP trivial);unfold C65v1 F65v1;dsimp only;exact dZ (d156v1 s true hs) (λz _=>dP trivial)
theorem d86(a:List UInt8):Df (C31 (a,())) (λ_=>True):=by
 unfold C31 F31;dsimp only;refine dZ (P:=λ_=>True) ?_ (λz _=>dP trivial);unfold C59 F59;dsimp only;exact dZ (d131 a [91]) (λz _=>dP trivial)
theorem d87(h:TK T A B)(s:List UInt8)(hs:s.length<=3000):Df (C33 (T,A,B,s,())) (λ_=>True):=by
 unfold C33 F33;dsimp only;obtain⟨y,e⟩:=d124 h s hs;exact dZ (P:=λ_=>True) ⟨y,e,trivial⟩ (λz _=>dP trivial)
theorem d44(h:TK T A B)(a b:List UInt8)(ha:a.length<=100000)(hb:b.length<=3000):Df (C11 (T,A,B,a,b,())) (λ_=>True):=by
 unfold C11 F11;dsimp only;refine dZ (d83 a (by omega)) ?_;rintro⟨x,y,u⟩ -
 dsimp only;with_reducible repeat' (first|apply dP|apply dX<;>intro _)
 . trivial
 . trivial
 . trivial
 . refine dZ (d84v1 a (by omega)) ?_
   rintro⟨x,u⟩ -
   dsimp only;with_reducible repeat' (first|apply dP|apply dX<;>intro _)
   . trivial
   . refine dZ (d86 b) ?_
     rintro⟨x,u⟩ -
     dsimp only;with_reducible repeat' (first|apply dP|apply dX<;>intro _)
     . rw[c11 b]
       simp only[Option.bind_some];with_reducible repeat' (first|apply dP|apply dX<;>intro _)
       . trivial
       . trivial
       . trivial
       . trivial
       . refine dO ?_;omega
     . exact dZ (d87 h b hb) (λz _=>dP trivial)
end
section
variable {l:List Tok}
end
section
variable {T:List R6} {A:List R4} {B:List R3}
end
def ix(s:List UInt8)(k:UInt8):Int:=Lib.indexByte s k
theorem toB(k:UInt8):((k.toNat:Int)).toNat.toUInt8=k:=by
 rw[toNat_natCast];exact ofNat_toNat
theorem c162(s:List UInt8)(k:UInt8):C131 (s,(k.toNat:Int),())=some (ix s k,()):=by
 show F131 C163 _=_;simp only[F131];show (some (Lib.indexByte s ((k.toNat:Int)).toNat.toUInt8,())).bind _=_;rw[toB];rfl
theorem c197(s:List UInt8)(k:UInt8):C164 (s,[k],())=some (ix s k,()):=by
 have h0:∀b,(b=true->ix s k=0)->C164_c0 (s,[k],1,b,())=some (ix s k,()):=by
  intro b hb;show F164_c0 C131 _=_;simp only[F164_c0];cases b with
  | true=>rw[hb rfl];rfl
  | false =>
   simp only[cond_false,List.getD_cons_zero,c162,Option.bind_some];rfl
 show F164 C131 C164_c0 _=_;simp only[F164,length_cons,length_nil];rw[show ((((0+1:Nat):Int))==0)=false from rfl];simp only[cond_false];rw[show (((0+1:Nat):Int))=1 from rfl,h0 _ (λh => ?_)]
 . rfl
 . have:=eq_of_beq h
   rw[<-this];simp[ix,Lib.indexByte]
theorem ix_cons(c:UInt8)(s:List UInt8)(k:UInt8):ix (c::s) k=if c==k then 0 else if ix s k == -1 then -1 else ix s k+1:=rfl
theorem ix_app(k:UInt8)(r:List UInt8):∀a:List UInt8,(∀c∈a,c≠k)->ix (a++k::r) k=a.length
 | [],_=>by rw[nil_append,ix_cons,if_pos (beq_self_eq_true k)];rfl
 | c::a,h=>by
  have ih:=ix_app k r a λd hd=>h d (mem_cons_of_mem _ hd);have hc:(c==k)=false:=beq_eq_false_iff_ne.2 (h c mem_cons_self);rw[cons_append,ix_cons,hc,if_neg (by simp),ih,ibF (by omega),if_neg (by simp),length_cons];omega
theorem ix_non(k:UInt8):∀a:List UInt8,(∀c∈a,c≠k)->ix a k = -1
 | [],_=>rfl
 | c::a,h=>by
  have ih:=ix_non k a λd hd=>h d (mem_cons_of_mem _ hd);have hc:(c==k)=false:=beq_eq_false_iff_ne.2 (h c mem_cons_self);rw[ix_cons,hc,if_neg (by simp),ih];rfl
theorem c129a(a r:List UInt8)(k:UInt8)(h:∀c∈a,c≠k)(hs:a.length+r.length<=1000000):C110 (a++k::r,[k],())=some (a,r,true,()):=by
 have hl:(((a++k::r).length:Nat):Int)=a.length+r.length+1:=by simp;omega
 have h3:C134 (a++k::r,[k],())=some (a,r,true,()):=by
  show F134 C164 _=_;simp only[F134,c197,Option.bind_some,length_cons,length_nil,ix_app k r a h];have hw:=w64s (n:=(a.length:Int)+((0+1:Nat):Int)) (by omega);simp only[hw,hl];rw[decide_eq_true (show (a.length:Int)>=0 by omega),decide_eq_true (by omega),decide_eq_true (by omega),decide_eq_true (by omega)];simp only[Bool.and_self,cond_true];rw[show ((a.length:Int)+((0+1:Nat):Int)).toNat=a.length+1 by omega,toNat_natCast];simp only[List.take_left];rw[show a++k::r=(a++[k])++r by simp,show a.length+1=(a++[k]).length by simp,List.drop_left]
 show F110 C134 _=_;simp only[F110,h3,Option.bind_some]
theorem c129n(a:List UInt8)(k:UInt8)(h:∀c∈a,c≠k):C110 (a,[k],())=some (a,[],false,()):=by
 have h3:C134 (a,[k],())=some (a,[],false,()):=by
  show F134 C164 _=_;simp only[F134,c197,Option.bind_some,ix_non k a h];rfl
 show F110 C134 _=_;simp only[F110,h3,Option.bind_some]
theorem join_two(a b:List UInt8)(r:List (List UInt8)):Lib.join (a::b::r) [46]=a++46::Lib.join (b::r) [46]:=by
 simp[Lib.join,List.intercalate,List.intersperse]
theorem parts_join:∀(az:List (List UInt8)) (n:Nat),az≠[]->(∀a∈az,∀c∈a,c≠46)->az.length<=n->(Lib.join az [46]).length<=1000000->partsC n (Lib.join az [46])=some az
 | [],_,h,_,_,_=>(h rfl).elim
 | _::_,0,_,_,h,_=>by simp at h
 | [a],n+1,_,h,_,_=>by
  rw[Lib.join_one];simp only[partsC,c129n a 46 (h a mem_cons_self),Option.bind_some,cond_false]
 | a::b::r,n+1,_,h,hn,hl=>by
  rw[join_two]at hl ⊢;simp only[length_append,length_cons]at hl hn;have ih:=parts_join (b::r) n (by simp) (λx hx=>h x (mem_cons_of_mem _ hx)) (by simp only[length_cons];omega) (by omega);simp only[partsC,c129a a (Lib.join (b::r) [46]) 46 (h a mem_cons_self) (by omega),Option.bind_some,cond_true,ih,Option.map_some]
theorem mem_join:∀(az:List (List UInt8)) (c:UInt8),c∈Lib.join az [46]->c=46\/∃a∈az,c∈a
 | [],c,h=>by cases h
 | [a],c,h=>by rw[Lib.join_one]at h;exact .inr ⟨a,mem_cons_self,h⟩
 | a::b::r,c,h=>by
  rw[join_two]at h;rcases mem_append.1 h with h|h
  . exact .inr ⟨a,mem_cons_self,h⟩
  . rcases mem_cons.1 h with h|h
    . exact .inl h
    . rcases mem_join (b::r) c h with h|⟨x,hx,hc⟩
      . exact .inl h
      . exact .inr ⟨x,mem_cons_of_mem _ hx,hc⟩
theorem join_ge:∀(az:List (List UInt8)) (a:List UInt8),a∈az->a.length<=(Lib.join az [46]).length
 | [],a,h=>by cases h
 | [b],a,h=>by rw[Lib.join_one,mem_singleton.1 h];exact le_refl _
 | x::b::r,a,h=>by
  rw[join_two];simp only[length_append,length_cons];rcases mem_cons.1 h with rfl|h
  . omega
  . have:=join_ge (b::r) a h
    omega
theorem replace_asc(x new:List UInt8)(ha:∀c∈x,c.toNat<128):Lib.replaceAll x [227,128,130] new=x:=by
 unfold Lib.replaceAll Lib.replace;split
 . rfl
 . generalize Lib.replaceNum x [227,128,130] (-1)=k
   cases k with
   | zero=>rfl
   | succ k =>
    rcases Lib.index_spec x [227,128,130]with⟨hi,-⟩|⟨i,hi,h1,h2,-⟩
    . rw[Lib.replaceK,if_pos (by rw[hi];rfl)]
    . exfalso
      have hfit:i+[(227:UInt8),128,130].length<=x.length:=index_fit hi;rw[Lib.occAt_iff_take _ _ _ hfit]at h2;have h3:(x.drop i).take 3=[227,128,130]:=eq_of_beq h2;have h4:(227:UInt8)∈x:=List.mem_of_mem_drop (List.mem_of_mem_take (i:=3) (l:=x.drop i) (by rw[h3];exact mem_cons_self));exact absurd (ha _ h4) (by decide)
theorem parts_ne:∀(n:Nat) (s:List UInt8) (ps:List (List UInt8)),partsC n s=some ps->ps≠[]
 | 0,_,_,h=>by cases h
 | n+1,s,ps,h=>by
  simp only[partsC]at h;cases hc:C110 (s,[46],())with
  | none=>rw[hc]at h;cases h
  | some y =>
   obtain⟨a,b,ok,u⟩:=y;rw[hc]at h;simp only[Option.bind_some]at h;cases ok with
   | true =>
    simp only[cond_true,map_eq_some_iff]at h;obtain⟨qs,hq,rfl⟩:=h;exact List.cons_ne_nil _ _
   | false =>
    simp only[cond_false,Option.some.injEq]at h;subst h;exact List.cons_ne_nil _ _
section
variable {T:List R6} {A:List R4} {B:List R3}
theorem labels_inv(f:List UInt8)(ok:Bool)(hf:f.length<=5000000)(ls:List (List UInt8))(h:labelsF f ok=some (ls,0)):ok=true/\ls≠[]/\ls.length<=32/\∀p∈ls,p.length<=f.length:=by
 unfold labelsF at h;cases ok with
 | false=>simp at h
 | true =>
  simp only[Bool.not_true,cond_false]at h;cases hfe:f.isEmpty with
  | true=>rw[hfe]at h;simp at h
  | false =>
   rw[hfe]at h;simp only[cond_false]at h;rw[decide_eq_true (by omega)]at h;simp only[cond_true]at h;have hr:=replaceAll_le f [227,128,130] [46] (by decide);obtain⟨ps,e,h1,h2⟩:=parts_total (f.length+2) (Lib.replaceAll f [227,128,130] [46]) (by omega) (by omega);rw[e]at h;simp only[Option.bind_some]at h;rw[decide_eq_true (by omega)]at h;simp only[cond_true]at h;by_cases h3:32<ps.length
   . rw[decide_eq_true h3]at h
     simp at h
   . rw[decide_eq_false h3]at h
     simp only[cond_false,Option.some.injEq,Prod.mk.injEq,and_true]at h;subst h;exact⟨rfl,parts_ne _ _ _ e,by omega,λp hp=>by have:=h2 p hp;omega⟩
theorem both_out(A U:List UInt8->Option (List UInt8×Int)):∀(ls ps qs:List (List UInt8)) r,bothF A U ls ps qs=some r->r.1=0->∃az,r.2.1=ps++az/\az.length=ls.length/\∀a∈az,∃x∈ls,A x=some (a,0)
 | [],ps,qs,r,h,h0=>by
  simp only[bothF,Option.some.injEq]at h;subst h;exact⟨[],by simp,rfl,λa ha=>by cases ha⟩
 | y::ls,ps,qs,r,h,h0=>by
  simp only[bothF]at h;cases ha:A y with
  | none=>rw[ha]at h;cases h
  | some a =>
   rw[ha]at h;simp only[Option.bind_some]at h;by_cases hz:a.2=0
   . rw[inF hz]at h
     simp only[cond_false]at h;cases hu:U y with
     | none=>rw[hu]at h;cases h
     | some u =>
      rw[hu]at h;obtain⟨az,e,hl,hall⟩:=both_out A U ls _ _ r h h0;refine⟨a.1::az,by rw[e];simp,by simp[hl],λz hz' => ?_⟩;rcases mem_cons.1 hz' with rfl|hz'
      . exact⟨y,mem_cons_self,by rw[ha,<-hz]⟩
      . obtain⟨x,hx,hA⟩:=hall z hz'
        exact⟨x,mem_cons_of_mem _ hx,hA⟩
   . rw[inT hz]at h
     simp only[cond_true,Option.some.injEq]at h;subst h;exact(hz h0).elim
theorem both_same(A U:List UInt8->Option (List UInt8×Int)):∀(az ps qs:List (List UInt8)) r,(∀a∈az,A a=some (a,0))->bothF A U az ps qs=some r->r.1=0/\r.2.1=ps++az
 | [],ps,qs,r,_,h=>by
  simp only[bothF,Option.some.injEq]at h;subst h;exact⟨rfl,by simp⟩
 | y::ls,ps,qs,r,hA,h=>by
  simp only[bothF,hA y mem_cons_self,Option.bind_some]at h;rw[inF rfl]at h;simp only[cond_false]at h;cases hu:U y with
  | none=>rw[hu]at h;cases h
  | some u =>
   rw[hu]at h;obtain⟨h1,h2⟩:=both_same A U ls _ _ r (λa ha=>hA a (mem_cons_of_mem _ ha)) h;exact⟨h1,by rw[h2];simp⟩
theorem join_eq{l:List (List UInt8)}{x:List UInt8}(h:joinF (l,[46],())=some (x,())):x=Lib.join l [46]:=by
 unfold joinF at h;dsimp only at h;cases hc:(decide (l.length<=140737488355328)&&decide ((Lib.join l [46]).length<=140737488355328))with
 | false=>rw[hc]at h;cases h
 | true=>rw[hc]at h;cases h;rfl
theorem out_inv{r:Int×List (List UInt8)×List (List UInt8)}{o:List UInt8×List UInt8×Int}(h:outF r=some o)(h0:o.2.2=0):r.1=0/\o.1=Lib.join r.2.1 [46]/\o.1.length<=253:=by
 unfold outF at h;by_cases hz:r.1=0
 . rw[inF hz]at h
   simp only[cond_false]at h;cases hj:joinF (r.2.1,[46],())with
   | none=>rw[hj]at h;cases h
   | some ja =>
    obtain⟨ja,u⟩:=ja;rw[hj]at h;simp only[Option.bind_some]at h;by_cases hl:253<ja.length
    . rw[decide_eq_true hl]at h
      simp only[cond_true,Option.some.injEq]at h;subst h;exact absurd h0 (by decide)
    . rw[decide_eq_false hl]at h
      simp only[cond_false]at h;cases hu:joinF (r.2.2,[46],())with
      | none=>rw[hu]at h;cases h
      | some ju =>
       rw[hu]at h;simp only[Option.bind_some,Option.some.injEq]at h;subst h;exact⟨hz,join_eq hj,by(try dsimp only);omega⟩
 . rw[inT hz]at h
   simp only[cond_true,Option.some.injEq]at h;subst h;exact(hz h0).elim
theorem out_same{r:Int×List (List UInt8)×List (List UInt8)}{o:List UInt8×List UInt8×Int}(h:outF r=some o)(h0:r.1=0)(hl:(Lib.join r.2.1 [46]).length<=253):o.1=Lib.join r.2.1 [46]/\o.2.2=0:=by
 unfold outF at h;rw[inF h0]at h;simp only[cond_false]at h;cases hj:joinF (r.2.1,[46],())with
 | none=>rw[hj]at h;cases h
 | some ja =>
  obtain⟨ja,u⟩:=ja;have hje:=join_eq hj;rw[hj]at h;simp only[Option.bind_some]at h;rw[decide_eq_false (by rw[hje];omega)]at h;simp only[cond_false]at h;cases hu:joinF (r.2.2,[46],())with
  | none=>rw[hu]at h;cases h
  | some ju =>
   rw[hu]at h;simp only[Option.bind_some,Option.some.injEq]at h;subst h;exact⟨hje,rfl⟩
structure Dm (T:List R6) (A:List R4) (B:List R3) (x:List UInt8):Prop where
 lw:Lw B x
 ne:x≠[]
 len:x.length<=253
 kk:∀c∈x,kk (c.toNat:Int)=true->c=46
 self:Pf (C62 (T,A,B,x,())) λy=>y.1=x/\y.2.2.1=0
theorem domR(h:TK T A B)(hK:KT T A B)(hL:LN B)(hC:LC T A B)(s:List UInt8)(hs:s.length<=400):Pf (C62 (T,A,B,s,())) (λy=>y.2.2.1=0->Dm T A B y.1):=by
 obtain⟨⟨f,ok,u⟩,e151,hf⟩:=d151 h s (by omega);dsimp only at hf;obtain⟨ls,c,e2,hll,-⟩:=labels_total f ok (by omega);unfold C62;dsimp only;simp only[e151,Option.bind_some,e2];refine pX (λhc=>pP λh0=>(hc h0).elim) (λhc => ?_);refine pX (λ_ => ?_) (λ_=>pN);have hc':c=0:=hc;subst hc';obtain⟨-,hne,hl32,hpl⟩:=labels_inv f ok (by omega) ls e2;intro y ey h0;cases hb:bothF (λx=>(C95 (T,A,B,x,())).map λr=>(r.1,r.2.1)) (λx=>(C96 (T,A,B,x,())).map λr=>(r.1,r.2.1)) ls [] []with
 | none=>rw[hb]at ey;cases ey
 | some r =>
  rw[hb]at ey;simp only[Option.bind_some,map_eq_some_iff]at ey;obtain⟨o,ho,rfl⟩:=ey;dsimp only at h0 ⊢;obtain⟨hr0,hj,hl253⟩:=out_inv ho h0;obtain⟨az,eas,hlen,has⟩:=both_out _ _ ls [] [] r hb hr0;rw[nil_append]at eas;rw[eas]at hj;have hA:∀a∈az,C95 (T,A,B,a,())=some (a,0,())/\Lw B a/\a≠[]/\∀x∈bi a,kk x=false:=by
   intro a ha;obtain⟨x,hx,hAx⟩:=has a ha;have hax:=join_ge az a ha;rw[<-hj]at hax;simp only[map_eq_some_iff,Prod.mk.injEq]at hAx;obtain⟨⟨a',c',u'⟩,e1,rfl,rfl⟩:=hAx;dsimp only at hax;obtain⟨l1,l2⟩:=lab h hL hC x (by have:=hpl x hx;omega) a' (by omega) e1;have hn:¬(a'=[]\/∃x∈bi a',kk x=true):=λhbad=>p159 h hK a' (by omega) hbad _ l1 rfl;refine⟨l1,l2,λe=>hn (.inl e),λz hz => ?_⟩;cases hkz:kk z with
   | false=>rfl
   | true=>exact(hn (.inr ⟨z,hz,hkz⟩)).elim
  have hkk:∀a∈az,∀c∈a,kk (c.toNat:Int)=false:=λa ha c hc=>(hA a ha).2.2.2 _ (List.mem_map_of_mem hc);have h46:∀a∈az,∀c∈a,c≠46:=λa ha c hc e=>by
   have:=hkk a ha c hc;rw[e]at this;exact absurd this (by decide)
  have hane:az≠[]:=λe=>by
   rw[e]at hlen;exact hne (List.eq_nil_of_length_eq_zero hlen.symm)
  have hw:Lw B o.1:=by
   intro c hc;rw[hj]at hc;rcases mem_join az c hc with rfl|⟨a,ha,hc⟩
   . exact⟨by decide,hL.lo _ (by decide) (by decide) (by decide)⟩
   . exact(hA a ha).2.1 c hc
  have hone:o.1≠[]:=by
   obtain⟨a,az',rfl⟩:=List.exists_cons_of_ne_nil hane;have h1:=join_ge (a::az') a mem_cons_self;rw[<-hj]at h1;intro e;rw[e]at h1;exact(hA a mem_cons_self).2.2.1 (List.eq_nil_of_length_eq_zero (by simpa using h1))
  refine⟨hw,hone,hl253,λc hc hk => ?_,?_⟩
  . rw[hj]at hc
    rcases mem_join az c hc with rfl|⟨a,ha,hc⟩
    . rfl
    . rw[hkk a ha c hc]at hk;cases hk
  . have hlab:labelsF o.1 true=some (az,0):=by
     unfold labelsF;have he:o.1.isEmpty=false:=by
      cases ho1:o.1 with
      | nil=>exact(hone ho1).elim
      | cons=>rfl
     rw[he];simp only[Bool.not_true,cond_false];rw[decide_eq_true (by omega),replace_asc o.1 [46] λc hc=>(hw c hc).1];simp only[cond_true];have hp:=parts_join az (o.1.length+2) hane h46 ?_ (by rw[<-hj];omega)
     . rw[<-hj]at hp
       rw[hp];simp only[Option.bind_some];rw[decide_eq_true (by omega),decide_eq_false (by omega)];rfl
     . rw[hj]
       have:∀l:List (List UInt8),l.length<=(Lib.join l [46]).length+2:=by
        intro l
        induction l with
        | nil=>simp
        | cons a l ih =>
         cases l with
         | nil=>simp only[length_cons,length_nil];omega
         | cons b l =>
          rw[join_two];simp only[length_cons,length_append]at ih ⊢;omega
       exact this az
    unfold C62;dsimp only;simp only[i151 h hL hC o.1 (by omega) hw,Option.bind_some,hlab];refine pX (λhc=>(hc rfl).elim) (λ_ => ?_);refine pX (λ_ => ?_) (λ_=>pN);intro y ey;cases hb2:bothF (λx=>(C95 (T,A,B,x,())).map λr=>(r.1,r.2.1)) (λx=>(C96 (T,A,B,x,())).map λr=>(r.1,r.2.1)) az [] []with
    | none=>rw[hb2]at ey;cases ey
    | some r2 =>
     rw[hb2]at ey;simp only[Option.bind_some,map_eq_some_iff]at ey;obtain⟨o2,ho2,rfl⟩:=ey;obtain⟨g1,g2⟩:=both_same _ _ az [] [] r2 (λa ha=>by rw[(hA a ha).1];rfl) hb2;rw[nil_append]at g2;obtain⟨k1,k2⟩:=out_same ho2 g1 (by rw[g2,<-hj];exact hl253);dsimp only;exact⟨by rw[k1,g2,<-hj],k2⟩
theorem dom87(h:TK T A B)(hK:KT T A B)(hL:LN B)(hC:LC T A B)(s:List UInt8)(hs:s.length<=400)(x:List UInt8)(e:C33 (T,A,B,s,())=some (x,0,())):Dm T A B x/\C33 (T,A,B,x,())=some (x,0,()):=by
 have e':F33 C62 (T,A,B,s,())=some (x,0,()):=e;unfold F33 at e';dsimp only at e';cases hc:C62 (T,A,B,s,())with
 | none=>rw[hc]at e';cases e'
 | some y =>
  obtain⟨a,b,c,u⟩:=y;rw[hc]at e';simp only[Option.bind_some,Option.some.injEq,Prod.mk.injEq]at e';obtain⟨rfl,rfl,-⟩:=e';have hd:=domR h hK hL hC s hs _ hc rfl;dsimp only at hd;refine⟨hd,?_⟩;obtain⟨⟨a',b',c',u'⟩,e2⟩:=d124 h a (by have:=hd.len;omega);obtain⟨q1,q2⟩:=hd.self _ e2;dsimp only at q1 q2;subst q1 q2;show F33 C62 _=_;simp only[F33,e2,Option.bind_some]
end
def lowb(b:UInt8):UInt8:=UInt8.ofNat (((C61 ((b.toNat:Int),())).getD (0,())).1.toNat)
theorem low_k:((List.range 256).all λn=>(C61 (((UInt8.ofNat n).toNat:Int),())).isSome)=true:=by kernel_rfl
theorem p64(b:UInt8):∃v:Int,C61 ((b.toNat:Int),())=some (v,())/\UInt8.ofNat v.toNat=lowb b:=by
 have h:=all_eq_true.1 low_k b.toNat (by simp only[mem_range];exact b.toNat_lt)
 simp only[ofNat_toNat]at h;obtain⟨⟨v,u⟩,hv⟩:=Option.isSome_iff_exists.1 h;exact⟨v,hv,by unfold lowb;rw[hv];rfl⟩
theorem pl63:∀(r pre:List UInt8) (p n:Nat) (acc:List UInt8),pre.length=p->acc.length=p->r.length<n->p+r.length<=1000000 ->
 loopN (F60_l0 C61) n (pre++r,((p+r.length:Nat):Int),(p:Int),acc,())=some (acc++r.map lowb,())
 | [],pre,p,n+1,acc,hp,ha,hn,hb=>by
  refine loopN_inr ?_;simp only[F60_l0,length_nil,add_zero];rw[decide_eq_false (by omega)];simp only[cond_false,List.map_nil,append_nil]
 | c::r,pre,p,n+1,acc,hp,ha,hn,hb=>by
  simp only[length_cons]at hn hb;obtain⟨v,hv,hl⟩:=p64 c;have hlen:(pre++c::r).length=p+r.length+1:=by simp[hp];omega
  rw[loopN_inl (v':=(pre++c::r,((p+(r.length+1):Nat):Int),((p+1:Nat):Int),acc++[lowb c],())) ?_]
  . have ih:=pl63 r (pre++[c]) (p+1) n (acc++[lowb c]) (by simp[hp]) (by simp[ha]) (by omega) (by omega)
    rw[show p+(r.length+1)=p+1+r.length by omega,show pre++c::r=(pre++[c])++r by simp,ih];simp
  . simp only[F60_l0,length_cons]
    rw[decide_eq_true (by omega),decide_eq_true (by omega),decide_eq_true (by omega)];simp only[Bool.and_self,cond_true,toNat_natCast];rw[show (pre++c::r).getD p 0=c by subst hp;simp];simp only[hv,Option.bind_some,hl,wrN p (by omega)];rw[decide_eq_true (by simp only[length_cons,length_nil];omega)];rfl
theorem p25(l:List UInt8)(h:l.length<=1000000):C32 (l,())=some (l.map lowb,()):=by
 have hl:C60_l0 (l,(l.length:Int),0,[],())=some (l.map lowb,()):=by
  have h:=pl63 l [] 0 big [] rfl rfl (by unfold big;omega) (by omega);rw[Nat.zero_add]at h;exact h
 have h63:C60 (l,())=some (l.map lowb,()):=by
  show F60 C61 C60_l0 _=_;simp only[F60,hl,Option.bind_some]
 show F32 C60 _=_;simp only[F32,h63,Option.bind_some];rw[decide_eq_true (by omega)];rfl
section
variable {T:List R6} {A:List R4} {B:List R3}
theorem d184_0(h:TK T A B)(x:Int)(b:Bool):Df (C88_c0 (x,b,T,A,B,())) (λy=>∀z,y = .inr z->(z.2.1,z.2.2.1,z.2.2.2.1)=(T,A,B)):=by
 unfold C88_c0 F88_c0;dsimp only;with_reducible repeat' (first|apply dP|apply dX<;>intro _)
 . intro z hz;cases hz
 . refine dZ (d215 T A B x h.t) ?_
   rintro⟨c,u⟩ -
   dsimp only;with_reducible repeat' (first|apply dP|apply dX<;>intro _)
   . refine dZ (d216 T A B x) ?_
     rintro⟨a1,a2,a3,a4,a5,a6,u⟩ -
     dsimp only;with_reducible repeat' (first|apply dP|apply dX<;>intro _)
     all_goals (intro z hz;cases hz)
   . intro z hz;cases hz;rfl
theorem d184(h:TK T A B)(x:Int):Df (C88 (T,A,B,x,())) (λ_=>True):=by
 unfold C88 F88;dsimp only;with_reducible repeat' (first|apply dP|apply dX<;>intro _)
 all_goals
  refine dZ (d184_0 h x _) ?_;intro z hz;cases z with
  | inl z=>exact dP trivial
  | inr z =>
   obtain⟨z1,z2,z3,z4,u⟩:=z;have e:=hz _ rfl;cases e;exact dZ (d217 h z1) λ_ _=>dP trivial
theorem d182(h:TK T A B)(l:List Int)(p:Int)(hl:l.length<=1000000000000)(h0:0<=p)(hp:p<l.length):Df (C86 (p,T,A,B,l,())) (λy=>y.2=(T,A,B,l,())):=by
 unfold C86 F86;dsimp only;refine dZ (d183 h l p hl (by omega)) ?_;rintro⟨c,u⟩ -
 dsimp only;with_reducible repeat' (first|apply dP|apply dX<;>intro _)
 . rfl
 . exact dZ (d184 h _) λ_ _=>dP rfl
 . refine dO ?_;omega
 . rfl
theorem d152(h:TK T A B)(s:List UInt8)(hs:s.length<=1000000000000):Df (C56 (T,A,B,s,())) (λ_=>True):=by
 unfold C56 F56;dsimp only;refine dZ (d83 s hs) ?_;rintro⟨l,bad,u⟩ ⟨h1,-,-⟩;dsimp only at h1 ⊢;with_reducible repeat' (first|apply dP|apply dX<;>intro _)
 . trivial
 . trivial
 . refine dZ (P:=λ_=>True) ?_ (λz _=>by cases z<;>exact dP trivial)
   refine dL ?I ?m ?h _ ?hv ?hn
   case I=>exact(λv=>v.1=l.length/\0<=v.2.1/\v.2.2=(T,A,B,l,()))
   case m=>exact(λv=>(l.length-v.2.1).toNat)
   case hv=>exact⟨rfl,Int.le_refl _,rfl⟩
   case hn=>exact(by(try dsimp only);omega)
   rintro⟨n,k,T',A',B',l',u⟩ ⟨g1,g2,g3⟩;dsimp only at g1 g2 g3;subst g1;cases g3;unfold F56_l0;dsimp only;with_reducible repeat' (first|apply dP|apply dX<;>intro _)
   . rename_i hk
     refine dZ (d182 h l k (by omega) g2 hk) ?_;rintro⟨b,r⟩ hr;dsimp only at hr;subst hr;dsimp only;with_reducible repeat' (first|apply dP|apply dX<;>intro _)
     . trivial
     . rw[w64s (by omega)]
       exact⟨⟨rfl,by(try dsimp only);omega,rfl⟩,by(try dsimp only);omega⟩
   . trivial
theorem d120(h:TK T A B)(s:List UInt8)(hs:s.length<=100000):Df (C30 (T,A,B,s,())) (λ_=>True):=by
 unfold C30 F30;dsimp only;refine dZ (d151 h s (by omega)) ?_;rintro⟨f,ok,u⟩ hf;dsimp only at hf ⊢;with_reducible repeat' (first|apply dP|apply dX<;>intro _)
 . trivial
 . refine dZ (d152 h f (by omega)) ?_
   rintro⟨e,u⟩ -
   dsimp only;with_reducible repeat' (first|apply dP|apply dX<;>intro _)
   . trivial
   . refine dZ (d83 f (by omega)) ?_
     rintro⟨l,bad,u⟩ ⟨h1,-,-⟩;dsimp only at h1 ⊢;refine dZ (d153 h l (by omega)) ?_;rintro⟨e,u⟩ -
     dsimp only;with_reducible repeat' (first|apply dP|apply dX<;>intro _)
     . refine dZ (d154 h l (by omega)) ?_
       rintro⟨e,u⟩ -
       dsimp only;with_reducible repeat' (first|apply dP|apply dX<;>intro _)
       . trivial
       . trivial
     . trivial
end
theorem d59(n:Bool)(a b:List UInt8)(ha:a.length<=1100):Df (C40 (n,a,b,())) (λy=>y.1=true->n=false/\a≠[]):=by
 unfold C40 F40;dsimp only;with_reducible repeat' (first|apply dP|apply dX<;>intro _)
 . rename_i hn _
   rw[p25 a (by omega)];refine dP λh=>⟨hn,?_⟩
   rintro rfl;cases h
 . intro h;cases h
 . intro h;cases h
section
variable {T:List R6} {A:List R4} {B:List R3}
theorem d20(h:TK T A B)(a b:List UInt8)(ha:a.length<=1100)(hb:b.length<=1100):Df (C16 (T,A,B,false,a,b,())) (λ_=>True):=by
 unfold C16 F16;dsimp only;refine dZ (P:=λy=>∀z,y = .inr z->z=(T,A,B,false,a,b,())) ?_ ?_
 . unfold C16_c0 F16_c0
   dsimp only;refine dZ (d59 false a b ha) ?_;rintro⟨m,u⟩ -
   dsimp only;with_reducible repeat' (first|apply dP|apply dX<;>intro _)
   . intro z hz;cases hz
   . intro z hz;cases hz;rfl
 intro z hz;cases z with
 | inl z=>exact dP trivial
 | inr z =>
  have e:=hz _ rfl;subst e;exact dZ (d44 h a b (by omega) (by omega)) λ_ _=>dP trivial
end
section
variable {T:List R6} {A:List R4} {B:List R3}
end
def tkB:Bool:=match C9 ()with
 | some (T,A,B,_)=>(decide (T.length<=1000000000000)&&T.all λe=>decide (0<=e.2.2.2.1)&&decide (e.2.2.2.1<8))&&(decide (A.length<=1000000000000)&&decide (B.length<=1000000000000))
 | none=>false
theorem tkB_k:tkB=true:=by kernel_rfl
theorem tk:∃T A B,C9 ()=some (T,A,B,())/\TK T A B:=by
 have h:=tkB_k;unfold tkB at h;cases hc:C9 ()with
 | none=>rw[hc]at h;cases h
 | some y =>
  obtain⟨T,A,B,u⟩:=y;rw[hc]at h;simp only[and_eq_true,decide_eq_true_eq,all_eq_true]at h;exact⟨T,A,B,rfl,⟨h.1.1,h.1.2⟩,h.2.1,h.2.2⟩
def Asc(s:List UInt8):Prop:=∀c∈s,c.toNat<128
theorem c21a(s:List UInt8)(hs:s.length<=1000000)(ha:Asc s):C12 (s,())=some (-1,()):=c21y s hs ha
theorem c21w(s:List UInt8)(hs:s.length<=1000000)(ha:¬Asc s):∃p,C12 (s,())=some (p,())/\0<=p:=by
 obtain⟨⟨p,u⟩,e,-,h⟩:=d21 s (by omega);refine⟨p,e,?_⟩;by_cases h0:0<=p
 . exact h0
 . exact(ha (h (by(try dsimp only);omega))).elim
def lit(b:List UInt8):Bool:=decide (b.take 1=[91])
theorem c86v(s:List UInt8):C31 (s,())=some (lit s,()):=by
 have h1:C92 (s,[91],())=some (lit s,()):=by
  show F92 _=_;simp only[F92,length_cons,length_nil];cases s with
  | nil=>rfl
  | cons c s =>
   have hl:(((c::s:List UInt8).length:Int))=(s.length:Int)+1:=by simp
   rw[hl,decide_eq_true (show (s.length:Int)+1>=((0+1:Nat):Int) by omega),decide_eq_true (show (0:Int)<=((0+1:Nat):Int) by omega)];show some (((c::s).take 1==[91]),())=_;unfold lit;by_cases h:(c::s).take 1=[91]
   . rw[decide_eq_true h,h,beq_self_eq_true]
   . rw[decide_eq_false h,beq_eq_false_iff_ne.2 h]
 show F31 C59 _=_;simp only[F31];show (F59 C92 _).bind _=_;simp only[F59,h1,Option.bind_some]
section
variable {T:List R6} {A:List R4} {B:List R3}
theorem Dm.lit{y:List UInt8}(h:Dm T A B y):lit y=false:=by
 unfold W.lit;refine decide_eq_false λe => ?_;have h91:(91:UInt8)∈y:=List.mem_of_mem_take (i:=1) (by rw[e];exact mem_cons_self);exact absurd (h.kk _ h91 (by decide)) (by decide)
theorem Dm.asc{y:List UInt8}(h:Dm T A B y):Asc y:=λc hc=>(h.lw c hc).1
theorem right87(h:TK T A B)(a b:List UInt8)(la:a.length<=1000)(lb:b.length<=400)(h44:C11 (T,A,B,a,b,())=some (0,()))(h86:lit b=false){d:List UInt8}{e:Int}(e87:C33 (T,A,B,b,())=some (d,e,())):e=0:=by
 obtain⟨⟨v1,v2,u⟩,e83,-⟩:=d83 a (by omega);obtain⟨⟨w,u'⟩,e84,-⟩:=d84v1 a (by omega);have hf:F11 C31 C33 C34 C35v1 C37 (T,A,B,a,b,())=some (0,()):=h44;simp only[F11,e83,e84,c86v,h86,e87,Option.bind_some,cond_false]at hf;cases h1:(a==[])with
 | true=>rw[h1]at hf;cases hf
 | false =>
  rw[h1]at hf;simp only[cond_false]at hf;cases h2:decide ((a.length:Int)>64)with
  | true=>rw[h2]at hf;cases hf
  | false =>
   rw[h2]at hf;simp only[cond_false]at hf;cases h3:decide (v2>=0)with
   | true=>rw[h3]at hf;cases hf
   | false =>
    rw[h3]at hf;simp only[cond_false]at hf;cases w with
    | true=>cases hf
    | false =>
     simp only[cond_false,Option.some.injEq,Prod.mk.injEq,and_true]at hf;exact hf
end
section
variable {T:List R6} {A:List R4} {B:List R3}
end
theorem low2K:((List.range 256).all λn=>lowb (lowb (UInt8.ofNat n))==lowb (UInt8.ofNat n))=true:=by kernel_rfl
theorem low_low(c:UInt8):lowb (lowb c)=lowb c:=by
 have h:=all_eq_true.1 low2K c.toNat (by simp only[mem_range];exact c.toNat_lt)
 rw[ofNat_toNat]at h;exact eq_of_beq h
theorem low91:lowb 91=91:=by kernel_rfl
theorem lit_low{b:List UInt8}(h:lit b=true):lit (b.map lowb)=true:=by
 unfold lit at h ⊢;have h1:=of_decide_eq_true h;refine decide_eq_true ?_;cases b with
 | nil=>cases h1
 | cons c r =>
  simp only[take_succ_cons,take_zero,List.cons.injEq,and_true]at h1;subst h1;simp only[List.map_cons,take_succ_cons,take_zero,low91]
section
variable {T:List R6} {A:List R4} {B:List R3}
theorem k82id(h:TK T A B)(hK:KT T A B)(hL:LN B)(hC:LC T A B)(hN:LN (wideT B))(hW:LW B)(hk:CK T A B)(a b:List UInt8)(ha:a.length<=600)(hb:b.length<=400) :
 ∃a' b',C10 (T,A,B,a,b,())=some (a',b',())/\C10 (T,A,B,a',b',())=some (a',b',())/\b'.length<=400/\(C11 (T,A,B,a,b,())=some (0,())->lit b=false->Asc b'):=by
 have dom:∃b',b'.length<=400/\(∀n p q,C10_c0 (T,A,B,n,b,p,q,())=some (n,b',()))/\(∀n p q,C10_c0 (T,A,B,n,b',p,q,())=some (n,b',()))/\(C11 (T,A,B,a,b,())=some (0,())->lit b=false->Asc b'):=by
  cases hl:lit b with
  | true =>
   refine⟨b.map lowb,by rw[length_map];exact hb,λn p q => ?_,λn p q => ?_,λ_ h=>by cases h⟩
   . show F10_c0 C30 C31 C32 C33 _=_
     simp only[F10_c0,c86v,hl,Option.bind_some,cond_true,p25 b (by omega)]
   . have e:(b.map lowb).map lowb=b.map lowb:=by
      rw[List.map_map];exact List.map_congr_left λc _=>low_low c
     show F10_c0 C30 C31 C32 C33 _=_;simp only[F10_c0,c86v,lit_low hl,Option.bind_some,cond_true,p25 (b.map lowb) (by rw[length_map];omega),e]
  | false =>
   obtain⟨⟨x,e,u⟩,e87,-⟩:=d87 h b (by omega);by_cases he:e=0
   . subst he
     obtain⟨q1,q2⟩:=dom87 h hK hL hC b hb x e87;refine⟨x,by have:=q1.len;omega,λn p q => ?_,λn p q => ?_,λ_ _=>q1.asc⟩
     . show F10_c0 C30 C31 C32 C33 _=_
       simp only[F10_c0,c86v,hl,Option.bind_some,cond_false,e87];rfl
     . show F10_c0 C30 C31 C32 C33 _=_
       simp only[F10_c0,c86v,q1.lit,Option.bind_some,cond_false,q2];rfl
   . have r:∀n p q,C10_c0 (T,A,B,n,b,p,q,())=some (n,b,()):=by
      intro n p q;show F10_c0 C30 C31 C32 C33 _=_;simp only[F10_c0,c86v,hl,Option.bind_some,cond_false,e87,ibF he]
     exact⟨b,hb,r,r,λh44 _=>(he (right87 h a b (by omega) hb h44 hl e87)).elim⟩
 obtain⟨b',hb',h1,h2,h3⟩:=dom;obtain⟨⟨n,e,u⟩,e120,-⟩:=d120 h a (by omega);by_cases he:e=0
 . subst he
   have e2:=name_id h hL hN hW hk a n ha e120;refine⟨n,b',?_,?_,hb',h3⟩
   . show F10 C30 C31 C32 C33 C10_c0 _=_
     simp only[F10,e120,Option.bind_some,beq_self_eq_true,cond_true,h1]
   . show F10 C30 C31 C32 C33 C10_c0 _=_
     simp only[F10,e2,Option.bind_some,beq_self_eq_true,cond_true,h2]
 . refine⟨a,b',?_,?_,hb',h3⟩
   . show F10 C30 C31 C32 C33 C10_c0 _=_
     simp only[F10,e120,Option.bind_some,ibF he,cond_false,h1]
   . show F10 C30 C31 C32 C33 C10_c0 _=_
     simp only[F10,e120,Option.bind_some,ibF he,cond_false,h2]
end
theorem few8(a b:List UInt8):∃f,C8 (a,b,())=some (f,())/\(f=true->a.length<=150/\b.length<=200):=by
 show ∃f,F8 (a,b,())=some (f,())/\_;simp only[F8];by_cases h:(a.length:Int)<=150
 . rw[decide_eq_true h]
   exact⟨_,rfl,λhf=>⟨by omega,by have:=of_decide_eq_true hf;omega⟩⟩
 . rw[decide_eq_false h]
   exact⟨_,rfl,λhf=>by cases hf⟩
theorem tabs:∃T A B,C9 ()=some (T,A,B,())/\TK T A B/\KT T A B/\LN B/\LC T A B/\LN (wideT B)/\LW B/\CK T A B:=by
 obtain⟨T,A,B,h18,hT⟩:=tk;exact⟨T,A,B,h18,hT,kt h18,ln_of h18,lc_of h18,ln_wide h18,lw_of h18,ck_of h18 hT.a⟩
theorem t20{T:List R6}{A:List R4}{B:List R3}(h:TK T A B)(n:Bool)(a b:List UInt8)(ha:a.length<=1000)(hb:b.length<=1000):∃e,C16 (T,A,B,n,a,b,())=some (e,()):=by
 cases n with
 | false =>
  obtain⟨⟨e,u⟩,he,-⟩:=d20 h a b (by omega) (by omega);exact⟨e,he⟩
 | true =>
  refine⟨(if(a==[]&&(b==[]&&true))=true then 0 else 1),?_⟩;show F16 C11 C40 C16_c0 _=_;simp only[F16,cond_true];cases hab:(a==[]&&(b==[]&&true))with
  | true=>rfl
  | false=>rfl
theorem e21(s:List UInt8)(hs:s.length<=1000000):∃p,C12 (s,())=some (p,())/\(p<0->Asc s)/\(¬p<0->¬Asc s):=by
 by_cases h:Asc s
 . exact⟨-1,c21a s hs h,λ_=>h,λh=>absurd (by decide) h⟩
 . obtain⟨p,e,hp⟩:=c21w s hs h
   exact⟨p,e,λh=>by omega,λ_=>h⟩
theorem c3law(a b:List UInt8):C3 (a,b,())=some (true,()):=by
 show F3 C10 C11 C12 C7 C8 C9 C3_c0 _=_;have h7:C7 ()=some (true,()):=rfl;obtain⟨f,hf,bf⟩:=few8 a b;obtain⟨T,A,B,h9,hT,hK,hL,hC,hN,hW,hk⟩:=tabs;simp only[F3,h7,hf,h9,Option.bind_some];cases f with
 | false=>rfl
 | true =>
  obtain⟨la,lb⟩:=bf rfl;obtain⟨a',b',e1,e2,hl,hA⟩:=k82id hT hK hL hC hN hW hk a b (by omega) (by omega);simp only[Bool.not_true,cond_false,e1,Option.bind_some];have hc:C3_c0 (true,a,b,T,A,B,a',b',())=some (true,()):=by
   show F3_c0 C10 C11 C12 C7 C8 C9 _=_;obtain⟨⟨e,u⟩,h44,-⟩:=d44 hT a b (by omega) (by omega);obtain⟨p,h21,hp,-⟩:=e21 b' (by omega);simp only[F3_c0,cond_true,e2,Option.bind_some,beq_self_eq_true,Bool.and_self,h44,h21];by_cases he:e=0
   . subst he
     rw[inF rfl];simp only[cond_false];by_cases hp0:p<0
     . rw[decide_eq_true hp0]
       rfl
     . rw[decide_eq_false hp0]
       simp only[cond_false];cases hlb:lit b with
       | false =>
        have h1:=hA h44 hlb;have h2:=c21a b' (by omega) h1;rw[h21]at h2;simp only[Option.some.injEq,Prod.mk.injEq,and_true]at h2;omega
       | true =>
        unfold lit at hlb;have h1:=of_decide_eq_true hlb;cases b with
        | nil=>cases h1
        | cons c r =>
         simp only[take_succ_cons,take_zero,List.cons.injEq,and_true]at h1;subst h1;rw[decide_eq_true (by simp only[length_cons];omega)];rfl
   . rw[inT he]
     rfl
  simp only[hc,Option.bind_some]
end Go.Proofs.YtbifjondkjgkmaaGreatDoorA.W
namespace Go.Proofs.YtbifjondkjgkmaaGreatDoorA.PMailboxForms
open Go Go.Ae Go.Proofs.YtbifjondkjgkmaaGreatDoorA.W
theorem pure(x0:(Ty.pair .str .str).den)(b0:Bd (Ty.pair .str .str) x0):C3 (x0.1,x0.2,())=some (true,()):=c3law _ _
end Go.Proofs.YtbifjondkjgkmaaGreatDoorA.PMailboxForms
namespace Go.Proofs.YtbifjondkjgkmaaGreatDoor
open Go Go.Ae Go.RowKit
theorem glob{W:World}{p:Prop}(hL:p)(hsh:W.ShapedOpen prog):GI W m0:=by
 obtain⟨m,hm⟩:=Go.Proofs.cell_of_shapedOpen_int (g:=0) (k := .i64) (t:=3) (zero := #[.int .i64 0]) hsh (of_decide_eq_true (by kernel_rfl)) (by kernel_rfl) (by kernel_rfl) (by kernel_rfl) (by kernel_rfl) (by kernel_rfl);refine⟨⟨m,hm⟩,λb hb=>⟨?_,λh=>h⟩⟩;simp only[GlobB,mem_cons,not_mem_nil,or_false]at hb;subst hb;exact lt_of_cell hm
end Go.Proofs.YtbifjondkjgkmaaGreatDoor
