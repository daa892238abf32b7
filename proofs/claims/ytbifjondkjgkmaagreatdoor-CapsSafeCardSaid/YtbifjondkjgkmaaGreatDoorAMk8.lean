/- The texts of the proof, one behind the other: PL6, PL7, PQ, PL8, PL9, PM1, PM2, PLT, PG3, PPN, PG4, PG5, PT1, W11, PG6, XSafe, PCapsSafe, PGlob. -/
import Derived.Test.YtbifjondkjgkmaaGreatDoorAMk7
import Derived.Test.YtbifjondkjgkmaaGreatDoorAMk6
import Derived.Test.YtbifjondkjgkmaaGreatDoorRows
import Derived.Test.YtbifjondkjgkmaaGreatDoorProg
import Derived.Test.YtbifjondkjgkmaaGreatDoorAMk2
import Derived.MakeChecks
open Go.Proofs.Tryz
open Bool (and_eq_true)
open Int (toNat_natCast)
open List (all_eq_true append_nil length_append length_cons length_nil length_set mem_cons mem_cons_of_mem mem_cons_self nil_append)
open Nat (le_refl)
open Option (map_eq_some_iff)
open Sum (elim_inl elim_inr)
open UInt8 (ofNat_toNat)
set_option linter.unusedVariables false
set_option linter.unusedSimpArgs false
set_option maxRecDepth 100000
namespace Go.Proofs.YtbifjondkjgkmaaGreatDoorA.W
open Go Go.Ae
def Tk.up:Tk->Tk
 | .ok t u => .ok t (1+u)
 | .bad off e => .bad (1+off) e
 | .start => .start
def one(c:UInt8)(r:List UInt8):Int×Tk :=
 if atomB c=true then(0,.ok ((c::r).take (al (c::r))) (al (c::r)))
 else if signB c=true then(2,.ok [c] 1)
 else if c.toNat=34 then(1,(qt r).up)
 else if c.toNat=91 then(5,(ltk r).up)
 else if c.toNat=40 then(3,(nt 1 r).up)
 else if wl (c::r)=0 then(4,.start)else(4,.ok ((c::r).take (wl (c::r))) (wl (c::r)))
theorem fin_up(s:List UInt8)(p:Nat)(bad err:Int)(k:Tk):fin s p bad err (p+1) k=fin s p bad err p k.up:=by
 cases k<;>simp[fin,Tk.up,Nat.add_assoc]
def tkres(s:List UInt8)(p:Nat)(bad err:Int)(x:Int×Tk):Int×List UInt8×Int×List UInt8×Int×Int×Int×Unit :=
 (x.1,(fin s p bad err p x.2).1,(p:Int),(fin s p bad err p x.2).2)
theorem c16(pre r:List UInt8)(c:UInt8)(p:Nat)(bad err:Int)(hp:pre.length=p)(hb:p+r.length<=140737488354000) :
 C66 (pre++c::r,(p:Int),bad,err,())=some (tkres (pre++c::r) p bad err (one c r)):=by
 show F66 C100 C101 C102 C103 C104 C105 C106 C107 C66_c0 (pre++c::r,(p:Int),bad,err,())=_;have h21:=c21 pre (c::r) p bad err hp (by simp;omega);have h26:=c26 pre (c::r) p bad err hp (by simp;omega);have h23:=c23 pre r c p bad err hp (by omega);have h24:=c24 pre r c p bad err hp (by omega);unfold one;by_cases h1:atomB c=true
 . rw[if_pos h1]
   simp (disch:=(first|omega|(simp only[zLn];omega))) only[F66,C66_c0,F66_c0,Sk,c17,h1,h21,tkres,fin]
 . rw[if_neg h1]
   have h1':atomB c=false:=by simpa using h1
   by_cases h2:signB c=true
   . rw[if_pos h2]
     have h2':signI c>=0:=by simpa[signB]using h2
     have ht:List.drop p (List.take (p+1) (pre++c::r))=[c]:=by rw[text_eq hp];rfl
     simp (disch:=(first|omega|(simp only[zLn];omega))) only[F66,C66_c0,F66_c0,Sk,c17,h1',c22s,ht,tkres,fin]
   . rw[if_neg h2]
     have h2':¬signI c>=0:=by simpa[signB]using h2
     by_cases h3:c.toNat=34
     . rw[if_pos h3]
       rw[fin_up]at h23;simp (disch:=(first|omega|(simp only[zLn];omega))) only[F66,C66_c0,F66_c0,Sk,c17,h1',c22s,h23,tkres]
     . rw[if_neg h3]
       by_cases h4:c.toNat=91
       . rw[if_pos h4]
         rw[fin_up]at h24;simp (disch:=(first|omega|(simp only[zLn];omega))) only[F66,C66_c0,F66_c0,Sk,c17,h1',c22s,h24,tkres]
       . rw[if_neg h4]
         by_cases h5:c.toNat=40
         . rw[if_pos h5]
           have h25:=c25 pre r c p bad err h5 hp (by omega);rw[fin_up]at h25;simp (disch:=(first|omega|(simp only[zLn];omega))) only[F66,C66_c0,F66_c0,Sk,c17,h1',c22s,h25,tkres]
         . rw[if_neg h5]
           by_cases h6:wl (c::r)=0
           . rw[if_pos h6]
             rw[h6]at h26;simp (disch:=(first|omega|(simp only[zLn];omega))) only[F66,C66_c0,F66_c0,Sk,c17,h1',c22s,h26,tkres,fin,List.take_zero,c27,beq_self_eq_true,Nat.add_zero]
           . rw[if_neg h6]
             obtain⟨w,hw⟩:∃w,wl (c::r)=w+1:=⟨wl (c::r)-1,by omega⟩
             have hne:((c::r).take (wl (c::r))==[])=false:=by rw[hw];rfl
             simp (disch:=(first|omega|(simp only[zLn];omega))) only[F66,C66_c0,F66_c0,Sk,c17,h1',c22s,h26,tkres,fin,hne]
abbrev Tok:=Int×(List UInt8×Int)
def lx:Nat->List UInt8->Nat->List Tok⊕(Nat×Int)
 | 0,_,_ => .inl []
 | n+1,s,p=>match s with
  | [] => .inl []
  | c::r=>match one c r with
   | (k,.ok t u)=>match lx n ((c::r).drop u) (p+u)with
    | .inl l => .inl ((k,t,(p:Int))::l)
    | .inr e => .inr e
   | (_,.bad off e) => .inr (p+off,e)
   | (_,.start) => .inr (p,4)
theorem qt_used:∀(m:Nat) {r t:List UInt8} {u:Nat},r.length<=m->qt r = .ok t u->t.length+1<=u/\u<=r.length
 | _,[],t,u,_,h=>by simp[qt]at h
 | 0,c::r,t,u,hm,h=>by simp at hm
 | m+1,c::r,t,u,hm,h=>by
  simp only[length_cons]at hm ⊢;by_cases e1:c.toNat=34
  . rw[qt_q e1]at h;cases h;simp
  . by_cases e2:c.toNat=92
    . match r,hm,h with
      | [],hm,h=>rw[qt_b0 e2]at h;cases h
      | d::r',hm,h =>
       rw[qt_b1 e2]at h;cases hd:mayB d<;>rw[hd]at h
       . cases h
       . obtain⟨t',u',h1,rfl,rfl⟩:=push_ok h
         have:=qt_used m (by simp at hm;omega) h1;simp;omega
    . rw[qt_c e1 e2]at h
      cases hd:mayB c<;>rw[hd]at h
      . cases h
      . obtain⟨t',u',h1,rfl,rfl⟩:=push_ok h
        have:=qt_used m (by omega) h1;simp;omega
theorem up_ok{k:Tk}{t:List UInt8}{u:Nat}(h:k.up = .ok t u):∃u',k = .ok t u'/\u=1+u':=by
 cases k<;>simp[Tk.up]at h
 obtain⟨rfl,rfl⟩:=h;exact⟨_,rfl,rfl⟩
theorem al_pos{c:UInt8}{r:List UInt8}(h:atomB c=true):1<=al (c::r):=by simp[al,h]
theorem one_used{c:UInt8}{r t:List UInt8}{k:Int}{u:Nat}(h:one c r=(k,.ok t u)):1<=u/\u<=r.length+1:=by
 unfold one at h;split at h
 . rename_i h1
   cases h;have:=al_le (c::r);exact⟨al_pos h1,by simpa using this⟩
 . split at h
   . cases h;exact⟨by omega,by omega⟩
   . split at h
     . obtain⟨u',h1,rfl⟩:=up_ok (Prod.mk.inj h).2
       have:=qt_used _ (le_refl _) h1;omega
     . split at h
       . obtain⟨u',h1,rfl⟩:=up_ok (Prod.mk.inj h).2
         have:=ltk_ok h1;omega
       . split at h
         . obtain⟨u',h1,rfl⟩:=up_ok (Prod.mk.inj h).2
           have:=nt_ok _ (le_refl _) h1;omega
         . split at h
           . cases h
           . rename_i h6
             cases h;have:=wl_le (c::r);exact⟨by omega,by simpa using this⟩
def rL11(out:List Tok):List Tok⊕(Nat×Int)->(List Tok×Unit)⊕(Int×Int×Unit)
 | .inl l => .inl (out++l,())
 | .inr (b,e) => .inr ((b:Int),e,())
def Tk.eok:Tk->Prop
 | .bad _ e=>e=4\/e=6
 | _=>True
theorem push_eok{k:Tk}{l:List UInt8}{n:Nat}(h:k.eok):(k.push l n).eok:=by cases k<;>first|exact h|exact trivial
theorem up_eok{k:Tk}(h:k.eok):k.up.eok:=by cases k<;>first|exact h|exact trivial
theorem qt_e:∀(m:Nat) (r:List UInt8),r.length<=m->(qt r).eok
 | _,[],_=>trivial
 | 0,c::r,hm=>by simp at hm
 | m+1,c::r,hm=>by
  simp only[length_cons]at hm;by_cases e1:c.toNat=34
  . rw[qt_q e1];trivial
  . by_cases e2:c.toNat=92
    . match r,hm with
      | [],hm=>rw[qt_b0 e2];trivial
      | d::r',hm =>
       rw[qt_b1 e2];cases mayB d
       . exact .inl rfl
       . exact push_eok (qt_e m r' (by simp at hm;omega))
    . rw[qt_c e1 e2]
      cases mayB c
      . exact .inl rfl
      . exact push_eok (qt_e m r (by omega))
theorem ltk_e:∀r:List UInt8,(ltk r).eok
 | []=>trivial
 | c::r=>by
  unfold ltk;split
  . trivial
  . split
    . exact .inl rfl
    . split
      . exact .inl rfl
      . cases blankB c
        . cases mayB c
          . exact .inl rfl
          . exact push_eok (ltk_e r)
        . exact .inl rfl
theorem nt_e:∀(m deep:Nat) (r:List UInt8),r.length<=m->(nt deep r).eok
 | _,_,[],_=>by simp[nt,Tk.eok]
 | 0,_,c::r,hm=>by simp at hm
 | m+1,deep,c::r,hm=>by
  simp only[length_cons]at hm;by_cases e1:c.toNat=40
  . rw[nt_o e1]
    split
    . exact .inr rfl
    . exact push_eok (nt_e m _ r (by omega))
  . by_cases e2:c.toNat=41
    . rw[nt_c e2]
      split
      . trivial
      . exact push_eok (nt_e m _ r (by omega))
    . by_cases e3:c.toNat=92
      . match r,hm with
        | [],hm=>rw[nt_b0 e3];trivial
        | d::r',hm =>
         rw[nt_b1 e3];cases mayB d
         . exact .inl rfl
         . exact push_eok (nt_e m _ r' (by simp at hm;omega))
      . rw[nt_m e1 e2 e3]
        cases mayB c
        . exact .inl rfl
        . exact push_eok (nt_e m _ r (by omega))
theorem one_e(c:UInt8)(r:List UInt8):(one c r).2.eok:=by
 unfold one;split
 . trivial
 . split
   . trivial
   . split
     . exact up_eok (qt_e _ r (le_refl _))
     . split
       . exact up_eok (ltk_e r)
       . split
         . exact up_eok (nt_e _ _ r (le_refl _))
         . split<;>trivial
theorem l11(s:List UInt8):∀(m:Nat) (r pre:List UInt8) (out:List Tok) (bad:Int) (p n:Nat),r.length<=m->s=pre++r->pre.length=p->r.length<n->p+r.length<=100000->out.length+r.length<=100000 ->
 loopN (F37_l0 C34 C66) n (s,out,s,(p:Int),bad,0,())=some (rL11 out (lx m r p))
 | _,_,_,_,_,_,0,_,_,_,hn,_,_=>by omega
 | 0,[],pre,out,bad,p,n+1,hm,hs,hp,hn,hb,ho=>by
  refine loopN_inr ?_;have:s.length=p:=by rw[hs];simp[hp]
  simp (disch:=(first|omega|(simp only[zLn];omega))) only[F37_l0,this,Sk,lx,rL11,append_nil]
 | m+1,[],pre,out,bad,p,n+1,hm,hs,hp,hn,hb,ho=>by
  refine loopN_inr ?_;have:s.length=p:=by rw[hs];simp[hp]
  simp (disch:=(first|omega|(simp only[zLn];omega))) only[F37_l0,this,Sk,lx,rL11,append_nil]
 | 0,c::r,pre,out,bad,p,n+1,hm,hs,hp,hn,hb,ho=>by simp at hm
 | m+1,c::r,pre,out,bad,p,n+1,hm,hs,hp,hn,hb,ho=>by
  simp only[length_cons]at hm hn hb ho;have h16:=c16 pre r c p bad 0 hp (by omega);have he:=one_e c r;rw[<-hs]at h16;have hl:s.length=p+(r.length+1):=by rw[hs];simp[hp]
  cases h1:one c r with
  | mk k tk =>
   rw[h1]at h16 he;cases tk with
   | ok t u =>
    have hu:=one_used h1;rw[loopN_inl (v':=(s,out++[(k,t,(p:Int))],s,((p+u:Nat):Int),bad,0,())) (by
     simp (disch:=(first|omega|(simp only[zLn];omega))) only[F37_l0,hl,Sk,h16,tkres,fin])]
    have:=l11 s m ((c::r).drop u) (pre++(c::r).take u) (out++[(k,t,(p:Int))]) bad (p+u) n (by simp;omega) (by rw[hs,List.append_assoc,List.take_append_drop]) (by simp[hp];omega) (by simp;omega) (by simp;omega) (by simp;omega);rw[this];simp only[lx,h1];cases lx m ((c::r).drop u) (p+u)with
    | inl l=>simp[rL11]
    | inr e=>rfl
   | bad off e =>
    have he':e=4\/e=6:=he;refine loopN_inr ?_;simp (disch:=(first|omega|(simp only[zLn];omega))) only[F37_l0,hl,Sk,h16,tkres,fin,lx,h1,rL11]
   | start =>
    refine loopN_inr ?_;simp (disch:=(first|omega|(simp only[zLn];omega))) only[F37_l0,hl,Sk,h16,tkres,fin,lx,h1,rL11]
def lexs(s:List UInt8)(p:Nat):List Tok⊕(Nat×Int):=lx s.length s p
def end1:List Tok⊕(Nat×Int)->List Tok×Int×Int
 | .inl l=>(l,0,0)
 | .inr x=>([],(x.1:Int),x.2)
def end2:Option Nat->List Tok⊕(Nat×Int)->List Tok×Int×Int
 | some b,_=>([],(b:Int),7)
 | none,x=>end1 x
def lexR(s:List UInt8):List Tok×Int×Int:=if 2000<s.length then([],0,5)else end2 (utf s) (lexs s 0)
theorem c11(s:List UInt8):C37 (s,())=some ((lexR s).1,(lexR s).2.1,(lexR s).2.2,()):=by
 show F37 C34 C66 C37_l0 (s,())=_;unfold lexR;by_cases h:2000<s.length
 . simp only[if_pos h]
   simp (disch:=(first|omega|(simp only[zLn];omega))) only[F37,Sk]
 . simp only[if_neg h]
   obtain⟨o,h15⟩:=c15 s (by omega);cases hu:utf s with
   | some b =>
    rw[hu]at h15;simp only at h15;simp (disch:=(first|omega|(simp only[zLn];omega))) only[F37,Sk,h15,end2]
   | none =>
    rw[hu]at h15;have hl:=l11 s s.length s [] [] 0 0 big (le_refl _) (by simp) rfl (by unfold big;omega) (by omega) (by simp;omega);have hl':C37_l0 (s,[],s,0,0,0,())=some (rL11 [] (lexs s 0)):=hl;simp (disch:=(first|omega|(simp only[zLn];omega))) only[F37,Sk,h15,hl'];cases lexs s 0 with
    | inl l=>simp[rL11,end2,end1]
    | inr x=>obtain⟨b,e⟩:=x;simp[rL11,end2,end1]
def asciiB(c:UInt8):Bool:=decide (c.toNat<128)
theorem asc_k:((List.range 256).all λn=>(λc:UInt8 => !asciiB c||(decide (leadN c=0)&&decide (lenR (leadV c)=1))) (UInt8.ofNat n))=true:=by kernel_rfl
theorem ch_asc{c:UInt8}(h:c.toNat<128)(r:List UInt8):ch (c::r)=1:=by
 have h1:(!asciiB c||(decide (leadN c=0)&&decide (lenR (leadV c)=1)))=true:=all256 (λc:UInt8 => !asciiB c||(decide (leadN c=0)&&decide (lenR (leadV c)=1))) asc_k c;have h2:asciiB c=true:=by simp[asciiB,h]
 simp only[h2,Bool.not_true,Bool.false_or,and_eq_true,decide_eq_true_eq]at h1;simp[ch,h1.1,conts,h1.2]
def stops(p:UInt8->Bool):List UInt8->Prop
 | []=>True
 | b::_=>p b=false
inductive Val:List UInt8->Prop
 | nil:Val []
 | cons (s:List UInt8) (h:ch s≠0) (h2:Val (s.drop (ch s))):Val s
def contK(c:UInt8):Bool := !contB c||decide (128<=c.toNat)
theorem cont_k:((List.range 256).all λn=>contK (UInt8.ofNat n))=true:=by kernel_rfl
theorem cont_hi{c:UInt8}(h:contB c=true):128<=c.toNat:=by
 have:=all256 contK cont_k c;simpa[contK,h]using this
theorem conts_hi:∀(n:Nat) (r:List UInt8) (v v':Int),conts n r v=some v'->n<=r.length/\∀c∈r.take n,128<=c.toNat
 | 0,r,v,v',_=>⟨by omega,by simp⟩
 | n+1,[],v,v',h=>by simp[conts]at h
 | n+1,c::r,v,v',h=>by
  cases hc:contB c with
  | true =>
   simp only[conts,hc,cond_true]at h;obtain⟨h1,h2⟩:=conts_hi n r _ _ h;refine⟨by simp;omega,λx hx => ?_⟩;rw[List.take_succ_cons]at hx;rcases mem_cons.1 hx with rfl|hx
   . exact cont_hi hc
   . exact h2 x hx
  | false=>simp[conts,hc]at h
theorem conts_app:∀(n:Nat) (r x:List UInt8) (v:Int),n<=r.length->conts n (r++x) v=conts n r v
 | 0,r,x,v,_=>by cases r<;>rfl
 | n+1,[],x,v,h=>by simp at h
 | n+1,c::r,x,v,h=>by
  simp only[List.cons_append,conts];cases contB c
  . rfl
  . exact conts_app n r x _ (by simpa using h)
theorem ch_some{c:UInt8}{r:List UInt8}(h:ch (c::r)≠0):∃v,¬leadN c<0/\¬r.length<(leadN c).toNat/\conts (leadN c).toNat r (leadV c)=some v/\lenR v=leadN c+1/\ch (c::r)=(leadN c).toNat+1:=by
 simp only[ch]at h;split at h
 . exact absurd rfl h
 . rename_i h1
   split at h
   . exact absurd rfl h
   . rename_i h2
     split at h
     . exact absurd rfl h
     . rename_i v hv
       split at h
       . rename_i h3
         exact⟨v,h1,h2,hv,h3,by simp[ch,h1,h2,hv,h3]⟩
       . exact absurd rfl h
theorem ch_unapp{s x:List UInt8}(h:ch (s++x)≠0)(hl:ch (s++x)<=s.length):ch s=ch (s++x):=by
 cases s with
 | nil=>simp at hl;exact absurd hl h
 | cons c r =>
  obtain⟨v,h1,h2,h3,h4,h5⟩:=ch_some (r:=r++x) h;have h5':ch (c::r++x)=(leadN c).toNat+1:=h5;rw[h5']at hl ⊢;simp only[length_cons]at hl;rw[conts_app _ _ _ _ (by omega)]at h3;simp only[ch,if_neg h1,if_neg (show ¬r.length<(leadN c).toNat by omega),h3,if_pos h4]
theorem Val.one{c:UInt8}(h:c.toNat<128):Val [c] := .cons _ (by rw[ch_asc h];simp) (by rw[ch_asc h];exact .nil)
theorem Val.split:∀(m:Nat) (a:List UInt8) (c:UInt8) (b:List UInt8),a.length<=m->c.toNat<128->Val (a++c::b)->Val a/\Val b
 | m,[],c,b,_,hc,h=>by
  refine⟨.nil,?_⟩;cases h with
  | cons _ h h2=>simpa[ch_asc hc]using h2
 | 0,d::a,c,b,hm,hc,h=>by simp at hm
 | m+1,d::a,c,b,hm,hc,h=>by
  cases h with
  | cons _ h0 h2 =>
   have hk:ch (d::a++c::b)<=(d::a).length:=by
    by_cases hd:d.toNat<128
    . have:ch (d::a++c::b)=1:=ch_asc hd _
      rw[this];simp
    . obtain⟨v,g1,g2,g3,g4,g5⟩:=ch_some (r:=a++c::b) h0
      have g5':ch (d::a++c::b)=(leadN d).toNat+1:=g5;rw[g5',length_cons];obtain⟨e1,e2⟩:=conts_hi _ _ _ _ g3;rcases Nat.lt_or_ge a.length (leadN d).toNat with hlt|hge
      . exfalso
        have:c∈(a++c::b).take (leadN d).toNat:=by
         rw[List.take_append];obtain⟨j,hj⟩:∃j,(leadN d).toNat-a.length=j+1:=⟨(leadN d).toNat-a.length-1,by omega⟩
         rw[hj,List.take_succ_cons];simp
        have:=e2 c this;omega
      . omega
   have hsame:=ch_unapp (s:=d::a) (x:=c::b) h0 hk;have h0':ch (d::a)≠0:=by rw[hsame];exact h0
   rw[List.drop_append,show ch (d::a++c::b)-(d::a).length=0 by omega,List.drop_zero,<-hsame]at h2;obtain⟨i1,i2⟩:=Val.split m ((d::a).drop (ch (d::a))) c b (by simp at hm ⊢;omega) hc h2;exact⟨.cons _ h0' i1,i2⟩
theorem Val.cut{a b:List UInt8}{c:UInt8}(hc:c.toNat<128)(h:Val (a++c::b)):Val a/\Val b:=Val.split _ a c b (le_refl _) hc h
def skn:List Tok->Nat
 | []=>0
 | t::r=>bif t.1==4||t.1==3 then skn r+1 else 0
def sgn(s:List UInt8):List Tok->Bool
 | t::_=>t.1==2&&t.2.1==s
 | []=>false
def dwn(acc:List UInt8):List Tok->List UInt8×Nat
 | t::u::r=>bif(t.1==2&&t.2.1==[46])&&u.1==0 then((dwn (acc++([46]++u.2.1)) r).1,(dwn (acc++([46]++u.2.1)) r).2+2)else(acc,0)
 | _=>(acc,0)
def dot:List Tok->List UInt8×Bool×Nat
 | t::r=>bif t.1==0 then((dwn t.2.1 r).1,true,(dwn t.2.1 r).2+1)else([],false,0)
 | []=>([],false,0)
def loc:List Tok->Bool×List UInt8×Nat
 | t::r=>bif t.1==1 then(true,t.2.1,1)else((dot (t::r)).2.1,(dot (t::r)).1,(dot (t::r)).2.2)
 | []=>(false,[],0)
def dom:List Tok->Bool×List UInt8×Nat
 | t::r=>bif t.1==5 then(true,src t.1 t.2.1,1)else((dot (t::r)).2.1,(dot (t::r)).1,(dot (t::r)).2.2)
 | []=>(false,[],0)
def mt(l:List Tok):Option (List UInt8×List UInt8×Nat) :=
 let n1:=skn l
 let n2:=n1+(loc (l.drop n1)).2.2
 let n3:=n2+skn (l.drop n2)
 let n5:=n3+1+skn (l.drop (n3+1))
 let n6:=n5+(dom (l.drop n5)).2.2
 bif !(loc (l.drop n1)).1 then none else bif !sgn [64] (l.drop n3)then none else bif !(dom (l.drop n5)).1 then none else
 some ((loc (l.drop n1)).2.1,(dom (l.drop n5)).2.1,n6+skn (l.drop n6))
section
variable {T:List R6} {A:List R4} {B:List R3}
theorem d85(x:Int):Df (C36 (x,())) (λ_=>True):=by
 unfold C36 F36;dsimp only;with_reducible repeat' (first|apply dP|apply dX<;>intro _)
 all_goals trivial
theorem d156v1(s:List UInt8)(b:Bool)(hs:s.length<=1000000000000000):Df (C99v1 (s,b,())) (λ_=>True):=by
 unfold C99v1 F99v1;dsimp only;refine dZ (P:=λ_=>True) ?_ (λz _=>by cases z<;>exact dP trivial);refine dL ?I ?m ?h _ ?hv ?hn
 case I=>exact(λv=>v.2.1.1=s/\0<=v.2.1.2)
 case m=>exact(λv=>s.length-v.2.1.2.toNat)
 case hv=>exact⟨rfl,Int.le_refl _⟩
 case hn=>exact(by(try dsimp only);omega)
 . rintro⟨x0,⟨x1,p⟩,u⟩ hI
   dsimp only at hI;obtain⟨rfl,h0⟩:=hI;unfold F99v1_l0;dsimp only;with_reducible repeat' (first|apply dP|apply dX<;>intro _)
   . refine dZ (d85 _) ?_
     rintro⟨x,u⟩ -
     dsimp only;have:=decR_pos x1 p.toNat
     with_reducible repeat' (first|apply dP|apply dX<;>intro _)
     . trivial
     . exact⟨⟨rfl,by(try dsimp only);omega⟩,by(try dsimp only);omega⟩
   . trivial
theorem d84v1(s:List UInt8)(hs:s.length<=1000000000000000):Df (C35v1 (s,())) (λ_=>True):=by
 unfold C35v1 F35v1;dsimp only;refine dZ (P:=λ_=>True) ?_ (λz _=>dP trivial);unfold C65v1 F65v1;dsimp only;exact dZ (d156v1 s true hs) (λz _=>dP trivial)
theorem d86(a:List UInt8):Df (C31 (a,())) (λ_=>True):=by
 unfold C31 F31;dsimp only;refine dZ (P:=λ_=>True) ?_ (λz _=>dP trivial);unfold C59 F59;dsimp only;exact dZ (d131 a [91]) (λz _=>dP trivial)
theorem d87(h:TK T A B)(s:List UInt8)(hs:s.length<=3000):Df (C33 (T,A,B,s,())) (λ_=>True):=by
 unfold C33 F33;dsimp only;obtain⟨y,e⟩:=d124 h s hs;exact dZ (P:=λ_=>True) ⟨y,e,trivial⟩ (λz _=>dP trivial)
theorem d44(h:TK T A B)(a b:List UInt8)(ha:a.length<=100000)(hb:b.length<=3000):Df (C11 (T,A,B,a,b,())) (λ_=>True):=by
 unfold C11 F11;dsimp only;refine dZ (d83 a (by omega)) ?_;rintro⟨x,y,u⟩ -
 dsimp only;with_reducible repeat' (first|apply dP|apply dX<;>intro _)
 . trivial
 . trivial
 . trivial
 . refine dZ (d84v1 a (by omega)) ?_
   rintro⟨x,u⟩ -
   dsimp only;with_reducible repeat' (first|apply dP|apply dX<;>intro _)
   . trivial
   . refine dZ (d86 b) ?_
     rintro⟨x,u⟩ -
     dsimp only;with_reducible repeat' (first|apply dP|apply dX<;>intro _)
     . rw[c11 b]
       simp only[Option.bind_some];with_reducible repeat' (first|apply dP|apply dX<;>intro _)
       . trivial
       . trivial
       . trivial
       . trivial
       . refine dO ?_;omega
     . exact dZ (d87 h b hb) (λz _=>dP trivial)
end
section
variable {l:List Tok}
end
section
variable {T:List R6} {A:List R4} {B:List R3}
end
def ix(s:List UInt8)(k:UInt8):Int:=Lib.indexByte s k
theorem toB(k:UInt8):((k.toNat:Int)).toNat.toUInt8=k:=by
 rw[toNat_natCast];exact ofNat_toNat
theorem c162(s:List UInt8)(k:UInt8):C131 (s,(k.toNat:Int),())=some (ix s k,()):=by
 show F131 C163 _=_;simp only[F131];show (some (Lib.indexByte s ((k.toNat:Int)).toNat.toUInt8,())).bind _=_;rw[toB];rfl
theorem c197(s:List UInt8)(k:UInt8):C164 (s,[k],())=some (ix s k,()):=by
 have h0:∀b,(b=true->ix s k=0)->C164_c0 (s,[k],1,b,())=some (ix s k,()):=by
  intro b hb;show F164_c0 C131 _=_;simp only[F164_c0];cases b with
  | true=>rw[hb rfl];rfl
  | false =>
   simp only[cond_false,List.getD_cons_zero,c162,Option.bind_some];rfl
 show F164 C131 C164_c0 _=_;simp only[F164,length_cons,length_nil];rw[show ((((0+1:Nat):Int))==0)=false from rfl];simp only[cond_false];rw[show (((0+1:Nat):Int))=1 from rfl,h0 _ (λh => ?_)]
 . rfl
 . have:=eq_of_beq h
   rw[<-this];simp[ix,Lib.indexByte]
theorem ix_cons(c:UInt8)(s:List UInt8)(k:UInt8):ix (c::s) k=if c==k then 0 else if ix s k == -1 then -1 else ix s k+1:=rfl
theorem ix_app(k:UInt8)(r:List UInt8):∀a:List UInt8,(∀c∈a,c≠k)->ix (a++k::r) k=a.length
 | [],_=>by rw[nil_append,ix_cons,if_pos (beq_self_eq_true k)];rfl
 | c::a,h=>by
  have ih:=ix_app k r a λd hd=>h d (mem_cons_of_mem _ hd);have hc:(c==k)=false:=beq_eq_false_iff_ne.2 (h c mem_cons_self);rw[List.cons_append,ix_cons,hc,if_neg (by simp),ih,ibF (by omega),if_neg (by simp),length_cons];omega
theorem ix_non(k:UInt8):∀a:List UInt8,(∀c∈a,c≠k)->ix a k = -1
 | [],_=>rfl
 | c::a,h=>by
  have ih:=ix_non k a λd hd=>h d (mem_cons_of_mem _ hd);have hc:(c==k)=false:=beq_eq_false_iff_ne.2 (h c mem_cons_self);rw[ix_cons,hc,if_neg (by simp),ih];rfl
theorem c129a(a r:List UInt8)(k:UInt8)(h:∀c∈a,c≠k)(hs:a.length+r.length<=1000000):C110 (a++k::r,[k],())=some (a,r,true,()):=by
 have hl:(((a++k::r).length:Nat):Int)=a.length+r.length+1:=by simp;omega
 have h3:C134 (a++k::r,[k],())=some (a,r,true,()):=by
  show F134 C164 _=_;simp only[F134,c197,Option.bind_some,length_cons,length_nil,ix_app k r a h];have hw:=w64s (n:=(a.length:Int)+((0+1:Nat):Int)) (by omega);simp only[hw,hl];rw[decide_eq_true (show (a.length:Int)>=0 by omega),decide_eq_true (by omega),decide_eq_true (by omega),decide_eq_true (by omega)];simp only[Bool.and_self,cond_true];rw[show ((a.length:Int)+((0+1:Nat):Int)).toNat=a.length+1 by omega,toNat_natCast];simp only[List.take_left];rw[show a++k::r=(a++[k])++r by simp,show a.length+1=(a++[k]).length by simp,List.drop_left]
 show F110 C134 _=_;simp only[F110,h3,Option.bind_some]
theorem c129n(a:List UInt8)(k:UInt8)(h:∀c∈a,c≠k):C110 (a,[k],())=some (a,[],false,()):=by
 have h3:C134 (a,[k],())=some (a,[],false,()):=by
  show F134 C164 _=_;simp only[F134,c197,Option.bind_some,ix_non k a h];rfl
 show F110 C134 _=_;simp only[F110,h3,Option.bind_some]
theorem join_two(a b:List UInt8)(r:List (List UInt8)):Lib.join (a::b::r) [46]=a++46::Lib.join (b::r) [46]:=by
 simp[Lib.join,List.intercalate,List.intersperse]
theorem parts_join:∀(az:List (List UInt8)) (n:Nat),az≠[]->(∀a∈az,∀c∈a,c≠46)->az.length<=n->(Lib.join az [46]).length<=1000000->partsC n (Lib.join az [46])=some az
 | [],_,h,_,_,_=>(h rfl).elim
 | _::_,0,_,_,h,_=>by simp at h
 | [a],n+1,_,h,_,_=>by
  rw[Lib.join_one];simp only[partsC,c129n a 46 (h a mem_cons_self),Option.bind_some,cond_false]
 | a::b::r,n+1,_,h,hn,hl=>by
  rw[join_two]at hl ⊢;simp only[length_append,length_cons]at hl hn;have ih:=parts_join (b::r) n (by simp) (λx hx=>h x (mem_cons_of_mem _ hx)) (by simp only[length_cons];omega) (by omega);simp only[partsC,c129a a (Lib.join (b::r) [46]) 46 (h a mem_cons_self) (by omega),Option.bind_some,cond_true,ih,Option.map_some]
theorem mem_join:∀(az:List (List UInt8)) (c:UInt8),c∈Lib.join az [46]->c=46\/∃a∈az,c∈a
 | [],c,h=>by cases h
 | [a],c,h=>by rw[Lib.join_one]at h;exact .inr ⟨a,mem_cons_self,h⟩
 | a::b::r,c,h=>by
  rw[join_two]at h;rcases List.mem_append.1 h with h|h
  . exact .inr ⟨a,mem_cons_self,h⟩
  . rcases mem_cons.1 h with h|h
    . exact .inl h
    . rcases mem_join (b::r) c h with h|⟨x,hx,hc⟩
      . exact .inl h
      . exact .inr ⟨x,mem_cons_of_mem _ hx,hc⟩
theorem join_ge:∀(az:List (List UInt8)) (a:List UInt8),a∈az->a.length<=(Lib.join az [46]).length
 | [],a,h=>by cases h
 | [b],a,h=>by rw[Lib.join_one,List.mem_singleton.1 h];exact le_refl _
 | x::b::r,a,h=>by
  rw[join_two];simp only[length_append,length_cons];rcases mem_cons.1 h with rfl|h
  . omega
  . have:=join_ge (b::r) a h
    omega
theorem replace_asc(x new:List UInt8)(ha:∀c∈x,c.toNat<128):Lib.replaceAll x [227,128,130] new=x:=by
 unfold Lib.replaceAll Lib.replace;split
 . rfl
 . generalize Lib.replaceNum x [227,128,130] (-1)=k
   cases k with
   | zero=>rfl
   | succ k =>
    rcases Lib.index_spec x [227,128,130]with⟨hi,-⟩|⟨i,hi,h1,h2,-⟩
    . rw[Lib.replaceK,if_pos (by rw[hi];rfl)]
    . exfalso
      have hfit:i+[(227:UInt8),128,130].length<=x.length:=index_fit hi;rw[Lib.occAt_iff_take _ _ _ hfit]at h2;have h3:(x.drop i).take 3=[227,128,130]:=eq_of_beq h2;have h4:(227:UInt8)∈x:=List.mem_of_mem_drop (List.mem_of_mem_take (i:=3) (l:=x.drop i) (by rw[h3];exact mem_cons_self));exact absurd (ha _ h4) (by decide)
theorem parts_ne:∀(n:Nat) (s:List UInt8) (ps:List (List UInt8)),partsC n s=some ps->ps≠[]
 | 0,_,_,h=>by cases h
 | n+1,s,ps,h=>by
  simp only[partsC]at h;cases hc:C110 (s,[46],())with
  | none=>rw[hc]at h;cases h
  | some y =>
   obtain⟨a,b,ok,u⟩:=y;rw[hc]at h;simp only[Option.bind_some]at h;cases ok with
   | true =>
    simp only[cond_true,map_eq_some_iff]at h;obtain⟨qs,hq,rfl⟩:=h;exact List.cons_ne_nil _ _
   | false =>
    simp only[cond_false,Option.some.injEq]at h;subst h;exact List.cons_ne_nil _ _
section
variable {T:List R6} {A:List R4} {B:List R3}
theorem labels_inv(f:List UInt8)(ok:Bool)(hf:f.length<=5000000)(ls:List (List UInt8))(h:labelsF f ok=some (ls,0)):ok=true/\ls≠[]/\ls.length<=32/\∀p∈ls,p.length<=f.length:=by
 unfold labelsF at h;cases ok with
 | false=>simp at h
 | true =>
  simp only[Bool.not_true,cond_false]at h;cases hfe:f.isEmpty with
  | true=>rw[hfe]at h;simp at h
  | false =>
   rw[hfe]at h;simp only[cond_false]at h;rw[decide_eq_true (by omega)]at h;simp only[cond_true]at h;have hr:=replaceAll_le f [227,128,130] [46] (by decide);obtain⟨ps,e,h1,h2⟩:=parts_total (f.length+2) (Lib.replaceAll f [227,128,130] [46]) (by omega) (by omega);rw[e]at h;simp only[Option.bind_some]at h;rw[decide_eq_true (by omega)]at h;simp only[cond_true]at h;by_cases h3:32<ps.length
   . rw[decide_eq_true h3]at h
     simp at h
   . rw[decide_eq_false h3]at h
     simp only[cond_false,Option.some.injEq,Prod.mk.injEq,and_true]at h;subst h;exact⟨rfl,parts_ne _ _ _ e,by omega,λp hp=>by have:=h2 p hp;omega⟩
theorem both_out(A U:List UInt8->Option (List UInt8×Int)):∀(ls ps qs:List (List UInt8)) r,bothF A U ls ps qs=some r->r.1=0->∃az,r.2.1=ps++az/\az.length=ls.length/\∀a∈az,∃x∈ls,A x=some (a,0)
 | [],ps,qs,r,h,h0=>by
  simp only[bothF,Option.some.injEq]at h;subst h;exact⟨[],by simp,rfl,λa ha=>by cases ha⟩
 | y::ls,ps,qs,r,h,h0=>by
  simp only[bothF]at h;cases ha:A y with
  | none=>rw[ha]at h;cases h
  | some a =>
   rw[ha]at h;simp only[Option.bind_some]at h;by_cases hz:a.2=0
   . rw[inF hz]at h
     simp only[cond_false]at h;cases hu:U y with
     | none=>rw[hu]at h;cases h
     | some u =>
      rw[hu]at h;obtain⟨az,e,hl,hall⟩:=both_out A U ls _ _ r h h0;refine⟨a.1::az,by rw[e];simp,by simp[hl],λz hz' => ?_⟩;rcases mem_cons.1 hz' with rfl|hz'
      . exact⟨y,mem_cons_self,by rw[ha,<-hz]⟩
      . obtain⟨x,hx,hA⟩:=hall z hz'
        exact⟨x,mem_cons_of_mem _ hx,hA⟩
   . rw[inT hz]at h
     simp only[cond_true,Option.some.injEq]at h;subst h;exact(hz h0).elim
theorem both_same(A U:List UInt8->Option (List UInt8×Int)):∀(az ps qs:List (List UInt8)) r,(∀a∈az,A a=some (a,0))->bothF A U az ps qs=some r->r.1=0/\r.2.1=ps++az
 | [],ps,qs,r,_,h=>by
  simp only[bothF,Option.some.injEq]at h;subst h;exact⟨rfl,by simp⟩
 | y::ls,ps,qs,r,hA,h=>by
  simp only[bothF,hA y mem_cons_self,Option.bind_some]at h;rw[inF rfl]at h;simp only[cond_false]at h;cases hu:U y with
  | none=>rw[hu]at h;cases h
  | some u =>
   rw[hu]at h;obtain⟨h1,h2⟩:=both_same A U ls _ _ r (λa ha=>hA a (mem_cons_of_mem _ ha)) h;exact⟨h1,by rw[h2];simp⟩
theorem join_eq{l:List (List UInt8)}{x:List UInt8}(h:joinF (l,[46],())=some (x,())):x=Lib.join l [46]:=by
 unfold joinF at h;dsimp only at h;cases hc:(decide (l.length<=140737488355328)&&decide ((Lib.join l [46]).length<=140737488355328))with
 | false=>rw[hc]at h;cases h
 | true=>rw[hc]at h;cases h;rfl
theorem out_inv{r:Int×List (List UInt8)×List (List UInt8)}{o:List UInt8×List UInt8×Int}(h:outF r=some o)(h0:o.2.2=0):r.1=0/\o.1=Lib.join r.2.1 [46]/\o.1.length<=253:=by
 unfold outF at h;by_cases hz:r.1=0
 . rw[inF hz]at h
   simp only[cond_false]at h;cases hj:joinF (r.2.1,[46],())with
   | none=>rw[hj]at h;cases h
   | some ja =>
    obtain⟨ja,u⟩:=ja;rw[hj]at h;simp only[Option.bind_some]at h;by_cases hl:253<ja.length
    . rw[decide_eq_true hl]at h
      simp only[cond_true,Option.some.injEq]at h;subst h;exact absurd h0 (by decide)
    . rw[decide_eq_false hl]at h
      simp only[cond_false]at h;cases hu:joinF (r.2.2,[46],())with
      | none=>rw[hu]at h;cases h
      | some ju =>
       rw[hu]at h;simp only[Option.bind_some,Option.some.injEq]at h;subst h;exact⟨hz,join_eq hj,by(try dsimp only);omega⟩
 . rw[inT hz]at h
   simp only[cond_true,Option.some.injEq]at h;subst h;exact(hz h0).elim
theorem out_same{r:Int×List (List UInt8)×List (List UInt8)}{o:List UInt8×List UInt8×Int}(h:outF r=some o)(h0:r.1=0)(hl:(Lib.join r.2.1 [46]).length<=253):o.1=Lib.join r.2.1 [46]/\o.2.2=0:=by
 unfold outF at h;rw[inF h0]at h;simp only[cond_false]at h;cases hj:joinF (r.2.1,[46],())with
 | none=>rw[hj]at h;cases h
 | some ja =>
  obtain⟨ja,u⟩:=ja;have hje:=join_eq hj;rw[hj]at h;simp only[Option.bind_some]at h;rw[decide_eq_false (by rw[hje];omega)]at h;simp only[cond_false]at h;cases hu:joinF (r.2.2,[46],())with
  | none=>rw[hu]at h;cases h
  | some ju =>
   rw[hu]at h;simp only[Option.bind_some,Option.some.injEq]at h;subst h;exact⟨hje,rfl⟩
structure Dm (T:List R6) (A:List R4) (B:List R3) (x:List UInt8):Prop where
 lw:Lw B x
 ne:x≠[]
 len:x.length<=253
 kk:∀c∈x,kk (c.toNat:Int)=true->c=46
 self:Pf (C62 (T,A,B,x,())) λy=>y.1=x/\y.2.2.1=0
theorem domR(h:TK T A B)(hK:KT T A B)(hL:LN B)(hC:LC T A B)(s:List UInt8)(hs:s.length<=400):Pf (C62 (T,A,B,s,())) (λy=>y.2.2.1=0->Dm T A B y.1):=by
 obtain⟨⟨f,ok,u⟩,e151,hf⟩:=d151 h s (by omega);dsimp only at hf;obtain⟨ls,c,e2,hll,-⟩:=labels_total f ok (by omega);unfold C62;dsimp only;simp only[e151,Option.bind_some,e2];refine pX (λhc=>pP λh0=>(hc h0).elim) (λhc => ?_);refine pX (λ_ => ?_) (λ_=>pN);have hc':c=0:=hc;subst hc';obtain⟨-,hne,hl32,hpl⟩:=labels_inv f ok (by omega) ls e2;intro y ey h0;cases hb:bothF (λx=>(C95 (T,A,B,x,())).map λr=>(r.1,r.2.1)) (λx=>(C96 (T,A,B,x,())).map λr=>(r.1,r.2.1)) ls [] []with
 | none=>rw[hb]at ey;cases ey
 | some r =>
  rw[hb]at ey;simp only[Option.bind_some,map_eq_some_iff]at ey;obtain⟨o,ho,rfl⟩:=ey;dsimp only at h0 ⊢;obtain⟨hr0,hj,hl253⟩:=out_inv ho h0;obtain⟨az,eas,hlen,has⟩:=both_out _ _ ls [] [] r hb hr0;rw[nil_append]at eas;rw[eas]at hj;have hA:∀a∈az,C95 (T,A,B,a,())=some (a,0,())/\Lw B a/\a≠[]/\∀x∈bi a,kk x=false:=by
   intro a ha;obtain⟨x,hx,hAx⟩:=has a ha;have hax:=join_ge az a ha;rw[<-hj]at hax;simp only[map_eq_some_iff,Prod.mk.injEq]at hAx;obtain⟨⟨a',c',u'⟩,e1,rfl,rfl⟩:=hAx;dsimp only at hax;obtain⟨l1,l2⟩:=lab h hL hC x (by have:=hpl x hx;omega) a' (by omega) e1;have hn:¬(a'=[]\/∃x∈bi a',kk x=true):=λhbad=>p159 h hK a' (by omega) hbad _ l1 rfl;refine⟨l1,l2,λe=>hn (.inl e),λz hz => ?_⟩;cases hkz:kk z with
   | false=>rfl
   | true=>exact(hn (.inr ⟨z,hz,hkz⟩)).elim
  have hkk:∀a∈az,∀c∈a,kk (c.toNat:Int)=false:=λa ha c hc=>(hA a ha).2.2.2 _ (List.mem_map_of_mem hc);have h46:∀a∈az,∀c∈a,c≠46:=λa ha c hc e=>by
   have:=hkk a ha c hc;rw[e]at this;exact absurd this (by decide)
  have hane:az≠[]:=λe=>by
   rw[e]at hlen;exact hne (List.eq_nil_of_length_eq_zero hlen.symm)
  have hw:Lw B o.1:=by
   intro c hc;rw[hj]at hc;rcases mem_join az c hc with rfl|⟨a,ha,hc⟩
   . exact⟨by decide,hL.lo _ (by decide) (by decide) (by decide)⟩
   . exact(hA a ha).2.1 c hc
  have hone:o.1≠[]:=by
   obtain⟨a,az',rfl⟩:=List.exists_cons_of_ne_nil hane;have h1:=join_ge (a::az') a mem_cons_self;rw[<-hj]at h1;intro e;rw[e]at h1;exact(hA a mem_cons_self).2.2.1 (List.eq_nil_of_length_eq_zero (by simpa using h1))
  refine⟨hw,hone,hl253,λc hc hk => ?_,?_⟩
  . rw[hj]at hc
    rcases mem_join az c hc with rfl|⟨a,ha,hc⟩
    . rfl
    . rw[hkk a ha c hc]at hk;cases hk
  . have hlab:labelsF o.1 true=some (az,0):=by
     unfold labelsF;have he:o.1.isEmpty=false:=by
      cases ho1:o.1 with
      | nil=>exact(hone ho1).elim
      | cons=>rfl
     rw[he];simp only[Bool.not_true,cond_false];rw[decide_eq_true (by omega),replace_asc o.1 [46] λc hc=>(hw c hc).1];simp only[cond_true];have hp:=parts_join az (o.1.length+2) hane h46 ?_ (by rw[<-hj];omega)
     . rw[<-hj]at hp
       rw[hp];simp only[Option.bind_some];rw[decide_eq_true (by omega),decide_eq_false (by omega)];rfl
     . rw[hj]
       have:∀l:List (List UInt8),l.length<=(Lib.join l [46]).length+2:=by
        intro l
        induction l with
        | nil=>simp
        | cons a l ih =>
         cases l with
         | nil=>simp only[length_cons,length_nil];omega
         | cons b l =>
          rw[join_two];simp only[length_cons,length_append]at ih ⊢;omega
       exact this az
    unfold C62;dsimp only;simp only[i151 h hL hC o.1 (by omega) hw,Option.bind_some,hlab];refine pX (λhc=>(hc rfl).elim) (λ_ => ?_);refine pX (λ_ => ?_) (λ_=>pN);intro y ey;cases hb2:bothF (λx=>(C95 (T,A,B,x,())).map λr=>(r.1,r.2.1)) (λx=>(C96 (T,A,B,x,())).map λr=>(r.1,r.2.1)) az [] []with
    | none=>rw[hb2]at ey;cases ey
    | some r2 =>
     rw[hb2]at ey;simp only[Option.bind_some,map_eq_some_iff]at ey;obtain⟨o2,ho2,rfl⟩:=ey;obtain⟨g1,g2⟩:=both_same _ _ az [] [] r2 (λa ha=>by rw[(hA a ha).1];rfl) hb2;rw[nil_append]at g2;obtain⟨k1,k2⟩:=out_same ho2 g1 (by rw[g2,<-hj];exact hl253);dsimp only;exact⟨by rw[k1,g2,<-hj],k2⟩
theorem dom87(h:TK T A B)(hK:KT T A B)(hL:LN B)(hC:LC T A B)(s:List UInt8)(hs:s.length<=400)(x:List UInt8)(e:C33 (T,A,B,s,())=some (x,0,())):Dm T A B x/\C33 (T,A,B,x,())=some (x,0,()):=by
 have e':F33 C62 (T,A,B,s,())=some (x,0,()):=e;unfold F33 at e';dsimp only at e';cases hc:C62 (T,A,B,s,())with
 | none=>rw[hc]at e';cases e'
 | some y =>
  obtain⟨a,b,c,u⟩:=y;rw[hc]at e';simp only[Option.bind_some,Option.some.injEq,Prod.mk.injEq]at e';obtain⟨rfl,rfl,-⟩:=e';have hd:=domR h hK hL hC s hs _ hc rfl;dsimp only at hd;refine⟨hd,?_⟩;obtain⟨⟨a',b',c',u'⟩,e2⟩:=d124 h a (by have:=hd.len;omega);obtain⟨q1,q2⟩:=hd.self _ e2;dsimp only at q1 q2;subst q1 q2;show F33 C62 _=_;simp only[F33,e2,Option.bind_some]
end
def lowb(b:UInt8):UInt8:=UInt8.ofNat (((C61 ((b.toNat:Int),())).getD (0,())).1.toNat)
theorem low_k:((List.range 256).all λn=>(C61 (((UInt8.ofNat n).toNat:Int),())).isSome)=true:=by kernel_rfl
theorem p64(b:UInt8):∃v:Int,C61 ((b.toNat:Int),())=some (v,())/\UInt8.ofNat v.toNat=lowb b:=by
 have h:=all_eq_true.1 low_k b.toNat (by simp only[List.mem_range];exact b.toNat_lt)
 simp only[ofNat_toNat]at h;obtain⟨⟨v,u⟩,hv⟩:=Option.isSome_iff_exists.1 h;exact⟨v,hv,by unfold lowb;rw[hv];rfl⟩
theorem pl63:∀(r pre:List UInt8) (p n:Nat) (acc:List UInt8),pre.length=p->acc.length=p->r.length<n->p+r.length<=1000000 ->
 loopN (F60_l0 C61) n (pre++r,((p+r.length:Nat):Int),(p:Int),acc,())=some (acc++r.map lowb,())
 | [],pre,p,n+1,acc,hp,ha,hn,hb=>by
  refine loopN_inr ?_;simp only[F60_l0,length_nil,Nat.add_zero];rw[decide_eq_false (by omega)];simp only[cond_false,List.map_nil,append_nil]
 | c::r,pre,p,n+1,acc,hp,ha,hn,hb=>by
  simp only[length_cons]at hn hb;obtain⟨v,hv,hl⟩:=p64 c;have hlen:(pre++c::r).length=p+r.length+1:=by simp[hp];omega
  rw[loopN_inl (v':=(pre++c::r,((p+(r.length+1):Nat):Int),((p+1:Nat):Int),acc++[lowb c],())) ?_]
  . have ih:=pl63 r (pre++[c]) (p+1) n (acc++[lowb c]) (by simp[hp]) (by simp[ha]) (by omega) (by omega)
    rw[show p+(r.length+1)=p+1+r.length by omega,show pre++c::r=(pre++[c])++r by simp,ih];simp
  . simp only[F60_l0,length_cons]
    rw[decide_eq_true (by omega),decide_eq_true (by omega),decide_eq_true (by omega)];simp only[Bool.and_self,cond_true,toNat_natCast];rw[show (pre++c::r).getD p 0=c by subst hp;simp];simp only[hv,Option.bind_some,hl,wrN p (by omega)];rw[decide_eq_true (by simp only[length_cons,length_nil];omega)];rfl
theorem p25(l:List UInt8)(h:l.length<=1000000):C32 (l,())=some (l.map lowb,()):=by
 have hl:C60_l0 (l,(l.length:Int),0,[],())=some (l.map lowb,()):=by
  have h:=pl63 l [] 0 big [] rfl rfl (by unfold big;omega) (by omega);rw[Nat.zero_add]at h;exact h
 have h63:C60 (l,())=some (l.map lowb,()):=by
  show F60 C61 C60_l0 _=_;simp only[F60,hl,Option.bind_some]
 show F32 C60 _=_;simp only[F32,h63,Option.bind_some];rw[decide_eq_true (by omega)];rfl
section
variable {T:List R6} {A:List R4} {B:List R3}
theorem d184_0(h:TK T A B)(x:Int)(b:Bool):Df (C88_c0 (x,b,T,A,B,())) (λy=>∀z,y = .inr z->(z.2.1,z.2.2.1,z.2.2.2.1)=(T,A,B)):=by
 unfold C88_c0 F88_c0;dsimp only;with_reducible repeat' (first|apply dP|apply dX<;>intro _)
 . intro z hz;cases hz
 . refine dZ (d215 T A B x h.t) ?_
   rintro⟨c,u⟩ -
   dsimp only;with_reducible repeat' (first|apply dP|apply dX<;>intro _)
   . refine dZ (d216 T A B x) ?_
     rintro⟨a1,a2,a3,a4,a5,a6,u⟩ -
     dsimp only;with_reducible repeat' (first|apply dP|apply dX<;>intro _)
     all_goals (intro z hz;cases hz)
   . intro z hz;cases hz;rfl
theorem d184(h:TK T A B)(x:Int):Df (C88 (T,A,B,x,())) (λ_=>True):=by
 unfold C88 F88;dsimp only;with_reducible repeat' (first|apply dP|apply dX<;>intro _)
 all_goals
  refine dZ (d184_0 h x _) ?_;intro z hz;cases z with
  | inl z=>exact dP trivial
  | inr z =>
   obtain⟨z1,z2,z3,z4,u⟩:=z;have e:=hz _ rfl;cases e;exact dZ (d217 h z1) λ_ _=>dP trivial
theorem d182(h:TK T A B)(l:List Int)(p:Int)(hl:l.length<=1000000000000)(h0:0<=p)(hp:p<l.length):Df (C86 (p,T,A,B,l,())) (λy=>y.2=(T,A,B,l,())):=by
 unfold C86 F86;dsimp only;refine dZ (d183 h l p hl (by omega)) ?_;rintro⟨c,u⟩ -
 dsimp only;with_reducible repeat' (first|apply dP|apply dX<;>intro _)
 . rfl
 . exact dZ (d184 h _) λ_ _=>dP rfl
 . refine dO ?_;omega
 . rfl
theorem d152(h:TK T A B)(s:List UInt8)(hs:s.length<=1000000000000):Df (C56 (T,A,B,s,())) (λ_=>True):=by
 unfold C56 F56;dsimp only;refine dZ (d83 s hs) ?_;rintro⟨l,bad,u⟩ ⟨h1,-,-⟩;dsimp only at h1 ⊢;with_reducible repeat' (first|apply dP|apply dX<;>intro _)
 . trivial
 . trivial
 . refine dZ (P:=λ_=>True) ?_ (λz _=>by cases z<;>exact dP trivial)
   refine dL ?I ?m ?h _ ?hv ?hn
   case I=>exact(λv=>v.1=l.length/\0<=v.2.1/\v.2.2=(T,A,B,l,()))
   case m=>exact(λv=>(l.length-v.2.1).toNat)
   case hv=>exact⟨rfl,Int.le_refl _,rfl⟩
   case hn=>exact(by(try dsimp only);omega)
   rintro⟨n,k,T',A',B',l',u⟩ ⟨g1,g2,g3⟩;dsimp only at g1 g2 g3;subst g1;cases g3;unfold F56_l0;dsimp only;with_reducible repeat' (first|apply dP|apply dX<;>intro _)
   . rename_i hk
     refine dZ (d182 h l k (by omega) g2 hk) ?_;rintro⟨b,r⟩ hr;dsimp only at hr;subst hr;dsimp only;with_reducible repeat' (first|apply dP|apply dX<;>intro _)
     . trivial
     . rw[w64s (by omega)]
       exact⟨⟨rfl,by(try dsimp only);omega,rfl⟩,by(try dsimp only);omega⟩
   . trivial
theorem d120(h:TK T A B)(s:List UInt8)(hs:s.length<=100000):Df (C30 (T,A,B,s,())) (λ_=>True):=by
 unfold C30 F30;dsimp only;refine dZ (d151 h s (by omega)) ?_;rintro⟨f,ok,u⟩ hf;dsimp only at hf ⊢;with_reducible repeat' (first|apply dP|apply dX<;>intro _)
 . trivial
 . refine dZ (d152 h f (by omega)) ?_
   rintro⟨e,u⟩ -
   dsimp only;with_reducible repeat' (first|apply dP|apply dX<;>intro _)
   . trivial
   . refine dZ (d83 f (by omega)) ?_
     rintro⟨l,bad,u⟩ ⟨h1,-,-⟩;dsimp only at h1 ⊢;refine dZ (d153 h l (by omega)) ?_;rintro⟨e,u⟩ -
     dsimp only;with_reducible repeat' (first|apply dP|apply dX<;>intro _)
     . refine dZ (d154 h l (by omega)) ?_
       rintro⟨e,u⟩ -
       dsimp only;with_reducible repeat' (first|apply dP|apply dX<;>intro _)
       . trivial
       . trivial
     . trivial
end
theorem d195(s:List UInt8):Df (C139 (s,[46],())) (λy => -1<=y.1/\y.1<s.length):=by
 unfold C139 F139;dsimp only;refine dZ (P:=λy => -1<=y.1/\y.1<s.length) ?_ λ_ h=>dP h;unfold C164 F164;dsimp only;have e0:((([46]:List UInt8).length:Int)==0)=false:=rfl;rw[e0];simp only[cond_false];refine dZ (d197_0 s _ λh => ?_) λ_ h=>dP h;have:=eq_of_beq h;rw[<-this];decide
theorem d194(s:List UInt8):Df (C138 (s,[46],())) (λy=>0<=y.1/\y.1<=s.length):=by
 refine⟨((Lib.countByte s 46:Nat),()),rfl,Int.natCast_nonneg _,?_⟩;have:Lib.countByte s 46<=s.length:=List.count_le_length;dsimp only;omega
theorem d161_l(L n:Nat)(hn:1<=n)(hL:L<=1000000000000)(hnL:n<=1000000000000)(s:List UInt8)(hs:s.length<=L)(rows:List (List UInt8))(hr:rows.length=n)(ha:∀r∈rows,r.length<=L) :
 Df (C112_l0 (s,[46],0,(n:Int)-1,0,rows,())) (λy=>y.1.length<=L/\0<=y.2.1/\y.2.1<n/\y.2.2.1.length=n/\∀r∈y.2.2.1,r.length<=L):=by
 refine dL ?I ?m ?h _ ?hv ?hn
 case I=>exact(λv=>(v.2.1,v.2.2.1,v.2.2.2.1)=([46],0,(n:Int)-1)/\v.1.length<=L/\0<=v.2.2.2.2.1/\v.2.2.2.2.1<n/\v.2.2.2.2.2.1.length=n/\∀r∈v.2.2.2.2.2.1,r.length<=L)
 case m=>exact(λv=>(n-v.2.2.2.2.1).toNat)
 case hv=>exact⟨rfl,hs,Int.le_refl _,by(try dsimp only);omega,hr,ha⟩
 case hn=>exact(by(try dsimp only);omega)
 rintro⟨s',x1,x2,x3,i,rows,u⟩ ⟨e,i1,i2,i3,i4,i5⟩;dsimp only at e i1 i2 i3 i4 i5;cases e;unfold F112_l0;dsimp only;with_reducible repeat' (first|apply dP|apply dX<;>intro _)
 . refine dZ (d195 s') ?_
   rintro⟨m,u⟩ ⟨h1,h2⟩;dsimp only at h1 h2 ⊢;rw[w64s (n:=m+0) (by omega),w64s (n:=m+(([46]:List UInt8).length:Int)) (by simp only[length_cons,length_nil];omega)];with_reducible repeat' (first|apply dP|apply dX<;>intro _)
   . exact⟨i1,i2,i3,i4,i5⟩
   . rw[w64s (by omega)]
     refine⟨⟨rfl,by simp only[List.length_drop];omega,by(try dsimp only);omega,by(try dsimp only);omega,by simp only[length_set];omega,λr hr => ?_⟩,by(try dsimp only);omega⟩;dsimp only at hr;rcases List.mem_or_eq_of_mem_set hr with h|h
     . exact i5 r h
     . subst h;simp only[List.length_take];omega
   . refine dO ?_;rename_i hc;simp only[length_cons,length_nil]at hc;omega
   . refine dO ?_;omega
   . refine dO ?_;omega
 . exact⟨i1,i2,i3,i4,i5⟩
theorem d161(s:List UInt8)(hs:s.length<=1000000000):Df (C112 (s,[46],0,-1,())) (λy=>y.1.length<=s.length+1/\∀p∈y.1,p.length<=s.length):=by
 unfold C112 F112;dsimp only;rw[show ((-1:Int)==0)=false from rfl,show (([46]:List UInt8)==[])=false from rfl,show decide ((-1:Int)<0)=true from rfl];simp only[cond_false,cond_true];refine dZ (d194 s) ?_;rintro⟨c,u⟩ ⟨h1,h2⟩;dsimp only at h1 h2 ⊢;rw[w64s (n:=c+1) (by omega)];refine dZ (P:=λy=>y.1.length<=s.length+1/\∀p∈y.1,p.length<=s.length) ?_ λ_ h=>dP h;unfold C112_c0 F112_c0;dsimp only;rw[w64s (n:=(s.length:Int)+1) (by omega)];obtain⟨n,rfl⟩:∃n:Nat,c=(n:Int):=⟨c.toNat,by omega⟩
 have hif:(if(s.length:Int)+1<(n:Int)+1 then(s.length:Int)+1 else(n:Int)+1)=((n+1:Nat):Int):=by rw[if_neg (by omega)];omega
 simp only[hif];have hc:(decide (0<=((n+1:Nat):Int))&&(decide True&&(decide ((16:Int)*((n+1:Nat):Int)<=281474976710656)&&decide (((n+1:Nat):Int)<=140737488355328))))=true:=by
  simp only[and_eq_true,decide_eq_true_eq];exact⟨by omega,trivial,by omega,by omega⟩
 have hc':(decide (0<=((n+1:Nat):Int))&&(decide True&&(decide (((16:Nat):Int)*((n+1:Nat):Int)<=281474976710656)&&decide (((n+1:Nat):Int)<=140737488355328))))=true:=hc;first|rw[hc]|rw[hc']
 simp only[cond_true,toNat_natCast];rw[w64s (n:=((n+1:Nat):Int)-1) (by omega)];refine dZ (d161_l s.length (n+1) (by omega) (by omega) (by omega) s (le_refl _) (List.replicate (n+1) []) (by simp) (λr hr=>by rw[(List.mem_replicate.1 hr).2];exact Nat.zero_le _)) ?_;rintro⟨s',i,rows,u⟩ ⟨j1,j2,j3,j4,j5⟩;dsimp only at j1 j2 j3 j4 j5 ⊢;rw[w64s (n:=i+1) (by omega)];with_reducible repeat' (first|apply dP|apply dX<;>intro _)
 . refine⟨?_,λp hp => ?_⟩
   . simp only[List.length_take,length_set];omega
   . rcases List.mem_or_eq_of_mem_set (List.mem_of_mem_take hp)with h|h
     . exact j5 p h
     . subst h;exact j1
 . refine dO ?_;rename_i hc;simp only[length_set]at hc;omega
 . refine dO ?_;omega
theorem d47(s:List UInt8)(hs:s.length<=1000000000):Df (C80 (s,())) (λ_=>True):=by
 unfold C80 F80;dsimp only;refine dZ (P:=λ_=>True) ?_ (λz _=>by cases z<;>exact dP trivial);refine dL ?I ?m ?h _ ?hv ?hn
 case I=>exact(λv=>v.1=s/\v.2.1=s.length/\0<=v.2.2.1)
 case m=>exact(λv=>(s.length-v.2.2.1).toNat)
 case hv=>exact⟨rfl,rfl,Int.le_refl _⟩
 case hn=>exact(by(try dsimp only);omega)
 rintro⟨s',n,k,u⟩ ⟨h1,h2,h3⟩;dsimp only at h1 h2 h3;subst h1;subst h2;unfold F80_l0;dsimp only;with_reducible repeat' (first|apply dP|apply dX<;>intro _)
 . rw[c17]
   simp only[Option.bind_some];with_reducible repeat' (first|apply dP|apply dX<;>intro _)
   . trivial
   . rw[w64s (by omega)]
     exact⟨⟨rfl,rfl,by(try dsimp only);omega⟩,by(try dsimp only);omega⟩
 . refine dO ?_;omega
 . trivial
theorem d88(s:List UInt8)(hs:s.length<=1000000000):Df (C53 (s,())) (λ_=>True):=by
 unfold C53 F53;dsimp only;refine dZ (P:=λy=>y.1.length<=s.length+1/\∀p∈y.1,p.length<=s.length) ?_ ?_
 . unfold C79 F79
   dsimp only;exact dZ (d161 s hs) λ_ h=>dP h
 rintro⟨ps,u⟩ ⟨g1,g2⟩;dsimp only at g1 g2 ⊢;refine dZ (P:=λ_=>True) ?_ (λz _=>by cases z<;>exact dP trivial);refine dL ?I ?m ?h _ ?hv ?hn
 case I=>exact(λv=>v.1=ps/\v.2.1=ps.length/\0<=v.2.2.1)
 case m=>exact(λv=>(ps.length-v.2.2.1).toNat)
 case hv=>exact⟨rfl,rfl,Int.le_refl _⟩
 case hn=>exact(by(try dsimp only);omega)
 rintro⟨s',n,k,u⟩ ⟨h1,h2,h3⟩;dsimp only at h1 h2 h3;subst h1;subst h2;unfold F53_l0;dsimp only;with_reducible repeat' (first|apply dP|apply dX<;>intro _)
 . have hg:(s'.getD k.toNat [])∈s':=by rw[getD_lt (by omega)];exact List.getElem_mem _
   have:=g2 _ hg;refine dZ (d47 _ (by omega)) ?_;rintro⟨b,u⟩ -
   dsimp only;with_reducible repeat' (first|apply dP|apply dX<;>intro _)
   . trivial
   . rw[w64s (by omega)]
     exact⟨⟨rfl,rfl,by(try dsimp only);omega⟩,by(try dsimp only);omega⟩
 . refine dO ?_;omega
 . trivial
theorem d45(a b:List UInt8)(ha:a.length<=1100)(hb:b.length<=1100):Df (C25 (a,b,())) (λy=>y.1≠[]/\y.1.length<=2*a.length+b.length+3):=by
 unfold C25 F25;dsimp only;refine dZ (d88 a (by omega)) ?_;rintro⟨w,u⟩ -
 dsimp only;have he:=esc_len a;have hq:(src 1 a).length=(esc a).length+2:=by simp[src]
 with_reducible repeat' (first|apply dP|apply dX<;>intro _)
 . rw[c9 1 a 0 (by omega)]
   simp only[Option.bind_some];with_reducible repeat' (first|apply dP|apply dX<;>intro _)
   . exact⟨by simp,by simp only[zLn];omega⟩
   all_goals (refine dO ?_;rename_i hc;simp only[zLn]at hc;omega)
 . exact⟨by simp,by simp only[zLn];omega⟩
 all_goals (refine dO ?_;rename_i hc;simp only[zLn]at hc;omega)
theorem d59(n:Bool)(a b:List UInt8)(ha:a.length<=1100):Df (C40 (n,a,b,())) (λy=>y.1=true->n=false/\a≠[]):=by
 unfold C40 F40;dsimp only;with_reducible repeat' (first|apply dP|apply dX<;>intro _)
 . rename_i hn _
   rw[p25 a (by omega)];refine dP λh=>⟨hn,?_⟩
   rintro rfl;cases h
 . intro h;cases h
 . intro h;cases h
theorem d22(n:Bool)(a b:List UInt8)(ha:a.length<=1100)(hb:b.length<=1100):Df (C18 (n,a,b,())) (λy=>(n=true->y.1=[60,62])/\(n=false->∃x,x≠[]/\y.1=[60]++x++[62])/\y.1.length<=2*a.length+b.length+5):=by
 unfold C18 F18;dsimp only;with_reducible repeat' (first|apply dP|apply dX<;>intro _)
 . rename_i hn
   exact⟨λ_=>rfl,λh=>(by rw[hn]at h;cases h),by simp only[length_cons,length_nil];omega⟩
 . rename_i hn
   refine dZ (d59 n a b ha) ?_;rintro⟨m,u⟩ hm;dsimp only at hm ⊢;with_reducible repeat' (first|apply dP|apply dX<;>intro _)
   . rename_i h1 _ _
     exact⟨λh=>(by rw[hn]at h;cases h),λ_=>⟨a,(hm h1).2,rfl⟩,by simp only[zLn];omega⟩
   . refine dO ?_;rename_i hc;simp only[zLn]at hc;omega
   . refine dO ?_;rename_i hc;simp only[zLn]at hc;omega
   . refine dZ (d45 a b ha hb) ?_
     rintro⟨x,u⟩ ⟨k1,k2⟩;dsimp only at k1 k2 ⊢;with_reducible repeat' (first|apply dP|apply dX<;>intro _)
     . exact⟨λh=>(by rw[hn]at h;cases h),λ_=>⟨x,k1,rfl⟩,by simp only[zLn];omega⟩
     all_goals (refine dO ?_;rename_i hc;simp only[zLn]at hc;omega)
section
variable {T:List R6} {A:List R4} {B:List R3}
theorem d82(h:TK T A B)(a b:List UInt8)(ha:a.length<=1100)(hb:b.length<=1100):Df (C10 (T,A,B,a,b,())) (λ_=>True):=by
 have c0:∀x,Df (C10_c0 (T,A,B,x,b,[],[],())) (λ_=>True):=λx=>by
  unfold C10_c0 F10_c0;dsimp only;refine dZ (d86 b) ?_;rintro⟨o,u⟩ -
  dsimp only;with_reducible repeat' (first|apply dP|apply dX<;>intro _)
  . rw[p25 b (by omega)];exact dP trivial
  . refine dZ (d87 h b (by omega)) ?_
    rintro⟨o,e,u⟩ -
    dsimp only;with_reducible repeat' (first|apply dP|apply dX<;>intro _)
    . trivial
    . trivial
 unfold C10 F10;dsimp only;refine dZ (d120 h a (by omega)) ?_;rintro⟨x,e,u⟩ -
 dsimp only;with_reducible repeat' (first|apply dP|apply dX<;>intro _)
 all_goals exact dZ (c0 _) λ_ _=>dP trivial
theorem d42(h:TK T A B)(n:Bool)(a b:List UInt8)(ha:a.length<=1100)(hb:b.length<=1100):Df (C41 (T,A,B,n,a,b,())) (λy=>y.1=n):=by
 unfold C41 F41;dsimp only;with_reducible repeat' (first|apply dP|apply dX<;>intro _)
 . rename_i hn;exact hn.symm
 . rename_i hn
   refine dZ (d59 n a b ha) ?_;rintro⟨m,u⟩ -
   dsimp only;with_reducible repeat' (first|apply dP|apply dX<;>intro _)
   . exact hn.symm
   . exact dZ (d82 h a b ha hb) λ_ _=>dP hn.symm
theorem d20(h:TK T A B)(a b:List UInt8)(ha:a.length<=1100)(hb:b.length<=1100):Df (C16 (T,A,B,false,a,b,())) (λ_=>True):=by
 unfold C16 F16;dsimp only;refine dZ (P:=λy=>∀z,y = .inr z->z=(T,A,B,false,a,b,())) ?_ ?_
 . unfold C16_c0 F16_c0
   dsimp only;refine dZ (d59 false a b ha) ?_;rintro⟨m,u⟩ -
   dsimp only;with_reducible repeat' (first|apply dP|apply dX<;>intro _)
   . intro z hz;cases hz
   . intro z hz;cases hz;rfl
 intro z hz;cases z with
 | inl z=>exact dP trivial
 | inr z =>
  have e:=hz _ rfl;subst e;exact dZ (d44 h a b (by omega) (by omega)) λ_ _=>dP trivial
end
section
variable {T:List R6} {A:List R4} {B:List R3}
end
def tkB:Bool:=match C9 ()with
 | some (T,A,B,_)=>(decide (T.length<=1000000000000)&&T.all λe=>decide (0<=e.2.2.2.1)&&decide (e.2.2.2.1<8))&&(decide (A.length<=1000000000000)&&decide (B.length<=1000000000000))
 | none=>false
theorem tkB_k:tkB=true:=by kernel_rfl
theorem tk:∃T A B,C9 ()=some (T,A,B,())/\TK T A B:=by
 have h:=tkB_k;unfold tkB at h;cases hc:C9 ()with
 | none=>rw[hc]at h;cases h
 | some y =>
  obtain⟨T,A,B,u⟩:=y;rw[hc]at h;simp only[and_eq_true,decide_eq_true_eq,all_eq_true]at h;exact⟨T,A,B,rfl,⟨h.1.1,h.1.2⟩,h.2.1,h.2.2⟩
def Asc(s:List UInt8):Prop:=∀c∈s,c.toNat<128
theorem asc_app{a b:List UInt8}:Asc (a++b)↔Asc a/\Asc b:=⟨λh=>⟨λc hc=>h c (by simp[hc]),λc hc=>h c (by simp[hc])⟩,λh c hc=>(List.mem_append.1 hc).elim (h.1 c) (h.2 c)⟩
theorem asc_one{c:UInt8}(h:c.toNat<128):Asc [c]↔True:=⟨λ_=>trivial,λ_ d hd=>by rw[List.mem_singleton.1 hd];exact h⟩
theorem asc_nil:Asc []↔True:=⟨λ_=>trivial,λ_ c hc=>by cases hc⟩
theorem esc_asc{s:List UInt8}:Asc (esc s)↔Asc s:=by
 constructor
 . intro h c hc
   refine h c (List.mem_flatMap.2 ⟨c,hc,?_⟩);unfold esc1;split<;>simp
 . intro h c hc
   obtain⟨d,hd,hcd⟩:=List.mem_flatMap.1 hc;unfold esc1 at hcd;split at hcd
   . simp only[mem_cons,List.not_mem_nil,or_false]at hcd
     rcases hcd with rfl|rfl
     . decide
     . exact h _ hd
   . rw[List.mem_singleton.1 hcd];exact h _ hd
theorem src_asc{s:List UInt8}:Asc (src 1 s)↔Asc s:=by
 have e:src 1 s=[34]++esc s++[34]:=rfl;rw[e,asc_app,asc_app,asc_one (by decide),esc_asc,true_and,and_true]
theorem d22b(a b:List UInt8)(ha:a.length<=1000)(hb:b.length<=1000):Df (C18 (false,a,b,())) (λy=>Asc y.1↔Asc a/\Asc b):=by
 have a60:Asc [60]↔True:=asc_one (by decide);have a62:Asc [62]↔True:=asc_one (by decide);have a64:Asc [64]↔True:=asc_one (by decide);unfold C18 F18;dsimp only;simp only[cond_false];refine dZ (P:=λy=>y.1=true->b=[]) ?_ ?_
 . unfold C40 F40
   dsimp only;with_reducible repeat' (first|apply dP|apply dX<;>intro _)
   . rename_i hb0
     rw[p25 a (by omega)];exact dP λ_=>eq_of_beq hb0
   all_goals (intro h;cases h)
 rintro⟨m,u⟩ hm;dsimp only at hm ⊢;with_reducible repeat' (first|apply dP|apply dX<;>intro _)
 . rename_i h1 _ _
   have:=hm h1;subst this;simp only[asc_app,a60,a62,asc_nil,true_and,and_true]
 . refine dO ?_;rename_i hc;simp only[zLn]at hc;omega
 . refine dO ?_;rename_i hc;simp only[zLn]at hc;omega
 . refine dZ (P:=λy=>y.1.length<=2*a.length+b.length+3/\(Asc y.1↔Asc a/\Asc b)) ?_ ?_
   . unfold C25 F25
     dsimp only;refine dZ (d88 a (by omega)) ?_;rintro⟨w,u⟩ -
     dsimp only;have he:=esc_len a;have hq:(src 1 a).length=(esc a).length+2:=by simp[src]
     with_reducible repeat' (first|apply dP|apply dX<;>intro _)
     . rw[c9 1 a 0 (by omega)]
       simp only[Option.bind_some];with_reducible repeat' (first|apply dP|apply dX<;>intro _)
       . refine⟨by simp only[zLn];omega,?_⟩
         simp only[asc_app,src_asc,a64,and_true]
       all_goals (refine dO ?_;rename_i hc;simp only[zLn]at hc;omega)
     . refine⟨by simp only[zLn];omega,?_⟩
       simp only[asc_app,a64,and_true]
     all_goals (refine dO ?_;rename_i hc;simp only[zLn]at hc;omega)
   rintro⟨x,u⟩ ⟨k1,k2⟩;dsimp only at k1 k2 ⊢;with_reducible repeat' (first|apply dP|apply dX<;>intro _)
   . simp only[asc_app,a60,a62,true_and,and_true,k2]
   all_goals (refine dO ?_;rename_i hc;simp only[zLn]at hc;omega)
theorem c21a(s:List UInt8)(hs:s.length<=1000000)(ha:Asc s):C12 (s,())=some (-1,()):=c21y s hs ha
theorem c21w(s:List UInt8)(hs:s.length<=1000000)(ha:¬Asc s):∃p,C12 (s,())=some (p,())/\0<=p:=by
 obtain⟨⟨p,u⟩,e,-,h⟩:=d21 s (by omega);refine⟨p,e,?_⟩;by_cases h0:0<=p
 . exact h0
 . exact(ha (h (by(try dsimp only);omega))).elim
def lit(b:List UInt8):Bool:=decide (b.take 1=[91])
theorem c86v(s:List UInt8):C31 (s,())=some (lit s,()):=by
 have h1:C92 (s,[91],())=some (lit s,()):=by
  show F92 _=_;simp only[F92,length_cons,length_nil];cases s with
  | nil=>rfl
  | cons c s =>
   have hl:(((c::s:List UInt8).length:Int))=(s.length:Int)+1:=by simp
   rw[hl,decide_eq_true (show (s.length:Int)+1>=((0+1:Nat):Int) by omega),decide_eq_true (show (0:Int)<=((0+1:Nat):Int) by omega)];show some (((c::s).take 1==[91]),())=_;unfold lit;by_cases h:(c::s).take 1=[91]
   . rw[decide_eq_true h,h,beq_self_eq_true]
   . rw[decide_eq_false h,beq_eq_false_iff_ne.2 h]
 show F31 C59 _=_;simp only[F31];show (F59 C92 _).bind _=_;simp only[F59,h1,Option.bind_some]
section
variable {T:List R6} {A:List R4} {B:List R3}
theorem Dm.lit{y:List UInt8}(h:Dm T A B y):lit y=false:=by
 unfold W.lit;refine decide_eq_false λe => ?_;have h91:(91:UInt8)∈y:=List.mem_of_mem_take (i:=1) (by rw[e];exact mem_cons_self);exact absurd (h.kk _ h91 (by decide)) (by decide)
theorem Dm.asc{y:List UInt8}(h:Dm T A B y):Asc y:=λc hc=>(h.lw c hc).1
theorem c20n(n:Bool)(a b:List UInt8)(ha:a.length<=1000)(h:C16 (T,A,B,n,a,b,())=some (0,())) :
 (n=true/\a=[]/\b=[])\/(n=false/\((∃u,C40 (false,a,b,())=some (true,u))\/∃u,C40 (false,a,b,())=some (false,u)/\C11 (T,A,B,a,b,())=some (0,()))):=by
 cases n with
 | true =>
  have r1:C16 (T,A,B,true,a,b,())=some ((if(a==[]&&(b==[]&&true))=true then 0 else 1),()):=by
   show F16 C11 C40 C16_c0 _=_;simp only[F16,cond_true];cases hab:(a==[]&&(b==[]&&true))with
   | true=>rfl
   | false=>rfl
  rw[r1]at h;cases hab:(a==[]&&(b==[]&&true))with
  | true =>
   simp only[and_eq_true,and_true,beq_iff_eq]at hab;exact .inl ⟨rfl,hab.1,hab.2⟩
  | false=>rw[hab]at h;cases h
 | false =>
  refine .inr ⟨rfl,?_⟩;obtain⟨⟨m,u⟩,e59,-⟩:=d59 false a b (by omega);cases m with
  | true=>exact .inl ⟨u,e59⟩
  | false =>
   refine .inr ⟨u,e59,?_⟩;have hf:F16 C11 C40 C16_c0 (T,A,B,false,a,b,())=some (0,()):=h;have hc:C16_c0 (false,T,A,B,false,a,b,())=some (.inr (T,A,B,false,a,b,())):=by
    show F16_c0 C11 C40 _=_;simp only[F16_c0,cond_false,e59,Option.bind_some]
   simp only[F16,cond_false,hc,Option.bind_some,elim_inr]at hf;cases h44:C11 (T,A,B,a,b,())with
   | none=>rw[h44]at hf;cases hf
   | some y=>rw[h44]at hf;exact hf
theorem right87(h:TK T A B)(a b:List UInt8)(la:a.length<=1000)(lb:b.length<=400)(h44:C11 (T,A,B,a,b,())=some (0,()))(h86:lit b=false){d:List UInt8}{e:Int}(e87:C33 (T,A,B,b,())=some (d,e,())):e=0:=by
 obtain⟨⟨v1,v2,u⟩,e83,-⟩:=d83 a (by omega);obtain⟨⟨w,u'⟩,e84,-⟩:=d84v1 a (by omega);have hf:F11 C31 C33 C34 C35v1 C37 (T,A,B,a,b,())=some (0,()):=h44;simp only[F11,e83,e84,c86v,h86,e87,Option.bind_some,cond_false]at hf;cases h1:(a==[])with
 | true=>rw[h1]at hf;cases hf
 | false =>
  rw[h1]at hf;simp only[cond_false]at hf;cases h2:decide ((a.length:Int)>64)with
  | true=>rw[h2]at hf;cases hf
  | false =>
   rw[h2]at hf;simp only[cond_false]at hf;cases h3:decide (v2>=0)with
   | true=>rw[h3]at hf;cases hf
   | false =>
    rw[h3]at hf;simp only[cond_false]at hf;cases w with
    | true=>cases hf
    | false =>
     simp only[cond_false,Option.some.injEq,Prod.mk.injEq,and_true]at hf;exact hf
theorem k118(h:TK T A B)(s:List UInt8)(hs:s.length<=400):∃a e,C33 (T,A,B,s,())=some (a,e,())/\(e≠0->C38 (T,A,B,s,())=some (a,e,()))/\(e=0->Asc s->C38 (T,A,B,s,())=some (s,0,()))/\(e=0->¬Asc s->C38 (T,A,B,s,())=some (a,0,())):=by
 obtain⟨⟨a,e,u⟩,e87,-⟩:=d87 h s (by omega);refine⟨a,e,e87,?_,?_,?_⟩
 . intro he
   show F38 C12 C33 _=_;simp only[F38,e87,Option.bind_some];rw[ibF he];rfl
 . rintro rfl ha
   show F38 C12 C33 _=_;simp only[F38,e87,Option.bind_some,c21a s (by omega) ha];rfl
 . rintro rfl ha
   obtain⟨p,e21,hp⟩:=c21w s (by omega) ha;show F38 C12 C33 _=_;simp only[F38,e87,Option.bind_some,e21];rw[ibT rfl,decide_eq_false (by omega)];rfl
def Dn(T:List R6)(A:List R4)(B:List R3)(b y:List UInt8):Prop:=y=b\/(¬Asc b/\lit b=false/\C33 (T,A,B,b,())=some (y,0,())/\Dm T A B y/\C33 (T,A,B,y,())=some (y,0,()))
theorem k78(h:TK T A B)(hK:KT T A B)(hL:LN B)(hC:LC T A B)(a b:List UInt8)(ha:a.length<=1000)(hb:b.length<=400) :
 (∃e,C13 (T,A,B,a,b,())=some ([],[],e,())/\e≠0/\(¬Asc a\/¬Asc b\/(lit b=false/\∃z e',C33 (T,A,B,b,())=some (z,e',())/\e'≠0))) \/
 (∃y,C13 (T,A,B,a,b,())=some (a,y,0,())/\Asc a/\Asc y/\Dn T A B b y):=by
 have r:decide ((-1:Int)>=0)=false:=rfl;have hct:C13_c0 (true,T,A,B,a,b,[],[],())=some (.inl (8,[],[],())):=rfl;by_cases hA:Asc a
 . have e21:=c21a a (by omega) hA
   cases hl:lit b with
   | false =>
    have hc:C13_c0 (false,T,A,B,a,b,[],[],())=some (.inr (T,A,B,a,b,[],[],())):=by
     show F13_c0 C12 C31 C38 _=_;simp only[F13_c0,cond_false,c86v,hl,Option.bind_some]
    obtain⟨x,e,e87,k1,k2,k3⟩:=k118 h b hb;by_cases he:e=0
    . subst he
      right
      by_cases hB:Asc b
      . refine⟨b,?_,hA,hB,.inl rfl⟩
        show F13 C12 C31 C38 C13_c0 _=_;simp only[F13,e21,Option.bind_some,r,cond_false,c86v,hl,hc,elim_inr,k2 rfl hB];rfl
      . obtain⟨q1,q2⟩:=dom87 h hK hL hC b hb x e87
        refine⟨x,?_,hA,q1.asc,.inr ⟨hB,hl,e87,q1,q2⟩⟩;show F13 C12 C31 C38 C13_c0 _=_;simp only[F13,e21,Option.bind_some,r,cond_false,c86v,hl,hc,elim_inr,k3 rfl hB];rfl
    . left
      refine⟨e,?_,he,.inr (.inr ⟨rfl,x,e,e87,he⟩)⟩;show F13 C12 C31 C38 C13_c0 _=_;simp only[F13,e21,Option.bind_some,r,cond_false,c86v,hl,hc,elim_inr,k1 he,inT he,cond_true]
   | true =>
    by_cases hB:Asc b
    . right
      refine⟨b,?_,hA,hB,.inl rfl⟩;have hc:C13_c0 (false,T,A,B,a,b,[],[],())=some (.inl (0,a,b,())):=by
       show F13_c0 C12 C31 C38 _=_;simp only[F13_c0,cond_false,c86v,hl,Option.bind_some,cond_true]
      show F13 C12 C31 C38 C13_c0 _=_;simp only[F13,e21,Option.bind_some,r,cond_false,c86v,hl,cond_true,c21a b (by omega) hB,hc,elim_inl]
    . left
      obtain⟨p,e21b,hp⟩:=c21w b (by omega) hB;refine⟨8,?_,by decide,.inr (.inl hB)⟩;have r2:decide (p>=0)=true:=decide_eq_true hp;show F13 C12 C31 C38 C13_c0 _=_;simp only[F13,e21,Option.bind_some,r,cond_false,c86v,hl,cond_true,e21b,r2,hct,elim_inl]
 . left
   obtain⟨p,e21,hp⟩:=c21w a (by omega) hA;have r2:decide (p>=0)=true:=decide_eq_true hp;refine⟨8,?_,by decide,.inl hA⟩;show F13 C12 C31 C38 C13_c0 _=_;simp only[F13,e21,Option.bind_some,r2,cond_true,hct,elim_inl]
theorem k82{a b y:List UInt8}(h:Dn T A B b y):C10 (T,A,B,a,y,())=C10 (T,A,B,a,b,()):=by
 rcases h with rfl|⟨-,hl,e87,hd,e87y⟩
 . rfl
 . have hc:∀n p q,C10_c0 (T,A,B,n,y,p,q,())=C10_c0 (T,A,B,n,b,p,q,()):=by
    intro n p q;show F10_c0 C30 C31 C32 C33 _=F10_c0 C30 C31 C32 C33 _;simp only[F10_c0,c86v,hl,hd.lit,e87,e87y,Option.bind_some,cond_false];rfl
   show F10 C30 C31 C32 C33 C10_c0 _=F10 C30 C31 C32 C33 C10_c0 _;simp only[F10,hc]
theorem k44{a b y:List UInt8}(h:Dn T A B b y):C11 (T,A,B,a,y,())=C11 (T,A,B,a,b,()):=by
 rcases h with rfl|⟨-,hl,e87,hd,e87y⟩
 . rfl
 . show F11 C31 C33 C34 C35v1 C37 _=F11 C31 C33 C34 C35v1 C37 _
   simp only[F11,c86v,hl,hd.lit,e87,e87y,Option.bind_some,cond_false]
end
theorem lowK:((List.range 256).all λn=>decide ((lowb (UInt8.ofNat n)).toNat<128)==decide ((UInt8.ofNat n).toNat<128))=true:=by kernel_rfl
theorem low_asc(c:UInt8):(lowb c).toNat<128↔c.toNat<128:=by
 have h:=all_eq_true.1 lowK c.toNat (by simp only[List.mem_range];exact c.toNat_lt)
 rw[ofNat_toNat]at h;have h2:=eq_of_beq h;constructor
 . intro h3;rw[decide_eq_true h3]at h2;exact of_decide_eq_true h2.symm
 . intro h3;rw[decide_eq_true h3]at h2;exact of_decide_eq_true h2
section
variable {T:List R6} {A:List R4} {B:List R3}
theorem c59v(a b:List UInt8)(ha:a.length<=1000):C40 (false,a,b,())=some (bif b==[]then a.map lowb==[112,111,115,116,109,97,115,116,101,114]else false,()):=by
 show F40 C32 _=_;simp only[F40,Bool.not_false,cond_true,p25 a (by omega),Option.bind_some];cases (b==[])with
 | true=>rfl
 | false=>rfl
theorem master_asc{a b:List UInt8}(ha:a.length<=1000){u:Unit}(h:C40 (false,a,b,())=some (true,u)):b=[]/\Asc a:=by
 rw[c59v a b ha]at h;cases hb:(b==[])with
 | false=>rw[hb]at h;cases h
 | true =>
  rw[hb]at h;simp only[cond_true,Option.some.injEq,Prod.mk.injEq]at h;have h2:a.map lowb=_:=eq_of_beq h.1;refine⟨eq_of_beq hb,λc hc=>(low_asc c).1 ?_⟩;have h3:lowb c∈a.map lowb:=List.mem_map_of_mem hc;rw[h2]at h3;have:∀d∈([112,111,115,116,109,97,115,116,101,114]:List UInt8),d.toNat<128:=by decide
  exact this _ h3
theorem f20{a b:List UInt8}{e:Int}{u:Unit}(h59:C40 (false,a,b,())=some (false,u))(h44:C11 (T,A,B,a,b,())=some (e,())):C16 (T,A,B,false,a,b,())=some (e,()):=by
 have hc:C16_c0 (false,T,A,B,false,a,b,())=some (.inr (T,A,B,false,a,b,())):=by
  show F16_c0 C11 C40 _=_;simp only[F16_c0,cond_false,h59,Option.bind_some]
 show F16 C11 C40 C16_c0 _=_;simp only[F16,cond_false,hc,Option.bind_some,elim_inr,h44]
theorem k41(h:TK T A B){n:Bool}{a b y:List UInt8}(ha:a.length<=1000)(hb:b.length<=1000)(h20:C16 (T,A,B,n,a,y,())=some (0,()))(h20':C16 (T,A,B,n,a,b,())=some (0,()))(h42:C41 (T,A,B,n,a,y,())=C41 (T,A,B,n,a,b,())):C19 (T,A,B,n,a,y,n,a,b,())=some (true,()):=by
 obtain⟨⟨x1,x2,x3,u⟩,e,-⟩:=d42 h n a b (by omega) (by omega);show F19 C16 C41 _=_;simp only[F19,h20,h20',h42,e,Option.bind_some,beq_self_eq_true,cond_true,Bool.and_self]
theorem k22(n:Bool)(a b:List UInt8)(ha:a.length<=1000)(hb:b.length<=400)(hn:n=true->a=[]/\b=[]):∃z,C18 (n,a,b,())=some (z,())/\(Asc z↔Asc a/\Asc b)/\z.length<=100000:=by
 obtain⟨⟨z,u⟩,e,-,-,hl⟩:=d22 n a b (by omega) (by omega);dsimp only at hl;refine⟨z,e,?_,by omega⟩;cases n with
 | true =>
  obtain⟨rfl,rfl⟩:=hn rfl;have e2:C18 (true,[],[],())=some ([60,62],()):=rfl;rw[e2]at e;cases e;exact⟨λ_=>⟨asc_nil.2 trivial,asc_nil.2 trivial⟩,λ_=>by unfold Asc;decide⟩
 | false =>
  obtain⟨⟨z',u'⟩,e',hz⟩:=d22b a b (by omega) (by omega);rw[e]at e';cases e';exact hz
theorem k39(h:TK T A B)(hK:KT T A B)(hL:LN B)(hC:LC T A B)(n:Bool)(a b:List UInt8)(ha:a.length<=1000)(hb:b.length<=400)(h20:C16 (T,A,B,n,a,b,())=some (0,())) :
 (∃y,C17 (T,A,B,n,a,b,())=some (n,a,y,0,())/\C19 (T,A,B,n,a,y,n,a,b,())=some (true,())/\(n=true->a=[]/\y=[])/\Asc a/\Asc y/\y.length<=400/\(y=b\/¬Asc b)) \/
 (∃e,C17 (T,A,B,n,a,b,())=some (false,[],[],e,())/\e≠0/\n=false/\¬(Asc a/\Asc b) ):=by
 rcases c20n n a b ha h20 with⟨rfl,rfl,rfl⟩|⟨rfl,⟨u,e59⟩|⟨u,e59,h44⟩⟩
 . left
   exact⟨[],rfl,k41 h ha (by simp) h20 h20 rfl,λ_=>⟨rfl,rfl⟩,asc_nil.2 trivial,asc_nil.2 trivial,by simp,.inl rfl⟩
 . left
   obtain⟨hb0,hA⟩:=master_asc ha e59;refine⟨b,?_,k41 h ha (by omega) h20 h20 rfl,λhn=>(by cases hn),hA,by rw[hb0];exact asc_nil.2 trivial,hb,.inl rfl⟩;show F17 C13 C40 _=_;simp only[F17,cond_false,e59,Option.bind_some,cond_true]
 . rcases k78 h hK hL hC a b ha hb with⟨e,e78,he,hbad⟩|⟨y,e78,hA,hY,hD⟩
   . right
     refine⟨e,?_,he,rfl,?_⟩
     . show F17 C13 C40 _=_
       simp only[F17,cond_false,e59,Option.bind_some,e78,inT he,cond_true]
     . rintro⟨hA,hB⟩
       rcases hbad with h1|h1|⟨hl,z,e',e87,he'⟩
       . exact h1 hA
       . exact h1 hB
       . have:=right87 h a b ha hb h44 hl e87
         exact he' this
   . left
     have h44y:=(k44 (a:=a) hD).trans h44;have h59y:∃u,C40 (false,a,y,())=some (false,u):=by
      rcases hD with rfl|⟨-,-,-,hd,-⟩
      . exact⟨u,e59⟩
      . rw[c59v a y ha,beq_eq_false_iff_ne.2 hd.ne]
        exact⟨(),rfl⟩
     obtain⟨u',h59y⟩:=h59y;have h20y:=f20 h59y h44y;refine⟨y,?_,k41 h ha (by omega) h20y h20 ?_,λhn=>(by cases hn),hA,hY,?_,?_⟩
     . show F17 C13 C40 _=_
       simp only[F17,cond_false,e59,Option.bind_some,e78];rfl
     . show F41 C10 C40 _=F41 C10 C40 _
       simp only[F41,cond_false,e59,h59y,Option.bind_some,k82 hD]
     . rcases hD with rfl|⟨-,-,-,hd,-⟩
       . exact hb
       . have:=hd.len;omega
     . rcases hD with rfl|⟨hB,-⟩
       . exact .inl rfl
       . exact .inr hB
end
theorem few8(a b:List UInt8):∃f,C8 (a,b,())=some (f,())/\(f=true->a.length<=150/\b.length<=200):=by
 show ∃f,F8 (a,b,())=some (f,())/\_;simp only[F8];by_cases h:(a.length:Int)<=150
 . rw[decide_eq_true h]
   exact⟨_,rfl,λhf=>⟨by omega,by have:=of_decide_eq_true hf;omega⟩⟩
 . rw[decide_eq_false h]
   exact⟨_,rfl,λhf=>by cases hf⟩
theorem tabs:∃T A B,C9 ()=some (T,A,B,())/\TK T A B/\KT T A B/\LN B/\LC T A B:=by
 obtain⟨T,A,B,h18,hT⟩:=tk;exact⟨T,A,B,h18,hT,kt h18,ln_of h18,lc_of h18⟩
theorem t20{T:List R6}{A:List R4}{B:List R3}(h:TK T A B)(n:Bool)(a b:List UInt8)(ha:a.length<=1000)(hb:b.length<=1000):∃e,C16 (T,A,B,n,a,b,())=some (e,()):=by
 cases n with
 | false =>
  obtain⟨⟨e,u⟩,he,-⟩:=d20 h a b (by omega) (by omega);exact⟨e,he⟩
 | true =>
  refine⟨(if(a==[]&&(b==[]&&true))=true then 0 else 1),?_⟩;show F16 C11 C40 C16_c0 _=_;simp only[F16,cond_true];cases hab:(a==[]&&(b==[]&&true))with
  | true=>rfl
  | false=>rfl
theorem e21(s:List UInt8)(hs:s.length<=1000000):∃p,C12 (s,())=some (p,())/\(p<0->Asc s)/\(¬p<0->¬Asc s):=by
 by_cases h:Asc s
 . exact⟨-1,c21a s hs h,λ_=>h,λh=>absurd (by decide) h⟩
 . obtain⟨p,e,hp⟩:=c21w s hs h
   exact⟨p,e,λh=>by omega,λ_=>h⟩
abbrev T135_c0:=LqS×Int×Bool×LqS×Bool×Unit->Option (LqS×Int×Int×Bool×LqS×Unit)
def E135_c0(f:T135_c0):LEnt:=⟨m7p,m5d,f⟩
abbrev T135_c1:=LqS×Int×Bool×LqS×Bool×Unit->Option (LqS×Int×Int×Bool×LqS×Unit)
def E135_c1(f:T135_c1):LEnt:=⟨m7q,m5d,f⟩
abbrev T135_c2:=LqS×Int×Bool×LqS×Bool×Unit->Option (LqS×Int×Int×Bool×LqS×Unit)
def E135_c2(f:T135_c2):LEnt:=⟨m7r,m5d,f⟩
abbrev T135_c3:=LqS×Int×Int×Bool×LqS×Bool×Unit->Option ((LqS×Int×Int×Bool×LqS×Unit)⊕(Int×Int×Unit))
def E135_c3(f:T135_c3):LEnt:=⟨m7s,m9e,f⟩
abbrev T135_c4:=Int×Bool×LqS×Int×Int×Bool×Int×Int×LqS×Int×Int×Bool×Unit->Option ((Int×Bool×LqS×Int×Int×Bool×Int×Int×LqS×Int×Int×Unit)⊕(Int×Int×Unit))
def E135_c4(f:T135_c4):LEnt:=⟨m7t,m6d,f⟩
abbrev T135_c5:=Int×Bool×LqS×Int×Int×Bool×Int×Int×LqS×Int×Int×Bool×Unit->Option ((Int×Bool×LqS×Int×Int×Bool×Int×Int×LqS×Int×Int×Unit)⊕(Int×Int×Unit))
def E135_c5(f:T135_c5):LEnt:=⟨m7u,m6d,f⟩
abbrev T135_c6:=Int×Bool×LqS×Int×Int×Bool×Int×Int×LqS×Int×Int×Bool×Unit->Option ((Int×Bool×LqS×Int×Int×Bool×Int×LqS×Int×Int×Unit)⊕(Int×Bool×LqS×Int×Int×Bool×Int×Int×LqS×Int×Int×Unit)⊕(Int×Int×Unit))
def E135_c6(f:T135_c6):LEnt:=⟨m7v,m9f,f⟩
abbrev T135_l0:=Int×Bool×LqS×Int×Int×Bool×Int×LqS×Int×Int×Unit->Option ((LqS×Bool×Int×Unit)⊕(Int×Int×Unit))
def E135_l0(f:T135_l0):LEnt:=⟨m7w,m9g,f⟩
abbrev T135_c7:=LqS×Int×Int×Bool×LqS×Int×Unit->Option ((Int×Int×Unit)⊕(Int×Unit))
def E135_c7(f:T135_c7):LEnt:=⟨m7x,m6e,f⟩
abbrev T135_c8:=LqS×Int×Int×Bool×LqS×Unit->Option ((Int×Int×Unit)⊕(Int×Unit))
def E135_c8(f:T135_c8):LEnt:=⟨m7y,m6e,f⟩
abbrev T135:=LqS×Int×Int×Unit->Option ((Int×Int×Unit)⊕(Int×Unit))
def E135(f:T135):FEnt:=⟨Li304,Lo305,f⟩
def K135(f165:T165)(f166:T166):=lk [(165,E165 f165),(166,E166 f166)]
theorem kok135:KOk prog (K135 C165 C166):=(kc ok165 (kc ok166 kn))
def F135_c0(f165:T165)(f166:T166):T135_c0:=λ(x0,x1,x2,x3,x4,_)=>bif x4 then bif decide (2<=(↑x0.length:Int))then some (List.drop 2 x0,16,x1,x2,x3,())else none else bif decide (1<=(↑x0.length:Int))then some (List.drop 1 x0,8,x1,x2,x3,())else none
def C135_c0:T135_c0:=F135_c0 C165 C166
theorem k135_c0:CdOk 0 (subc (code f135) [1,1,1,1,0,0,1,1,1,0,1,1,0,0,1,1,1,1,1]) (E135_c0 C135_c0):=zc2 m7p m5d K135 F135_c0 C165 C166 kok135
def N135_c1(f135_c0:T135_c0):Ann:=(.cond .nil (.cut .nil (E135_c0 f135_c0)))
def F135_c1(f165:T165)(f166:T166)(f135_c0:T135_c0):T135_c1:=λ(x0,x1,x2,x3,x4,_)=>bif x4 then bif decide (2<=(↑x0.length:Int))then some (List.drop 2 x0,8,x1,x2,x3,())else none else bif decide ((↑x0.length:Int)>=3)then bif decide (1<(↑x0.length:Int))then(f165 ((↑(x0.getD 1 0).toNat:Int),())).bind λv=>(f135_c0 (x0,x1,x2,x3,v.1==120,())).bind λv=>some (v.1,v.2.1,v.2.2.1,v.2.2.2.1,v.2.2.2.2.1,())else none else(f135_c0 (x0,x1,x2,x3,false,())).bind λv=>some (v.1,v.2.1,v.2.2.1,v.2.2.2.1,v.2.2.2.2.1,())
def C135_c1:T135_c1:=F135_c1 C165 C166 C135_c0
theorem k135_c1:CdOk 0 (subc (code f135) [1,1,1,1,0,0,1,1,1,0,1,1,0,0,1,1,1]) (E135_c1 C135_c1):=m4z m7q m5d K135 N135_c1 F135_c1 C165 C166 C135_c0 kok135 (And.intro k135_c0 trivial)
def N135_c2(f135_c1:T135_c1):Ann:=(.cond .nil (.cut .nil (E135_c1 f135_c1)))
def F135_c2(f165:T165)(f166:T166)(f135_c1:T135_c1):T135_c2:=λ(x0,x1,x2,x3,x4,_)=>bif x4 then bif decide (2<=(↑x0.length:Int))then some (List.drop 2 x0,2,x1,x2,x3,())else none else bif decide ((↑x0.length:Int)>=3)then bif decide (1<(↑x0.length:Int))then(f165 ((↑(x0.getD 1 0).toNat:Int),())).bind λv=>(f135_c1 (x0,x1,x2,x3,v.1==111,())).bind λv=>some (v.1,v.2.1,v.2.2.1,v.2.2.2.1,v.2.2.2.2.1,())else none else(f135_c1 (x0,x1,x2,x3,false,())).bind λv=>some (v.1,v.2.1,v.2.2.1,v.2.2.2.1,v.2.2.2.2.1,())
def C135_c2:T135_c2:=F135_c2 C165 C166 C135_c1
theorem k135_c2:CdOk 0 (subc (code f135) [1,1,1,1,0,0,1,1,1,0,1,1,0,0,1]) (E135_c2 C135_c2):=m4z m7r m5d K135 N135_c2 F135_c2 C165 C166 C135_c1 kok135 (And.intro k135_c1 trivial)
def N135_c3(f135_c2:T135_c2):Ann:=(.cond .nil (.seq .nil (.cond (.seq .nil (.seq .nil (.cond (.blk (.cut .nil (E135_c2 f135_c2))) .nil))) .nil)))
def F135_c3(f165:T165)(f166:T166)(f135_c2:T135_c2):T135_c3:=λ(x0,x1,x2,x3,x4,x5,_)=>bif x5 then some (Sum.inl (x0,x1,x2,x3,x4,()))else bif x1==0 then bif decide (0<(↑x0.length:Int))then bif(↑(x0.getD 0 0).toNat:Int)==48 then bif decide ((↑x0.length:Int)>=3)then bif decide (1<(↑x0.length:Int))then(f165 ((↑(x0.getD 1 0).toNat:Int),())).bind λv=>(f135_c2 (x0,x2,x3,x4,v.1==98,())).bind λv=>some (Sum.inl (v.1,v.2.1,v.2.2.1,v.2.2.2.1,v.2.2.2.2.1,()))else none else(f135_c2 (x0,x2,x3,x4,false,())).bind λv=>some (Sum.inl (v.1,v.2.1,v.2.2.1,v.2.2.2.1,v.2.2.2.2.1,()))else some (Sum.inl (x0,10,x2,x3,x4,()))else none else some (Sum.inr (0,3,()))
def C135_c3:T135_c3:=F135_c3 C165 C166 C135_c2
theorem k135_c3:CdOk 0 (subc (code f135) [1,1,1,1,0,0,1]) (E135_c3 C135_c3):=m4z m7s m9e K135 N135_c3 F135_c3 C165 C166 C135_c2 kok135 (And.intro k135_c2 trivial)
def F135_c4(f165:T165)(f166:T166):T135_c4:=λ(x0,x1,x2,x3,x4,x5,x6,x7,x8,x9,x10,x11,_)=>bif x11 then(f165 (x7,())).bind λv=>some (Sum.inl (x0,x1,x2,x3,x4,x5,x6,IntKind.u8.wrap (IntKind.u8.wrap (v.1-97)+10),x8,x9,x10,()))else some (Sum.inr (0,2,()))
def C135_c4:T135_c4:=F135_c4 C165 C166
theorem k135_c4:CdOk 0 (subc (code f135) [1,1,1,1,1,1,1,1,1,1,1,0,1,0,0,1,1,0,0,1,1,0,0,1,1,1,1,1]) (E135_c4 C135_c4):=zc2 m7t m6d K135 F135_c4 C165 C166 kok135
def N135_c5(f135_c4:T135_c4):Ann:=(.cond .nil (.cut .nil (E135_c4 f135_c4)))
def F135_c5(f165:T165)(f166:T166)(f135_c4:T135_c4):T135_c5:=λ(x0,x1,x2,x3,x4,x5,x6,x7,x8,x9,x10,x11,_)=>bif x11 then some (Sum.inl (x0,x1,x2,x3,x4,x5,x6,IntKind.u8.wrap (x7-48),x8,x9,x10,()))else(f165 (x7,())).bind λv=>bif decide (97<=v.1)then(f165 (x7,())).bind λv=>(f135_c4 (x0,x1,x2,x3,x4,x5,x6,x7,x8,x9,x10,decide (v.1<=122),())).bind λv=>Sum.elim (λv=>some (Sum.inl (v.1,v.2.1,v.2.2.1,v.2.2.2.1,v.2.2.2.2.1,v.2.2.2.2.2.1,v.2.2.2.2.2.2.1,v.2.2.2.2.2.2.2.1,v.2.2.2.2.2.2.2.2.1,v.2.2.2.2.2.2.2.2.2.1,v.2.2.2.2.2.2.2.2.2.2.1,()))) (λv=>some (Sum.inr (v.1,v.2.1,()))) v else(f135_c4 (x0,x1,x2,x3,x4,x5,x6,x7,x8,x9,x10,false,())).bind λv=>Sum.elim (λv=>some (Sum.inl (v.1,v.2.1,v.2.2.1,v.2.2.2.1,v.2.2.2.2.1,v.2.2.2.2.2.1,v.2.2.2.2.2.2.1,v.2.2.2.2.2.2.2.1,v.2.2.2.2.2.2.2.2.1,v.2.2.2.2.2.2.2.2.2.1,v.2.2.2.2.2.2.2.2.2.2.1,()))) (λv=>some (Sum.inr (v.1,v.2.1,()))) v
def C135_c5:T135_c5:=F135_c5 C165 C166 C135_c4
theorem k135_c5:CdOk 0 (subc (code f135) [1,1,1,1,1,1,1,1,1,1,1,0,1,0,0,1,1,0,0,1,1,0,0,1,1,1]) (E135_c5 C135_c5):=m4z m7u m6d K135 N135_c5 F135_c5 C165 C166 C135_c4 kok135 (And.intro k135_c4 trivial)
def N135_c6(f135_c5:T135_c5):Ann:=(.cond .nil (.cut .nil (E135_c5 f135_c5)))
def F135_c6(f165:T165)(f166:T166)(f135_c5:T135_c5):T135_c6:=λ(x0,x1,x2,x3,x4,x5,x6,x7,x8,x9,x10,x11,_)=>bif x11 then some (Sum.inl (x0,x1,x2,x3,x4,true,x6,x8,x9,x10,()))else bif decide (48<=x7)then(f135_c5 (x0,x1,x2,x3,x4,x5,x6,x7,x8,x9,x10,decide (x7<=57),())).bind λv=>Sum.elim (λv=>some (Sum.inr (Sum.inl (v.1,v.2.1,v.2.2.1,v.2.2.2.1,v.2.2.2.2.1,v.2.2.2.2.2.1,v.2.2.2.2.2.2.1,v.2.2.2.2.2.2.2.1,v.2.2.2.2.2.2.2.2.1,v.2.2.2.2.2.2.2.2.2.1,v.2.2.2.2.2.2.2.2.2.2.1,())))) (λv=>some (Sum.inr (Sum.inr (v.1,v.2.1,())))) v else(f135_c5 (x0,x1,x2,x3,x4,x5,x6,x7,x8,x9,x10,false,())).bind λv=>Sum.elim (λv=>some (Sum.inr (Sum.inl (v.1,v.2.1,v.2.2.1,v.2.2.2.1,v.2.2.2.2.1,v.2.2.2.2.2.1,v.2.2.2.2.2.2.1,v.2.2.2.2.2.2.2.1,v.2.2.2.2.2.2.2.2.1,v.2.2.2.2.2.2.2.2.2.1,v.2.2.2.2.2.2.2.2.2.2.1,())))) (λv=>some (Sum.inr (Sum.inr (v.1,v.2.1,())))) v
def C135_c6:T135_c6:=F135_c6 C165 C166 C135_c5
theorem k135_c6:CdOk 0 (subc (code f135) [1,1,1,1,1,1,1,1,1,1,1,0,1,0,0,1,1,0,0,1,1,0,0,1]) (E135_c6 C135_c6):=m4z m7v m9f K135 N135_c6 F135_c6 C165 C166 C135_c5 kok135 (And.intro k135_c5 trivial)
def N135_l0(f135_c6:T135_c6):Ann:=(.seq .nil (.seq .nil (.seq (.blk (.seq .nil (.seq .nil (.seq (.blk (.cut .nil (E135_c6 f135_c6))) .nil)))) .nil)))
def F135_l0(f165:T165)(f166:T166)(f135_c6:T135_c6):LpF (Int×Bool×LqS×Int×Int×Bool×Int×LqS×Int×Int×Unit) ((LqS×Bool×Int×Unit)⊕(Int×Int×Unit)):=λ(x0,x1,x2,x3,x4,x5,x6,x7,x8,x9,_)=>bif decide (x9<x8)then bif decide (0<=x9)&&decide (x9<(↑x7.length:Int))then bif(↑(UInt8.toNat (x7.getD x9.toNat 0)):Int)==95 then(f135_c6 (x0,x1,x2,x3,x4,x5,x6,(↑(UInt8.toNat (x7.getD x9.toNat 0)):Int),x7,x8,x9,x1,())).bind λv=>Sum.elim (λv=>some (Sum.inl (v.1,v.2.1,v.2.2.1,v.2.2.2.1,v.2.2.2.2.1,v.2.2.2.2.2.1,v.2.2.2.2.2.2.1,v.2.2.2.2.2.2.2.1,v.2.2.2.2.2.2.2.2.1,IntKind.i64.wrap (v.2.2.2.2.2.2.2.2.2.1+1),()))) (λv=>Sum.elim (λv=>bif decide (v.2.2.2.2.2.2.2.1>=IntKind.u8.wrap v.1)then some (Sum.inr (Sum.inr (0,2,())))else bif decide (v.2.2.2.2.2.2.1>=v.2.2.2.1)then some (Sum.inr (Sum.inr (v.2.2.2.2.1,1,())))else bif decide (IntKind.u64.wrap (IntKind.u64.wrap (v.2.2.2.2.2.2.1*IntKind.u64.wrap v.1)+IntKind.u64.wrap v.2.2.2.2.2.2.2.1)<IntKind.u64.wrap (v.2.2.2.2.2.2.1*IntKind.u64.wrap v.1))then some (Sum.inr (Sum.inr (v.2.2.2.2.1,1,())))else bif decide (IntKind.u64.wrap (IntKind.u64.wrap (v.2.2.2.2.2.2.1*IntKind.u64.wrap v.1)+IntKind.u64.wrap v.2.2.2.2.2.2.2.1)>v.2.2.2.2.1)then some (Sum.inr (Sum.inr (v.2.2.2.2.1,1,())))else some (Sum.inl (v.1,v.2.1,v.2.2.1,v.2.2.2.1,v.2.2.2.2.1,v.2.2.2.2.2.1,IntKind.u64.wrap (IntKind.u64.wrap (v.2.2.2.2.2.2.1*IntKind.u64.wrap v.1)+IntKind.u64.wrap v.2.2.2.2.2.2.2.1),v.2.2.2.2.2.2.2.2.1,v.2.2.2.2.2.2.2.2.2.1,IntKind.i64.wrap (v.2.2.2.2.2.2.2.2.2.2.1+1),()))) (λv=>some (Sum.inr (Sum.inr (v.1,v.2.1,())))) v) v else(f135_c6 (x0,x1,x2,x3,x4,x5,x6,(↑(UInt8.toNat (x7.getD x9.toNat 0)):Int),x7,x8,x9,false,())).bind λv=>Sum.elim (λv=>some (Sum.inl (v.1,v.2.1,v.2.2.1,v.2.2.2.1,v.2.2.2.2.1,v.2.2.2.2.2.1,v.2.2.2.2.2.2.1,v.2.2.2.2.2.2.2.1,v.2.2.2.2.2.2.2.2.1,IntKind.i64.wrap (v.2.2.2.2.2.2.2.2.2.1+1),()))) (λv=>Sum.elim (λv=>bif decide (v.2.2.2.2.2.2.2.1>=IntKind.u8.wrap v.1)then some (Sum.inr (Sum.inr (0,2,())))else bif decide (v.2.2.2.2.2.2.1>=v.2.2.2.1)then some (Sum.inr (Sum.inr (v.2.2.2.2.1,1,())))else bif decide (IntKind.u64.wrap (IntKind.u64.wrap (v.2.2.2.2.2.2.1*IntKind.u64.wrap v.1)+IntKind.u64.wrap v.2.2.2.2.2.2.2.1)<IntKind.u64.wrap (v.2.2.2.2.2.2.1*IntKind.u64.wrap v.1))then some (Sum.inr (Sum.inr (v.2.2.2.2.1,1,())))else bif decide (IntKind.u64.wrap (IntKind.u64.wrap (v.2.2.2.2.2.2.1*IntKind.u64.wrap v.1)+IntKind.u64.wrap v.2.2.2.2.2.2.2.1)>v.2.2.2.2.1)then some (Sum.inr (Sum.inr (v.2.2.2.2.1,1,())))else some (Sum.inl (v.1,v.2.1,v.2.2.1,v.2.2.2.1,v.2.2.2.2.1,v.2.2.2.2.2.1,IntKind.u64.wrap (IntKind.u64.wrap (v.2.2.2.2.2.2.1*IntKind.u64.wrap v.1)+IntKind.u64.wrap v.2.2.2.2.2.2.2.1),v.2.2.2.2.2.2.2.2.1,v.2.2.2.2.2.2.2.2.2.1,IntKind.i64.wrap (v.2.2.2.2.2.2.2.2.2.2.1+1),()))) (λv=>some (Sum.inr (Sum.inr (v.1,v.2.1,())))) v) v else none else some (Sum.inr (Sum.inl (x2,x5,x6,())))
def C135_l0:T135_l0:=loopN (F135_l0 C165 C166 C135_c6) big
theorem k135_l0:LpOk 0 (subc (code f135) [1,1,1,1,1,1,1,1,1,1,1,0,1,0,0]) (E135_l0 C135_l0):=m5h m7w m9g K135 N135_l0 F135_l0 C165 C166 C135_c6 kok135 (And.intro k135_c6 trivial)
def N135_c7(f135_l0:T135_l0):Ann:=(.seq .nil (.seq .nil (.seq .nil (.seq (.seq .nil (.blk (.loop (E135_l0 f135_l0)))) .nil))))
def F135_c7(f165:T165)(f166:T166)(f135_l0:T135_l0):T135_c7:=λ(x0,x1,x2,x3,x4,x5,_)=>bif decide (0<=IntKind.u64.wrap x2)then bif decide (x0.length<=9223372036854775807)then(f135_l0 (x1,x3,x4,x5,IntKind.u64.wrap (IntKind.u64.wrap (1*2^min (IntKind.u64.wrap x2).toNat IntKind.u64.bits)-1),false,0,x0,(↑x0.length:Int),0,())).bind λv=>Sum.elim (λv=>bif v.2.1 then(f166 (v.1,())).bind λv1=>bif !v1.1 then some (Sum.inl (0,2,()))else some (Sum.inr (v.2.2.1,()))else some (Sum.inr (v.2.2.1,()))) (λv=>some (Sum.inl (v.1,v.2.1,()))) v else none else none
def C135_c7:T135_c7:=F135_c7 C165 C166 C135_l0
theorem k135_c7:CdOk 0 (subc (code f135) [1,1,1,1,1,1,1,1]) (E135_c7 C135_c7):=m4z m7x m6e K135 N135_c7 F135_c7 C165 C166 C135_l0 kok135 (And.intro k135_l0 trivial)
def N135_c8(f135_c7:T135_c7):Ann:=(.seq .nil (.cut .nil (E135_c7 f135_c7)))
def F135_c8(f165:T165)(f166:T166)(f135_c7:T135_c7):T135_c8:=λ(x0,x1,x2,x3,x4,_)=>bif x1==10 then(f135_c7 (x0,x1,x2,x3,x4,1844674407370955162,())).bind λv=>Sum.elim (λv=>some (Sum.inl (v.1,v.2.1,()))) (λv=>some (Sum.inr (v.1,()))) v else bif x1==16 then(f135_c7 (x0,x1,x2,x3,x4,1152921504606846976,())).bind λv=>Sum.elim (λv=>some (Sum.inl (v.1,v.2.1,()))) (λv=>some (Sum.inr (v.1,()))) v else bif IntKind.u64.wrap x1 != 0 then(f135_c7 (x0,x1,x2,x3,x4,IntKind.u64.wrap (IntKind.u64.wrap (Int.tdiv 18446744073709551615 (IntKind.u64.wrap x1))+1),())).bind λv=>Sum.elim (λv=>some (Sum.inl (v.1,v.2.1,()))) (λv=>some (Sum.inr (v.1,()))) v else none
def C135_c8:T135_c8:=F135_c8 C165 C166 C135_c7
theorem k135_c8:CdOk 0 (subc (code f135) [1,1,1,1,1,1]) (E135_c8 C135_c8):=m4z m7y m6e K135 N135_c8 F135_c8 C165 C166 C135_c7 kok135 (And.intro k135_c7 trivial)
def N135(f135_c3:T135_c3)(f135_c8:T135_c8):Ann:=(.seq .nil (.seq .nil (.seq .nil (.seq .nil (.seq (.blk (.cut .nil (E135_c3 f135_c3))) (.cut .nil (E135_c8 f135_c8)))))))
def F135(f165:T165)(f166:T166)(f135_c3:T135_c3)(f135_c8:T135_c8):T135:=λ(x0,x1,x2,_)=>bif x0==[]then some (Sum.inl (0,2,()))else bif decide (2<=x1)then(f135_c3 (x0,x1,x2,x1==0,x0,decide (x1<=36),())).bind λv=>Sum.elim (λv=>bif v.2.2.1==0 then(f135_c8 (v.1,v.2.1,64,v.2.2.2.1,v.2.2.2.2.1,())).bind λv=>Sum.elim (λv=>some (Sum.inl (v.1,v.2.1,()))) (λv=>some (Sum.inr (v.1,()))) v else bif decide (v.2.2.1<0)then some (Sum.inl (0,4,()))else bif decide (v.2.2.1>64)then some (Sum.inl (0,4,()))else(f135_c8 (v.1,v.2.1,v.2.2.1,v.2.2.2.1,v.2.2.2.2.1,())).bind λv=>Sum.elim (λv=>some (Sum.inl (v.1,v.2.1,()))) (λv=>some (Sum.inr (v.1,()))) v) (λv=>some (Sum.inl (v.1,v.2.1,()))) v else(f135_c3 (x0,x1,x2,x1==0,x0,false,())).bind λv=>Sum.elim (λv=>bif v.2.2.1==0 then(f135_c8 (v.1,v.2.1,64,v.2.2.2.1,v.2.2.2.2.1,())).bind λv=>Sum.elim (λv=>some (Sum.inl (v.1,v.2.1,()))) (λv=>some (Sum.inr (v.1,()))) v else bif decide (v.2.2.1<0)then some (Sum.inl (0,4,()))else bif decide (v.2.2.1>64)then some (Sum.inl (0,4,()))else(f135_c8 (v.1,v.2.1,v.2.2.1,v.2.2.2.1,v.2.2.2.2.1,())).bind λv=>Sum.elim (λv=>some (Sum.inl (v.1,v.2.1,()))) (λv=>some (Sum.inr (v.1,()))) v) (λv=>some (Sum.inl (v.1,v.2.1,()))) v
theorem h135(f165:T165)(f166:T166)(f135_c3:T135_c3)(f135_c8:T135_c8):AqF (K135 f165 f166) 0 f135 (N135 f135_c3 f135_c8) Li304 Lo305 (F135 f165 f166 f135_c3 f135_c8):=λv=>by kernel_rfl
def C135:T135:=F135 C165 C166 C135_c3 C135_c8
theorem ok135:FO 135 (E135 C135) :=
 qo kok135 func135 (And.intro k135_c3 (And.intro k135_c8 trivial)) (h135 C165 C166 C135_c3 C135_c8)
def C136:T136:=λ_=>none
theorem ok136:FO 136 (E136 C136):=by
 intro w m g v args y hob hargs hy;cases hy
abbrev T111:=LqS×Int×Int×Unit->Option ((Int×Unit)⊕(Int×Unit))
def E111(f:T111):FEnt:=⟨Li304,m9h,f⟩
def K111(f135:T135)(f136:T136):=lk [(135,E135 f135),(136,E136 f136)]
def F111(f135:T135)(f136:T136):T111:=λ(x0,x1,x2,_)=>(f135 (x0,x1,x2,())).bind λv=>Sum.elim (λv=>(f136 ([80,97,114,115,101,85,105,110,116],x0,x1,x2,v.2.1,())).bind λv1=>some (Sum.inl (v.1,()))) (λv=>some (Sum.inr (v.1,()))) v
def C111:T111:=F111 C135 C136
theorem ok111:FO 111 (E111 C111):=zq2 Li304 m9h K111 F111 C135 C136 (kc ok135 (kc ok136 kn)) func111
abbrev T74:=LqS×Unit->Option (Int×Unit)
def E74(f:T74):FEnt:=⟨Li30,Lo10,f⟩
def K74(f110:T110)(f111:T111):=lk [(110,E110 f110),(111,E111 f111)]
def F74(f110:T110)(f111:T111):T74:=λ(x0,_)=>(f110 (x0,[32],())).bind λv=>(f111 (v.2.1,10,31,())).bind λv1=>Sum.elim (λv=>some (0,())) (λv2=>bif decide ((↑(List.length v.2.1):Int)>9)then some (0,())else some (IntKind.i64.wrap v2.1,())) v1
def C74:T74:=F74 C110 C111
theorem ok74:FO 74 (E74 C74):=zq2 Li30 Lo10 K74 F74 C110 C111 (kc ok110 (kc ok111 kn)) func74
abbrev T42:=Int×List (LqS)×Unit->Option (Bool×Bool×Int×Unit)
def E42(f:T42):FEnt:=⟨m5p,m9i,f⟩
def K42(f70:T70)(f71:T71)(f72:T72)(f73:T73)(f74:T74):=lk [(70,E70 f70),(71,E71 f71),(72,E72 f72),(73,E73 f73),(74,E74 f74)]
def F42(f70:T70)(f71:T71)(f72:T72)(f73:T73)(f74:T74):T42:=λ(x0,x1,_)=>(f70 (x0,())).bind λv=>bif v.1 != 2 then some (false,false,0,())else(f71 (x0,x1,())).bind λv=>(f72 (v.1,[115,109,116,112,117,116,102,56],())).bind λv1=>(f72 (v.1,[56,98,105,116,109,105,109,101],())).bind λv2=>(f73 (v.1,[115,105,122,101],())).bind λv=>bif decide (v.1>=0)then bif decide (0<=IntKind.i64.wrap (v.1+1))&&decide (IntKind.i64.wrap (v.1+1)<(↑x1.length:Int))then(f74 (x1.getD (IntKind.i64.wrap (v.1+1)).toNat [],())).bind λv=>some (v1.1,v2.1,v.1,())else none else some (v1.1,v2.1,0,())
def C42:T42:=F42 C70 C71 C72 C73 C74
theorem ok42:FO 42 (E42 C42):=zq5 m5p m9i K42 F42 C70 C71 C72 C73 C74 (kc ok70 (kc ok71 (kc ok72 (kc ok73 (kc ok74 kn))))) func42
abbrev T43:=LqS×LqS×Unit->Option (Bool×LqS×LqS×Unit)
def E43(f:T43):FEnt:=⟨m4q,Lo292,f⟩
def F43:T43:=λ(x0,x1,_)=>some (false,x0,x1,())
def C43:T43:=F43
theorem ok43:FO 43 (E43 C43):=zq0 m4q Lo292 KqZ F43 kn func43
abbrev T47:=Int×Unit->Option (Int×Bool×LqS×LqS×Bool×LqS×LqS×Bool×Bool×Int×Unit)
def E47(f:T47):FEnt:=⟨Li121,m6f,f⟩
def F47:T47:=λ(x0,_)=>some (2,false,[],[],false,[],[],false,false,x0,())
def C47:T47:=F47
theorem ok47:FO 47 (E47 C47):=zq0 Li121 m6f KqZ F47 kn func47
abbrev T45:=Bool×Bool×Int×Bool×Unit->Option (Bool×Unit)
def E45(f:T45):FEnt:=⟨m7z,Lo29,f⟩
def F45:T45:=λ(x0,x1,x2,x3,_)=>bif x0 then some (true,())else bif x1 then some (x3,())else some (false,())
def C45:T45:=F45
theorem ok45:FO 45 (E45 C45):=zq0 m7z Lo29 KqZ F45 kn func45
abbrev T75:=Bool×LqS×LqS×Unit->Option (Bool×Unit)
def E75(f:T75):FEnt:=⟨m4u,Lo29,f⟩
def K75(f12:T12)(f59:T59):=lk [(12,E12 f12),(59,E59 f59)]
def F75(f12:T12)(f59:T59):T75:=λ(x0,x1,x2,_)=>(f12 (x1,())).bind λv=>bif decide (v.1>=0)then some (true,())else(f59 (x2,[91],())).bind λv=>bif v.1 then(f12 (x2,())).bind λv=>some (decide (v.1>=0),())else some (false,())
def C75:T75:=F75 C12 C59
theorem ok75:FO 75 (E75 C75):=zq2 m4u Lo29 K75 F75 C12 C59 (kc ok12 (kc ok59 kn)) func75
abbrev T44:=Bool×LqS×LqS×Bool×LqS×LqS×Bool×Bool×Int×Unit->Option (Bool×Unit)
def E44(f:T44):FEnt:=⟨m5q,Lo29,f⟩
def K44(f75:T75):=lk [(75,E75 f75)]
def F44(f75:T75):T44:=λ(x0,x1,x2,x3,x4,x5,x6,x7,x8,_)=>bif x6 then some (true,())else(f75 (x0,x1,x2,())).bind λv=>bif v.1 then some (true,())else(f75 (x3,x4,x5,())).bind λv=>some (v.1,())
def C44:T44:=F44 C75
theorem ok44:FO 44 (E44 C44):=zq1 m5q Lo29 K44 F44 C75 (kc ok75 kn) func44
abbrev T48:=Bool×LqS×LqS×Unit->Option (Bool×Unit)
def E48(f:T48):FEnt:=⟨m4u,Lo29,f⟩
def K48(f12:T12):=lk [(12,E12 f12)]
def F48(f12:T12):T48:=λ(x0,x1,x2,_)=>bif decide (x1.length+x2.length<=9223372036854775807)then(f12 (x1++x2,())).bind λv=>some (decide (v.1>=0),())else none
def C48:T48:=F48 C12
theorem ok48:FO 48 (E48 C48):=zq1 m4u Lo29 K48 F48 C12 (kc ok12 kn) func48
abbrev T46:=LqA×LqB×LqC×Bool×LqS×LqS×Bool×LqS×LqS×Bool×Bool×Int×Int×Bool×LqS×LqS×Bool×LqS×LqS×Bool×Bool×Int×Unit->Option (Bool×LqA×LqB×LqC×Bool×LqS×LqS×Bool×LqS×LqS×Bool×Bool×Int×Int×Bool×LqS×LqS×Bool×LqS×LqS×Bool×Bool×Int×Unit)
def E46(f:T46):FEnt:=⟨m8a,m9j,f⟩
def K46(f17:T17):=lk [(17,E17 f17)]
def F46(f17:T17):T46:=λ(x0,x1,x2,x3,x4,x5,x6,x7,x8,x9,x10,x11,x12,x13,x14,x15,x16,x17,x18,x19,x20,x21,_)=>(f17 (x0,x1,x2,x3,x4,x5,())).bind λv=>(f17 (x0,x1,x2,x6,x7,x8,())).bind λv1=>bif v.2.2.2.1==0 then some (v1.2.2.2.1==0,x0,x1,x2,x3,x4,x5,x6,x7,x8,x9,x10,x11,x12,v.1,v.2.1,v.2.2.1,v1.1,v1.2.1,v1.2.2.1,x19,x20,x21,())else some (false,x0,x1,x2,x3,x4,x5,x6,x7,x8,x9,x10,x11,x12,v.1,v.2.1,v.2.2.1,v1.1,v1.2.1,v1.2.2.1,x19,x20,x21,())
theorem h46(f17:T17):AqF (K46 f17) 3 f46 .nil m8a m9j (F46 f17):=λv=>by kernel_rfl
def C46:T46:=F46 C17
theorem ok46:FO 46 (E46 C46) :=
 q0 (kc ok17 kn) func46 (h46 C17)
abbrev T22_c0:=Bool×Bool×LqS×LqS×Bool×LqS×LqS×Bool×Bool×Int×Int×Bool×LqS×LqS×Bool×LqS×LqS×Bool×Bool×Int×Int×Bool×LqS×LqS×Bool×LqS×LqS×Bool×Bool×Int×Unit->Option ((Int×Bool×LqS×LqS×Bool×LqS×LqS×Bool×Bool×Int×Unit)⊕(Int×Bool×LqS×LqS×Bool×LqS×LqS×Bool×Bool×Int×Int×Bool×LqS×LqS×Bool×LqS×LqS×Bool×Bool×Int×Unit))
def E22_c0(f:T22_c0):LEnt:=⟨m8c,m5e,f⟩
abbrev T22_c1:=Bool×Bool×Bool×Int×Bool×LqS×LqS×Bool×LqS×LqS×Bool×Bool×Int×Int×Bool×LqS×LqS×Bool×LqS×LqS×Bool×Bool×Int×Int×Bool×LqS×LqS×Bool×LqS×LqS×Bool×Bool×Int×LqA×LqB×LqC×Unit->Option ((Int×Bool×LqS×LqS×Bool×LqS×LqS×Bool×Bool×Int×Unit)⊕(Int×Bool×LqS×LqS×Bool×LqS×LqS×Bool×Bool×Int×Int×Bool×LqS×LqS×Bool×LqS×LqS×Bool×Bool×Int×Unit))
def E22_c1(f:T22_c1):LEnt:=⟨m8d,m5e,f⟩
abbrev T22_c2:=Bool×Bool×Bool×Int×Bool×LqS×LqS×Bool×LqS×LqS×Bool×Bool×Int×Int×Bool×LqS×LqS×Bool×LqS×LqS×Bool×Bool×Int×Int×Bool×LqS×LqS×Bool×LqS×LqS×Bool×Bool×Int×LqA×LqB×LqC×Unit->Option ((Int×Bool×LqS×LqS×Bool×LqS×LqS×Bool×Bool×Int×Unit)⊕(Int×Bool×LqS×LqS×Bool×LqS×LqS×Bool×Bool×Int×Int×Bool×LqS×LqS×Bool×LqS×LqS×Bool×Bool×Int×Unit))
def E22_c2(f:T22_c2):LEnt:=⟨m8e,m5e,f⟩
abbrev T22_c3:=LqA×LqB×LqC×Bool×Bool×Int×Bool×LqS×LqS×Bool×LqS×LqS×Bool×Bool×Int×Int×Bool×LqS×LqS×Bool×LqS×LqS×Bool×Bool×Int×Int×Bool×LqS×LqS×Bool×LqS×LqS×Bool×Bool×Int×Unit->Option (Int×Bool×LqS×LqS×Bool×LqS×LqS×Bool×Bool×Int×Unit)
def E22_c3(f:T22_c3):LEnt:=⟨m8f,m9k,f⟩
abbrev T22:=LqA×LqB×LqC×Bool×Bool×Int×Bool×LqS×LqS×Bool×LqS×LqS×Bool×Bool×Int×Unit->Option (Int×Bool×LqS×LqS×Bool×LqS×LqS×Bool×Bool×Int×Unit)
def E22(f:T22):FEnt:=⟨m8b,m6f,f⟩
def K22(f44:T44)(f45:T45)(f46:T46)(f47:T47)(f48:T48):=lk [(44,E44 f44),(45,E45 f45),(46,E46 f46),(47,E47 f47),(48,E48 f48)]
theorem kok22:KOk prog (K22 C44 C45 C46 C47 C48):=(kc ok44 (kc ok45 (kc ok46 (kc ok47 (kc ok48 kn)))))
def F22_c0(f44:T44)(f45:T45)(f46:T46)(f47:T47)(f48:T48):T22_c0:=λ(x0,x1,x2,x3,x4,x5,x6,x7,x8,x9,x10,x11,x12,x13,x14,x15,x16,x17,x18,x19,x20,x21,x22,x23,x24,x25,x26,x27,x28,x29,_)=>bif x0 then(f47 (567,())).bind λv=>some (Sum.inl (v.1,v.2.1,v.2.2.1,v.2.2.2.1,v.2.2.2.2.1,v.2.2.2.2.2.1,v.2.2.2.2.2.2.1,v.2.2.2.2.2.2.2.1,v.2.2.2.2.2.2.2.2.1,v.2.2.2.2.2.2.2.2.2.1,()))else bif !(x21==x1&&(x22==x2&&(x23==x3&&true)&&true))then some (Sum.inr (x10,x11,x12,x13,x14,x15,x16,x17,x18,x19,1,x21,x22,x23,x24,x25,x26,x27,x28,x29,()))else bif !(x24==x4&&(x25==x5&&(x26==x6&&true)&&true))then some (Sum.inr (x10,x11,x12,x13,x14,x15,x16,x17,x18,x19,1,x21,x22,x23,x24,x25,x26,x27,x28,x29,()))else some (Sum.inr (x10,x11,x12,x13,x14,x15,x16,x17,x18,x19,x20,x21,x22,x23,x24,x25,x26,x27,x28,x29,()))
theorem h22_c0(f44:T44)(f45:T45)(f46:T46)(f47:T47)(f48:T48):AqC (K22 f44 f45 f46 f47 f48) 0 (subc (code f22) [1,1,1,0,0,1,1,1,1,1,1,1]) .nil m8c m5e (F22_c0 f44 f45 f46 f47 f48):=λv=>by kernel_rfl
def C22_c0:T22_c0:=F22_c0 C44 C45 C46 C47 C48
theorem k22_c0:CdOk 0 (subc (code f22) [1,1,1,0,0,1,1,1,1,1,1,1]) (E22_c0 C22_c0) :=
 frc kok22 (h22_c0 C44 C45 C46 C47 C48)
def N22_c1(f22_c0:T22_c0):Ann:=(.cond .nil (.seq .nil (.cond .nil (.cut .nil (E22_c0 f22_c0)))))
def F22_c1(f44:T44)(f45:T45)(f46:T46)(f47:T47)(f48:T48)(f22_c0:T22_c0):T22_c1:=λ(x0,x1,x2,x3,x4,x5,x6,x7,x8,x9,x10,x11,x12,x13,x14,x15,x16,x17,x18,x19,x20,x21,x22,x23,x24,x25,x26,x27,x28,x29,x30,x31,x32,x33,x34,x35,_)=>bif x0 then(f47 (563,())).bind λv=>some (Sum.inl (v.1,v.2.1,v.2.2.1,v.2.2.2.1,v.2.2.2.2.1,v.2.2.2.2.2.1,v.2.2.2.2.2.2.1,v.2.2.2.2.2.2.2.1,v.2.2.2.2.2.2.2.2.1,v.2.2.2.2.2.2.2.2.2.1,()))else bif x1 then(f44 (x4,x5,x6,x7,x8,x9,x10,x11,x12,())).bind λv=>bif v.1 then some (Sum.inl (x23,x24,x25,x26,x27,x28,x29,true,x31,x32,()))else(f48 (x4,x5,x6,())).bind λv=>bif v.1 then some (Sum.inl (x23,x24,x25,x26,x27,x28,x29,true,x31,x32,()))else(f48 (x7,x8,x9,())).bind λv=>some (Sum.inl (x23,x24,x25,x26,x27,x28,x29,v.1,x31,x32,()))else(f44 (x4,x5,x6,x7,x8,x9,x10,x11,x12,())).bind λv=>bif v.1 then(f22_c0 (true,x4,x5,x6,x7,x8,x9,x10,x11,x12,x13,x14,x15,x16,x17,x18,x19,x20,x21,x22,x23,x24,x25,x26,x27,x28,x29,x30,x31,x32,())).bind λv=>Sum.elim (λv=>some (Sum.inl (v.1,v.2.1,v.2.2.1,v.2.2.2.1,v.2.2.2.2.1,v.2.2.2.2.2.1,v.2.2.2.2.2.2.1,v.2.2.2.2.2.2.2.1,v.2.2.2.2.2.2.2.2.1,v.2.2.2.2.2.2.2.2.2.1,()))) (λv=>some (Sum.inr (v.1,v.2.1,v.2.2.1,v.2.2.2.1,v.2.2.2.2.1,v.2.2.2.2.2.1,v.2.2.2.2.2.2.1,v.2.2.2.2.2.2.2.1,v.2.2.2.2.2.2.2.2.1,v.2.2.2.2.2.2.2.2.2.1,v.2.2.2.2.2.2.2.2.2.2.1,v.2.2.2.2.2.2.2.2.2.2.2.1,v.2.2.2.2.2.2.2.2.2.2.2.2.1,v.2.2.2.2.2.2.2.2.2.2.2.2.2.1,v.2.2.2.2.2.2.2.2.2.2.2.2.2.2.1,v.2.2.2.2.2.2.2.2.2.2.2.2.2.2.2.1,v.2.2.2.2.2.2.2.2.2.2.2.2.2.2.2.2.1,v.2.2.2.2.2.2.2.2.2.2.2.2.2.2.2.2.2.1,v.2.2.2.2.2.2.2.2.2.2.2.2.2.2.2.2.2.2.1,v.2.2.2.2.2.2.2.2.2.2.2.2.2.2.2.2.2.2.2.1,()))) v else(f46 (x33,x34,x35,x4,x5,x6,x7,x8,x9,x10,x11,x12,x23,x24,x25,x26,x27,x28,x29,x30,x31,x32,())).bind λv=>(f22_c0 (!v.1,v.2.2.2.2.1,v.2.2.2.2.2.1,v.2.2.2.2.2.2.1,v.2.2.2.2.2.2.2.1,v.2.2.2.2.2.2.2.2.1,v.2.2.2.2.2.2.2.2.2.1,v.2.2.2.2.2.2.2.2.2.2.1,v.2.2.2.2.2.2.2.2.2.2.2.1,v.2.2.2.2.2.2.2.2.2.2.2.2.1,x13,x14,x15,x16,x17,x18,x19,x20,x21,x22,v.2.2.2.2.2.2.2.2.2.2.2.2.2.1,v.2.2.2.2.2.2.2.2.2.2.2.2.2.2.1,v.2.2.2.2.2.2.2.2.2.2.2.2.2.2.2.1,v.2.2.2.2.2.2.2.2.2.2.2.2.2.2.2.2.1,v.2.2.2.2.2.2.2.2.2.2.2.2.2.2.2.2.2.1,v.2.2.2.2.2.2.2.2.2.2.2.2.2.2.2.2.2.2.1,v.2.2.2.2.2.2.2.2.2.2.2.2.2.2.2.2.2.2.2.1,v.2.2.2.2.2.2.2.2.2.2.2.2.2.2.2.2.2.2.2.2.1,v.2.2.2.2.2.2.2.2.2.2.2.2.2.2.2.2.2.2.2.2.2.1,v.2.2.2.2.2.2.2.2.2.2.2.2.2.2.2.2.2.2.2.2.2.2.1,())).bind λv=>Sum.elim (λv=>some (Sum.inl (v.1,v.2.1,v.2.2.1,v.2.2.2.1,v.2.2.2.2.1,v.2.2.2.2.2.1,v.2.2.2.2.2.2.1,v.2.2.2.2.2.2.2.1,v.2.2.2.2.2.2.2.2.1,v.2.2.2.2.2.2.2.2.2.1,()))) (λv=>some (Sum.inr (v.1,v.2.1,v.2.2.1,v.2.2.2.1,v.2.2.2.2.1,v.2.2.2.2.2.1,v.2.2.2.2.2.2.1,v.2.2.2.2.2.2.2.1,v.2.2.2.2.2.2.2.2.1,v.2.2.2.2.2.2.2.2.2.1,v.2.2.2.2.2.2.2.2.2.2.1,v.2.2.2.2.2.2.2.2.2.2.2.1,v.2.2.2.2.2.2.2.2.2.2.2.2.1,v.2.2.2.2.2.2.2.2.2.2.2.2.2.1,v.2.2.2.2.2.2.2.2.2.2.2.2.2.2.1,v.2.2.2.2.2.2.2.2.2.2.2.2.2.2.2.1,v.2.2.2.2.2.2.2.2.2.2.2.2.2.2.2.2.1,v.2.2.2.2.2.2.2.2.2.2.2.2.2.2.2.2.2.1,v.2.2.2.2.2.2.2.2.2.2.2.2.2.2.2.2.2.2.1,v.2.2.2.2.2.2.2.2.2.2.2.2.2.2.2.2.2.2.2.1,()))) v
theorem h22_c1(f44:T44)(f45:T45)(f46:T46)(f47:T47)(f48:T48)(f22_c0:T22_c0):AqC (K22 f44 f45 f46 f47 f48) 0 (subc (code f22) [1,1,1,0,0,1,1,1]) (N22_c1 f22_c0) m8d m5e (F22_c1 f44 f45 f46 f47 f48 f22_c0):=λv=>by kernel_rfl
def C22_c1:T22_c1:=F22_c1 C44 C45 C46 C47 C48 C22_c0
theorem k22_c1:CdOk 0 (subc (code f22) [1,1,1,0,0,1,1,1]) (E22_c1 C22_c1) :=
 frd kok22 (And.intro k22_c0 trivial) (h22_c1 C44 C45 C46 C47 C48 C22_c0)
def N22_c2(f22_c1:T22_c1):Ann:=(.cond .nil (.cut .nil (E22_c1 f22_c1)))
def F22_c2(f44:T44)(f45:T45)(f46:T46)(f47:T47)(f48:T48)(f22_c1:T22_c1):T22_c2:=λ(x0,x1,x2,x3,x4,x5,x6,x7,x8,x9,x10,x11,x12,x13,x14,x15,x16,x17,x18,x19,x20,x21,x22,x23,x24,x25,x26,x27,x28,x29,x30,x31,x32,x33,x34,x35,_)=>bif x0 then(f47 (534,())).bind λv=>some (Sum.inl (v.1,v.2.1,v.2.2.1,v.2.2.2.1,v.2.2.2.2.1,v.2.2.2.2.2.1,v.2.2.2.2.2.2.1,v.2.2.2.2.2.2.2.1,v.2.2.2.2.2.2.2.2.1,v.2.2.2.2.2.2.2.2.2.1,()))else bif x11 then(f45 (x1,x2,x3,true,())).bind λv=>(f22_c1 (!v.1,x1,x2,x3,x4,x5,x6,x7,x8,x9,x10,x11,x12,x13,x14,x15,x16,x17,x18,x19,x20,x21,x22,x23,x24,x25,x26,x27,x28,x29,x30,x31,x32,x33,x34,x35,())).bind λv=>Sum.elim (λv=>some (Sum.inl (v.1,v.2.1,v.2.2.1,v.2.2.2.1,v.2.2.2.2.1,v.2.2.2.2.2.1,v.2.2.2.2.2.2.1,v.2.2.2.2.2.2.2.1,v.2.2.2.2.2.2.2.2.1,v.2.2.2.2.2.2.2.2.2.1,()))) (λv=>some (Sum.inr (v.1,v.2.1,v.2.2.1,v.2.2.2.1,v.2.2.2.2.1,v.2.2.2.2.2.1,v.2.2.2.2.2.2.1,v.2.2.2.2.2.2.2.1,v.2.2.2.2.2.2.2.2.1,v.2.2.2.2.2.2.2.2.2.1,v.2.2.2.2.2.2.2.2.2.2.1,v.2.2.2.2.2.2.2.2.2.2.2.1,v.2.2.2.2.2.2.2.2.2.2.2.2.1,v.2.2.2.2.2.2.2.2.2.2.2.2.2.1,v.2.2.2.2.2.2.2.2.2.2.2.2.2.2.1,v.2.2.2.2.2.2.2.2.2.2.2.2.2.2.2.1,v.2.2.2.2.2.2.2.2.2.2.2.2.2.2.2.2.1,v.2.2.2.2.2.2.2.2.2.2.2.2.2.2.2.2.2.1,v.2.2.2.2.2.2.2.2.2.2.2.2.2.2.2.2.2.2.1,v.2.2.2.2.2.2.2.2.2.2.2.2.2.2.2.2.2.2.2.1,()))) v else(f22_c1 (false,x1,x2,x3,x4,x5,x6,x7,x8,x9,x10,x11,x12,x13,x14,x15,x16,x17,x18,x19,x20,x21,x22,x23,x24,x25,x26,x27,x28,x29,x30,x31,x32,x33,x34,x35,())).bind λv=>Sum.elim (λv=>some (Sum.inl (v.1,v.2.1,v.2.2.1,v.2.2.2.1,v.2.2.2.2.1,v.2.2.2.2.2.1,v.2.2.2.2.2.2.1,v.2.2.2.2.2.2.2.1,v.2.2.2.2.2.2.2.2.1,v.2.2.2.2.2.2.2.2.2.1,()))) (λv=>some (Sum.inr (v.1,v.2.1,v.2.2.1,v.2.2.2.1,v.2.2.2.2.1,v.2.2.2.2.2.1,v.2.2.2.2.2.2.1,v.2.2.2.2.2.2.2.1,v.2.2.2.2.2.2.2.2.1,v.2.2.2.2.2.2.2.2.2.1,v.2.2.2.2.2.2.2.2.2.2.1,v.2.2.2.2.2.2.2.2.2.2.2.1,v.2.2.2.2.2.2.2.2.2.2.2.2.1,v.2.2.2.2.2.2.2.2.2.2.2.2.2.1,v.2.2.2.2.2.2.2.2.2.2.2.2.2.2.1,v.2.2.2.2.2.2.2.2.2.2.2.2.2.2.2.1,v.2.2.2.2.2.2.2.2.2.2.2.2.2.2.2.2.1,v.2.2.2.2.2.2.2.2.2.2.2.2.2.2.2.2.2.1,v.2.2.2.2.2.2.2.2.2.2.2.2.2.2.2.2.2.2.1,v.2.2.2.2.2.2.2.2.2.2.2.2.2.2.2.2.2.2.2.1,()))) v
theorem h22_c2(f44:T44)(f45:T45)(f46:T46)(f47:T47)(f48:T48)(f22_c1:T22_c1):AqC (K22 f44 f45 f46 f47 f48) 0 (subc (code f22) [1,1,1,0,0,1]) (N22_c2 f22_c1) m8e m5e (F22_c2 f44 f45 f46 f47 f48 f22_c1):=λv=>by kernel_rfl
def C22_c2:T22_c2:=F22_c2 C44 C45 C46 C47 C48 C22_c1
theorem k22_c2:CdOk 0 (subc (code f22) [1,1,1,0,0,1]) (E22_c2 C22_c2) :=
 frd kok22 (And.intro k22_c1 trivial) (h22_c2 C44 C45 C46 C47 C48 C22_c1)
def N22_c3(f22_c2:T22_c2):Ann:=(.seq .nil (.seq (.blk (.cut .nil (E22_c2 f22_c2))) .nil))
def F22_c3(f44:T44)(f45:T45)(f46:T46)(f47:T47)(f48:T48)(f22_c2:T22_c2):T22_c3:=λ(x0,x1,x2,x3,x4,x5,x6,x7,x8,x9,x10,x11,x12,x13,x14,x15,x16,x17,x18,x19,x20,x21,x22,x23,x24,x25,x26,x27,x28,x29,x30,x31,x32,x33,x34,_)=>bif decide (x5>0)then(f22_c2 (decide (x14>x5),x3,x4,x5,x6,x7,x8,x9,x10,x11,x12,x13,x14,x15,x16,x17,x18,x19,x20,x21,x22,x23,x24,x25,x26,x27,x28,x29,x30,x31,x32,x33,x34,x0,x1,x2,())).bind λv=>Sum.elim (λv=>some (v.1,v.2.1,v.2.2.1,v.2.2.2.1,v.2.2.2.2.1,v.2.2.2.2.2.1,v.2.2.2.2.2.2.1,v.2.2.2.2.2.2.2.1,v.2.2.2.2.2.2.2.2.1,v.2.2.2.2.2.2.2.2.2.1,())) (λv=>some (v.2.2.2.2.2.2.2.2.2.2.1,v.2.2.2.2.2.2.2.2.2.2.2.1,v.2.2.2.2.2.2.2.2.2.2.2.2.1,v.2.2.2.2.2.2.2.2.2.2.2.2.2.1,v.2.2.2.2.2.2.2.2.2.2.2.2.2.2.1,v.2.2.2.2.2.2.2.2.2.2.2.2.2.2.2.1,v.2.2.2.2.2.2.2.2.2.2.2.2.2.2.2.2.1,v.2.2.2.2.2.2.2.2.2.2.2.2.2.2.2.2.2.1,v.2.2.2.2.2.2.2.2.2.2.2.2.2.2.2.2.2.2.1,v.2.2.2.2.2.2.2.2.2.2.2.2.2.2.2.2.2.2.2.1,())) v else(f22_c2 (false,x3,x4,x5,x6,x7,x8,x9,x10,x11,x12,x13,x14,x15,x16,x17,x18,x19,x20,x21,x22,x23,x24,x25,x26,x27,x28,x29,x30,x31,x32,x33,x34,x0,x1,x2,())).bind λv=>Sum.elim (λv=>some (v.1,v.2.1,v.2.2.1,v.2.2.2.1,v.2.2.2.2.1,v.2.2.2.2.2.1,v.2.2.2.2.2.2.1,v.2.2.2.2.2.2.2.1,v.2.2.2.2.2.2.2.2.1,v.2.2.2.2.2.2.2.2.2.1,())) (λv=>some (v.2.2.2.2.2.2.2.2.2.2.1,v.2.2.2.2.2.2.2.2.2.2.2.1,v.2.2.2.2.2.2.2.2.2.2.2.2.1,v.2.2.2.2.2.2.2.2.2.2.2.2.2.1,v.2.2.2.2.2.2.2.2.2.2.2.2.2.2.1,v.2.2.2.2.2.2.2.2.2.2.2.2.2.2.2.1,v.2.2.2.2.2.2.2.2.2.2.2.2.2.2.2.2.1,v.2.2.2.2.2.2.2.2.2.2.2.2.2.2.2.2.2.1,v.2.2.2.2.2.2.2.2.2.2.2.2.2.2.2.2.2.2.1,v.2.2.2.2.2.2.2.2.2.2.2.2.2.2.2.2.2.2.2.1,())) v
theorem h22_c3(f44:T44)(f45:T45)(f46:T46)(f47:T47)(f48:T48)(f22_c2:T22_c2):AqC (K22 f44 f45 f46 f47 f48) 0 (subc (code f22) [1,1]) (N22_c3 f22_c2) m8f m9k (F22_c3 f44 f45 f46 f47 f48 f22_c2):=λv=>by kernel_rfl
def C22_c3:T22_c3:=F22_c3 C44 C45 C46 C47 C48 C22_c2
theorem k22_c3:CdOk 0 (subc (code f22) [1,1]) (E22_c3 C22_c3) :=
 frd kok22 (And.intro k22_c2 trivial) (h22_c3 C44 C45 C46 C47 C48 C22_c2)
def N22(f22_c3:T22_c3):Ann:=(.seq .nil (.cut .nil (E22_c3 f22_c3)))
def F22(f44:T44)(f45:T45)(f46:T46)(f47:T47)(f48:T48)(f22_c3:T22_c3):T22:=λ(x0,x1,x2,x3,x4,x5,x6,x7,x8,x9,x10,x11,x12,x13,x14,_)=>bif x13 then(f22_c3 (x0,x1,x2,x3,x4,x5,x6,x7,x8,x9,x10,x11,x12,x13,x14,0,false,[],[],false,[],[],false,false,0,0,x6,x7,x8,x9,x10,x11,false,x4,0,())).bind λv=>some (v.1,v.2.1,v.2.2.1,v.2.2.2.1,v.2.2.2.2.1,v.2.2.2.2.2.1,v.2.2.2.2.2.2.1,v.2.2.2.2.2.2.2.1,v.2.2.2.2.2.2.2.2.1,v.2.2.2.2.2.2.2.2.2.1,())else(f22_c3 (x0,x1,x2,x3,x4,x5,x6,x7,x8,x9,x10,x11,x12,x13,x14,0,false,[],[],false,[],[],false,false,0,0,x6,x7,x8,x9,x10,x11,false,false,0,())).bind λv=>some (v.1,v.2.1,v.2.2.1,v.2.2.2.1,v.2.2.2.2.1,v.2.2.2.2.2.1,v.2.2.2.2.2.2.1,v.2.2.2.2.2.2.2.1,v.2.2.2.2.2.2.2.2.1,v.2.2.2.2.2.2.2.2.2.1,())
theorem h22(f44:T44)(f45:T45)(f46:T46)(f47:T47)(f48:T48)(f22_c3:T22_c3):AqF (K22 f44 f45 f46 f47 f48) 0 f22 (N22 f22_c3) m8b m6f (F22 f44 f45 f46 f47 f48 f22_c3):=λv=>by kernel_rfl
def C22:T22:=F22 C44 C45 C46 C47 C48 C22_c3
theorem ok22:FO 22 (E22 C22) :=
 qo kok22 func22 (And.intro k22_c3 trivial) (h22 C44 C45 C46 C47 C48 C22_c3)
abbrev T20:=Unit->Option (Bool×Unit)
def E20(f:T20):FEnt:=⟨Li7,Lo29,f⟩
def K20(f22:T22)(f42:T42)(f43:T43)(f44:T44)(f45:T45)(f9:T9):=lk [(22,E22 f22),(42,E42 f42),(43,E43 f43),(44,E44 f44),(45,E45 f45),(9,E9 f9)]
def C20:T20:=λ_=>some (true,())
theorem h20:afun Γ (K20 C22 C42 C43 C44 C45 C9) 0 Tryz.f20.ntmps Tryz.f20.results.toList (code Tryz.f20) .nil (em id Li7 ()).1 (em id Li7 ()).2 (ofin 0 Lo29)=some (true,()):=by kernel_rfl
theorem ok20:FO 20 (E20 C20) :=
 q0 (kc ok22 (kc ok42 (kc ok43 (kc ok44 (kc ok45 (kc ok9 kn)))))) func20 (λv=>h20)
abbrev T21:=Bool×LqS×LqS×Bool×LqS×LqS×Bool×Bool×Int×Unit->Option (Bool×Unit)
def E21(f:T21):FEnt:=⟨m5q,Lo29,f⟩
def K21(f8:T8):=lk [(8,E8 f8)]
def F21(f8:T8):T21:=λ(x0,x1,x2,x3,x4,x5,x6,x7,x8,_)=>(f8 (x1,x2,())).bind λv=>(f8 (x4,x5,())).bind λv1=>bif v.1 then some (v1.1,())else some (false,())
def C21:T21:=F21 C8
theorem ok21:FO 21 (E21 C21):=zq1 m5q Lo29 K21 F21 C8 (kc ok8 kn) func21
theorem c96v(s:List UInt8):C59 (s,[91],())=some (lit s,()):=by
 have h:(C59 (s,[91],())).bind (λval=>some (val.1,()))=some (lit s,()):=c86v s;cases hc:C59 (s,[91],())with
 | none=>rw[hc]at h;cases h
 | some y =>
  obtain⟨b,u⟩:=y;rw[hc]at h;simp only[Option.bind_some,Option.some.injEq,Prod.mk.injEq,and_true]at h;rw[h]
theorem n58(n:Bool)(a b:List UInt8)(ha:a.length<=1000)(hb:b.length<=400):∃s,C75 (n,a,b,())=some (s,())/\(s=false->Asc a):=by
 by_cases hA:Asc a
 . cases hl:lit b with
   | false =>
    refine⟨false,?_,λ_=>hA⟩;show F75 C12 C59 _=_;simp only[F75,c21a a (by omega) hA,Option.bind_some,show decide ((-1:Int)>=0)=false from rfl,cond_false,c96v,hl]
   | true =>
    obtain⟨⟨p,u⟩,e,-⟩:=d21 b (by omega);refine⟨decide (p>=0),?_,λ_=>hA⟩;show F75 C12 C59 _=_;simp only[F75,c21a a (by omega) hA,Option.bind_some,show decide ((-1:Int)>=0)=false from rfl,cond_false,c96v,hl,cond_true,e]
 . obtain⟨p,e,hp⟩:=c21w a (by omega) hA
   refine⟨true,?_,λh=>by cases h⟩;show F75 C12 C59 _=_;simp only[F75,e,Option.bind_some,show decide (p>=0)=true from decide_eq_true hp,cond_true]
theorem n53(n:Bool)(a b:List UInt8)(ha:a.length<=1000)(hb:b.length<=400):∃w,C48 (n,a,b,())=some (w,())/\(w=false->Asc a/\Asc b):=by
 obtain⟨⟨p,u⟩,e,-,h⟩:=d21 (a++b) (by simp only[length_append];omega);dsimp only at h;refine⟨decide (p>=0),?_,λhw=>asc_app.1 (h (by have:=of_decide_eq_false hw;omega))⟩;show F48 C12 _=_;simp only[F48,e,Option.bind_some];rw[decide_eq_true (by omega)];rfl
theorem n19(n:Bool)(a b:List UInt8)(n':Bool)(a' b':List UInt8)(hd bd:Bool)(z:Int)(ha:a.length<=1000)(hb:b.length<=400)(ha':a'.length<=1000)(hb':b'.length<=400):∃s,C44 (n,a,b,n',a',b',hd,bd,z,())=some (s,())/\(s=false->hd=false):=by
 obtain⟨s1,e1,h1⟩:=n58 n a b ha hb;obtain⟨s2,e2,h2⟩:=n58 n' a' b' ha' hb';cases hd with
 | true=>exact⟨true,rfl,λh=>by cases h⟩
 | false =>
  cases s1 with
  | true =>
   refine⟨true,?_,λh=>rfl⟩;show F44 C75 _=_;simp only[F44,cond_false,e1,Option.bind_some,cond_true]
  | false =>
   refine⟨s2,?_,λh=>rfl⟩;show F44 C75 _=_;simp only[F44,cond_false,e1,e2,Option.bind_some]
abbrev Ch:=Int×Bool×List UInt8×List UInt8×Bool×List UInt8×List UInt8×Bool×Bool×Int×Unit
def Bn(t:Ch):Prop:=∃st:Int,st>0/\t=(2,false,[],[],false,[],[],false,false,st,())
def Sd(T:List R6)(A:List R4)(B:List R3)(U E hd bd n:Bool)(a b:List UInt8)(n':Bool)(a' b':List UInt8)(t:Ch):Prop :=
 ∃y y' u8,t=((bif decide (y=b)&&decide (y'=b')then 0 else 1),n,a,y,n',a',y',u8,bd&&E,0,()) /\
  C19 (T,A,B,n,a,y,n,a,b,())=some (true,())/\C19 (T,A,B,n',a',y',n',a',b',())=some (true,()) /\
  (n=true->a=[]/\y=[])/\(n'=true->a'=[]/\y'=[])/\y.length<=400/\y'.length<=400/\(u8=true->U=true)/\(u8=false->hd=false/\Asc a/\Asc y/\Asc a'/\Asc y')
section
variable {T:List R6} {A:List R4} {B:List R3}
theorem c0f(n:Bool)(a b:List UInt8)(n':Bool)(a' b':List UInt8)(hd bd:Bool)(by':Int)(y y':List UInt8)(u e:Bool)(s:Int) :
 C22_c0 (false,n,a,b,n',a',b',hd,bd,by',0,false,[],[],false,[],[],false,false,0,0,n,a,y,n',a',y',u,e,s,())=some (.inr (0,false,[],[],false,[],[],false,false,0,(bif decide (y=b)&&decide (y'=b')then 0 else 1),n,a,y,n',a',y',u,e,s,())):=by
 show F22_c0 C44 C45 C46 C47 C48 _=_;by_cases h1:y=b
 . subst h1
   by_cases h2:y'=b'
   . subst h2
     simp only[F22_c0,cond_false,beq_self_eq_true,Bool.and_self,Bool.and_true,Bool.not_true,decide_true,cond_true]
   . simp only[F22_c0,cond_false,beq_self_eq_true,Bool.and_self,Bool.and_true,Bool.not_true,decide_true,decide_eq_false h2,beq_eq_false_iff_ne.2 h2,Bool.and_false,Bool.not_false,cond_true]
 . simp only[F22_c0,cond_false,beq_self_eq_true,Bool.and_self,Bool.and_true,decide_eq_false h1,beq_eq_false_iff_ne.2 h1,Bool.and_false,Bool.false_and,Bool.not_false,cond_true]
abbrev Cs:=Ch⊕(Int×Bool×List UInt8×List UInt8×Bool×List UInt8×List UInt8×Bool×Bool×Int×Ch)
def finC:Cs->Ch:=Sum.elim (λt=>t) (λz=>z.2.2.2.2.2.2.2.2.2.2)
theorem c1v(h:TK T A B)(hK:KT T A B)(hL:LN B)(hC:LC T A B)(U E:Bool)(Z:Int)(n:Bool)(a b:List UInt8)(n':Bool)(a' b':List UInt8)(hd bd:Bool)(by':Int)(ha:a.length<=1000)(hb:b.length<=400)(ha':a'.length<=1000)(hb':b'.length<=400)(h20:C16 (T,A,B,n,a,b,())=some (0,()))(h20':C16 (T,A,B,n',a',b',())=some (0,())) :
 ∃r:Cs,C22_c1 (false,U,E,Z,n,a,b,n',a',b',hd,bd,by',0,false,[],[],false,[],[],false,false,0,0,n,a,b,n',a',b',false,bd&&E,0,T,A,B,())=some r/\(Bn (finC r)\/Sd T A B U E hd bd n a b n' a' b' (finC r)):=by
 obtain⟨nd,e19,h19⟩:=n19 n a b n' a' b' hd bd by' ha hb ha' hb';have nul:∀(n:Bool) (a b:List UInt8),a.length<=1000->C16 (T,A,B,n,a,b,())=some (0,())->n=true->a=[]/\b=[]:=by
  intro n a b ha h20 hn;rcases c20n n a b ha h20 with⟨-,r⟩|⟨r,-⟩
  . exact r
  . rw[r]at hn;cases hn
 have self:∀(n:Bool) (a b:List UInt8),a.length<=1000->b.length<=400->C16 (T,A,B,n,a,b,())=some (0,())->C19 (T,A,B,n,a,b,n,a,b,())=some (true,()):=λn a b ha hb h20=>k41 h ha (by omega) h20 h20 rfl;cases U with
 | true =>
  obtain⟨w1,e1,hw1⟩:=n53 n a b ha hb;obtain⟨w2,e2,hw2⟩:=n53 n' a' b' ha' hb';refine⟨.inl (0,n,a,b,n',a',b',nd||(w1||w2),bd&&E,0,()),?_,.inr ⟨b,b',nd||(w1||w2),?_,self _ _ _ ha hb h20,self _ _ _ ha' hb' h20',nul _ _ _ ha h20,nul _ _ _ ha' h20',hb,hb',λ_=>rfl,λhu => ?_⟩⟩
  . show F22_c1 C44 C45 C46 C47 C48 C22_c0 _=_
    simp only[F22_c1,cond_false,cond_true,e19,Option.bind_some,e1,e2];cases nd<;>cases w1<;>rfl
  . simp only[finC,elim_inl,decide_true,Bool.and_self,cond_true]
  . simp only[Bool.or_eq_false_iff]at hu
    have q1:=hw1 hu.2.1;have q2:=hw2 hu.2.2;exact⟨h19 hu.1,q1.1,q1.2,q2.1,q2.2⟩
 | false =>
  have bnc:∀(x1:Bool) (x2 x3:List UInt8) (x4:Bool) (x5 x6:List UInt8) (x7 x8:Bool) (x9 x20:Int) (y1:Bool) (y2 y3:List UInt8) (y4:Bool) (y5 y6:List UInt8) (y7 y8:Bool) (y9:Int),
   C22_c0 (true,x1,x2,x3,x4,x5,x6,x7,x8,x9,0,false,[],[],false,[],[],false,false,0,x20,y1,y2,y3,y4,y5,y6,y7,y8,y9,())=some (.inl (2,false,[],[],false,[],[],false,false,567,())):=λ_ _ _ _ _ _ _ _ _ _ _ _ _ _ _ _ _ _ _=>rfl
  have bok:Bn (finC (.inl (2,false,[],[],false,[],[],false,false,567,()))):=⟨567,by decide,rfl⟩
  cases nd with
  | true =>
   refine⟨.inl (2,false,[],[],false,[],[],false,false,567,()),?_,.inl bok⟩;show F22_c1 C44 C45 C46 C47 C48 C22_c0 _=_;simp only[F22_c1,cond_false,cond_true,e19,Option.bind_some,bnc,elim_inl]
  | false =>
   rcases k39 h hK hL hC n a b ha hb h20 with⟨y,e39,s41,hn,hA,hY,hy4,-⟩|⟨e,e39,he,-,-⟩
   . rcases k39 h hK hL hC n' a' b' ha' hb' h20' with⟨y',e39',s41',hn',hA',hY',hy4',-⟩|⟨e',e39',he',-,-⟩
     . refine⟨.inr (0,false,[],[],false,[],[],false,false,0,(bif decide (y=b)&&decide (y'=b')then 0 else 1),n,a,y,n',a',y',false,bd&&E,0,()),?_,.inr ⟨y,y',false,rfl,s41,s41',hn,hn',hy4,hy4',λhu=>(by cases hu),λ_=>⟨h19 rfl,hA,hY,hA',hY'⟩⟩⟩
       have h51:C46 (T,A,B,n,a,b,n',a',b',hd,bd,by',0,n,a,b,n',a',b',false,bd&&E,0,())=some (true,T,A,B,n,a,b,n',a',b',hd,bd,by',0,n,a,y,n',a',y',false,bd&&E,0,()):=by
        show F46 C17 _=_;simp only[F46,e39,e39',Option.bind_some];rfl
       show F22_c1 C44 C45 C46 C47 C48 C22_c0 _=_;simp only[F22_c1,cond_false,e19,Option.bind_some,h51,Bool.not_true,c0f,elim_inr]
     . refine⟨.inl (2,false,[],[],false,[],[],false,false,567,()),?_,.inl bok⟩
       have h51:C46 (T,A,B,n,a,b,n',a',b',hd,bd,by',0,n,a,b,n',a',b',false,bd&&E,0,())=some (false,T,A,B,n,a,b,n',a',b',hd,bd,by',0,n,a,y,false,[],[],false,bd&&E,0,()):=by
        show F46 C17 _=_;simp only[F46,e39,e39',Option.bind_some,ibF he'];rfl
       show F22_c1 C44 C45 C46 C47 C48 C22_c0 _=_;simp only[F22_c1,cond_false,e19,Option.bind_some,h51,Bool.not_false,bnc,elim_inl]
   . refine⟨.inl (2,false,[],[],false,[],[],false,false,567,()),?_,.inl bok⟩
     have h51:∃p1 p2 p3,C46 (T,A,B,n,a,b,n',a',b',hd,bd,by',0,n,a,b,n',a',b',false,bd&&E,0,())=some (false,T,A,B,n,a,b,n',a',b',hd,bd,by',0,false,[],[],p1,p2,p3,false,bd&&E,0,()):=by
      rcases k39 h hK hL hC n' a' b' ha' hb' h20' with⟨y',e39',-⟩|⟨e',e39',-⟩
      . refine⟨n',a',y',?_⟩
        show F46 C17 _=_;simp only[F46,e39,e39',Option.bind_some,ibF he];rfl
      . refine⟨false,[],[],?_⟩
        show F46 C17 _=_;simp only[F46,e39,e39',Option.bind_some,ibF he];rfl
     obtain⟨p1,p2,p3,h51⟩:=h51;show F22_c1 C44 C45 C46 C47 C48 C22_c0 _=_;simp only[F22_c1,cond_false,e19,Option.bind_some,h51,Bool.not_false,bnc,elim_inl]
theorem c2v(h:TK T A B)(hK:KT T A B)(hL:LN B)(hC:LC T A B)(U E:Bool)(Z:Int)(n:Bool)(a b:List UInt8)(n':Bool)(a' b':List UInt8)(hd bd:Bool)(by':Int)(ha:a.length<=1000)(hb:b.length<=400)(ha':a'.length<=1000)(hb':b'.length<=400)(h20:C16 (T,A,B,n,a,b,())=some (0,()))(h20':C16 (T,A,B,n',a',b',())=some (0,())) :
 ∃r:Cs,C22_c2 (false,U,E,Z,n,a,b,n',a',b',hd,bd,by',0,false,[],[],false,[],[],false,false,0,0,n,a,b,n',a',b',false,bd&&E,0,T,A,B,())=some r/\(Bn (finC r)\/(Sd T A B U E hd bd n a b n' a' b' (finC r)/\(bd=true->U=true\/E=true))):=by
 obtain⟨r,e1,hr⟩:=c1v h hK hL hC U E Z n a b n' a' b' hd bd by' ha hb ha' hb' h20 h20';have go:(bd=true->U=true\/E=true)->C22_c2 (false,U,E,Z,n,a,b,n',a',b',hd,bd,by',0,false,[],[],false,[],[],false,false,0,0,n,a,b,n',a',b',false,bd&&E,0,T,A,B,())=some r:=by
  intro hb;show F22_c2 C44 C45 C46 C47 C48 C22_c1 _=_;cases bd with
  | false =>
   simp only[F22_c2,cond_false,e1,Option.bind_some];rcases r with r|r<;>rfl
  | true =>
   have h50:C45 (U,E,Z,true,())=some (true,()):=by
    rcases hb rfl with rfl|rfl
    . rfl
    . cases U<;>rfl
   simp only[F22_c2,cond_false,cond_true,h50,Option.bind_some,Bool.not_true,e1];rcases r with r|r<;>rfl
 by_cases hb:bd=true->U=true\/E=true
 . exact⟨r,go hb,hr.imp id λh=>⟨h,hb⟩⟩
 . refine⟨.inl (2,false,[],[],false,[],[],false,false,563,()),?_,.inl ⟨563,by decide,rfl⟩⟩
   have hbd:bd=true:=by
    cases bd with
    | true=>rfl
    | false=>exact(hb λh=>by cases h).elim
   subst hbd;have hU:U=false:=by
    cases U with
    | false=>rfl
    | true=>exact(hb λ_ => .inl rfl).elim
   have hE:E=false:=by
    cases E with
    | false=>rfl
    | true=>exact(hb λ_ => .inr rfl).elim
   subst hU hE;rfl
theorem c17v(h:TK T A B)(hK:KT T A B)(hL:LN B)(hC:LC T A B)(U E:Bool)(Z:Int)(n:Bool)(a b:List UInt8)(n':Bool)(a' b':List UInt8)(hd bd:Bool)(by':Int)(ha:a.length<=1000)(hb:b.length<=400)(ha':a'.length<=1000)(hb':b'.length<=400)(h20:C16 (T,A,B,n,a,b,())=some (0,()))(h20':C16 (T,A,B,n',a',b',())=some (0,())) :
 ∃t:Ch,C22 (T,A,B,U,E,Z,n,a,b,n',a',b',hd,bd,by',())=some t/\(Bn t\/(Sd T A B U E hd bd n a b n' a' b' t/\(bd=true->U=true\/E=true)/\(Z>0->by'<=Z))):=by
 obtain⟨r,e2,hr⟩:=c2v h hK hL hC U E Z n a b n' a' b' hd bd by' ha hb ha' hb' h20 h20';have h17:∀t:Ch,C22_c3 (T,A,B,U,E,Z,n,a,b,n',a',b',hd,bd,by',0,false,[],[],false,[],[],false,false,0,0,n,a,b,n',a',b',false,bd&&E,0,())=some t->C22 (T,A,B,U,E,Z,n,a,b,n',a',b',hd,bd,by',())=some t:=by
  intro t ht;show F22 C44 C45 C46 C47 C48 C22_c3 _=_;cases bd with
  | true =>
   rw[Bool.true_and]at ht;simp only[F22,cond_true,ht,Option.bind_some]
  | false =>
   rw[Bool.false_and]at ht;simp only[F22,cond_false,ht,Option.bind_some]
 by_cases hz:Z>0
 . by_cases hb2:by'>Z
   . refine⟨(2,false,[],[],false,[],[],false,false,534,()),h17 _ ?_,.inl ⟨534,by decide,rfl⟩⟩
     show F22_c3 C44 C45 C46 C47 C48 C22_c2 _=_;simp only[F22_c3,decide_eq_true hz,decide_eq_true hb2,cond_true];rfl
   . refine⟨finC r,h17 _ ?_,hr.imp id λh=>⟨h.1,h.2,λ_=>by omega⟩⟩
     show F22_c3 C44 C45 C46 C47 C48 C22_c2 _=_;simp only[F22_c3,decide_eq_true hz,decide_eq_false hb2,cond_true,e2,Option.bind_some];rcases r with r|r<;>rfl
 . refine⟨finC r,h17 _ ?_,hr.imp id λh=>⟨h.1,h.2,λhz'=>(hz hz').elim⟩⟩
   show F22_c3 C44 C45 C46 C47 C48 C22_c2 _=_;simp only[F22_c3,decide_eq_false hz,cond_false,e2,Option.bind_some];rcases r with r|r<;>rfl
end
abbrev T6_c0:=Bool×Bool×Bool×Bool×Int×Bool×List UInt8×List UInt8×Bool×List UInt8×List UInt8×Bool×Bool×Int×List ((Int×(Int×(Int×(Int×(Int×Int))))))×List ((Int×(Int×(Int×Int))))×List ((Int×(Int×Int)))×Int×Bool×List UInt8×List UInt8×Bool×List UInt8×List UInt8×Bool×Bool×Int×Unit->Option (Bool×Unit)
def E6_c0(f:T6_c0):LEnt:=⟨m5s,m4r,f⟩
abbrev T6_c1:=Bool×Bool×Bool×Int×Bool×List UInt8×List UInt8×Bool×List UInt8×List UInt8×Bool×Bool×Int×List ((Int×(Int×(Int×(Int×(Int×Int))))))×List ((Int×(Int×(Int×Int))))×List ((Int×(Int×Int)))×Int×Bool×List UInt8×List UInt8×Bool×List UInt8×List UInt8×Bool×Bool×Int×Unit->Option (Bool×Unit)
def E6_c1(f:T6_c1):LEnt:=⟨m4v,m4r,f⟩
abbrev T6_c2:=Bool×Bool×Bool×Bool×Int×Bool×List UInt8×List UInt8×Bool×List UInt8×List UInt8×Bool×Bool×Int×List ((Int×(Int×(Int×(Int×(Int×Int))))))×List ((Int×(Int×(Int×Int))))×List ((Int×(Int×Int)))×Int×Bool×List UInt8×List UInt8×Bool×List UInt8×List UInt8×Bool×Bool×Int×Unit->Option (Bool×Unit)
def E6_c2(f:T6_c2):LEnt:=⟨m5g,m4r,f⟩
abbrev T6_c3:=Bool×Bool×Bool×Int×Bool×List UInt8×List UInt8×Bool×List UInt8×List UInt8×Bool×Bool×Int×List ((Int×(Int×(Int×(Int×(Int×Int))))))×List ((Int×(Int×(Int×Int))))×List ((Int×(Int×Int)))×Int×Bool×List UInt8×List UInt8×Bool×List UInt8×List UInt8×Bool×Bool×Int×Unit->Option (Bool×Unit)
def E6_c3(f:T6_c3):LEnt:=⟨m4v,m4r,f⟩
abbrev T6_c4:=Bool×Bool×Bool×Int×Bool×List UInt8×List UInt8×Bool×List UInt8×List UInt8×Bool×Bool×Int×List ((Int×(Int×(Int×(Int×(Int×Int))))))×List ((Int×(Int×(Int×Int))))×List ((Int×(Int×Int)))×Unit->Option (Bool×Unit)
def E6_c4(f:T6_c4):LEnt:=⟨m5t,m4r,f⟩
abbrev T6:=Bool×Bool×Int×Bool×List UInt8×List UInt8×Bool×List UInt8×List UInt8×Bool×Bool×Int×Unit->Option (Bool×Unit)
def E6(f:T6):FEnt:=⟨m5r,Lo29,f⟩
def K6(f12:T12)(f16:T16)(f18:T18)(f19:T19)(f20:T20)(f21:T21)(f22:T22)(f9:T9):Calls':=λf=>Ae.lookA f [(12,E12 f12),(16,E16 f16),(18,E18 f18),(19,E19 f19),(20,E20 f20),(21,E21 f21),(22,E22 f22),(9,E9 f9)]
theorem kok6:KOk prog (K6 C12 C16 C18 C19 C20 C21 C22 C9):=(kok_cons ok12 (kok_cons ok16 (kok_cons ok18 (kok_cons ok19 (kok_cons ok20 (kok_cons ok21 (kok_cons ok22 (kok_cons ok9 (kok_nil _)))))))))
def F6_c0(f12:T12)(f16:T16)(f18:T18)(f19:T19)(f20:T20)(f21:T21)(f22:T22)(f9:T9):Bool×Bool×Bool×Bool×Int×Bool×List UInt8×List UInt8×Bool×List UInt8×List UInt8×Bool×Bool×Int×List ((Int×(Int×(Int×(Int×(Int×Int))))))×List ((Int×(Int×(Int×Int))))×List ((Int×(Int×Int)))×Int×Bool×List UInt8×List UInt8×Bool×List UInt8×List UInt8×Bool×Bool×Int×Unit->Option (Bool×Unit):=λ(x0,x1,x2,x3,x4,x5,x6,x7,x8,x9,x10,x11,x12,x13,x14,x15,x16,x17,x18,x19,x20,x21,x22,x23,x24,x25,x26,_)=>bif x0 then(f19 (x14,x15,x16,x18,x19,x20,x5,x6,x7,())).bind λval=>bif val.fst then(f19 (x14,x15,x16,x21,x22,x23,x8,x9,x10,())).bind λval=>bif val.fst then bif x1==(x17==0)then bif x19==x6 then bif x22==x9 then bif decide (x4<=0)then some (true,())else some (decide (x13<=x4),())else some (false,())else some (false,())else some (false,())else some (false,())else some (false,())else some (false,())
theorem h6_c0(f12:T12)(f16:T16)(f18:T18)(f19:T19)(f20:T20)(f21:T21)(f22:T22)(f9:T9)(v:HS m5s):aev Γ (K6 f12 f16 f18 f19 f20 f21 f22 f9) 0 (subc (code f6) [1,1,1,1,1,1,1,1,1,1]) .nil (stof m5s v) (oout 0 m4r)=F6_c0 f12 f16 f18 f19 f20 f21 f22 f9 v:=by kernel_rfl
def C6_c0:T6_c0:=F6_c0 C12 C16 C18 C19 C20 C21 C22 C9
theorem k6_c0:FragOk prog 0 (λQ a w=>(subc (code f6) [1,1,1,1,1,1,1,1,1,1]).wp prog Q a w) (E6_c0 C6_c0) :=
 frag_code (ins:=m5s) (os:=m4r) (n := .nil) (F:=C6_c0) hm hΓ kok6 (ann_nil _) (h6_c0 C12 C16 C18 C19 C20 C21 C22 C9)
def N6_c1(f6_c0:T6_c0):Ann:=(.cut .nil (E6_c0 f6_c0))
def F6_c1(f12:T12)(f16:T16)(f18:T18)(f19:T19)(f20:T20)(f21:T21)(f22:T22)(f9:T9)(f6_c0:T6_c0):Bool×Bool×Bool×Int×Bool×List UInt8×List UInt8×Bool×List UInt8×List UInt8×Bool×Bool×Int×List ((Int×(Int×(Int×(Int×(Int×Int))))))×List ((Int×(Int×(Int×Int))))×List ((Int×(Int×Int)))×Int×Bool×List UInt8×List UInt8×Bool×List UInt8×List UInt8×Bool×Bool×Int×Unit->Option (Bool×Unit):=λ(x0,x1,x2,x3,x4,x5,x6,x7,x8,x9,x10,x11,x12,x13,x14,x15,x16,x17,x18,x19,x20,x21,x22,x23,x24,x25,_)=>bif x17==x4&&(x18==x5&&(x19==x6&&true)&&true)then(f6_c0 (x0,x20==x7&&(x21==x8&&(x22==x9&&true)&&true),x1,x2,x3,x4,x5,x6,x7,x8,x9,x10,x11,x12,x13,x14,x15,x16,x17,x18,x19,x20,x21,x22,x23,x24,x25,())).bind λval=>some (val.fst,())else(f6_c0 (x0,false,x1,x2,x3,x4,x5,x6,x7,x8,x9,x10,x11,x12,x13,x14,x15,x16,x17,x18,x19,x20,x21,x22,x23,x24,x25,())).bind λval=>some (val.fst,())
theorem h6_c1(f12:T12)(f16:T16)(f18:T18)(f19:T19)(f20:T20)(f21:T21)(f22:T22)(f9:T9)(f6_c0:T6_c0)(v:HS m4v):aev Γ (K6 f12 f16 f18 f19 f20 f21 f22 f9) 0 (subc (code f6) [1,1,1,1,1,1,1,1,1]) (N6_c1 f6_c0) (stof m4v v) (oout 0 m4r)=F6_c1 f12 f16 f18 f19 f20 f21 f22 f9 f6_c0 v:=by kernel_rfl
def C6_c1:T6_c1:=F6_c1 C12 C16 C18 C19 C20 C21 C22 C9 C6_c0
theorem k6_c1:FragOk prog 0 (λQ a w=>(subc (code f6) [1,1,1,1,1,1,1,1,1]).wp prog Q a w) (E6_c1 C6_c1) :=
 frag_code (ins:=m4v) (os:=m4r) (n:=(N6_c1 C6_c0)) (F:=C6_c1) hm hΓ kok6 (ann_obs (And.intro k6_c0 trivial) (by kernel_rfl)) (h6_c1 C12 C16 C18 C19 C20 C21 C22 C9 C6_c0)
def N6_c2(f6_c1:T6_c1):Ann:=(.cut .nil (E6_c1 f6_c1))
def F6_c2(f12:T12)(f16:T16)(f18:T18)(f19:T19)(f20:T20)(f21:T21)(f22:T22)(f9:T9)(f6_c1:T6_c1):Bool×Bool×Bool×Bool×Int×Bool×List UInt8×List UInt8×Bool×List UInt8×List UInt8×Bool×Bool×Int×List ((Int×(Int×(Int×(Int×(Int×Int))))))×List ((Int×(Int×(Int×Int))))×List ((Int×(Int×Int)))×Int×Bool×List UInt8×List UInt8×Bool×List UInt8×List UInt8×Bool×Bool×Int×Unit->Option (Bool×Unit):=λ(x0,x1,x2,x3,x4,x5,x6,x7,x8,x9,x10,x11,x12,x13,x14,x15,x16,x17,x18,x19,x20,x21,x22,x23,x24,x25,x26,_)=>bif(x1 && !x2)||(x24 && !x2)||(x25 && !x3)||(x1 && !x24)||(x11 && !x24)||(x12 && !x2 && !x25)||(x26 != 0)then some (false,())else(f6_c1 (x0,x2,x3,x4,x5,x6,x7,x8,x9,x10,x11,x12,x13,x14,x15,x16,x17,x18,x19,x20,x21,x22,x23,x24,x25,x26,())).bind λval=>some (val.1,())
def L6(x1 x2 x3 x11 x12 x24 x25:Bool):Prop:=∀(f12:T12) (f16:T16) (f18:T18) (f19:T19) (f20:T20) (f21:T21) (f22:T22) (f9:T9) (f6_c1:T6_c1) (x0:Bool) (x4:Int) (x5:Bool) (x6:List UInt8) (x7:List UInt8) (x8:Bool) (x9:List UInt8) (x10:List UInt8) (x13:Int) (x14:List ((Int×(Int×(Int×(Int×(Int×Int))))))) (x15:List ((Int×(Int×(Int×Int))))) (x16:List ((Int×(Int×Int)))) (x17:Int) (x18:Bool) (x19:List UInt8) (x20:List UInt8) (x21:Bool) (x22:List UInt8) (x23:List UInt8) (x26:Int),aev Γ (K6 f12 f16 f18 f19 f20 f21 f22 f9) 0 (subc (code f6) [1,1,1,1,1,1,1,1]) (N6_c2 f6_c1) (stof m5g (x0,x1,x2,x3,x4,x5,x6,x7,x8,x9,x10,x11,x12,x13,x14,x15,x16,x17,x18,x19,x20,x21,x22,x23,x24,x25,x26,())) (oout 0 m4r)=F6_c2 f12 f16 f18 f19 f20 f21 f22 f9 f6_c1 (x0,x1,x2,x3,x4,x5,x6,x7,x8,x9,x10,x11,x12,x13,x14,x15,x16,x17,x18,x19,x20,x21,x22,x23,x24,x25,x26,())
theorem q60:L6 false false false false false false false:=by unfold L6;intros;kernel_rfl
theorem q61:L6 false false false false false false true:=by unfold L6;intros;kernel_rfl
theorem q62:L6 false false false false false true false:=by unfold L6;intros;kernel_rfl
theorem q63:L6 false false false false false true true:=by unfold L6;intros;kernel_rfl
theorem q64:L6 false false false false true false false:=by unfold L6;intros;kernel_rfl
theorem q65:L6 false false false false true false true:=by unfold L6;intros;kernel_rfl
theorem q66:L6 false false false false true true false:=by unfold L6;intros;kernel_rfl
theorem q67:L6 false false false false true true true:=by unfold L6;intros;kernel_rfl
theorem q68:L6 false false false true false false false:=by unfold L6;intros;kernel_rfl
theorem q69:L6 false false false true false false true:=by unfold L6;intros;kernel_rfl
theorem n1i:L6 false false false true false true false:=by unfold L6;intros;kernel_rfl
theorem n1j:L6 false false false true false true true:=by unfold L6;intros;kernel_rfl
theorem n1k:L6 false false false true true false false:=by unfold L6;intros;kernel_rfl
theorem n1l:L6 false false false true true false true:=by unfold L6;intros;kernel_rfl
theorem n1m:L6 false false false true true true false:=by unfold L6;intros;kernel_rfl
theorem n1n:L6 false false false true true true true:=by unfold L6;intros;kernel_rfl
theorem n1o:L6 false false true false false false false:=by unfold L6;intros;kernel_rfl
theorem n1p:L6 false false true false false false true:=by unfold L6;intros;kernel_rfl
theorem n1q:L6 false false true false false true false:=by unfold L6;intros;kernel_rfl
theorem n1r:L6 false false true false false true true:=by unfold L6;intros;kernel_rfl
theorem n1s:L6 false false true false true false false:=by unfold L6;intros;kernel_rfl
theorem n1t:L6 false false true false true false true:=by unfold L6;intros;kernel_rfl
theorem n1u:L6 false false true false true true false:=by unfold L6;intros;kernel_rfl
theorem n1v:L6 false false true false true true true:=by unfold L6;intros;kernel_rfl
theorem n1w:L6 false false true true false false false:=by unfold L6;intros;kernel_rfl
theorem n1x:L6 false false true true false false true:=by unfold L6;intros;kernel_rfl
theorem n1y:L6 false false true true false true false:=by unfold L6;intros;kernel_rfl
theorem n1z:L6 false false true true false true true:=by unfold L6;intros;kernel_rfl
theorem n2a:L6 false false true true true false false:=by unfold L6;intros;kernel_rfl
theorem n2b:L6 false false true true true false true:=by unfold L6;intros;kernel_rfl
theorem n2c:L6 false false true true true true false:=by unfold L6;intros;kernel_rfl
theorem n2d:L6 false false true true true true true:=by unfold L6;intros;kernel_rfl
theorem n2e:L6 false true false false false false false:=by unfold L6;intros;kernel_rfl
theorem n2f:L6 false true false false false false true:=by unfold L6;intros;kernel_rfl
theorem n2g:L6 false true false false false true false:=by unfold L6;intros;kernel_rfl
theorem n2h:L6 false true false false false true true:=by unfold L6;intros;kernel_rfl
theorem n2i:L6 false true false false true false false:=by unfold L6;intros;kernel_rfl
theorem n2j:L6 false true false false true false true:=by unfold L6;intros;kernel_rfl
theorem n2k:L6 false true false false true true false:=by unfold L6;intros;kernel_rfl
theorem n2l:L6 false true false false true true true:=by unfold L6;intros;kernel_rfl
theorem n2m:L6 false true false true false false false:=by unfold L6;intros;kernel_rfl
theorem n2n:L6 false true false true false false true:=by unfold L6;intros;kernel_rfl
theorem n2o:L6 false true false true false true false:=by unfold L6;intros;kernel_rfl
theorem n2p:L6 false true false true false true true:=by unfold L6;intros;kernel_rfl
theorem n2q:L6 false true false true true false false:=by unfold L6;intros;kernel_rfl
theorem n2r:L6 false true false true true false true:=by unfold L6;intros;kernel_rfl
theorem n2s:L6 false true false true true true false:=by unfold L6;intros;kernel_rfl
theorem n2t:L6 false true false true true true true:=by unfold L6;intros;kernel_rfl
theorem n2u:L6 false true true false false false false:=by unfold L6;intros;kernel_rfl
theorem n2v:L6 false true true false false false true:=by unfold L6;intros;kernel_rfl
theorem n2w:L6 false true true false false true false:=by unfold L6;intros;kernel_rfl
theorem n2x:L6 false true true false false true true:=by unfold L6;intros;kernel_rfl
theorem n2y:L6 false true true false true false false:=by unfold L6;intros;kernel_rfl
theorem n2z:L6 false true true false true false true:=by unfold L6;intros;kernel_rfl
theorem n3a:L6 false true true false true true false:=by unfold L6;intros;kernel_rfl
theorem n3b:L6 false true true false true true true:=by unfold L6;intros;kernel_rfl
theorem n3c:L6 false true true true false false false:=by unfold L6;intros;kernel_rfl
theorem n3d:L6 false true true true false false true:=by unfold L6;intros;kernel_rfl
theorem n3e:L6 false true true true false true false:=by unfold L6;intros;kernel_rfl
theorem n3f:L6 false true true true false true true:=by unfold L6;intros;kernel_rfl
theorem n3g:L6 false true true true true false false:=by unfold L6;intros;kernel_rfl
theorem n3h:L6 false true true true true false true:=by unfold L6;intros;kernel_rfl
theorem n3i:L6 false true true true true true false:=by unfold L6;intros;kernel_rfl
theorem n3j:L6 false true true true true true true:=by unfold L6;intros;kernel_rfl
theorem n3k:L6 true false false false false false false:=by unfold L6;intros;kernel_rfl
theorem n3l:L6 true false false false false false true:=by unfold L6;intros;kernel_rfl
theorem n3m:L6 true false false false false true false:=by unfold L6;intros;kernel_rfl
theorem n3n:L6 true false false false false true true:=by unfold L6;intros;kernel_rfl
theorem n3o:L6 true false false false true false false:=by unfold L6;intros;kernel_rfl
theorem n3p:L6 true false false false true false true:=by unfold L6;intros;kernel_rfl
theorem n3q:L6 true false false false true true false:=by unfold L6;intros;kernel_rfl
theorem n3r:L6 true false false false true true true:=by unfold L6;intros;kernel_rfl
theorem n3s:L6 true false false true false false false:=by unfold L6;intros;kernel_rfl
theorem n3t:L6 true false false true false false true:=by unfold L6;intros;kernel_rfl
theorem n3u:L6 true false false true false true false:=by unfold L6;intros;kernel_rfl
theorem n3v:L6 true false false true false true true:=by unfold L6;intros;kernel_rfl
theorem n3w:L6 true false false true true false false:=by unfold L6;intros;kernel_rfl
theorem n3x:L6 true false false true true false true:=by unfold L6;intros;kernel_rfl
theorem n3y:L6 true false false true true true false:=by unfold L6;intros;kernel_rfl
theorem n3z:L6 true false false true true true true:=by unfold L6;intros;kernel_rfl
theorem n4a:L6 true false true false false false false:=by unfold L6;intros;kernel_rfl
theorem n4b:L6 true false true false false false true:=by unfold L6;intros;kernel_rfl
theorem n4c:L6 true false true false false true false:=by unfold L6;intros;kernel_rfl
theorem n4d:L6 true false true false false true true:=by unfold L6;intros;kernel_rfl
theorem n4e:L6 true false true false true false false:=by unfold L6;intros;kernel_rfl
theorem n4f:L6 true false true false true false true:=by unfold L6;intros;kernel_rfl
theorem n4g:L6 true false true false true true false:=by unfold L6;intros;kernel_rfl
theorem n4h:L6 true false true false true true true:=by unfold L6;intros;kernel_rfl
theorem n4i:L6 true false true true false false false:=by unfold L6;intros;kernel_rfl
theorem n4j:L6 true false true true false false true:=by unfold L6;intros;kernel_rfl
theorem n4k:L6 true false true true false true false:=by unfold L6;intros;kernel_rfl
theorem n4l:L6 true false true true false true true:=by unfold L6;intros;kernel_rfl
theorem n4m:L6 true false true true true false false:=by unfold L6;intros;kernel_rfl
theorem n4n:L6 true false true true true false true:=by unfold L6;intros;kernel_rfl
theorem n4o:L6 true false true true true true false:=by unfold L6;intros;kernel_rfl
theorem n4p:L6 true false true true true true true:=by unfold L6;intros;kernel_rfl
theorem n4q:L6 true true false false false false false:=by unfold L6;intros;kernel_rfl
theorem n4r:L6 true true false false false false true:=by unfold L6;intros;kernel_rfl
theorem n4s:L6 true true false false false true false:=by unfold L6;intros;kernel_rfl
theorem n4t:L6 true true false false false true true:=by unfold L6;intros;kernel_rfl
theorem n0d:L6 true true false false true false false:=by unfold L6;intros;kernel_rfl
theorem n0e:L6 true true false false true false true:=by unfold L6;intros;kernel_rfl
theorem n0f:L6 true true false false true true false:=by unfold L6;intros;kernel_rfl
theorem n0g:L6 true true false false true true true:=by unfold L6;intros;kernel_rfl
theorem n0h:L6 true true false true false false false:=by unfold L6;intros;kernel_rfl
theorem n0i:L6 true true false true false false true:=by unfold L6;intros;kernel_rfl
theorem n0j:L6 true true false true false true false:=by unfold L6;intros;kernel_rfl
theorem n0k:L6 true true false true false true true:=by unfold L6;intros;kernel_rfl
theorem n0l:L6 true true false true true false false:=by unfold L6;intros;kernel_rfl
theorem n0m:L6 true true false true true false true:=by unfold L6;intros;kernel_rfl
theorem n0n:L6 true true false true true true false:=by unfold L6;intros;kernel_rfl
theorem n0o:L6 true true false true true true true:=by unfold L6;intros;kernel_rfl
theorem n0p:L6 true true true false false false false:=by unfold L6;intros;kernel_rfl
theorem n0q:L6 true true true false false false true:=by unfold L6;intros;kernel_rfl
theorem n0r:L6 true true true false false true false:=by unfold L6;intros;kernel_rfl
theorem n0s:L6 true true true false false true true:=by unfold L6;intros;kernel_rfl
theorem n0t:L6 true true true false true false false:=by unfold L6;intros;kernel_rfl
theorem n0u:L6 true true true false true false true:=by unfold L6;intros;kernel_rfl
theorem n0v:L6 true true true false true true false:=by unfold L6;intros;kernel_rfl
theorem n0w:L6 true true true false true true true:=by unfold L6;intros;kernel_rfl
theorem n0x:L6 true true true true false false false:=by unfold L6;intros;kernel_rfl
theorem n0y:L6 true true true true false false true:=by unfold L6;intros;kernel_rfl
theorem n0z:L6 true true true true false true false:=by unfold L6;intros;kernel_rfl
theorem n1a:L6 true true true true false true true:=by unfold L6;intros;kernel_rfl
theorem n1b:L6 true true true true true false false:=by unfold L6;intros;kernel_rfl
theorem n1c:L6 true true true true true false true:=by unfold L6;intros;kernel_rfl
theorem n1d:L6 true true true true true true false:=by unfold L6;intros;kernel_rfl
theorem n1e:L6 true true true true true true true:=by unfold L6;intros;kernel_rfl
theorem vl{P:Bool->Prop}(h:P false)(h1:P true):∀b,P b:=λb=>match b with|false=>h|true=>h1
theorem n1f:∀x1 x2 x3 x11 x12 x24 x25,L6 x1 x2 x3 x11 x12 x24 x25 :=
 (vl (vl (vl (vl (vl (vl (vl q60 q61) (vl q62 q63)) (vl (vl q64 q65) (vl q66 q67))) (vl (vl (vl q68 q69) (vl n1i n1j)) (vl (vl n1k n1l) (vl n1m n1n)))) (vl (vl (vl (vl n1o n1p) (vl n1q n1r)) (vl (vl n1s n1t) (vl n1u n1v))) (vl (vl (vl n1w n1x) (vl n1y n1z)) (vl (vl n2a n2b) (vl n2c n2d))))) (vl (vl (vl (vl (vl n2e n2f) (vl n2g n2h)) (vl (vl n2i n2j) (vl n2k n2l))) (vl (vl (vl n2m n2n) (vl n2o n2p)) (vl (vl n2q n2r) (vl n2s n2t)))) (vl (vl (vl (vl n2u n2v) (vl n2w n2x)) (vl (vl n2y n2z) (vl n3a n3b))) (vl (vl (vl n3c n3d) (vl n3e n3f)) (vl (vl n3g n3h) (vl n3i n3j)))))) (vl (vl (vl (vl (vl (vl n3k n3l) (vl n3m n3n)) (vl (vl n3o n3p) (vl n3q n3r))) (vl (vl (vl n3s n3t) (vl n3u n3v)) (vl (vl n3w n3x) (vl n3y n3z)))) (vl (vl (vl (vl n4a n4b) (vl n4c n4d)) (vl (vl n4e n4f) (vl n4g n4h))) (vl (vl (vl n4i n4j) (vl n4k n4l)) (vl (vl n4m n4n) (vl n4o n4p))))) (vl (vl (vl (vl (vl n4q n4r) (vl n4s n4t)) (vl (vl n0d n0e) (vl n0f n0g))) (vl (vl (vl n0h n0i) (vl n0j n0k)) (vl (vl n0l n0m) (vl n0n n0o)))) (vl (vl (vl (vl n0p n0q) (vl n0r n0s)) (vl (vl n0t n0u) (vl n0v n0w))) (vl (vl (vl n0x n0y) (vl n0z n1a)) (vl (vl n1b n1c) (vl n1d n1e)))))))
theorem h6_c2(f12:T12)(f16:T16)(f18:T18)(f19:T19)(f20:T20)(f21:T21)(f22:T22)(f9:T9)(f6_c1:T6_c1)(v:HS m5g):aev Γ (K6 f12 f16 f18 f19 f20 f21 f22 f9) 0 (subc (code f6) [1,1,1,1,1,1,1,1]) (N6_c2 f6_c1) (stof m5g v) (oout 0 m4r)=F6_c2 f12 f16 f18 f19 f20 f21 f22 f9 f6_c1 v:=by
 obtain⟨x0,x1,x2,x3,x4,x5,x6,x7,x8,x9,x10,x11,x12,x13,x14,x15,x16,x17,x18,x19,x20,x21,x22,x23,x24,x25,x26,u⟩:=v;exact n1f x1 x2 x3 x11 x12 x24 x25 f12 f16 f18 f19 f20 f21 f22 f9 f6_c1 x0 x4 x5 x6 x7 x8 x9 x10 x13 x14 x15 x16 x17 x18 x19 x20 x21 x22 x23 x26
def C6_c2:T6_c2:=F6_c2 C12 C16 C18 C19 C20 C21 C22 C9 C6_c1
theorem k6_c2:FragOk prog 0 (λQ a w=>(subc (code f6) [1,1,1,1,1,1,1,1]).wp prog Q a w) (E6_c2 C6_c2) :=
 frag_code (ins:=m5g) (os:=m4r) (n:=(N6_c2 C6_c1)) (F:=C6_c2) hm hΓ kok6 (ann_obs (And.intro k6_c1 trivial) (by kernel_rfl)) (h6_c2 C12 C16 C18 C19 C20 C21 C22 C9 C6_c1)
def N6_c3(f6_c2:T6_c2):Ann:=(.cut .nil (E6_c2 f6_c2))
def F6_c3(f12:T12)(f16:T16)(f18:T18)(f19:T19)(f20:T20)(f21:T21)(f22:T22)(f9:T9)(f6_c2:T6_c2):Bool×Bool×Bool×Int×Bool×List UInt8×List UInt8×Bool×List UInt8×List UInt8×Bool×Bool×Int×List ((Int×(Int×(Int×(Int×(Int×Int))))))×List ((Int×(Int×(Int×Int))))×List ((Int×(Int×Int)))×Int×Bool×List UInt8×List UInt8×Bool×List UInt8×List UInt8×Bool×Bool×Int×Unit->Option (Bool×Unit):=λ(x0,x1,x2,x3,x4,x5,x6,x7,x8,x9,x10,x11,x12,x13,x14,x15,x16,x17,x18,x19,x20,x21,x22,x23,x24,x25,_)=>(f18 (x17,x18,x19,())).bind λval=>(f12 (val.fst,())).bind λval=>bif decide (val.fst>=0)then(f6_c2 (x0,true,x1,x2,x3,x4,x5,x6,x7,x8,x9,x10,x11,x12,x13,x14,x15,x16,x17,x18,x19,x20,x21,x22,x23,x24,x25,())).bind λval=>some (val.fst,())else(f18 (x20,x21,x22,())).bind λval=>(f12 (val.fst,())).bind λval=>(f6_c2 (x0,decide (val.fst>=0),x1,x2,x3,x4,x5,x6,x7,x8,x9,x10,x11,x12,x13,x14,x15,x16,x17,x18,x19,x20,x21,x22,x23,x24,x25,())).bind λval=>some (val.fst,())
theorem h6_c3(f12:T12)(f16:T16)(f18:T18)(f19:T19)(f20:T20)(f21:T21)(f22:T22)(f9:T9)(f6_c2:T6_c2)(v:HS m4v):aev Γ (K6 f12 f16 f18 f19 f20 f21 f22 f9) 0 (subc (code f6) [1,1,1,1,1,1,1]) (N6_c3 f6_c2) (stof m4v v) (oout 0 m4r)=F6_c3 f12 f16 f18 f19 f20 f21 f22 f9 f6_c2 v:=by kernel_rfl
def C6_c3:T6_c3:=F6_c3 C12 C16 C18 C19 C20 C21 C22 C9 C6_c2
theorem k6_c3:FragOk prog 0 (λQ a w=>(subc (code f6) [1,1,1,1,1,1,1]).wp prog Q a w) (E6_c3 C6_c3) :=
 frag_code (ins:=m4v) (os:=m4r) (n:=(N6_c3 C6_c2)) (F:=C6_c3) hm hΓ kok6 (ann_obs (And.intro k6_c2 trivial) (by kernel_rfl)) (h6_c3 C12 C16 C18 C19 C20 C21 C22 C9 C6_c2)
def N6_c4(f6_c3:T6_c3):Ann:=(.seq .nil (.cut .nil (E6_c3 f6_c3)))
def F6_c4(f12:T12)(f16:T16)(f18:T18)(f19:T19)(f20:T20)(f21:T21)(f22:T22)(f9:T9)(f6_c3:T6_c3):Bool×Bool×Bool×Int×Bool×List UInt8×List UInt8×Bool×List UInt8×List UInt8×Bool×Bool×Int×List ((Int×(Int×(Int×(Int×(Int×Int))))))×List ((Int×(Int×(Int×Int))))×List ((Int×(Int×Int)))×Unit->Option (Bool×Unit):=λ(x0,x1,x2,x3,x4,x5,x6,x7,x8,x9,x10,x11,x12,x13,x14,x15,_)=>(f22 (x13,x14,x15,x1,x2,x3,x4,x5,x6,x7,x8,x9,x10,x11,x12,())).bind λval=>bif val.fst==2 then bif x0 then bif decide (val.snd.snd.snd.snd.snd.snd.snd.snd.snd.fst>0)then bif val.snd.fst==false&&(val.snd.snd.fst==[]&&(val.snd.snd.snd.fst==[]&&true)&&true)then bif val.snd.snd.snd.snd.fst==false&&(val.snd.snd.snd.snd.snd.fst==[]&&(val.snd.snd.snd.snd.snd.snd.fst==[]&&true)&&true)then bif !val.snd.snd.snd.snd.snd.snd.snd.fst then some (bif val.snd.snd.snd.snd.snd.snd.snd.snd.fst then false else true,())else some (false,())else some (false,())else some (false,())else some (false,())else some (false,())else(f6_c3 (x0,x1,x2,x3,x4,x5,x6,x7,x8,x9,x10,x11,x12,x13,x14,x15,val.fst,val.snd.fst,val.snd.snd.fst,val.snd.snd.snd.fst,val.snd.snd.snd.snd.fst,val.snd.snd.snd.snd.snd.fst,val.snd.snd.snd.snd.snd.snd.fst,val.snd.snd.snd.snd.snd.snd.snd.fst,val.snd.snd.snd.snd.snd.snd.snd.snd.fst,val.snd.snd.snd.snd.snd.snd.snd.snd.snd.fst,())).bind λval=>some (val.fst,())
theorem h6_c4(f12:T12)(f16:T16)(f18:T18)(f19:T19)(f20:T20)(f21:T21)(f22:T22)(f9:T9)(f6_c3:T6_c3)(v:HS m5t):aev Γ (K6 f12 f16 f18 f19 f20 f21 f22 f9) 0 (subc (code f6) [1,1,1,1,1]) (N6_c4 f6_c3) (stof m5t v) (oout 0 m4r)=F6_c4 f12 f16 f18 f19 f20 f21 f22 f9 f6_c3 v:=by kernel_rfl
def C6_c4:T6_c4:=F6_c4 C12 C16 C18 C19 C20 C21 C22 C9 C6_c3
theorem k6_c4:FragOk prog 0 (λQ a w=>(subc (code f6) [1,1,1,1,1]).wp prog Q a w) (E6_c4 C6_c4) :=
 frag_code (ins:=m5t) (os:=m4r) (n:=(N6_c4 C6_c3)) (F:=C6_c4) hm hΓ kok6 (ann_obs (And.intro k6_c3 trivial) (by kernel_rfl)) (h6_c4 C12 C16 C18 C19 C20 C21 C22 C9 C6_c3)
def N6(f6_c4:T6_c4):Ann:=(.seq .nil (.seq .nil (.seq .nil (.seq .nil (.cut .nil (E6_c4 f6_c4))))))
def F6(f12:T12)(f16:T16)(f18:T18)(f19:T19)(f20:T20)(f21:T21)(f22:T22)(f9:T9)(f6_c4:T6_c4):Bool×Bool×Int×Bool×List UInt8×List UInt8×Bool×List UInt8×List UInt8×Bool×Bool×Int×Unit->Option (Bool×Unit):=λ(x0,x1,x2,x3,x4,x5,x6,x7,x8,x9,x10,x11,_)=>(f20 ()).bind λval=>(f21 (x3,x4,x5,x6,x7,x8,x9,x10,x11,())).bind λval_1=>(f9 ()).bind λval_2=>bif !val_1.fst then some (val.fst,())else(f16 (val_2.fst,val_2.snd.fst,val_2.snd.snd.fst,x3,x4,x5,())).bind λval_3=>bif val_3.fst != 0 then some (val.fst,())else(f16 (val_2.fst,val_2.snd.fst,val_2.snd.snd.fst,x6,x7,x8,())).bind λval_4=>bif val_4.fst != 0 then some (val.fst,())else(f6_c4 (val.fst,x0,x1,x2,x3,x4,x5,x6,x7,x8,x9,x10,x11,val_2.fst,val_2.snd.fst,val_2.snd.snd.fst,())).bind λval=>some (val.fst,())
theorem h6(f12:T12)(f16:T16)(f18:T18)(f19:T19)(f20:T20)(f21:T21)(f22:T22)(f9:T9)(f6_c4:T6_c4)(v:HS m5r):afun Γ (K6 f12 f16 f18 f19 f20 f21 f22 f9) 0 f6.ntmps f6.results.toList (code f6) (N6 f6_c4) (em id m5r v).1 (em id m5r v).2 (ofin 0 Lo29)=F6 f12 f16 f18 f19 f20 f21 f22 f9 f6_c4 v:=by kernel_rfl
def C6:T6:=F6 C12 C16 C18 C19 C20 C21 C22 C9 C6_c4
theorem ok6:FnOk prog 6 (E6 C6) :=
 fn_ok (n:=(N6 C6_c4)) hm hΓ kok6 func6 (c:=code f6) (by kernel_rfl) (name_ne (by kernel_rfl)) (ann_obs (And.intro k6_c4 trivial) (by kernel_rfl)) (λv=>Nat.le_of_ble_eq_true (by kernel_rfl)) (h6 C12 C16 C18 C19 C20 C21 C22 C9 C6_c4)
theorem n0b(n:Bool)(a b:List UInt8)(n':Bool)(a' b':List UInt8)(hd bd:Bool)(z:Int):∃f,C21 (n,a,b,n',a',b',hd,bd,z,())=some (f,())/\(f=true->(a.length<=150/\b.length<=200)/\a'.length<=150/\b'.length<=200):=by
 obtain⟨f1,e1,h1⟩:=few8 a b;obtain⟨f2,e2,h2⟩:=few8 a' b';refine⟨f1&&f2,?_,λh => ?_⟩
 . show F21 C8 _=_
   simp only[F21,e1,e2,Option.bind_some];cases f1<;>rfl
 . simp only[and_eq_true]at h
   exact⟨h1 h.1,h2 h.2⟩
section
variable {T:List R6} {A:List R4} {B:List R3}
theorem s60(U E:Bool)(Z:Int)(n:Bool)(a b:List UInt8)(n':Bool)(a' b':List UInt8)(hd bd:Bool)(by':Int)(k:Int)(y y':List UInt8)(u8 e8:Bool)(same:Bool)(h1:C19 (T,A,B,n,a,y,n,a,b,())=some (true,()))(h2:C19 (T,A,B,n',a',y',n',a',b',())=some (true,()))(hk:same=(k==0))(hz:Z>0->by'<=Z) :
 C6_c0 (true,same,U,E,Z,n,a,b,n',a',b',hd,bd,by',T,A,B,k,n,a,y,n',a',y',u8,e8,0,())=some (true,()):=by
 show F6_c0 C12 C16 C18 C19 C20 C21 C22 C9 _=_;simp only[F6_c0,cond_true,h1,h2,Option.bind_some,hk,beq_self_eq_true];by_cases h:Z<=0
 . rw[decide_eq_true h];rfl
 . rw[decide_eq_false h,decide_eq_true (hz (by omega))];rfl
theorem s61(U E:Bool)(Z:Int)(n:Bool)(a b:List UInt8)(n':Bool)(a' b':List UInt8)(hd bd:Bool)(by':Int)(y y':List UInt8)(u8 e8:Bool)(h1:C19 (T,A,B,n,a,y,n,a,b,())=some (true,()))(h2:C19 (T,A,B,n',a',y',n',a',b',())=some (true,()))(hz:Z>0->by'<=Z) :
 C6_c1 (true,U,E,Z,n,a,b,n',a',b',hd,bd,by',T,A,B,(bif decide (y=b)&&decide (y'=b')then 0 else 1),n,a,y,n',a',y',u8,e8,0,())=some (true,()):=by
 show F6_c1 C12 C16 C18 C19 C20 C21 C22 C9 C6_c0 _=_;by_cases c1:y=b
 . subst c1
   by_cases c2:y'=b'
   . subst c2
     have:=s60 (T:=T) (A:=A) (B:=B) U E Z n a y n' a' y' hd bd by' 0 y y' u8 e8 true h1 h2 rfl hz;simp only[F6_c1,decide_true,Bool.and_self,cond_true,beq_self_eq_true,Bool.and_true,this,Option.bind_some]
   . have:=s60 (T:=T) (A:=A) (B:=B) U E Z n a y n' a' b' hd bd by' 1 y y' u8 e8 false h1 h2 rfl hz
     simp only[F6_c1,decide_true,decide_eq_false c2,Bool.and_false,cond_false,beq_self_eq_true,Bool.and_self,Bool.and_true,cond_true,beq_eq_false_iff_ne.2 c2,this,Option.bind_some]
 . have:=s60 (T:=T) (A:=A) (B:=B) U E Z n a b n' a' b' hd bd by' 1 y y' u8 e8 false h1 h2 rfl hz
   simp only[F6_c1,decide_eq_false c1,Bool.false_and,cond_false,beq_self_eq_true,Bool.and_self,Bool.and_true,beq_eq_false_iff_ne.2 c1,Bool.and_false,this,Option.bind_some]
theorem s62(wd U E:Bool)(Z:Int)(n:Bool)(a b:List UInt8)(n':Bool)(a' b':List UInt8)(hd bd:Bool)(by':Int)(y y':List UInt8)(u8:Bool)(h1:C19 (T,A,B,n,a,y,n,a,b,())=some (true,()))(h2:C19 (T,A,B,n',a',y',n',a',b',())=some (true,()))(hz:Z>0->by'<=Z)(hu:u8=true->U=true)(hw:u8=false->wd=false/\hd=false)(hb:bd=true->U=true\/E=true) :
 C6_c2 (true,wd,U,E,Z,n,a,b,n',a',b',hd,bd,by',T,A,B,(bif decide (y=b)&&decide (y'=b')then 0 else 1),n,a,y,n',a',y',u8,bd&&E,0,())=some (true,()):=by
 show F6_c2 C12 C16 C18 C19 C20 C21 C22 C9 C6_c1 _=_;have h61:=s61 (T:=T) (A:=A) (B:=B) U E Z n a b n' a' b' hd bd by' y y' u8 (bd&&E) h1 h2 hz;have hc:((wd && !U)||(u8 && !U)||((bd&&E) && !E)||(wd && !u8)||(hd && !u8)||(bd && !U && !(bd&&E))||((0:Int) != 0))=false:=by
  cases u8 with
  | true =>
   have:=hu rfl;subst this;cases wd<;>cases bd<;>cases E<;>cases hd<;>rfl
  | false =>
   obtain⟨rfl,rfl⟩:=hw rfl;cases bd with
   | false=>cases U<;>rfl
   | true =>
    cases U with
    | true=>cases E<;>rfl
    | false =>
     cases E with
     | true=>rfl
     | false=>rcases hb rfl with h|h<;>cases h
 simp only[F6_c2,hc,cond_false,h61,Option.bind_some]
theorem s64(hT:TK T A B)(hK:KT T A B)(hL:LN B)(hC:LC T A B)(U E:Bool)(Z:Int)(n:Bool)(a b:List UInt8)(n':Bool)(a' b':List UInt8)(hd bd:Bool)(by':Int)(ha:a.length<=1000)(hb:b.length<=400)(ha':a'.length<=1000)(hb':b'.length<=400)(h20:C16 (T,A,B,n,a,b,())=some (0,()))(h20':C16 (T,A,B,n',a',b',())=some (0,())) :
 C6_c4 (true,U,E,Z,n,a,b,n',a',b',hd,bd,by',T,A,B,())=some (true,()):=by
 obtain⟨t,e17,ht⟩:=c17v hT hK hL hC U E Z n a b n' a' b' hd bd by' ha hb ha' hb' h20 h20';show F6_c4 C12 C16 C18 C19 C20 C21 C22 C9 C6_c3 _=_;rcases ht with⟨st,hst,rfl⟩|⟨⟨y,y',u8,rfl,h1,h2,hn,hn',hy4,hy4',hu,hw⟩,hbd,hz⟩
 . simp only[F6_c4,e17,Option.bind_some]
   rw[decide_eq_true hst];rfl
 . obtain⟨z,e22,hza,hzl⟩:=k22 n a y ha hy4 hn
   obtain⟨z',e22',hza',hzl'⟩:=k22 n' a' y' ha' hy4' hn';obtain⟨p,h21,hp,hp'⟩:=e21 z (by omega);obtain⟨p',h21',hp2,hp2'⟩:=e21 z' (by omega);have h63:C6_c3 (true,U,E,Z,n,a,b,n',a',b',hd,bd,by',T,A,B,(bif decide (y=b)&&decide (y'=b')then 0 else 1),n,a,y,n',a',y',u8,bd&&E,0,())=some (true,()):=by
    show F6_c3 C12 C16 C18 C19 C20 C21 C22 C9 C6_c2 _=_;simp only[F6_c3,e22,h21,Option.bind_some];by_cases q:p>=0
    . have hnu:u8=true:=by
       cases u8 with
       | true=>rfl
       | false =>
        obtain⟨-,w1,w2,-,-⟩:=hw rfl;exact(hp' (by omega) (hza.2 ⟨w1,w2⟩)).elim
      rw[decide_eq_true q];simp only[cond_true,s62 (T:=T) (A:=A) (B:=B) true U E Z n a b n' a' b' hd bd by' y y' u8 h1 h2 hz hu (λh=>by rw[hnu]at h;cases h) hbd,Option.bind_some]
    . rw[decide_eq_false q]
      simp only[cond_false,e22',h21',Option.bind_some];rw[s62 (T:=T) (A:=A) (B:=B) (decide (p'>=0)) U E Z n a b n' a' b' hd bd by' y y' u8 h1 h2 hz hu (λh => ?_) hbd]
      . rfl
      . obtain⟨w0,-,-,w3,w4⟩:=hw h
        refine⟨decide_eq_false λq' => ?_,w0⟩;exact(hp2' (by omega) (hza'.2 ⟨w3,w4⟩)).elim
   simp only[F6_c4,e17,Option.bind_some];rw[show ((bif decide (y=b)&&decide (y'=b')then(0:Int)else 1)==2)=false by cases (decide (y=b)&&decide (y'=b'))<;>rfl];simp only[cond_false,h63,Option.bind_some]
end
theorem n0a(U E:Bool)(Z:Int)(n:Bool)(a b:List UInt8)(n':Bool)(a' b':List UInt8)(hd bd:Bool)(by':Int):C6 (U,E,Z,n,a,b,n',a',b',hd,bd,by',())=some (true,()):=by
 show F6 C12 C16 C18 C19 C20 C21 C22 C9 C6_c4 _=_;have h20:C20 ()=some (true,()):=rfl;obtain⟨f,hf,bf⟩:=n0b n a b n' a' b' hd bd by';obtain⟨T,A,B,h9,hT,hK,hL,hC⟩:=tabs;simp only[F6,h20,hf,h9,Option.bind_some];cases f with
 | false=>rfl
 | true =>
  obtain⟨⟨la,lb⟩,la',lb'⟩:=bf rfl;obtain⟨e1,g1⟩:=t20 hT n a b (by omega) (by omega);obtain⟨e2,g2⟩:=t20 hT n' a' b' (by omega) (by omega);simp only[Bool.not_true,cond_false,g1,Option.bind_some];by_cases z1:e1=0
  . subst z1
    rw[inF (rfl:(0:Int)=0)];simp only[cond_false,g2,Option.bind_some];by_cases z2:e2=0
    . subst z2
      rw[inF (rfl:(0:Int)=0)];simp only[cond_false,s64 hT hK hL hC U E Z n a b n' a' b' hd bd by' (by omega) (by omega) (by omega) (by omega) g1 g2,Option.bind_some]
    . rw[inT z2];rfl
  . rw[inT z1];rfl
end Go.Proofs.YtbifjondkjgkmaaGreatDoorA.W
namespace Go.Proofs.YtbifjondkjgkmaaGreatDoorA.PCapsSafe
open Go Go.Ae Go.Proofs.YtbifjondkjgkmaaGreatDoorA.W
theorem pure(x0:(Ty.pair .bool (.pair .bool (.int .i64))).den)(b0:Bd (Ty.pair .bool (.pair .bool (.int .i64))) x0)(x1:(Ty.pair (.pair .bool (.pair .str .str)) (.pair (.pair .bool (.pair .str .str)) (.pair .bool (.pair .bool (.int .i64))))).den)(b1:Bd (Ty.pair (.pair .bool (.pair .str .str)) (.pair (.pair .bool (.pair .str .str)) (.pair .bool (.pair .bool (.int .i64))))) x1) :
 C6 (x0.1,x0.2.1,x0.2.2,x1.1.1,x1.1.2.1,x1.1.2.2,x1.2.1.1,x1.2.1.2.1,x1.2.1.2.2,x1.2.2.1,x1.2.2.2.1,x1.2.2.2.2,())=some (true,()):=n0a _ _ _ _ _ _ _ _ _ _ _ _
end Go.Proofs.YtbifjondkjgkmaaGreatDoorA.PCapsSafe
namespace Go.Proofs.YtbifjondkjgkmaaGreatDoor
open Go Go.Ae Go.RowKit
theorem glob{W:World}{p:Prop}(hL:p)(hsh:W.ShapedOpen prog):GI W m0:=by
 obtain⟨m,hm⟩:=Go.Proofs.cell_of_shapedOpen_int (g:=0) (k := .i64) (t:=3) (zero := #[.int .i64 0]) hsh (of_decide_eq_true (by kernel_rfl)) (by kernel_rfl) (by kernel_rfl) (by kernel_rfl) (by kernel_rfl) (by kernel_rfl);refine⟨⟨m,hm⟩,λb hb=>⟨?_,λh=>h⟩⟩;simp only[GlobB,mem_cons,List.not_mem_nil,or_false]at hb;subst hb;exact lt_of_cell hm
end Go.Proofs.YtbifjondkjgkmaaGreatDoor
