/- The texts of the proof, one behind the other: PL5, PL6, PL7, PQ, PL8, PL9, PM1, PM2, PD0, PD1, PD2, PD3, PD4, PD5, PD6, PD7, PD8, PD9, PLT, PPN, PK1, PK2. -/
import Derived.Test.YtgkmfhhghcccjaaGreatDoorAMt6
import Derived.Test.YtgkmfhhghcccjaaGreatDoorAMt5
import Derived.Lib.IndexMore
open Bool (and_eq_true)
open Int (ediv_nonneg tdiv_eq_ediv_of_nonneg toNat_natCast)
open List (all_eq_true append_assoc append_nil countP_cons getElem_mem length_append length_cons length_drop length_nil length_set length_take mem_append mem_cons mem_cons_self mem_singleton take_of_length_le)
open Nat (le_refl zero_le)
open Option (bind_eq_some_iff map_some)
open Sum (elim_inl elim_inr)
set_option linter.unusedVariables false
set_option linter.unusedSimpArgs false
set_option maxRecDepth 100000
namespace Go.Proofs.YtgkmfhhghcccjaaGreatDoorA.W
open Go Go.Ae
def g1(o:Option (Int×Int×Unit)):Int:=match o with|some (n,_,_)=>n|none=>0
def g2(o:Option (Int×Int×Unit)):Int:=match o with|some (_,v,_)=>v|none=>0
def ok2(o:Option (Int×Int×Unit)):Bool:=match o with|some _=>true|none=>false
theorem ok2_some{o:Option (Int×Int×Unit)}(h:ok2 o=true):o=some (g1 o,g2 o,()):=by
 cases o with
 | none=>cases h
 | some x=>rfl
def leadN(c:UInt8):Int:=g1 (C95 ((c.toNat:Int),()))
def leadV(c:UInt8):Int:=g2 (C95 ((c.toNat:Int),()))
theorem c19k:((List.range 256).all λn=>(λc:UInt8=>ok2 (C95 ((c.toNat:Int),()))) (UInt8.ofNat n))=true:=by kernel_rfl
theorem c19(c:UInt8):C95 ((c.toNat:Int),())=some (leadN c,leadV c,()):=ok2_some (all256 (λc=>ok2 (C95 ((c.toNat:Int),()))) c19k c)
def rngB:Int->Bool
 | .ofNat n=>Nat.ble n 3
 | .negSucc n=>Nat.beq n 0
theorem lead_k:((List.range 256).all λn=>(λc:UInt8=>rngB (leadN c)) (UInt8.ofNat n))=true:=by kernel_rfl
theorem lead_rng(c:UInt8):leadN c = -1\/0<=leadN c/\leadN c<=3:=by
 have h:rngB (leadN c)=true:=all256 (λc=>rngB (leadN c)) lead_k c;generalize leadN c=x at h;cases x with
 | ofNat n=>have:=Nat.le_of_ble_eq_true h;right;simp;omega
 | negSucc n=>have:=Nat.eq_of_beq_eq_true h;subst this;left;rfl
def lenR(v:Int):Int:=match C96 (v,())with|some (n,_)=>n|none=>0
theorem c20(v:Int):C96 (v,())=some (lenR v,()):=by
 have h:∃n,C96 (v,())=some (n,()):=by
  show ∃n,F96 C125 (v,())=some (n,());have h29:∃b,C125 (v,())=some (b,()):=by
   simp only[C125,F125];cases decide (v>=0)<;>cases decide (v<=1114111)<;>cases decide (v>=55296)<;>exact⟨_,rfl⟩
  obtain⟨b,hb⟩:=h29;simp only[F96,hb,Option.bind_some];cases b<;>cases decide (v<=127)<;>cases decide (v<=2047)<;>cases decide (v<=65535)<;>exact⟨_,rfl⟩
 obtain⟨n,hn⟩:=h;rw[lenR,hn]
def contB(c:UInt8):Bool := !(intBits BinOp.andNot IntKind.u8 (c.toNat:Int) 63 != 128)
def stepV(v:Int)(c:UInt8):Int:=intBits BinOp.or IntKind.i32 (IntKind.i32.wrap (v*2^min 6 IntKind.i32.bits)) (IntKind.i32.wrap (intBits BinOp.and IntKind.u8 (c.toNat:Int) 63))
def conts:Nat->List UInt8->Int->Option Int
 | 0,_,v=>some v
 | _+1,[],_=>none
 | n+1,c::r,v=>bif contB c then conts n r (stepV v c)else none
def ch:List UInt8->Nat
 | []=>0
 | c::r=>if leadN c<0 then 0 else if r.length<(leadN c).toNat then 0 else
  match conts (leadN c).toNat r (leadV c)with
  | none=>0
  | some v=>if lenR v=leadN c+1 then(leadN c).toNat+1 else 0
theorem ch_le:∀s,ch s<=s.length
 | []=>le_refl _
 | c::r=>by
  simp only[ch,length_cons];split
  . omega
  . split
    . omega
    . split
      . omega
      . split<;>omega
def res0(s:List UInt8)(n a:Int)(out:List Int):Option Int->(List UInt8×Int×Int×Int×List Int×Unit)⊕(Int×List Int×Unit)
 | some v => .inl (s,n,v,a,out,())
 | none => .inr (a,out,())
theorem l150(a:Nat)(m:Nat)(out:List Int):∀(j:Nat) (r pre:List UInt8) (v:Int) (k n:Nat),pre.length=k->k+j=a+m+1->j<=r.length->j<n->k+r.length<=140737488355320->m<=3 ->
 loopN (F65_l0 C95 C96) n (pre++r,(m:Int),v,(a:Int),(k:Int),out,())=some (res0 (pre++r) m a out (conts j r v))
 | _,_,_,_,_,0,_,_,_,hn,_,_=>by omega
 | 0,r,pre,v,k,n+1,hk,hj,hr,hn,hb,hm=>by
  refine loopN_inr ?_;have h:IntKind.i64.wrap ((a:Int)+(m:Int))=(a:Int)+m:=wr (by omega) (by omega);simp (disch:=(first|omega|(simp only[qk];omega))) only[F65_l0,h,Sk,conts,res0]
 | j+1,[],pre,v,k,n+1,hk,hj,hr,hn,hb,hm=>by simp at hr
 | j+1,c::r,pre,v,k,n+1,hk,hj,hr,hn,hb,hm=>by
  simp only[length_cons]at hr hb;have h:IntKind.i64.wrap ((a:Int)+(m:Int))=(a:Int)+m:=wr (by omega) (by omega);cases hc:contB c with
  | true =>
   have hc':(intBits BinOp.andNot IntKind.u8 (c.toNat:Int) 63 != 128)=false:=by simpa[contB]using hc
   rw[loopN_inl (v':=(pre++c::r,(m:Int),stepV v c,(a:Int),((k+1:Nat):Int),out,())) (by
    simp (disch:=(first|omega|(simp only[qk];omega))) only[F65_l0,h,Sk,hc'];rfl)]
   rw[shift,l150 a m out j r (pre++[c]) (stepV v c) (k+1) n (by simp[hk]) (by omega) (by omega) (by omega) (by omega) hm];simp only[conts,hc,cond_true]
  | false =>
   have hc':(intBits BinOp.andNot IntKind.u8 (c.toNat:Int) 63 != 128)=true:=by simpa[contB]using hc
   refine loopN_inr ?_;simp (disch:=(first|omega|(simp only[qk];omega))) only[F65_l0,h,Sk,hc',conts,hc,res0]
def ut:Nat->List UInt8->Nat->Option Nat
 | 0,_,_=>none
 | n+1,s,p=>if s=[]then none else if ch s=0 then some p else ut n (s.drop (ch s)) (p+ch s)
def r15(out:List Int):Option Nat->(List Int×Unit)⊕(Int×List Int×Unit)
 | none => .inl (out,())
 | some b => .inr ((b:Int),out,())
theorem r151(c:UInt8)(r pre:List UInt8)(out:List Int)(p:Nat)(hp:pre.length=p)(hb:p+r.length<=140737488355000)(ho:out.length<=1000000000) :
 F65_l1 C95 C96 C65_l0 (pre++c::r,(p:Int),out,())=some (if ch (c::r)=0 then .inr (.inr ((p:Int),out,()))else
  .inl (pre++c::r,((p+ch (c::r):Nat):Int),out++[((conts (leadN c).toNat r (leadV c)).getD 0)],())):=by
 have hrng:=lead_rng c;by_cases h1:leadN c<0
 . have:ch (c::r)=0:=by simp[ch,h1]
   rw[if_pos this];simp (disch:=(first|omega|(simp only[qk];omega))) only[F65_l1,Sk,c19]
 . have hw:IntKind.i64.wrap (((pre.length+(r.length+1):Nat):Int)-(p:Int))=(r.length:Int)+1:=by rw[wr]<;>omega
   obtain⟨m,hm⟩:∃m:Nat,leadN c=m:=⟨(leadN c).toNat,by omega⟩
   by_cases h2:r.length<m
   . have:ch (c::r)=0:=by simp[ch,hm,h2]
     rw[if_pos this];simp (disch:=(first|omega|(simp only[qk];omega))) only[F65_l1,Sk,c19,hw,hm]
   . have hl:=l150 p m out m r (pre++[c]) (leadV c) (p+1) big (by simp[hp]) (by omega) (by omega) (by unfold big;omega) (by omega) (by omega)
     rw[<-shift]at hl;have hl':C65_l0 (pre++c::r,(m:Int),leadV c,(p:Int),((p+1:Nat):Int),out,())=_:=hl;cases hc:conts m r (leadV c)with
     | none =>
      have:ch (c::r)=0:=by simp[ch,hm,h2,hc]
      rw[if_pos this];simp (disch:=(first|omega|(simp only[qk];omega))) only[F65_l1,Sk,c19,hw,hm,hl',hc,res0]
     | some v =>
      have hw2:IntKind.i64.wrap ((m:Int)+1)=(m:Int)+1:=wr (by omega) (by omega);by_cases h3:lenR v=m+1
      . have hch:ch (c::r)=m+1:=by simp[ch,hm,h2,hc,h3]
        have hw3:IntKind.i64.wrap ((p:Int)+((m:Int)+1))=((p+(m+1):Nat):Int):=by rw[wr]<;>omega
        rw[if_neg (by omega),hch];simp (disch:=(first|omega|(simp only[qk];omega))) only[F65_l1,hw2,hw3,decide_eq_true,decide_eq_false,cond_true,cond_false,Bool.and_self,qk,toNat_natCast,inF,gd,Option.bind_some,elim_inl,wrN,c19,hw,hm,hl',hc,res0,c20,Option.getD_some]
      . have:ch (c::r)=0:=by simp[ch,hm,h2,hc,h3]
        rw[if_pos this];simp (disch:=(first|omega|(simp only[qk];omega))) only[F65_l1,hw2,Sk,c19,hw,hm,hl',hc,res0,c20]
theorem l151:∀(m:Nat) (r pre:List UInt8) (out:List Int) (p n:Nat),r.length<=m->pre.length=p->r.length<n->p+r.length<=140737488355000->out.length+r.length<=1000000000 ->
 ∃o,loopN (F65_l1 C95 C96 C65_l0) n (pre++r,(p:Int),out,())=some (r15 o (ut n r p))
 | _,_,_,_,_,0,_,_,hn,_,_=>by omega
 | m,[],pre,out,p,n+1,hm,hp,hn,hb,ho=>by
  refine⟨out,loopN_inr ?_⟩;simp (disch:=(first|omega|(simp only[qk];omega))) only[F65_l1,Sk,append_nil,ut,if_true,r15]
 | 0,c::r,pre,out,p,n+1,hm,hp,hn,hb,ho=>by simp at hm
 | m+1,c::r,pre,out,p,n+1,hm,hp,hn,hb,ho=>by
  simp only[length_cons]at hm hn hb ho;have hr:=r151 c r pre out p hp (by omega) (by omega);by_cases h:ch (c::r)=0
  . rw[if_pos h]at hr
    refine⟨out,?_⟩;rw[loopN_inr hr];simp[ut,h,r15]
  . rw[if_neg h]at hr
    have hle:=ch_le (c::r);simp only[length_cons]at hle;have hsplit:pre++c::r=(pre++(c::r).take (ch (c::r)))++(c::r).drop (ch (c::r)):=by rw[append_assoc,List.take_append_drop]
    obtain⟨o,ho'⟩:=l151 m ((c::r).drop (ch (c::r))) (pre++(c::r).take (ch (c::r))) (out++[((conts (leadN c).toNat r (leadV c)).getD 0)]) (p+ch (c::r)) n (by simp;omega) (by simp[hp];omega) (by simp;omega) (by simp;omega) (by simp;omega);refine⟨o,?_⟩;rw[loopN_inl hr];rw[<-hsplit]at ho';rw[ho'];simp[ut,h]
def utf(s:List UInt8):Option Nat:=ut big s 0
theorem c15(s:List UInt8)(hb:s.length<=1000000):∃o,C65 (s,())=some (o,(match utf s with|none => -1|some b=>(b:Int)),()):=by
 obtain⟨o,h⟩:=l151 s.length s [] [] 0 big (le_refl _) rfl (by unfold big;omega) (by omega) (by simp;omega);have h':C65_l1 (s,0,[],())=some (r15 o (utf s)):=h;refine⟨o,?_⟩;show F65 C95 C96 C65_g0 C65_l1 (s,())=_;have hg:∀(b:Int) (o:List Int),C65_g0 (b,o,())=some (b,o,()):=by
  intro b o;show loopN _ big _=_;rw[show big=999999999999999999999+1 from rfl];exact loopN_inr rfl
 simp only[F65,h',Option.bind_some];cases utf s<;>simp[r15,hg]
def Tk.up:Tk->Tk
 | .ok t u => .ok t (1+u)
 | .bad off e => .bad (1+off) e
 | .start => .start
def one(c:UInt8)(r:List UInt8):Int×Tk :=
 if atomB c=true then(0,.ok ((c::r).take (al (c::r))) (al (c::r)))
 else if signB c=true then(2,.ok [c] 1)
 else if c.toNat=34 then(1,(qt r).up)
 else if c.toNat=91 then(5,(ltk r).up)
 else if c.toNat=40 then(3,(nt 1 r).up)
 else if wl (c::r)=0 then(4,.start)else(4,.ok ((c::r).take (wl (c::r))) (wl (c::r)))
theorem fin_up(s:List UInt8)(p:Nat)(bad err:Int)(k:Tk):fin s p bad err (p+1) k=fin s p bad err p k.up:=by
 cases k<;>simp[fin,Tk.up,Nat.add_assoc]
def tkres(s:List UInt8)(p:Nat)(bad err:Int)(x:Int×Tk):Int×List UInt8×Int×List UInt8×Int×Int×Int×Unit :=
 (x.1,(fin s p bad err p x.2).1,(p:Int),(fin s p bad err p x.2).2)
theorem c16(pre r:List UInt8)(c:UInt8)(p:Nat)(bad err:Int)(hp:pre.length=p)(hb:p+r.length<=140737488354000) :
 C110 (pre++c::r,(p:Int),bad,err,())=some (tkres (pre++c::r) p bad err (one c r)):=by
 show F110 C133 C134 C135 C136 C137 C138 C139 C66 C110_c0 (pre++c::r,(p:Int),bad,err,())=_;have h21:=c21 pre (c::r) p bad err hp (by simp;omega);have h26:=c26 pre (c::r) p bad err hp (by simp;omega);have h23:=c23 pre r c p bad err hp (by omega);have h24:=c24 pre r c p bad err hp (by omega);unfold one;by_cases h1:atomB c=true
 . rw[if_pos h1]
   simp (disch:=(first|omega|(simp only[qk];omega))) only[F110,C110_c0,F110_c0,Sk,c17,h1,h21,tkres,fin]
 . rw[if_neg h1]
   have h1':atomB c=false:=by simpa using h1
   by_cases h2:signB c=true
   . rw[if_pos h2]
     have h2':signI c>=0:=by simpa[signB]using h2
     have ht:List.drop p (List.take (p+1) (pre++c::r))=[c]:=by rw[text_eq hp];rfl
     simp (disch:=(first|omega|(simp only[qk];omega))) only[F110,C110_c0,F110_c0,Sk,c17,h1',c22s,ht,tkres,fin]
   . rw[if_neg h2]
     have h2':¬signI c>=0:=by simpa[signB]using h2
     by_cases h3:c.toNat=34
     . rw[if_pos h3]
       rw[fin_up]at h23;simp (disch:=(first|omega|(simp only[qk];omega))) only[F110,C110_c0,F110_c0,Sk,c17,h1',c22s,h23,tkres]
     . rw[if_neg h3]
       by_cases h4:c.toNat=91
       . rw[if_pos h4]
         rw[fin_up]at h24;simp (disch:=(first|omega|(simp only[qk];omega))) only[F110,C110_c0,F110_c0,Sk,c17,h1',c22s,h24,tkres]
       . rw[if_neg h4]
         by_cases h5:c.toNat=40
         . rw[if_pos h5]
           have h25:=c25 pre r c p bad err h5 hp (by omega);rw[fin_up]at h25;simp (disch:=(first|omega|(simp only[qk];omega))) only[F110,C110_c0,F110_c0,Sk,c17,h1',c22s,h25,tkres]
         . rw[if_neg h5]
           by_cases h6:wl (c::r)=0
           . rw[if_pos h6]
             rw[h6]at h26;simp (disch:=(first|omega|(simp only[qk];omega))) only[F110,C110_c0,F110_c0,Sk,c17,h1',c22s,h26,tkres,fin,List.take_zero,c27,beq_self_eq_true,Nat.add_zero]
           . rw[if_neg h6]
             obtain⟨w,hw⟩:∃w,wl (c::r)=w+1:=⟨wl (c::r)-1,by omega⟩
             have hne:((c::r).take (wl (c::r))==[])=false:=by rw[hw];rfl
             simp (disch:=(first|omega|(simp only[qk];omega))) only[F110,C110_c0,F110_c0,Sk,c17,h1',c22s,h26,tkres,fin,hne]
abbrev Tok:=Int×(List UInt8×Int)
def lx:Nat->List UInt8->Nat->List Tok⊕(Nat×Int)
 | 0,_,_ => .inl []
 | n+1,s,p=>match s with
  | [] => .inl []
  | c::r=>match one c r with
   | (k,.ok t u)=>match lx n ((c::r).drop u) (p+u)with
    | .inl l => .inl ((k,t,(p:Int))::l)
    | .inr e => .inr e
   | (_,.bad off e) => .inr (p+off,e)
   | (_,.start) => .inr (p,4)
theorem qt_used:∀(m:Nat) {r t:List UInt8} {u:Nat},r.length<=m->qt r = .ok t u->t.length+1<=u/\u<=r.length
 | _,[],t,u,_,h=>by simp[qt]at h
 | 0,c::r,t,u,hm,h=>by simp at hm
 | m+1,c::r,t,u,hm,h=>by
  simp only[length_cons]at hm ⊢;by_cases e1:c.toNat=34
  . rw[qt_q e1]at h;cases h;simp
  . by_cases e2:c.toNat=92
    . match r,hm,h with
      | [],hm,h=>rw[qt_b0 e2]at h;cases h
      | d::r',hm,h =>
       rw[qt_b1 e2]at h;cases hd:mayB d<;>rw[hd]at h
       . cases h
       . obtain⟨t',u',h1,rfl,rfl⟩:=push_ok h
         have:=qt_used m (by simp at hm;omega) h1;simp;omega
    . rw[qt_c e1 e2]at h
      cases hd:mayB c<;>rw[hd]at h
      . cases h
      . obtain⟨t',u',h1,rfl,rfl⟩:=push_ok h
        have:=qt_used m (by omega) h1;simp;omega
theorem up_ok{k:Tk}{t:List UInt8}{u:Nat}(h:k.up = .ok t u):∃u',k = .ok t u'/\u=1+u':=by
 cases k<;>simp[Tk.up]at h
 obtain⟨rfl,rfl⟩:=h;exact⟨_,rfl,rfl⟩
theorem al_pos{c:UInt8}{r:List UInt8}(h:atomB c=true):1<=al (c::r):=by simp[al,h]
theorem one_used{c:UInt8}{r t:List UInt8}{k:Int}{u:Nat}(h:one c r=(k,.ok t u)):1<=u/\u<=r.length+1:=by
 unfold one at h;split at h
 . rename_i h1
   cases h;have:=al_le (c::r);exact⟨al_pos h1,by simpa using this⟩
 . split at h
   . cases h;exact⟨by omega,by omega⟩
   . split at h
     . obtain⟨u',h1,rfl⟩:=up_ok (Prod.mk.inj h).2
       have:=qt_used _ (le_refl _) h1;omega
     . split at h
       . obtain⟨u',h1,rfl⟩:=up_ok (Prod.mk.inj h).2
         have:=ltk_ok h1;omega
       . split at h
         . obtain⟨u',h1,rfl⟩:=up_ok (Prod.mk.inj h).2
           have:=nt_ok _ (le_refl _) h1;omega
         . split at h
           . cases h
           . rename_i h6
             cases h;have:=wl_le (c::r);exact⟨by omega,by simpa using this⟩
def rL11(out:List Tok):List Tok⊕(Nat×Int)->(List Tok×Unit)⊕(Int×Int×Unit)
 | .inl l => .inl (out++l,())
 | .inr (b,e) => .inr ((b:Int),e,())
def Tk.eok:Tk->Prop
 | .bad _ e=>e=4\/e=6
 | _=>True
theorem push_eok{k:Tk}{l:List UInt8}{n:Nat}(h:k.eok):(k.push l n).eok:=by cases k<;>first|exact h|exact trivial
theorem up_eok{k:Tk}(h:k.eok):k.up.eok:=by cases k<;>first|exact h|exact trivial
theorem qt_e:∀(m:Nat) (r:List UInt8),r.length<=m->(qt r).eok
 | _,[],_=>trivial
 | 0,c::r,hm=>by simp at hm
 | m+1,c::r,hm=>by
  simp only[length_cons]at hm;by_cases e1:c.toNat=34
  . rw[qt_q e1];trivial
  . by_cases e2:c.toNat=92
    . match r,hm with
      | [],hm=>rw[qt_b0 e2];trivial
      | d::r',hm =>
       rw[qt_b1 e2];cases mayB d
       . exact .inl rfl
       . exact push_eok (qt_e m r' (by simp at hm;omega))
    . rw[qt_c e1 e2]
      cases mayB c
      . exact .inl rfl
      . exact push_eok (qt_e m r (by omega))
theorem ltk_e:∀r:List UInt8,(ltk r).eok
 | []=>trivial
 | c::r=>by
  unfold ltk;split
  . trivial
  . split
    . exact .inl rfl
    . split
      . exact .inl rfl
      . cases blankB c
        . cases mayB c
          . exact .inl rfl
          . exact push_eok (ltk_e r)
        . exact .inl rfl
theorem nt_e:∀(m deep:Nat) (r:List UInt8),r.length<=m->(nt deep r).eok
 | _,_,[],_=>by simp[nt,Tk.eok]
 | 0,_,c::r,hm=>by simp at hm
 | m+1,deep,c::r,hm=>by
  simp only[length_cons]at hm;by_cases e1:c.toNat=40
  . rw[nt_o e1]
    split
    . exact .inr rfl
    . exact push_eok (nt_e m _ r (by omega))
  . by_cases e2:c.toNat=41
    . rw[nt_c e2]
      split
      . trivial
      . exact push_eok (nt_e m _ r (by omega))
    . by_cases e3:c.toNat=92
      . match r,hm with
        | [],hm=>rw[nt_b0 e3];trivial
        | d::r',hm =>
         rw[nt_b1 e3];cases mayB d
         . exact .inl rfl
         . exact push_eok (nt_e m _ r' (by simp at hm;omega))
      . rw[nt_m e1 e2 e3]
        cases mayB c
        . exact .inl rfl
        . exact push_eok (nt_e m _ r (by omega))
theorem one_e(c:UInt8)(r:List UInt8):(one c r).2.eok:=by
 unfold one;split
 . trivial
 . split
   . trivial
   . split
     . exact up_eok (qt_e _ r (le_refl _))
     . split
       . exact up_eok (ltk_e r)
       . split
         . exact up_eok (nt_e _ _ r (le_refl _))
         . split<;>trivial
theorem l11(s:List UInt8):∀(m:Nat) (r pre:List UInt8) (out:List Tok) (bad:Int) (p n:Nat),r.length<=m->s=pre++r->pre.length=p->r.length<n->p+r.length<=100000->out.length+r.length<=100000 ->
 loopN (F73_l0 C110 C65) n (s,out,s,(p:Int),bad,0,())=some (rL11 out (lx m r p))
 | _,_,_,_,_,_,0,_,_,_,hn,_,_=>by omega
 | 0,[],pre,out,bad,p,n+1,hm,hs,hp,hn,hb,ho=>by
  refine loopN_inr ?_;have:s.length=p:=by rw[hs];simp[hp]
  simp (disch:=(first|omega|(simp only[qk];omega))) only[F73_l0,this,Sk,lx,rL11,append_nil]
 | m+1,[],pre,out,bad,p,n+1,hm,hs,hp,hn,hb,ho=>by
  refine loopN_inr ?_;have:s.length=p:=by rw[hs];simp[hp]
  simp (disch:=(first|omega|(simp only[qk];omega))) only[F73_l0,this,Sk,lx,rL11,append_nil]
 | 0,c::r,pre,out,bad,p,n+1,hm,hs,hp,hn,hb,ho=>by simp at hm
 | m+1,c::r,pre,out,bad,p,n+1,hm,hs,hp,hn,hb,ho=>by
  simp only[length_cons]at hm hn hb ho;have h16:=c16 pre r c p bad 0 hp (by omega);have he:=one_e c r;rw[<-hs]at h16;have hl:s.length=p+(r.length+1):=by rw[hs];simp[hp]
  cases h1:one c r with
  | mk k tk =>
   rw[h1]at h16 he;cases tk with
   | ok t u =>
    have hu:=one_used h1;rw[loopN_inl (v':=(s,out++[(k,t,(p:Int))],s,((p+u:Nat):Int),bad,0,())) (by
     simp (disch:=(first|omega|(simp only[qk];omega))) only[F73_l0,hl,Sk,h16,tkres,fin])]
    have:=l11 s m ((c::r).drop u) (pre++(c::r).take u) (out++[(k,t,(p:Int))]) bad (p+u) n (by simp;omega) (by rw[hs,append_assoc,List.take_append_drop]) (by simp[hp];omega) (by simp;omega) (by simp;omega) (by simp;omega);rw[this];simp only[lx,h1];cases lx m ((c::r).drop u) (p+u)with
    | inl l=>simp[rL11]
    | inr e=>rfl
   | bad off e =>
    have he':e=4\/e=6:=he;refine loopN_inr ?_;simp (disch:=(first|omega|(simp only[qk];omega))) only[F73_l0,hl,Sk,h16,tkres,fin,lx,h1,rL11]
   | start =>
    refine loopN_inr ?_;simp (disch:=(first|omega|(simp only[qk];omega))) only[F73_l0,hl,Sk,h16,tkres,fin,lx,h1,rL11]
def lexs(s:List UInt8)(p:Nat):List Tok⊕(Nat×Int):=lx s.length s p
def end1:List Tok⊕(Nat×Int)->List Tok×Int×Int
 | .inl l=>(l,0,0)
 | .inr x=>([],(x.1:Int),x.2)
def end2:Option Nat->List Tok⊕(Nat×Int)->List Tok×Int×Int
 | some b,_=>([],(b:Int),7)
 | none,x=>end1 x
def lexR(s:List UInt8):List Tok×Int×Int:=if 2000<s.length then([],0,5)else end2 (utf s) (lexs s 0)
theorem c11(s:List UInt8):C73 (s,())=some ((lexR s).1,(lexR s).2.1,(lexR s).2.2,()):=by
 show F73 C110 C65 C73_l0 (s,())=_;unfold lexR;by_cases h:2000<s.length
 . simp only[if_pos h]
   simp (disch:=(first|omega|(simp only[qk];omega))) only[F73,Sk]
 . simp only[if_neg h]
   obtain⟨o,h15⟩:=c15 s (by omega);cases hu:utf s with
   | some b =>
    rw[hu]at h15;simp only at h15;simp (disch:=(first|omega|(simp only[qk];omega))) only[F73,Sk,h15,end2]
   | none =>
    rw[hu]at h15;have hl:=l11 s s.length s [] [] 0 0 big (le_refl _) (by simp) rfl (by unfold big;omega) (by omega) (by simp;omega);have hl':C73_l0 (s,[],s,0,0,0,())=some (rL11 [] (lexs s 0)):=hl;simp (disch:=(first|omega|(simp only[qk];omega))) only[F73,Sk,h15,hl'];cases lexs s 0 with
    | inl l=>simp[rL11,end2,end1]
    | inr x=>obtain⟨b,e⟩:=x;simp[rL11,end2,end1]
def asciiB(c:UInt8):Bool:=decide (c.toNat<128)
theorem asc_k:((List.range 256).all λn=>(λc:UInt8 => !asciiB c||(decide (leadN c=0)&&decide (lenR (leadV c)=1))) (UInt8.ofNat n))=true:=by kernel_rfl
theorem ch_asc{c:UInt8}(h:c.toNat<128)(r:List UInt8):ch (c::r)=1:=by
 have h1:(!asciiB c||(decide (leadN c=0)&&decide (lenR (leadV c)=1)))=true:=all256 (λc:UInt8 => !asciiB c||(decide (leadN c=0)&&decide (lenR (leadV c)=1))) asc_k c;have h2:asciiB c=true:=by simp[asciiB,h]
 simp only[h2,Bool.not_true,Bool.false_or,and_eq_true,decide_eq_true_eq]at h1;simp[ch,h1.1,conts,h1.2]
def stops(p:UInt8->Bool):List UInt8->Prop
 | []=>True
 | b::_=>p b=false
inductive Val:List UInt8->Prop
 | nil:Val []
 | cons (s:List UInt8) (h:ch s≠0) (h2:Val (s.drop (ch s))):Val s
def contK(c:UInt8):Bool := !contB c||decide (128<=c.toNat)
theorem cont_k:((List.range 256).all λn=>contK (UInt8.ofNat n))=true:=by kernel_rfl
theorem cont_hi{c:UInt8}(h:contB c=true):128<=c.toNat:=by
 have:=all256 contK cont_k c;simpa[contK,h]using this
theorem conts_hi:∀(n:Nat) (r:List UInt8) (v v':Int),conts n r v=some v'->n<=r.length/\∀c∈r.take n,128<=c.toNat
 | 0,r,v,v',_=>⟨by omega,by simp⟩
 | n+1,[],v,v',h=>by simp[conts]at h
 | n+1,c::r,v,v',h=>by
  cases hc:contB c with
  | true =>
   simp only[conts,hc,cond_true]at h;obtain⟨h1,h2⟩:=conts_hi n r _ _ h;refine⟨by simp;omega,λx hx => ?_⟩;rw[List.take_succ_cons]at hx;rcases mem_cons.1 hx with rfl|hx
   . exact cont_hi hc
   . exact h2 x hx
  | false=>simp[conts,hc]at h
theorem conts_app:∀(n:Nat) (r x:List UInt8) (v:Int),n<=r.length->conts n (r++x) v=conts n r v
 | 0,r,x,v,_=>by cases r<;>rfl
 | n+1,[],x,v,h=>by simp at h
 | n+1,c::r,x,v,h=>by
  simp only[List.cons_append,conts];cases contB c
  . rfl
  . exact conts_app n r x _ (by simpa using h)
theorem ch_some{c:UInt8}{r:List UInt8}(h:ch (c::r)≠0):∃v,¬leadN c<0/\¬r.length<(leadN c).toNat/\conts (leadN c).toNat r (leadV c)=some v/\lenR v=leadN c+1/\ch (c::r)=(leadN c).toNat+1:=by
 simp only[ch]at h;split at h
 . exact absurd rfl h
 . rename_i h1
   split at h
   . exact absurd rfl h
   . rename_i h2
     split at h
     . exact absurd rfl h
     . rename_i v hv
       split at h
       . rename_i h3
         exact⟨v,h1,h2,hv,h3,by simp[ch,h1,h2,hv,h3]⟩
       . exact absurd rfl h
theorem ch_unapp{s x:List UInt8}(h:ch (s++x)≠0)(hl:ch (s++x)<=s.length):ch s=ch (s++x):=by
 cases s with
 | nil=>simp at hl;exact absurd hl h
 | cons c r =>
  obtain⟨v,h1,h2,h3,h4,h5⟩:=ch_some (r:=r++x) h;have h5':ch (c::r++x)=(leadN c).toNat+1:=h5;rw[h5']at hl ⊢;simp only[length_cons]at hl;rw[conts_app _ _ _ _ (by omega)]at h3;simp only[ch,if_neg h1,if_neg (show ¬r.length<(leadN c).toNat by omega),h3,if_pos h4]
theorem Val.one{c:UInt8}(h:c.toNat<128):Val [c] := .cons _ (by rw[ch_asc h];simp) (by rw[ch_asc h];exact .nil)
theorem Val.split:∀(m:Nat) (a:List UInt8) (c:UInt8) (b:List UInt8),a.length<=m->c.toNat<128->Val (a++c::b)->Val a/\Val b
 | m,[],c,b,_,hc,h=>by
  refine⟨.nil,?_⟩;cases h with
  | cons _ h h2=>simpa[ch_asc hc]using h2
 | 0,d::a,c,b,hm,hc,h=>by simp at hm
 | m+1,d::a,c,b,hm,hc,h=>by
  cases h with
  | cons _ h0 h2 =>
   have hk:ch (d::a++c::b)<=(d::a).length:=by
    by_cases hd:d.toNat<128
    . have:ch (d::a++c::b)=1:=ch_asc hd _
      rw[this];simp
    . obtain⟨v,g1,g2,g3,g4,g5⟩:=ch_some (r:=a++c::b) h0
      have g5':ch (d::a++c::b)=(leadN d).toNat+1:=g5;rw[g5',length_cons];obtain⟨e1,e2⟩:=conts_hi _ _ _ _ g3;rcases Nat.lt_or_ge a.length (leadN d).toNat with hlt|hge
      . exfalso
        have:c∈(a++c::b).take (leadN d).toNat:=by
         rw[List.take_append];obtain⟨j,hj⟩:∃j,(leadN d).toNat-a.length=j+1:=⟨(leadN d).toNat-a.length-1,by omega⟩
         rw[hj,List.take_succ_cons];simp
        have:=e2 c this;omega
      . omega
   have hsame:=ch_unapp (s:=d::a) (x:=c::b) h0 hk;have h0':ch (d::a)≠0:=by rw[hsame];exact h0
   rw[List.drop_append,show ch (d::a++c::b)-(d::a).length=0 by omega,List.drop_zero,<-hsame]at h2;obtain⟨i1,i2⟩:=Val.split m ((d::a).drop (ch (d::a))) c b (by simp at hm ⊢;omega) hc h2;exact⟨.cons _ h0' i1,i2⟩
theorem Val.cut{a b:List UInt8}{c:UInt8}(hc:c.toNat<128)(h:Val (a++c::b)):Val a/\Val b:=Val.split _ a c b (le_refl _) hc h
def skn:List Tok->Nat
 | []=>0
 | t::r=>bif t.1==4||t.1==3 then skn r+1 else 0
def sgn(s:List UInt8):List Tok->Bool
 | t::_=>t.1==2&&t.2.1==s
 | []=>false
def dwn(acc:List UInt8):List Tok->List UInt8×Nat
 | t::u::r=>bif(t.1==2&&t.2.1==[46])&&u.1==0 then((dwn (acc++([46]++u.2.1)) r).1,(dwn (acc++([46]++u.2.1)) r).2+2)else(acc,0)
 | _=>(acc,0)
def dot:List Tok->List UInt8×Bool×Nat
 | t::r=>bif t.1==0 then((dwn t.2.1 r).1,true,(dwn t.2.1 r).2+1)else([],false,0)
 | []=>([],false,0)
def loc:List Tok->Bool×List UInt8×Nat
 | t::r=>bif t.1==1 then(true,t.2.1,1)else((dot (t::r)).2.1,(dot (t::r)).1,(dot (t::r)).2.2)
 | []=>(false,[],0)
def dom:List Tok->Bool×List UInt8×Nat
 | t::r=>bif t.1==5 then(true,src t.1 t.2.1,1)else((dot (t::r)).2.1,(dot (t::r)).1,(dot (t::r)).2.2)
 | []=>(false,[],0)
def mt(l:List Tok):Option (List UInt8×List UInt8×Nat) :=
 let n1:=skn l
 let n2:=n1+(loc (l.drop n1)).2.2
 let n3:=n2+skn (l.drop n2)
 let n5:=n3+1+skn (l.drop (n3+1))
 let n6:=n5+(dom (l.drop n5)).2.2
 bif !(loc (l.drop n1)).1 then none else bif !sgn [64] (l.drop n3)then none else bif !(dom (l.drop n5)).1 then none else
 some ((loc (l.drop n1)).2.1,(dom (l.drop n5)).2.1,n6+skn (l.drop n6))
def Df{α:Type}(x:Option α)(Q:α->Prop):Prop:=∃y,x=some y/\Q y
section
variable {α β γ:Type} {Q:α->Prop}
theorem dP{y:α}(h:Q y):Df (some y) Q:=⟨y,rfl,h⟩
theorem dO(h:False):Df (none:Option α) Q:=h.elim
theorem dZ{x:Option β}{f:β->Option α}{P:β->Prop}(h:Df x P)(hf:∀a,P a->Df (f a) Q):Df (x.bind f) Q:=by
 obtain⟨a,rfl,ha⟩:=h;exact hf a ha
theorem Df.mono{x:Option α}{P:α->Prop}(h:Df x P)(hf:∀a,P a->Q a):Df x Q:=by
 obtain⟨a,e,ha⟩:=h;exact⟨a,e,hf a ha⟩
theorem Df.and{x:Option α}{P P':α->Prop}(h:Df x P)(h':Df x P'):Df x λy=>P y/\P' y:=by
 obtain⟨a,e,ha⟩:=h;obtain⟨b,e',hb⟩:=h';rw[e]at e';cases e';exact⟨a,e,ha,hb⟩
theorem dB{b:Bool}{x y:Option α}(h1:b=true->Df x Q)(h2:b=false->Df y Q):Df (bif b then x else y) Q:=by
 cases b
 . exact h2 rfl
 . exact h1 rfl
theorem dH{b:Bool}{x y:Option α}(h1:b=false->Df x Q)(h2:b=true->Df y Q):Df (bif !b then x else y) Q:=by
 cases b
 . exact h1 rfl
 . exact h2 rfl
theorem dD{p:Prop}{dp:Decidable p}{x y:Option α}(h1:p->Df x Q)(h2:¬p->Df y Q):Df (bif decide p then x else y) Q:=by
 by_cases h:p
 . rw[decide_eq_true h];exact h1 h
 . rw[decide_eq_false h];exact h2 h
theorem dG{a b:Int}{x y:Option α}(h1:a=b->Df x Q)(h2:a≠b->Df y Q):Df (bif a==b then x else y) Q:=by
 by_cases h:a=b
 . rw[ibT h];exact h1 h
 . rw[ibF h];exact h2 h
class Rd (b:Bool) (p q:outParam Prop):Prop where
 t:b=true->p
 f:b=false->q
instance (priority := low) (b : Bool) : Rd b (b = true) (b = false) := ⟨id, id⟩
instance (b : Bool) : Rd (!b) (b = false) (b = true) := ⟨λh => by cases b <;> simp_all, λh => by cases b <;> simp_all⟩
instance (p : Prop) [Decidable p] : Rd (decide p) p (¬ p) := ⟨of_decide_eq_true, of_decide_eq_false⟩
instance (p : Prop) [Decidable p] : Rd (!decide p) (¬ p) p := ⟨λh => by simpa using h, λh => by simpa using h⟩
instance (p q : Prop) [Decidable p] [Decidable q] : Rd (decide p && decide q) (p /\ q) (¬ (p /\ q)) := ⟨λh => by simpa using h, λh => by simpa using h⟩
instance (a b : Int) : Rd (a == b) (a = b) (a ≠ b) := ⟨λh => by simpa using h, λh => by simpa using h⟩
instance (a b : Int) : Rd (a != b) (a ≠ b) (a = b) := ⟨λh => by simpa using h, λh => by simpa using h⟩
theorem dX{b:Bool}{p q:Prop}[r:Rd b p q]{x y:Option α}(h1:p->Df x Q)(h2:q->Df y Q):Df (bif b then x else y) Q:=by
 have h:b=true\/b=false:=by cases b<;>simp
 rcases h with h|h
 . rw[h];exact h1 (r.t h)
 . rw[h];exact h2 (r.f h)
theorem dS{f:β->Option α}{g:γ->Option α}{s:β⊕γ}{P:β->Prop}{P':γ->Prop}(hs:Sum.elim P P' s)(h1:∀a,P a->Df (f a) Q)(h2:∀b,P' b->Df (g b) Q):Df (Sum.elim f g s) Q:=by
 cases s with
 | inl a=>exact h1 a hs
 | inr b=>exact h2 b hs
theorem Df.loop{F:β->Option (β⊕α)}(I:β->Prop)(μ:β->Nat)(h:∀v,I v->Df (F v) (Sum.elim (λv'=>I v'/\μ v'<μ v) Q))(n:Nat)(v:β)(hv:I v)(hn:μ v<n):Df (loopN F n v) Q:=by
 refine loopN_of I Q μ (λv hv => ?_) n v hv hn;obtain⟨y,e,hy⟩:=h v hv;cases y with
 | inl v'=>exact .inl ⟨v',e,hy.1,hy.2⟩
 | inr y=>exact .inr ⟨y,e,hy⟩
theorem dL{F:β->Option (β⊕α)}(I:β->Prop)(μ:β->Nat)(h:∀v,I v->Df (F v) (Sum.elim (λv'=>I v'/\μ v'<μ v) Q))(v:β)(hv:I v)(hn:μ v<1000000000000000000):Df (loopN F big v) Q :=
 Df.loop I μ h big v hv (by unfold big;omega)
end
theorem w64'(n:Int):IntKind.i64.wrap n=(n+9223372036854775808)%18446744073709551616-9223372036854775808:=by rw[IntKind.wrap_i64]
theorem w32'(n:Int):IntKind.i32.wrap n=(n+2147483648)%4294967296-2147483648:=by
 simp[IntKind.wrap,IntKind.bits,IntKind.signed];split<;>omega
theorem wu64'(n:Int):IntKind.u64.wrap n=n%18446744073709551616:=IntKind.wrap_u64 n
theorem w64s{n:Int}(h : -9000000000000000000<=n/\n<=9000000000000000000):IntKind.i64.wrap n=n:=by rw[w64'];omega
theorem w32s{n:Int}(h : -2000000000<=n/\n<=2000000000):IntKind.i32.wrap n=n:=by rw[w32'];omega
theorem mid2{a b:Int}(ha:0<=a)(hb:0<=b)(h:a+b<=9000000000000000000):IntKind.i64.wrap ((IntKind.u64.wrap (IntKind.i64.wrap (a+b))).fdiv (2^min 1 IntKind.u64.bits))=(a+b)/2:=by
 rw[w64s (n:=a+b) (by omega),wu64',show (2:Int)^min 1 IntKind.u64.bits=2 from rfl,Int.fdiv_eq_ediv_of_nonneg _ (by omega),w64s (by omega)];omega
theorem decR_pos(s:List UInt8)(p:Nat):1<=(decR s p).2:=by
 unfold decR Utf8.decode;dsimp only;repeat' split
 all_goals (first|omega|(dsimp only;omega))
theorem d155(x:Int):Df (C125 (x,())) (λy=>y.1=true->0<=x/\x<=1114111):=by
 show Df (F125 _) _;unfold F125;dsimp only;with_reducible repeat' (first|apply dP|apply dX<;>intro _)
 all_goals (dsimp only;intro h';first|omega|cases h')
theorem d122(x:Int):Df (C96 (x,())) (λy=>0<=y.1/\y.1<=4):=by
 show Df (F96 C125 _) _;unfold F96;dsimp only;refine dZ (d155 x) ?_;rintro⟨b,u⟩ hb;dsimp only;with_reducible repeat' (first|apply dP|apply dX<;>intro _)
 all_goals (first|omega|(dsimp only;omega))
theorem d121_0(x:Int)(b:Bool):Df (C95_c0 (x,b,())) (Sum.elim (λy=>0<=y.1/\y.1<=3) (λ_=>True)):=by
 show Df (F95_c0 _) _;unfold F95_c0;dsimp only;with_reducible repeat' (first|apply dP|apply dX<;>intro _)
 all_goals (first|trivial|exact⟨by(try dsimp only);omega,by(try dsimp only);omega⟩)
theorem d121_1(x:Int)(b:Bool):Df (C95_c1 (x,b,())) (Sum.elim (λy=>0<=y.1/\y.1<=3) (λ_=>True)):=by
 show Df (F95_c1 C95_c0 _) _;unfold F95_c1;dsimp only;with_reducible repeat' (first|apply dP|apply dX<;>intro _)
 all_goals (first|trivial|exact⟨by(try dsimp only);omega,by(try dsimp only);omega⟩|(refine dZ (d121_0 _ _) ?_;intro s hs;exact dS hs (λa ha=>dP ha) (λ_ _=>dP trivial)))
theorem d121(x:Int):Df (C95 (x,())) (λy => -1<=y.1/\y.1<=3):=by
 show Df (F95 C95_c1 _) _;unfold F95;dsimp only;with_reducible repeat' (first|apply dP|apply dX<;>intro _)
 all_goals (first|(first|omega|(dsimp only;omega))|(refine dZ (d121_1 _ _) ?_;intro s hs;exact dS hs (λa ha=>dP ⟨by have:=ha.1;dsimp only;omega,ha.2⟩) (λ_ _=>dP (by(try dsimp only);omega))))
theorem d83_0(s:List UInt8)(n r at_ k:Int)(o:List Int)(h:0<=at_)(hn:0<=n/\n<=3)(hl:at_+n<s.length)(hk:at_+1<=k)(hb:s.length<=1000000000000) :
 Df (C65_l0 (s,n,r,at_,k,o,())) (Sum.elim (λy=>y.1=s/\y.2.1=n/\y.2.2.2.1=at_/\y.2.2.2.2.1=o) (λy=>y.1=at_/\y.2.1=o)):=by
 refine dL ?I ?m ?h _ ?hv ?hn
 case I=>exact(λv=>v.1=s/\v.2.1=n/\v.2.2.2.1=at_/\v.2.2.2.2.2.1=o/\at_+1<=v.2.2.2.2.1)
 case m=>exact(λv=>(at_+n+1-v.2.2.2.2.1).toNat)
 case hv=>exact⟨rfl,rfl,rfl,rfl,hk⟩
 case hn=>exact(by(try dsimp only);omega)
 rintro⟨x0,x1,x2,x3,x4,x5,u⟩ hI;dsimp only at hI;obtain⟨rfl,rfl,rfl,rfl,hI⟩:=hI;unfold F65_l0;dsimp only;rw[w64s (n:=x3+x1) (by omega)];with_reducible repeat' (first|apply dP|apply dX<;>intro _)
 . exact⟨rfl,rfl⟩
 . rw[w64s (by omega)]
   exact⟨⟨rfl,rfl,rfl,rfl,by(try dsimp only);omega⟩,by(try dsimp only);omega⟩
 . refine dO ?_;omega
 . refine dO ?_;omega
 . exact⟨rfl,rfl,rfl,rfl⟩
theorem d83(s:List UInt8)(hb:s.length<=1000000000000):Df (C65 (s,())) (λy=>y.1.length<=s.length/\(y.2.1 = -1\/0<=y.2.1/\y.2.1<s.length)/\(y.2.1<0->0<s.length->0<y.1.length)):=by
 show Df (F65 C95 C96 C65_g0 C65_l1 _) _;unfold F65;dsimp only;refine dZ (P:=Sum.elim (λy=>y.1.length<=s.length/\(0<s.length->0<y.1.length)) (λy=>y.2.1.length<=s.length/\0<=y.1/\y.1<s.length)) ?_ ?_
 . refine dL ?I ?m ?h _ ?hv ?hn
   case I=>exact(λv=>v.1=s/\0<=v.2.1/\v.2.1<=s.length/\v.2.2.1.length<=v.2.1/\(0<v.2.1->0<v.2.2.1.length))
   case m=>exact(λv=>(s.length-v.2.1).toNat)
   case hv=>exact⟨rfl,by(try dsimp only);omega,by(try dsimp only);omega,by simp,by simp⟩
   case hn=>exact(by(try dsimp only);omega)
   rintro⟨x0,x1,x2,u⟩ hI;dsimp only at hI;obtain⟨rfl,h0,h1,h2,h2'⟩:=hI;unfold F65_l1;dsimp only;with_reducible repeat' (first|apply dP|apply dX<;>intro _)
   . refine dZ (d121 _) ?_
     rintro⟨n,r,u⟩ hn;dsimp only at hn ⊢;rw[w64s (n:=(x0.length:Int)-x1) (by omega)];with_reducible repeat' (first|apply dP|apply dX<;>intro _)
     . exact⟨by(try dsimp only);omega,by(try dsimp only);omega,by(try dsimp only);omega⟩
     . exact⟨by(try dsimp only);omega,by(try dsimp only);omega,by(try dsimp only);omega⟩
     . rw[w64s (n:=x1+1) (by omega)]
       refine dZ (d83_0 x0 n r x1 (x1+1) x2 h0 (by omega) (by omega) (by omega) hb) ?_;intro s hs;refine dS hs ?_ ?_
       . rintro⟨a0,a1,a2,a3,a4,u⟩ ha
         dsimp only at ha ⊢;obtain⟨rfl,rfl,rfl,rfl⟩:=ha;refine dZ (d122 _) ?_;rintro⟨m,u⟩ hm;dsimp only at hm ⊢;with_reducible repeat' (first|apply dP|apply dX<;>intro _)
         . exact⟨by(try dsimp only);omega,by(try dsimp only);omega,by(try dsimp only);omega⟩
         . rw[w64s (n:=a1+1) (by omega),w64s (by omega)]
           exact⟨⟨rfl,by(try dsimp only);omega,by(try dsimp only);omega,by simp only[qk];omega,λ_=>by simp only[qk];omega⟩,by(try dsimp only);omega⟩
         . refine dO ?_
           simp only[length_cons,length_nil]at *
           omega
       . rintro⟨a0,a1,u⟩ ha
         dsimp only at ha ⊢;obtain⟨rfl,rfl⟩:=ha;exact dP ⟨by(try dsimp only);omega,by(try dsimp only);omega,by(try dsimp only);omega⟩
   . refine dO ?_;omega
   . exact⟨by(try dsimp only);omega,λ_=>h2' (by omega)⟩
 . intro r hr
   refine dS hr ?_ ?_
   . rintro⟨a,u⟩ ha
     exact dP ⟨ha.1,.inl rfl,λ_=>ha.2⟩
   . rintro⟨a,b,u⟩ ha
     exact dP ⟨ha.1,.inr ha.2,λh=>by have:=ha.2.1;dsimp only at h this;omega⟩
theorem d178(l:List Int)(hb:l.length<=20000000000000):Df (C180 (l,())) (λy=>y.1.length<=4*l.length):=by
 show Df (F180 C96 C180_l0 _) _;unfold F180;dsimp only;refine dZ (P:=Sum.elim (λy=>y.1.length<=4*l.length) (λy=>y.1.length<=4*l.length)) ?_ ?_
 . refine dL ?I ?m ?h _ ?hv ?hn
   case I=>exact(λv=>v.1=l/\v.2.1=l.length/\0<=v.2.2.1/\v.2.2.1<=l.length/\v.2.2.2.1.length<=4*v.2.2.1)
   case m=>exact(λv=>(l.length-v.2.2.1).toNat)
   case hv=>exact⟨rfl,rfl,by(try dsimp only);omega,by(try dsimp only);omega,by simp⟩
   case hn=>exact(by(try dsimp only);omega)
   rintro⟨x0,x1,x2,x3,u⟩ hI;dsimp only at hI;obtain⟨rfl,rfl,h0,h1,h2⟩:=hI;unfold F180_l0;dsimp only;with_reducible repeat' (first|apply dP|apply dX<;>intro _)
   . refine dZ (d122 _) ?_
     rintro⟨m,u⟩ hm;dsimp only at hm ⊢;rw[w64s (n:=x2+1) (by omega)];with_reducible repeat' (first|apply dP|apply dX<;>intro _)
     all_goals first
      | exact(by simp:(([]:List UInt8).length<=4*x0.length))
      | exact⟨⟨rfl,rfl,by(try dsimp only);omega,by(try dsimp only);omega,by simp only[qk];omega⟩,by(try dsimp only);omega⟩
      | (refine dO ?_;simp only[length_cons,length_nil]at *;omega)
   . refine dO ?_;omega
   . exact(by(try dsimp only);omega:x3.length<=4*x0.length)
 . intro r hr
   refine dS hr ?_ ?_
   . rintro⟨a,u⟩ ha;exact dP ha
   . rintro⟨a,b,u⟩ ha;exact dP ha
theorem d21(s:List UInt8)(hb:s.length<=1000000000000000):Df (C22 (s,())) (λy=>y.1<s.length/\(y.1<0->∀c∈s,c.toNat<128)):=by
 show Df (F22 C22_l0 _) _;unfold F22;dsimp only;refine dZ (P:=Sum.elim (λy=>∀c∈s,c.toNat<128) (λy=>0<=y.1/\y.1<s.length)) ?_ ?_
 . refine dL ?I ?m ?h _ ?hv ?hn
   case I=>exact(λv=>v.1=s/\v.2.1=s.length/\0<=v.2.2.1/\v.2.2.1<=s.length/\∀c∈s.take v.2.2.1.toNat,c.toNat<128)
   case m=>exact(λv=>(s.length-v.2.2.1).toNat)
   case hv=>exact⟨rfl,rfl,by(try dsimp only);omega,by(try dsimp only);omega,by simp⟩
   case hn=>exact(by(try dsimp only);omega)
   rintro⟨x0,x1,x2,u⟩ hI;dsimp only at hI;obtain⟨rfl,rfl,h0,h1,h2⟩:=hI;unfold F22_l0;dsimp only;with_reducible repeat' (first|apply dP|apply dX<;>intro _)
   . exact⟨by(try dsimp only);omega,by(try dsimp only);omega⟩
   . rename_i h3 h4 h5
     rw[w64s (n:=x2+1) (by omega)];have hlt:x2.toNat<x0.length:=by omega
     refine⟨⟨rfl,rfl,by(try dsimp only);omega,by(try dsimp only);omega,?_⟩,by(try dsimp only);omega⟩;dsimp only;intro c hc;rw[show (x2+1).toNat=x2.toNat+1 by omega,take_succ_get hlt]at hc;rcases mem_append.1 hc with hc|hc
     . exact h2 c hc
     . rw[mem_singleton]at hc
       rw[getD_lt hlt]at h5;subst hc;omega
   . refine dO ?_;omega
   . intro c hc
     refine h2 c ?_;rw[take_of_length_le (by omega)];exact hc
 . intro r hr
   refine dS hr ?_ ?_
   . intro u hu;exact dP ⟨by(try dsimp only);omega,λ_=>hu⟩
   . rintro⟨a,u⟩ ha;exact dP ⟨ha.2,λh=>by have:=ha.1;dsimp only at h this;omega⟩
abbrev R6:=Int×Int×Int×Int×Int×Int
abbrev R4:=Int×Int×Int×Int
abbrev R3:=Int×Int×Int
theorem d289(a b c d e f g:Int):Df (C308 (a,b,c,d,e,f,g,())) (λ_=>True):=by
 show Df (F308 _) _;unfold F308;dsimp only;with_reducible repeat' (first|apply dP|apply dX<;>intro _)
 all_goals trivial
theorem d288(T:List R6)(r:Int)(hT:T.length<=1000000000000):Df (C307 (T,r,())) (λy=>0<=y.1/\(y.2.1=true->y.1<T.length)):=by
 show Df (F307 C308 C307_l0 _) _;unfold F307;dsimp only;refine dZ (P:=λy=>y.1=T/\y.2.2.1=T.length/\0<=y.2.2.2.1/\y.2.2.2.1<=T.length) ?_ ?_
 . refine dL ?I ?m ?h _ ?hv ?hn
   case I=>exact(λv=>v.1=T/\v.2.2.1=T.length/\0<=v.2.2.2.1/\v.2.2.2.1<=v.2.2.2.2.1/\v.2.2.2.2.1<=T.length)
   case m=>exact(λv=>(v.2.2.2.2.1-v.2.2.2.1).toNat)
   case hv=>exact⟨rfl,rfl,by(try dsimp only);omega,by(try dsimp only);omega,by(try dsimp only);omega⟩
   case hn=>exact(by(try dsimp only);omega)
   rintro⟨x0,x1,x2,x3,x4,u⟩ hI;dsimp only at hI;obtain⟨rfl,rfl,h0,h1,h2⟩:=hI;unfold F307_l0;dsimp only;rw[mid2 (by omega) (by omega) (by omega)];with_reducible repeat' (first|apply dP|apply dX<;>intro _)
   . refine dZ (d289 _ _ _ _ _ _ _) ?_
     rintro⟨m,u⟩ -
     dsimp only;rw[w64s (n:=(x3+x4)/2+1) (by omega)];with_reducible repeat' (first|apply dP|apply dX<;>intro _)
     . exact⟨⟨rfl,rfl,by(try dsimp only);omega,by(try dsimp only);omega,by(try dsimp only);omega⟩,by(try dsimp only);omega⟩
     . exact⟨⟨rfl,rfl,by(try dsimp only);omega,by(try dsimp only);omega,by(try dsimp only);omega⟩,by(try dsimp only);omega⟩
   . refine dO ?_;omega
   . exact⟨rfl,rfl,by(try dsimp only);omega,by(try dsimp only);omega⟩
 . rintro⟨x0,x1,x2,x3,u⟩ hI
   dsimp only at hI ⊢;obtain⟨rfl,rfl,h0,h1⟩:=hI;with_reducible repeat' (first|apply dP|apply dX<;>intro _)
   . refine dZ (d289 _ _ _ _ _ _ _) ?_
     rintro⟨m,u⟩ -
     exact dP ⟨by(try dsimp only);omega,λ_=>by(try dsimp only);omega⟩
   . refine dO ?_;omega
   . exact⟨by(try dsimp only);omega,λh=>by cases h⟩
theorem d248(T:List R6)(A:List R4)(B:List R3)(r:Int)(hT:T.length<=1000000000000):Df (C280 (T,A,B,r,())) (λy=>y.2.2.2.1=0\/∃e∈T,y.2.2.2.1=e.2.2.2.1):=by
 show Df (F280 C307 _) _;unfold F280;dsimp only;refine dZ (d288 T r hT) ?_;rintro⟨i,b,u⟩ h;dsimp only at h ⊢;with_reducible repeat' (first|apply dP|apply dX<;>intro _)
 . exact .inl rfl
 . rename_i h1
   have hlt:i.toNat<T.length:=by omega
   refine .inr ⟨T[i.toNat],getElem_mem hlt,?_⟩;dsimp only;rw[getD_lt hlt]
 . rename_i h1 h2
   have:=h.2 h1;refine dO ?_;omega
def TOk(T:List R6):Prop:=T.length<=1000000000000/\∀e∈T,0<=e.2.2.2.1/\e.2.2.2.1<8
theorem d218(T:List R6)(A:List R4)(B:List R3)(r:Int)(hT:TOk T):Df (C228 (T,A,B,r,())) (λy=>0<=y.1/\y.1<8):=by
 show Df (F228 C280 _) _;unfold F228;dsimp only;refine dZ (d248 T A B r hT.1) ?_;rintro⟨a,b,c,d,e,f,u⟩ h;dsimp only at h ⊢;refine dP ?_;rcases h with rfl|⟨e,he,rfl⟩
 . exact⟨by decide,by decide⟩
 . exact hT.2 e he
theorem d215(T:List R6)(A:List R4)(B:List R3)(r:Int)(hT:TOk T):Df (C225 (T,A,B,r,())) (λ_=>True):=by
 show Df (F225 C280 _) _;unfold F225;dsimp only;exact dZ (d248 T A B r hT.1) λ_ _=>dP trivial
theorem d313(T:List R6)(A:List R4)(B:List R3)(r:Int)(hT:TOk T):Df (C328 (T,A,B,r,())) (λ_=>True):=by
 show Df (F328 C280 _) _;unfold F328;dsimp only;exact dZ (d248 T A B r hT.1) λ_ _=>dP trivial
theorem d306(T:List R6)(A:List R4)(B:List R3)(r:Int)(hT:TOk T):Df (C322 (T,A,B,r,())) (λ_=>True):=by
 show Df (F322 C280 _) _;unfold F322;dsimp only;exact dZ (d248 T A B r hT.1) λ_ _=>dP trivial
theorem d298(a b c d e:Int):Df (C314 (a,b,c,d,e,())) (λ_=>True):=by
 show Df (F314 _) _;unfold F314;dsimp only;with_reducible repeat' (first|apply dP|apply dX<;>intro _)
 all_goals trivial
theorem d297(A:List R4)(r:Int)(hA:A.length<=1000000000000):Df (C313 (A,r,())) (λy=>y.1<A.length):=by
 show Df (F313 C314 C313_l0 _) _;unfold F313;dsimp only;refine dZ (P:=Sum.elim (λ_=>True) (λy=>y.1<A.length)) ?_ ?_
 . refine dL ?I ?m ?h _ ?hv ?hn
   case I=>exact(λv=>v.1=A/\v.2.1=A.length/\0<=v.2.2.1/\v.2.2.1<=A.length)
   case m=>exact(λv=>(A.length-v.2.2.1).toNat)
   case hv=>exact⟨rfl,rfl,by(try dsimp only);omega,by(try dsimp only);omega⟩
   case hn=>exact(by(try dsimp only);omega)
   rintro⟨x0,x1,x2,x3,u⟩ hI;dsimp only at hI;obtain⟨rfl,rfl,h0,h1⟩:=hI;unfold F313_l0;dsimp only;with_reducible repeat' (first|apply dP|apply dX<;>intro _)
   . refine dZ (d298 _ _ _ _ _) ?_
     rintro⟨m,m',u⟩ -
     dsimp only;rw[w64s (n:=x2+1) (by omega)];with_reducible repeat' (first|apply dP|apply dX<;>intro _)
     . exact(by(try dsimp only);omega:x2<x0.length)
     . exact⟨⟨rfl,rfl,by(try dsimp only);omega,by(try dsimp only);omega⟩,by(try dsimp only);omega⟩
   . refine dO ?_;omega
   . trivial
 . intro s hs
   refine dS hs ?_ ?_
   . rintro⟨a,u⟩ -
     exact dP (by(try dsimp only);omega)
   . rintro⟨a,b,u⟩ h
     exact dP h
theorem d276(T:List R6)(A:List R4)(B:List R3)(r:Int)(hA:A.length<=1000000000000):Df (C295 (T,A,B,r,())) (λ_=>True):=by
 show Df (F295 C313 _) _;unfold F295;dsimp only;refine dZ (d297 A r hA) ?_;rintro⟨i,b,u⟩ h;dsimp only at h ⊢;with_reducible repeat' (first|apply dP|apply dX<;>intro _)
 all_goals first|trivial|(refine dO ?_;omega)
theorem d238(a b c d:Int):Df (C270 (a,b,c,d,())) (λ_=>True):=by
 show Df (F270 _) _;unfold F270;dsimp only;with_reducible repeat' (first|apply dP|apply dX<;>intro _)
 all_goals trivial
theorem d237(A:List R3)(r:Int)(hA:A.length<=1000000000000):Df (C269 (A,r,())) (λy=>y.1<A.length):=by
 show Df (F269 C270 C269_l0 _) _;unfold F269;dsimp only;refine dZ (P:=Sum.elim (λ_=>True) (λy=>y.1<A.length)) ?_ ?_
 . refine dL ?I ?m ?h _ ?hv ?hn
   case I=>exact(λv=>v.1=A/\v.2.1=A.length/\0<=v.2.2.1/\v.2.2.1<=A.length)
   case m=>exact(λv=>(A.length-v.2.2.1).toNat)
   case hv=>exact⟨rfl,rfl,by(try dsimp only);omega,by(try dsimp only);omega⟩
   case hn=>exact(by(try dsimp only);omega)
   rintro⟨x0,x1,x2,x3,u⟩ hI;dsimp only at hI;obtain⟨rfl,rfl,h0,h1⟩:=hI;unfold F269_l0;dsimp only;with_reducible repeat' (first|apply dP|apply dX<;>intro _)
   . refine dZ (d238 _ _ _ _) ?_
     rintro⟨m,m',u⟩ -
     dsimp only;rw[w64s (n:=x2+1) (by omega)];with_reducible repeat' (first|apply dP|apply dX<;>intro _)
     . exact(by(try dsimp only);omega:x2<x0.length)
     . exact⟨⟨rfl,rfl,by(try dsimp only);omega,by(try dsimp only);omega⟩,by(try dsimp only);omega⟩
   . refine dO ?_;omega
   . trivial
 . intro s hs
   refine dS hs ?_ ?_
   . rintro⟨a,u⟩ -
     exact dP (by(try dsimp only);omega)
   . rintro⟨a,b,u⟩ h
     exact dP h
theorem d211(T:List R6)(A:List R4)(B:List R3)(r:Int)(hB:B.length<=1000000000000):Df (C221 (T,A,B,r,())) (λ_=>True):=by
 show Df (F221 C269 _) _;unfold F221;dsimp only;refine dZ (d237 B r hB) ?_;rintro⟨i,b,u⟩ h;dsimp only at h ⊢;with_reducible repeat' (first|apply dP|apply dX<;>intro _)
 all_goals first|trivial|(refine dO ?_;omega)
theorem d216(T:List R6)(A:List R4)(B:List R3)(r:Int):Df (C226 (T,A,B,r,())) (λ_=>True):=by
 unfold C226;dsimp only;with_reducible repeat' (first|apply dP|apply dX<;>intro _)
 . trivial
 . cases splitD r with
   | none=>exact dP trivial
   | some s=>exact dP trivial
theorem d212(T:List R6)(A:List R4)(B:List R3)(r:Int):Df (C222 (T,A,B,r,())) (λ_=>True):=by
 show Df (F222 C226 _) _;unfold F222;dsimp only;with_reducible repeat' (first|apply dP|apply dX<;>intro _)
 all_goals first|trivial|exact dZ (d216 T A B r) λ_ _=>dP trivial
theorem d210(T:List R6)(A:List R4)(B:List R3)(l:List Int)(hl:l.length<=1000000000000):Df (C220 (l,T,A,B,())) (λy=>y.1.length=l.length):=by
 show Df (F220 C222 C220_l0 _) _;unfold F220;dsimp only;refine dZ (P:=λy=>y.1.length=l.length) ?_ (λ_ h=>dP h);refine dL ?I ?m ?h _ ?hv ?hn
 case I=>exact(λv=>v.2.2.2.1=l/\v.2.2.2.2.1=l.length/\0<=v.2.2.2.2.2.1/\v.2.2.2.2.2.1<=l.length/\v.2.2.2.2.2.2.1.length=v.2.2.2.2.2.1)
 case m=>exact(λv=>(l.length-v.2.2.2.2.2.1).toNat)
 case hv=>exact⟨rfl,rfl,by(try dsimp only);omega,by(try dsimp only);omega,rfl⟩
 case hn=>exact(by(try dsimp only);omega)
 rintro⟨x0,x1,x2,x3,x4,x5,x6,u⟩ hI;dsimp only at hI;obtain⟨rfl,rfl,h0,h1,h2⟩:=hI;unfold F220_l0;dsimp only;with_reducible repeat' (first|apply dP|apply dX<;>intro _)
 . refine dZ (d212 _ _ _ _) ?_
   rintro⟨m,u⟩ -
   dsimp only;rw[w64s (n:=x5+1) (by omega)];with_reducible repeat' (first|apply dP|apply dX<;>intro _)
   . exact⟨⟨rfl,rfl,by(try dsimp only);omega,by(try dsimp only);omega,by simp only[qk];omega⟩,by(try dsimp only);omega⟩
   . refine dO ?_;simp only[length_cons,length_nil]at *;omega
 . refine dO ?_;omega
 . exact(by(try dsimp only);omega:x6.length=x3.length)
theorem d210v1(T:List R6)(A:List R4)(B:List R3)(hB:B.length<=1000000000000)(l:List Int)(hl:l.length<=1000000000000):Df (C220v1 (l,T,A,B,())) (λy=>y.1.length=l.length):=by
 show Df (F220v1 C221 C220v1_l0 _) _;unfold F220v1;dsimp only;refine dZ (P:=λy=>y.1.length=l.length) ?_ (λ_ h=>dP h);refine dL ?I ?m ?h _ ?hv ?hn
 case I=>exact(λv=>v.2.2.1=B/\v.2.2.2.1=l/\v.2.2.2.2.1=l.length/\0<=v.2.2.2.2.2.1/\v.2.2.2.2.2.1<=l.length/\v.2.2.2.2.2.2.1.length=v.2.2.2.2.2.1)
 case m=>exact(λv=>(l.length-v.2.2.2.2.2.1).toNat)
 case hv=>exact⟨rfl,rfl,rfl,by(try dsimp only);omega,by(try dsimp only);omega,rfl⟩
 case hn=>exact(by(try dsimp only);omega)
 rintro⟨x0,x1,x2,x3,x4,x5,x6,u⟩ hI;dsimp only at hI;obtain⟨rfl,rfl,rfl,h0,h1,h2⟩:=hI;unfold F220v1_l0;dsimp only;with_reducible repeat' (first|apply dP|apply dX<;>intro _)
 . refine dZ (d211 _ _ _ _ hB) ?_
   rintro⟨m,u⟩ -
   dsimp only;rw[w64s (n:=x5+1) (by omega)];with_reducible repeat' (first|apply dP|apply dX<;>intro _)
   . exact⟨⟨rfl,rfl,rfl,by(try dsimp only);omega,by(try dsimp only);omega,by simp only[qk];omega⟩,by(try dsimp only);omega⟩
   . refine dO ?_;simp only[length_cons,length_nil]at *;omega
 . refine dO ?_;omega
 . exact(by(try dsimp only);omega:x6.length=x3.length)
theorem d180(T:List R6)(A:List R4)(B:List R3)(l:List Int)(hl:l.length<=1000000000000):Df (C182 (T,A,B,l,())) (λy=>y.1.length=l.length):=by
 show Df (F182 C220 _) _;unfold F182;dsimp only;exact dZ (d210 T A B l hl) λ_ h=>dP h
theorem d179(T:List R6)(A:List R4)(B:List R3)(hB:B.length<=1000000000000)(l:List Int)(hl:l.length<=1000000000000):Df (C181 (T,A,B,l,())) (λy=>y.1.length=l.length):=by
 show Df (F181 C220v1 _) _;unfold F181;dsimp only;exact dZ (d210v1 T A B hB l hl) λ_ h=>dP h
theorem d300(a b c:Int):Df (C316 (a,b,c,())) (λ_=>True):=by
 show Df (F316 _) _;unfold F316;dsimp only;with_reducible repeat' (first|apply dP|apply dX<;>intro _)
 all_goals trivial
theorem d301(a:Int):Df (C317 (a,())) (λy=>y.1.length<=3):=by
 show Df (F317 _) _;unfold F317;dsimp only;with_reducible repeat' (first|apply dP|apply dX<;>intro _)
 all_goals (dsimp only;simp)
theorem d302(a b:List Int)(ha:a.length<=1000000)(hb:b.length<=1000000):Df (C318 ([a,b],())) (λy=>y.1.length=a.length+b.length):=by
 show Df (F318 C327 C318_l0 C318_l1 _) _;unfold F318;dsimp only;refine dZ (P:=λy=>y.1=[a,b]/\0<=y.2.1/\y.2.1<=2000000) ?_ ?_
 . refine dL ?I ?m ?h _ ?hv ?hn
   case I=>exact(λv=>v.1=[a,b]/\v.2.2.1=[a,b]/\v.2.2.2.1=2/\((v.2.2.2.2.1=0/\v.2.1=0)\/(v.2.2.2.2.1=1/\v.2.1=a.length)\/(v.2.2.2.2.1=2/\v.2.1=a.length+b.length)))
   case m=>exact(λv=>(2-v.2.2.2.2.1).toNat)
   case hv=>exact⟨rfl,rfl,rfl,.inl ⟨rfl,rfl⟩⟩
   case hn=>exact(by(try dsimp only);omega)
   rintro⟨x0,x1,x2,x3,x4,u⟩ hI;dsimp only at hI;obtain⟨rfl,rfl,rfl,hI⟩:=hI;unfold F318_l0;dsimp only;rcases hI with⟨rfl,rfl⟩|⟨rfl,rfl⟩|⟨rfl,rfl⟩
   . have e:([a,b]:List (List Int)).getD (0:Int).toNat []=a:=rfl
     rw[e,w64s (n:=0+(a.length:Int)) (by omega),w64s (n:=(0:Int)+1) (by omega)];with_reducible repeat' (first|apply dP|apply dX<;>intro _)
     all_goals first
      | exact⟨⟨rfl,rfl,rfl,.inr (.inl ⟨rfl,by(try dsimp only);omega⟩)⟩,by(try dsimp only);omega⟩
      | (refine dO ?_;simp only[length_cons,length_nil]at *;omega)
      | (exfalso;omega)
   . have e:([a,b]:List (List Int)).getD (1:Int).toNat []=b:=rfl
     rw[e,w64s (n:=(a.length:Int)+(b.length:Int)) (by omega),w64s (n:=(1:Int)+1) (by omega)];with_reducible repeat' (first|apply dP|apply dX<;>intro _)
     all_goals first
      | exact⟨⟨rfl,rfl,rfl,.inr (.inr ⟨rfl,rfl⟩)⟩,by(try dsimp only);omega⟩
      | (refine dO ?_;simp only[length_cons,length_nil]at *;omega)
      | (exfalso;omega)
   . with_reducible repeat' (first|apply dP|apply dX<;>intro _)
     all_goals first
      | exact⟨rfl,by(try dsimp only);omega,by(try dsimp only);omega⟩
      | (refine dO ?_;simp only[length_cons,length_nil]at *;omega)
      | (exfalso;omega)
 . rintro⟨x0,x1,u⟩ hI
   dsimp only at hI ⊢;obtain⟨rfl,h0,h1⟩:=hI;refine dZ (P:=λy=>y.1=[]) ?_ ?_
   . unfold C327
     dsimp only;with_reducible repeat' (first|apply dP|apply dX<;>intro _)
     . rfl
     . refine dO ?_;omega
   rintro⟨x2,u⟩ hx;dsimp only at hx ⊢;subst hx;refine dZ (P:=λy=>y.1.length=a.length+b.length) ?_ (λ_ h=>dP h);refine dL ?I ?m ?h _ ?hv ?hn
   case I=>exact(λv=>v.1=[a,b]/\v.2.1=2/\((v.2.2.1=0/\v.2.2.2.1.length=0)\/(v.2.2.1=1/\v.2.2.2.1.length=a.length)\/(v.2.2.1=2/\v.2.2.2.1.length=a.length+b.length)))
   case m=>exact(λv=>(2-v.2.2.1).toNat)
   case hv=>exact⟨rfl,rfl,.inl ⟨rfl,rfl⟩⟩
   case hn=>exact(by(try dsimp only);omega)
   rintro⟨x0,x1,x2,x3,u⟩ hI;dsimp only at hI;obtain⟨rfl,rfl,hI⟩:=hI;unfold F318_l1;dsimp only;rcases hI with⟨rfl,hx⟩|⟨rfl,hx⟩|⟨rfl,hx⟩
   . have e:([a,b]:List (List Int)).getD (0:Int).toNat []=a:=rfl
     rw[e,w64s (n:=(0:Int)+1) (by omega)];with_reducible repeat' (first|apply dP|apply dX<;>intro _)
     all_goals first
      | exact⟨⟨rfl,rfl,.inr (.inl ⟨rfl,by simp only[length_append];omega⟩)⟩,by(try dsimp only);omega⟩
      | (refine dO ?_;simp only[length_cons,length_nil]at *;omega)
      | (exfalso;omega)
   . have e:([a,b]:List (List Int)).getD (1:Int).toNat []=b:=rfl
     rw[e,w64s (n:=(1:Int)+1) (by omega)];with_reducible repeat' (first|apply dP|apply dX<;>intro _)
     all_goals first
      | exact⟨⟨rfl,rfl,.inr (.inr ⟨rfl,by simp only[length_append];omega⟩)⟩,by(try dsimp only);omega⟩
      | (refine dO ?_;simp only[length_cons,length_nil]at *;omega)
      | (exfalso;omega)
   . with_reducible repeat' (first|apply dP|apply dX<;>intro _)
     all_goals first
      | exact hx
      | (refine dO ?_;simp only[length_cons,length_nil]at *;omega)
      | (exfalso;omega)
def nxt(r:Int):Option (Int×Int):=bif decide (65281<=r)&&decide (r<=65374)then some (r-65248,0)else(splitD r).map λs=>(s.2.1,s.2.2.1)
def dep:Nat->Int->Bool
 | 0,_=>false
 | n+1,r=>match nxt r with
  | none=>true
  | some (a,b)=>dep n a&&(b==0||dep n b)
theorem dep_k1:((List.range 94).all λn=>dep 4 ((33+n:Nat):Int))=true:=by kernel_rfl
theorem dep_k2:(splitT.all λs=>dep 4 s.2.1&&(s.2.2.1==0||dep 4 s.2.2.1))=true:=by kernel_rfl
theorem dep_all(r:Int):dep 5 r=true:=by
 unfold dep;cases h:nxt r with
 | none=>rfl
 | some p =>
  obtain⟨a,b⟩:=p;dsimp only;unfold nxt at h;by_cases hw:65281<=r/\r<=65374
  . rw[decide_eq_true hw.1,decide_eq_true hw.2]at h
    simp only[Bool.and_self,cond_true,Option.some.injEq,Prod.mk.injEq]at h;obtain⟨rfl,rfl⟩:=h;have:=all_eq_true.1 dep_k1 (r-65281).toNat (List.mem_range.2 (by omega))
    rw[show (((33+(r-65281).toNat:Nat)):Int)=r-65248 by omega]at this;rw[this];rfl
  . have e:(decide (65281<=r)&&decide (r<=65374))=false:=by simp;omega
    rw[e]at h;simp only[cond_false,Option.map_eq_some_iff]at h;obtain⟨s,hs,he⟩:=h;have hm:s∈splitT:=List.mem_of_find?_eq_some hs;have:=all_eq_true.1 dep_k2 s hm;cases he;exact this
theorem c216n(T:List R6)(A:List R4)(B:List R3)(r:Int):Df (C226 (T,A,B,r,())) (λv=>v.2.2.2.2.2.1=false\/nxt r=some (v.2.1,v.2.2.1)):=by
 unfold C226 nxt;dsimp only;with_reducible repeat' (first|apply dP|apply dX<;>intro _)
 . rename_i h
   refine .inr ?_;rw[decide_eq_true h.1,decide_eq_true h.2];rfl
 . rename_i h
   have e:(decide (65281<=r)&&decide (r<=65374))=false:=by simp;omega
   rw[e];cases splitD r with
   | none=>exact dP (.inl rfl)
   | some s=>exact dP (.inr rfl)
theorem d279c(G:T298)(r:Int)(sf b:Bool)(T:List R6)(A:List R4)(B:List R3)(v0 a c:Int)(s o:Bool)(K:Nat)(hK:1<=K)(ha:b=false->c=0->Df (G (T,A,B,a,sf,())) (λy=>y.1.length<=K)) :
 Df (F298_c0 C226 G C316 C317 C318 (r,sf,b,T,A,B,v0,a,c,s,o,())) (Sum.elim (λy=>y.1.length<=K) (λy=>y=(sf,T,A,B,v0,a,c,s,o,())/\b=false/\c≠0)):=by
 unfold F298_c0;dsimp only;with_reducible repeat' (first|apply dP|apply dX<;>intro _)
 . exact(by simpa using hK:([r]:List Int).length<=K)
 . rename_i h1 h2
   exact dZ (ha h1 h2) λy hy=>dP hy
 . rename_i h1 h2
   exact⟨rfl,h1,h2⟩
theorem d279r(T:List R6)(A:List R4)(B:List R3):∀(n m:Nat) (r:Int) (sf:Bool),dep n r=true->n<=9 ->
 Df (recN (λG=>F298 C226 G C316 C317 C318 (F298_c0 C226 G C316 C317 C318)) (n+m) (T,A,B,r,sf,())) (λy=>y.1.length<=3*2^n)
 | 0,m,r,sf,h,hn=>by cases h
 | n+1,m,r,sf,h,hn=>by
  rw[show n+1+m=(n+m)+1 by omega];show Df (F298 C226 (recN (λG=>F298 C226 G C316 C317 C318 (F298_c0 C226 G C316 C317 C318)) (n+m)) C316 C317 C318 (F298_c0 C226 (recN (λG=>F298 C226 G C316 C317 C318 (F298_c0 C226 G C316 C317 C318)) (n+m)) C316 C317 C318) (T,A,B,r,sf,())) _;have ih:=d279r T A B n m;generalize recN (λG=>F298 C226 G C316 C317 C318 (F298_c0 C226 G C316 C317 C318)) (n+m)=G at ih ⊢;have hp:3*2^n<=3*2^9:=Nat.mul_le_mul_left 3 (Nat.pow_le_pow_right (by omega) (by omega));have hp1:1<=2^n:=Nat.one_le_two_pow;have hp2:3*2^(n+1)=3*2^n+3*2^n:=by rw[Nat.pow_succ];omega
  generalize 3*2^n=K at ih hp hp2;have hK:3<=K\/True := .inr trivial;rw[hp2];have hK3:3<=K+K:=by
   have:3*2^1<=3*2^(n+1):=Nat.mul_le_mul_left 3 (Nat.pow_le_pow_right (by omega) (by omega));omega
  have ih':∀(r:Int) (sf:Bool),dep n r=true->Df (G (T,A,B,r,sf,())) (λy=>y.1.length<=K):=λr sf h=>ih r sf h (by omega);clear ih;unfold F298;dsimp only;refine dZ (c216n T A B r) ?_;rintro⟨v0,a,c,s,o,is,u⟩ hv;dsimp only at hv ⊢;refine dZ (d300 _ _ _) ?_;rintro⟨b,u⟩ -
  dsimp only;have two:is=true->c≠0->∀sf,Df ((G (T,A,B,a,sf,())).bind λval_2=>(G (T,A,B,c,sf,())).bind λval=>(C318 ([val_2.fst,val.fst],())).bind λval=>some (val.fst,())) (λy=>y.1.length<=K+K):=by
   intro his hc sf;rcases hv with rfl|hv
   . cases his
   . unfold dep at h
     rw[hv]at h;simp only[and_eq_true,Bool.or_eq_true,beq_iff_eq]at h;refine dZ (ih' a sf h.1) ?_;rintro⟨p,u⟩ hp';refine dZ (ih' c sf (h.2.resolve_left hc)) ?_;rintro⟨q,u⟩ hq;dsimp only at hp' hq ⊢;refine dZ (d302 p q (by omega) (by omega)) ?_;rintro⟨z,u⟩ hz;exact dP (by dsimp only at hz ⊢;omega)
  have one:is=true->Df (G (T,A,B,a,sf,())) (λy=>y.1.length<=K+K):=by
   intro his;rcases hv with rfl|hv
   . cases his
   . unfold dep at h
     rw[hv]at h;simp only[and_eq_true]at h;exact(ih' a sf h.1).mono λ_ h=>by omega
  with_reducible repeat' (first|apply dP|apply dX<;>intro _)
  . refine dZ (d301 _) ?_
    rintro⟨l,u⟩ hl;exact dP (by dsimp only at hl ⊢;omega)
  . refine dZ (d279c G r sf true T A B v0 a c s o (K+K) (by omega) (λh=>by cases h)) ?_
    intro z hz;refine dS hz (λy hy=>dP hy) ?_;rintro y ⟨-,h,-⟩;cases h
  . rename_i h1 h2 h3
    refine dZ (d279c G r sf (!sf) T A B v0 a c s o (K+K) (by omega) (λ_ _=>one h2)) ?_;intro z hz;refine dS hz (λy hy=>dP hy) ?_;rintro y ⟨rfl,-,hc⟩;exact two h2 hc sf
  . rename_i h1 h2 h3
    refine dZ (d279c G r sf false T A B v0 a c s o (K+K) (by omega) (λ_ _=>one h2)) ?_;intro z hz;refine dS hz (λy hy=>dP hy) ?_;rintro y ⟨rfl,-,hc⟩;exact two h2 hc sf
theorem d279(T:List R6)(A:List R4)(B:List R3)(r:Int)(sf:Bool):Df (C298 (T,A,B,r,sf,())) (λy=>y.1.length<=96):=by
 obtain⟨m,hm⟩:∃m,big=5+m:=⟨big-5,by unfold big;omega⟩
 show Df (recN (λG=>F298 C226 G C316 C317 C318 (F298_c0 C226 G C316 C317 C318)) big _) _;rw[hm];exact d279r T A B 5 m r sf (dep_all r) (by omega)
theorem d240(T:List R6)(A:List R4)(B:List R3)(l:List Int)(sf:Bool)(hl:l.length<=100000000000):Df (C272 (T,A,B,l,sf,())) (λy=>y.1.length<=96*l.length):=by
 show Df (F272 C298 C272_l0 _) _;unfold F272;dsimp only;refine dZ (P:=λy=>y.1.length<=96*l.length) ?_ (λ_ h=>dP h);refine dL ?I ?m ?h _ ?hv ?hn
 case I=>exact(λv=>v.2.1=l/\v.2.2.1=l.length/\0<=v.2.2.2.1/\v.2.2.2.1<=l.length/\v.2.2.2.2.2.2.2.1.length<=96*v.2.2.2.1)
 case m=>exact(λv=>(l.length-v.2.2.2.1).toNat)
 case hv=>exact⟨rfl,rfl,by(try dsimp only);omega,by(try dsimp only);omega,by simp⟩
 case hn=>exact(by(try dsimp only);omega)
 rintro⟨x0,x1,x2,x3,x4,x5,x6,x7,u⟩ hI;dsimp only at hI;obtain⟨rfl,rfl,h0,h1,h2⟩:=hI;unfold F272_l0;dsimp only;with_reducible repeat' (first|apply dP|apply dX<;>intro _)
 . refine dZ (d279 _ _ _ _ _) ?_
   rintro⟨z,u⟩ hz;dsimp only at hz ⊢;rw[w64s (n:=x3+1) (by omega)];with_reducible repeat' (first|apply dP|apply dX<;>intro _)
   . exact⟨⟨rfl,rfl,by(try dsimp only);omega,by(try dsimp only);omega,by simp only[length_append];omega⟩,by(try dsimp only);omega⟩
   . refine dO ?_;omega
 . refine dO ?_;omega
 . exact(by(try dsimp only);omega:x7.length<=96*x1.length)
theorem d303(T:List R6)(A:List R4)(B:List R3)(a b:Int):Df (C319 (T,A,B,a,b,())) (λ_=>True):=by
 unfold C319;dsimp only;cases pairD a b with
 | none=>exact dP trivial
 | some s=>exact dP trivial
theorem d280_0(a b:Int)(f:Bool)(T:List R6)(A:List R4)(B:List R3):Df (C299_c0 (a,b,f,T,A,B,())) (λ_=>True):=by
 show Df (F299_c0 C316 C319 _) _;unfold F299_c0;dsimp only;with_reducible repeat' (first|apply dP|apply dX<;>intro _)
 . trivial
 . refine dZ (d300 _ _ _) ?_
   rintro⟨z,u⟩ -
   dsimp only;with_reducible repeat' (first|apply dP|apply dX<;>intro _)
   . refine dZ (d300 _ _ _) ?_
     rintro⟨z,u⟩ -
     dsimp only;with_reducible repeat' (first|apply dP|apply dX<;>intro _)
     all_goals trivial
   all_goals trivial
theorem d280(T:List R6)(A:List R4)(B:List R3)(a b:Int):Df (C299 (T,A,B,a,b,())) (λ_=>True):=by
 show Df (F299 C316 C319 C299_c0 _) _;unfold F299;dsimp only;have fin:∀f,Df ((C299_c0 (a,b,f,T,A,B,())).bind λval=>Sum.elim (λval=>some (val.fst,val.snd.fst,())) (λval=>(C319 (val.snd.snd.fst,val.snd.snd.snd.fst,val.snd.snd.snd.snd.fst,val.fst,val.snd.fst,())).bind λval=>some (val.fst,val.snd.fst,())) val) (λ_=>True):=by
  intro f;refine dZ (d280_0 a b f T A B) ?_;intro z hz;cases z with
  | inl y=>exact dP trivial
  | inr y=>exact dZ (d303 _ _ _ _ _) λ_ _=>dP trivial
 refine dZ (d300 _ _ _) ?_;rintro⟨z,u⟩ -
 dsimp only;with_reducible repeat' (first|apply dP|apply dX<;>intro _)
 . refine dZ (d300 _ _ _) ?_
   rintro⟨z,u⟩ -
   exact fin _
 . exact fin _
theorem d241_0(x0 x1 x2 x3:Int)(x4:List Int)(x5 x6:Int)(x7:Bool)(x8:List R6)(x9:List R4)(x10:List R3)(x11:List Int)(h:x7=true->0<=x0/\x0<x11.length) :
 Df (C273_c0 (x0,x1,x2,x3,x4,x5,x6,x7,x8,x9,x10,x11,())) (Sum.elim (λy=>∃l',l'.length=x11.length/\y=(x0,x1,x4,x5,x6,x8,x9,x10,l',())) (λy=>y=(x0,x1,x2,x3,x4,x5,x6,x8,x9,x10,x11,()))):=by
 show Df (F273_c0 C295 C299 _) _;unfold F273_c0;dsimp only;with_reducible repeat' (first|apply dP|apply dX<;>intro _)
 . refine dZ (d280 _ _ _ _ _) ?_
   rintro⟨a,b,u⟩ -
   dsimp only;with_reducible repeat' (first|apply dP|apply dX<;>intro _)
   . exact⟨_,length_set,rfl⟩
   . rename_i h1 h2 h3 h4
     exact absurd h2 h4
   . exact rfl
 . rename_i h1 h2
   exact dO (h2 (h h1))
 . exact rfl
theorem d241(T:List R6)(A:List R4)(B:List R3)(l:List Int)(hl:l.length<=10000000000000)(hA:A.length<=1000000000000):Df (C273 (T,A,B,l,())) (λy=>y.1.length<=l.length):=by
 show Df (F273 C295 C299 C273_l0 _) _;unfold F273;dsimp only;refine dZ (P:=λy=>y.1.length<=l.length) ?_ (λ_ h=>dP h);refine dL ?I ?m ?h _ ?hv ?hn
 case I=>exact(λv=>v.2.2.1=l/\v.2.2.2.1=l.length/\0<=v.2.2.2.2.1/\v.2.2.2.2.1<=l.length/\v.2.2.2.2.2.2.1=A/\v.2.2.2.2.2.2.2.2.1.length<=v.2.2.2.2.1/\v.1<v.2.2.2.2.2.2.2.2.1.length)
 case m=>exact(λv=>(l.length-v.2.2.2.2.1).toNat)
 case hv=>exact⟨rfl,rfl,by(try dsimp only);omega,by(try dsimp only);omega,rfl,by simp,by simp⟩
 case hn=>exact(by(try dsimp only);omega)
 rintro⟨x0,x1,x2,x3,x4,x5,x6,x7,x8,u⟩ hI;dsimp only at hI;obtain⟨rfl,rfl,h0,h1,rfl,h2,h3⟩:=hI;have fin:∀(cl:Int) (f:Bool),(f=true->0<=x0/\x0<x8.length)->x4<x2.length->Df ((C273_c0 (x0,x1,x2.getD x4.toNat 0,cl,x2,(x2.length:Int),x4,f,x5,x6,x7,x8,())).bind λval =>
  Sum.elim (λval=>some (Sum.inl (val.fst,val.snd.fst,val.snd.snd.fst,val.snd.snd.snd.fst,IntKind.i64.wrap (val.snd.snd.snd.snd.fst+1),val.snd.snd.snd.snd.snd.fst,val.snd.snd.snd.snd.snd.snd.fst,val.snd.snd.snd.snd.snd.snd.snd.fst,val.snd.snd.snd.snd.snd.snd.snd.snd.fst,())))
   (λval=>bif decide (List.length val.snd.snd.snd.snd.snd.snd.snd.snd.snd.snd.fst+[val.snd.snd.fst].length<=140737488355328/4)then
    bif val.snd.snd.snd.fst==0 then some (Sum.inl (IntKind.i64.wrap ((↑(val.snd.snd.snd.snd.snd.snd.snd.snd.snd.snd.fst++[val.snd.snd.fst]).length:Int)-1),0,val.snd.snd.snd.snd.fst,val.snd.snd.snd.snd.snd.fst,IntKind.i64.wrap (val.snd.snd.snd.snd.snd.snd.fst+1),val.snd.snd.snd.snd.snd.snd.snd.fst,val.snd.snd.snd.snd.snd.snd.snd.snd.fst,val.snd.snd.snd.snd.snd.snd.snd.snd.snd.fst,val.snd.snd.snd.snd.snd.snd.snd.snd.snd.snd.fst++[val.snd.snd.fst],()))
    else some (Sum.inl (val.fst,if val.snd.snd.snd.fst>val.snd.fst then val.snd.snd.snd.fst else val.snd.fst,val.snd.snd.snd.snd.fst,val.snd.snd.snd.snd.snd.fst,IntKind.i64.wrap (val.snd.snd.snd.snd.snd.snd.fst+1),val.snd.snd.snd.snd.snd.snd.snd.fst,val.snd.snd.snd.snd.snd.snd.snd.snd.fst,val.snd.snd.snd.snd.snd.snd.snd.snd.snd.fst,val.snd.snd.snd.snd.snd.snd.snd.snd.snd.snd.fst++[val.snd.snd.fst],()))
    else none) val)
  (Sum.elim (λv':Int×Int×List Int×Int×Int×List R6×List R4×List R3×List Int×Unit=>(v'.2.2.1=x2/\v'.2.2.2.1=(x2.length:Int)/\0<=v'.2.2.2.2.1/\v'.2.2.2.2.1<=x2.length/\v'.2.2.2.2.2.2.1=x6/\v'.2.2.2.2.2.2.2.2.1.length<=v'.2.2.2.2.1/\v'.1<v'.2.2.2.2.2.2.2.2.1.length)/\(x2.length-v'.2.2.2.2.1).toNat<(x2.length-x4).toNat) (λy:List Int×Unit=>y.1.length<=x2.length)):=by
  intro cl f hf hlt;refine dZ (d241_0 _ _ _ _ _ _ _ _ _ _ _ _ hf) ?_;intro z hz;refine dS hz ?_ ?_
  . rintro y ⟨l',hl',rfl⟩
    dsimp only;rw[w64s (n:=x4+1) (by omega)];exact dP ⟨⟨rfl,rfl,by(try dsimp only);omega,by(try dsimp only);omega,rfl,by(try dsimp only);omega,by(try dsimp only);omega⟩,by(try dsimp only);omega⟩
  . rintro y rfl
    dsimp only;rw[w64s (n:=x4+1) (by omega),w64s (n:=((x8++[x2.getD x4.toNat 0]).length:Int)-1) (by simp only[qk];omega)];with_reducible repeat' (first|apply dP|apply dX<;>intro _)
    . exact⟨⟨rfl,rfl,by(try dsimp only);omega,by(try dsimp only);omega,rfl,by simp only[qk];omega,by simp only[qk];omega⟩,by(try dsimp only);omega⟩
    . exact⟨⟨rfl,rfl,by(try dsimp only);omega,by(try dsimp only);omega,rfl,by simp only[qk];omega,by simp only[qk];omega⟩,by(try dsimp only);omega⟩
    . refine dO ?_;simp only[length_cons,length_nil]at *;omega
 unfold F273_l0;dsimp only;with_reducible repeat' (first|apply dP|apply dX<;>intro _)
 . rename_i h4 h5
   refine dZ (d276 _ _ _ _ hA) ?_;rintro⟨cl,u⟩ -
   dsimp only;with_reducible repeat' (first|apply dP|apply dX<;>intro _)
   . exact fin _ _ (λ_=>by omega) (by omega)
   . exact fin _ _ (λ_=>by omega) (by omega)
   . exact fin _ _ (λh=>by cases h) (by omega)
 . refine dO ?_;omega
 . exact(by(try dsimp only);omega:x8.length<=x2.length)
theorem d290(a b:Int):Df (C287 (a,b,())) (λy=>1<=y.1/\y.1<=26):=by
 show Df (F287 _) _;unfold F287;dsimp only;refine dP ?_;dsimp only;generalize IntKind.i64.wrap (a-b)=n;split<;>split<;>omega
theorem d291_0(a:Int)(b:Bool):Df (C288_c0 (a,b,())) (λ_=>True):=by
 show Df (F288_c0 _) _;unfold F288_c0;dsimp only;with_reducible repeat' (first|apply dP|apply dX<;>intro _)
 all_goals trivial
theorem d291(a:Int):Df (C288 (a,())) (λ_=>True):=by
 show Df (F288 C288_c0 _) _;unfold F288;dsimp only;with_reducible repeat' (first|apply dP|apply dX<;>intro _)
 all_goals (refine dZ (d291_0 _ _) ?_;intro z hz;cases z<;>exact dP trivial)
theorem d251_l(n b k:Int)(out:List UInt8)(j:Nat)(h0:0<=n)(h1:n<10^j)(hb:out.length+j<=100000000000000)(hn:n<=100000000000000) :
 Df (C240_l0 (n,b,k,out,())) (λy=>y.1.length<=out.length+j+1):=by
 refine dL ?I ?m ?h _ ?hv ?hn
 case I=>exact(λv=>∃j':Nat,0<=v.1/\v.1<10^j'/\v.1<=n/\v.2.2.2.1.length+j'<=out.length+j)
 case m=>exact(λv=>v.1.toNat)
 case hv=>exact⟨j,h0,h1,Int.le_refl _,le_refl _⟩
 case hn=>exact(by(try dsimp only);omega)
 rintro⟨x0,x1,x2,x3,u⟩ hI;dsimp only at hI;obtain⟨j',i0,i1,i2,i3⟩:=hI;unfold F240_l0;dsimp only;refine dZ (d290 _ _) ?_;rintro⟨t,u⟩ ht;dsimp only at ht ⊢;with_reducible repeat' (first|apply dP|apply dX<;>intro _)
 . refine dZ (d291 _) ?_
   rintro⟨d,d',u⟩ -
   dsimp only;with_reducible repeat' (first|apply dP|apply dX<;>intro _)
   . exact(by simp only[qk];omega:(x3++[_]).length<=out.length+j+1)
   . refine dO ?_;simp only[length_cons,length_nil]at *;omega
 . rename_i hge hne
   refine dZ (d291 _) ?_;rintro⟨d,d',u⟩ -
   dsimp only;rw[w64s (n:=36-t) (by omega)]at hne ⊢;rw[w64s (n:=x0-t) (by omega),tdiv_eq_ediv_of_nonneg (by omega)];have q0:0<=(x0-t)/(36-t):=ediv_nonneg (by omega) (by omega);have q1:(x0-t)/(36-t)*(36-t)<=x0-t:=Int.ediv_mul_le _ (by omega);have q2:(x0-t)/(36-t)*10<=(x0-t)/(36-t)*(36-t):=Int.mul_le_mul_of_nonneg_left (by omega) q0;generalize (x0-t)/(36-t)=q at q0 q1 q2 ⊢;rw[w64s (n:=q) (by omega)];with_reducible repeat' (first|apply dP|apply dX<;>intro _)
   . obtain⟨i,rfl⟩:∃i,j'=i+1:=by
      cases j' with
      | zero=>simp at i1;omega
      | succ i=>exact⟨i,rfl⟩
     rw[Int.pow_succ]at i1;generalize hP:(10:Int)^i=P at i1;refine⟨⟨i,q0,?_,?_,?_⟩,?_⟩
     . show q<10^i
       rw[hP];omega
     . dsimp only;omega
     . simp only[qk];omega
     . dsimp only;omega
   . rename_i hz
     exact absurd hz hne
   . refine dO ?_;simp only[length_cons,length_nil]at *;omega
 . rename_i hge hne
   rw[w64s (n:=36-t) (by omega)]at hne;refine dO ?_;omega
theorem d251(n b:Int)(out:List UInt8)(h0:0<=n)(h1:n<10^13)(hb:out.length<=90000000000000) :
 Df (C240 (n,b,out,())) (λy=>y.1.length<=out.length+14):=by
 show Df (F240 C287 C288 C240_l0 _) _;unfold F240;dsimp only;refine dZ (d290 _ _) ?_;rintro⟨t,u⟩ ht;dsimp only at ht ⊢;have h13:(10:Int)^13=10000000000000:=rfl;have h12:(10:Int)^12=1000000000000:=rfl;rw[h13]at h1;with_reducible repeat' (first|apply dP|apply dX<;>intro _)
 . refine dZ (d291 _) ?_
   rintro⟨d,d',u⟩ -
   dsimp only;with_reducible repeat' (first|apply dP|apply dX<;>intro _)
   . exact(by simp only[qk];omega:(out++[_]).length<=out.length+14)
   . refine dO ?_;simp only[length_cons,length_nil]at *;omega
 . rename_i hge hne
   refine dZ (d291 _) ?_;rintro⟨d,d',u⟩ -
   dsimp only;rw[w64s (n:=36-t) (by omega)]at hne ⊢;rw[w64s (n:=n-t) (by omega),tdiv_eq_ediv_of_nonneg (by omega)];have q0:0<=(n-t)/(36-t):=ediv_nonneg (by omega) (by omega);have q1:(n-t)/(36-t)*(36-t)<=n-t:=Int.ediv_mul_le _ (by omega);have q2:(n-t)/(36-t)*10<=(n-t)/(36-t)*(36-t):=Int.mul_le_mul_of_nonneg_left (by omega) q0;generalize (n-t)/(36-t)=q at q0 q1 q2 ⊢;rw[w64s (n:=q) (by omega)];with_reducible repeat' (first|apply dP|apply dX<;>intro _)
   . refine dZ (d251_l q b _ (out++[UInt8.ofNat (Int.toNat d)]) 12 q0 (by rw[h12];omega) (by simp only[qk];omega) (by omega)) ?_
     rintro⟨y,u⟩ hy;simp only[qk]at hy;exact dP (by(try dsimp only);omega)
   . rename_i hz
     exact absurd hz hne
   . refine dO ?_;simp only[length_cons,length_nil]at *;omega
 . rename_i hge hne
   rw[w64s (n:=36-t) (by omega)]at hne;refine dO ?_;omega
theorem d252_l(a b:Int)(h0:0<=a)(h1:a<=100000000000000000):Df (C241_l0 (a,b,())) (λy=>0<=y.1/\y.1<=455):=by
 refine dL ?I ?m ?h _ ?hv ?hn
 case I=>exact(λv=>0<=v.1/\v.1<=100000000000000000)
 case m=>exact(λv=>v.1.toNat)
 case hv=>exact⟨h0,h1⟩
 case hn=>exact(by(try dsimp only);omega)
 rintro⟨x0,x1,u⟩ hI;dsimp only at hI;unfold F241_l0;dsimp only;with_reducible repeat' (first|apply dP|apply dX<;>intro _)
 . rw[tdiv_eq_ediv_of_nonneg (by omega),w64s (n:=x0/35) (by omega)]
   exact⟨⟨by(try dsimp only);omega,by(try dsimp only);omega⟩,by(try dsimp only);omega⟩
 . exact⟨by(try dsimp only);omega,by(try dsimp only);omega⟩
theorem d252_0(a c:Int)(h0:0<=a)(h1:a<=10000000000000000):Df (C241_c0 (a,c,())) (λ_=>True):=by
 show Df (F241_c0 C241_l0 _) _;unfold F241_c0;dsimp only;have hm:1<=(if c>1 then c else 1):=by split<;>omega
 generalize (if c>1 then c else 1)=m at hm;have q0:0<=a/m:=ediv_nonneg h0 (by omega);have q1:a/m<=a:=Int.ediv_le_self _ h0;rw[tdiv_eq_ediv_of_nonneg h0,w64s (n:=a/m) (by omega),w64s (n:=a+a/m) (by omega)];with_reducible repeat' (first|apply dP|apply dX<;>intro _)
 . refine dZ (d252_l _ _ (by omega) (by omega)) ?_
   rintro⟨x,y,u⟩ h;dsimp only at h ⊢;rw[w64s (n:=x+38) (by omega)];with_reducible repeat' (first|apply dP|apply dX<;>intro _)
   . trivial
   . refine dO ?_;omega
 . refine dO ?_;omega
theorem d252(a c:Int)(f:Bool)(h0:0<=a)(h1:a<=10000000000000000):Df (C241 (a,c,f,())) (λ_=>True):=by
 show Df (F241 C241_c0 _) _;unfold F241;dsimp only;rw[tdiv_eq_ediv_of_nonneg h0,tdiv_eq_ediv_of_nonneg h0,w64s (n:=a/700) (by omega),w64s (n:=a/2) (by omega)];with_reducible repeat' (first|apply dP|apply dX<;>intro _)
 . exact dZ (d252_0 _ _ (by omega) (by omega)) λ_ _=>dP trivial
 . exact dZ (d252_0 _ _ (by omega) (by omega)) λ_ _=>dP trivial
def cnt(n:Int)(l:List Int):Nat:=l.countP λr=>decide (r<n)
def ceq(n:Int)(l:List Int):Nat:=l.countP λr=>decide (r=n)
theorem cnt_le(n:Int)(l:List Int):cnt n l<=l.length:=List.countP_le_length
theorem cnt_succ(n:Int):∀l:List Int,cnt (n+1) l=cnt n l+ceq n l
 | []=>rfl
 | x::l=>by
  have ih:=cnt_succ n l;unfold cnt ceq at *
  simp only[countP_cons,decide_eq_true_eq];split<;>split<;>split<;>omega
theorem cnt_same{n m:Int}(h:n<=m):∀{l:List Int},(∀r∈l,n<=r->m<=r)->cnt m l=cnt n l
 | [],_=>rfl
 | x::l,hl=>by
  have ih:=cnt_same (l:=l) h λr hr=>hl r (List.mem_cons_of_mem _ hr);have hx:=hl x mem_cons_self;unfold cnt at *
  simp only[countP_cons,decide_eq_true_eq];split<;>split<;>omega
theorem cnt_all{n:Int}:∀{l:List Int},(∀r∈l,r<n)->cnt n l=l.length
 | [],_=>rfl
 | x::l,hl=>by
  have ih:=cnt_all (l:=l) λr hr=>hl r (List.mem_cons_of_mem _ hr);have hx:=hl x mem_cons_self;unfold cnt at *
  simp only[countP_cons,length_cons,decide_eq_true_eq,hx,if_true];omega
theorem ceq_pos{n:Int}:∀{l:List Int},n∈l->1<=ceq n l
 | x::l,h=>by
  unfold ceq;simp only[countP_cons,decide_eq_true_eq];rcases mem_cons.1 h with rfl|h
  . simp
  . have:=ceq_pos h
    unfold ceq at this;omega
theorem ceq_take{n:Int}{l:List Int}{i:Nat}(h:i<l.length):ceq n (l.take (i+1))=ceq n (l.take i)+if l[i]=n then 1 else 0:=by
 unfold ceq;rw[take_succ_get h,List.countP_append];simp[countP_cons]
theorem cnt_take{n:Int}{l:List Int}{i:Nat}(h:i<l.length):cnt n (l.take (i+1))=cnt n (l.take i)+if l[i]<n then 1 else 0:=by
 unfold cnt;rw[take_succ_get h,List.countP_append];simp[countP_cons]
theorem ceq_le_take(n:Int)(l:List Int)(i:Nat):ceq n (l.take i)<=ceq n l:=by
 unfold ceq;exact(List.take_sublist i l).countP_le
theorem d250(l:List Int)(n:Int)(hn:0<=n)(hl:l.length<=1000000000000):Df (C239 (l,n,())) (λy=>(y.1<0/\∀r∈l,r<n)\/(y.1∈l/\n<=y.1/\∀r∈l,n<=r->y.1<=r)):=by
 show Df (F239 C239_l0 _) _;unfold F239;dsimp only;refine dZ (P:=λy=>(y.1<0/\∀r∈l,r<n)\/(y.1∈l/\n<=y.1/\∀r∈l,n<=r->y.1<=r)) ?_ (λ_ h=>dP h);refine dL ?I ?m ?h _ ?hv ?hn
 case I=>exact(λv=>v.1=n/\v.2.2.1=l/\v.2.2.2.1=l.length/\0<=v.2.2.2.2.1/\v.2.2.2.2.1<=l.length/\((v.2.1<0/\∀r∈l.take v.2.2.2.2.1.toNat,r<n)\/(v.2.1∈l/\n<=v.2.1/\∀r∈l.take v.2.2.2.2.1.toNat,n<=r->v.2.1<=r)))
 case m=>exact(λv=>(l.length-v.2.2.2.2.1).toNat)
 case hv=>exact⟨rfl,rfl,rfl,by(try dsimp only);omega,by(try dsimp only);omega,.inl ⟨by(try dsimp only);omega,by simp⟩⟩
 case hn=>exact(by(try dsimp only);omega)
 rintro⟨x0,x1,x2,x3,x4,u⟩ hI;dsimp only at hI;obtain⟨rfl,rfl,rfl,h0,h1,hI⟩:=hI;unfold F239_l0;dsimp only;with_reducible repeat' (first|apply dP|apply dX<;>intro _)
 all_goals try rw[w64s (n:=x4+1) (by omega)]
 . rename_i a1 a2 a3 a4
   have hlt:x4.toNat<x2.length:=by omega
   rw[getD_lt hlt]at a3 ⊢;refine⟨⟨rfl,rfl,rfl,by(try dsimp only);omega,by(try dsimp only);omega,.inr ⟨getElem_mem hlt,a3,?_⟩⟩,by(try dsimp only);omega⟩;dsimp only;intro r hr hge;rw[show (x4+1).toNat=x4.toNat+1 by omega,take_succ_get hlt]at hr;rcases mem_append.1 hr with hr|hr
   . rcases hI with⟨_,hI⟩|⟨_,hx,_⟩
     . have:=hI r hr;omega
     . omega
   . rw[mem_singleton]at hr;omega
 . rename_i a1 a2 a3 a4 a5
   have hlt:x4.toNat<x2.length:=by omega
   rw[getD_lt hlt]at a3 a5 ⊢;refine⟨⟨rfl,rfl,rfl,by(try dsimp only);omega,by(try dsimp only);omega,.inr ⟨getElem_mem hlt,a3,?_⟩⟩,by(try dsimp only);omega⟩;dsimp only;intro r hr hge;rw[show (x4+1).toNat=x4.toNat+1 by omega,take_succ_get hlt]at hr;rcases mem_append.1 hr with hr|hr
   . rcases hI with⟨hx,_⟩|⟨_,hx,hI⟩
     . omega
     . have:=hI r hr hge;omega
   . rw[mem_singleton]at hr;omega
 . rename_i a1 a2 a3 a4 a5
   have hlt:x4.toNat<x2.length:=by omega
   rw[getD_lt hlt]at a3 a5;refine⟨⟨rfl,rfl,rfl,by(try dsimp only);omega,by(try dsimp only);omega,?_⟩,by(try dsimp only);omega⟩;dsimp only;rcases hI with⟨hx,_⟩|⟨hm,hx,hI⟩
   . omega
   . refine .inr ⟨hm,hx,λr hr hge => ?_⟩
     rw[show (x4+1).toNat=x4.toNat+1 by omega,take_succ_get hlt]at hr;rcases mem_append.1 hr with hr|hr
     . exact hI r hr hge
     . rw[mem_singleton]at hr;omega
 . rename_i a1 a2 a3
   have hlt:x4.toNat<x2.length:=by omega
   rw[getD_lt hlt]at a3;refine⟨⟨rfl,rfl,rfl,by(try dsimp only);omega,by(try dsimp only);omega,?_⟩,by(try dsimp only);omega⟩;dsimp only;rcases hI with⟨hx,hI⟩|⟨hm,hx,hI⟩
   . refine .inl ⟨hx,λr hr => ?_⟩
     rw[show (x4+1).toNat=x4.toNat+1 by omega,take_succ_get hlt]at hr;rcases mem_append.1 hr with hr|hr
     . exact hI r hr
     . rw[mem_singleton]at hr;omega
   . refine .inr ⟨hm,hx,λr hr hge => ?_⟩
     rw[show (x4+1).toNat=x4.toNat+1 by omega,take_succ_get hlt]at hr;rcases mem_append.1 hr with hr|hr
     . exact hI r hr hge
     . rw[mem_singleton]at hr;omega
 . refine dO ?_;omega
 . rw[take_of_length_le (by omega)]at hI
   exact hI
theorem d223_0(l:List Int)(hl:l.length<=1000000000000):Df (C206_l0 (l,l,(l.length:Int),0,[],())) (Sum.elim (λy=>y.1=l/\(∀r∈l,0<=r/\r<=1114111)/\y.2.1.length=cnt 128 l) (λy=>y.1=[])):=by
 refine dL ?I ?m ?h _ ?hv ?hn
 case I=>exact(λv=>v.1=l/\v.2.1=l/\v.2.2.1=l.length/\0<=v.2.2.2.1/\v.2.2.2.1<=l.length/\(∀r∈l.take v.2.2.2.1.toNat,0<=r/\r<=1114111)/\v.2.2.2.2.1.length=cnt 128 (l.take v.2.2.2.1.toNat))
 case m=>exact(λv=>(l.length-v.2.2.2.1).toNat)
 case hv=>exact⟨rfl,rfl,rfl,by(try dsimp only);omega,by(try dsimp only);omega,by simp,rfl⟩
 case hn=>exact(by(try dsimp only);omega)
 rintro⟨x0,x1,x2,x3,x4,u⟩ hI;dsimp only at hI;obtain⟨rfl,rfl,rfl,h0,h1,h2,h3⟩:=hI;unfold F206_l0;dsimp only;with_reducible repeat' (first|apply dP|apply dX<;>intro _)
 . refine dZ (d155 _) ?_
   rintro⟨b,u⟩ hb;dsimp only at hb ⊢;have hlt:x3.toNat<x1.length:=by omega
   have hc:=cnt_le 128 (x1.take x3.toNat);rw[length_take]at hc;have hr:b=true->∀r∈x1.take (x3.toNat+1),0<=r/\r<=1114111:=by
    intro hbt r hr;rw[take_succ_get hlt]at hr;rcases mem_append.1 hr with hr|hr
    . exact h2 r hr
    . rw[mem_singleton]at hr
      have:=hb hbt;rw[getD_lt hlt]at this;subst hr;exact this
   have hct:=cnt_take (n:=128) hlt;have hs:(x3+1).toNat=x3.toNat+1:=by omega
   rw[w64s (n:=x3+1) (by omega)];with_reducible repeat' (first|apply dP|apply dX<;>intro _)
   . exact rfl
   . rename_i hbt hlow _
     rw[getD_lt hlt]at hlow;rw[if_pos hlow]at hct;exact⟨⟨rfl,rfl,rfl,by(try dsimp only);omega,by(try dsimp only);omega,by dsimp only;rw[hs];exact hr hbt,by dsimp only;rw[hs,length_append,hct,h3];rfl⟩,by(try dsimp only);omega⟩
   . refine dO ?_;simp only[length_cons,length_nil]at *;omega
   . rename_i hbt hlow
     rw[getD_lt hlt]at hlow;rw[if_neg hlow]at hct;exact⟨⟨rfl,rfl,rfl,by(try dsimp only);omega,by(try dsimp only);omega,by dsimp only;rw[hs];exact hr hbt,by dsimp only;rw[hs,hct,h3];rfl⟩,by(try dsimp only);omega⟩
 . refine dO ?_;omega
 . rw[take_of_length_le (by omega)]at h2 h3
   exact⟨rfl,h2,h3⟩
theorem d223_1(l:List Int)(p m delta bias h:Int)(out:List UInt8)(hl:l.length<=1000000000000)(hh:h=cnt m l)(hd:0<=delta/\delta<=2147483647)(ho:out.length<=l.length+1+14*cnt m l) :
 Df (C206_l1 (l,p,m,delta,bias,h,l,(l.length:Int),0,out,())) (λy=>y.1=l/\y.2.1=p/\y.2.2.1=m/\0<=y.2.2.2.1/\y.2.2.2.1<=2147483647+l.length/\y.2.2.2.2.2.1=cnt m l+ceq m l/\y.2.2.2.2.2.2.1.length<=l.length+1+14*(cnt m l+ceq m l)):=by
 refine dL ?I ?m ?h _ ?hv ?hn
 case I=>exact(λv=>v.1=l/\v.2.1=p/\v.2.2.1=m/\0<=v.2.2.2.1/\v.2.2.2.1<=2147483647+v.2.2.2.2.2.2.2.2.1/\v.2.2.2.2.2.1=cnt m l+ceq m (l.take v.2.2.2.2.2.2.2.2.1.toNat)/\v.2.2.2.2.2.2.1=l/\v.2.2.2.2.2.2.2.1=l.length/\0<=v.2.2.2.2.2.2.2.2.1/\v.2.2.2.2.2.2.2.2.1<=l.length/\v.2.2.2.2.2.2.2.2.2.1.length<=l.length+1+14*(cnt m l+ceq m (l.take v.2.2.2.2.2.2.2.2.1.toNat)))
 case m=>exact(λv=>(l.length-v.2.2.2.2.2.2.2.2.1).toNat)
 case hv=>exact⟨rfl,rfl,rfl,hd.1,by(try dsimp only);omega,by dsimp only;rw[hh];simp[ceq],rfl,rfl,by(try dsimp only);omega,by(try dsimp only);omega,by dsimp only;simpa[ceq]using ho⟩
 case hn=>exact(by(try dsimp only);omega)
 rintro⟨x0,x1,x2,x3,x4,x5,x6,x7,x8,x9,u⟩ hI;dsimp only at hI;obtain⟨rfl,rfl,rfl,h0,h1,rfl,rfl,rfl,h2,h3,h4⟩:=hI;have c1:=cnt_le x2 x6;have c2:=ceq_le_take x2 x6 x8.toNat
 have c3:ceq x2 x6<=x6.length:=List.countP_le_length;unfold F206_l1;dsimp only;with_reducible repeat' (first|apply dP|apply dX<;>intro _)
 all_goals try rw[w64s (n:=x8+1) (by omega)]
 . rename_i a1 a2 a3
   have hlt:x8.toNat<x6.length:=by omega
   have hct:=ceq_take (n:=x2) hlt;have hs:(x8+1).toNat=x8.toNat+1:=by omega
   rw[getD_lt hlt]at a3;rw[if_neg (by omega)]at hct;rw[w64s (n:=x3+1) (by omega)];refine⟨⟨rfl,rfl,rfl,by(try dsimp only);omega,by(try dsimp only);omega,?_,rfl,rfl,by(try dsimp only);omega,by(try dsimp only);omega,?_⟩,by(try dsimp only);omega⟩
   . dsimp only;rw[hs,hct];simp
   . dsimp only;rw[hs,hct];omega
 . rename_i a1 a2 a3 a4
   have hlt:x8.toNat<x6.length:=by omega
   have hct:=ceq_take (n:=x2) hlt;have hs:(x8+1).toNat=x8.toNat+1:=by omega
   rw[getD_lt hlt]at a3 a4;rw[if_pos a4]at hct;refine dZ (d251 _ _ _ h0 (by rw[show (10:Int)^13=10000000000000 from rfl];omega) (by omega)) ?_;rintro⟨y,u⟩ hy;dsimp only at hy ⊢;rw[w64s (n:=((cnt x2 x6:Int)+(ceq x2 (x6.take x8.toNat):Int))+1) (by omega)];refine dZ (d252 _ _ _ h0 (by omega)) ?_;rintro⟨z,u⟩ -
   dsimp only;refine dP ⟨⟨rfl,rfl,rfl,by(try dsimp only);omega,by(try dsimp only);omega,?_,rfl,rfl,by(try dsimp only);omega,by(try dsimp only);omega,?_⟩,by(try dsimp only);omega⟩
   . dsimp only;rw[hs,hct];simp;omega
   . dsimp only;rw[hs,hct];omega
 . rename_i a1 a2 a3 a4
   have hlt:x8.toNat<x6.length:=by omega
   have hct:=ceq_take (n:=x2) hlt;have hs:(x8+1).toNat=x8.toNat+1:=by omega
   rw[getD_lt hlt]at a3 a4;rw[if_neg a4]at hct;refine⟨⟨rfl,rfl,rfl,by(try dsimp only);omega,by(try dsimp only);omega,?_,rfl,rfl,by(try dsimp only);omega,by(try dsimp only);omega,?_⟩,by(try dsimp only);omega⟩
   . dsimp only;rw[hs,hct];simp
   . dsimp only;rw[hs,hct];omega
 . refine dO ?_;omega
 . rw[take_of_length_le (by omega)]at h4 ⊢
   exact⟨rfl,rfl,rfl,by(try dsimp only);omega,by(try dsimp only);omega,rfl,h4⟩
theorem d223_2(l:List Int)(out:List UInt8)(hl:l.length<=1000000000000)(hr:∀r∈l,0<=r/\r<=1114111)(ho:out.length<=l.length+1) :
 Df (C206_l2 (l,(cnt 128 l:Int),128,0,72,(cnt 128 l:Int),out,())) (Sum.elim (λy=>y.1.length<=15*l.length+1) (λy=>y.1=[])):=by
 refine dL ?I ?m ?h _ ?hv ?hn
 case I=>exact(λv=>v.1=l/\128<=v.2.2.1/\v.2.2.1<=1114112/\0<=v.2.2.2.1/\v.2.2.2.1<=2147483648+l.length/\v.2.2.2.2.2.1=cnt v.2.2.1 l/\v.2.2.2.2.2.2.1.length<=l.length+1+14*cnt v.2.2.1 l)
 case m=>exact(λv=>l.length-cnt v.2.2.1 l)
 case hv=>exact⟨rfl,by(try dsimp only);omega,by(try dsimp only);omega,by(try dsimp only);omega,by(try dsimp only);omega,rfl,by(try dsimp only);omega⟩
 case hn=>exact(by(try dsimp only);omega)
 rintro⟨x0,x1,x2,x3,x4,x5,x6,u⟩ hI;dsimp only at hI;obtain⟨rfl,h0,h1,h2,h3,rfl,h4⟩:=hI;have c1:=cnt_le x2 x0;unfold F206_l2;dsimp only;with_reducible repeat' (first|apply dP|apply dX<;>intro _)
 . rename_i hlt
   refine dZ (d250 x0 x2 (by omega) hl) ?_;rintro⟨m,u⟩ hm;dsimp only at hm ⊢;rcases hm with⟨_,hm⟩|⟨hm,hnm,hmin⟩
   . have:=cnt_all hm
     omega
   . have hm2:=hr m hm
     have hp0:0<=(m-x2)*((cnt x2 x0:Int)+1):=Int.mul_nonneg (by omega) (by omega);have hp1:(m-x2)*((cnt x2 x0:Int)+1)<=1114111*((cnt x2 x0:Int)+1):=Int.mul_le_mul_of_nonneg_right (by omega) (by omega);rw[w32s (n:=m-x2) (by omega),w64s (n:=m-x2) (by omega),w64s (n:=(cnt x2 x0:Int)+1) (by omega)];generalize (m-x2)*((cnt x2 x0:Int)+1)=P at hp0 hp1 ⊢;rw[w64s (n:=P) (by omega),w64s (n:=x3+P) (by omega)];have hsame:=cnt_same hnm hmin;have hpos:=ceq_pos hm;have hsucc:=cnt_succ m x0;have c4:=cnt_le (m+1) x0;with_reducible repeat' (first|apply dP|apply dX<;>intro _)
     . exact rfl
     . refine dZ (d223_1 x0 x1 m (x3+P) x4 _ x6 hl (by rw[hsame]) (by omega) (by omega)) ?_
       rintro⟨y0,y1,y2,y3,y4,y5,y6,u⟩ hy;dsimp only at hy ⊢;obtain⟨rfl,rfl,rfl,k0,k1,rfl,k2⟩:=hy;rw[w32s (n:=y2+1) (by omega),w64s (n:=y3+1) (by omega)];refine dP ⟨⟨rfl,by(try dsimp only);omega,by(try dsimp only);omega,by(try dsimp only);omega,by(try dsimp only);omega,?_,?_⟩,?_⟩
       . dsimp only;rw[hsucc];simp
       . dsimp only;rw[hsucc];exact k2
       . dsimp only;omega
 . exact(by(try dsimp only);omega:x6.length<=15*x0.length+1)
theorem d223(l:List Int)(hl:l.length<=1000000000000):Df (C206 (l,())) (λy=>y.1.length<=15*l.length+1):=by
 show Df (F206 C125 C239 C240 C241 C206_c0 C206_l0 _) _;unfold F206;dsimp only;refine dZ (d223_0 l hl) ?_;intro z hz;refine dS hz ?_ ?_
 . rintro⟨x0,x1,u⟩ hx
   dsimp only at hx ⊢;obtain⟨rfl,hr,hc⟩:=hx;have c0:=cnt_le 128 x0;have fin:∀out:List UInt8,out.length<=x0.length+1->Df ((C206_c0 (x0,(x1.length:Int),out,())).bind λval=>some (val.fst,val.snd.fst,())) (λy=>y.1.length<=15*x0.length+1):=by
    intro out ho;refine dZ (P:=λy=>y.1.length<=15*x0.length+1) ?_ (λ_ h=>dP h);show Df (F206_c0 C125 C239 C240 C241 C206_l2 _) _;unfold F206_c0;dsimp only;rw[hc];refine dZ (d223_2 x0 out hl hr ho) ?_;intro z hz;refine dS hz ?_ ?_
    . rintro⟨y,u⟩ hy;exact dP hy
    . rintro⟨y,b,u⟩ hy
      dsimp only at hy;subst hy;exact dP (by simp)
   with_reducible repeat' (first|apply dP|apply dX<;>intro _)
   . exact fin _ (by simp only[qk];omega)
   . refine dO ?_;simp only[length_cons,length_nil]at *;omega
   . exact fin _ (by omega)
 . rintro⟨y,b,u⟩ hy
   dsimp only at hy;subst hy;exact dP (by simp)
structure TK (T:List R6) (A:List R4) (B:List R3):Prop where
 t:TOk T
 a:A.length<=1000000000000
 b:B.length<=1000000000000
section
variable {T:List R6} {A:List R4} {B:List R3}
theorem d304(l:List Int)(p n:Int)(hp:0<=p/\p<=1000000000000000)(hn : -1000000000000001<=n/\n<=1000000000000001):Df (C320 (T,A,B,l,p,n,())) (λy=>y.1>=0->0<=p+n/\p+n<l.length):=by
 show Df (F320 _) _;unfold F320;dsimp only;rw[w64s (n:=p+n) (by omega)];with_reducible repeat' (first|apply dP|apply dX<;>intro _)
 . intro h;dsimp only at h;omega
 . intro h;dsimp only at h;omega
 . intro h;omega
 . refine dO ?_;omega
theorem d282(h:TK T A B)(l:List Int)(p:Int)(hp:0<=p/\p<=1000000000000000):Df (C301 (T,A,B,l,p,())) (λ_=>True):=by
 show Df (F301 C295 C320 _) _;unfold F301;dsimp only;refine dZ (d304 l p (-1) hp (by omega)) ?_;rintro⟨x,u⟩ -
 exact dZ (d276 T A B _ h.a) λ_ _=>dP trivial
theorem d305(h:TK T A B)(l:List Int)(p s:Int)(hp:0<=p/\p<l.length)(hl:l.length<=1000000000000)(hs:s=1\/s = -1):Df (C321 (T,A,B,l,p,s,())) (λ_=>True):=by
 show Df (F321 C320 C328 C321_l0 _) _;unfold F321;dsimp only;refine dZ (P:=λ_=>True) ?_ ?_
 . refine dL ?I ?m ?h _ ?hv ?hn
   case I=>exact(λv=>v.1=s/\v.2.2.1=T/\v.2.2.2.2.2.1=l/\v.2.2.2.2.2.2.1=p /\ -1<=p+v.2.1/\p+v.2.1<=l.length)
   case m=>exact(λv=>(bif s==1 then(l.length-(p+v.2.1))else p+v.2.1+1).toNat)
   case hv=>exact⟨rfl,rfl,rfl,rfl,by(try dsimp only);omega,by(try dsimp only);omega⟩
   case hn=>exact(by rcases hs with rfl|rfl<;>simp<;>omega)
   rintro⟨x0,x1,x2,x3,x4,x5,x6,u⟩ hI;dsimp only at hI;obtain⟨rfl,rfl,rfl,rfl,h0,h1⟩:=hI;unfold F321_l0;dsimp only;refine dZ (d304 x5 x6 x1 (by omega) (by omega)) ?_;rintro⟨c,u⟩ hc;dsimp only at hc ⊢;with_reducible repeat' (first|apply dP|apply dX<;>intro _)
   . rename_i hge
     have hc':=hc hge;refine dZ (d304 x5 x6 x1 (by omega) (by omega)) ?_;rintro⟨c,u⟩ -
     dsimp only;refine dZ (d313 x2 _ _ _ h.t) ?_;rintro⟨j,u⟩ -
     dsimp only;rw[w64s (n:=x1+x0) (by omega)];with_reducible repeat' (first|apply dP|apply dX<;>intro _)
     . trivial
     . refine⟨⟨rfl,rfl,rfl,rfl,by(try dsimp only);omega,by(try dsimp only);omega⟩,?_⟩
       rcases hs with rfl|rfl
       . simp only[show ((1:Int)==1)=true from rfl,cond_true];omega
       . simp only[show ((-1:Int)==1)=false from rfl,cond_false];omega
   . trivial
 . intro z hz
   cases z<;>exact dP trivial
theorem d283(h:TK T A B)(l:List Int)(p:Int)(hp:0<=p/\p<l.length)(hl:l.length<=1000000000000):Df (C302 (T,A,B,l,p,())) (λ_=>True):=by
 show Df (F302 C301 C321 _) _;unfold F302;dsimp only;refine dZ (d305 h l p 1 hp hl (.inl rfl)) ?_;rintro⟨x,u⟩ -
 refine dZ (d282 h l p (by omega)) ?_;rintro⟨y,u⟩ -
 dsimp only;with_reducible repeat' (first|apply dP|apply dX<;>intro _)
 . trivial
 . refine dZ (d305 h l p (-1) hp hl (.inr rfl)) ?_
   rintro⟨x,u⟩ -
   dsimp only;with_reducible repeat' (first|apply dP|apply dX<;>intro _)
   all_goals trivial
theorem d284(l:List Int)(p:Int)(hp:0<=p/\p<=1000000000000000):Df (C303 (T,A,B,l,p,())) (λ_=>True):=by
 show Df (F303 C320 _) _;unfold F303;dsimp only;refine dZ (d304 l p (-1) hp (by omega)) ?_;rintro⟨x,u⟩ -
 dsimp only;with_reducible repeat' (first|apply dP|apply dX<;>intro _)
 . exact dZ (d304 l p 1 hp (by omega)) λ_ _=>dP trivial
 . trivial
theorem d285(h:TK T A B)(l:List Int)(p:Int)(hp:0<=p/\p<=1000000000000000):Df (C304 (T,A,B,l,p,())) (λ_=>True):=by
 show Df (F304 C320 C322 _) _;unfold F304;dsimp only;refine dZ (d304 l p 1 hp (by omega)) ?_;rintro⟨x,u⟩ -
 exact dZ (d306 T A B _ h.t) λ_ _=>dP trivial
theorem d286(h:TK T A B)(l:List Int)(p:Int)(hp:0<=p/\p<=1000000000000000):Df (C305 (T,A,B,l,p,())) (λ_=>True):=by
 show Df (F305 C320 C322 _) _;unfold F305;dsimp only;refine dZ (d304 l p (-1) hp (by omega)) ?_;rintro⟨x,u⟩ -
 exact dZ (d306 T A B _ h.t) λ_ _=>dP trivial
theorem d242(x:Int):Df (C274 (x,())) (λ_=>True):=by
 show Df (F274 _) _;unfold F274;dsimp only;with_reducible repeat' (first|apply dP|apply dX<;>intro _)
 all_goals trivial
theorem d245(x:Int):Df (C277 (x,())) (λ_=>True):=by
 show Df (F277 _) _;unfold F277;dsimp only;with_reducible repeat' (first|apply dP|apply dX<;>intro _)
 all_goals trivial
theorem d281(l:List Int)(hl:l.length<=1000000000000):Df (C300 (l,())) (λ_=>True):=by
 show Df (F300 C277 C300_l0 _) _;unfold F300;dsimp only;refine dZ (P:=λ_=>True) ?_ (λz _=>by cases z<;>exact dP trivial);refine dL ?I ?m ?h _ ?hv ?hn
 case I=>exact(λv=>v.1=l/\v.2.1=l.length/\0<=v.2.2.1/\v.2.2.1<=l.length)
 case m=>exact(λv=>(l.length-v.2.2.1).toNat)
 case hv=>exact⟨rfl,rfl,by(try dsimp only);omega,by(try dsimp only);omega⟩
 case hn=>exact(by(try dsimp only);omega)
 rintro⟨x0,x1,x2,u⟩ hI;dsimp only at hI;obtain⟨rfl,rfl,h0,h1⟩:=hI;unfold F300_l0;dsimp only;with_reducible repeat' (first|apply dP|apply dX<;>intro _)
 . refine dZ (d245 _) ?_
   rintro⟨b,u⟩ -
   dsimp only;rw[w64s (n:=x2+1) (by omega)];with_reducible repeat' (first|apply dP|apply dX<;>intro _)
   . trivial
   . exact⟨⟨rfl,rfl,by(try dsimp only);omega,by(try dsimp only);omega⟩,by(try dsimp only);omega⟩
 . refine dO ?_;omega
 . trivial
theorem d281v1(l:List Int)(hl:l.length<=1000000000000):Df (C300v1 (l,())) (λ_=>True):=by
 show Df (F300v1 C274 C300v1_l0 _) _;unfold F300v1;dsimp only;refine dZ (P:=λ_=>True) ?_ (λz _=>by cases z<;>exact dP trivial);refine dL ?I ?m ?h _ ?hv ?hn
 case I=>exact(λv=>v.1=l/\v.2.1=l.length/\0<=v.2.2.1/\v.2.2.1<=l.length)
 case m=>exact(λv=>(l.length-v.2.2.1).toNat)
 case hv=>exact⟨rfl,rfl,by(try dsimp only);omega,by(try dsimp only);omega⟩
 case hn=>exact(by(try dsimp only);omega)
 rintro⟨x0,x1,x2,u⟩ hI;dsimp only at hI;obtain⟨rfl,rfl,h0,h1⟩:=hI;unfold F300v1_l0;dsimp only;with_reducible repeat' (first|apply dP|apply dX<;>intro _)
 . refine dZ (d242 _) ?_
   rintro⟨b,u⟩ -
   dsimp only;rw[w64s (n:=x2+1) (by omega)];with_reducible repeat' (first|apply dP|apply dX<;>intro _)
   . trivial
   . exact⟨⟨rfl,rfl,by(try dsimp only);omega,by(try dsimp only);omega⟩,by(try dsimp only);omega⟩
 . refine dO ?_;omega
 . trivial
theorem d243(l:List Int)(p:Int)(hl:l.length<=1000000000000):Df (C275 (T,A,B,l,p,())) (λ_=>True):=by
 show Df (F275 C276 _) _;unfold F275;dsimp only;refine dZ (P:=λ_=>True) ?_ (λ_ _=>dP trivial);show Df (F276 C300 _) _;unfold F276;dsimp only;exact dZ (d281 l hl) λ_ _=>dP trivial
theorem d246(l:List Int)(p:Int)(hl:l.length<=1000000000000):Df (C278 (T,A,B,l,p,())) (λ_=>True):=by
 show Df (F278 C276v1 _) _;unfold F278;dsimp only;refine dZ (P:=λ_=>True) ?_ (λ_ _=>dP trivial);show Df (F276v1 C300v1 _) _;unfold F276v1;dsimp only;exact dZ (d281v1 l hl) λ_ _=>dP trivial
theorem d307(h:TK T A B)(r:Int)(l:List Int)(p:Int):Df (C323 (r,T,A,B,l,p,())) (λy=>y.2=(T,A,B,l,p,())):=by
 show Df (F323 C322 _) _;unfold F323;dsimp only;refine dZ (d306 T A B _ h.t) ?_;rintro⟨x,u⟩ -
 dsimp only;with_reducible repeat' (first|apply dP|apply dX<;>intro _)
 all_goals rfl
theorem d281v2(h:TK T A B)(l:List Int)(l':List Int)(p:Int)(hl:l.length<=1000000000000):Df (C300v2 (l,T,A,B,l',p,())) (λ_=>True):=by
 show Df (F300v2 C323 C300v2_l0 _) _;unfold F300v2;dsimp only;refine dZ (P:=λ_=>True) ?_ (λz _=>by cases z<;>exact dP trivial);refine dL ?I ?m ?h _ ?hv ?hn
 case I=>exact(λv=>v.1=l/\v.2.1=l.length/\0<=v.2.2.1/\v.2.2.1<=l.length/\v.2.2.2=(T,A,B,l',p,()))
 case m=>exact(λv=>(l.length-v.2.2.1).toNat)
 case hv=>exact⟨rfl,rfl,by(try dsimp only);omega,by(try dsimp only);omega,rfl⟩
 case hn=>exact(by(try dsimp only);omega)
 rintro⟨x0,x1,x2,x3,x4,x5,x6,x7,u⟩ hI;dsimp only at hI;obtain⟨rfl,rfl,h0,h1,h2⟩:=hI;simp only[Prod.mk.injEq]at h2;obtain⟨rfl,rfl,rfl,rfl,rfl,-⟩:=h2;unfold F300v2_l0;dsimp only;with_reducible repeat' (first|apply dP|apply dX<;>intro _)
 . refine dZ (d307 h _ _ _) ?_
   rintro⟨b,y1,y2,y3,y4,y5,u⟩ hy;simp only[Prod.mk.injEq]at hy;obtain⟨rfl,rfl,rfl,rfl,rfl,-⟩:=hy;dsimp only;rw[w64s (n:=x2+1) (by omega)];with_reducible repeat' (first|apply dP|apply dX<;>intro _)
   . trivial
   . exact⟨⟨rfl,rfl,by(try dsimp only);omega,by(try dsimp only);omega,rfl⟩,by(try dsimp only);omega⟩
 . refine dO ?_;omega
 . trivial
theorem d287(h:TK T A B)(l:List Int)(p:Int)(hl:l.length<=1000000000000):Df (C306 (T,A,B,l,p,())) (λ_=>True):=by
 show Df (F306 C276v2 _) _;unfold F306;dsimp only;refine dZ (P:=λ_=>True) ?_ (λ_ _=>dP trivial);show Df (F276v2 C300v2 _) _;unfold F276v2;dsimp only;exact dZ (d281v2 h l l p hl) λ_ _=>dP trivial
theorem d214(x:Int):Df (C224 (x,())) (λ_=>True):=by
 show Df (F224 C274 C277 C279 _) _;unfold F224;dsimp only;refine dZ (d242 x) ?_;rintro⟨b,u⟩ -
 dsimp only;with_reducible repeat' (first|apply dP|apply dX<;>intro _)
 . trivial
 . refine dZ (d245 x) ?_
   rintro⟨b,u⟩ -
   dsimp only;with_reducible repeat' (first|apply dP|apply dX<;>intro _)
   . trivial
   . refine dZ (P:=λ_=>True) ⟨(),rfl,trivial⟩ ?_
     intro u _;with_reducible repeat' (first|apply dP|apply dX<;>intro _)
     all_goals trivial
theorem d183(h:TK T A B)(l:List Int)(p:Int)(hl:l.length<=1000000000000)(hp:p<=1000000000000):Df (C185 (T,A,B,l,p,())) (λ_=>True):=by
 show Df (F185 C224 C275 C278 C301 C302 C303 C304 C305 C306 _) _;unfold F185;dsimp only;have fin:∀{x:Option (Bool×Unit)},Df x (λ_=>True)->Df (x.bind λval=>bif val.fst then some ((1:Int),())else some (2,())) (λ_=>True):=by
  intro x hx;refine dZ hx ?_;rintro⟨b,u⟩ -
  dsimp only;with_reducible repeat' (first|apply dP|apply dX<;>intro _)
  all_goals trivial
 with_reducible repeat' (first|apply dP|apply dX<;>intro _)
 . trivial
 . trivial
 . refine dZ (d214 _) ?_
   intro z _;rcases z with z|z|z|z|z|z|z|z|z
   . exact fin (d243 l p hl)
   . exact fin (d246 l p hl)
   . exact fin (d282 h l p (by omega))
   . exact fin (d283 h l p (by omega) hl)
   . exact fin (d284 l p (by omega))
   . exact fin (d285 h l p (by omega))
   . exact fin (d286 h l p (by omega))
   . exact fin (d287 h l p hl)
   . exact dP trivial
 . refine dO ?_;omega
theorem d217(h:TK T A B)(r:Int):Df (C227 (T,A,B,r,())) (λ_=>True):=by
 show Df (F227 C225 C226 _) _;unfold F227;dsimp only;refine dZ (d216 T A B r) ?_;rintro⟨v0,a,c,s,o,is,u⟩ -
 dsimp only;with_reducible repeat' (first|apply dP|apply dX<;>intro _)
 all_goals first
  | trivial
  | (refine dZ (d215 T A B r h.t) ?_;rintro⟨x,u⟩ -;dsimp only;(repeat' (first|apply dP|(apply dG<;>intro _)));all_goals trivial)
theorem d261(h:TK T A B)(l:List Int)(hl:l.length<=1000000000000):Df (C250 (T,A,B,l,())) (λ_=>True):=by
 show Df (F250 C185 C227 C250_l0 _) _;unfold F250;dsimp only;refine dZ (P:=λ_=>True) ?_ (λz _=>by cases z<;>exact dP trivial);refine dL ?I ?m ?h _ ?hv ?hn
 case I=>exact(λv=>v.1=l/\v.2.1=l/\v.2.2.1=l.length/\0<=v.2.2.2.1/\v.2.2.2.1<=l.length/\v.2.2.2.2=(T,A,B,()))
 case m=>exact(λv=>(l.length-v.2.2.2.1).toNat)
 case hv=>exact⟨rfl,rfl,rfl,by(try dsimp only);omega,by(try dsimp only);omega,rfl⟩
 case hn=>exact(by(try dsimp only);omega)
 rintro⟨x0,x1,x2,x3,x4,x5,x6,u⟩ hI;dsimp only at hI;obtain⟨rfl,rfl,rfl,h0,h1,h2⟩:=hI;simp only[Prod.mk.injEq]at h2;obtain⟨rfl,rfl,rfl,-⟩:=h2;unfold F250_l0;dsimp only;with_reducible repeat' (first|apply dP|apply dX<;>intro _)
 . refine dZ (d183 h _ _ hl (by omega)) ?_
   rintro⟨b,u⟩ -
   dsimp only;rw[w64s (n:=x3+1) (by omega)];with_reducible repeat' (first|apply dP|apply dX<;>intro _)
   . trivial
   . refine dZ (d217 h _) ?_
     rintro⟨b,u⟩ -
     dsimp only;with_reducible repeat' (first|apply dP|apply dX<;>intro _)
     . trivial
     . exact⟨⟨rfl,rfl,rfl,by(try dsimp only);omega,by(try dsimp only);omega,rfl⟩,by(try dsimp only);omega⟩
   . exact⟨⟨rfl,rfl,rfl,by(try dsimp only);omega,by(try dsimp only);omega,rfl⟩,by(try dsimp only);omega⟩
 . refine dO ?_;omega
 . trivial
theorem d260(h:TK T A B)(l:List Int)(hl:l.length<=1000000000000):Df (C249 (T,A,B,l,())) (λy=>y.2=(T,A,B,l,())):=by
 show Df (F249 C250 _) _;unfold F249;dsimp only;exact dZ (d261 h l hl) λ_ _=>dP rfl
theorem d185(h:TK T A B)(l:List Int)(hl:l.length<=1000000000000):Df (C187 (T,A,B,l,())) (λ_=>True):=by
 show Df (F187 C228 C187_l0 _) _;unfold F187;dsimp only;refine dZ (P:=λy=>y.1.length=8/\y.2.1.length=8) ?_ ?_
 . refine dL ?I ?m ?h _ ?hv ?hn
   case I=>exact(λv=>v.1=l/\v.2.1=l.length/\0<=v.2.2.1/\v.2.2.1<=l.length/\v.2.2.2.1=T/\v.2.2.2.2.2.2.1.length=8/\v.2.2.2.2.2.2.2.1.length=8)
   case m=>exact(λv=>(l.length-v.2.2.1).toNat)
   case hv=>exact⟨rfl,rfl,by(try dsimp only);omega,by(try dsimp only);omega,rfl,rfl,rfl⟩
   case hn=>exact(by(try dsimp only);omega)
   rintro⟨x0,x1,x2,x3,x4,x5,x6,x7,u⟩ hI;dsimp only at hI;obtain⟨rfl,rfl,h0,h1,rfl,h2,h3⟩:=hI;unfold F187_l0;dsimp only;with_reducible repeat' (first|apply dP|apply dX<;>intro _)
   . refine dZ (d218 x3 _ _ _ h.t) ?_
     rintro⟨b,u⟩ hb;dsimp only at hb ⊢;rw[w64s (n:=x2+1) (by omega)];with_reducible repeat' (first|apply dP|apply dX<;>intro _)
     all_goals first
      | exact⟨⟨rfl,rfl,by(try dsimp only);omega,by(try dsimp only);omega,rfl,h2,by simp only[length_set];omega⟩,by(try dsimp only);omega⟩
      | (refine dO ?_;omega)
   . refine dO ?_;omega
   . exact⟨h2,h3⟩
 . rintro⟨x0,x1,u⟩ hx
   dsimp only at hx ⊢;with_reducible repeat' (first|apply dP|apply dX<;>intro _)
   all_goals first|trivial|(refine dO ?_;omega)
theorem d153(h:TK T A B)(l:List Int)(hl:l.length<=1000000000000):Df (C153 (T,A,B,l,())) (λ_=>True):=by
 show Df (F153 C187 _) _;unfold F153;dsimp only;exact dZ (d185 h l hl) λ_ _=>dP trivial
theorem d187(h:TK T A B)(l:List Int):Df (C189 (T,A,B,l,())) (λ_=>True):=by
 show Df (F189 C228 _) _;unfold F189;dsimp only;with_reducible repeat' (first|apply dP|apply dX<;>intro _)
 . trivial
 . refine dZ (d218 T A B _ h.t) ?_
   rintro⟨b,u⟩ -
   dsimp only;with_reducible repeat' (first|apply dP|apply dX<;>intro _)
   all_goals trivial
 . refine dO ?_;omega
theorem d154_0(x:Bool)(y:Bool)(z:List Int)(hz:z.length=8):Df (C154_c0 (x,y,z,())) (λ_=>True):=by
 show Df (F154_c0 C153 C187 C188 C189 _) _;unfold F154_c0;dsimp only;with_reducible repeat' (first|apply dP|apply dX<;>intro _)
 all_goals first|trivial|(refine dO ?_;omega)|(rename_i h1 h2;exact absurd (show Int.toNat 1<z.length by rw[hz];decide) h2)
theorem d154_1(x:Int)(y:Bool)(z:List Int)(hz:z.length=8):Df (C154_c1 (x,y,z,())) (λ_=>True):=by
 show Df (F154_c1 C153 C187 C188 C189 C154_c0 _) _;unfold F154_c1;dsimp only;with_reducible repeat' (first|apply dP|apply dX<;>intro _)
 all_goals exact dZ (d154_0 _ _ z hz) λ_ _=>dP trivial
end
section
variable {T:List R6} {A:List R4} {B:List R3}
theorem d278(hA:A.length<=1000000000000)(a b:Int):Df (C297 (a,b,T,A,B,())) (λy=>y.2=(T,A,B,())):=by
 unfold C297 F297;dsimp only;refine dZ (d276 T A B _ hA) ?_;rintro⟨x,u⟩ -
 exact dZ (d276 T A B _ hA) λ_ _=>dP rfl
theorem d310_0(o n:Nat)(a b i j:Int)(row:List Int)(hj:1<=j/\j<n)(hn:n<=100000000000000) :
 Df (C325_c0 (((o:Int),(n:Int)),a,b,i,j,row,T,A,B,())) (λy=>∃(r':List Int),r'.length=row.length/\y=(((o:Int),(n:Int)),a,b,i,j-1,r',T,A,B,())):=by
 unfold C325_c0 F325_c0;dsimp only;simp only[toNat_natCast];rw[w64s (n:=j-1) (by omega)];with_reducible repeat' (first|apply dP|apply dX<;>intro _)
 . exact⟨_,by simp only[length_set],rfl⟩
 all_goals (refine dO ?_;omega)
theorem d310_1(hA:A.length<=1000000000000)(o n:Nat)(a b i j:Int)(row:List Int)(ha:0<=a)(hj:a<=j/\j<n)(hn:n<=100000000000000) :
 Df (C325_l0 (((o:Int),(n:Int)),a,b,i,j,row,T,A,B,())) (λy=>∃(r':List Int),r'.length=row.length/\y=(((o:Int),(n:Int)),a,b,i,r',T,A,B,())):=by
 refine dL ?I ?m ?h _ ?hv ?hn
 case I=>exact(λv=>∃(j':Int) (r':List Int),a<=j'/\j'<n/\r'.length=row.length/\v=(((o:Int),(n:Int)),a,b,i,j',r',T,A,B,()))
 case m=>exact(λv=>(v.2.2.2.2.1-a).toNat)
 case hv=>exact⟨j,row,hj.1,hj.2,rfl,rfl⟩
 case hn=>exact(by(try dsimp only);omega)
 rintro v ⟨j',r',h1,h2,h3,rfl⟩;unfold F325_l0;dsimp only;simp only[toNat_natCast];rw[w64s (n:=j'-1) (by omega)];with_reducible repeat' (first|apply dP|apply dX<;>intro _)
 . refine dZ (d278 hA _ _) ?_
   rintro⟨c,t,a',b',u⟩ hc;simp only[Prod.mk.injEq]at hc;obtain⟨rfl,rfl,rfl,-⟩:=hc;dsimp only;with_reducible repeat' (first|apply dP|apply dX<;>intro _)
   . refine dZ (d310_0 o n a b i j' r' (by omega) hn) ?_
     rintro y ⟨r2,h4,rfl⟩;dsimp only;simp only[toNat_natCast];exact dP ⟨⟨_,_,by omega,by omega,h4.trans h3,rfl⟩,by(try dsimp only);omega⟩
   . exact⟨_,h3,rfl⟩
 . refine dO ?_;omega
 . refine dO ?_;omega
 . exact⟨_,h3,rfl⟩
theorem d310(hA:A.length<=1000000000000)(o n:Nat)(a b:Int)(row:List Int)(ha:0<=a/\a<=n)(hb:b<=n)(hn:n<=100000000000000) :
 Df (C325 (((o:Int),(n:Int)),a,b,row,T,A,B,())) (λy=>∃(r':List Int),r'.length=row.length/\y=(r',T,A,B,())):=by
 unfold C325 F325;dsimp only;simp only[toNat_natCast];rw[w64s (n:=a+1) (by omega)];refine dZ (P:=λy=>∃(r':List Int),r'.length=row.length/\y=(r',T,A,B,())) ?_ ?_
 . refine dL ?I ?m ?h _ ?hv ?hn
   case I=>exact(λv=>∃(i:Int) (r':List Int),a+1<=i/\r'.length=row.length/\v=(((o:Int),(n:Int)),a,b,i,r',T,A,B,()))
   case m=>exact(λv=>(b-v.2.2.2.1).toNat)
   case hv=>exact⟨a+1,row,Int.le_refl _,rfl,rfl⟩
   case hn=>exact(by(try dsimp only);omega)
   rintro v ⟨i,r',h1,h2,rfl⟩;unfold F325_l1;dsimp only;simp only[toNat_natCast];with_reducible repeat' (first|apply dP|apply dX<;>intro _)
   . refine dZ (d310_1 hA o n a b i i r' ha.1 (by omega) hn) ?_
     rintro y ⟨r2,h4,rfl⟩;dsimp only;simp only[toNat_natCast];rw[w64s (n:=i+1) (by omega)];exact dP ⟨⟨_,_,by omega,h4.trans h2,rfl⟩,by(try dsimp only);omega⟩
   . exact⟨_,h2,rfl⟩
 . rintro y ⟨r',h,rfl⟩
   exact dP ⟨_,h,rfl⟩
theorem d316(o n:Nat)(a b k:Int)(row:List Int)(ha:0<=a/\a+k<=n)(hb:0<=b/\b+k<=n)(hn:n<=100000000000000) :
 Df (C330 (((o:Int),(n:Int)),a,b,k,row,T,A,B,())) (λy=>∃(r':List Int),r'.length=row.length/\y=(r',T,A,B,())):=by
 unfold C330 F330;dsimp only;simp only[toNat_natCast];refine dZ (P:=λy=>∃(r':List Int),r'.length=row.length/\y=(r',T,A,B,())) ?_ ?_
 . refine dL ?I ?m ?h _ ?hv ?hn
   case I=>exact(λv=>∃(i:Int) (r':List Int),0<=i/\r'.length=row.length/\v=(((o:Int),(n:Int)),a,b,k,i,r',T,A,B,()))
   case m=>exact(λv=>(k-v.2.2.2.2.1).toNat)
   case hv=>exact⟨0,row,Int.le_refl _,rfl,rfl⟩
   case hn=>exact(by(try dsimp only);omega)
   rintro v ⟨i,r',h1,h2,rfl⟩;unfold F330_l0;dsimp only;simp only[toNat_natCast];by_cases hlt:i<k
   . rw[w64s (n:=a+i) (by omega),w64s (n:=b+i) (by omega),w64s (n:=i+1) (by omega)]
     with_reducible repeat' (first|apply dP|apply dX<;>intro _)
     . exact⟨⟨_,_,by omega,by simp only[length_set];exact h2,rfl⟩,by(try dsimp only);omega⟩
     all_goals first|(refine dO ?_;omega)|(exfalso;omega)
   . rw[decide_eq_false hlt]
     exact dP ⟨_,h2,rfl⟩
 . rintro y ⟨r',h,rfl⟩
   exact dP ⟨_,h,rfl⟩
theorem d315(o n:Nat)(a m b:Int)(row:List Int)(ha:0<=a/\a<m)(hb:m<b/\b<=n)(hn:n<=100000000000000) :
 Df (C329 (((o:Int),(n:Int)),a,m,b,row,T,A,B,())) (λy=>∃(r':List Int),r'.length=row.length/\y=(r',T,A,B,())):=by
 unfold C329 F329;dsimp only;simp only[toNat_natCast];rw[w64s (n:=m-a) (by omega),w64s (n:=b-m) (by omega)];refine dZ (P:=λy=>∃(i:Int) (r':List Int),0<=i/\i<=m-a/\m+i<=n/\r'.length=row.length/\y=(((o:Int),(n:Int)),m,i,r',T,A,B,())) ?_ ?_
 . refine dL ?I ?m ?h _ ?hv ?hn
   case I=>exact(λv=>∃(i:Int) (j:Int) (r':List Int),0<i/\0<j/\i<=m-a/\j<=b-m/\r'.length=row.length/\v=(((o:Int),(n:Int)),m,i,j,r',T,A,B,()))
   case m=>exact(λv=>(v.2.2.1+v.2.2.2.1).toNat)
   case hv=>exact⟨m-a,b-m,row,by omega,by omega,Int.le_refl _,Int.le_refl _,rfl,rfl⟩
   case hn=>exact(by(try dsimp only);omega)
   rintro v ⟨i,j,r',h1,h2,h3,h4,h5,rfl⟩;unfold F329_l0;dsimp only;simp only[toNat_natCast];rw[w64s (n:=m-i) (by omega),w64s (n:=i-j) (by omega),w64s (n:=j-i) (by omega),w64s (n:=m+j) (by omega),w64s (n:=m+j-i) (by omega)];with_reducible repeat' (first|apply dP|apply dX<;>intro _)
   . refine dZ (d316 o n (m-i) m j r' (by omega) (by omega) hn) ?_
     rintro y ⟨r2,h6,rfl⟩;dsimp only;exact dP ⟨⟨_,_,_,by omega,by omega,by omega,by omega,h6.trans h5,rfl⟩,by(try dsimp only);omega⟩
   . refine dZ (d316 o n (m-i) (m+j-i) i r' (by omega) (by omega) hn) ?_
     rintro y ⟨r2,h6,rfl⟩;dsimp only;exact dP ⟨⟨_,_,_,by omega,by omega,by omega,by omega,h6.trans h5,rfl⟩,by(try dsimp only);omega⟩
   . exact⟨_,_,by omega,by omega,by omega,h5,rfl⟩
 . rintro y ⟨i,r',h1,h2,h3,h4,rfl⟩
   dsimp only;simp only[toNat_natCast];rw[w64s (n:=m-i) (by omega)];refine dZ (d316 o n (m-i) m i r' (by omega) (by omega) hn) ?_;rintro y ⟨r2,h6,rfl⟩;exact dP ⟨_,h6.trans h4,rfl⟩
theorem d311_0(G:T326)(hA:A.length<=1000000000000)(o n:Nat)(a i j:Int)(row:List Int)(ha:0<=a/\a<n)(hi:0<=i/\i<=j)(hj:j<=n)(hn:n<=100000000000000) :
 Df (C326_l0 G (((o:Int),(n:Int)),a,i,j,row,T,A,B,())) (λy=>∃(i':Int),i<=i'/\i'<=j/\y=(((o:Int),(n:Int)),a,i',row,T,A,B,())):=by
 refine dL ?I ?m ?h _ ?hv ?hn
 case I=>exact(λv=>∃(i':Int) (j':Int),i<=i'/\i'<=j'/\j'<=j/\v=(((o:Int),(n:Int)),a,i',j',row,T,A,B,()))
 case m=>exact(λv=>(v.2.2.2.1-v.2.2.1).toNat)
 case hv=>exact⟨i,j,Int.le_refl _,hi.2,Int.le_refl _,rfl⟩
 case hn=>exact(by(try dsimp only);omega)
 rintro v ⟨i',j',h1,h2,h3,rfl⟩;unfold F326_l0;dsimp only;simp only[toNat_natCast];rw[mid2 (by omega) (by omega) (by omega),w64s (n:=(i'+j')/2+1) (by omega)];with_reducible repeat' (first|apply dP|apply dX<;>intro _)
 . refine dZ (d278 hA _ _) ?_
   rintro⟨c,t,a',b',u⟩ hc;simp only[Prod.mk.injEq]at hc;obtain⟨rfl,rfl,rfl,-⟩:=hc;dsimp only;with_reducible repeat' (first|apply dP|apply dX<;>intro _)
   . exact⟨⟨_,_,by omega,by omega,by omega,rfl⟩,by(try dsimp only);omega⟩
   . exact⟨⟨_,_,by omega,by omega,by omega,rfl⟩,by(try dsimp only);omega⟩
 . refine dO ?_;omega
 . refine dO ?_;omega
 . exact⟨_,by omega,by omega,rfl⟩
theorem d311_2(G:T326)(hA:A.length<=1000000000000)(o n:Nat)(a i j:Int)(row:List Int)(ha:0<=a/\a<n)(hi:0<=i/\i<=j)(hj:j<=n)(hn:n<=100000000000000) :
 Df (C326_l2 G (((o:Int),(n:Int)),a,i,j,row,T,A,B,())) (λy=>∃(i':Int),i<=i'/\i'<=j/\y=(((o:Int),(n:Int)),a,i',row,T,A,B,())):=by
 refine dL ?I ?m ?h _ ?hv ?hn
 case I=>exact(λv=>∃(i':Int) (j':Int),i<=i'/\i'<=j'/\j'<=j/\v=(((o:Int),(n:Int)),a,i',j',row,T,A,B,()))
 case m=>exact(λv=>(v.2.2.2.1-v.2.2.1).toNat)
 case hv=>exact⟨i,j,Int.le_refl _,hi.2,Int.le_refl _,rfl⟩
 case hn=>exact(by(try dsimp only);omega)
 rintro v ⟨i',j',h1,h2,h3,rfl⟩;unfold F326_l2;dsimp only;simp only[toNat_natCast];rw[mid2 (by omega) (by omega) (by omega),w64s (n:=(i'+j')/2+1) (by omega)];with_reducible repeat' (first|apply dP|apply dX<;>intro _)
 . refine dZ (d278 hA _ _) ?_
   rintro⟨c,t,a',b',u⟩ hc;simp only[Prod.mk.injEq]at hc;obtain⟨rfl,rfl,rfl,-⟩:=hc;dsimp only;with_reducible repeat' (first|apply dP|apply dX<;>intro _)
   . exact⟨⟨_,_,by omega,by omega,by omega,rfl⟩,by(try dsimp only);omega⟩
   . exact⟨⟨_,_,by omega,by omega,by omega,rfl⟩,by(try dsimp only);omega⟩
 . refine dO ?_;omega
 . refine dO ?_;omega
 . exact⟨_,by omega,by omega,rfl⟩
theorem d311_1(G:T326)(o n:Nat)(i k:Int)(row:List Int)(hk:0<=k)(hi:i<=n)(hn:n<=100000000000000)(hi0:0<=i) :
 Df (C326_l1 G (((o:Int),(n:Int)),i,k,row,T,A,B,())) (λy=>∃(r':List Int),r'.length=row.length/\y=(r',T,A,B,())):=by
 refine dL ?I ?m ?h _ ?hv ?hn
 case I=>exact(λv=>∃(k':Int) (r':List Int),0<=k'/\r'.length=row.length/\v=(((o:Int),(n:Int)),i,k',r',T,A,B,()))
 case m=>exact(λv=>(i-v.2.2.1).toNat)
 case hv=>exact⟨k,row,hk,rfl,rfl⟩
 case hn=>exact(by(try dsimp only);omega)
 rintro v ⟨k',r',h1,h2,rfl⟩;unfold F326_l1;dsimp only;simp only[toNat_natCast];rw[w64s (n:=i-1) (by omega)];by_cases hlt:k'<i-1
 . rw[w64s (n:=k'+1) (by omega)]
   with_reducible repeat' (first|apply dP|apply dX<;>intro _)
   . exact⟨⟨_,_,by omega,by simp only[length_set];exact h2,rfl⟩,by(try dsimp only);omega⟩
   all_goals first|(refine dO ?_;omega)|(exfalso;omega)
 . rw[decide_eq_false hlt]
   exact dP ⟨_,h2,rfl⟩
theorem d311_3(G:T326)(o n:Nat)(i k:Int)(row:List Int)(hk:k<n)(hi:0<=i)(hn:n<=100000000000000) :
 Df (C326_l3 G (((o:Int),(n:Int)),i,k,row,T,A,B,())) (λy=>∃(r':List Int),r'.length=row.length/\y=(r',T,A,B,())):=by
 refine dL ?I ?m ?h _ ?hv ?hn
 case I=>exact(λv=>∃(k':Int) (r':List Int),k'<n/\r'.length=row.length/\v=(((o:Int),(n:Int)),i,k',r',T,A,B,()))
 case m=>exact(λv=>(v.2.2.1-i).toNat)
 case hv=>exact⟨k,row,hk,rfl,rfl⟩
 case hn=>exact(by(try dsimp only);omega)
 rintro v ⟨k',r',h1,h2,rfl⟩;unfold F326_l3;dsimp only;simp only[toNat_natCast];by_cases hlt:k'>i
 . rw[w64s (n:=k'-1) (by omega)]
   with_reducible repeat' (first|apply dP|apply dX<;>intro _)
   . exact⟨⟨_,_,by omega,by simp only[length_set];exact h2,rfl⟩,by(try dsimp only);omega⟩
   all_goals first|(refine dO ?_;omega)|(exfalso;omega)
 . rw[decide_eq_false hlt]
   exact dP ⟨_,h2,rfl⟩
theorem d311_4(G:T326)(hA:A.length<=1000000000000)(o n:Nat)(a m b mid s st r p:Int)(row:List Int)(h0:0<=st/\st<=r)(hr:r<=n)(hp:0<=p-r+1/\p-st<n)(hn:n<=100000000000000) :
 Df (C326_l4 G (((o:Int),(n:Int)),a,m,b,mid,s,st,r,p,row,T,A,B,())) (λy=>∃(st':Int),st<=st'/\st'<=r/\y=(((o:Int),(n:Int)),a,m,b,mid,s,st',row,T,A,B,())):=by
 refine dL ?I ?m ?h _ ?hv ?hn
 case I=>exact(λv=>∃(i':Int) (j':Int),st<=i'/\i'<=j'/\j'<=r/\v=(((o:Int),(n:Int)),a,m,b,mid,s,i',j',p,row,T,A,B,()))
 case m=>exact(λv=>(v.2.2.2.2.2.2.2.1-v.2.2.2.2.2.2.1).toNat)
 case hv=>exact⟨st,r,Int.le_refl _,h0.2,Int.le_refl _,rfl⟩
 case hn=>exact(by(try dsimp only);omega)
 rintro v ⟨i',j',h1,h2,h3,rfl⟩;unfold F326_l4;dsimp only;simp only[toNat_natCast];rw[mid2 (by omega) (by omega) (by omega)];by_cases hlt:i'<j'
 . rw[w64s (n:=(i'+j')/2+1) (by omega),w64s (n:=p-(i'+j')/2) (by omega)]
   with_reducible repeat' (first|apply dP|apply dX<;>intro _)
   . refine dZ (d278 hA _ _) ?_
     rintro⟨c,t,a',b',u⟩ hc;simp only[Prod.mk.injEq]at hc;obtain⟨rfl,rfl,rfl,-⟩:=hc;dsimp only;with_reducible repeat' (first|apply dP|apply dX<;>intro _)
     . exact⟨⟨_,_,by omega,by omega,by omega,rfl⟩,by(try dsimp only);omega⟩
     . exact⟨⟨_,_,by omega,by omega,by omega,rfl⟩,by(try dsimp only);omega⟩
   all_goals first|(refine dO ?_;omega)|(exfalso;omega)
 . rw[decide_eq_false hlt]
   exact dP ⟨_,by omega,by omega,rfl⟩
def Mg(T:List R6)(A:List R4)(B:List R3)(G:T326)(o n:Nat)(k:Int):Prop:=∀(a m b:Int) (row:List Int),0<=a->a<m->m<b->b<=n->b-a<k ->
 Df (G (((o:Int),(n:Int)),a,m,b,row,T,A,B,())) (λy=>∃(r':List Int),r'.length=row.length/\y=(r',T,A,B,()))
theorem d311_c0(G:T326)(o n:Nat)(k:Int)(hG:Mg T A B G o n k)(b mid e:Int)(row:List Int)(h:0<=mid/\b<=n/\b-mid<k) :
 Df (C326_c0 G (((o:Int),(n:Int)),b,mid,e,row,T,A,B,())) (λy=>∃(r':List Int),r'.length=row.length/\y=(r',T,A,B,())):=by
 show Df (F326_c0 C297 G C329 _) _;unfold F326_c0;dsimp only;simp only[toNat_natCast];with_reducible repeat' (first|apply dP|apply dX<;>intro _)
 . refine dZ (hG mid e b row (by omega) (by omega) (by omega) (by omega) (by omega)) ?_
   rintro y ⟨r',h,rfl⟩;exact dP ⟨_,h,rfl⟩
 . exact⟨_,rfl,rfl⟩
 . exact⟨_,rfl,rfl⟩
theorem d311_c1(G:T326)(o n:Nat)(k:Int)(hG:Mg T A B G o n k)(a b mid st e:Int)(row:List Int)(h0:0<=a/\mid<=n/\mid-a<k)(h:0<=mid/\b<=n/\b-mid<k) :
 Df (C326_c1 G (((o:Int),(n:Int)),a,b,mid,st,e,row,T,A,B,())) (λy=>∃(r':List Int),r'.length=row.length/\y=(r',T,A,B,())):=by
 show Df (F326_c1 C297 G C329 (C326_c0 G) _) _;unfold F326_c1;dsimp only;simp only[toNat_natCast];have fin:∀r0:List Int,r0.length=row.length->Df ((C326_c0 G (((o:Int),(n:Int)),b,mid,e,r0,T,A,B,())).bind λval=>some (val.fst,val.snd.fst,val.snd.snd.fst,val.snd.snd.snd.fst,())) (λy=>∃(r':List Int),r'.length=row.length/\y=(r',T,A,B,())):=by
  intro r0 hr;refine dZ (d311_c0 G o n k hG b mid e r0 h) ?_;rintro y ⟨r',h,rfl⟩;exact dP ⟨_,h.trans hr,rfl⟩
 with_reducible repeat' (first|apply dP|apply dX<;>intro _)
 . refine dZ (hG a st mid row (by omega) (by omega) (by omega) (by omega) (by omega)) ?_
   rintro y ⟨r',h,rfl⟩;exact fin r' h
 . exact fin row rfl
 . exact fin row rfl
theorem d311_c2(G:T326)(hA:A.length<=1000000000000)(o n:Nat)(k:Int)(hG:Mg T A B G o n k)(a m b mid s st r:Int)(row:List Int)(hn:n<=100000000000000)(hs:s=mid+m)(h0:0<=st/\st<=r)(hr:r<=n)(hp:0<=s-r/\s-st<=n)(ha:0<=a/\mid<=n/\mid-a<k)(h:0<=mid/\b<=n/\b-mid<k)(hm:m<=n) :
 Df (C326_c2 G (((o:Int),(n:Int)),a,m,b,mid,s,st,r,row,T,A,B,())) (λy=>∃(r':List Int),r'.length=row.length/\y=(r',T,A,B,())):=by
 show Df (F326_c2 C297 G C329 (C326_c1 G) (C326_l4 G) _) _;unfold F326_c2;dsimp only;simp only[toNat_natCast];rw[w64s (n:=s-1) (by omega)];refine dZ (d311_4 G hA o n a m b mid s st r (s-1) row h0 hr (by omega) hn) ?_;rintro y ⟨st',h1,h2,rfl⟩;dsimp only;simp only[toNat_natCast];rw[w64s (n:=s-st') (by omega)];have fin:∀r0:List Int,r0.length=row.length->Df ((C326_c1 G (((o:Int),(n:Int)),a,b,mid,st',s-st',r0,T,A,B,())).bind λval=>some (val.fst,val.snd.fst,val.snd.snd.fst,val.snd.snd.snd.fst,())) (λy=>∃(r':List Int),r'.length=row.length/\y=(r',T,A,B,())):=by
  intro r0 hr0;refine dZ (d311_c1 G o n k hG a b mid st' (s-st') r0 ha h) ?_;rintro y ⟨r',h,rfl⟩;exact dP ⟨_,h.trans hr0,rfl⟩
 with_reducible repeat' (first|apply dP|apply dX<;>intro _)
 . refine dZ (d315 o n st' m (s-st') row (by omega) (by omega) hn) ?_
   rintro y ⟨r',h,rfl⟩;exact fin r' h
 . exact fin row rfl
 . exact fin row rfl
def FF311(G:T326):T326:=F326 C297 G C329 (C326_c2 G) (C326_l0 G) (C326_l1 G) (C326_l2 G) (C326_l3 G)
theorem d311r(hA:A.length<=1000000000000)(o n:Nat)(hn:n<=100000000000000):∀k:Nat,Mg T A B (recN FF311 k) o n (k:Int)
 | 0=>λa m b row h0 h1 h2 h3 h4=>by omega
 | k+1=>λa m b row h0 h1 h2 h3 h4=>by
  have hG:=d311r hA o n hn k;show Df (FF311 (recN FF311 k) _) _;generalize recN FF311 k=G at hG ⊢;show Df (F326 C297 G C329 (C326_c2 G) (C326_l0 G) (C326_l1 G) (C326_l2 G) (C326_l3 G) _) _;unfold F326;dsimp only;simp only[toNat_natCast];rw[w64s (n:=m-a) (by omega),w64s (n:=b-m) (by omega),mid2 (by omega) (by omega) (by omega),w64s (n:=(a+b)/2+m) (by omega),w64s (n:=(a+b)/2+m-b) (by omega)];have fin:∀{x:Option (List Int×List R6×List R4×List R3×Unit)},Df x (λy=>∃(r':List Int),r'.length=row.length/\y=(r',T,A,B,()))->Df (x.bind λval=>some (val.fst,val.snd.fst,val.snd.snd.fst,val.snd.snd.snd.fst,())) (λy=>∃(r':List Int),r'.length=row.length/\y=(r',T,A,B,())):=by
   intro x hx;refine dZ hx ?_;rintro y ⟨r',h,rfl⟩;exact dP ⟨_,h,rfl⟩
  with_reducible repeat' (first|apply dP|apply dX<;>intro _)
  . refine dZ (d311_0 G hA o n a m b row (by omega) (by omega) (by omega) hn) ?_
    rintro y ⟨i',h5,h6,rfl⟩;dsimp only;simp only[toNat_natCast];exact fin (d311_1 G o n i' a row (by omega) (by omega) hn (by omega))
  . refine dZ (d311_2 G hA o n m a m row (by omega) (by omega) (by omega) hn) ?_
    rintro y ⟨i',h5,h6,rfl⟩;dsimp only;simp only[toNat_natCast];exact fin (d311_3 G o n i' m row (by omega) (by omega) hn)
  . exact fin (d311_c2 G hA o n k hG a m b ((a+b)/2) ((a+b)/2+m) ((a+b)/2+m-b) ((a+b)/2) row hn rfl (by omega) (by omega) (by omega) (by omega) (by omega) (by omega))
  . exact fin (d311_c2 G hA o n k hG a m b ((a+b)/2) ((a+b)/2+m) a m row hn rfl (by omega) (by omega) (by omega) (by omega) (by omega) (by omega))
theorem d311(hA:A.length<=1000000000000)(o n:Nat)(hn:n<=100000000000000)(a m b:Int)(row:List Int)(h0:0<=a)(h1:a<m)(h2:m<b)(h3:b<=n) :
 Df (C326 (((o:Int),(n:Int)),a,m,b,row,T,A,B,())) (λy=>∃(r':List Int),r'.length=row.length/\y=(r',T,A,B,())):=by
 show Df (recN FF311 big _) _;exact d311r hA o n hn big a m b row h0 h1 h2 h3 (by unfold big;omega)
theorem d299_0(hA:A.length<=1000000000000)(o n:Nat)(hn:n<=100000000000000)(row:List Int) :
 Df (C315_l0 (((o:Int),(n:Int)),(n:Int),20,0,20,row,T,A,B,())) (λy=>∃(a:Int) (r':List Int),0<=a/\a<=n/\r'.length=row.length/\y=(((o:Int),(n:Int)),(n:Int),20,a,r',T,A,B,())):=by
 refine dL ?I ?m ?h _ ?hv ?hn
 case I=>exact(λv=>∃(a:Int) (r':List Int),0<=a/\a<=n/\r'.length=row.length/\v=(((o:Int),(n:Int)),(n:Int),20,a,a+20,r',T,A,B,()))
 case m=>exact(λv=>(n-v.2.2.2.1).toNat)
 case hv=>exact⟨0,row,Int.le_refl _,by omega,rfl,rfl⟩
 case hn=>exact(by(try dsimp only);omega)
 rintro v ⟨a,r',h1,h2,h3,rfl⟩;unfold F315_l0;dsimp only;simp only[toNat_natCast];rw[w64s (n:=a+20+20) (by omega)];with_reducible repeat' (first|apply dP|apply dX<;>intro _)
 . refine dZ (d310 hA o n a (a+20) r' (by omega) (by omega) hn) ?_
   rintro y ⟨r2,h4,rfl⟩;exact dP ⟨⟨a+20,r2,by omega,by omega,h4.trans h3,rfl⟩,by(try dsimp only);omega⟩
 . exact⟨_,_,h1,h2,h3,rfl⟩
theorem d299_1(hA:A.length<=1000000000000)(o n:Nat)(hn:n<=100000000000000)(bs:Int)(hbs:1<=bs/\bs<=n)(row:List Int) :
 Df (C315_l1 (((o:Int),(n:Int)),(n:Int),bs,0,2*bs,row,T,A,B,())) (λy=>∃(a:Int) (r':List Int),0<=a/\a<=n/\r'.length=row.length/\y=(((o:Int),(n:Int)),(n:Int),bs,a,r',T,A,B,())):=by
 refine dL ?I ?m ?h _ ?hv ?hn
 case I=>exact(λv=>∃(a:Int) (r':List Int),0<=a/\a<=n/\r'.length=row.length/\v=(((o:Int),(n:Int)),(n:Int),bs,a,a+2*bs,r',T,A,B,()))
 case m=>exact(λv=>(n-v.2.2.2.1).toNat)
 case hv=>exact⟨0,row,Int.le_refl _,by omega,rfl,by rw[Int.zero_add]⟩
 case hn=>exact(by(try dsimp only);omega)
 rintro v ⟨a,r',h1,h2,h3,rfl⟩;unfold F315_l1;dsimp only;simp only[toNat_natCast];rw[w64s (n:=2*bs) (by omega),w64s (n:=a+bs) (by omega),w64s (n:=a+2*bs+2*bs) (by omega)];with_reducible repeat' (first|apply dP|apply dX<;>intro _)
 . refine dZ (d311 hA o n hn a (a+bs) (a+2*bs) r' (by omega) (by omega) (by omega) (by omega)) ?_
   rintro y ⟨r2,h4,rfl⟩;exact dP ⟨⟨a+2*bs,r2,by omega,by omega,h4.trans h3,rfl⟩,by(try dsimp only);omega⟩
 . exact⟨_,_,h1,h2,h3,rfl⟩
theorem d299(hA:A.length<=1000000000000)(o n:Nat)(hn:n<=100000000000000)(row:List Int) :
 Df (C315 (((o:Int),(n:Int)),(n:Int),row,T,A,B,())) (λy=>∃(r':List Int),r'.length=row.length/\y=(r',T,A,B,())):=by
 unfold C315 F315;dsimp only;simp only[toNat_natCast];refine dZ (d299_0 hA o n hn row) ?_;rintro y ⟨a,r1,h1,h2,h3,rfl⟩;dsimp only;simp only[toNat_natCast];refine dZ (d310 hA o n a n r1 (by omega) (by omega) hn) ?_;rintro y ⟨r2,h4,rfl⟩;dsimp only;refine dZ (P:=λy=>∃(r':List Int),r'.length=row.length/\y=(r',T,A,B,())) ?_ ?_
 . refine dL ?I ?m ?h _ ?hv ?hn
   case I=>exact(λv=>∃(bs:Int) (r':List Int),1<=bs/\bs<=400000000000000/\r'.length=row.length/\v=(((o:Int),(n:Int)),(n:Int),bs,r',T,A,B,()))
   case m=>exact(λv=>(n-v.2.2.1).toNat)
   case hv=>exact⟨20,r2,by omega,by omega,h4.trans h3,rfl⟩
   case hn=>exact(by(try dsimp only);omega)
   rintro v ⟨bs,r',h5,h6,h7,rfl⟩;unfold F315_l2;dsimp only;simp only[toNat_natCast];rw[w64s (n:=2*bs) (by omega)];with_reducible repeat' (first|apply dP|apply dX<;>intro _)
   . refine dZ (d299_1 hA o n hn bs (by omega) r') ?_
     rintro y ⟨a,r3,h8,h9,h10,rfl⟩;dsimp only;simp only[toNat_natCast];rw[w64s (n:=a+bs) (by omega),w64s (n:=bs*2) (by omega)];with_reducible repeat' (first|apply dP|apply dX<;>intro _)
     . refine dZ (d311 hA o n hn a (a+bs) n r3 (by omega) (by omega) (by omega) (by omega)) ?_
       rintro y ⟨r4,h11,rfl⟩;exact dP ⟨⟨_,_,by omega,by omega,(h11.trans h10).trans h7,rfl⟩,by(try dsimp only);omega⟩
     . exact⟨⟨_,_,by omega,by omega,h10.trans h7,rfl⟩,by(try dsimp only);omega⟩
   . exact⟨_,h7,rfl⟩
 . rintro y ⟨r',h,rfl⟩
   exact dP ⟨_,h,rfl⟩
theorem d277(hA:A.length<=1000000000000)(o n:Nat)(hn:n<=100000000000000)(row:List Int) :
 Df (C296 (((o:Int),(n:Int)),row,T,A,B,())) (λy=>∃(r':List Int),r'.length=row.length/\y=(r',T,A,B,())):=by
 unfold C296 F296;dsimp only;simp only[toNat_natCast];refine dZ (d299 hA o n hn row) ?_;rintro y ⟨r',h,rfl⟩;exact dP ⟨_,h,rfl⟩
theorem d239_0(hA:A.length<=1000000000000)(f k:Int)(row:List Int)(hf:0<=f/\f<=k)(hk:k<=row.length)(hn:row.length<=35184372088832) :
 Df (C271_c0 (f,k,T,A,B,row,())) (λy=>∃(r':List Int),r'.length=row.length/\y=(k+1,k,T,A,B,r',())):=by
 unfold C271_c0 F271_c0;dsimp only;rw[w64s (n:=k+1) (by omega)];with_reducible repeat' (first|apply dP|apply dX<;>intro _)
 . refine dZ (d277 hA f.toNat (k.toNat-f.toNat) (by omega) row) ?_
   rintro y ⟨r',h,rfl⟩;exact dP ⟨_,h,rfl⟩
 . refine dO ?_;omega
 . refine dO ?_;omega
theorem d239(hA:A.length<=1000000000000)(l:List Int)(hl:l.length<=35184372088832):Df (C271 (T,A,B,l,())) (λy=>y.1.length=l.length):=by
 unfold C271 F271;dsimp only;refine dZ (P:=λy=>y.1=l) ?_ ?_
 . unfold C294
   dsimp only;with_reducible repeat' (first|apply dP|apply dX<;>intro _)
   . rfl
   . refine dO ?_;omega
 rintro⟨l',u⟩ hl';dsimp only at hl' ⊢;subst hl';refine dZ (P:=λy=>y.1.length=l'.length) ?_ (λ_ h=>dP h);refine dL ?I ?m ?h _ ?hv ?hn
 case I=>exact(λv=>∃(f:Int) (k:Int) (r':List Int),0<=f/\f<=k/\k<=l'.length+1/\r'.length=l'.length/\v=(f,k,T,A,B,r',()))
 case m=>exact(λv=>(l'.length+1-v.2.1).toNat)
 case hv=>exact⟨0,0,l',Int.le_refl _,Int.le_refl _,by omega,rfl,rfl⟩
 case hn=>exact(by(try dsimp only);omega)
 rintro v ⟨f,k,r',h1,h2,h3,h4,rfl⟩;unfold F271_l0;dsimp only;rw[w64s (n:=k+1) (by omega)];have fin:k<=r'.length->Df ((C271_c0 (f,k,T,A,B,r',())).bind λval=>some (Sum.inl (val.fst,IntKind.i64.wrap (val.snd.fst+1),val.snd.snd.fst,val.snd.snd.snd.fst,val.snd.snd.snd.snd.fst,val.snd.snd.snd.snd.snd.fst,())))
  (Sum.elim (λv':Int×Int×List R6×List R4×List R3×List Int×Unit=>(∃(f:Int) (k:Int) (r':List Int),0<=f/\f<=k/\k<=l'.length+1/\r'.length=l'.length/\v'=(f,k,T,A,B,r',()))/\(l'.length+1-v'.2.1).toNat<(l'.length+1-k).toNat) (λy:List Int×Unit=>y.1.length=l'.length)):=by
  intro hk;refine dZ (d239_0 hA f k r' (by omega) hk (by omega)) ?_;rintro y ⟨r2,h5,rfl⟩;dsimp only;rw[w64s (n:=k+1) (by omega)];exact dP ⟨⟨_,_,_,by omega,by omega,by omega,h5.trans h4,rfl⟩,by(try dsimp only);omega⟩
 with_reducible repeat' (first|apply dP|apply dX<;>intro _)
 . refine dZ (d276 T A B _ hA) ?_
   rintro⟨c,u⟩ -
   dsimp only;with_reducible repeat' (first|apply dP|apply dX<;>intro _)
   . exact⟨⟨_,_,_,by omega,by omega,by omega,h4,rfl⟩,by(try dsimp only);omega⟩
   . exact fin (by omega)
 . refine dO ?_;omega
 . exact fin (by omega)
 . exact h4
end
section
variable {T:List R6} {A:List R4} {B:List R3}
theorem endF_total(f:Int->Option Int)(h:∀x,∃y,f x=some y):∀l:List (Int×Int),∃y,endF f l=some y
 | []=>⟨0,rfl⟩
 | x::l=>by
  obtain⟨b,hb⟩:=h x.2;simp only[endF,hb,Option.bind_some];cases (b != 6)with
  | true=>exact⟨b,rfl⟩
  | false=>exact endF_total f h l
theorem d186(h:TK T A B)(l:List Int)(hl:l.length<=1000000000000):Df (C188 (T,A,B,l,())) (λ_=>True):=by
 unfold C188;dsimp only;rw[decide_eq_true hl];obtain⟨y,hy⟩:=endF_total (λx=>(C228 (T,A,B,x,())).map λr=>r.1) (λx=>by
  obtain⟨y,e,-⟩:=d218 T A B x h.t;exact⟨y.1,by simp only[e,map_some]⟩) (bk l)
 exact⟨(y,()),by simp only[cond_true,hy,map_some],trivial⟩
theorem d154(h:TK T A B)(l:List Int)(hl:l.length<=1000000000000):Df (C154 (T,A,B,l,())) (λ_=>True):=by
 unfold C154 F154;dsimp only;refine dZ (d185 h l hl) ?_;rintro⟨z0,z1,z2,z3,z4,z5,z6,z7,u⟩ -
 refine dZ (d186 h l hl) ?_;rintro⟨e,u⟩ -
 refine dZ (d187 h l) ?_;rintro⟨s,u⟩ -
 dsimp only;with_reducible repeat' (first|apply dP|apply dX<;>intro _)
 . exact dZ (d154_1 _ _ _ rfl) λ_ _=>dP trivial
 . exact dZ (d154_1 _ _ _ rfl) λ_ _=>dP trivial
 . refine dZ (d153 h l hl) ?_
   rintro⟨b,u⟩ -
   dsimp only;with_reducible repeat' (first|apply dP|apply dX<;>intro _)
   all_goals trivial
 . trivial
theorem d262(h:TK T A B)(l:List Int)(hl:l.length<=1000000000000):Df (C251 (T,A,B,l,())) (λy=>y.2=(T,A,B,l,())):=by
 unfold C251 F251;dsimp only;refine dZ (d153 h l hl) ?_;rintro⟨b,u⟩ -
 dsimp only;with_reducible repeat' (first|apply dP|apply dX<;>intro _)
 . exact dZ (d154 h l hl) λ_ _=>dP rfl
 . rfl
theorem d213(h:TK T A B)(s:List UInt8)(a b:Bool)(hs:s.length<=100000000000):Df (C223 (T,A,B,s,a,b,())) (λy=>y.1.length<=384*s.length):=by
 unfold C223 F223;dsimp only;refine dZ (d83 s (by omega)) ?_;rintro⟨l,at_,u⟩ hl;dsimp only at hl ⊢;with_reducible repeat' (first|apply dP|apply dX<;>intro _)
 . exact(by simp:([]:List UInt8).length<=384*s.length)
 . refine dZ (d240 T A B l a (by omega)) ?_
   rintro⟨l2,u⟩ h2;dsimp only at h2 ⊢;refine dZ (d239 h.a l2 (by omega)) ?_;rintro⟨l3,u⟩ h3;dsimp only at h3 ⊢;with_reducible repeat' (first|apply dP|apply dX<;>intro _)
   . refine dZ (d241 T A B l3 (by omega) h.a) ?_
     rintro⟨l4,u⟩ h4;dsimp only at h4 ⊢;refine dZ (d178 l4 (by omega)) ?_;rintro⟨s5,b5,u⟩ h5;exact dP (by dsimp only at h5 ⊢;omega)
   . refine dZ (d178 l3 (by omega)) ?_
     rintro⟨s5,b5,u⟩ h5;exact dP (by dsimp only at h5 ⊢;omega)
theorem d181(h:TK T A B)(s:List UInt8)(hs:s.length<=100000000000):Df (C183 (T,A,B,s,())) (λy=>y.1.length<=384*s.length):=by
 unfold C183 F183;dsimp only;refine dZ (d213 h s false true hs) ?_;rintro⟨x,b,u⟩ hx;exact dP hx
theorem d151(h:TK T A B)(s:List UInt8)(hs:s.length<=10000000000):Df (C151 (T,A,B,s,())) (λy=>y.1.length<=1536*s.length):=by
 unfold C151 F151;dsimp only;refine dZ (d83 s (by omega)) ?_;rintro⟨l,at_,u⟩ hl;dsimp only at hl ⊢;with_reducible repeat' (first|apply dP|apply dX<;>intro _)
 . exact(by simp:([]:List UInt8).length<=1536*s.length)
 . refine dZ (d180 T A B l (by omega)) ?_
   rintro⟨l2,u⟩ h2;dsimp only at h2 ⊢;refine dZ (d179 T A B h.b l2 (by omega)) ?_;rintro⟨l3,u⟩ h3;dsimp only at h3 ⊢;refine dZ (d178 l3 (by omega)) ?_;rintro⟨s4,b4,u⟩ h4;dsimp only at h4 ⊢;refine dZ (d181 h s4 (by omega)) ?_;rintro⟨s5,b5,u⟩ h5;exact dP (by dsimp only at h5 ⊢;omega)
theorem d131(a b:List UInt8):Df (C112 (a,b,())) (λy=>y.1=true->b.length<=a.length):=by
 unfold C112 F112;dsimp only;with_reducible repeat' (first|apply dP|apply dX<;>intro _)
 . intro _;dsimp only at *;omega
 . refine dO ?_;omega
 . intro h;cases h
theorem d166(a b:List UInt8):Df (C145 (a,b,())) (λy=>y.1.length<=a.length):=by
 unfold C145 F145;dsimp only;refine dZ (d131 a b) ?_;rintro⟨x,u⟩ hx;dsimp only at hx ⊢;with_reducible repeat' (first|apply dP|apply dX<;>intro _)
 . exact le_refl _
 . exact(by simp:(List.drop _ a).length<=a.length)
 . rename_i h1 h2
   have:=hx h1;refine dO ?_;omega
theorem d132(a b:List UInt8):Df (C113 (a,b,())) (λy=>y.1.length<=a.length):=by
 unfold C113 F113;dsimp only;refine dZ (d166 a b) ?_;rintro⟨x,b,u⟩ hx;exact dP hx
theorem d96(a b:List UInt8):Df (C76 (a,b,())) (λ_=>True):=by
 unfold C76 F76;dsimp only;exact dZ (d131 a b) λ_ _=>dP trivial
theorem d308(a b:List UInt8)(ha:a.length<=1000000000000000)(hb:b.length<=1000000000000000):Df (C311 (a,b,())) (λ_=>True):=by
 unfold C311 F311;dsimp only;rw[w64s (n:=(a.length:Int)-(b.length:Int)) (by omega)];with_reducible repeat' (first|apply dP|apply dX<;>intro _)
 . trivial
 . refine dO ?_;omega
 . trivial
theorem d292(a b:List UInt8)(ha:a.length<=1000000000000000)(hb:b.length<=1000000000000000):Df (C289 (a,b,())) (λ_=>True):=by
 unfold C289 F289;dsimp only;exact dZ (d308 a b ha hb) λ_ _=>dP trivial
theorem d258(a:List UInt8)(ha:a.length<=1000000000000000):Df (C247 (a,())) (λ_=>True):=by
 unfold C247 F247;dsimp only;refine dZ (d96 _ _) ?_;rintro⟨x,u⟩ -
 dsimp only;with_reducible repeat' (first|apply dP|apply dX<;>intro _)
 . trivial
 . refine dZ (d292 _ _ ha (by simp)) ?_
   rintro⟨x,u⟩ -
   dsimp only;with_reducible repeat' (first|apply dP|apply dX<;>intro _)
   . trivial
   . trivial
   . refine dO ?_;omega
   . trivial
theorem d257(a:List UInt8)(ha:a.length<=1000000000000000):Df (C246 (a,())) (λy=>y.2.1=a):=by
 unfold C246 F246;dsimp only;exact dZ (d258 a ha) λ_ _=>dP rfl
theorem d256(h:TK T A B)(s:List UInt8)(hs:s.length<=100000000000):Df (C245 (T,A,B,s,())) (λ_=>True):=by
 unfold C245 F245;dsimp only;refine dZ (d181 h s hs) ?_;rintro⟨x,b,u⟩ -
 dsimp only;with_reducible repeat' (first|apply dP|apply dX<;>intro _)
 all_goals trivial
theorem d255(h:TK T A B)(s:List UInt8)(hs:s.length<=100000000000):Df (C244 (s,T,A,B,())) (λy=>y.2=(s,T,A,B,())/\(y.1=false->0<s.length)):=by
 unfold C244 F244;dsimp only;refine dZ (d21 s (by omega)) ?_;rintro⟨x,u⟩ hx;dsimp only at hx ⊢;with_reducible repeat' (first|apply dP|apply dX<;>intro _)
 . exact⟨rfl,λh=>by cases h⟩
 . refine dZ (d256 h s hs) ?_
   rintro⟨x,u⟩ -
   exact dP ⟨rfl,λ_=>by omega⟩
theorem d259(h:TK T A B)(l:List Int)(hl:0<l.length):Df (C248 (T,A,B,l,())) (λy=>y.2=(T,A,B,l,())):=by
 unfold C248 F248;dsimp only;with_reducible repeat' (first|apply dP|apply dX<;>intro _)
 . exact dZ (d215 T A B _ h.t) λ_ _=>dP rfl
 . refine dO ?_;omega
theorem d254(a:Int):Df (C243 (a,())) (λy=>y.2.1=a/\(y.1=false->a<0)):=by
 unfold C243 F243;dsimp only;refine dP ⟨rfl,λh => ?_⟩;dsimp only at h;simp only[decide_eq_false_iff_not]at h;omega
theorem d263(l:List Int)(a:List UInt8)(b:Bool)(hl:l.length<=1000000000000):Df (C252 (l,a,b,())) (λy=>y.2.1=l):=by
 unfold C252 F252;dsimp only;exact dZ (d223 l hl) λ_ _=>dP rfl
theorem d264(a:List UInt8):Df (C253 (a,())) (λ_=>True):=by
 unfold C253 F253;dsimp only;exact dP trivial
theorem d253(h:TK T A B)(a0 a1 a2 a3 a4 a5 a6 a7:Int)(at_:Int)(s:List UInt8)(l:List Int)(c:List UInt8)(d:Bool)(hs:s.length<=100000000000)(hl:l.length<=100000000000)(h0:at_<0->0<s.length->0<l.length) :
 Df (C242 (a0,a1,a2,a3,a4,a5,a6,a7,at_,s,T,A,B,l,c,d,())) (λ_=>True):=by
 unfold C242 F242;dsimp only;refine dZ (d254 at_) ?_;rintro⟨b,at',u⟩ hb;dsimp only at hb ⊢;obtain⟨rfl,hb⟩:=hb;with_reducible repeat' (first|apply dP|apply dX<;>intro _)
 . trivial
 . rename_i h1
   refine dZ (d255 h s hs) ?_;rintro⟨b2,y⟩ ⟨hy,h2⟩;dsimp only at hy h2;subst hy;dsimp only;with_reducible repeat' (first|apply dP|apply dX<;>intro _)
   . trivial
   . rename_i h3
     refine dZ (d257 s (by omega)) ?_;rintro⟨b3,s',u⟩ hs';dsimp only at hs' ⊢;with_reducible repeat' (first|apply dP|apply dX<;>intro _)
     . trivial
     . refine dZ (d259 h l (h0 (hb h1) (h2 h3))) ?_
       rintro⟨b4,y⟩ hy;dsimp only at hy;subst hy;dsimp only;with_reducible repeat' (first|apply dP|apply dX<;>intro _)
       . trivial
       . refine dZ (d260 h l (by omega)) ?_
         rintro⟨b5,y⟩ hy;dsimp only at hy;subst hy;dsimp only;with_reducible repeat' (first|apply dP|apply dX<;>intro _)
         . trivial
         . refine dZ (d262 h l (by omega)) ?_
           rintro⟨b6,y⟩ hy;dsimp only at hy;subst hy;dsimp only;with_reducible repeat' (first|apply dP|apply dX<;>intro _)
           . trivial
           . refine dZ (d263 l c d (by omega)) ?_
             rintro⟨b7,l',c',d',u⟩ -
             dsimp only;with_reducible repeat' (first|apply dP|apply dX<;>intro _)
             . trivial
             . refine dZ (d264 _) ?_
               rintro⟨b8,c8,u⟩ -
               dsimp only;with_reducible repeat' (first|apply dP|apply dX<;>intro _)
               all_goals trivial
theorem d224(h:TK T A B)(s:List UInt8)(hs:s.length<=100000000000):Df (C207 (T,A,B,s,())) (λ_=>True):=by
 unfold C207 F207;dsimp only;refine dZ (d83 s (by omega)) ?_;rintro⟨l,at_,u⟩ hl;dsimp only at hl ⊢;refine dZ (d253 h _ _ _ _ _ _ _ _ at_ s l _ _ hs (by omega) hl.2.2) ?_;rintro⟨e,y⟩ -
 exact dP trivial
theorem d268_0(a:Int)(b:Bool):Df (C257_c0 (a,b,())) (λ_=>True):=by
 unfold C257_c0 F257_c0;dsimp only;with_reducible repeat' (first|apply dP|apply dX<;>intro _)
 all_goals trivial
theorem d268_1(a:Int)(b:Bool):Df (C257_c1 (a,b,())) (λ_=>True):=by
 unfold C257_c1 F257_c1;dsimp only;with_reducible repeat' (first|apply dP|apply dX<;>intro _)
 all_goals first|trivial|exact dZ (d268_0 _ _) λ_ _=>dP trivial
theorem d268(a:Int):Df (C257 (a,())) (λ_=>True):=by
 unfold C257 F257;dsimp only;with_reducible repeat' (first|apply dP|apply dX<;>intro _)
 all_goals (refine dZ (d268_1 _ _) ?_;rintro⟨x,u⟩ -;dsimp only;(repeat' (first|with_reducible apply dP|(with_reducible apply dB<;>intro _)));all_goals trivial)
theorem d156(s:List UInt8)(b:Bool)(hs:s.length<=1000000000000000):Df (C132 (s,b,())) (λ_=>True):=by
 unfold C132 F132;dsimp only;refine dZ (P:=λ_=>True) ?_ (λz _=>by cases z<;>exact dP trivial);refine dL ?I ?m ?h _ ?hv ?hn
 case I=>exact(λv=>v.2.1.1=s/\0<=v.2.1.2)
 case m=>exact(λv=>s.length-v.2.1.2.toNat)
 case hv=>exact⟨rfl,Int.le_refl _⟩
 case hn=>exact(by(try dsimp only);omega)
 . rintro⟨x0,⟨x1,p⟩,u⟩ hI
   dsimp only at hI;obtain⟨rfl,h0⟩:=hI;unfold F132_l0;dsimp only;with_reducible repeat' (first|apply dP|apply dX<;>intro _)
   . refine dZ (d268 _) ?_
     rintro⟨x,u⟩ -
     dsimp only;have:=decR_pos x1 p.toNat
     with_reducible repeat' (first|apply dP|apply dX<;>intro _)
     . trivial
     . exact⟨⟨rfl,by(try dsimp only);omega⟩,by(try dsimp only);omega⟩
   . trivial
end
section
variable {T:List R6} {A:List R4} {B:List R3}
theorem d84(s:List UInt8)(hs:s.length<=1000000000000000):Df (C70 (s,())) (λ_=>True):=by
 unfold C70 F70;dsimp only;refine dZ (P:=λ_=>True) ?_ (λ_ _=>dP trivial);unfold C109 F109;dsimp only;exact dZ (d156 s true hs) λ_ _=>dP trivial
theorem d225(s:List UInt8)(hs:s.length<=1000000000000000):Df (C208 (s,())) (λ_=>True):=by
 unfold C208 F208;dsimp only;refine dZ (P:=λ_=>True) ?_ (λ_ _=>dP trivial);unfold C242v1 F242v1;dsimp only;refine dZ (P:=λy=>y.2.1=s) (dP rfl) ?_;rintro⟨b,s1,u⟩ h1;dsimp only at h1 ⊢;subst h1;with_reducible repeat' (first|apply dP|apply dX<;>intro _)
 . trivial
 . refine dZ (P:=λy=>y.2.1=s1) (dP rfl) ?_
   rintro⟨b,s2,u⟩ h2;dsimp only at h2 ⊢;subst h2;with_reducible repeat' (first|apply dP|apply dX<;>intro _)
   . trivial
   . refine dZ (P:=λy=>y.2.1=s2) ?_ ?_
     . unfold C256 F256
       dsimp only;exact dZ (d84 s2 hs) λ_ _=>dP rfl
     rintro⟨b,s3,u⟩ h3;dsimp only at h3 ⊢;subst h3;with_reducible repeat' (first|apply dP|apply dX<;>intro _)
     . trivial
     . refine dZ (P:=λ_=>True) ?_ ?_
       . unfold C258 F258
         dsimp only;exact dZ (d258 s3 hs) λ_ _=>dP trivial
       rintro⟨b,s4,u⟩ -
       dsimp only;with_reducible repeat' (first|apply dP|apply dX<;>intro _)
       all_goals trivial
theorem wu8'(n:Int):IntKind.u8.wrap n=n%256:=by simp[IntKind.wrap,IntKind.bits,IntKind.signed]
theorem d294_0(x:Int)(b:Bool)(hb:b=true->65<=x/\x<=90):Df (C291_c0 (x,b,())) (Sum.elim (λy=>0<=y.1/\y.1<=35) (λ_=>True)):=by
 unfold C291_c0 F291_c0;dsimp only;with_reducible repeat' (first|apply dP|apply dX<;>intro _)
 . rename_i h1
   have:=hb h1;rw[wu8',w64'];exact⟨by(try dsimp only);omega,by(try dsimp only);omega⟩
 . rw[wu8',w64']
   exact⟨by(try dsimp only);omega,by(try dsimp only);omega⟩
 all_goals trivial
theorem d294_1(x:Int)(b:Bool)(hb:b=true->48<=x/\x<=57):Df (C291_c1 (x,b,())) (Sum.elim (λy=>0<=y.1/\y.1<=35) (λ_=>True)):=by
 unfold C291_c1 F291_c1;dsimp only;with_reducible repeat' (first|apply dP|apply dX<;>intro _)
 . rename_i h1
   have:=hb h1;rw[wu8',w64',w64'];exact⟨by(try dsimp only);omega,by(try dsimp only);omega⟩
 . refine dZ (d294_0 x _ (λh=>by simp only[decide_eq_true_eq]at h;omega)) ?_
   intro z hz;exact dS hz (λa ha=>dP ha) (λ_ _=>dP trivial)
 . refine dZ (d294_0 x _ (λh=>by cases h)) ?_
   intro z hz;exact dS hz (λa ha=>dP ha) (λ_ _=>dP trivial)
theorem d294(x:Int):Df (C291 (x,())) (λy=>y.2.1=true->0<=y.1/\y.1<=35):=by
 unfold C291 F291;dsimp only;with_reducible repeat' (first|apply dP|apply dX<;>intro _)
 . refine dZ (d294_1 x _ (λh=>by simp only[decide_eq_true_eq]at h;omega)) ?_
   intro z hz;exact dS hz (λa ha=>dP λ_=>ha) (λ_ _=>dP λh=>by cases h)
 . refine dZ (d294_1 x _ (λh=>by cases h)) ?_
   intro z hz;exact dS hz (λa ha=>dP λ_=>ha) (λ_ _=>dP λh=>by cases h)
theorem d271_l(s:List UInt8)(b:Int)(hs:s.length<=1000000000000):Df (C260_l0 (s,b,0,1,(s.length:Int),0,())) (Sum.elim (λ_=>True) (Sum.elim (λ_=>True) (λy=>0<=y.1/\y.1<=2147483647/\y.2.1.length<s.length))):=by
 refine dL ?I ?m ?h _ ?hv ?hn
 case I=>exact(λv=>v.1=s/\0<=v.2.2.1/\v.2.2.1<=2147483647/\0<=v.2.2.2.1/\v.2.2.2.1<=75161927645/\v.2.2.2.2.1=s.length/\0<=v.2.2.2.2.2.1/\v.2.2.2.2.2.1<=s.length)
 case m=>exact(λv=>(s.length-v.2.2.2.2.2.1).toNat)
 case hv=>exact⟨rfl,by(try dsimp only);omega,by(try dsimp only);omega,by(try dsimp only);omega,by(try dsimp only);omega,rfl,by(try dsimp only);omega,by(try dsimp only);omega⟩
 case hn=>exact(by(try dsimp only);omega)
 rintro⟨x0,x1,x2,x3,x4,x5,u⟩ hI;dsimp only at hI;obtain⟨rfl,h0,h1,h2,h3,rfl,h4,h5⟩:=hI;unfold F260_l0;dsimp only;with_reducible repeat' (first|apply dP|apply dX<;>intro _)
 . refine dZ (d294 _) ?_
   rintro⟨d,ok,u⟩ hd;dsimp only at hd ⊢;refine dH (λ_=>dP trivial) (λhok => ?_);refine dD (λ_=>dP trivial) (λhw => ?_)
   . have zy:=hd hok
     have p0:0<=d*x3:=Int.mul_nonneg zy.1 h2;have p1:d*x3<=35*x3:=Int.mul_le_mul_of_nonneg_right zy.2 h2;generalize d*x3=P at p0 p1 ⊢;rw[w64s (n:=P) (by omega),w64s (n:=x2+P) (by omega),w64s (n:=x5+1) (by omega)];with_reducible repeat' (first|apply dP|apply dX<;>intro _)
     . trivial
     . refine dZ (d290 _ _) ?_
       rintro⟨t,u⟩ ht;dsimp only at ht ⊢;have q0:0<=x3*(36-t):=Int.mul_nonneg h2 (by omega);have q1:x3*(36-t)<=x3*35:=Int.mul_le_mul_of_nonneg_left (by omega) h2;rw[w64s (n:=36-t) (by omega)];generalize x3*(36-t)=R at q0 q1 ⊢;rw[w64s (n:=R) (by omega)];with_reducible repeat' (first|apply dP|apply dX<;>intro _)
       . refine⟨by(try dsimp only);omega,by(try dsimp only);omega,?_⟩
         simp only[length_drop];omega
       . refine dO ?_;omega
       . exact⟨⟨rfl,by(try dsimp only);omega,by(try dsimp only);omega,by(try dsimp only);omega,by(try dsimp only);omega,rfl,by(try dsimp only);omega,by(try dsimp only);omega⟩,by(try dsimp only);omega⟩
 . refine dO ?_;omega
 . trivial
theorem d271(s:List UInt8)(b:Int)(hs:s.length<=1000000000000):Df (C260 (s,b,())) (λy=>y.1<0\/(0<=y.1/\y.1<=2147483647/\y.2.1.length<s.length)):=by
 unfold C260 F260;dsimp only;refine dZ (d271_l s b hs) ?_;intro z hz;refine dS hz ?_ ?_
 . intro u _
   exact dP (.inl (by(try dsimp only);omega))
 . intro z2 hz2
   refine dS hz2 ?_ ?_
   . intro u _
     refine dZ (P:=λy=>y.1<0) ?_ ?_
     . refine dL ?I ?m ?h _ ?hv ?hn
       case I=>exact(λ_=>True)
       case m=>exact(λ_=>0)
       case hv=>exact trivial
       case hn=>exact(by(try dsimp only);omega)
       intro v _;unfold F260_g0;exact dP (by decide:(-1:Int)<0)
     . rintro⟨a,b,u⟩ h
       exact dP (.inl h)
   . rintro⟨a,b,u⟩ h
     exact dP (.inr h)
theorem d272(i:Int)(l:List Int)(x:Int)(hi:0<=i/\i<=l.length)(hl:l.length<=1000000000000):Df (C261 (i,l,[x],())) (λy=>y.1.length=l.length+1):=by
 unfold C261;dsimp only;rw[decide_eq_true hi.1,decide_eq_true hi.2,decide_eq_true hl];refine dP ?_;simp only[length_append,length_take,length_drop,length_cons,length_nil];omega
theorem d226_l(L:Nat)(hL:L<=1000000000000)(s:List UInt8)(out:List Int)(h:s.length+out.length<=L):Df (C209_l0 (s,128,0,72,true,out,())) (Sum.elim (λy=>y.1.length<=L) (λ_=>True)):=by
 refine dL ?I ?m ?h _ ?hv ?hn
 case I=>exact(λv=>v.1.length+v.2.2.2.2.2.1.length<=L/\128<=v.2.1/\v.2.1<=1114111/\0<=v.2.2.1/\v.2.2.1<=v.2.2.2.2.2.1.length)
 case m=>exact(λv=>v.1.length)
 case hv=>exact⟨h,by(try dsimp only);omega,by(try dsimp only);omega,by(try dsimp only);omega,by(try dsimp only);omega⟩
 case hn=>exact(by(try dsimp only);omega)
 rintro⟨x0,x1,x2,x3,x4,x5,u⟩ hI;dsimp only at hI;obtain⟨h0,h1,h2,h3,h4⟩:=hI;unfold F209_l0;dsimp only;rw[w64s (n:=(x5.length:Int)+1) (by omega)];with_reducible repeat' (first|apply dP|apply dX<;>intro _)
 . refine dZ (d271 x0 x3 (by omega)) ?_
   rintro⟨d,rest,u⟩ hd;dsimp only at hd ⊢;refine dD (λ_=>dP trivial) (λhneg => ?_)
   . have zy:=hd.resolve_left hneg
     rw[w64s (n:=x2+d) (by omega)];with_reducible repeat' (first|apply dP|apply dX<;>intro _)
     . trivial
     . refine dZ (d252 _ _ _ zy.1 (by omega)) ?_
       rintro⟨b,u⟩ -
       dsimp only;have q0:0<=(x2+d)/((x5.length:Int)+1):=ediv_nonneg (by omega) (by omega);have q1:(x2+d)/((x5.length:Int)+1)<=x2+d:=Int.ediv_le_self _ (by omega);have r0:0<=(x2+d)%((x5.length:Int)+1):=Int.emod_nonneg _ (by omega);have r1:(x2+d)%((x5.length:Int)+1)<(x5.length:Int)+1:=Int.emod_lt_of_pos _ (by omega);rw[tdiv_eq_ediv_of_nonneg (by omega),Int.tmod_eq_emod_of_nonneg (by omega)];generalize (x2+d)/((x5.length:Int)+1)=q at q0 q1 ⊢;generalize (x2+d)%((x5.length:Int)+1)=r at r0 r1 ⊢;rw[w64s (n:=q) (by omega),w64s (n:=x1+q) (by omega)];with_reducible repeat' (first|apply dP|apply dX<;>intro _)
       . trivial
       . refine dZ (d155 _) ?_
         rintro⟨ok,u⟩ -
         dsimp only;with_reducible repeat' (first|apply dP|apply dX<;>intro _)
         . trivial
         . refine dZ (d272 r x5 _ (by omega) (by omega)) ?_
           rintro⟨out',u⟩ ho;dsimp only at ho ⊢;rw[w64s (n:=r+1) (by omega)];exact dP ⟨⟨by(try dsimp only);omega,by(try dsimp only);omega,by(try dsimp only);omega,by(try dsimp only);omega,by(try dsimp only);omega⟩,by(try dsimp only);omega⟩
         . refine dO ?_;omega
       . refine dO ?_;omega
 . exact(by(try dsimp only);omega:x5.length<=L)
theorem d226_0(L:Nat)(hL:L<=1000000000000)(s:List UInt8)(out:List Int)(h:s.length+out.length<=L):Df (C209_c0 (s,out,())) (λy=>y.2.1.length<=L):=by
 unfold C209_c0 F209_c0;dsimp only;refine dZ (d226_l L hL s out h) ?_;intro z hz;refine dS hz ?_ ?_
 . rintro⟨a,u⟩ ha
   exact dP ha
 . rintro⟨a,u⟩ -
   exact dP (by simp)
theorem d270(s:List UInt8)(c:Int)(hs:s.length<=1000000000000):Df (C259 (s,c,())) (λy => -1<=y.1/\y.1<s.length):=by
 unfold C259 F259;dsimp only;refine dZ (P:=λy => -1<=y.1/\y.1<s.length) ?_ (λ_ h=>dP h);unfold C290 F290;dsimp only;rw[w64s (n:=(s.length:Int)-1) (by omega)];refine dZ (P:=Sum.elim (λ_=>True) (λy => -1<=y.1/\y.1<s.length)) ?_ ?_
 . refine dL ?I ?m ?h _ ?hv ?hn
   case I=>exact(λv=>v.1=s /\ -1<=v.2.2.1/\v.2.2.1<s.length)
   case m=>exact(λv=>(v.2.2.1+1).toNat)
   case hv=>exact⟨rfl,by(try dsimp only);omega,by(try dsimp only);omega⟩
   case hn=>exact(by(try dsimp only);omega)
   rintro⟨x0,x1,x2,u⟩ hI;dsimp only at hI;obtain⟨rfl,h0,h1⟩:=hI;unfold F290_l0;dsimp only;with_reducible repeat' (first|apply dP|apply dX<;>intro _)
   . exact⟨by(try dsimp only);omega,by(try dsimp only);omega⟩
   . rw[w64s (n:=x2-1) (by omega)]
     exact⟨⟨rfl,by(try dsimp only);omega,by(try dsimp only);omega⟩,by(try dsimp only);omega⟩
   . refine dO ?_;omega
   . trivial
 . intro z hz
   refine dS hz ?_ ?_
   . intro u _
     exact dP ⟨by(try dsimp only);omega,by(try dsimp only);omega⟩
   . rintro⟨a,u⟩ h
     exact dP h
theorem d226(s:List UInt8)(hs:s.length<=1000000000000):Df (C209 (s,())) (λy=>y.1.length<=s.length):=by
 unfold C209 F209;dsimp only;refine dZ (d21 s (by omega)) ?_;rintro⟨e,u⟩ he;dsimp only at he ⊢;with_reducible repeat' (first|apply dP|apply dX<;>intro _)
 . exact(by simp:([]:List Int).length<=s.length)
 . rename_i hneg
   have hall:=he.2 (by omega);refine dZ (d270 s 45 hs) ?_;rintro⟨k,u⟩ hk;dsimp only at hk ⊢;rw[w64s (n:=k+1) (by omega)];have hb:(decide ((List.take k.toNat s).length<=70368744177664)&&(List.take k.toNat s).all λb=>decide (b.toNat<128))=true:=by
    rw[decide_eq_true (by rw[length_take];omega),Bool.true_and,all_eq_true];intro c hc;exact decide_eq_true (hall c (List.mem_of_mem_take hc))
   rw[hb];simp only[cond_true];with_reducible repeat' (first|apply dP|apply dX<;>intro _)
   . refine dZ (d226_0 s.length hs _ _ (by simp only[length_drop,List.length_map,length_take];omega)) ?_
     rintro⟨a,b,u⟩ h;exact dP h
   . refine dO ?_;omega
   . refine dO ?_;omega
   . refine dZ (d226_0 s.length hs _ _ (by simp)) ?_
     rintro⟨a,b,u⟩ h;exact dP h
theorem d192(h:TK T A B)(s:List UInt8)(hs:s.length<=6000000):Df (C170 (T,A,B,s,())) (λy=>y.1.length<=200000000000/\y.2.1.length<=200000000000):=by
 unfold C170 F170;dsimp only;refine dZ (d151 h s (by omega)) ?_;rintro⟨f,ok,u⟩ hf;dsimp only at hf ⊢;refine dZ (d132 f _) ?_;rintro⟨rest,is,u⟩ hr;dsimp only at hr ⊢;with_reducible repeat' (first|apply dP|apply dX<;>intro _)
 . exact⟨by simp,by simp⟩
 . refine dZ (d21 f (by omega)) ?_
   rintro⟨e,u⟩ -
   dsimp only;with_reducible repeat' (first|apply dP|apply dX<;>intro _)
   . refine dZ (d83 f (by omega)) ?_
     rintro⟨l,at_,u⟩ hl;dsimp only at hl ⊢;refine dZ (d223 l (by omega)) ?_;rintro⟨code,b,u⟩ hc;dsimp only at hc ⊢;with_reducible repeat' (first|apply dP|apply dX<;>intro _)
     . refine dZ (d224 h f (by omega)) ?_
       rintro⟨w,u⟩ -
       exact dP ⟨by simp only[qk];omega,by(try dsimp only);omega⟩
     . refine dO ?_;simp only[length_cons,length_nil]at *;omega
   . refine dZ (d225 f (by omega)) ?_
     rintro⟨w,u⟩ -
     exact dP ⟨by(try dsimp only);omega,by(try dsimp only);omega⟩
   . refine dZ (d226 rest (by omega)) ?_
     rintro⟨l,ok2,u⟩ hl;dsimp only at hl ⊢;with_reducible repeat' (first|apply dP|apply dX<;>intro _)
     . exact⟨by simp,by simp⟩
     . exact⟨by simp,by simp⟩
     . refine dZ (d178 l (by omega)) ?_
       rintro⟨us,b,u⟩ hu;dsimp only at hu ⊢;refine dZ (d224 h us (by omega)) ?_;rintro⟨w,u⟩ -
       dsimp only;with_reducible repeat' (first|apply dP|apply dX<;>intro _)
       . exact⟨by simp,by simp⟩
       . refine dZ (d223 l (by omega)) ?_
         rintro⟨code,b,u⟩ -
         dsimp only;with_reducible repeat' (first|apply dP|apply dX<;>intro _)
         . exact⟨by simp,by simp⟩
         . exact⟨by(try dsimp only);omega,by(try dsimp only);omega⟩
theorem d159(h:TK T A B)(s:List UInt8)(hs:s.length<=6000000):Df (C142 (T,A,B,s,())) (λy=>y.1.length<=200000000000):=by
 unfold C142 F142;dsimp only;refine dZ (d192 h s hs) ?_;rintro⟨a,b,e,u⟩ ha;dsimp only at ha ⊢;with_reducible repeat' (first|apply dP|apply dX<;>intro _)
 . exact(by simp:([]:List UInt8).length<=200000000000)
 . exact ha.1
theorem d160(h:TK T A B)(s:List UInt8)(hs:s.length<=6000000):Df (C143 (T,A,B,s,())) (λy=>y.1.length<=200000000000):=by
 unfold C143 F143;dsimp only;refine dZ (d192 h s hs) ?_;rintro⟨a,b,e,u⟩ ha;dsimp only at ha ⊢;with_reducible repeat' (first|apply dP|apply dX<;>intro _)
 . exact(by simp:([]:List UInt8).length<=200000000000)
 . exact ha.2
theorem indexByte_lt(c:UInt8):∀l:List UInt8,Lib.indexByte l c<l.length
 | []=>by simp[Lib.indexByte]
 | b::l=>by
  have:=indexByte_lt c l;simp only[Lib.indexByte,length_cons];split
  . omega
  . split<;>omega
theorem d162(s:List UInt8)(c:Int):Df (C97 (s,c,())) (λy => -1<=y.1/\y.1<s.length):=by
 unfold C97 F97;dsimp only;exact dZ (P:=λy => -1<=y.1/\y.1<s.length) (dP ⟨Lib.indexByte_ge s _,indexByte_lt _ s⟩) λ_ h=>dP h
theorem d197_0(s:List UInt8)(b:Bool)(hb:b=true->0<s.length):Df (C160_c0 (s,[46],1,b,())) (λy => -1<=y.1/\y.1<s.length):=by
 unfold C160_c0 F160_c0;dsimp only;with_reducible repeat' (first|apply dP|apply dX<;>intro _)
 . rename_i h1
   have:=hb h1;exact⟨by(try dsimp only);omega,by(try dsimp only);omega⟩
 . exact dZ (d162 s _) λ_ h=>dP h
 . rename_i h1 h2 h3
   exact absurd (by decide:(0:Int)<(([46]:List UInt8).length:Int)) h3
 all_goals (exfalso;omega)
theorem d129(s:List UInt8)(hs:s.length<=1000000000000):Df (C98 (s,[46],())) (λy=>y.1.length<=s.length/\y.2.1.length<=s.length/\(y.2.2.1=true->y.2.1.length<s.length)):=by
 unfold C98 F98;dsimp only;refine dZ (P:=λy=>y.1.length<=s.length/\y.2.1.length<=s.length/\(y.2.2.1=true->y.2.1.length<s.length)) ?_ (λ_ h=>dP h);unfold C127 F127;dsimp only;refine dZ (P:=λy => -1<=y.1/\y.1<s.length) ?_ ?_
 . unfold C160 F160
   dsimp only;have e0:((([46]:List UInt8).length:Int)==0)=false:=rfl;rw[e0];simp only[cond_false];refine dZ (d197_0 s _ λh => ?_) λ_ h=>dP h;have:=eq_of_beq h;rw[<-this];decide
 rintro⟨k,u⟩ hk;dsimp only at hk ⊢;rw[show (([46]:List UInt8).length:Int)=1 from rfl,w64s (n:=k+1) (by omega)];with_reducible repeat' (first|apply dP|apply dX<;>intro _)
 . refine⟨?_,?_,λ_ => ?_⟩
   . simp only[length_take];omega
   . simp only[length_drop];omega
   . simp only[length_drop];omega
 . refine dO ?_;omega
 . refine dO ?_;omega
 . exact⟨le_refl _,by simp,λh=>by cases h⟩
theorem parts_total:∀(n:Nat) (s:List UInt8),s.length<n->s.length<=1000000000000->∃ps,partsC n s=some ps/\ps.length<=n/\∀p∈ps,p.length<=s.length
 | n+1,s,hn,hs=>by
  obtain⟨⟨a,b,ok,u⟩,e,h1,h2,h3⟩:=d129 s hs;dsimp only at h1 h2 h3;cases ok with
  | true =>
   have h4:=h3 rfl;obtain⟨ps,e2,h5,h6⟩:=parts_total n b (by omega) (by omega);refine⟨a::ps,by simp only[partsC,e,Option.bind_some,cond_true,e2,map_some],by simp only[length_cons];omega,?_⟩;intro p hp;rcases mem_cons.1 hp with rfl|hp
   . exact h1
   . have:=h6 p hp;omega
  | false =>
   refine⟨[a],by simp only[partsC,e,Option.bind_some,cond_false],by simp only[length_cons,length_nil];omega,?_⟩;intro p hp;rw[mem_singleton]at hp;subst hp;exact h1
end
section
variable {T:List R6} {A:List R4} {B:List R3}
theorem index_fit{s old:List UInt8}{i:Nat}(h:Lib.index s old=i):i+old.length<=s.length:=by
 have:=Lib.index_room s old (by omega);omega
theorem replaceK_le(old new:List UInt8)(hl:new.length<=old.length):∀(k:Nat) (s:List UInt8),(Lib.replaceK old new k s).length<=s.length
 | 0,s=>le_refl _
 | k+1,s=>by
  by_cases h:Lib.index s old = -1
  . rw[Lib.replaceK,if_pos (by rw[h];rfl)];exact le_refl _
  . obtain⟨i,hi⟩:∃i:Nat,Lib.index s old=i:=⟨(Lib.index s old).toNat,by have:=Lib.index_ge s old;omega⟩
    rw[Lib.replaceK_hit old new k s i hi];have h1:=replaceK_le old new hl k (s.drop (i+old.length));have h2:=index_fit hi;simp only[length_append,length_take,length_drop]at h1 ⊢;omega
theorem replaceAll_le(s old new:List UInt8)(hl:new.length<=old.length):(Lib.replaceAll s old new).length<=s.length:=by
 unfold Lib.replaceAll Lib.replace;split
 . exact le_refl _
 . exact replaceK_le old new hl _ s
theorem labels_total(f:List UInt8)(ok:Bool)(hf:f.length<=5000000):∃ls c,labelsF f ok=some (ls,c)/\ls.length<=32/\∀p∈ls,p.length<=5000000:=by
 unfold labelsF;cases ok with
 | false=>exact⟨[],7,rfl,by simp,λp hp=>by cases hp⟩
 | true =>
  cases hfe:f.isEmpty with
  | true=>exact⟨[],13,rfl,by simp,λp hp=>by cases hp⟩
  | false =>
   simp only[Bool.not_true,cond_false];rw[decide_eq_true (by omega)];simp only[cond_true];have hr:=replaceAll_le f [227,128,130] [46] (by decide);obtain⟨ps,e,h1,h2⟩:=parts_total (f.length+2) (Lib.replaceAll f [227,128,130] [46]) (by omega) (by omega);simp only[e,Option.bind_some];rw[decide_eq_true (by omega)];simp only[cond_true];by_cases h3:32<ps.length
   . rw[decide_eq_true h3]
     exact⟨[],2,rfl,by simp,λp hp=>by cases hp⟩
   . rw[decide_eq_false h3]
     exact⟨ps,0,rfl,by omega,λp hp=>by have:=h2 p hp;omega⟩
theorem lens_snoc(l:List (List UInt8))(x:List UInt8):Lib.lens (l++[x])=Lib.lens l+x.length:=by simp[Lib.lens]
theorem both_total(f g:List UInt8->Option (List UInt8×Int))(hf:∀x:List UInt8,x.length<=5000000->∃y,f x=some y/\y.1.length<=200000000000)(hg:∀x:List UInt8,x.length<=5000000->∃y,g x=some y/\y.1.length<=200000000000) :
 ∀(ls ps qs:List (List UInt8)) (n:Nat),(∀p∈ls,p.length<=5000000)->ps.length+ls.length<=32->qs.length+ls.length<=32->Lib.lens ps<=200000000000*n->Lib.lens qs<=200000000000*n->n+ls.length<=32 ->
  ∃r,bothF f g ls ps qs=some r/\r.2.1.length<=32/\r.2.2.length<=32/\Lib.lens r.2.1<=6400000000000/\Lib.lens r.2.2<=6400000000000
 | [],ps,qs,n,h,h1,h2,h3,h4,h5=>⟨(0,ps,qs),rfl,by simpa using h1,by simpa using h2,by simp only[length_nil]at h5;dsimp only;omega,by simp only[length_nil]at h5;dsimp only;omega⟩
 | x::ls,ps,qs,n,h,h1,h2,h3,h4,h5=>by
  obtain⟨a,ea,ha⟩:=hf x (h x mem_cons_self);obtain⟨b,eb,hb⟩:=hg x (h x mem_cons_self);simp only[bothF,ea,Option.bind_some];simp only[length_cons]at h1 h2 h5;cases hz:(a.2 != 0)with
  | true=>exact⟨(a.2,[],[]),rfl,by simp,by simp,by simp[Lib.lens],by simp[Lib.lens]⟩
  | false =>
   simp only[cond_false,eb,Option.bind_some];exact both_total f g hf hg ls (ps++[a.1]) (qs++[b.1]) (n+1) (λp hp=>h p (List.mem_cons_of_mem _ hp)) (by simp only[qk];omega) (by simp only[qk];omega)
    (by rw[lens_snoc];omega) (by rw[lens_snoc];omega) (by omega)
theorem join_total(l:List (List UInt8))(h1:l.length<=32)(h2:Lib.lens l<=6400000000000):∃r,joinF (l,[46],())=some (r,()):=by
 unfold joinF;have hj:(Lib.join l [46]).length<=140737488355328:=by
  cases l with
  | nil=>exact zero_le _
  | cons x r =>
   rw[Lib.join_length];simp only[length_cons,length_nil]at h1 ⊢;omega
 dsimp only;rw[decide_eq_true (by omega),decide_eq_true hj];exact⟨_,rfl⟩
theorem out_total(r:Int×List (List UInt8)×List (List UInt8))(h1:r.2.1.length<=32)(h2:r.2.2.length<=32)(h3:Lib.lens r.2.1<=6400000000000)(h4:Lib.lens r.2.2<=6400000000000):∃o,outF r=some o:=by
 unfold outF;cases (r.1 != 0)with
 | true=>exact⟨_,rfl⟩
 | false =>
  obtain⟨a,ha⟩:=join_total r.2.1 h1 h3;obtain⟨b,hb⟩:=join_total r.2.2 h2 h4;simp only[cond_false,ha,Option.bind_some,hb];cases decide (253<a.length)with
  | true=>exact⟨_,rfl⟩
  | false=>exact⟨_,rfl⟩
theorem d124(h:TK T A B)(s:List UInt8)(hs:s.length<=3000):∃y,C111 (T,A,B,s,())=some y:=by
 obtain⟨⟨f,ok,u⟩,e,hf⟩:=d151 h s (by omega);dsimp only at hf;obtain⟨ls,c,e2,hll,hls⟩:=labels_total f ok (by omega);unfold C111;dsimp only;simp only[e,Option.bind_some,e2];cases (c != 0)with
 | true=>exact⟨_,rfl⟩
 | false =>
  simp only[cond_false];rw[decide_eq_true hll];obtain⟨r,er,h1,h2,h3,h4⟩:=both_total (λx=>(C142 (T,A,B,x,())).map λr=>(r.1,r.2.1)) (λx=>(C143 (T,A,B,x,())).map λr=>(r.1,r.2.1))
   (λx hx=>by
    obtain⟨y,e,hy⟩:=d159 h x (by omega);exact⟨(y.1,y.2.1),by simp only[e,map_some],hy⟩)
   (λx hx=>by
    obtain⟨y,e,hy⟩:=d160 h x (by omega);exact⟨(y.1,y.2.1),by simp only[e,map_some],hy⟩)
   ls [] [] 0 hls (by simpa using hll) (by simpa using hll) (by simp[Lib.lens]) (by simp[Lib.lens]) (by simpa using hll)
  obtain⟨o,ho⟩:=out_total r h1 h2 h3 h4;simp only[cond_true,er,Option.bind_some,ho,map_some];exact⟨_,rfl⟩
end
section
variable {T:List R6} {A:List R4} {B:List R3}
theorem d86(a:List UInt8):Df (C72 (a,())) (λ_=>True):=by
 unfold C72 F72;dsimp only;refine dZ (P:=λ_=>True) ?_ (λz _=>dP trivial);unfold C76 F76;dsimp only;exact dZ (d131 a [91]) (λz _=>dP trivial)
end
section
variable {l:List Tok}
end
section
variable {T:List R6} {A:List R4} {B:List R3}
end
def lowb(b:UInt8):UInt8:=UInt8.ofNat (((C108 ((b.toNat:Int),())).getD (0,())).1.toNat)
theorem low_k:((List.range 256).all λn=>(C108 (((UInt8.ofNat n).toNat:Int),())).isSome)=true:=by kernel_rfl
theorem p64(b:UInt8):∃v:Int,C108 ((b.toNat:Int),())=some (v,())/\UInt8.ofNat v.toNat=lowb b:=by
 have h:=all_eq_true.1 low_k b.toNat (by simp only[List.mem_range];exact b.toNat_lt)
 simp only[UInt8.ofNat_toNat]at h;obtain⟨⟨v,u⟩,hv⟩:=Option.isSome_iff_exists.1 h;exact⟨v,hv,by unfold lowb;rw[hv];rfl⟩
theorem pl63:∀(r pre:List UInt8) (p n:Nat) (acc:List UInt8),pre.length=p->acc.length=p->r.length<n->p+r.length<=1000000000 ->
 loopN (F107_l0 C108) n (pre++r,((p+r.length:Nat):Int),(p:Int),acc,())=some (acc++r.map lowb,())
 | [],pre,p,n+1,acc,hp,ha,hn,hb=>by
  refine loopN_inr ?_;simp only[F107_l0,length_nil,Nat.add_zero];rw[decide_eq_false (by omega)];simp only[cond_false,List.map_nil,append_nil]
 | c::r,pre,p,n+1,acc,hp,ha,hn,hb=>by
  simp only[length_cons]at hn hb;obtain⟨v,hv,hl⟩:=p64 c;have hlen:(pre++c::r).length=p+r.length+1:=by simp[hp];omega
  rw[loopN_inl (v':=(pre++c::r,((p+(r.length+1):Nat):Int),((p+1:Nat):Int),acc++[lowb c],())) ?_]
  . have ih:=pl63 r (pre++[c]) (p+1) n (acc++[lowb c]) (by simp[hp]) (by simp[ha]) (by omega) (by omega)
    rw[show p+(r.length+1)=p+1+r.length by omega,show pre++c::r=(pre++[c])++r by simp,ih];simp
  . simp only[F107_l0,length_cons]
    rw[decide_eq_true (by omega),decide_eq_true (by omega),decide_eq_true (by omega)];simp only[Bool.and_self,cond_true,toNat_natCast];rw[show (pre++c::r).getD p 0=c by subst hp;simp];simp only[hv,Option.bind_some,hl,wrN p (by omega)];rw[decide_eq_true (by simp only[length_cons,length_nil];omega)];rfl
theorem p25(l:List UInt8)(h:l.length<=1000000000):C69 (l,())=some (l.map lowb,()):=by
 have hl:C107_l0 (l,(l.length:Int),0,[],())=some (l.map lowb,()):=by
  have h:=pl63 l [] 0 big [] rfl rfl (by unfold big;omega) (by omega);rw[Nat.zero_add]at h;exact h
 have h63:C107 (l,())=some (l.map lowb,()):=by
  show F107 C108 C107_l0 _=_;simp only[F107,hl,Option.bind_some]
 show F69 C107 _=_;simp only[F69,h63,Option.bind_some];rw[decide_eq_true (by omega)];rfl
section
variable {T:List R6} {A:List R4} {B:List R3}
end
theorem d195(s:List UInt8):Df (C219 (s,[46],())) (λy => -1<=y.1/\y.1<s.length):=by
 unfold C219 F219;dsimp only;refine dZ (P:=λy => -1<=y.1/\y.1<s.length) ?_ λ_ h=>dP h;unfold C160 F160;dsimp only;have e0:((([46]:List UInt8).length:Int)==0)=false:=rfl;rw[e0];simp only[cond_false];refine dZ (d197_0 s _ λh => ?_) λ_ h=>dP h;have:=eq_of_beq h;rw[<-this];decide
theorem d194(s:List UInt8):Df (C218 (s,[46],())) (λy=>0<=y.1/\y.1<=s.length):=by
 refine⟨((Lib.countByte s 46:Nat),()),rfl,Int.natCast_nonneg _,?_⟩;have:Lib.countByte s 46<=s.length:=List.count_le_length;dsimp only;omega
theorem d161_l(L n:Nat)(hn:1<=n)(hL:L<=1000000000000)(hnL:n<=1000000000000)(s:List UInt8)(hs:s.length<=L)(rows:List (List UInt8))(hr:rows.length=n)(ha:∀r∈rows,r.length<=L) :
 Df (C178_l0 (s,[46],0,(n:Int)-1,0,rows,())) (λy=>y.1.length<=L/\0<=y.2.1/\y.2.1<n/\y.2.2.1.length=n/\∀r∈y.2.2.1,r.length<=L):=by
 refine dL ?I ?m ?h _ ?hv ?hn
 case I=>exact(λv=>(v.2.1,v.2.2.1,v.2.2.2.1)=([46],0,(n:Int)-1)/\v.1.length<=L/\0<=v.2.2.2.2.1/\v.2.2.2.2.1<n/\v.2.2.2.2.2.1.length=n/\∀r∈v.2.2.2.2.2.1,r.length<=L)
 case m=>exact(λv=>(n-v.2.2.2.2.1).toNat)
 case hv=>exact⟨rfl,hs,Int.le_refl _,by(try dsimp only);omega,hr,ha⟩
 case hn=>exact(by(try dsimp only);omega)
 rintro⟨s',x1,x2,x3,i,rows,u⟩ ⟨e,i1,i2,i3,i4,i5⟩;dsimp only at e i1 i2 i3 i4 i5;cases e;unfold F178_l0;dsimp only;with_reducible repeat' (first|apply dP|apply dX<;>intro _)
 . refine dZ (d195 s') ?_
   rintro⟨m,u⟩ ⟨h1,h2⟩;dsimp only at h1 h2 ⊢;rw[w64s (n:=m+0) (by omega),w64s (n:=m+(([46]:List UInt8).length:Int)) (by simp only[length_cons,length_nil];omega)];with_reducible repeat' (first|apply dP|apply dX<;>intro _)
   . exact⟨i1,i2,i3,i4,i5⟩
   . rw[w64s (by omega)]
     refine⟨⟨rfl,by simp only[length_drop];omega,by(try dsimp only);omega,by(try dsimp only);omega,by simp only[length_set];omega,λr hr => ?_⟩,by(try dsimp only);omega⟩;dsimp only at hr;rcases List.mem_or_eq_of_mem_set hr with h|h
     . exact i5 r h
     . subst h;simp only[length_take];omega
   . refine dO ?_;rename_i hc;simp only[length_cons,length_nil]at hc;omega
   . refine dO ?_;omega
   . refine dO ?_;omega
 . exact⟨i1,i2,i3,i4,i5⟩
theorem d161(s:List UInt8)(hs:s.length<=1000000000):Df (C178 (s,[46],0,-1,())) (λy=>y.1.length<=s.length+1/\∀p∈y.1,p.length<=s.length):=by
 unfold C178 F178;dsimp only;rw[show ((-1:Int)==0)=false from rfl,show (([46]:List UInt8)==[])=false from rfl,show decide ((-1:Int)<0)=true from rfl];simp only[cond_false,cond_true];refine dZ (d194 s) ?_;rintro⟨c,u⟩ ⟨h1,h2⟩;dsimp only at h1 h2 ⊢;rw[w64s (n:=c+1) (by omega)];refine dZ (P:=λy=>y.1.length<=s.length+1/\∀p∈y.1,p.length<=s.length) ?_ λ_ h=>dP h;unfold C178_c0 F178_c0;dsimp only;rw[w64s (n:=(s.length:Int)+1) (by omega)];obtain⟨n,rfl⟩:∃n:Nat,c=(n:Int):=⟨c.toNat,by omega⟩
 have hif:(if(s.length:Int)+1<(n:Int)+1 then(s.length:Int)+1 else(n:Int)+1)=((n+1:Nat):Int):=by rw[if_neg (by omega)];omega
 simp only[hif];have hc:(decide (0<=((n+1:Nat):Int))&&(decide True&&(decide ((16:Int)*((n+1:Nat):Int)<=281474976710656)&&decide (((n+1:Nat):Int)<=140737488355328))))=true:=by
  simp only[and_eq_true,decide_eq_true_eq];exact⟨by omega,trivial,by omega,by omega⟩
 have hc':(decide (0<=((n+1:Nat):Int))&&(decide True&&(decide (((16:Nat):Int)*((n+1:Nat):Int)<=281474976710656)&&decide (((n+1:Nat):Int)<=140737488355328))))=true:=hc;first|rw[hc]|rw[hc']
 simp only[cond_true,toNat_natCast];rw[w64s (n:=((n+1:Nat):Int)-1) (by omega)];refine dZ (d161_l s.length (n+1) (by omega) (by omega) (by omega) s (le_refl _) (List.replicate (n+1) []) (by simp) (λr hr=>by rw[(List.mem_replicate.1 hr).2];exact zero_le _)) ?_;rintro⟨s',i,rows,u⟩ ⟨j1,j2,j3,j4,j5⟩;dsimp only at j1 j2 j3 j4 j5 ⊢;rw[w64s (n:=i+1) (by omega)];with_reducible repeat' (first|apply dP|apply dX<;>intro _)
 . refine⟨?_,λp hp => ?_⟩
   . simp only[length_take,length_set];omega
   . rcases List.mem_or_eq_of_mem_set (List.mem_of_mem_take hp)with h|h
     . exact j5 p h
     . subst h;exact j1
 . refine dO ?_;rename_i hc;simp only[length_set]at hc;omega
 . refine dO ?_;omega
theorem d47(s:List UInt8)(hs:s.length<=1000000000):Df (C232 (s,())) (λ_=>True):=by
 unfold C232 F232;dsimp only;refine dZ (P:=λ_=>True) ?_ (λz _=>by cases z<;>exact dP trivial);refine dL ?I ?m ?h _ ?hv ?hn
 case I=>exact(λv=>v.1=s/\v.2.1=s.length/\0<=v.2.2.1)
 case m=>exact(λv=>(s.length-v.2.2.1).toNat)
 case hv=>exact⟨rfl,rfl,Int.le_refl _⟩
 case hn=>exact(by(try dsimp only);omega)
 rintro⟨s',n,k,u⟩ ⟨h1,h2,h3⟩;dsimp only at h1 h2 h3;subst h1;subst h2;unfold F232_l0;dsimp only;with_reducible repeat' (first|apply dP|apply dX<;>intro _)
 . rw[c17]
   simp only[Option.bind_some];with_reducible repeat' (first|apply dP|apply dX<;>intro _)
   . trivial
   . rw[w64s (by omega)]
     exact⟨⟨rfl,rfl,by(try dsimp only);omega⟩,by(try dsimp only);omega⟩
 . refine dO ?_;omega
 . trivial
theorem d88(s:List UInt8)(hs:s.length<=1000000000):Df (C196 (s,())) (λ_=>True):=by
 unfold C196 F196;dsimp only;refine dZ (P:=λy=>y.1.length<=s.length+1/\∀p∈y.1,p.length<=s.length) ?_ ?_
 . unfold C149 F149
   dsimp only;exact dZ (d161 s hs) λ_ h=>dP h
 rintro⟨ps,u⟩ ⟨g1,g2⟩;dsimp only at g1 g2 ⊢;refine dZ (P:=λ_=>True) ?_ (λz _=>by cases z<;>exact dP trivial);refine dL ?I ?m ?h _ ?hv ?hn
 case I=>exact(λv=>v.1=ps/\v.2.1=ps.length/\0<=v.2.2.1)
 case m=>exact(λv=>(ps.length-v.2.2.1).toNat)
 case hv=>exact⟨rfl,rfl,Int.le_refl _⟩
 case hn=>exact(by(try dsimp only);omega)
 rintro⟨s',n,k,u⟩ ⟨h1,h2,h3⟩;dsimp only at h1 h2 h3;subst h1;subst h2;unfold F196_l0;dsimp only;with_reducible repeat' (first|apply dP|apply dX<;>intro _)
 . have hg:(s'.getD k.toNat [])∈s':=by rw[getD_lt (by omega)];exact getElem_mem _
   have:=g2 _ hg;refine dZ (d47 _ (by omega)) ?_;rintro⟨b,u⟩ -
   dsimp only;with_reducible repeat' (first|apply dP|apply dX<;>intro _)
   . trivial
   . rw[w64s (by omega)]
     exact⟨⟨rfl,rfl,by(try dsimp only);omega⟩,by(try dsimp only);omega⟩
 . refine dO ?_;omega
 . trivial
theorem d45(a b:List UInt8)(ha:a.length<=1100)(hb:b.length<=1100):Df (C158 (a,b,())) (λy=>y.1≠[]/\y.1.length<=2*a.length+b.length+3):=by
 unfold C158 F158;dsimp only;refine dZ (d88 a (by omega)) ?_;rintro⟨w,u⟩ -
 dsimp only;have he:=esc_len a;have hq:(src 1 a).length=(esc a).length+2:=by simp[src]
 with_reducible repeat' (first|apply dP|apply dX<;>intro _)
 . rw[c9 1 a 0 (by omega)]
   simp only[Option.bind_some];with_reducible repeat' (first|apply dP|apply dX<;>intro _)
   . exact⟨by simp,by simp only[qk];omega⟩
   all_goals (refine dO ?_;rename_i hc;simp only[qk]at hc;omega)
 . exact⟨by simp,by simp only[qk];omega⟩
 all_goals (refine dO ?_;rename_i hc;simp only[qk]at hc;omega)
theorem d59(n:Bool)(a b:List UInt8)(ha:a.length<=1100):Df (C50 (n,a,b,())) (λy=>y.1=true->n=false/\a≠[]):=by
 unfold C50 F50;dsimp only;with_reducible repeat' (first|apply dP|apply dX<;>intro _)
 . rename_i hn _
   rw[p25 a (by omega)];refine dP λh=>⟨hn,?_⟩
   rintro rfl;cases h
 . intro h;cases h
 . intro h;cases h
theorem d22(n:Bool)(a b:List UInt8)(ha:a.length<=1100)(hb:b.length<=1100):Df (C123 (n,a,b,())) (λy=>(n=true->y.1=[60,62])/\(n=false->∃x,x≠[]/\y.1=[60]++x++[62])/\y.1.length<=2*a.length+b.length+5):=by
 unfold C123 F123;dsimp only;with_reducible repeat' (first|apply dP|apply dX<;>intro _)
 . rename_i hn
   exact⟨λ_=>rfl,λh=>(by rw[hn]at h;cases h),by simp only[length_cons,length_nil];omega⟩
 . rename_i hn
   refine dZ (d59 n a b ha) ?_;rintro⟨m,u⟩ hm;dsimp only at hm ⊢;with_reducible repeat' (first|apply dP|apply dX<;>intro _)
   . rename_i h1 _ _
     exact⟨λh=>(by rw[hn]at h;cases h),λ_=>⟨a,(hm h1).2,rfl⟩,by simp only[qk];omega⟩
   . refine dO ?_;rename_i hc;simp only[qk]at hc;omega
   . refine dO ?_;rename_i hc;simp only[qk]at hc;omega
   . refine dZ (d45 a b ha hb) ?_
     rintro⟨x,u⟩ ⟨k1,k2⟩;dsimp only at k1 k2 ⊢;with_reducible repeat' (first|apply dP|apply dX<;>intro _)
     . exact⟨λh=>(by rw[hn]at h;cases h),λ_=>⟨x,k1,rfl⟩,by simp only[qk];omega⟩
     all_goals (refine dO ?_;rename_i hc;simp only[qk]at hc;omega)
section
variable {T:List R6} {A:List R4} {B:List R3}
end
section
variable {T:List R6} {A:List R4} {B:List R3}
end
theorem u190(x:Int):Df (C190 (x,())) (λ_=>True):=by
 unfold C190 F190;dsimp only;with_reducible repeat' (first|apply dP|apply dX<;>intro _)
 all_goals trivial
theorem u155_c4(x0:Int)(x1:Bool)(x2:List UInt8)(x3 x4:Int)(x5:Bool)(x6 x7:Int)(x8:List UInt8)(x9 x10:Int)(b:Bool) :
 Df (C155_c4 (x0,x1,x2,x3,x4,x5,x6,x7,x8,x9,x10,b,())) (Sum.elim (λy=>∃d,y=(x0,x1,x2,x3,x4,x5,x6,d,x8,x9,x10,())) (λy=>y.2.1=2)):=by
 unfold C155_c4 F155_c4;dsimp only;with_reducible repeat' (first|apply dP|apply dX<;>intro _)
 . refine dZ (u190 _) ?_
   rintro z -
   exact dP ⟨_,rfl⟩
 . exact rfl
theorem u155_c5(x0:Int)(x1:Bool)(x2:List UInt8)(x3 x4:Int)(x5:Bool)(x6 x7:Int)(x8:List UInt8)(x9 x10:Int)(b:Bool) :
 Df (C155_c5 (x0,x1,x2,x3,x4,x5,x6,x7,x8,x9,x10,b,())) (Sum.elim (λy=>∃d,y=(x0,x1,x2,x3,x4,x5,x6,d,x8,x9,x10,())) (λy=>y.2.1=2)):=by
 unfold C155_c5 F155_c5;dsimp only;with_reducible repeat' (first|apply dP|apply dX<;>intro _)
 . exact⟨_,rfl⟩
 . refine dZ (u190 _) ?_
   rintro z -
   with_reducible repeat' (first|apply dP|apply dX<;>intro _)
   . refine dZ (u190 _) ?_
     rintro z' -
     refine dZ (u155_c4 _ _ _ _ _ _ _ _ _ _ _ _) ?_;rintro (y|y) hy
     . obtain⟨d,rfl⟩:=hy
       exact dP ⟨d,rfl⟩
     . exact dP hy
   . refine dZ (u155_c4 _ _ _ _ _ _ _ _ _ _ _ _) ?_
     rintro (y|y) hy
     . obtain⟨d,rfl⟩:=hy
       exact dP ⟨d,rfl⟩
     . exact dP hy
theorem u155_c6(x0:Int)(x1:Bool)(x2:List UInt8)(x3 x4:Int)(x5:Bool)(x6 x7:Int)(x8:List UInt8)(x9 x10:Int) :
 Df (C155_c6 (x0,x1,x2,x3,x4,x5,x6,x7,x8,x9,x10,false,())) (Sum.elim (λ_=>False) (Sum.elim (λy=>∃d,y=(x0,x1,x2,x3,x4,x5,x6,d,x8,x9,x10,())) (λy=>y.2.1=2))):=by
 unfold C155_c6 F155_c6;dsimp only;rw[cond_false];with_reducible repeat' (first|apply dP|apply dX<;>intro _)
 . refine dZ (u155_c5 _ _ _ _ _ _ _ _ _ _ _ _) ?_
   rintro (y|y) hy
   . obtain⟨d,rfl⟩:=hy
     exact dP ⟨d,rfl⟩
   . exact dP hy
 . refine dZ (u155_c5 _ _ _ _ _ _ _ _ _ _ _ _) ?_
   rintro (y|y) hy
   . obtain⟨d,rfl⟩:=hy
     exact dP ⟨d,rfl⟩
   . exact dP hy
theorem u155_l(v)(hv:v.2.1=false/\v.2.2.2.2.2.1=false/\0<=v.2.2.2.2.2.2.2.2.2.1/\v.2.2.2.2.2.2.2.2.1=(v.2.2.2.2.2.2.2.1.length:Int)/\v.2.2.2.2.2.2.2.1.length<=100000) :
 Df (C155_l0 v) (Sum.elim (λy=>y.2.1=false) (λy=>y.2.1=1\/y.2.1=2)):=by
 refine dL ?I ?m ?h _ ?hv ?hn
 case I=>exact(λv=>v.2.1=false/\v.2.2.2.2.2.1=false/\0<=v.2.2.2.2.2.2.2.2.2.1/\v.2.2.2.2.2.2.2.2.1=(v.2.2.2.2.2.2.2.1.length:Int)/\v.2.2.2.2.2.2.2.1.length<=100000)
 case m=>exact(λv=>v.2.2.2.2.2.2.2.1.length-v.2.2.2.2.2.2.2.2.2.1.toNat)
 case hv=>exact hv
 case hn=>exact(by omega)
 rintro⟨x0,x1,x2,x3,x4,x5,x6,x7,x8,x9,u⟩ hI;dsimp only at hI;obtain⟨rfl,rfl,h0,rfl,hl⟩:=hI;unfold F155_l0;dsimp only;have hw:x9<(x7.length:Int)->IntKind.i64.wrap (x9+1)=x9+1:=λh=>w64s (by omega);with_reducible repeat' (first|apply dP|apply dX<;>intro _)
 . refine dZ (u155_c6 _ _ _ _ _ _ _ _ _ _ _) ?_
   rintro (y|y|y) hy
   . exact hy.elim
   . obtain⟨d,rfl⟩:=hy
     dsimp only[elim_inr,elim_inl];with_reducible repeat' (first|apply dP|apply dX<;>intro _)
     . exact .inr rfl
     . exact .inl rfl
     . exact .inl rfl
     . exact .inl rfl
     . rw[hw (by omega)]
       exact⟨⟨rfl,rfl,by(try dsimp only);omega,rfl,hl⟩,by(try dsimp only);omega⟩
   . exact dP (.inr hy)
 . refine dZ (u155_c6 _ _ _ _ _ _ _ _ _ _ _) ?_
   rintro (y|y|y) hy
   . exact hy.elim
   . obtain⟨d,rfl⟩:=hy
     dsimp only[elim_inr,elim_inl];with_reducible repeat' (first|apply dP|apply dX<;>intro _)
     . exact .inr rfl
     . exact .inl rfl
     . exact .inl rfl
     . exact .inl rfl
     . rw[hw (by omega)]
       exact⟨⟨rfl,rfl,by(try dsimp only);omega,rfl,hl⟩,by(try dsimp only);omega⟩
   . exact dP (.inr hy)
 . omega
 . rfl
theorem u155_c7(s s0:List UInt8)(c:Int)(hs:s.length<=100000):Df (C155_c7 (s,10,31,false,s0,c,())) (Sum.elim (λy=>y.2.1=1\/y.2.1=2) (λ_=>True)):=by
 unfold C155_c7 F155_c7;dsimp only;with_reducible repeat' (first|apply dP|apply dX<;>intro _)
 . refine dZ (u155_l _ ⟨rfl,rfl,Int.le_refl _,rfl,hs⟩) ?_
   rintro (y|y) hy
   . obtain⟨y1,y2,y3⟩:=y
     have hy':y2=false:=hy;subst hy';exact dP trivial
   . exact dP hy
 . omega
 . rename_i h
   exact(h (by decide)).elim
theorem u155(s:List UInt8)(hs:s.length<=100000):Df (C155 (s,10,31,())) (Sum.elim (λy=>y.2.1=1\/y.2.1=2) (λ_=>True)):=by
 have h3:C155_c3 (s,10,31,false,s,true,())=some (.inl (s,10,31,false,s,())):=rfl;have h8:C155_c8 (s,10,31,false,s,())=(C155_c7 (s,10,31,false,s,1844674407370955162,())).bind λval=>Sum.elim (λval=>some (Sum.inl (val.1,val.2.1,()))) (λval=>some (Sum.inr (val.1,()))) val:=rfl;unfold C155 F155;dsimp only;with_reducible repeat' (first|apply dP|apply dX<;>intro _)
 . exact .inr rfl
 . rw[show ((10:Int)==0)=false from rfl,show decide ((10:Int)<=36)=true from rfl,h3]
   simp only[Option.bind_some,elim_inl];rw[show ((31:Int)==0)=false from rfl,show decide ((31:Int)<0)=false from rfl,show decide ((31:Int)>64)=false from rfl,h8];simp only[cond_false];refine dZ (dZ (u155_c7 s s _ hs) (Q:=Sum.elim (λy=>y.2.1=1\/y.2.1=2) (λ_=>True)) ?_) ?_
   . rintro (y|y) hy
     . exact dP hy
     . exact dP trivial
   . rintro (y|y) hy
     . exact dP hy
     . exact dP trivial
 . rename_i h
   exact(h (by decide)).elim
theorem u119(s:List UInt8)(hs:s.length<=100000):Df (C119 (s,10,31,())) (λ_=>True):=by
 unfold C119 F119;dsimp only;refine dZ (u155 s hs) ?_;rintro (y|y) hy
 . obtain⟨y1,y2,u⟩:=y
   have h:C156 ([80,97,114,115,101,85,105,110,116],s,10,31,y2,())=some ():=if_pos ⟨by(try dsimp only);omega,hy⟩;dsimp only[elim_inl];rw[h];exact dP trivial
 . exact dP trivial
theorem d160k(c:UInt8)(s:List UInt8)(b:Bool)(hb:b=true->0<s.length):Df (C160_c0 (s,[c],1,b,())) (λy => -1<=y.1/\y.1<s.length):=by
 unfold C160_c0 F160_c0;dsimp only;with_reducible repeat' (first|apply dP|apply dX<;>intro _)
 . rename_i h1
   have:=hb h1;exact⟨by(try dsimp only);omega,by(try dsimp only);omega⟩
 . exact dZ (d162 s _) λ_ h=>dP h
 . rename_i h1 h2 h3
   exact absurd (show (0:Int)<(([c]:List UInt8).length:Int) by simp) h3
 all_goals (exfalso;omega)
theorem u98(c:UInt8)(s:List UInt8)(hs:s.length<=1000000000000):Df (C98 (s,[c],())) (λy=>y.1.length<=s.length/\y.2.1.length<=s.length):=by
 unfold C98 F98;dsimp only;refine dZ (P:=λy=>y.1.length<=s.length/\y.2.1.length<=s.length) ?_ (λ_ h=>dP h);unfold C127 F127;dsimp only;refine dZ (P:=λy => -1<=y.1/\y.1<s.length) ?_ ?_
 . unfold C160 F160
   dsimp only;have e0:((([c]:List UInt8).length:Int)==0)=false:=rfl;rw[e0];simp only[cond_false];refine dZ (d160k c s _ λh => ?_) λ_ h=>dP h;have:=eq_of_beq h;rw[<-this];simp
 rintro⟨k,u⟩ hk;dsimp only at hk ⊢;rw[show (([c]:List UInt8).length:Int)=1 from rfl,w64s (n:=k+1) (by omega)];with_reducible repeat' (first|apply dP|apply dX<;>intro _)
 . exact⟨by simp only[length_take];omega,by simp only[length_drop];omega⟩
 . refine dO ?_;omega
 . refine dO ?_;omega
 . exact⟨le_refl _,by simp⟩
theorem d84_l(ls:List (List UInt8))(hn:ls.length<=1000)(hl:∀x∈ls,x.length<=100000):Df (C84_l0 (ls,(ls.length:Int),0,[],())) (λy=>y.1.length=ls.length-1):=by
 refine dL ?I ?m ?h _ ?hv ?hn
 case I=>exact(λv=>v.1=ls/\v.2.1=(ls.length:Int)/\0<=v.2.2.1/\v.2.2.1<=(ls.length:Int)/\v.2.2.2.1.length=v.2.2.1.toNat-1)
 case m=>exact(λv=>ls.length-v.2.2.1.toNat)
 case hv=>exact⟨rfl,rfl,Int.le_refl _,by(try dsimp only);omega,rfl⟩
 case hn=>exact(by(try dsimp only);omega)
 rintro⟨x0,x1,x2,x3,u⟩ hI;dsimp only at hI;obtain⟨rfl,rfl,h0,h1,h2⟩:=hI;unfold F84_l0;dsimp only;have hw:x2<(x0.length:Int)->IntKind.i64.wrap (x2+1)=x2+1:=λh=>w64s (by omega);with_reducible repeat' (first|apply dP|apply dX<;>intro _)
 . have hm:(x0.getD x2.toNat []).length<=100000:=by
    rw[getD_lt (by omega)];exact hl _ (getElem_mem _)
   refine dZ (u98 32 _ (by omega)) ?_;rintro⟨y1,y2,y3,u⟩ hy;dsimp only at hy ⊢;rw[p25 y1 (by omega)];simp only[Option.bind_some];with_reducible repeat' (first|apply dP|apply dX<;>intro _)
   . rw[hw (by omega)]
     exact⟨⟨rfl,rfl,by(try dsimp only);omega,by(try dsimp only);omega,by simp only[qk];omega⟩,by(try dsimp only);omega⟩
   . rename_i hlen
     exact(hlen (by simp only[length_cons,length_nil];omega)).elim
 . rw[hw (by omega)]
   exact⟨⟨rfl,rfl,by(try dsimp only);omega,by(try dsimp only);omega,by(try dsimp only);omega⟩,by(try dsimp only);omega⟩
 . omega
 . show x3.length=x0.length-1
   omega
theorem d84k(c:Int)(ls:List (List UInt8))(hn:ls.length<=1000)(hl:∀x∈ls,x.length<=100000):Df (C84 (c,ls,())) (λy=>y.1.length=ls.length-1):=by
 unfold C84 F84;dsimp only;exact dZ (d84_l ls hn hl) λ_ h=>dP h
theorem d86k(ls:List (List UInt8))(s:List UInt8)(hn:ls.length<=1000000):Df (C86 (ls,s,())) (λy=>y.1<ls.length):=by
 unfold C86 F86;dsimp only;refine dZ (P:=Sum.elim (λ_=>True) (λy=>y.1<(ls.length:Int))) ?_ ?_
 . refine dL ?I ?m ?h _ ?hv ?hn
   case I=>exact(λv=>v.1=ls/\v.2.2.1=(ls.length:Int)/\0<=v.2.2.2.1)
   case m=>exact(λv=>ls.length-v.2.2.2.1.toNat)
   case hv=>exact⟨rfl,rfl,Int.le_refl _⟩
   case hn=>exact(by(try dsimp only);omega)
   rintro⟨x0,x1,x2,x3,u⟩ hI;dsimp only at hI;obtain⟨rfl,rfl,h0⟩:=hI;unfold F86_l0;dsimp only;with_reducible repeat' (first|apply dP|apply dX<;>intro _)
   . dsimp only[elim_inr];omega
   . rw[w64s (n:=x3+1) (by omega)]
     exact⟨⟨rfl,rfl,by(try dsimp only);omega⟩,by(try dsimp only);omega⟩
   . omega
   . trivial
 . rintro (y|y) hy
   . exact dP (by(try dsimp only);omega)
   . exact dP hy
theorem d85k(ls:List (List UInt8))(s:List UInt8)(hn:ls.length<=1000000):Df (C85 (ls,s,())) (λ_=>True):=by
 unfold C85 F85;dsimp only;exact dZ (d86k ls s hn) λ_ _=>dP trivial
theorem d87k(s:List UInt8)(hs:s.length<=100000):Df (C87 (s,())) (λ_=>True):=by
 unfold C87 F87;dsimp only;refine dZ (u98 32 s (by omega)) ?_;rintro⟨y1,y2,y3,u⟩ hy;dsimp only at hy ⊢;refine dZ (u119 y2 (by omega)) ?_;rintro (z|z) -
 . exact dP trivial
 . dsimp only[elim_inr]
   with_reducible repeat' (first|apply dP|apply dX<;>intro _)
   all_goals trivial
theorem c34(c:Int):Df (C34 (c,())) (λy=>(y.1=2↔200<=c/\c<300)/\0<=y.1/\y.1<=5):=by
 unfold C34 F34;dsimp only;refine dZ (P:=λy=>y.1=true↔200<=c/\c<=599) ?_ ?_
 . unfold C55 F55
   dsimp only;with_reducible repeat' (first|apply dP|apply dX<;>intro _)
   . simp only[decide_eq_true_eq];omega
   . simp;omega
 . rintro⟨y,u⟩ hy
   dsimp only at hy ⊢;cases y with
   | false =>
    have:¬(200<=c/\c<=599):=λh=>by have:=hy.2 h;cases this
    exact dP ⟨by(try dsimp only);omega,by(try dsimp only);omega,by(try dsimp only);omega⟩
   | true =>
    have h:=hy.1 rfl;have e:Int.tdiv c 100=c/100:=by rw[tdiv_eq_ediv_of_nonneg (by omega)]
    rw[e,w64s (n:=c/100) (by omega)];exact dP ⟨by(try dsimp only);omega,by(try dsimp only);omega,by(try dsimp only);omega⟩
theorem d59k(c:Int)(ls:List (List UInt8))(hn:ls.length<=1000)(hl:∀x∈ls,x.length<=100000):Df (C59 (c,ls,())) (λ_=>True):=by
 unfold C59 F59;dsimp only;refine dZ (c34 c) ?_;rintro⟨y,u⟩ -
 with_reducible repeat' (first|apply dP|apply dX<;>intro _)
 . trivial
 . refine dZ (d84k c ls hn hl) ?_
   rintro⟨ks,u⟩ hk;dsimp only at hk ⊢;refine dZ (d85k ks _ (by omega)) ?_;rintro⟨b1,u1⟩ -
   refine dZ (d85k ks _ (by omega)) ?_;rintro⟨b2,u2⟩ -
   refine dZ (d86k ks _ (by omega)) ?_;rintro⟨k,u3⟩ hkl;dsimp only at hkl ⊢;have hw:0<=k->IntKind.i64.wrap (k+1)=k+1:=λh=>w64s (by omega);with_reducible repeat' (first|apply dP|apply dX<;>intro _)
   . rename_i hk0 hk1
     rw[hw (by omega)]at hk1 ⊢;refine dZ (d87k _ ?_) λ_ _=>dP trivial;rw[getD_lt (by omega)];exact hl _ (getElem_mem _)
   . rename_i hk0 hk1
     rw[hw (by omega)]at hk1;exact(hk1 ⟨by omega,by omega⟩).elim
   . trivial
theorem d112k(s p:List UInt8):Df (C112 (s,p,())) (λy=>y.1=decide (s.take p.length=p)):=by
 unfold C112 F112;dsimp only;with_reducible repeat' (first|apply dP|apply dX<;>intro _)
 . have hb:(s.take p.length==p)=decide (s.take p.length=p):=by
    by_cases h:s.take p.length=p
    . rw[decide_eq_true h,h,beq_self_eq_true]
    . rw[decide_eq_false h,beq_eq_false_iff_ne.2 h]
   exact hb
 . rename_i h1 h2
   exact(h2 ⟨by omega,by omega⟩).elim
 . rename_i h1
   have hne:¬s.take p.length=p:=λh=>by
    have:=congrArg List.length h;simp only[length_take]at this;omega
   exact(decide_eq_false hne).symm
theorem d76k(s p:List UInt8):Df (C76 (s,p,())) (λy=>y.1=decide (s.take p.length=p)):=by
 unfold C76 F76;dsimp only;exact dZ (d112k s p) λ_ h=>dP h
section
variable {T:List R6} {A:List R4} {B:List R3}
theorem b111{v}{y}(h:C111 v=some y):y.1.length<=253:=by
 obtain⟨t0,t1,t2,s,u⟩:=v;have h1:((C151 (t0,t1,t2,s,())).bind λf=>(labelsF f.1 f.2.1).bind λlc =>
  bif lc.2 != 0 then some ([],[],lc.2,())else
  bif decide (lc.1.length<=32)then
   (bothF (λx=>(C142 (t0,t1,t2,x,())).map λr=>(r.1,r.2.1)) (λx=>(C143 (t0,t1,t2,x,())).map λr=>(r.1,r.2.1)) lc.1 [] []).bind λres=>(outF res).map λo=>(o.1,o.2.1,o.2.2,())
  else none)=some y:=h
 obtain⟨f,_,h2⟩:=bind_eq_some_iff.1 h1;obtain⟨lc,_,h3⟩:=bind_eq_some_iff.1 h2;rcases cond_some h3 with⟨_,h4⟩|⟨_,h4⟩
 . cases h4;exact zero_le _
 . rcases cond_some h4 with⟨_,h5⟩|⟨_,h5⟩
   . obtain⟨res,_,h6⟩:=bind_eq_some_iff.1 h5
     obtain⟨o,h7,rfl⟩:=Option.map_eq_some_iff.1 h6;unfold outF at h7;rcases cond_some h7 with⟨_,h8⟩|⟨_,h8⟩
     . cases h8;exact zero_le _
     . obtain⟨ja,_,h9⟩:=bind_eq_some_iff.1 h8
       rcases cond_some h9 with⟨_,h10⟩|⟨hl,h10⟩
       . cases h10;exact zero_le _
       . obtain⟨ju,_,h11⟩:=bind_eq_some_iff.1 h10
         cases h11;have:=of_decide_eq_false hl;dsimp only;omega
   . cases h5
theorem t74(h:TK T A B)(s:List UInt8)(hs:s.length<=3000):Df (C74 (T,A,B,s,())) (λy=>y.1.length<=253):=by
 unfold C74 F74;dsimp only;obtain⟨y,e⟩:=d124 h s hs;exact dZ (P:=λy=>y.1.length<=253) ⟨y,e,b111 e⟩ (λz hz=>dP hz)
theorem t157(h:TK T A B)(s:List UInt8)(hs:s.length<=1000):Df (C157 (T,A,B,s,())) (λy=>y.1.length<=1000):=by
 unfold C157 F157;dsimp only;refine dZ (t74 h s (by omega)) ?_;rintro⟨y1,y2,u⟩ hy;dsimp only at hy ⊢;with_reducible repeat' (first|apply dP|apply dX<;>intro _)
 . refine dZ (d21 s (by omega)) ?_
   rintro⟨k,u⟩ -
   dsimp only;with_reducible repeat' (first|apply dP|apply dX<;>intro _)
   . exact hs
   . first|omega|(first|omega|(dsimp only;omega))
 . first|omega|(first|omega|(dsimp only;omega))
theorem t120c(h:TK T A B)(x:Bool)(a b:List UInt8)(ha:a.length<=1000)(hb:b.length<=1000):Df (C120_c0 (x,T,A,B,a,b,[],[],())) (Sum.elim (λy=>y.2.1.length<=1000/\y.2.2.1.length<=1000) (λy=>y=(T,A,B,a,b,[],[],()))):=by
 unfold C120_c0 F120_c0;dsimp only;with_reducible repeat' (first|apply dP|apply dX<;>intro _)
 . exact⟨zero_le _,zero_le _⟩
 . refine dZ (d86 _) ?_
   rintro⟨k,u⟩ -
   dsimp only;with_reducible repeat' (first|apply dP|apply dX<;>intro _)
   . exact⟨ha,hb⟩
   . exact rfl
theorem t120(h:TK T A B)(a b:List UInt8)(ha:a.length<=1000)(hb:b.length<=1000):Df (C120 (T,A,B,a,b,())) (λy=>y.1.length<=1000/\y.2.1.length<=1000):=by
 have go:∀x:Bool,Df ((C120_c0 (x,T,A,B,a,b,[],[],())).bind λval =>
  Sum.elim (λval=>some (val.2.1,val.2.2.1,val.1,()))
   (λval =>
    (C157 (val.1,val.2.1,val.2.2.1,val.2.2.2.2.1,())).bind λval_1 =>
     bif val_1.2.1 != 0 then some ([],[],val_1.2.1,())
     else some (val.2.2.2.1,val_1.1,0,()))
   val) (λy=>y.1.length<=1000/\y.2.1.length<=1000):=by
  intro x;refine dZ (t120c h x a b ha hb) ?_;rintro (y|y) hy
  . exact dP hy
  . have hy':y=(T,A,B,a,b,[],[],()):=hy
    subst hy';dsimp only[elim_inr];refine dZ (t157 h b hb) ?_;rintro⟨y1,y2,u⟩ hy1;dsimp only at hy1 ⊢;with_reducible repeat' (first|apply dP|apply dX<;>intro _)
    . exact⟨zero_le _,zero_le _⟩
    . exact⟨ha,hy1⟩
 unfold C120 F120;dsimp only;refine dZ (d21 a (by omega)) ?_;rintro⟨k,u⟩ -
 dsimp only;with_reducible repeat' (first|apply dP|apply dX<;>intro _)
 . exact go true
 . refine dZ (d86 _) ?_
   rintro⟨k',u⟩ -
   dsimp only;with_reducible repeat' (first|apply dP|apply dX<;>intro _)
   . refine dZ (d21 b (by omega)) ?_
     rintro⟨k',u⟩ -
     exact go _
   . exact go false
theorem t89(h:TK T A B)(n:Bool)(a b:List UInt8)(ha:a.length<=1000)(hb:b.length<=1000):Df (C89 (T,A,B,n,a,b,())) (λy=>y.2.1.length<=1000/\y.2.2.1.length<=1000):=by
 unfold C89 F89;dsimp only;with_reducible repeat' (first|apply dP|apply dX<;>intro _)
 . exact⟨ha,hb⟩
 . refine dZ (d59 n a b (by omega)) ?_
   rintro⟨k,u⟩ -
   dsimp only;with_reducible repeat' (first|apply dP|apply dX<;>intro _)
   . exact⟨ha,hb⟩
   . refine dZ (t120 h a b ha hb) ?_
     rintro⟨y1,y2,y3,u⟩ hy;dsimp only at hy ⊢;with_reducible repeat' (first|apply dP|apply dX<;>intro _)
     . exact⟨zero_le _,zero_le _⟩
     . exact hy
theorem t88(h:TK T A B)(n:Bool)(a b:List UInt8)(n':Bool)(a' b':List UInt8)(hd bd:Bool)(z k:Int)(m:Bool)(c d:List UInt8)(m':Bool)(c' d':List UInt8)(u e:Bool)(s:Int)(ha:a.length<=1000)(hb:b.length<=1000)(ha':a'.length<=1000)(hb':b'.length<=1000) :
 Df (C88 (T,A,B,n,a,b,n',a',b',hd,bd,z,k,m,c,d,m',c',d',u,e,s,())) (λy=>∃g p1 c d p2 c' d',y=(g,T,A,B,n,a,b,n',a',b',hd,bd,z,k,p1,c,d,p2,c',d',u,e,s,())/\c.length<=1000/\d.length<=1000/\c'.length<=1000/\d'.length<=1000):=by
 unfold C88 F88;dsimp only;refine dZ (t89 h n a b ha hb) ?_;rintro⟨y1,y2,y3,y4,q⟩ ⟨hy1,hy2⟩;refine dZ (t89 h n' a' b' ha' hb') ?_;rintro⟨z1,z2,z3,z4,q'⟩ ⟨hz1,hz2⟩;dsimp only at hy1 hy2 hz1 hz2 ⊢;with_reducible repeat' (first|apply dP|apply dX<;>intro _)
 . exact⟨_,_,_,_,_,_,_,rfl,hy1,hy2,hz1,hz2⟩
 . exact⟨_,_,_,_,_,_,_,rfl,hy1,hy2,hz1,hz2⟩
def ChB(t:Int×Bool×List UInt8×List UInt8×Bool×List UInt8×List UInt8×Bool×Bool×Int×Unit):Prop:=(t.2.2.1.length<=1000/\t.2.2.2.1.length<=1000)/\t.2.2.2.2.2.1.length<=1000/\t.2.2.2.2.2.2.1.length<=1000
abbrev CsK:=(Int×Bool×List UInt8×List UInt8×Bool×List UInt8×List UInt8×Bool×Bool×Int×Unit)⊕(Int×Bool×List UInt8×List UInt8×Bool×List UInt8×List UInt8×Bool×Bool×Int×(Int×Bool×List UInt8×List UInt8×Bool×List UInt8×List UInt8×Bool×Bool×Int×Unit))
def CsB:CsK->Prop:=Sum.elim ChB (λz=>ChB z.2.2.2.2.2.2.2.2.2.2)
theorem nil_B(k s:Int)(p q:Bool):ChB (k,false,[],[],false,[],[],p,q,s,()):=⟨⟨zero_le _,zero_le _⟩,zero_le _,zero_le _⟩
theorem t60_c0(x:Bool)(n:Bool)(a b:List UInt8)(n':Bool)(a' b':List UInt8)(p1 p2:Bool)(z k:Int)(m:Bool)(c d:List UInt8)(m':Bool)(c' d':List UInt8)(u e:Bool)(s:Int)(hc:c.length<=1000)(hd:d.length<=1000)(hc':c'.length<=1000)(zy:d'.length<=1000) :
 Df (C60_c0 (x,n,a,b,n',a',b',p1,p2,z,0,false,[],[],false,[],[],false,false,0,k,m,c,d,m',c',d',u,e,s,())) CsB:=by
 unfold C60_c0 F60_c0;dsimp only;with_reducible repeat' (first|apply dP|apply dX<;>intro _)
 . exact dP (nil_B _ _ _ _)
 all_goals exact⟨⟨hc,hd⟩,hc',zy⟩
theorem t121(n:Bool)(a b:List UInt8)(ha:a.length<=1000)(hb:b.length<=1000):Df (C121 (n,a,b,())) (λ_=>True):=by
 unfold C121 F121;dsimp only;refine dZ (d21 a (by omega)) ?_;rintro⟨k,u⟩ -
 dsimp only;with_reducible repeat' (first|apply dP|apply dX<;>intro _)
 . trivial
 . obtain⟨⟨z,u⟩,e,-⟩:=d76k b [91]
   rw[e];dsimp only[Option.bind_some];with_reducible repeat' (first|apply dP|apply dX<;>intro _)
   . refine dZ (d21 b (by omega)) ?_
     rintro⟨k,u⟩ -
     exact dP trivial
   . trivial
theorem t91(n:Bool)(a b:List UInt8)(n':Bool)(a' b':List UInt8)(hd bd:Bool)(z:Int)(ha:a.length<=1000)(hb:b.length<=1000)(ha':a'.length<=1000)(hb':b'.length<=1000):Df (C91 (n,a,b,n',a',b',hd,bd,z,())) (λ_=>True):=by
 unfold C91 F91;dsimp only;with_reducible repeat' (first|apply dP|apply dX<;>intro _)
 . trivial
 . refine dZ (t121 n a b ha hb) ?_
   rintro⟨k,u⟩ -
   dsimp only;with_reducible repeat' (first|apply dP|apply dX<;>intro _)
   . trivial
   . refine dZ (t121 n' a' b' ha' hb') ?_
     rintro⟨k,u⟩ -
     exact dP trivial
theorem t92(n:Bool)(a b:List UInt8)(ha:a.length<=1000)(hb:b.length<=1000):Df (C92 (n,a,b,())) (λ_=>True):=by
 unfold C92 F92;dsimp only;with_reducible repeat' (first|apply dP|apply dX<;>intro _)
 . refine dZ (d21 (a++b) (by simp only[length_append];omega)) ?_
   rintro⟨k,u⟩ -
   exact dP trivial
 . omega
theorem t60_c1(h:TK T A B)(x U E:Bool)(Z:Int)(n:Bool)(a b:List UInt8)(n':Bool)(a' b':List UInt8)(hd bd:Bool)(by':Int)(ha:a.length<=1000)(hb:b.length<=1000)(ha':a'.length<=1000)(hb':b'.length<=1000)(u e:Bool)(s:Int) :
 Df (C60_c1 (x,U,E,Z,n,a,b,n',a',b',hd,bd,by',0,false,[],[],false,[],[],false,false,0,0,n,a,b,n',a',b',u,e,s,T,A,B,())) CsB:=by
 unfold C60_c1 F60_c1;dsimp only;with_reducible repeat' (first|apply dP|apply dX<;>intro _)
 . exact dP (nil_B _ _ _ _)
 . refine dZ (t91 n a b n' a' b' hd bd by' ha hb ha' hb') ?_
   rintro⟨k,u⟩ -
   dsimp only;with_reducible repeat' (first|apply dP|apply dX<;>intro _)
   . exact⟨⟨ha,hb⟩,ha',hb'⟩
   . refine dZ (t92 n a b ha hb) ?_
     rintro⟨k,u⟩ -
     dsimp only;with_reducible repeat' (first|apply dP|apply dX<;>intro _)
     . exact⟨⟨ha,hb⟩,ha',hb'⟩
     . refine dZ (t92 n' a' b' ha' hb') ?_
       rintro⟨k,u⟩ -
       exact dP ⟨⟨ha,hb⟩,ha',hb'⟩
 . refine dZ (t91 n a b n' a' b' hd bd by' ha hb ha' hb') ?_
   rintro⟨k,u⟩ -
   dsimp only;with_reducible repeat' (first|apply dP|apply dX<;>intro _)
   . refine dZ (t60_c0 true n a b n' a' b' hd bd by' 0 n a b n' a' b' _ _ _ ha hb ha' hb') ?_
     rintro (y|y) hy
     . exact dP hy
     . exact dP hy
   . refine dZ (t88 h n a b n' a' b' hd bd by' 0 n a b n' a' b' _ e s ha hb ha' hb') ?_
     rintro _ ⟨g,p1,c,d,p2,c',d',rfl,h1,h2,h3,h4⟩;dsimp only;refine dZ (t60_c0 _ n a b n' a' b' hd bd by' 0 p1 c d p2 c' d' _ _ _ h1 h2 h3 h4) ?_;rintro (y|y) hy
     . exact dP hy
     . exact dP hy
theorem t60_c2(h:TK T A B)(x U E:Bool)(Z:Int)(n:Bool)(a b:List UInt8)(n':Bool)(a' b':List UInt8)(hd bd:Bool)(by':Int)(ha:a.length<=1000)(hb:b.length<=1000)(ha':a'.length<=1000)(hb':b'.length<=1000)(u e:Bool)(s:Int) :
 Df (C60_c2 (x,U,E,Z,n,a,b,n',a',b',hd,bd,by',0,false,[],[],false,[],[],false,false,0,0,n,a,b,n',a',b',u,e,s,T,A,B,())) CsB:=by
 unfold C60_c2 F60_c2;dsimp only;with_reducible repeat' (first|apply dP|apply dX<;>intro _)
 . exact dP (nil_B _ _ _ _)
 . refine dZ (P:=λ_=>True) ?_ ?_
   . unfold C23 F23
     dsimp only;with_reducible repeat' (first|apply dP|apply dX<;>intro _)
     all_goals trivial
   . rintro⟨k,q⟩ -
     refine dZ (t60_c1 h _ U E Z n a b n' a' b' hd bd by' ha hb ha' hb' u e s) ?_;rintro (y|y) hy
     . exact dP hy
     . exact dP hy
 . refine dZ (t60_c1 h _ U E Z n a b n' a' b' hd bd by' ha hb ha' hb' u e s) ?_
   rintro (y|y) hy
   . exact dP hy
   . exact dP hy
theorem t60_c3(h:TK T A B)(U E:Bool)(Z:Int)(n:Bool)(a b:List UInt8)(n':Bool)(a' b':List UInt8)(hd bd:Bool)(by':Int)(ha:a.length<=1000)(hb:b.length<=1000)(ha':a'.length<=1000)(hb':b'.length<=1000)(u e:Bool)(s:Int) :
 Df (C60_c3 (T,A,B,U,E,Z,n,a,b,n',a',b',hd,bd,by',0,false,[],[],false,[],[],false,false,0,0,n,a,b,n',a',b',u,e,s,())) ChB:=by
 unfold C60_c3 F60_c3;dsimp only;with_reducible repeat' (first|apply dP|apply dX<;>intro _)
 . refine dZ (t60_c2 h _ U E Z n a b n' a' b' hd bd by' ha hb ha' hb' u e s) ?_
   rintro (y|y) hy
   . exact dP hy
   . exact dP hy
 . refine dZ (t60_c2 h _ U E Z n a b n' a' b' hd bd by' ha hb ha' hb' u e s) ?_
   rintro (y|y) hy
   . exact dP hy
   . exact dP hy
theorem t60(h:TK T A B)(U E:Bool)(Z:Int)(n:Bool)(a b:List UInt8)(n':Bool)(a' b':List UInt8)(hd bd:Bool)(by':Int)(ha:a.length<=1000)(hb:b.length<=1000)(ha':a'.length<=1000)(hb':b'.length<=1000) :
 Df (C60 (T,A,B,U,E,Z,n,a,b,n',a',b',hd,bd,by',())) ChB:=by
 unfold C60 F60;dsimp only;with_reducible repeat' (first|apply dP|apply dX<;>intro _)
 . exact dZ (t60_c3 h U E Z n a b n' a' b' hd _ by' ha hb ha' hb' _ _ _) λ_ h=>dP h
 . exact dZ (t60_c3 h U E Z n a b n' a' b' hd _ by' ha hb ha' hb' _ _ _) λ_ h=>dP h
theorem t93m(n:Bool)(a b:List UInt8)(e u:Bool)(ha:a.length<=1000)(hb:b.length<=1000) :
 Df (C93 (2,[],n,a,b,-1,e,u,())) (λy=>y.1.length<=10000/\∃z q,C123 (n,a,b,())=some (z,())/\y.1=[77,65,73,76]++([32,70,82,79,77,58]++z)++q/\(∀c∈q,c.toNat<128)):=by
 obtain⟨⟨z,q⟩,e22,-,-,hz⟩:=d22 n a b (by omega) (by omega);dsimp only at hz;have w:C122 (2,())=some ([77,65,73,76],()):=rfl;have c1:C93_c1 ([77,65,73,76],2,false,2,[],n,a,b,-1,e,u,())=some (.inr ([77,65,73,76]++([32,70,82,79,77,58]++z)++((bif e then [32,66,79,68,89,61,56,66,73,84,77,73,77,69]else [])++(bif u then [32,83,77,84,80,85,84,70,56]else [])),())):=by
  show F93_c1 C122 C123 C124 C93_c0 _=_;have c0:∀x:List UInt8,x.length<=100000->C93_c0 (x,2,[],n,a,b,-1,e,u,())=some (x++((bif e then [32,66,79,68,89,61,56,66,73,84,77,73,77,69]else [])++(bif u then [32,83,77,84,80,85,84,70,56]else [])),()):=by
   intro x hx;show F93_c0 C122 C123 C124 _=_;cases e<;>cases u<;>simp only[F93_c0,cond_true,cond_false,qk,append_nil,List.nil_append,append_assoc]
   . rw[decide_eq_true (by omega)];rfl
   . rw[decide_eq_true (by omega)];rfl
   . rw[decide_eq_true (by omega),decide_eq_true (by omega)];rfl
  simp only[F93_c1,cond_false,show ((2:Int)==3)=false from rfl,show ((2:Int)==2)=true from rfl,cond_true,e22,Option.bind_some,show decide ((-1:Int)>=0)=false from rfl];rw[decide_eq_true (by simp only[length_cons,length_nil];omega),decide_eq_true (by simp only[qk];omega),c0 _ (by simp only[qk];omega)];rfl
 have e93:C93 (2,[],n,a,b,-1,e,u,())=some ([77,65,73,76]++([32,70,82,79,77,58]++z)++((bif e then [32,66,79,68,89,61,56,66,73,84,77,73,77,69]else [])++(bif u then [32,83,77,84,80,85,84,70,56]else [])),()):=by
  show F93 C122 C123 C124 C93_c1 _=_;simp only[F93,w,Option.bind_some,show ((2:Int)==0)=false from rfl,cond_false,show ((2:Int)==1)=false from rfl,c1,elim_inr]
 refine⟨_,e93,?_,z,_,e22,rfl,?_⟩
 . dsimp only
   cases e<;>cases u<;>simp only[cond_true,cond_false,qk]<;>omega
 . cases e<;>cases u<;>decide
theorem t93r(n:Bool)(a b:List UInt8)(ha:a.length<=1000)(hb:b.length<=1000) :
 Df (C93 (3,[],n,a,b,-1,false,false,())) (λy=>y.1.length<=10000/\∃z,C123 (n,a,b,())=some (z,())/\y.1=[82,67,80,84]++[32,84,79,58]++z):=by
 obtain⟨⟨z,q⟩,e22,-,-,hz⟩:=d22 n a b (by omega) (by omega);dsimp only at hz;have w:C122 (3,())=some ([82,67,80,84],()):=rfl;have c1:C93_c1 ([82,67,80,84],3,false,3,[],n,a,b,-1,false,false,())=some (.inl ([82,67,80,84]++[32,84,79,58]++z,())):=by
  show F93_c1 C122 C123 C124 C93_c0 _=_;simp only[F93_c1,cond_false,show ((3:Int)==3)=true from rfl,cond_true,e22,Option.bind_some];rw[decide_eq_true (by simp only[length_cons,length_nil];omega),decide_eq_true (by simp only[qk];omega)];rfl
 have e93:C93 (3,[],n,a,b,-1,false,false,())=some ([82,67,80,84]++[32,84,79,58]++z,()):=by
  show F93 C122 C123 C124 C93_c1 _=_;simp only[F93,w,Option.bind_some,show ((3:Int)==0)=false from rfl,cond_false,show ((3:Int)==1)=false from rfl,c1,elim_inl]
 refine⟨_,e93,?_,z,e22,rfl⟩;dsimp only;simp only[qk];omega
end
end Go.Proofs.YtgkmfhhghcccjaaGreatDoorA.W
