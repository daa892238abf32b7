/- The texts of the proof, one behind the other: PS7, PG1, PG2, PL6, PL7, PQ, PL8, PL9, PM1, PM2, PLT, PG3, PPN, PG4, PG5, PG7, PT0, PPathDown, PGlob. -/
import Derived.Test.YtbifjondkjgkmaaGreatDoorAMp7
import Derived.Test.YtbifjondkjgkmaaGreatDoorAMp6
import Derived.Test.YtbifjondkjgkmaaGreatDoorRows
import Derived.Test.YtbifjondkjgkmaaGreatDoorProg
import Derived.Test.YtbifjondkjgkmaaGreatDoorAMp2
import Derived.MakeChecks
set_option linter.unusedVariables false
set_option linter.unusedSimpArgs false
set_option maxRecDepth 100000
namespace Go.Proofs.YtbifjondkjgkmaaGreatDoorA.W
open Go Go.Ae
open Go.Pl (rl rr rr_le enc rightB rightB_iff rl_right rl_len badAt badAt_neg badAt_nil)
def Wd (x:Int):Prop:=¬(65281≤x∧x≤65374)
def wideT (B:List R3):List R3:=B.filter (fun e => !(decide (65281≤e.1)&&decide (e.2.1≤65374)))++[(65281,65374,100000)]
def lnW:Bool:=match C9 () with
 | some (_,_,B,_)=>lnB (wideT B)
 | none=>false
theorem lnW_k:lnW=true:=by kernel_rfl
theorem ln_wide {T A B} (h18:C9 ()=some (T,A,B,())):LN (wideT B):=by
 have h:=lnW_k;unfold lnW at h;rw [h18] at h;exact ln_ofB h
def LW (B:List R3):Prop:=∀e∈B,(65281≤e.1∧e.2.1≤65374)∨e.2.1+e.2.2<65281∨65374<e.1+e.2.2
def lwD:Bool:=match C9 () with
 | some (_,_,B,_)=>B.all fun e=>(decide (65281≤e.1)&&decide (e.2.1≤65374))||(decide (e.2.1+e.2.2<65281)||decide (65374<e.1+e.2.2))
 | none=>false
theorem lwD_k:lwD=true:=by kernel_rfl
theorem lw_of {T A B} (h18:C9 ()=some (T,A,B,())):LW B:=by
 have h:=lwD_k;unfold lwD at h;rw [h18] at h;intro e he;have:=List.all_eq_true.1 h e he;simp only [Bool.or_eq_true,Bool.and_eq_true,decide_eq_true_eq] at this;omega
theorem p298 (a b c d r:Int):Pf (C223 (a,b,c,d,r,())) (fun y=>y=(decide (a≤r∧r≤b),r,())):=by
 unfold C223 F223;dsimp only;refine pX (fun h=>pP ?_) (fun h=>pP ?_)
 · congr 1
   exact decide_eq_decide.2 (by omega)
 · rw [decide_eq_false (by omega)]
theorem p297 {A:List R4} (r:Int) (hA:A.length≤1000000000000):Pf (C222 (A,r,())) (fun y=>y=(-1,r,())∨∃i:Nat,i<A.length∧y=((i:Int),r,())∧(A.getD i (0,(0,(0,0)))).1≤r∧r≤(A.getD i (0,(0,(0,0)))).2.1):=by
 unfold C222 F222;dsimp only;refine pZ (P:=Sum.elim (fun y=>y=(r,())) (fun y=>∃i:Nat,i<A.length∧y=((i:Int),r,())∧(A.getD i (0,(0,(0,0)))).1≤r∧r≤(A.getD i (0,(0,(0,0)))).2.1)) ?_ ?_
 · refine pL ?I ?h _ ?hv
   case I=>exact (fun v=>∃k:Nat,k≤A.length∧v=(A,(A.length:Int),(k:Int),r,()))
   case hv=>exact ⟨0,Nat.zero_le _,rfl⟩
   rintro _ ⟨k,hk,rfl⟩;unfold F222_l0;dsimp only;simp only [Int.toNat_natCast];refine pX (fun hlt => ?_) (fun hge=>pP rfl);have hlt':k<A.length:=by omega
   refine pX (fun _ => ?_) (fun _=>pN);refine pZ (p298 _ _ _ _ _) ?_;rintro _ rfl;dsimp only;rw [wrN k (by omega)];exact pX (fun h=>pP ⟨k,hlt',rfl,h⟩) (fun h=>pP ⟨k+1,by omega,rfl⟩)
 · intro z hz
   refine pS hz ?_ ?_
   · rintro _ rfl
     exact pP (.inl rfl)
   · rintro _ ⟨i,h1,rfl,h2⟩
     exact pP (.inr ⟨i,h1,rfl,h2⟩)
def ckB:Bool:=match C9 () with
 | some (_,A,_,_)=>A.all fun e=>(decide (e.2.2.2=0)||decide (e.2.2.2=1))&&(decide (0≤e.2.2.1)&&(decide (e.2.2.1+(e.2.1-e.1)≤255)&&(decide (0≤e.1)&&decide (e.2.1≤1114111))))
 | none=>false
theorem ckB_k:ckB=true:=by kernel_rfl
theorem ck_of {T A B} (h18:C9 ()=some (T,A,B,())) (hA:A.length≤1000000000000):CK T A B:=by
 have h:=ckB_k;unfold ckB at h;rw [h18] at h;have key:∀x,∃c,C175 (T,A,B,x,())=some (c,())∧0≤c∧c≤255:=by
  intro x;obtain ⟨⟨c,u⟩,e,-⟩:=d276 T A B x hA;refine ⟨c,e,?_⟩;have hp:Pf (C175 (T,A,B,x,())) (fun y=>0≤y.1∧y.1≤255):=by
   unfold C175 F175;dsimp only;refine pZ (p297 x hA) ?_;rintro _ (rfl|⟨i,hi,rfl,h1,h2⟩)
   · exact pX (fun _=>pP (by decide)) (fun h=>by omega)
   · have hm:A.getD i (0,(0,(0,0)))∈A:=by rw [getD_lt hi];exact List.getElem_mem _
     refine pX (fun _=>pP (by decide)) (fun _ => ?_);refine pX (fun _ => ?_) (fun _=>pN);simp only [Int.toNat_natCast];have:=List.all_eq_true.1 h _ hm;simp only [Bool.and_eq_true,Bool.or_eq_true,decide_eq_true_eq] at this;obtain ⟨k1,k2,k3,k4,k5⟩:=this;rw [w32s (n:=x-(A.getD i (0,(0,(0,0)))).1) (by omega),w64s (n:=x-(A.getD i (0,(0,(0,0)))).1) (by omega)];rcases k1 with k1|k1
     · rw [k1,Int.zero_mul,w64s (n:=0) (by omega),Int.add_zero,w64s (by omega)]
       exact pP ⟨k2,by (try dsimp only);omega⟩
     · rw [k1,Int.one_mul,w64s (n:=x-(A.getD i (0,(0,(0,0)))).1) (by omega),w64s (by omega)]
       exact pP ⟨by (try dsimp only);omega,by (try dsimp only);omega⟩
  exact hp _ e
 have eq:∀x,C175 (T,A,B,x,())=some (clx T A B x,()):=fun x=>by
  obtain ⟨c,e,-⟩:=key x;unfold clx;rw [e];rfl
 refine ⟨eq,fun x => ?_⟩;obtain ⟨c,e,hc⟩:=key x;rw [eq x] at e;cases e;exact hc
section
variable {T:List R6} {A:List R4} {B:List R3}
structure Fdd (T:List R6) (A:List R4) (B:List R3) (J:List Int):Prop where
 rt:∀x∈J,rightB x=true
 nf:∀x∈J,Nf B x
 wd:∀x∈J,Wd x
 o:∃O:List Int,(∀x∈O,on1 x=[x])∧BS (clx T A B) O∧C144 (T,A,B,O,())=some (J,())∧O.length≤1000000000000
end
open Go.Pl (rl rr rr_le enc enc1 rightB rightB_iff lenE lenE1 lenE_cases b8 b8_val b8_of rl_right rl_len badAt badAt_neg)
theorem u251l (n b k:Int) (o:List UInt8):Pf (C191_l0 (n,b,k,o,())) (fun y=>o.length+1≤y.1.length∧y.1.length≤140737488355328):=by
 refine pL ?I ?h _ ?hv
 case I=>exact (fun v=>o.length≤v.2.2.2.1.length)
 case hv=>exact (Nat.le_refl _)
 rintro ⟨n,b,k,o',u⟩ hI;dsimp only at hI;unfold F191_l0;dsimp only;refine pZ pT ?_;rintro ⟨t,u⟩ -
 dsimp only;refine pX (fun _ => ?_) (fun _ => ?_)
 · refine pZ pT ?_
   rintro ⟨c,u⟩ -
   dsimp only;refine pX (fun h=>pP ?_) (fun _=>pN);show o.length+1≤(o'++[_]).length∧(o'++[_]).length≤_;simp only [vl] at h ⊢;omega
 · refine pX (fun _ => ?_) (fun _=>pN)
   refine pZ pT ?_;rintro ⟨c,u⟩ -
   dsimp only;refine pX (fun h => ?_) (fun _=>pN);refine pX (fun _=>pP ?_) (fun _=>pN);show o.length≤(o'++[_]).length;simp only [vl];omega
theorem u251 (n b:Int) (o:List UInt8):Pf (C191 (n,b,o,())) (fun y=>o.length+1≤y.1.length∧y.1.length≤140737488355328):=by
 unfold C191 F191;dsimp only;refine pZ pT ?_;rintro ⟨t,u⟩ -
 dsimp only;refine pX (fun _ => ?_) (fun _ => ?_)
 · refine pZ pT ?_
   rintro ⟨c,u⟩ -
   dsimp only;refine pX (fun h=>pP ?_) (fun _=>pN);simp only [vl] at h ⊢;omega
 · refine pX (fun _ => ?_) (fun _=>pN)
   refine pZ pT ?_;rintro ⟨c,u⟩ -
   dsimp only;refine pX (fun h => ?_) (fun _=>pN);refine pX (fun _ => ?_) (fun _=>pN);refine pZ (u251l _ _ _ _) ?_;rintro ⟨y,u⟩ hy;simp only [vl] at hy;refine pP ?_;dsimp only;omega
theorem u223_1 (l:List Int) (P m delta bias h:Int) (o:List UInt8) (h0:0≤h∧h≤o.length) (ho:o.length≤140737488355328) :
 Pf (C157_l1 (l,P,m,delta,bias,h,l,(l.length:Int),0,o,())) (fun y=>y.1=l∧(0≤y.2.2.2.2.2.1∧y.2.2.2.2.2.1≤y.2.2.2.2.2.2.1.length)∧y.2.2.2.2.2.2.1.length≤140737488355328):=by
 refine pL ?I ?h _ ?hv
 case I=>exact (fun v=>v.1=l∧(0≤v.2.2.2.2.2.1∧v.2.2.2.2.2.1≤v.2.2.2.2.2.2.2.2.2.1.length)∧v.2.2.2.2.2.2.2.2.2.1.length≤140737488355328)
 case hv=>exact ⟨rfl,h0,ho⟩
 rintro ⟨l0,P,n,delta,bias,h,l',N,p,o,u⟩ ⟨e,h0,ho⟩;dsimp only at e h0 ho;subst e;unfold F157_l1;dsimp only;refine pX (fun _ => ?_) (fun _=>pP ⟨rfl,h0,ho⟩);refine pX (fun _ => ?_) (fun _=>pN);refine pX (fun _=>pP ⟨rfl,h0,ho⟩) (fun _ => ?_);refine pX (fun _ => ?_) (fun _=>pP ⟨rfl,h0,ho⟩);refine pZ (u251 _ _ o) ?_;rintro ⟨o2,u⟩ ⟨g1,g2⟩;dsimp only at g1 g2 ⊢;refine pZ pT ?_;rintro ⟨b2,u⟩ -
 rw [w64s (n:=h+1) (by omega)];refine pP ⟨rfl,?_,g2⟩;dsimp only;omega
theorem u223_2 (l:List Int) (P h:Int) (o:List UInt8) (h0:0≤h∧h≤o.length) (ho:o.length≤140737488355328) :
 Pf (C157_l2 (l,P,128,0,72,h,o,())) (Sum.elim (fun y=>l.length≤y.1.length) (fun y=>y.2.1=false)):=by
 refine pL ?I ?h _ ?hv
 case I=>exact (fun v=>v.1=l∧(0≤v.2.2.2.2.2.1∧v.2.2.2.2.2.1≤v.2.2.2.2.2.2.1.length)∧v.2.2.2.2.2.2.1.length≤140737488355328)
 case hv=>exact ⟨rfl,h0,ho⟩
 rintro ⟨l0,P,n,delta,bias,h,o,u⟩ ⟨e,h0,ho⟩;dsimp only at e h0 ho;subst e;unfold F157_l2;dsimp only;refine pX (fun _ => ?_) (fun hge=>pP ?_)
 · refine pZ pT ?_
   rintro ⟨m,u⟩ -
   dsimp only;refine pX (fun _=>pP rfl) (fun _ => ?_);refine pZ (u223_1 l0 P m _ bias h o h0 ho) ?_;rintro ⟨a,b,c,d,e,f,g,u⟩ ⟨h1,h2,h3⟩;exact pP ⟨h1,h2,h3⟩
 · show l0.length≤o.length
   omega
theorem u223 (l:List Int) (hl:l.length≤1000000000000):Pf (C157 (l,())) (fun y=>y.2.1=true→l.length≤y.1.length):=by
 unfold C157 F157;dsimp only;refine pZ (pl223_0 l hl) ?_;intro z hz;refine pS hz ?_ (fun y h=>pP fun h'=>by rw [h] at h';cases h');rintro _ ⟨rfl,hR⟩;have hle:=List.length_filter_le (fun r:Int=>decide (r<128)) l;have hlen:(pb (lt' 128 l)).length=(lt' 128 l).length:=by simp [pb]
 have hle':(lt' 128 l).length≤l.length:=by unfold lt';omega
 have key:∀pre:List UInt8,(pb (lt' 128 l)).length≤pre.length→pre.length≤140737488355328→Pf (C157_c0 (l,((pb (lt' 128 l)).length:Int),pre,())) (fun y=>y.2.1=true→l.length≤y.1.length):=by
  intro pre hpre hp2;unfold C157_c0 F157_c0;dsimp only;refine pZ (u223_2 l _ _ pre (by omega) hp2) ?_;intro z hz;refine pS hz ?_ (fun y h=>pP fun h'=>by rw [h] at h';cases h');intro y h;exact pP fun _=>h
 dsimp only;refine pX (fun hpos => ?_) (fun hpos => ?_)
 · refine pX (fun h => ?_) (fun _=>pN)
   refine pZ (key _ (by simp) (by simp only [vl] at h ⊢;omega)) ?_;intro y hy;exact pP hy
 · refine pZ (key _ (Nat.le_refl _) (by omega)) ?_
   intro y hy;exact pP hy
section
variable {T:List R6} {A:List R4} {B:List R3}
theorem f260 (l:List Int):Pf (C200 (T,A,B,l,())) (fun y=>y.2=(T,A,B,l,())):=by
 unfold C200 F200;dsimp only;exact pZ pT fun _ _=>pP rfl
theorem f262 (l:List Int):Pf (C202 (T,A,B,l,())) (fun y=>y.2=(T,A,B,l,())):=by
 unfold C202 F202;dsimp only;refine pZ pT ?_;rintro ⟨b,u⟩ -
 dsimp only;refine pX (fun _ => ?_) (fun _=>pP rfl);exact pZ pT fun _ _=>pP rfl
theorem f263 (l:List Int) (c:List UInt8) (d:Bool):Pf (C203 (l,c,d,())) (fun y=>∃code ok,C157 (l,())=some (code,ok,())∧y=(!ok,l,code,ok,())):=by
 unfold C203 F203;dsimp only;refine pZ (P:=fun y=>C157 (l,())=some y) (fun y e=>e) ?_;rintro ⟨code,ok,u⟩ e;refine pP ⟨code,ok,e,?_⟩;cases ok<;>rfl
theorem w224 (s:List UInt8) (hs:s.length≤1000000000):Pf (C158 (T,A,B,s,())) (fun y=>y.1=0→badAt s<0∧∃code,C157 (rl s,())=some (code,true,())∧4+code.length≤63):=by
 have hl:=rl_len s;unfold C158 F158;dsimp only;rw [x83 s hs];simp only [Option.bind_some];refine pZ (P:=fun y=>y.1=0→badAt s<0∧∃code,C157 (rl s,())=some (code,true,())∧4+code.length≤63) ?_ (fun _ h=>pP h);unfold C193 F193;dsimp only;refine pZ (P:=fun y=>y=(decide (badAt s≥0),badAt s,())) (pP rfl) ?_;rintro _ rfl;dsimp only;refine pX (fun _=>pP fun h=>absurd h (by dsimp only;decide)) (fun hb => ?_);refine pZ (p255 s) ?_;rintro ⟨b2,y⟩ hy;dsimp only at hy;subst hy;dsimp only;refine pX (fun _=>pP fun h=>absurd h (by dsimp only;decide)) (fun _ => ?_);refine pZ (p257 s) ?_;rintro ⟨b3,s',u⟩ hs';dsimp only at hs' ⊢;refine pX (fun _=>pP fun h=>absurd h (by dsimp only;decide)) (fun _ => ?_);refine pZ (p259 (rl s)) ?_;rintro ⟨b4,y⟩ hy;dsimp only at hy;subst hy;dsimp only;refine pX (fun _=>pP fun h=>absurd h (by dsimp only;decide)) (fun _ => ?_);refine pZ (f260 (rl s)) ?_;rintro ⟨b5,y⟩ hy;dsimp only at hy;subst hy;dsimp only;refine pX (fun _=>pP fun h=>absurd h (by dsimp only;decide)) (fun _ => ?_);refine pZ (f262 (rl s)) ?_;rintro ⟨b6,y⟩ hy;dsimp only at hy;subst hy;dsimp only;refine pX (fun _=>pP fun h=>absurd h (by dsimp only;decide)) (fun _ => ?_);refine pZ (f263 (rl s) _ _) ?_;rintro _ ⟨code,ok,e,rfl⟩;dsimp only;cases ok with
 | false=>exact pP fun h=>absurd h (by dsimp only;decide)
 | true =>
  simp only [Bool.not_true,cond_false];obtain ⟨y,ey,hy⟩:=d223 (rl s) (by omega);rw [e] at ey;cases ey;dsimp only at hy;refine pZ (P:=fun y=>y=(decide (IntKind.i64.wrap (4+(code.length:Int))>63),code,())) (pP rfl) ?_;rintro _ rfl;rw [w64s (n:=4+(code.length:Int)) (by omega)];dsimp only;refine pX (fun _=>pP fun h=>absurd h (by dsimp only;decide)) (fun h63=>pP fun _=>⟨by omega,code,e,by omega⟩)
end
open Go.Pl (rl rr rr_le enc enc1 rightB rightB_iff lenE lenE1 b8 b8_of rl_right rl_len badAt badAt_neg)
theorem c132a (x r:List UInt8) (hx:x.length+r.length≤1000000000000):C156 (x++r,x,())=some (r,true,()):=by
 have hl:(((x++r).length:Nat):Int)=(x.length:Int)+r.length:=by simp
 have h1:C92 (x++r,x,())=some (true,()):=by
  show F92 _=_;simp only [F92];rw [hl,decide_eq_true (show (x.length:Int)+r.length≥(x.length:Int) by omega),decide_eq_true (show (0:Int)≤(x.length:Int) by omega),Int.toNat_natCast,List.take_left,beq_self_eq_true];rfl
 have h2:C189 (x++r,x,())=some (r,true,()):=by
  show F189 C92 _=_;simp only [F189,h1,Option.bind_some,Bool.not_true,cond_false];rw [hl,decide_eq_true (show (0:Int)≤(x.length:Int) by omega),decide_eq_true (show (x.length:Int)≤(x.length:Int)+r.length by omega),Int.toNat_natCast,List.drop_left];rfl
 show F156 C189 _=_;simp only [F156,h2,Option.bind_some]
section
variable {T:List R6} {A:List R4} {B:List R3}
theorem g192 (h:TK T A B) (hL:LN B) (p:List UInt8) (hp:p.length≤620000):Pf (C127 (T,A,B,p,())) (fun y=>y.2.2.1=0→∃f,C55 (T,A,B,p,())=some (f,true,())∧NS B f∧((y.1=f∧∀c∈f,c.toNat<128)∨(badAt f<0∧f.length≤1000000000∧∃code,C157 (rl f,())=some (code,true,())∧4+code.length≤63∧y.1=[120,110,45,45]++code∧C158 (T,A,B,f,())=some (0,())))):=by
 unfold C127 F127;dsimp only;refine pZ (P:=fun y=>C55 (T,A,B,p,())=some y∧NS B y.1∧y.1.length≤1000000000) (fun y e=>⟨e,n151 h hL p (by omega) y e,?_⟩) ?_
 · obtain ⟨y',e',hy'⟩:=d151 h p (by omega)
   rw [e] at e';cases e';omega
 rintro ⟨f,ok,u⟩ ⟨e,hn,hlen⟩;dsimp only at hn hlen ⊢;refine pZ pT ?_;rintro ⟨rest,is,u⟩ -
 dsimp only;cases ok with
 | false=>exact pP fun h=>absurd h (by dsimp only;decide)
 | true =>
  simp only [Bool.not_true,cond_false];refine pZ (c21n f (by omega)) ?_;rintro ⟨e8,u⟩ h8;dsimp only at h8 ⊢;refine pX (fun _ => ?_) (fun hneg => ?_)
  · rw [x83 f hlen]
    simp only [Option.bind_some];refine pZ (P:=fun y=>C157 (rl f,())=some y) (fun y e=>e) ?_;rintro ⟨code,ok2,u⟩ e223;dsimp only;refine pX (fun _ => ?_) (fun _=>pN);refine pZ (P:=fun y=>C158 (T,A,B,f,())=some y) (fun y e=>e) ?_;rintro ⟨w,u⟩ e224;refine pP fun h0 => ?_;dsimp only at h0;subst h0;obtain ⟨hb,code',e',h63⟩:=w224 f hlen _ e224 rfl;rw [e223] at e';cases e';exact ⟨f,e,hn,.inr ⟨hb,hlen,code,e223,h63,rfl,e224⟩⟩
  · have ha:=h8 (by omega)
    refine pX (fun _ => ?_) (fun _ => ?_)
    · refine pZ pT ?_
      rintro ⟨c,u⟩ -
      exact pP fun _=>⟨f,e,hn,.inl ⟨rfl,ha⟩⟩
    · refine pZ pT ?_
      rintro ⟨l,okX3,u⟩ -
      dsimp only;refine pX (fun _=>pP fun h=>absurd h (by dsimp only;decide)) (fun _ => ?_);refine pX (fun _=>pP fun h=>absurd h (by dsimp only;decide)) (fun _ => ?_);refine pZ pT ?_;rintro ⟨us,b,u⟩ -
      dsimp only;refine pZ pT ?_;rintro ⟨w,u⟩ -
      dsimp only;refine pX (fun hw=>pP fun h=>(hw h).elim) (fun _ => ?_);refine pZ pT ?_;rintro ⟨code,b3,u⟩ -
      dsimp only;refine pX (fun _=>pP fun h=>absurd h (by dsimp only;decide)) (fun _=>pP fun _=>⟨f,e,hn,.inl ⟨rfl,ha⟩⟩)
theorem e159 {p a:List UInt8} (e:C95 (T,A,B,p,())=some (a,0,())):∃w,C127 (T,A,B,p,())=some (a,w,0,()):=by
 have e':F95 C127 (T,A,B,p,())=some (a,0,()):=e;unfold F95 at e';dsimp only at e';cases hc:C127 (T,A,B,p,()) with
 | none=>rw [hc] at e';cases e'
 | some y =>
  obtain ⟨x,w,c,u⟩:=y;rw [hc] at e';simp only [Option.bind_some] at e';by_cases hz:c=0
  · subst hz
    refine ⟨w,?_⟩;have e2:some (x,(0:Int),())=some (a,0,()):=e';cases e2;rfl
  · rw [inT hz] at e'
    simp only [cond_true,Option.some.injEq,Prod.mk.injEq] at e';exact (hz e'.2.1).elim
theorem f159 {p a w:List UInt8} (e:C127 (T,A,B,p,())=some (a,w,0,())):C95 (T,A,B,p,())=some (a,0,()):=by
 show F95 C127 _=_;simp only [F95,e,Option.bind_some];rfl
theorem same192 {x y:List UInt8} (e:C55 (T,A,B,x,())=C55 (T,A,B,y,())):C127 (T,A,B,x,())=C127 (T,A,B,y,()):=by
 show F127 C12 C156 C157 C158 C159 C160 C34 C55 C82 _=F127 C12 C156 C157 C158 C159 C160 C34 C55 C82 _;unfold F127;dsimp only;rw [e]
theorem lab (h:TK T A B) (hL:LN B) (hC:LC T A B) (p:List UInt8) (hp:p.length≤620000) (a:List UInt8) (ha:a.length≤100000) (e:C95 (T,A,B,p,())=some (a,0,())):C95 (T,A,B,a,())=some (a,0,())∧Lw B a:=by
 obtain ⟨w,e192⟩:=e159 e;obtain ⟨f,e151,hn,hcase⟩:=g192 h hL p hp _ e192 rfl;dsimp only at hcase;rcases hcase with ⟨rfl,hasc⟩|⟨hb,hlen,code,e223,h63,rfl,e224⟩
 · have hw:Lw B a:=fun c hc=>⟨hasc c hc,hn c hc (hasc c hc)⟩
   refine ⟨f159 (w:=w) ?_,hw⟩;rw [same192 ((i151 h hL hC a ha hw).trans e151.symm)];exact e192
 · have hlc:(rl f).length≤code.length:=u223 (rl f) (by have:=rl_len f;omega) _ e223 rfl
   obtain ⟨p1,p2,p3,p4,p5,p6⟩:=puny (rl f) (by omega) code e223;have hrb:=rl_back hb;have low:∀c:UInt8,c.toNat<128→(c.toNat:Int)∈rl f→c∈f:=by
    intro c h1 hc;rw [←hrb];refine List.mem_flatMap.2 ⟨_,hc,?_⟩;rw [enc1 (lenE1 (by omega) (by omega)),b8_of rfl];exact List.mem_singleton_self _
   have hcode:∀c∈code,Nf B (c.toNat:Int):=by
    intro c hc;have h128:=p4 c hc;rcases p6 c hc with rfl|h6|h6
    · exact hL.lo _ (by decide) (by decide) (by decide)
    · exact hL.lo _ (by omega) (by omega) (by omega)
    · exact hn c (low c h128 h6) h128
   have hw:Lw B ([120,110,45,45]++code):=by
    intro c hc;rcases List.mem_append.1 hc with hc|hc
    · simp only [List.mem_cons,List.not_mem_nil,or_false] at hc
      rcases hc with rfl|rfl|rfl|rfl;all_goals exact ⟨by decide,hL.lo _ (by decide) (by decide) (by decide)⟩
    · exact ⟨p4 c hc,hcode c hc⟩
   refine ⟨f159 (w:=f) ?_,hw⟩;have e151a:=i151 h hL hC ([120,110,45,45]++code) ha hw;have e132:=c132a [120,110,45,45] code (by simp only [List.length_cons,List.length_nil];omega);have e21:=c21y ([120,110,45,45]++code) (by omega) fun c hc=>(hw c hc).1;have e178:C82 (rl f,())=some (f,true,()):=by
    rcases str_of (l:=rl f) (by omega) with ⟨⟨x,hx,hx'⟩,-⟩|⟨-,e⟩
    · rw [rl_right f x hx] at hx'
      cases hx'
    · rw [e,hrb]
   have hl63:¬((([120,110,45,45]++code:List UInt8).length:Nat):Int)>63:=by
    simp only [vl];omega
   show F127 C12 C156 C157 C158 C159 C160 C34 C55 C82 _=_;simp only [F127,e151a,e132,e21,p1,e178,e224,e223,Option.bind_some,Bool.not_true,cond_false];rw [decide_eq_false (show ¬(-1:Int)≥0 by decide),decide_eq_false hl63];simp only [cond_false,beq_self_eq_true,Bool.not_true];rfl
end
def Tk.up:Tk→Tk
 | .ok t u => .ok t (1+u)
 | .bad off e => .bad (1+off) e
 | .start => .start
def one (c:UInt8) (r:List UInt8):Int×Tk :=
 if atomB c=true then (0,.ok ((c::r).take (al (c::r))) (al (c::r)))
 else if signB c=true then (2,.ok [c] 1)
 else if c.toNat=34 then (1,(qt r).up)
 else if c.toNat=91 then (5,(ltk r).up)
 else if c.toNat=40 then (3,(nt 1 r).up)
 else if wl (c::r)=0 then (4,.start) else (4,.ok ((c::r).take (wl (c::r))) (wl (c::r)))
theorem fin_up (s:List UInt8) (p:Nat) (bad err:Int) (k:Tk):fin s p bad err (p+1) k=fin s p bad err p k.up:=by
 cases k<;>simp [fin,Tk.up,Nat.add_assoc]
def tkres (s:List UInt8) (p:Nat) (bad err:Int) (x:Int×Tk):Int×List UInt8×Int×List UInt8×Int×Int×Int×Unit :=
 (x.1,(fin s p bad err p x.2).1,(p:Int),(fin s p bad err p x.2).2)
theorem c16 (pre r:List UInt8) (c:UInt8) (p:Nat) (bad err:Int) (hp:pre.length=p) (hb:p+r.length≤140737488354000) :
 C66 (pre++c::r,(p:Int),bad,err,())=some (tkres (pre++c::r) p bad err (one c r)):=by
 show F66 C100 C101 C102 C103 C104 C105 C106 C107 C66_c0 (pre++c::r,(p:Int),bad,err,())=_;have h21:=c21 pre (c::r) p bad err hp (by simp;omega);have h26:=c26 pre (c::r) p bad err hp (by simp;omega);have h23:=c23 pre r c p bad err hp (by omega);have h24:=c24 pre r c p bad err hp (by omega);unfold one;by_cases h1:atomB c=true
 · rw [if_pos h1]
   simp (disch:=(first|omega|(simp only [vl];omega))) only [F66,C66_c0,F66_c0,Sk,c17,h1,h21,tkres,fin]
 · rw [if_neg h1]
   have h1':atomB c=false:=by simpa using h1
   by_cases h2:signB c=true
   · rw [if_pos h2]
     have h2':signI c≥0:=by simpa [signB] using h2
     have ht:List.drop p (List.take (p+1) (pre++c::r))=[c]:=by rw [text_eq hp];rfl
     simp (disch:=(first|omega|(simp only [vl];omega))) only [F66,C66_c0,F66_c0,Sk,c17,h1',c22s,ht,tkres,fin]
   · rw [if_neg h2]
     have h2':¬signI c≥0:=by simpa [signB] using h2
     by_cases h3:c.toNat=34
     · rw [if_pos h3]
       rw [fin_up] at h23;simp (disch:=(first|omega|(simp only [vl];omega))) only [F66,C66_c0,F66_c0,Sk,c17,h1',c22s,h23,tkres]
     · rw [if_neg h3]
       by_cases h4:c.toNat=91
       · rw [if_pos h4]
         rw [fin_up] at h24;simp (disch:=(first|omega|(simp only [vl];omega))) only [F66,C66_c0,F66_c0,Sk,c17,h1',c22s,h24,tkres]
       · rw [if_neg h4]
         by_cases h5:c.toNat=40
         · rw [if_pos h5]
           have h25:=c25 pre r c p bad err h5 hp (by omega);rw [fin_up] at h25;simp (disch:=(first|omega|(simp only [vl];omega))) only [F66,C66_c0,F66_c0,Sk,c17,h1',c22s,h25,tkres]
         · rw [if_neg h5]
           by_cases h6:wl (c::r)=0
           · rw [if_pos h6]
             rw [h6] at h26;simp (disch:=(first|omega|(simp only [vl];omega))) only [F66,C66_c0,F66_c0,Sk,c17,h1',c22s,h26,tkres,fin,List.take_zero,c27,beq_self_eq_true,Nat.add_zero]
           · rw [if_neg h6]
             obtain ⟨w,hw⟩:∃w,wl (c::r)=w+1:=⟨wl (c::r)-1,by omega⟩
             have hne:((c::r).take (wl (c::r))==[])=false:=by rw [hw];rfl
             simp (disch:=(first|omega|(simp only [vl];omega))) only [F66,C66_c0,F66_c0,Sk,c17,h1',c22s,h26,tkres,fin,hne]
abbrev Tok:=Int×(List UInt8×Int)
def lx:Nat→List UInt8→Nat→List Tok⊕(Nat×Int)
 | 0,_,_ => .inl []
 | n+1,s,p=>match s with
  | [] => .inl []
  | c::r=>match one c r with
   | (k,.ok t u)=>match lx n ((c::r).drop u) (p+u) with
    | .inl l => .inl ((k,t,(p:Int))::l)
    | .inr e => .inr e
   | (_,.bad off e) => .inr (p+off,e)
   | (_,.start) => .inr (p,4)
theorem qt_used:∀(m:Nat) {r t:List UInt8} {u:Nat},r.length≤m→qt r = .ok t u→t.length+1≤u∧u≤r.length
 | _,[],t,u,_,h=>by simp [qt] at h
 | 0,c::r,t,u,hm,h=>by simp at hm
 | m+1,c::r,t,u,hm,h=>by
  simp only [List.length_cons] at hm ⊢;by_cases e1:c.toNat=34
  · rw [qt_q e1] at h;cases h;simp
  · by_cases e2:c.toNat=92
    · match r,hm,h with
      | [],hm,h=>rw [qt_b0 e2] at h;cases h
      | d::r',hm,h =>
       rw [qt_b1 e2] at h;cases hd:mayB d<;>rw [hd] at h
       · cases h
       · obtain ⟨t',u',h1,rfl,rfl⟩:=push_ok h
         have:=qt_used m (by simp at hm;omega) h1;simp;omega
    · rw [qt_c e1 e2] at h
      cases hd:mayB c<;>rw [hd] at h
      · cases h
      · obtain ⟨t',u',h1,rfl,rfl⟩:=push_ok h
        have:=qt_used m (by omega) h1;simp;omega
theorem up_ok {k:Tk} {t:List UInt8} {u:Nat} (h:k.up = .ok t u):∃u',k = .ok t u'∧u=1+u':=by
 cases k<;>simp [Tk.up] at h
 obtain ⟨rfl,rfl⟩:=h;exact ⟨_,rfl,rfl⟩
theorem al_pos {c:UInt8} {r:List UInt8} (h:atomB c=true):1≤al (c::r):=by simp [al,h]
theorem one_used {c:UInt8} {r t:List UInt8} {k:Int} {u:Nat} (h:one c r=(k,.ok t u)):1≤u∧u≤r.length+1:=by
 unfold one at h;split at h
 · rename_i h1
   cases h;have:=al_le (c::r);exact ⟨al_pos h1,by simpa using this⟩
 · split at h
   · cases h;exact ⟨by omega,by omega⟩
   · split at h
     · obtain ⟨u',h1,rfl⟩:=up_ok (Prod.mk.inj h).2
       have:=qt_used _ (Nat.le_refl _) h1;omega
     · split at h
       · obtain ⟨u',h1,rfl⟩:=up_ok (Prod.mk.inj h).2
         have:=ltk_ok h1;omega
       · split at h
         · obtain ⟨u',h1,rfl⟩:=up_ok (Prod.mk.inj h).2
           have:=nt_ok _ (Nat.le_refl _) h1;omega
         · split at h
           · cases h
           · rename_i h6
             cases h;have:=wl_le (c::r);exact ⟨by omega,by simpa using this⟩
def rL11 (out:List Tok):List Tok⊕(Nat×Int)→(List Tok×Unit)⊕(Int×Int×Unit)
 | .inl l => .inl (out++l,())
 | .inr (b,e) => .inr ((b:Int),e,())
def Tk.eok:Tk→Prop
 | .bad _ e=>e=4∨e=6
 | _=>True
theorem push_eok {k:Tk} {l:List UInt8} {n:Nat} (h:k.eok):(k.push l n).eok:=by cases k<;>first|exact h|exact trivial
theorem up_eok {k:Tk} (h:k.eok):k.up.eok:=by cases k<;>first|exact h|exact trivial
theorem qt_e:∀(m:Nat) (r:List UInt8),r.length≤m→(qt r).eok
 | _,[],_=>trivial
 | 0,c::r,hm=>by simp at hm
 | m+1,c::r,hm=>by
  simp only [List.length_cons] at hm;by_cases e1:c.toNat=34
  · rw [qt_q e1];trivial
  · by_cases e2:c.toNat=92
    · match r,hm with
      | [],hm=>rw [qt_b0 e2];trivial
      | d::r',hm =>
       rw [qt_b1 e2];cases mayB d
       · exact .inl rfl
       · exact push_eok (qt_e m r' (by simp at hm;omega))
    · rw [qt_c e1 e2]
      cases mayB c
      · exact .inl rfl
      · exact push_eok (qt_e m r (by omega))
theorem ltk_e:∀r:List UInt8,(ltk r).eok
 | []=>trivial
 | c::r=>by
  unfold ltk;split
  · trivial
  · split
    · exact .inl rfl
    · split
      · exact .inl rfl
      · cases blankB c
        · cases mayB c
          · exact .inl rfl
          · exact push_eok (ltk_e r)
        · exact .inl rfl
theorem nt_e:∀(m deep:Nat) (r:List UInt8),r.length≤m→(nt deep r).eok
 | _,_,[],_=>by simp [nt,Tk.eok]
 | 0,_,c::r,hm=>by simp at hm
 | m+1,deep,c::r,hm=>by
  simp only [List.length_cons] at hm;by_cases e1:c.toNat=40
  · rw [nt_o e1]
    split
    · exact .inr rfl
    · exact push_eok (nt_e m _ r (by omega))
  · by_cases e2:c.toNat=41
    · rw [nt_c e2]
      split
      · trivial
      · exact push_eok (nt_e m _ r (by omega))
    · by_cases e3:c.toNat=92
      · match r,hm with
        | [],hm=>rw [nt_b0 e3];trivial
        | d::r',hm =>
         rw [nt_b1 e3];cases mayB d
         · exact .inl rfl
         · exact push_eok (nt_e m _ r' (by simp at hm;omega))
      · rw [nt_m e1 e2 e3]
        cases mayB c
        · exact .inl rfl
        · exact push_eok (nt_e m _ r (by omega))
theorem one_e (c:UInt8) (r:List UInt8):(one c r).2.eok:=by
 unfold one;split
 · trivial
 · split
   · trivial
   · split
     · exact up_eok (qt_e _ r (Nat.le_refl _))
     · split
       · exact up_eok (ltk_e r)
       · split
         · exact up_eok (nt_e _ _ r (Nat.le_refl _))
         · split<;>trivial
theorem l11 (s:List UInt8):∀(m:Nat) (r pre:List UInt8) (out:List Tok) (bad:Int) (p n:Nat),r.length≤m→s=pre++r→pre.length=p→r.length<n→p+r.length≤100000→out.length+r.length≤100000 →
 loopN (F37_l0 C34 C66) n (s,out,s,(p:Int),bad,0,())=some (rL11 out (lx m r p))
 | _,_,_,_,_,_,0,_,_,_,hn,_,_=>by omega
 | 0,[],pre,out,bad,p,n+1,hm,hs,hp,hn,hb,ho=>by
  refine loopN_inr ?_;have:s.length=p:=by rw [hs];simp [hp]
  simp (disch:=(first|omega|(simp only [vl];omega))) only [F37_l0,this,Sk,lx,rL11,List.append_nil]
 | m+1,[],pre,out,bad,p,n+1,hm,hs,hp,hn,hb,ho=>by
  refine loopN_inr ?_;have:s.length=p:=by rw [hs];simp [hp]
  simp (disch:=(first|omega|(simp only [vl];omega))) only [F37_l0,this,Sk,lx,rL11,List.append_nil]
 | 0,c::r,pre,out,bad,p,n+1,hm,hs,hp,hn,hb,ho=>by simp at hm
 | m+1,c::r,pre,out,bad,p,n+1,hm,hs,hp,hn,hb,ho=>by
  simp only [List.length_cons] at hm hn hb ho;have h16:=c16 pre r c p bad 0 hp (by omega);have he:=one_e c r;rw [←hs] at h16;have hl:s.length=p+(r.length+1):=by rw [hs];simp [hp]
  cases h1:one c r with
  | mk k tk =>
   rw [h1] at h16 he;cases tk with
   | ok t u =>
    have hu:=one_used h1;rw [loopN_inl (v':=(s,out++[(k,t,(p:Int))],s,((p+u:Nat):Int),bad,0,())) (by
     simp (disch:=(first|omega|(simp only [vl];omega))) only [F37_l0,hl,Sk,h16,tkres,fin])]
    have:=l11 s m ((c::r).drop u) (pre++(c::r).take u) (out++[(k,t,(p:Int))]) bad (p+u) n (by simp;omega) (by rw [hs,List.append_assoc,List.take_append_drop]) (by simp [hp];omega) (by simp;omega) (by simp;omega) (by simp;omega);rw [this];simp only [lx,h1];cases lx m ((c::r).drop u) (p+u) with
    | inl l=>simp [rL11]
    | inr e=>rfl
   | bad off e =>
    have he':e=4∨e=6:=he;refine loopN_inr ?_;simp (disch:=(first|omega|(simp only [vl];omega))) only [F37_l0,hl,Sk,h16,tkres,fin,lx,h1,rL11]
   | start =>
    refine loopN_inr ?_;simp (disch:=(first|omega|(simp only [vl];omega))) only [F37_l0,hl,Sk,h16,tkres,fin,lx,h1,rL11]
def lexs (s:List UInt8) (p:Nat):List Tok⊕(Nat×Int):=lx s.length s p
def end1:List Tok⊕(Nat×Int)→List Tok×Int×Int
 | .inl l=>(l,0,0)
 | .inr x=>([],(x.1:Int),x.2)
def end2:Option Nat→List Tok⊕(Nat×Int)→List Tok×Int×Int
 | some b,_=>([],(b:Int),7)
 | none,x=>end1 x
def lexR (s:List UInt8):List Tok×Int×Int:=if 2000<s.length then ([],0,5) else end2 (utf s) (lexs s 0)
theorem c11 (s:List UInt8):C37 (s,())=some ((lexR s).1,(lexR s).2.1,(lexR s).2.2,()):=by
 show F37 C34 C66 C37_l0 (s,())=_;unfold lexR;by_cases h:2000<s.length
 · simp only [if_pos h]
   simp (disch:=(first|omega|(simp only [vl];omega))) only [F37,Sk]
 · simp only [if_neg h]
   obtain ⟨o,h15⟩:=c15 s (by omega);cases hu:utf s with
   | some b =>
    rw [hu] at h15;simp only at h15;simp (disch:=(first|omega|(simp only [vl];omega))) only [F37,Sk,h15,end2]
   | none =>
    rw [hu] at h15;have hl:=l11 s s.length s [] [] 0 0 big (Nat.le_refl _) (by simp) rfl (by unfold big;omega) (by omega) (by simp;omega);have hl':C37_l0 (s,[],s,0,0,0,())=some (rL11 [] (lexs s 0)):=hl;simp (disch:=(first|omega|(simp only [vl];omega))) only [F37,Sk,h15,hl'];cases lexs s 0 with
    | inl l=>simp [rL11,end2,end1]
    | inr x=>obtain ⟨b,e⟩:=x;simp [rL11,end2,end1]
def asciiB (c:UInt8):Bool:=decide (c.toNat<128)
theorem asc_k:((List.range 256).all fun n=>(fun c:UInt8 => !asciiB c||(decide (leadN c=0)&&decide (lenR (leadV c)=1))) (UInt8.ofNat n))=true:=by kernel_rfl
theorem ch_asc {c:UInt8} (h:c.toNat<128) (r:List UInt8):ch (c::r)=1:=by
 have h1:(!asciiB c||(decide (leadN c=0)&&decide (lenR (leadV c)=1)))=true:=all256 (fun c:UInt8 => !asciiB c||(decide (leadN c=0)&&decide (lenR (leadV c)=1))) asc_k c;have h2:asciiB c=true:=by simp [asciiB,h]
 simp only [h2,Bool.not_true,Bool.false_or,Bool.and_eq_true,decide_eq_true_eq] at h1;simp [ch,h1.1,conts,h1.2]
def stops (p:UInt8→Bool):List UInt8→Prop
 | []=>True
 | b::_=>p b=false
inductive Val:List UInt8→Prop
 | nil:Val []
 | cons (s:List UInt8) (h:ch s≠0) (h2:Val (s.drop (ch s))):Val s
def contK (c:UInt8):Bool := !contB c||decide (128≤c.toNat)
theorem cont_k:((List.range 256).all fun n=>contK (UInt8.ofNat n))=true:=by kernel_rfl
theorem cont_hi {c:UInt8} (h:contB c=true):128≤c.toNat:=by
 have:=all256 contK cont_k c;simpa [contK,h] using this
theorem conts_hi:∀(n:Nat) (r:List UInt8) (v v':Int),conts n r v=some v'→n≤r.length∧∀c∈r.take n,128≤c.toNat
 | 0,r,v,v',_=>⟨by omega,by simp⟩
 | n+1,[],v,v',h=>by simp [conts] at h
 | n+1,c::r,v,v',h=>by
  cases hc:contB c with
  | true =>
   simp only [conts,hc,cond_true] at h;obtain ⟨h1,h2⟩:=conts_hi n r _ _ h;refine ⟨by simp;omega,fun x hx => ?_⟩;rw [List.take_succ_cons] at hx;rcases List.mem_cons.1 hx with rfl|hx
   · exact cont_hi hc
   · exact h2 x hx
  | false=>simp [conts,hc] at h
theorem conts_app:∀(n:Nat) (r x:List UInt8) (v:Int),n≤r.length→conts n (r++x) v=conts n r v
 | 0,r,x,v,_=>by cases r<;>rfl
 | n+1,[],x,v,h=>by simp at h
 | n+1,c::r,x,v,h=>by
  simp only [List.cons_append,conts];cases contB c
  · rfl
  · exact conts_app n r x _ (by simpa using h)
theorem ch_some {c:UInt8} {r:List UInt8} (h:ch (c::r)≠0):∃v,¬leadN c<0∧¬r.length<(leadN c).toNat∧conts (leadN c).toNat r (leadV c)=some v∧lenR v=leadN c+1∧ch (c::r)=(leadN c).toNat+1:=by
 simp only [ch] at h;split at h
 · exact absurd rfl h
 · rename_i h1
   split at h
   · exact absurd rfl h
   · rename_i h2
     split at h
     · exact absurd rfl h
     · rename_i v hv
       split at h
       · rename_i h3
         exact ⟨v,h1,h2,hv,h3,by simp [ch,h1,h2,hv,h3]⟩
       · exact absurd rfl h
theorem ch_app {s x:List UInt8} (h:ch s≠0):ch (s++x)=ch s:=by
 cases s with
 | nil=>exact absurd rfl h
 | cons c r =>
  obtain ⟨v,h1,h2,h3,h4,h5⟩:=ch_some h;have:conts (leadN c).toNat (r++x) (leadV c)=some v:=by rw [conts_app _ _ _ _ (by omega),h3]
  rw [h5,List.cons_append];simp only [ch,if_neg h1,if_neg (show ¬(r++x).length<(leadN c).toNat by simp;omega),this,if_pos h4]
theorem ch_unapp {s x:List UInt8} (h:ch (s++x)≠0) (hl:ch (s++x)≤s.length):ch s=ch (s++x):=by
 cases s with
 | nil=>simp at hl;exact absurd hl h
 | cons c r =>
  obtain ⟨v,h1,h2,h3,h4,h5⟩:=ch_some (r:=r++x) h;have h5':ch (c::r++x)=(leadN c).toNat+1:=h5;rw [h5'] at hl ⊢;simp only [List.length_cons] at hl;rw [conts_app _ _ _ _ (by omega)] at h3;simp only [ch,if_neg h1,if_neg (show ¬r.length<(leadN c).toNat by omega),h3,if_pos h4]
theorem Val.app {a b:List UInt8} (ha:Val a) (hb:Val b):Val (a++b):=by
 induction ha with
 | nil=>exact hb
 | cons s h h2 ih =>
  have:=ch_le s;refine .cons _ (by rw [ch_app h];exact h) ?_;rw [ch_app h,List.drop_append,show ch s-s.length=0 by omega,List.drop_zero];exact ih
theorem Val.one {c:UInt8} (h:c.toNat<128):Val [c] := .cons _ (by rw [ch_asc h];simp) (by rw [ch_asc h];exact .nil)
theorem Val.split:∀(m:Nat) (a:List UInt8) (c:UInt8) (b:List UInt8),a.length≤m→c.toNat<128→Val (a++c::b)→Val a∧Val b
 | m,[],c,b,_,hc,h=>by
  refine ⟨.nil,?_⟩;cases h with
  | cons _ h h2=>simpa [ch_asc hc] using h2
 | 0,d::a,c,b,hm,hc,h=>by simp at hm
 | m+1,d::a,c,b,hm,hc,h=>by
  cases h with
  | cons _ h0 h2 =>
   have hk:ch (d::a++c::b)≤(d::a).length:=by
    by_cases hd:d.toNat<128
    · have:ch (d::a++c::b)=1:=ch_asc hd _
      rw [this];simp
    · obtain ⟨v,g1,g2,g3,g4,g5⟩:=ch_some (r:=a++c::b) h0
      have g5':ch (d::a++c::b)=(leadN d).toNat+1:=g5;rw [g5',List.length_cons];obtain ⟨e1,e2⟩:=conts_hi _ _ _ _ g3;rcases Nat.lt_or_ge a.length (leadN d).toNat with hlt|hge
      · exfalso
        have:c∈(a++c::b).take (leadN d).toNat:=by
         rw [List.take_append];obtain ⟨j,hj⟩:∃j,(leadN d).toNat-a.length=j+1:=⟨(leadN d).toNat-a.length-1,by omega⟩
         rw [hj,List.take_succ_cons];simp
        have:=e2 c this;omega
      · omega
   have hsame:=ch_unapp (s:=d::a) (x:=c::b) h0 hk;have h0':ch (d::a)≠0:=by rw [hsame];exact h0
   rw [List.drop_append,show ch (d::a++c::b)-(d::a).length=0 by omega,List.drop_zero,←hsame] at h2;obtain ⟨i1,i2⟩:=Val.split m ((d::a).drop (ch (d::a))) c b (by simp at hm ⊢;omega) hc h2;exact ⟨.cons _ h0' i1,i2⟩
theorem Val.cut {a b:List UInt8} {c:UInt8} (hc:c.toNat<128) (h:Val (a++c::b)):Val a∧Val b:=Val.split _ a c b (Nat.le_refl _) hc h
def skn:List Tok→Nat
 | []=>0
 | t::r=>bif t.1==4||t.1==3 then skn r+1 else 0
def sgn (s:List UInt8):List Tok→Bool
 | t::_=>t.1==2&&t.2.1==s
 | []=>false
def dwn (acc:List UInt8):List Tok→List UInt8×Nat
 | t::u::r=>bif (t.1==2&&t.2.1==[46])&&u.1==0 then ((dwn (acc++([46]++u.2.1)) r).1,(dwn (acc++([46]++u.2.1)) r).2+2) else (acc,0)
 | _=>(acc,0)
def dot:List Tok→List UInt8×Bool×Nat
 | t::r=>bif t.1==0 then ((dwn t.2.1 r).1,true,(dwn t.2.1 r).2+1) else ([],false,0)
 | []=>([],false,0)
def loc:List Tok→Bool×List UInt8×Nat
 | t::r=>bif t.1==1 then (true,t.2.1,1) else ((dot (t::r)).2.1,(dot (t::r)).1,(dot (t::r)).2.2)
 | []=>(false,[],0)
def dom:List Tok→Bool×List UInt8×Nat
 | t::r=>bif t.1==5 then (true,src t.1 t.2.1,1) else ((dot (t::r)).2.1,(dot (t::r)).1,(dot (t::r)).2.2)
 | []=>(false,[],0)
def mt (l:List Tok):Option (List UInt8×List UInt8×Nat) :=
 let n1:=skn l
 let n2:=n1+(loc (l.drop n1)).2.2
 let n3:=n2+skn (l.drop n2)
 let n5:=n3+1+skn (l.drop (n3+1))
 let n6:=n5+(dom (l.drop n5)).2.2
 bif !(loc (l.drop n1)).1 then none else bif !sgn [64] (l.drop n3) then none else bif !(dom (l.drop n5)).1 then none else
 some ((loc (l.drop n1)).2.1,(dom (l.drop n5)).2.1,n6+skn (l.drop n6))
section
variable {T:List R6} {A:List R4} {B:List R3}
theorem d85 (x:Int):Df (C36 (x,())) (fun _=>True):=by
 unfold C36 F36;dsimp only;with_reducible repeat' (first|apply dP|apply dX<;>intro _)
 all_goals trivial
theorem d156v1 (s:List UInt8) (b:Bool) (hs:s.length≤1000000000000000):Df (C99v1 (s,b,())) (fun _=>True):=by
 unfold C99v1 F99v1;dsimp only;refine dZ (P:=fun _=>True) ?_ (fun z _=>by cases z<;>exact dP trivial);refine dL ?I ?m ?h _ ?hv ?hn
 case I=>exact (fun v=>v.2.1.1=s∧0≤v.2.1.2)
 case m=>exact (fun v=>s.length-v.2.1.2.toNat)
 case hv=>exact ⟨rfl,Int.le_refl _⟩
 case hn=>exact (by (try dsimp only);omega)
 · rintro ⟨x0,⟨x1,p⟩,u⟩ hI
   dsimp only at hI;obtain ⟨rfl,h0⟩:=hI;unfold F99v1_l0;dsimp only;with_reducible repeat' (first|apply dP|apply dX<;>intro _)
   · refine dZ (d85 _) ?_
     rintro ⟨x,u⟩ -
     dsimp only;have:=decR_pos x1 p.toNat
     with_reducible repeat' (first|apply dP|apply dX<;>intro _)
     · trivial
     · exact ⟨⟨rfl,by (try dsimp only);omega⟩,by (try dsimp only);omega⟩
   · trivial
theorem d84v1 (s:List UInt8) (hs:s.length≤1000000000000000):Df (C35v1 (s,())) (fun _=>True):=by
 unfold C35v1 F35v1;dsimp only;refine dZ (P:=fun _=>True) ?_ (fun z _=>dP trivial);unfold C65v1 F65v1;dsimp only;exact dZ (d156v1 s true hs) (fun z _=>dP trivial)
theorem d86 (a:List UInt8):Df (C31 (a,())) (fun _=>True):=by
 unfold C31 F31;dsimp only;refine dZ (P:=fun _=>True) ?_ (fun z _=>dP trivial);unfold C59 F59;dsimp only;exact dZ (d131 a [91]) (fun z _=>dP trivial)
theorem d87 (h:TK T A B) (s:List UInt8) (hs:s.length≤3000):Df (C33 (T,A,B,s,())) (fun _=>True):=by
 unfold C33 F33;dsimp only;obtain ⟨y,e⟩:=d124 h s hs;exact dZ (P:=fun _=>True) ⟨y,e,trivial⟩ (fun z _=>dP trivial)
theorem d44 (h:TK T A B) (a b:List UInt8) (ha:a.length≤100000) (hb:b.length≤3000):Df (C11 (T,A,B,a,b,())) (fun _=>True):=by
 unfold C11 F11;dsimp only;refine dZ (d83 a (by omega)) ?_;rintro ⟨x,y,u⟩ -
 dsimp only;with_reducible repeat' (first|apply dP|apply dX<;>intro _)
 · trivial
 · trivial
 · trivial
 · refine dZ (d84v1 a (by omega)) ?_
   rintro ⟨x,u⟩ -
   dsimp only;with_reducible repeat' (first|apply dP|apply dX<;>intro _)
   · trivial
   · refine dZ (d86 b) ?_
     rintro ⟨x,u⟩ -
     dsimp only;with_reducible repeat' (first|apply dP|apply dX<;>intro _)
     · rw [c11 b]
       simp only [Option.bind_some];with_reducible repeat' (first|apply dP|apply dX<;>intro _)
       · trivial
       · trivial
       · trivial
       · trivial
       · refine dO ?_;omega
     · exact dZ (d87 h b hb) (fun z _=>dP trivial)
end
section
variable {l:List Tok}
end
section
variable {T:List R6} {A:List R4} {B:List R3}
end
def ix (s:List UInt8) (k:UInt8):Int:=Lib.indexByte s k
theorem toB (k:UInt8):((k.toNat:Int)).toNat.toUInt8=k:=by
 rw [Int.toNat_natCast];exact UInt8.ofNat_toNat
theorem c162 (s:List UInt8) (k:UInt8):C131 (s,(k.toNat:Int),())=some (ix s k,()):=by
 show F131 C163 _=_;simp only [F131];show (some (Lib.indexByte s ((k.toNat:Int)).toNat.toUInt8,())).bind _=_;rw [toB];rfl
theorem c197 (s:List UInt8) (k:UInt8):C164 (s,[k],())=some (ix s k,()):=by
 have h0:∀b,(b=true→ix s k=0)→C164_c0 (s,[k],1,b,())=some (ix s k,()):=by
  intro b hb;show F164_c0 C131 _=_;simp only [F164_c0];cases b with
  | true=>rw [hb rfl];rfl
  | false =>
   simp only [cond_false,List.getD_cons_zero,c162,Option.bind_some];rfl
 show F164 C131 C164_c0 _=_;simp only [F164,List.length_cons,List.length_nil];rw [show ((((0+1:Nat):Int))==0)=false from rfl];simp only [cond_false];rw [show (((0+1:Nat):Int))=1 from rfl,h0 _ (fun h => ?_)]
 · rfl
 · have:=eq_of_beq h
   rw [←this];simp [ix,Lib.indexByte]
theorem ix_cons (c:UInt8) (s:List UInt8) (k:UInt8):ix (c::s) k=if c==k then 0 else if ix s k == -1 then -1 else ix s k+1:=rfl
theorem ix_app (k:UInt8) (r:List UInt8):∀a:List UInt8,(∀c∈a,c≠k)→ix (a++k::r) k=a.length
 | [],_=>by rw [List.nil_append,ix_cons,if_pos (beq_self_eq_true k)];rfl
 | c::a,h=>by
  have ih:=ix_app k r a fun d hd=>h d (List.mem_cons_of_mem _ hd);have hc:(c==k)=false:=beq_eq_false_iff_ne.2 (h c List.mem_cons_self);rw [List.cons_append,ix_cons,hc,if_neg (by simp),ih,ibF (by omega),if_neg (by simp),List.length_cons];omega
theorem ix_non (k:UInt8):∀a:List UInt8,(∀c∈a,c≠k)→ix a k = -1
 | [],_=>rfl
 | c::a,h=>by
  have ih:=ix_non k a fun d hd=>h d (List.mem_cons_of_mem _ hd);have hc:(c==k)=false:=beq_eq_false_iff_ne.2 (h c List.mem_cons_self);rw [ix_cons,hc,if_neg (by simp),ih];rfl
theorem c129a (a r:List UInt8) (k:UInt8) (h:∀c∈a,c≠k) (hs:a.length+r.length≤1000000):C110 (a++k::r,[k],())=some (a,r,true,()):=by
 have hl:(((a++k::r).length:Nat):Int)=a.length+r.length+1:=by simp;omega
 have h3:C134 (a++k::r,[k],())=some (a,r,true,()):=by
  show F134 C164 _=_;simp only [F134,c197,Option.bind_some,List.length_cons,List.length_nil,ix_app k r a h];have hw:=w64s (n:=(a.length:Int)+((0+1:Nat):Int)) (by omega);simp only [hw,hl];rw [decide_eq_true (show (a.length:Int)≥0 by omega),decide_eq_true (by omega),decide_eq_true (by omega),decide_eq_true (by omega)];simp only [Bool.and_self,cond_true];rw [show ((a.length:Int)+((0+1:Nat):Int)).toNat=a.length+1 by omega,Int.toNat_natCast];simp only [List.take_left];rw [show a++k::r=(a++[k])++r by simp,show a.length+1=(a++[k]).length by simp,List.drop_left]
 show F110 C134 _=_;simp only [F110,h3,Option.bind_some]
theorem c129n (a:List UInt8) (k:UInt8) (h:∀c∈a,c≠k):C110 (a,[k],())=some (a,[],false,()):=by
 have h3:C134 (a,[k],())=some (a,[],false,()):=by
  show F134 C164 _=_;simp only [F134,c197,Option.bind_some,ix_non k a h];rfl
 show F110 C134 _=_;simp only [F110,h3,Option.bind_some]
theorem join_two (a b:List UInt8) (r:List (List UInt8)):Lib.join (a::b::r) [46]=a++46::Lib.join (b::r) [46]:=by
 simp [Lib.join,List.intercalate,List.intersperse]
theorem parts_join:∀(az:List (List UInt8)) (n:Nat),az≠[]→(∀a∈az,∀c∈a,c≠46)→az.length≤n→(Lib.join az [46]).length≤1000000→partsC n (Lib.join az [46])=some az
 | [],_,h,_,_,_=>(h rfl).elim
 | _::_,0,_,_,h,_=>by simp at h
 | [a],n+1,_,h,_,_=>by
  rw [Lib.join_one];simp only [partsC,c129n a 46 (h a List.mem_cons_self),Option.bind_some,cond_false]
 | a::b::r,n+1,_,h,hn,hl=>by
  rw [join_two] at hl ⊢;simp only [List.length_append,List.length_cons] at hl hn;have ih:=parts_join (b::r) n (by simp) (fun x hx=>h x (List.mem_cons_of_mem _ hx)) (by simp only [List.length_cons];omega) (by omega);simp only [partsC,c129a a (Lib.join (b::r) [46]) 46 (h a List.mem_cons_self) (by omega),Option.bind_some,cond_true,ih,Option.map_some]
theorem mem_join:∀(az:List (List UInt8)) (c:UInt8),c∈Lib.join az [46]→c=46∨∃a∈az,c∈a
 | [],c,h=>by cases h
 | [a],c,h=>by rw [Lib.join_one] at h;exact .inr ⟨a,List.mem_cons_self,h⟩
 | a::b::r,c,h=>by
  rw [join_two] at h;rcases List.mem_append.1 h with h|h
  · exact .inr ⟨a,List.mem_cons_self,h⟩
  · rcases List.mem_cons.1 h with h|h
    · exact .inl h
    · rcases mem_join (b::r) c h with h|⟨x,hx,hc⟩
      · exact .inl h
      · exact .inr ⟨x,List.mem_cons_of_mem _ hx,hc⟩
theorem join_ge:∀(az:List (List UInt8)) (a:List UInt8),a∈az→a.length≤(Lib.join az [46]).length
 | [],a,h=>by cases h
 | [b],a,h=>by rw [Lib.join_one,List.mem_singleton.1 h];exact Nat.le_refl _
 | x::b::r,a,h=>by
  rw [join_two];simp only [List.length_append,List.length_cons];rcases List.mem_cons.1 h with rfl|h
  · omega
  · have:=join_ge (b::r) a h
    omega
theorem replace_asc (x new:List UInt8) (ha:∀c∈x,c.toNat<128):Lib.replaceAll x [227,128,130] new=x:=by
 unfold Lib.replaceAll Lib.replace;split
 · rfl
 · generalize Lib.replaceNum x [227,128,130] (-1)=k
   cases k with
   | zero=>rfl
   | succ k =>
    rcases Lib.index_spec x [227,128,130] with ⟨hi,-⟩|⟨i,hi,h1,h2,-⟩
    · rw [Lib.replaceK,if_pos (by rw [hi];rfl)]
    · exfalso
      have hfit:i+[(227:UInt8),128,130].length≤x.length:=index_fit hi;rw [Lib.occAt_iff_take _ _ _ hfit] at h2;have h3:(x.drop i).take 3=[227,128,130]:=eq_of_beq h2;have h4:(227:UInt8)∈x:=List.mem_of_mem_drop (List.mem_of_mem_take (i:=3) (l:=x.drop i) (by rw [h3];exact List.mem_cons_self));exact absurd (ha _ h4) (by decide)
theorem parts_ne:∀(n:Nat) (s:List UInt8) (ps:List (List UInt8)),partsC n s=some ps→ps≠[]
 | 0,_,_,h=>by cases h
 | n+1,s,ps,h=>by
  simp only [partsC] at h;cases hc:C110 (s,[46],()) with
  | none=>rw [hc] at h;cases h
  | some y =>
   obtain ⟨a,b,ok,u⟩:=y;rw [hc] at h;simp only [Option.bind_some] at h;cases ok with
   | true =>
    simp only [cond_true,Option.map_eq_some_iff] at h;obtain ⟨qs,hq,rfl⟩:=h;exact List.cons_ne_nil _ _
   | false =>
    simp only [cond_false,Option.some.injEq] at h;subst h;exact List.cons_ne_nil _ _
section
variable {T:List R6} {A:List R4} {B:List R3}
theorem labels_inv (f:List UInt8) (ok:Bool) (hf:f.length≤5000000) (ls:List (List UInt8)) (h:labelsF f ok=some (ls,0)):ok=true∧ls≠[]∧ls.length≤32∧∀p∈ls,p.length≤f.length:=by
 unfold labelsF at h;cases ok with
 | false=>simp at h
 | true =>
  simp only [Bool.not_true,cond_false] at h;cases hfe:f.isEmpty with
  | true=>rw [hfe] at h;simp at h
  | false =>
   rw [hfe] at h;simp only [cond_false] at h;rw [decide_eq_true (by omega)] at h;simp only [cond_true] at h;have hr:=replaceAll_le f [227,128,130] [46] (by decide);obtain ⟨ps,e,h1,h2⟩:=parts_total (f.length+2) (Lib.replaceAll f [227,128,130] [46]) (by omega) (by omega);rw [e] at h;simp only [Option.bind_some] at h;rw [decide_eq_true (by omega)] at h;simp only [cond_true] at h;by_cases h3:32<ps.length
   · rw [decide_eq_true h3] at h
     simp at h
   · rw [decide_eq_false h3] at h
     simp only [cond_false,Option.some.injEq,Prod.mk.injEq,and_true] at h;subst h;exact ⟨rfl,parts_ne _ _ _ e,by omega,fun p hp=>by have:=h2 p hp;omega⟩
theorem both_out (A U:List UInt8→Option (List UInt8×Int)):∀(ls ps qs:List (List UInt8)) r,bothF A U ls ps qs=some r→r.1=0→∃az,r.2.1=ps++az∧az.length=ls.length∧∀a∈az,∃x∈ls,A x=some (a,0)
 | [],ps,qs,r,h,h0=>by
  simp only [bothF,Option.some.injEq] at h;subst h;exact ⟨[],by simp,rfl,fun a ha=>by cases ha⟩
 | y::ls,ps,qs,r,h,h0=>by
  simp only [bothF] at h;cases ha:A y with
  | none=>rw [ha] at h;cases h
  | some a =>
   rw [ha] at h;simp only [Option.bind_some] at h;by_cases hz:a.2=0
   · rw [inF hz] at h
     simp only [cond_false] at h;cases hu:U y with
     | none=>rw [hu] at h;cases h
     | some u =>
      rw [hu] at h;obtain ⟨az,e,hl,hall⟩:=both_out A U ls _ _ r h h0;refine ⟨a.1::az,by rw [e];simp,by simp [hl],fun z hz' => ?_⟩;rcases List.mem_cons.1 hz' with rfl|hz'
      · exact ⟨y,List.mem_cons_self,by rw [ha,←hz]⟩
      · obtain ⟨x,hx,hA⟩:=hall z hz'
        exact ⟨x,List.mem_cons_of_mem _ hx,hA⟩
   · rw [inT hz] at h
     simp only [cond_true,Option.some.injEq] at h;subst h;exact (hz h0).elim
theorem both_same (A U:List UInt8→Option (List UInt8×Int)):∀(az ps qs:List (List UInt8)) r,(∀a∈az,A a=some (a,0))→bothF A U az ps qs=some r→r.1=0∧r.2.1=ps++az
 | [],ps,qs,r,_,h=>by
  simp only [bothF,Option.some.injEq] at h;subst h;exact ⟨rfl,by simp⟩
 | y::ls,ps,qs,r,hA,h=>by
  simp only [bothF,hA y List.mem_cons_self,Option.bind_some] at h;rw [inF rfl] at h;simp only [cond_false] at h;cases hu:U y with
  | none=>rw [hu] at h;cases h
  | some u =>
   rw [hu] at h;obtain ⟨h1,h2⟩:=both_same A U ls _ _ r (fun a ha=>hA a (List.mem_cons_of_mem _ ha)) h;exact ⟨h1,by rw [h2];simp⟩
theorem join_eq {l:List (List UInt8)} {x:List UInt8} (h:joinF (l,[46],())=some (x,())):x=Lib.join l [46]:=by
 unfold joinF at h;dsimp only at h;cases hc:(decide (l.length≤140737488355328)&&decide ((Lib.join l [46]).length≤140737488355328)) with
 | false=>rw [hc] at h;cases h
 | true=>rw [hc] at h;cases h;rfl
theorem out_inv {r:Int×List (List UInt8)×List (List UInt8)} {o:List UInt8×List UInt8×Int} (h:outF r=some o) (h0:o.2.2=0):r.1=0∧o.1=Lib.join r.2.1 [46]∧o.1.length≤253:=by
 unfold outF at h;by_cases hz:r.1=0
 · rw [inF hz] at h
   simp only [cond_false] at h;cases hj:joinF (r.2.1,[46],()) with
   | none=>rw [hj] at h;cases h
   | some ja =>
    obtain ⟨ja,u⟩:=ja;rw [hj] at h;simp only [Option.bind_some] at h;by_cases hl:253<ja.length
    · rw [decide_eq_true hl] at h
      simp only [cond_true,Option.some.injEq] at h;subst h;exact absurd h0 (by decide)
    · rw [decide_eq_false hl] at h
      simp only [cond_false] at h;cases hu:joinF (r.2.2,[46],()) with
      | none=>rw [hu] at h;cases h
      | some ju =>
       rw [hu] at h;simp only [Option.bind_some,Option.some.injEq] at h;subst h;exact ⟨hz,join_eq hj,by (try dsimp only);omega⟩
 · rw [inT hz] at h
   simp only [cond_true,Option.some.injEq] at h;subst h;exact (hz h0).elim
theorem out_same {r:Int×List (List UInt8)×List (List UInt8)} {o:List UInt8×List UInt8×Int} (h:outF r=some o) (h0:r.1=0) (hl:(Lib.join r.2.1 [46]).length≤253):o.1=Lib.join r.2.1 [46]∧o.2.2=0:=by
 unfold outF at h;rw [inF h0] at h;simp only [cond_false] at h;cases hj:joinF (r.2.1,[46],()) with
 | none=>rw [hj] at h;cases h
 | some ja =>
  obtain ⟨ja,u⟩:=ja;have hje:=join_eq hj;rw [hj] at h;simp only [Option.bind_some] at h;rw [decide_eq_false (by rw [hje];omega)] at h;simp only [cond_false] at h;cases hu:joinF (r.2.2,[46],()) with
  | none=>rw [hu] at h;cases h
  | some ju =>
   rw [hu] at h;simp only [Option.bind_some,Option.some.injEq] at h;subst h;exact ⟨hje,rfl⟩
structure Dm (T:List R6) (A:List R4) (B:List R3) (x:List UInt8):Prop where
 lw:Lw B x
 ne:x≠[]
 len:x.length≤253
 kk:∀c∈x,kk (c.toNat:Int)=true→c=46
 self:Pf (C62 (T,A,B,x,())) fun y=>y.1=x∧y.2.2.1=0
theorem domR (h:TK T A B) (hK:KT T A B) (hL:LN B) (hC:LC T A B) (s:List UInt8) (hs:s.length≤400):Pf (C62 (T,A,B,s,())) (fun y=>y.2.2.1=0→Dm T A B y.1):=by
 obtain ⟨⟨f,ok,u⟩,e151,hf⟩:=d151 h s (by omega);dsimp only at hf;obtain ⟨ls,c,e2,hll,-⟩:=labels_total f ok (by omega);unfold C62;dsimp only;simp only [e151,Option.bind_some,e2];refine pX (fun hc=>pP fun h0=>(hc h0).elim) (fun hc => ?_);refine pX (fun _ => ?_) (fun _=>pN);have hc':c=0:=hc;subst hc';obtain ⟨-,hne,hl32,hpl⟩:=labels_inv f ok (by omega) ls e2;intro y ey h0;cases hb:bothF (fun x=>(C95 (T,A,B,x,())).map fun r=>(r.1,r.2.1)) (fun x=>(C96 (T,A,B,x,())).map fun r=>(r.1,r.2.1)) ls [] [] with
 | none=>rw [hb] at ey;cases ey
 | some r =>
  rw [hb] at ey;simp only [Option.bind_some,Option.map_eq_some_iff] at ey;obtain ⟨o,ho,rfl⟩:=ey;dsimp only at h0 ⊢;obtain ⟨hr0,hj,hl253⟩:=out_inv ho h0;obtain ⟨az,eas,hlen,has⟩:=both_out _ _ ls [] [] r hb hr0;rw [List.nil_append] at eas;rw [eas] at hj;have hA:∀a∈az,C95 (T,A,B,a,())=some (a,0,())∧Lw B a∧a≠[]∧∀x∈bi a,kk x=false:=by
   intro a ha;obtain ⟨x,hx,hAx⟩:=has a ha;have hax:=join_ge az a ha;rw [←hj] at hax;simp only [Option.map_eq_some_iff,Prod.mk.injEq] at hAx;obtain ⟨⟨a',c',u'⟩,e1,rfl,rfl⟩:=hAx;dsimp only at hax;obtain ⟨l1,l2⟩:=lab h hL hC x (by have:=hpl x hx;omega) a' (by omega) e1;have hn:¬(a'=[]∨∃x∈bi a',kk x=true):=fun hbad=>p159 h hK a' (by omega) hbad _ l1 rfl;refine ⟨l1,l2,fun e=>hn (.inl e),fun z hz => ?_⟩;cases hkz:kk z with
   | false=>rfl
   | true=>exact (hn (.inr ⟨z,hz,hkz⟩)).elim
  have hkk:∀a∈az,∀c∈a,kk (c.toNat:Int)=false:=fun a ha c hc=>(hA a ha).2.2.2 _ (List.mem_map_of_mem hc);have h46:∀a∈az,∀c∈a,c≠46:=fun a ha c hc e=>by
   have:=hkk a ha c hc;rw [e] at this;exact absurd this (by decide)
  have hane:az≠[]:=fun e=>by
   rw [e] at hlen;exact hne (List.eq_nil_of_length_eq_zero hlen.symm)
  have hw:Lw B o.1:=by
   intro c hc;rw [hj] at hc;rcases mem_join az c hc with rfl|⟨a,ha,hc⟩
   · exact ⟨by decide,hL.lo _ (by decide) (by decide) (by decide)⟩
   · exact (hA a ha).2.1 c hc
  have hone:o.1≠[]:=by
   obtain ⟨a,az',rfl⟩:=List.exists_cons_of_ne_nil hane;have h1:=join_ge (a::az') a List.mem_cons_self;rw [←hj] at h1;intro e;rw [e] at h1;exact (hA a List.mem_cons_self).2.2.1 (List.eq_nil_of_length_eq_zero (by simpa using h1))
  refine ⟨hw,hone,hl253,fun c hc hk => ?_,?_⟩
  · rw [hj] at hc
    rcases mem_join az c hc with rfl|⟨a,ha,hc⟩
    · rfl
    · rw [hkk a ha c hc] at hk;cases hk
  · have hlab:labelsF o.1 true=some (az,0):=by
     unfold labelsF;have he:o.1.isEmpty=false:=by
      cases ho1:o.1 with
      | nil=>exact (hone ho1).elim
      | cons=>rfl
     rw [he];simp only [Bool.not_true,cond_false];rw [decide_eq_true (by omega),replace_asc o.1 [46] fun c hc=>(hw c hc).1];simp only [cond_true];have hp:=parts_join az (o.1.length+2) hane h46 ?_ (by rw [←hj];omega)
     · rw [←hj] at hp
       rw [hp];simp only [Option.bind_some];rw [decide_eq_true (by omega),decide_eq_false (by omega)];rfl
     · rw [hj]
       have:∀l:List (List UInt8),l.length≤(Lib.join l [46]).length+2:=by
        intro l
        induction l with
        | nil=>simp
        | cons a l ih =>
         cases l with
         | nil=>simp only [List.length_cons,List.length_nil];omega
         | cons b l =>
          rw [join_two];simp only [List.length_cons,List.length_append] at ih ⊢;omega
       exact this az
    unfold C62;dsimp only;simp only [i151 h hL hC o.1 (by omega) hw,Option.bind_some,hlab];refine pX (fun hc=>(hc rfl).elim) (fun _ => ?_);refine pX (fun _ => ?_) (fun _=>pN);intro y ey;cases hb2:bothF (fun x=>(C95 (T,A,B,x,())).map fun r=>(r.1,r.2.1)) (fun x=>(C96 (T,A,B,x,())).map fun r=>(r.1,r.2.1)) az [] [] with
    | none=>rw [hb2] at ey;cases ey
    | some r2 =>
     rw [hb2] at ey;simp only [Option.bind_some,Option.map_eq_some_iff] at ey;obtain ⟨o2,ho2,rfl⟩:=ey;obtain ⟨g1,g2⟩:=both_same _ _ az [] [] r2 (fun a ha=>by rw [(hA a ha).1];rfl) hb2;rw [List.nil_append] at g2;obtain ⟨k1,k2⟩:=out_same ho2 g1 (by rw [g2,←hj];exact hl253);dsimp only;exact ⟨by rw [k1,g2,←hj],k2⟩
theorem dom87 (h:TK T A B) (hK:KT T A B) (hL:LN B) (hC:LC T A B) (s:List UInt8) (hs:s.length≤400) (x:List UInt8) (e:C33 (T,A,B,s,())=some (x,0,())):Dm T A B x∧C33 (T,A,B,x,())=some (x,0,()):=by
 have e':F33 C62 (T,A,B,s,())=some (x,0,()):=e;unfold F33 at e';dsimp only at e';cases hc:C62 (T,A,B,s,()) with
 | none=>rw [hc] at e';cases e'
 | some y =>
  obtain ⟨a,b,c,u⟩:=y;rw [hc] at e';simp only [Option.bind_some,Option.some.injEq,Prod.mk.injEq] at e';obtain ⟨rfl,rfl,-⟩:=e';have hd:=domR h hK hL hC s hs _ hc rfl;dsimp only at hd;refine ⟨hd,?_⟩;obtain ⟨⟨a',b',c',u'⟩,e2⟩:=d124 h a (by have:=hd.len;omega);obtain ⟨q1,q2⟩:=hd.self _ e2;dsimp only at q1 q2;subst q1 q2;show F33 C62 _=_;simp only [F33,e2,Option.bind_some]
end
def lowb (b:UInt8):UInt8:=UInt8.ofNat (((C61 ((b.toNat:Int),())).getD (0,())).1.toNat)
theorem low_k:((List.range 256).all fun n=>(C61 (((UInt8.ofNat n).toNat:Int),())).isSome)=true:=by kernel_rfl
theorem p64 (b:UInt8):∃v:Int,C61 ((b.toNat:Int),())=some (v,())∧UInt8.ofNat v.toNat=lowb b:=by
 have h:=List.all_eq_true.1 low_k b.toNat (by simp only [List.mem_range];exact b.toNat_lt)
 simp only [UInt8.ofNat_toNat] at h;obtain ⟨⟨v,u⟩,hv⟩:=Option.isSome_iff_exists.1 h;exact ⟨v,hv,by unfold lowb;rw [hv];rfl⟩
theorem pl63:∀(r pre:List UInt8) (p n:Nat) (acc:List UInt8),pre.length=p→acc.length=p→r.length<n→p+r.length≤1000000 →
 loopN (F60_l0 C61) n (pre++r,((p+r.length:Nat):Int),(p:Int),acc,())=some (acc++r.map lowb,())
 | [],pre,p,n+1,acc,hp,ha,hn,hb=>by
  refine loopN_inr ?_;simp only [F60_l0,List.length_nil,Nat.add_zero];rw [decide_eq_false (by omega)];simp only [cond_false,List.map_nil,List.append_nil]
 | c::r,pre,p,n+1,acc,hp,ha,hn,hb=>by
  simp only [List.length_cons] at hn hb;obtain ⟨v,hv,hl⟩:=p64 c;have hlen:(pre++c::r).length=p+r.length+1:=by simp [hp];omega
  rw [loopN_inl (v':=(pre++c::r,((p+(r.length+1):Nat):Int),((p+1:Nat):Int),acc++[lowb c],())) ?_]
  · have ih:=pl63 r (pre++[c]) (p+1) n (acc++[lowb c]) (by simp [hp]) (by simp [ha]) (by omega) (by omega)
    rw [show p+(r.length+1)=p+1+r.length by omega,show pre++c::r=(pre++[c])++r by simp,ih];simp
  · simp only [F60_l0,List.length_cons]
    rw [decide_eq_true (by omega),decide_eq_true (by omega),decide_eq_true (by omega)];simp only [Bool.and_self,cond_true,Int.toNat_natCast];rw [show (pre++c::r).getD p 0=c by subst hp;simp];simp only [hv,Option.bind_some,hl,wrN p (by omega)];rw [decide_eq_true (by simp only [List.length_cons,List.length_nil];omega)];rfl
theorem p25 (l:List UInt8) (h:l.length≤1000000):C32 (l,())=some (l.map lowb,()):=by
 have hl:C60_l0 (l,(l.length:Int),0,[],())=some (l.map lowb,()):=by
  have h:=pl63 l [] 0 big [] rfl rfl (by unfold big;omega) (by omega);rw [Nat.zero_add] at h;exact h
 have h63:C60 (l,())=some (l.map lowb,()):=by
  show F60 C61 C60_l0 _=_;simp only [F60,hl,Option.bind_some]
 show F32 C60 _=_;simp only [F32,h63,Option.bind_some];rw [decide_eq_true (by omega)];rfl
section
variable {T:List R6} {A:List R4} {B:List R3}
theorem d184_0 (h:TK T A B) (x:Int) (b:Bool):Df (C88_c0 (x,b,T,A,B,())) (fun y=>∀z,y = .inr z→(z.2.1,z.2.2.1,z.2.2.2.1)=(T,A,B)):=by
 unfold C88_c0 F88_c0;dsimp only;with_reducible repeat' (first|apply dP|apply dX<;>intro _)
 · intro z hz;cases hz
 · refine dZ (d215 T A B x h.t) ?_
   rintro ⟨c,u⟩ -
   dsimp only;with_reducible repeat' (first|apply dP|apply dX<;>intro _)
   · refine dZ (d216 T A B x) ?_
     rintro ⟨a1,a2,a3,a4,a5,a6,u⟩ -
     dsimp only;with_reducible repeat' (first|apply dP|apply dX<;>intro _)
     all_goals (intro z hz;cases hz)
   · intro z hz;cases hz;rfl
theorem d184 (h:TK T A B) (x:Int):Df (C88 (T,A,B,x,())) (fun _=>True):=by
 unfold C88 F88;dsimp only;with_reducible repeat' (first|apply dP|apply dX<;>intro _)
 all_goals
  refine dZ (d184_0 h x _) ?_;intro z hz;cases z with
  | inl z=>exact dP trivial
  | inr z =>
   obtain ⟨z1,z2,z3,z4,u⟩:=z;have e:=hz _ rfl;cases e;exact dZ (d217 h z1) fun _ _=>dP trivial
theorem d182 (h:TK T A B) (l:List Int) (p:Int) (hl:l.length≤1000000000000) (h0:0≤p) (hp:p<l.length):Df (C86 (p,T,A,B,l,())) (fun y=>y.2=(T,A,B,l,())):=by
 unfold C86 F86;dsimp only;refine dZ (d183 h l p hl (by omega)) ?_;rintro ⟨c,u⟩ -
 dsimp only;with_reducible repeat' (first|apply dP|apply dX<;>intro _)
 · rfl
 · exact dZ (d184 h _) fun _ _=>dP rfl
 · refine dO ?_;omega
 · rfl
theorem d152 (h:TK T A B) (s:List UInt8) (hs:s.length≤1000000000000):Df (C56 (T,A,B,s,())) (fun _=>True):=by
 unfold C56 F56;dsimp only;refine dZ (d83 s hs) ?_;rintro ⟨l,bad,u⟩ ⟨h1,-,-⟩;dsimp only at h1 ⊢;with_reducible repeat' (first|apply dP|apply dX<;>intro _)
 · trivial
 · trivial
 · refine dZ (P:=fun _=>True) ?_ (fun z _=>by cases z<;>exact dP trivial)
   refine dL ?I ?m ?h _ ?hv ?hn
   case I=>exact (fun v=>v.1=l.length∧0≤v.2.1∧v.2.2=(T,A,B,l,()))
   case m=>exact (fun v=>(l.length-v.2.1).toNat)
   case hv=>exact ⟨rfl,Int.le_refl _,rfl⟩
   case hn=>exact (by (try dsimp only);omega)
   rintro ⟨n,k,T',A',B',l',u⟩ ⟨g1,g2,g3⟩;dsimp only at g1 g2 g3;subst g1;cases g3;unfold F56_l0;dsimp only;with_reducible repeat' (first|apply dP|apply dX<;>intro _)
   · rename_i hk
     refine dZ (d182 h l k (by omega) g2 hk) ?_;rintro ⟨b,r⟩ hr;dsimp only at hr;subst hr;dsimp only;with_reducible repeat' (first|apply dP|apply dX<;>intro _)
     · trivial
     · rw [w64s (by omega)]
       exact ⟨⟨rfl,by (try dsimp only);omega,rfl⟩,by (try dsimp only);omega⟩
   · trivial
theorem d120 (h:TK T A B) (s:List UInt8) (hs:s.length≤100000):Df (C30 (T,A,B,s,())) (fun _=>True):=by
 unfold C30 F30;dsimp only;refine dZ (d151 h s (by omega)) ?_;rintro ⟨f,ok,u⟩ hf;dsimp only at hf ⊢;with_reducible repeat' (first|apply dP|apply dX<;>intro _)
 · trivial
 · refine dZ (d152 h f (by omega)) ?_
   rintro ⟨e,u⟩ -
   dsimp only;with_reducible repeat' (first|apply dP|apply dX<;>intro _)
   · trivial
   · refine dZ (d83 f (by omega)) ?_
     rintro ⟨l,bad,u⟩ ⟨h1,-,-⟩;dsimp only at h1 ⊢;refine dZ (d153 h l (by omega)) ?_;rintro ⟨e,u⟩ -
     dsimp only;with_reducible repeat' (first|apply dP|apply dX<;>intro _)
     · refine dZ (d154 h l (by omega)) ?_
       rintro ⟨e,u⟩ -
       dsimp only;with_reducible repeat' (first|apply dP|apply dX<;>intro _)
       · trivial
       · trivial
     · trivial
end
theorem d195 (s:List UInt8):Df (C139 (s,[46],())) (fun y => -1≤y.1∧y.1<s.length):=by
 unfold C139 F139;dsimp only;refine dZ (P:=fun y => -1≤y.1∧y.1<s.length) ?_ fun _ h=>dP h;unfold C164 F164;dsimp only;have e0:((([46]:List UInt8).length:Int)==0)=false:=rfl;rw [e0];simp only [cond_false];refine dZ (d197_0 s _ fun h => ?_) fun _ h=>dP h;have:=eq_of_beq h;rw [←this];decide
theorem d194 (s:List UInt8):Df (C138 (s,[46],())) (fun y=>0≤y.1∧y.1≤s.length):=by
 refine ⟨((Lib.countByte s 46:Nat),()),rfl,Int.natCast_nonneg _,?_⟩;have:Lib.countByte s 46≤s.length:=List.count_le_length;dsimp only;omega
theorem d161_l (L n:Nat) (hn:1≤n) (hL:L≤1000000000000) (hnL:n≤1000000000000) (s:List UInt8) (hs:s.length≤L) (rows:List (List UInt8)) (hr:rows.length=n) (ha:∀r∈rows,r.length≤L) :
 Df (C112_l0 (s,[46],0,(n:Int)-1,0,rows,())) (fun y=>y.1.length≤L∧0≤y.2.1∧y.2.1<n∧y.2.2.1.length=n∧∀r∈y.2.2.1,r.length≤L):=by
 refine dL ?I ?m ?h _ ?hv ?hn
 case I=>exact (fun v=>(v.2.1,v.2.2.1,v.2.2.2.1)=([46],0,(n:Int)-1)∧v.1.length≤L∧0≤v.2.2.2.2.1∧v.2.2.2.2.1<n∧v.2.2.2.2.2.1.length=n∧∀r∈v.2.2.2.2.2.1,r.length≤L)
 case m=>exact (fun v=>(n-v.2.2.2.2.1).toNat)
 case hv=>exact ⟨rfl,hs,Int.le_refl _,by (try dsimp only);omega,hr,ha⟩
 case hn=>exact (by (try dsimp only);omega)
 rintro ⟨s',x1,x2,x3,i,rows,u⟩ ⟨e,i1,i2,i3,i4,i5⟩;dsimp only at e i1 i2 i3 i4 i5;cases e;unfold F112_l0;dsimp only;with_reducible repeat' (first|apply dP|apply dX<;>intro _)
 · refine dZ (d195 s') ?_
   rintro ⟨m,u⟩ ⟨h1,h2⟩;dsimp only at h1 h2 ⊢;rw [w64s (n:=m+0) (by omega),w64s (n:=m+(([46]:List UInt8).length:Int)) (by simp only [List.length_cons,List.length_nil];omega)];with_reducible repeat' (first|apply dP|apply dX<;>intro _)
   · exact ⟨i1,i2,i3,i4,i5⟩
   · rw [w64s (by omega)]
     refine ⟨⟨rfl,by simp only [List.length_drop];omega,by (try dsimp only);omega,by (try dsimp only);omega,by simp only [List.length_set];omega,fun r hr => ?_⟩,by (try dsimp only);omega⟩;dsimp only at hr;rcases List.mem_or_eq_of_mem_set hr with h|h
     · exact i5 r h
     · subst h;simp only [List.length_take];omega
   · refine dO ?_;rename_i hc;simp only [List.length_cons,List.length_nil] at hc;omega
   · refine dO ?_;omega
   · refine dO ?_;omega
 · exact ⟨i1,i2,i3,i4,i5⟩
theorem d161 (s:List UInt8) (hs:s.length≤1000000000):Df (C112 (s,[46],0,-1,())) (fun y=>y.1.length≤s.length+1∧∀p∈y.1,p.length≤s.length):=by
 unfold C112 F112;dsimp only;rw [show ((-1:Int)==0)=false from rfl,show (([46]:List UInt8)==[])=false from rfl,show decide ((-1:Int)<0)=true from rfl];simp only [cond_false,cond_true];refine dZ (d194 s) ?_;rintro ⟨c,u⟩ ⟨h1,h2⟩;dsimp only at h1 h2 ⊢;rw [w64s (n:=c+1) (by omega)];refine dZ (P:=fun y=>y.1.length≤s.length+1∧∀p∈y.1,p.length≤s.length) ?_ fun _ h=>dP h;unfold C112_c0 F112_c0;dsimp only;rw [w64s (n:=(s.length:Int)+1) (by omega)];obtain ⟨n,rfl⟩:∃n:Nat,c=(n:Int):=⟨c.toNat,by omega⟩
 have hif:(if (s.length:Int)+1<(n:Int)+1 then (s.length:Int)+1 else (n:Int)+1)=((n+1:Nat):Int):=by rw [if_neg (by omega)];omega
 simp only [hif];have hc:(decide (0≤((n+1:Nat):Int))&&(decide True&&(decide ((16:Int)*((n+1:Nat):Int)≤281474976710656)&&decide (((n+1:Nat):Int)≤140737488355328))))=true:=by
  simp only [Bool.and_eq_true,decide_eq_true_eq];exact ⟨by omega,trivial,by omega,by omega⟩
 have hc':(decide (0≤((n+1:Nat):Int))&&(decide True&&(decide (((16:Nat):Int)*((n+1:Nat):Int)≤281474976710656)&&decide (((n+1:Nat):Int)≤140737488355328))))=true:=hc;first|rw [hc]|rw [hc']
 simp only [cond_true,Int.toNat_natCast];rw [w64s (n:=((n+1:Nat):Int)-1) (by omega)];refine dZ (d161_l s.length (n+1) (by omega) (by omega) (by omega) s (Nat.le_refl _) (List.replicate (n+1) []) (by simp) (fun r hr=>by rw [(List.mem_replicate.1 hr).2];exact Nat.zero_le _)) ?_;rintro ⟨s',i,rows,u⟩ ⟨j1,j2,j3,j4,j5⟩;dsimp only at j1 j2 j3 j4 j5 ⊢;rw [w64s (n:=i+1) (by omega)];with_reducible repeat' (first|apply dP|apply dX<;>intro _)
 · refine ⟨?_,fun p hp => ?_⟩
   · simp only [List.length_take,List.length_set];omega
   · rcases List.mem_or_eq_of_mem_set (List.mem_of_mem_take hp) with h|h
     · exact j5 p h
     · subst h;exact j1
 · refine dO ?_;rename_i hc;simp only [List.length_set] at hc;omega
 · refine dO ?_;omega
theorem d47 (s:List UInt8) (hs:s.length≤1000000000):Df (C80 (s,())) (fun _=>True):=by
 unfold C80 F80;dsimp only;refine dZ (P:=fun _=>True) ?_ (fun z _=>by cases z<;>exact dP trivial);refine dL ?I ?m ?h _ ?hv ?hn
 case I=>exact (fun v=>v.1=s∧v.2.1=s.length∧0≤v.2.2.1)
 case m=>exact (fun v=>(s.length-v.2.2.1).toNat)
 case hv=>exact ⟨rfl,rfl,Int.le_refl _⟩
 case hn=>exact (by (try dsimp only);omega)
 rintro ⟨s',n,k,u⟩ ⟨h1,h2,h3⟩;dsimp only at h1 h2 h3;subst h1;subst h2;unfold F80_l0;dsimp only;with_reducible repeat' (first|apply dP|apply dX<;>intro _)
 · rw [c17]
   simp only [Option.bind_some];with_reducible repeat' (first|apply dP|apply dX<;>intro _)
   · trivial
   · rw [w64s (by omega)]
     exact ⟨⟨rfl,rfl,by (try dsimp only);omega⟩,by (try dsimp only);omega⟩
 · refine dO ?_;omega
 · trivial
theorem d88 (s:List UInt8) (hs:s.length≤1000000000):Df (C53 (s,())) (fun _=>True):=by
 unfold C53 F53;dsimp only;refine dZ (P:=fun y=>y.1.length≤s.length+1∧∀p∈y.1,p.length≤s.length) ?_ ?_
 · unfold C79 F79
   dsimp only;exact dZ (d161 s hs) fun _ h=>dP h
 rintro ⟨ps,u⟩ ⟨g1,g2⟩;dsimp only at g1 g2 ⊢;refine dZ (P:=fun _=>True) ?_ (fun z _=>by cases z<;>exact dP trivial);refine dL ?I ?m ?h _ ?hv ?hn
 case I=>exact (fun v=>v.1=ps∧v.2.1=ps.length∧0≤v.2.2.1)
 case m=>exact (fun v=>(ps.length-v.2.2.1).toNat)
 case hv=>exact ⟨rfl,rfl,Int.le_refl _⟩
 case hn=>exact (by (try dsimp only);omega)
 rintro ⟨s',n,k,u⟩ ⟨h1,h2,h3⟩;dsimp only at h1 h2 h3;subst h1;subst h2;unfold F53_l0;dsimp only;with_reducible repeat' (first|apply dP|apply dX<;>intro _)
 · have hg:(s'.getD k.toNat [])∈s':=by rw [getD_lt (by omega)];exact List.getElem_mem _
   have:=g2 _ hg;refine dZ (d47 _ (by omega)) ?_;rintro ⟨b,u⟩ -
   dsimp only;with_reducible repeat' (first|apply dP|apply dX<;>intro _)
   · trivial
   · rw [w64s (by omega)]
     exact ⟨⟨rfl,rfl,by (try dsimp only);omega⟩,by (try dsimp only);omega⟩
 · refine dO ?_;omega
 · trivial
theorem d45 (a b:List UInt8) (ha:a.length≤1100) (hb:b.length≤1100):Df (C25 (a,b,())) (fun y=>y.1≠[]∧y.1.length≤2*a.length+b.length+3):=by
 unfold C25 F25;dsimp only;refine dZ (d88 a (by omega)) ?_;rintro ⟨w,u⟩ -
 dsimp only;have he:=esc_len a;have hq:(src 1 a).length=(esc a).length+2:=by simp [src]
 with_reducible repeat' (first|apply dP|apply dX<;>intro _)
 · rw [c9 1 a 0 (by omega)]
   simp only [Option.bind_some];with_reducible repeat' (first|apply dP|apply dX<;>intro _)
   · exact ⟨by simp,by simp only [vl];omega⟩
   all_goals (refine dO ?_;rename_i hc;simp only [vl] at hc;omega)
 · exact ⟨by simp,by simp only [vl];omega⟩
 all_goals (refine dO ?_;rename_i hc;simp only [vl] at hc;omega)
theorem d59 (n:Bool) (a b:List UInt8) (ha:a.length≤1100):Df (C40 (n,a,b,())) (fun y=>y.1=true→n=false∧a≠[]):=by
 unfold C40 F40;dsimp only;with_reducible repeat' (first|apply dP|apply dX<;>intro _)
 · rename_i hn _
   rw [p25 a (by omega)];refine dP fun h=>⟨hn,?_⟩
   rintro rfl;cases h
 · intro h;cases h
 · intro h;cases h
theorem d22 (n:Bool) (a b:List UInt8) (ha:a.length≤1100) (hb:b.length≤1100):Df (C18 (n,a,b,())) (fun y=>(n=true→y.1=[60,62])∧(n=false→∃x,x≠[]∧y.1=[60]++x++[62])∧y.1.length≤2*a.length+b.length+5):=by
 unfold C18 F18;dsimp only;with_reducible repeat' (first|apply dP|apply dX<;>intro _)
 · rename_i hn
   exact ⟨fun _=>rfl,fun h=>(by rw [hn] at h;cases h),by simp only [List.length_cons,List.length_nil];omega⟩
 · rename_i hn
   refine dZ (d59 n a b ha) ?_;rintro ⟨m,u⟩ hm;dsimp only at hm ⊢;with_reducible repeat' (first|apply dP|apply dX<;>intro _)
   · rename_i h1 _ _
     exact ⟨fun h=>(by rw [hn] at h;cases h),fun _=>⟨a,(hm h1).2,rfl⟩,by simp only [vl];omega⟩
   · refine dO ?_;rename_i hc;simp only [vl] at hc;omega
   · refine dO ?_;rename_i hc;simp only [vl] at hc;omega
   · refine dZ (d45 a b ha hb) ?_
     rintro ⟨x,u⟩ ⟨k1,k2⟩;dsimp only at k1 k2 ⊢;with_reducible repeat' (first|apply dP|apply dX<;>intro _)
     · exact ⟨fun h=>(by rw [hn] at h;cases h),fun _=>⟨x,k1,rfl⟩,by simp only [vl];omega⟩
     all_goals (refine dO ?_;rename_i hc;simp only [vl] at hc;omega)
section
variable {T:List R6} {A:List R4} {B:List R3}
theorem d82 (h:TK T A B) (a b:List UInt8) (ha:a.length≤1100) (hb:b.length≤1100):Df (C10 (T,A,B,a,b,())) (fun _=>True):=by
 have c0:∀x,Df (C10_c0 (T,A,B,x,b,[],[],())) (fun _=>True):=fun x=>by
  unfold C10_c0 F10_c0;dsimp only;refine dZ (d86 b) ?_;rintro ⟨o,u⟩ -
  dsimp only;with_reducible repeat' (first|apply dP|apply dX<;>intro _)
  · rw [p25 b (by omega)];exact dP trivial
  · refine dZ (d87 h b (by omega)) ?_
    rintro ⟨o,e,u⟩ -
    dsimp only;with_reducible repeat' (first|apply dP|apply dX<;>intro _)
    · trivial
    · trivial
 unfold C10 F10;dsimp only;refine dZ (d120 h a (by omega)) ?_;rintro ⟨x,e,u⟩ -
 dsimp only;with_reducible repeat' (first|apply dP|apply dX<;>intro _)
 all_goals exact dZ (c0 _) fun _ _=>dP trivial
theorem d42 (h:TK T A B) (n:Bool) (a b:List UInt8) (ha:a.length≤1100) (hb:b.length≤1100):Df (C41 (T,A,B,n,a,b,())) (fun y=>y.1=n):=by
 unfold C41 F41;dsimp only;with_reducible repeat' (first|apply dP|apply dX<;>intro _)
 · rename_i hn;exact hn.symm
 · rename_i hn
   refine dZ (d59 n a b ha) ?_;rintro ⟨m,u⟩ -
   dsimp only;with_reducible repeat' (first|apply dP|apply dX<;>intro _)
   · exact hn.symm
   · exact dZ (d82 h a b ha hb) fun _ _=>dP hn.symm
theorem d20 (h:TK T A B) (a b:List UInt8) (ha:a.length≤1100) (hb:b.length≤1100):Df (C16 (T,A,B,false,a,b,())) (fun _=>True):=by
 unfold C16 F16;dsimp only;refine dZ (P:=fun y=>∀z,y = .inr z→z=(T,A,B,false,a,b,())) ?_ ?_
 · unfold C16_c0 F16_c0
   dsimp only;refine dZ (d59 false a b ha) ?_;rintro ⟨m,u⟩ -
   dsimp only;with_reducible repeat' (first|apply dP|apply dX<;>intro _)
   · intro z hz;cases hz
   · intro z hz;cases hz;rfl
 intro z hz;cases z with
 | inl z=>exact dP trivial
 | inr z =>
  have e:=hz _ rfl;subst e;exact dZ (d44 h a b (by omega) (by omega)) fun _ _=>dP trivial
end
section
variable {T:List R6} {A:List R4} {B:List R3}
end
def tkB:Bool:=match C9 () with
 | some (T,A,B,_)=>(decide (T.length≤1000000000000)&&T.all fun e=>decide (0≤e.2.2.2.1)&&decide (e.2.2.2.1<8))&&(decide (A.length≤1000000000000)&&decide (B.length≤1000000000000))
 | none=>false
theorem tkB_k:tkB=true:=by kernel_rfl
theorem tk:∃T A B,C9 ()=some (T,A,B,())∧TK T A B:=by
 have h:=tkB_k;unfold tkB at h;cases hc:C9 () with
 | none=>rw [hc] at h;cases h
 | some y =>
  obtain ⟨T,A,B,u⟩:=y;rw [hc] at h;simp only [Bool.and_eq_true,decide_eq_true_eq,List.all_eq_true] at h;exact ⟨T,A,B,rfl,⟨h.1.1,h.1.2⟩,h.2.1,h.2.2⟩
def Asc (s:List UInt8):Prop:=∀c∈s,c.toNat<128
theorem asc_app {a b:List UInt8}:Asc (a++b)↔Asc a∧Asc b:=⟨fun h=>⟨fun c hc=>h c (by simp [hc]),fun c hc=>h c (by simp [hc])⟩,fun h c hc=>(List.mem_append.1 hc).elim (h.1 c) (h.2 c)⟩
theorem asc_one {c:UInt8} (h:c.toNat<128):Asc [c]↔True:=⟨fun _=>trivial,fun _ d hd=>by rw [List.mem_singleton.1 hd];exact h⟩
theorem asc_nil:Asc []↔True:=⟨fun _=>trivial,fun _ c hc=>by cases hc⟩
theorem esc_asc {s:List UInt8}:Asc (esc s)↔Asc s:=by
 constructor
 · intro h c hc
   refine h c (List.mem_flatMap.2 ⟨c,hc,?_⟩);unfold esc1;split<;>simp
 · intro h c hc
   obtain ⟨d,hd,hcd⟩:=List.mem_flatMap.1 hc;unfold esc1 at hcd;split at hcd
   · simp only [List.mem_cons,List.not_mem_nil,or_false] at hcd
     rcases hcd with rfl|rfl
     · decide
     · exact h _ hd
   · rw [List.mem_singleton.1 hcd];exact h _ hd
theorem src_asc {s:List UInt8}:Asc (src 1 s)↔Asc s:=by
 have e:src 1 s=[34]++esc s++[34]:=rfl;rw [e,asc_app,asc_app,asc_one (by decide),esc_asc,true_and,and_true]
theorem d22b (a b:List UInt8) (ha:a.length≤1000) (hb:b.length≤1000):Df (C18 (false,a,b,())) (fun y=>Asc y.1↔Asc a∧Asc b):=by
 have a60:Asc [60]↔True:=asc_one (by decide);have a62:Asc [62]↔True:=asc_one (by decide);have a64:Asc [64]↔True:=asc_one (by decide);unfold C18 F18;dsimp only;simp only [cond_false];refine dZ (P:=fun y=>y.1=true→b=[]) ?_ ?_
 · unfold C40 F40
   dsimp only;with_reducible repeat' (first|apply dP|apply dX<;>intro _)
   · rename_i hb0
     rw [p25 a (by omega)];exact dP fun _=>eq_of_beq hb0
   all_goals (intro h;cases h)
 rintro ⟨m,u⟩ hm;dsimp only at hm ⊢;with_reducible repeat' (first|apply dP|apply dX<;>intro _)
 · rename_i h1 _ _
   have:=hm h1;subst this;simp only [asc_app,a60,a62,asc_nil,true_and,and_true]
 · refine dO ?_;rename_i hc;simp only [vl] at hc;omega
 · refine dO ?_;rename_i hc;simp only [vl] at hc;omega
 · refine dZ (P:=fun y=>y.1.length≤2*a.length+b.length+3∧(Asc y.1↔Asc a∧Asc b)) ?_ ?_
   · unfold C25 F25
     dsimp only;refine dZ (d88 a (by omega)) ?_;rintro ⟨w,u⟩ -
     dsimp only;have he:=esc_len a;have hq:(src 1 a).length=(esc a).length+2:=by simp [src]
     with_reducible repeat' (first|apply dP|apply dX<;>intro _)
     · rw [c9 1 a 0 (by omega)]
       simp only [Option.bind_some];with_reducible repeat' (first|apply dP|apply dX<;>intro _)
       · refine ⟨by simp only [vl];omega,?_⟩
         simp only [asc_app,src_asc,a64,and_true]
       all_goals (refine dO ?_;rename_i hc;simp only [vl] at hc;omega)
     · refine ⟨by simp only [vl];omega,?_⟩
       simp only [asc_app,a64,and_true]
     all_goals (refine dO ?_;rename_i hc;simp only [vl] at hc;omega)
   rintro ⟨x,u⟩ ⟨k1,k2⟩;dsimp only at k1 k2 ⊢;with_reducible repeat' (first|apply dP|apply dX<;>intro _)
   · simp only [asc_app,a60,a62,true_and,and_true,k2]
   all_goals (refine dO ?_;rename_i hc;simp only [vl] at hc;omega)
theorem c21a (s:List UInt8) (hs:s.length≤1000000) (ha:Asc s):C12 (s,())=some (-1,()):=c21y s hs ha
theorem c21w (s:List UInt8) (hs:s.length≤1000000) (ha:¬Asc s):∃p,C12 (s,())=some (p,())∧0≤p:=by
 obtain ⟨⟨p,u⟩,e,-,h⟩:=d21 s (by omega);refine ⟨p,e,?_⟩;by_cases h0:0≤p
 · exact h0
 · exact (ha (h (by (try dsimp only);omega))).elim
def lit (b:List UInt8):Bool:=decide (b.take 1=[91])
theorem c86v (s:List UInt8):C31 (s,())=some (lit s,()):=by
 have h1:C92 (s,[91],())=some (lit s,()):=by
  show F92 _=_;simp only [F92,List.length_cons,List.length_nil];cases s with
  | nil=>rfl
  | cons c s =>
   have hl:(((c::s:List UInt8).length:Int))=(s.length:Int)+1:=by simp
   rw [hl,decide_eq_true (show (s.length:Int)+1≥((0+1:Nat):Int) by omega),decide_eq_true (show (0:Int)≤((0+1:Nat):Int) by omega)];show some (((c::s).take 1==[91]),())=_;unfold lit;by_cases h:(c::s).take 1=[91]
   · rw [decide_eq_true h,h,beq_self_eq_true]
   · rw [decide_eq_false h,beq_eq_false_iff_ne.2 h]
 show F31 C59 _=_;simp only [F31];show (F59 C92 _).bind _=_;simp only [F59,h1,Option.bind_some]
section
variable {T:List R6} {A:List R4} {B:List R3}
theorem Dm.lit {y:List UInt8} (h:Dm T A B y):lit y=false:=by
 unfold W.lit;refine decide_eq_false fun e => ?_;have h91:(91:UInt8)∈y:=List.mem_of_mem_take (i:=1) (by rw [e];exact List.mem_cons_self);exact absurd (h.kk _ h91 (by decide)) (by decide)
theorem Dm.asc {y:List UInt8} (h:Dm T A B y):Asc y:=fun c hc=>(h.lw c hc).1
theorem c20n (n:Bool) (a b:List UInt8) (ha:a.length≤1000) (h:C16 (T,A,B,n,a,b,())=some (0,())) :
 (n=true∧a=[]∧b=[])∨(n=false∧((∃u,C40 (false,a,b,())=some (true,u))∨∃u,C40 (false,a,b,())=some (false,u)∧C11 (T,A,B,a,b,())=some (0,()))):=by
 cases n with
 | true =>
  have r1:C16 (T,A,B,true,a,b,())=some ((if (a==[]&&(b==[]&&true))=true then 0 else 1),()):=by
   show F16 C11 C40 C16_c0 _=_;simp only [F16,cond_true];cases hab:(a==[]&&(b==[]&&true)) with
   | true=>rfl
   | false=>rfl
  rw [r1] at h;cases hab:(a==[]&&(b==[]&&true)) with
  | true =>
   simp only [Bool.and_eq_true,and_true,beq_iff_eq] at hab;exact .inl ⟨rfl,hab.1,hab.2⟩
  | false=>rw [hab] at h;cases h
 | false =>
  refine .inr ⟨rfl,?_⟩;obtain ⟨⟨m,u⟩,e59,-⟩:=d59 false a b (by omega);cases m with
  | true=>exact .inl ⟨u,e59⟩
  | false =>
   refine .inr ⟨u,e59,?_⟩;have hf:F16 C11 C40 C16_c0 (T,A,B,false,a,b,())=some (0,()):=h;have hc:C16_c0 (false,T,A,B,false,a,b,())=some (.inr (T,A,B,false,a,b,())):=by
    show F16_c0 C11 C40 _=_;simp only [F16_c0,cond_false,e59,Option.bind_some]
   simp only [F16,cond_false,hc,Option.bind_some,Sum.elim_inr] at hf;cases h44:C11 (T,A,B,a,b,()) with
   | none=>rw [h44] at hf;cases hf
   | some y=>rw [h44] at hf;exact hf
theorem right87 (h:TK T A B) (a b:List UInt8) (la:a.length≤1000) (lb:b.length≤400) (h44:C11 (T,A,B,a,b,())=some (0,())) (h86:lit b=false) {d:List UInt8} {e:Int} (e87:C33 (T,A,B,b,())=some (d,e,())):e=0:=by
 obtain ⟨⟨v1,v2,u⟩,e83,-⟩:=d83 a (by omega);obtain ⟨⟨w,u'⟩,e84,-⟩:=d84v1 a (by omega);have hf:F11 C31 C33 C34 C35v1 C37 (T,A,B,a,b,())=some (0,()):=h44;simp only [F11,e83,e84,c86v,h86,e87,Option.bind_some,cond_false] at hf;cases h1:(a==[]) with
 | true=>rw [h1] at hf;cases hf
 | false =>
  rw [h1] at hf;simp only [cond_false] at hf;cases h2:decide ((a.length:Int)>64) with
  | true=>rw [h2] at hf;cases hf
  | false =>
   rw [h2] at hf;simp only [cond_false] at hf;cases h3:decide (v2≥0) with
   | true=>rw [h3] at hf;cases hf
   | false =>
    rw [h3] at hf;simp only [cond_false] at hf;cases w with
    | true=>cases hf
    | false =>
     simp only [cond_false,Option.some.injEq,Prod.mk.injEq,and_true] at hf;exact hf
theorem k118 (h:TK T A B) (s:List UInt8) (hs:s.length≤400):∃a e,C33 (T,A,B,s,())=some (a,e,())∧(e≠0→C38 (T,A,B,s,())=some (a,e,()))∧(e=0→Asc s→C38 (T,A,B,s,())=some (s,0,()))∧(e=0→¬Asc s→C38 (T,A,B,s,())=some (a,0,())):=by
 obtain ⟨⟨a,e,u⟩,e87,-⟩:=d87 h s (by omega);refine ⟨a,e,e87,?_,?_,?_⟩
 · intro he
   show F38 C12 C33 _=_;simp only [F38,e87,Option.bind_some];rw [ibF he];rfl
 · rintro rfl ha
   show F38 C12 C33 _=_;simp only [F38,e87,Option.bind_some,c21a s (by omega) ha];rfl
 · rintro rfl ha
   obtain ⟨p,e21,hp⟩:=c21w s (by omega) ha;show F38 C12 C33 _=_;simp only [F38,e87,Option.bind_some,e21];rw [ibT rfl,decide_eq_false (by omega)];rfl
def Dn (T:List R6) (A:List R4) (B:List R3) (b y:List UInt8):Prop:=y=b∨(¬Asc b∧lit b=false∧C33 (T,A,B,b,())=some (y,0,())∧Dm T A B y∧C33 (T,A,B,y,())=some (y,0,()))
theorem k78 (h:TK T A B) (hK:KT T A B) (hL:LN B) (hC:LC T A B) (a b:List UInt8) (ha:a.length≤1000) (hb:b.length≤400) :
 (∃e,C13 (T,A,B,a,b,())=some ([],[],e,())∧e≠0∧(¬Asc a∨¬Asc b∨(lit b=false∧∃z e',C33 (T,A,B,b,())=some (z,e',())∧e'≠0))) ∨
 (∃y,C13 (T,A,B,a,b,())=some (a,y,0,())∧Asc a∧Asc y∧Dn T A B b y):=by
 have r:decide ((-1:Int)≥0)=false:=rfl;have hct:C13_c0 (true,T,A,B,a,b,[],[],())=some (.inl (8,[],[],())):=rfl;by_cases hA:Asc a
 · have e21:=c21a a (by omega) hA
   cases hl:lit b with
   | false =>
    have hc:C13_c0 (false,T,A,B,a,b,[],[],())=some (.inr (T,A,B,a,b,[],[],())):=by
     show F13_c0 C12 C31 C38 _=_;simp only [F13_c0,cond_false,c86v,hl,Option.bind_some]
    obtain ⟨x,e,e87,k1,k2,k3⟩:=k118 h b hb;by_cases he:e=0
    · subst he
      right
      by_cases hB:Asc b
      · refine ⟨b,?_,hA,hB,.inl rfl⟩
        show F13 C12 C31 C38 C13_c0 _=_;simp only [F13,e21,Option.bind_some,r,cond_false,c86v,hl,hc,Sum.elim_inr,k2 rfl hB];rfl
      · obtain ⟨q1,q2⟩:=dom87 h hK hL hC b hb x e87
        refine ⟨x,?_,hA,q1.asc,.inr ⟨hB,hl,e87,q1,q2⟩⟩;show F13 C12 C31 C38 C13_c0 _=_;simp only [F13,e21,Option.bind_some,r,cond_false,c86v,hl,hc,Sum.elim_inr,k3 rfl hB];rfl
    · left
      refine ⟨e,?_,he,.inr (.inr ⟨rfl,x,e,e87,he⟩)⟩;show F13 C12 C31 C38 C13_c0 _=_;simp only [F13,e21,Option.bind_some,r,cond_false,c86v,hl,hc,Sum.elim_inr,k1 he,inT he,cond_true]
   | true =>
    by_cases hB:Asc b
    · right
      refine ⟨b,?_,hA,hB,.inl rfl⟩;have hc:C13_c0 (false,T,A,B,a,b,[],[],())=some (.inl (0,a,b,())):=by
       show F13_c0 C12 C31 C38 _=_;simp only [F13_c0,cond_false,c86v,hl,Option.bind_some,cond_true]
      show F13 C12 C31 C38 C13_c0 _=_;simp only [F13,e21,Option.bind_some,r,cond_false,c86v,hl,cond_true,c21a b (by omega) hB,hc,Sum.elim_inl]
    · left
      obtain ⟨p,e21b,hp⟩:=c21w b (by omega) hB;refine ⟨8,?_,by decide,.inr (.inl hB)⟩;have r2:decide (p≥0)=true:=decide_eq_true hp;show F13 C12 C31 C38 C13_c0 _=_;simp only [F13,e21,Option.bind_some,r,cond_false,c86v,hl,cond_true,e21b,r2,hct,Sum.elim_inl]
 · left
   obtain ⟨p,e21,hp⟩:=c21w a (by omega) hA;have r2:decide (p≥0)=true:=decide_eq_true hp;refine ⟨8,?_,by decide,.inl hA⟩;show F13 C12 C31 C38 C13_c0 _=_;simp only [F13,e21,Option.bind_some,r2,cond_true,hct,Sum.elim_inl]
theorem k82 {a b y:List UInt8} (h:Dn T A B b y):C10 (T,A,B,a,y,())=C10 (T,A,B,a,b,()):=by
 rcases h with rfl|⟨-,hl,e87,hd,e87y⟩
 · rfl
 · have hc:∀n p q,C10_c0 (T,A,B,n,y,p,q,())=C10_c0 (T,A,B,n,b,p,q,()):=by
    intro n p q;show F10_c0 C30 C31 C32 C33 _=F10_c0 C30 C31 C32 C33 _;simp only [F10_c0,c86v,hl,hd.lit,e87,e87y,Option.bind_some,cond_false];rfl
   show F10 C30 C31 C32 C33 C10_c0 _=F10 C30 C31 C32 C33 C10_c0 _;simp only [F10,hc]
theorem k44 {a b y:List UInt8} (h:Dn T A B b y):C11 (T,A,B,a,y,())=C11 (T,A,B,a,b,()):=by
 rcases h with rfl|⟨-,hl,e87,hd,e87y⟩
 · rfl
 · show F11 C31 C33 C34 C35v1 C37 _=F11 C31 C33 C34 C35v1 C37 _
   simp only [F11,c86v,hl,hd.lit,e87,e87y,Option.bind_some,cond_false]
end
theorem lowK:((List.range 256).all fun n=>decide ((lowb (UInt8.ofNat n)).toNat<128)==decide ((UInt8.ofNat n).toNat<128))=true:=by kernel_rfl
theorem low_asc (c:UInt8):(lowb c).toNat<128↔c.toNat<128:=by
 have h:=List.all_eq_true.1 lowK c.toNat (by simp only [List.mem_range];exact c.toNat_lt)
 rw [UInt8.ofNat_toNat] at h;have h2:=eq_of_beq h;constructor
 · intro h3;rw [decide_eq_true h3] at h2;exact of_decide_eq_true h2.symm
 · intro h3;rw [decide_eq_true h3] at h2;exact of_decide_eq_true h2
section
variable {T:List R6} {A:List R4} {B:List R3}
theorem c59v (a b:List UInt8) (ha:a.length≤1000):C40 (false,a,b,())=some (bif b==[] then a.map lowb==[112,111,115,116,109,97,115,116,101,114] else false,()):=by
 show F40 C32 _=_;simp only [F40,Bool.not_false,cond_true,p25 a (by omega),Option.bind_some];cases (b==[]) with
 | true=>rfl
 | false=>rfl
theorem master_asc {a b:List UInt8} (ha:a.length≤1000) {u:Unit} (h:C40 (false,a,b,())=some (true,u)):b=[]∧Asc a:=by
 rw [c59v a b ha] at h;cases hb:(b==[]) with
 | false=>rw [hb] at h;cases h
 | true =>
  rw [hb] at h;simp only [cond_true,Option.some.injEq,Prod.mk.injEq] at h;have h2:a.map lowb=_:=eq_of_beq h.1;refine ⟨eq_of_beq hb,fun c hc=>(low_asc c).1 ?_⟩;have h3:lowb c∈a.map lowb:=List.mem_map_of_mem hc;rw [h2] at h3;have:∀d∈([112,111,115,116,109,97,115,116,101,114]:List UInt8),d.toNat<128:=by decide
  exact this _ h3
theorem f20 {a b:List UInt8} {e:Int} {u:Unit} (h59:C40 (false,a,b,())=some (false,u)) (h44:C11 (T,A,B,a,b,())=some (e,())):C16 (T,A,B,false,a,b,())=some (e,()):=by
 have hc:C16_c0 (false,T,A,B,false,a,b,())=some (.inr (T,A,B,false,a,b,())):=by
  show F16_c0 C11 C40 _=_;simp only [F16_c0,cond_false,h59,Option.bind_some]
 show F16 C11 C40 C16_c0 _=_;simp only [F16,cond_false,hc,Option.bind_some,Sum.elim_inr,h44]
theorem k41 (h:TK T A B) {n:Bool} {a b y:List UInt8} (ha:a.length≤1000) (hb:b.length≤1000) (h20:C16 (T,A,B,n,a,y,())=some (0,())) (h20':C16 (T,A,B,n,a,b,())=some (0,())) (h42:C41 (T,A,B,n,a,y,())=C41 (T,A,B,n,a,b,())):C19 (T,A,B,n,a,y,n,a,b,())=some (true,()):=by
 obtain ⟨⟨x1,x2,x3,u⟩,e,-⟩:=d42 h n a b (by omega) (by omega);show F19 C16 C41 _=_;simp only [F19,h20,h20',h42,e,Option.bind_some,beq_self_eq_true,cond_true,Bool.and_self]
theorem k22 (n:Bool) (a b:List UInt8) (ha:a.length≤1000) (hb:b.length≤400) (hn:n=true→a=[]∧b=[]):∃z,C18 (n,a,b,())=some (z,())∧(Asc z↔Asc a∧Asc b)∧z.length≤100000:=by
 obtain ⟨⟨z,u⟩,e,-,-,hl⟩:=d22 n a b (by omega) (by omega);dsimp only at hl;refine ⟨z,e,?_,by omega⟩;cases n with
 | true =>
  obtain ⟨rfl,rfl⟩:=hn rfl;have e2:C18 (true,[],[],())=some ([60,62],()):=rfl;rw [e2] at e;cases e;exact ⟨fun _=>⟨asc_nil.2 trivial,asc_nil.2 trivial⟩,fun _=>by unfold Asc;decide⟩
 | false =>
  obtain ⟨⟨z',u'⟩,e',hz⟩:=d22b a b (by omega) (by omega);rw [e] at e';cases e';exact hz
theorem k39 (h:TK T A B) (hK:KT T A B) (hL:LN B) (hC:LC T A B) (n:Bool) (a b:List UInt8) (ha:a.length≤1000) (hb:b.length≤400) (h20:C16 (T,A,B,n,a,b,())=some (0,())) :
 (∃y,C17 (T,A,B,n,a,b,())=some (n,a,y,0,())∧C19 (T,A,B,n,a,y,n,a,b,())=some (true,())∧(n=true→a=[]∧y=[])∧Asc a∧Asc y∧y.length≤400∧(y=b∨¬Asc b)) ∨
 (∃e,C17 (T,A,B,n,a,b,())=some (false,[],[],e,())∧e≠0∧n=false∧¬(Asc a∧Asc b) ):=by
 rcases c20n n a b ha h20 with ⟨rfl,rfl,rfl⟩|⟨rfl,⟨u,e59⟩|⟨u,e59,h44⟩⟩
 · left
   exact ⟨[],rfl,k41 h ha (by simp) h20 h20 rfl,fun _=>⟨rfl,rfl⟩,asc_nil.2 trivial,asc_nil.2 trivial,by simp,.inl rfl⟩
 · left
   obtain ⟨hb0,hA⟩:=master_asc ha e59;refine ⟨b,?_,k41 h ha (by omega) h20 h20 rfl,fun hn=>(by cases hn),hA,by rw [hb0];exact asc_nil.2 trivial,hb,.inl rfl⟩;show F17 C13 C40 _=_;simp only [F17,cond_false,e59,Option.bind_some,cond_true]
 · rcases k78 h hK hL hC a b ha hb with ⟨e,e78,he,hbad⟩|⟨y,e78,hA,hY,hD⟩
   · right
     refine ⟨e,?_,he,rfl,?_⟩
     · show F17 C13 C40 _=_
       simp only [F17,cond_false,e59,Option.bind_some,e78,inT he,cond_true]
     · rintro ⟨hA,hB⟩
       rcases hbad with h1|h1|⟨hl,z,e',e87,he'⟩
       · exact h1 hA
       · exact h1 hB
       · have:=right87 h a b ha hb h44 hl e87
         exact he' this
   · left
     have h44y:=(k44 (a:=a) hD).trans h44;have h59y:∃u,C40 (false,a,y,())=some (false,u):=by
      rcases hD with rfl|⟨-,-,-,hd,-⟩
      · exact ⟨u,e59⟩
      · rw [c59v a y ha,beq_eq_false_iff_ne.2 hd.ne]
        exact ⟨(),rfl⟩
     obtain ⟨u',h59y⟩:=h59y;have h20y:=f20 h59y h44y;refine ⟨y,?_,k41 h ha (by omega) h20y h20 ?_,fun hn=>(by cases hn),hA,hY,?_,?_⟩
     · show F17 C13 C40 _=_
       simp only [F17,cond_false,e59,Option.bind_some,e78];rfl
     · show F41 C10 C40 _=F41 C10 C40 _
       simp only [F41,cond_false,e59,h59y,Option.bind_some,k82 hD]
     · rcases hD with rfl|⟨-,-,-,hd,-⟩
       · exact hb
       · have:=hd.len;omega
     · rcases hD with rfl|⟨hB,-⟩
       · exact .inl rfl
       · exact .inr hB
end
section
variable {T:List R6} {A:List R4} {B:List R3}
end
theorem few8 (a b:List UInt8):∃f,C8 (a,b,())=some (f,())∧(f=true→a.length≤150∧b.length≤200):=by
 show ∃f,F8 (a,b,())=some (f,())∧_;simp only [F8];by_cases h:(a.length:Int)≤150
 · rw [decide_eq_true h]
   exact ⟨_,rfl,fun hf=>⟨by omega,by have:=of_decide_eq_true hf;omega⟩⟩
 · rw [decide_eq_false h]
   exact ⟨_,rfl,fun hf=>by cases hf⟩
theorem tabs:∃T A B,C9 ()=some (T,A,B,())∧TK T A B∧KT T A B∧LN B∧LC T A B∧LN (wideT B)∧LW B∧CK T A B:=by
 obtain ⟨T,A,B,h18,hT⟩:=tk;exact ⟨T,A,B,h18,hT,kt h18,ln_of h18,lc_of h18,ln_wide h18,lw_of h18,ck_of h18 hT.a⟩
theorem t20 {T:List R6} {A:List R4} {B:List R3} (h:TK T A B) (n:Bool) (a b:List UInt8) (ha:a.length≤1000) (hb:b.length≤1000):∃e,C16 (T,A,B,n,a,b,())=some (e,()):=by
 cases n with
 | false =>
  obtain ⟨⟨e,u⟩,he,-⟩:=d20 h a b (by omega) (by omega);exact ⟨e,he⟩
 | true =>
  refine ⟨(if (a==[]&&(b==[]&&true))=true then 0 else 1),?_⟩;show F16 C11 C40 C16_c0 _=_;simp only [F16,cond_true];cases hab:(a==[]&&(b==[]&&true)) with
  | true=>rfl
  | false=>rfl
theorem e21 (s:List UInt8) (hs:s.length≤1000000):∃p,C12 (s,())=some (p,())∧(p<0→Asc s)∧(¬p<0→¬Asc s):=by
 by_cases h:Asc s
 · exact ⟨-1,c21a s hs h,fun _=>h,fun h=>absurd (by decide) h⟩
 · obtain ⟨p,e,hp⟩:=c21w s hs h
   exact ⟨p,e,fun h=>by omega,fun _=>h⟩
theorem c5law (n:Bool) (a b:List UInt8):C5 (n,a,b,())=some (true,()):=by
 show F5 C12 C15 C16 C17 C18 C19 C8 C9 _=_;have h15:C15 ()=some (true,()):=rfl;obtain ⟨f,hf,bf⟩:=few8 a b;obtain ⟨T,A,B,h9,hT,hK,hL,hC,hN,hW,hk⟩:=tabs;simp only [F5,h15,hf,h9,Option.bind_some];cases f with
 | false=>rfl
 | true =>
  obtain ⟨la,lb⟩:=bf rfl;obtain ⟨e,h20⟩:=t20 hT n a b (by omega) (by omega);simp only [Bool.not_true,cond_false,h20,Option.bind_some];by_cases he:e=0
  · subst he
    rw [inF (rfl:(0:Int)=0)];simp only [cond_false];rcases k39 hT hK hL hC n a b (by omega) (by omega) h20 with ⟨y,e39,s41,hn,hA,hY,hy4,-⟩|⟨e,e39,he,hn,hbad⟩
    · obtain ⟨z,e22,hz,hzl⟩:=k22 n a y (by omega) hy4 hn
      have r2:decide ((-1:Int)<0)=true:=rfl;simp only [e39,Option.bind_some,inF (rfl:(0:Int)=0),cond_false,cond_true,s41,e22,c21a z (by omega) (hz.2 ⟨hA,hY⟩),r2,beq_self_eq_true]
    · subst hn
      obtain ⟨z,e22,hz,hzl⟩:=k22 false a b (by omega) (by omega) (fun h=>by cases h);obtain ⟨p,h21,hp⟩:=c21w z (by omega) (fun h=>hbad (hz.1 h));simp only [e39,Option.bind_some,inT he,cond_true,e22,h21];rw [decide_eq_true (show p≥0 by omega)];rfl
  · rw [inT he]
    rfl
end Go.Proofs.YtbifjondkjgkmaaGreatDoorA.W
namespace Go.Proofs.YtbifjondkjgkmaaGreatDoorA.PPathDown
open Go Go.Ae Go.Proofs.YtbifjondkjgkmaaGreatDoorA.W
theorem pure (x0:(Ty.pair .bool (.pair .str .str)).den) (b0:Bd (Ty.pair .bool (.pair .str .str)) x0):C5 (x0.1,x0.2.1,x0.2.2,())=some (true,()):=c5law _ _ _
end Go.Proofs.YtbifjondkjgkmaaGreatDoorA.PPathDown
namespace Go.Proofs.YtbifjondkjgkmaaGreatDoor
open Go Go.Ae Go.RowKit
theorem glob {W:World} {p:Prop} (hL:p) (hsh:W.ShapedOpen Tryz.prog):GI W m0:=by
 obtain ⟨m,hm⟩:=Go.Proofs.cell_of_shapedOpen_int (g:=0) (k := .i64) (t:=3) (zero := #[.int .i64 0]) hsh (of_decide_eq_true (by kernel_rfl)) (by kernel_rfl) (by kernel_rfl) (by kernel_rfl) (by kernel_rfl) (by kernel_rfl);refine ⟨⟨m,hm⟩,fun b hb=>⟨?_,fun h=>h⟩⟩;simp only [GlobB,List.mem_cons,List.not_mem_nil,or_false] at hb;subst hb;exact lt_of_cell hm
end Go.Proofs.YtbifjondkjgkmaaGreatDoor
