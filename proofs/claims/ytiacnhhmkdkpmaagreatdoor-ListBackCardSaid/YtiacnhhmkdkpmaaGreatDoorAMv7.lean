/- The texts of the proof, one behind the other: PMB, PLB1, PLB2, PLB3, PLB4, PListBack, PGlob. -/
import Derived.Test.YtiacnhhmkdkpmaaGreatDoorAMv6
import Derived.Test.YtiacnhhmkdkpmaaGreatDoorAMv5
import Derived.Test.YtiacnhhmkdkpmaaGreatDoorRows
import Derived.Test.YtiacnhhmkdkpmaaGreatDoorProg
import Derived.Test.YtiacnhhmkdkpmaaGreatDoorAMv2
import Derived.MakeChecks
set_option linter.unusedVariables false
set_option linter.unusedSimpArgs false
set_option maxRecDepth 100000
namespace Go.Proofs.YtiacnhhmkdkpmaaGreatDoorA.W
open Go Go.Ae
def jn (q:List (List UInt8)) (r:List UInt8):List UInt8:=q.flatMap (fun p=>p++[46])++r
def Atm (p:List UInt8):Prop:=p≠[]∧p.all qz=true
def Wd (w:List UInt8):Prop:=∃q r,w=jn q r∧(∀p∈q,Atm p)∧Atm r
theorem q2q (x:List UInt8) (q r):jn (x::q) r=x++46::jn q r:=by simp [jn]
theorem v1q:((List.range 256).all fun n=>(fun c:UInt8=>kk (c.toNat:Int)||qz c) (UInt8.ofNat n))=true:=by kernel_rfl
theorem w5g {c:UInt8} (h:kk (c.toNat:Int)=false):qz c=true:=by
 have:=vf (fun c:UInt8=>kk (c.toNat:Int)||qz c) v1q c;simp only [h,Bool.false_or] at this;exact this
theorem y9r:∀(w cur:List UInt8),cur.all qz=true→run true (if cur=[] then 1 else 0) (bi w)=0→Wd (cur++w)
 | [],cur,hc,h=>by
  have hne:cur≠[]:=fun e=>by rw [if_pos e] at h;cases h
  exact ⟨[],cur,by simp [jn],fun p hp=>(by cases hp),hne,hc⟩
 | c::w,cur,hc,h=>by
  have hb:bi (c::w)=(c.toNat:Int)::bi w:=rfl;rw [hb,q4p] at h;cases hk:kk (c.toNat:Int) with
  | false =>
   rw [q3a true hk,if_neg (by split<;>omega)] at h;have:=y9r w (cur++[c]) (by rw [List.all_append,hc];simp [w5g hk]) (by rw [if_neg (by simp)];exact h);simpa using this
  | true =>
   by_cases h46:(c.toNat:Int)=46
   · have hc46:c=46:=UInt8.toNat_inj.1 (by show c.toNat=46;omega)
     by_cases hcur:cur=[]
     · exfalso
       rw [if_pos hcur] at h;have h2:2≤stp true 1 (c.toNat:Int):=by
        unfold stp;rw [if_neg (by omega),if_pos hk,if_pos ⟨h46,rfl⟩];exact Nat.le_refl _
       have:=q6z true (bi w) h2;omega
     · rw [if_neg hcur] at h
       have e:stp true 0 (c.toNat:Int)=1:=by
        unfold stp;rw [if_neg (by omega),if_pos hk,if_pos ⟨h46,rfl⟩]
       rw [e] at h;obtain ⟨q,r,e2,h1,h2⟩:=y9r w [] rfl (by rw [if_pos rfl];exact h);refine ⟨cur::q,r,?_,?_,h2⟩
       · rw [List.nil_append] at e2
         rw [q2q,←e2,hc46]
       · intro p hp
         rcases List.mem_cons.1 hp with rfl|hp
         · exact ⟨hcur,hc⟩
         · exact h1 p hp
   · exfalso
     have h2:∀s,2≤stp true s (c.toNat:Int):=by
      intro s;unfold stp;by_cases h2:2≤s
      · rw [if_pos h2];exact Nat.le_refl _
      · rw [if_neg h2,if_pos hk,if_neg (fun h=>h46 h.1)]
        exact Nat.le_refl _
     have:=q6z true (bi w) (h2 (if cur=[] then 1 else 0));omega
theorem d0v {w:List UInt8} (h:run true 1 (bi w)=0):Wd w:=by
 have:=y9r w [] rfl (by rw [if_pos rfl];exact h);simpa using this
theorem k2c:(!qz 46&&xg 46&&(!qz 64&&xg 64)&&(!qz 91 && !xg 91))=true:=by kernel_rfl
theorem w6f (X:List UInt8):one 46 X=(2,.ok [46] 1):=by
 have h:=k2c;simp only [Bool.and_eq_true,Bool.not_eq_true'] at h;unfold one;rw [if_neg (by rw [h.1.1.1];decide),if_pos h.1.1.2]
theorem f5e (X:List UInt8):one 64 X=(2,.ok [64] 1):=by
 have h:=k2c;simp only [Bool.and_eq_true,Bool.not_eq_true'] at h;unfold one;rw [if_neg (by rw [h.1.2.1];decide),if_pos h.1.2.2]
theorem v2c (X:List UInt8):stops qz (46::X):=by
 have h:=k2c;simp only [Bool.and_eq_true,Bool.not_eq_true'] at h;exact h.1.1.1
theorem k2i (X:List UInt8):stops qz (64::X):=by
 have h:=k2c;simp only [Bool.and_eq_true,Bool.not_eq_true'] at h;exact h.1.2.1
theorem f4q {X:List UInt8} {l:List Tok} {p:Nat} (h:zt X (p+1) = .inl l):zt (64::X) p = .inl ((2,[64],(p:Int))::l):=by
 rw [wi (f5e X),show (64::X).drop 1=X from rfl,h];rfl
theorem x5q {x X:List UInt8} (hx:Atm x) (hX:stops qz X) (p:Nat):zt (x++X) p=x5e (0,x,(p:Int)) (zt X (p+x.length)):=by
 obtain ⟨hne,ha⟩:=hx;cases x with
 | nil=>exact (hne rfl).elim
 | cons c y =>
  have hal:=v6d hX (c::y) ha;have hc:qz c=true:=by
   simp only [List.all_cons,Bool.and_eq_true] at ha;exact ha.1
  have ho:one c (y++X)=(0,.ok (c::y) (y.length+1)):=by
   unfold one;rw [if_pos hc];rw [List.cons_append] at hal;rw [hal,List.length_cons,←List.cons_append];rw [show y.length+1=(c::y).length from rfl,List.take_left]
  rw [List.cons_append,wi ho,←List.cons_append,show y.length+1=(c::y).length from rfl,List.drop_left]
def wt:List (List UInt8)→List UInt8→Nat→List Tok
 | [],r,p=>[(0,r,(p:Int))]
 | x::q,r,p=>(0,x,(p:Int))::(2,[46],((p+x.length:Nat):Int))::wt q r (p+x.length+1)
theorem y8p (X:List UInt8) (l:List Tok) (hX:stops qz X):∀(q:List (List UInt8)) (r:List UInt8) (p:Nat),(∀p∈q,Atm p)→Atm r→zt X (p+(jn q r).length) = .inl l→zt (jn q r++X) p = .inl (wt q r p++l)
 | [],r,p,hq,hr,h=>by
  have e:jn [] r=r:=rfl;rw [e] at h ⊢;rw [x5q hr hX,h];rfl
 | x::q,r,p,hq,hr,h=>by
  rw [q2q,List.length_append,List.length_cons] at h;rw [q2q,List.append_assoc,List.cons_append,x5q (hq x List.mem_cons_self) (v2c _),wi (w6f _)];rw [show (46::(jn q r++X)).drop 1=jn q r++X from rfl,y8p X l hX q r _ (fun y hy=>hq y (List.mem_cons_of_mem _ hy)) hr (by rw [←h];congr 1;omega)];rfl
theorem x7a (q:List (List UInt8)) (r:List UInt8) (p:Nat):∃x a t,wt q r p=(0,x,a)::t:=by
 cases q with
 | nil=>exact ⟨_,_,_,rfl⟩
 | cons y q=>exact ⟨_,_,_,rfl⟩
theorem v7v (acc x:List UInt8) (a a':Int) (l:List Tok):dwn acc ((2,[46],a)::(0,x,a')::l)=((dwn (acc++([46]++x)) l).1,(dwn (acc++([46]++x)) l).2+2):=by
 conv=>lhs;unfold dwn
 rfl
theorem v7x (l:List Tok) (hl:∀acc,dwn acc l=(acc,0)):∀(q:List (List UInt8)) (r:List UInt8) (p:Nat) (acc:List UInt8) (a:Int),dwn acc ((2,[46],a)::(wt q r p++l))=(acc++([46]++jn q r),(wt q r p).length+1)
 | [],r,p,acc,a=>by
  show dwn acc ((2,[46],a)::(0,r,(p:Int))::l)=_;simp only [dwn,beq_self_eq_true,Bool.and_self,cond_true,hl];rfl
 | x::q,r,p,acc,a=>by
  show dwn acc ((2,[46],a)::(0,x,(p:Int))::((2,[46],((p+x.length:Nat):Int))::(wt q r (p+x.length+1)++l)))=_;have ih:=v7x l hl q r (p+x.length+1) (acc++([46]++x)) ((p+x.length:Nat):Int);rw [v7v];rw [ih,q2q];simp [wt]
theorem v7t (l:List Tok) (hl:∀acc,dwn acc l=(acc,0)) (q:List (List UInt8)) (r:List UInt8) (p:Nat):dot (wt q r p++l)=(jn q r,true,(wt q r p).length):=by
 cases q with
 | nil =>
  show dot ((0,r,(p:Int))::l)=_;simp only [dot,beq_self_eq_true,cond_true,hl];rfl
 | cons x q =>
  show dot ((0,x,(p:Int))::((2,[46],((p+x.length:Nat):Int))::(wt q r (p+x.length+1)++l)))=_;simp only [dot,beq_self_eq_true,cond_true,v7x l hl,q2q];simp [wt]
def Dn (l:List Tok):Prop:=∀acc,dwn acc l=(acc,0)
def Nw (l:List Tok):Prop:=l≠[]∧∀x∈l,(x.1==4||x.1==3)=false
theorem k2v:∀(q:List (List UInt8)) (r:List UInt8) (p:Nat),Nw (wt q r p)
 | [],r,p=>⟨by simp [wt],fun x hx=>by simp only [wt,List.mem_singleton] at hx;subst hx;rfl⟩
 | y::q,r,p=>⟨by simp [wt],fun x hx=>by
  simp only [wt,List.mem_cons] at hx;rcases hx with rfl|rfl|hx
  · rfl
  · rfl
  · exact (k2v q r _).2 x hx⟩
def z0l (w:List UInt8) (f:List Tok→Bool×List UInt8×Nat) (v:List UInt8):Prop :=
 ∀p:Nat,∃ts,Nw ts∧(∀(X:List UInt8) (l:List Tok),stops qz X→zt X (p+w.length) = .inl l→zt (w++X) p = .inl (ts++l))∧∀l,Dn l→f (ts++l)=(true,v,ts.length)∧zn (ts++l)=0
theorem k0a (x:List UInt8) (a:Int) (l:List Tok):loc ((0,x,a)::l)=((dot ((0,x,a)::l)).2.1,(dot ((0,x,a)::l)).1,(dot ((0,x,a)::l)).2.2):=rfl
theorem v7p (x:List UInt8) (a:Int) (l:List Tok):dom ((0,x,a)::l)=((dot ((0,x,a)::l)).2.1,(dot ((0,x,a)::l)).1,(dot ((0,x,a)::l)).2.2):=rfl
theorem w5i {w:List UInt8} (h:Wd w):z0l w loc w:=by
 obtain ⟨q,r,rfl,hq,hr⟩:=h;intro p;refine ⟨wt q r p,k2v q r p,fun X l hX hl=>y8p X l hX q r p hq hr hl,fun l hl => ?_⟩;have hd:=v7t l hl q r p;obtain ⟨x,a,t,ht⟩:=x7a q r p;rw [ht] at hd ⊢;refine ⟨?_,rfl⟩;rw [List.cons_append] at hd ⊢;rw [k0a,hd]
theorem k9r {w:List UInt8} (h:Wd w):z0l w dom w:=by
 obtain ⟨q,r,rfl,hq,hr⟩:=h;intro p;refine ⟨wt q r p,k2v q r p,fun X l hX hl=>y8p X l hX q r p hq hr hl,fun l hl => ?_⟩;have hd:=v7t l hl q r p;obtain ⟨x,a,t,ht⟩:=x7a q r p;rw [ht] at hd ⊢;refine ⟨?_,rfl⟩;rw [List.cons_append] at hd ⊢;rw [v7p,hd]
theorem y9l (a:List UInt8):src 1 a=34::(esc a++[34]):=by simp [src]
theorem f4r {a:List UInt8} (h:a.all jc=true):z0l (src 1 a) loc a:=by
 intro p;refine ⟨[(1,a,(p:Int))],⟨by simp,fun x hx=>by rw [List.mem_singleton] at hx;subst hx;rfl⟩,fun X l hX hl => ?_,fun l hl=>⟨rfl,rfl⟩⟩;rw [y9l] at hl ⊢;have e:(34::(esc a++[34]))++X=34::(esc a++34::X):=by simp
 have ho:one 34 (esc a++34::X)=(1,.ok a ((34::(esc a++[34])).length)):=by
  rw [k1i,(y9b a X).1 h];show (1,Tk.ok a (1+((esc a).length+1)))=_;rw [List.length_cons,List.length_append,List.length_singleton,Nat.add_comm 1]
 rw [e,wi ho,←e,List.drop_left,hl];rfl
theorem g6k (r:List UInt8):one 91 r=(5,(ltk r).up):=by
 have h:=k2c;simp only [Bool.and_eq_true,Bool.not_eq_true'] at h;unfold one;rw [if_neg (by rw [h.2.1];decide),if_neg (by rw [h.2.2];decide),if_neg (by decide),if_pos (show UInt8.toNat 91=91 from rfl)]
theorem x5s {b t:List UInt8} {n:Int} (h:zt b 0 = .inl [(5,t,n)]):src 5 t=b:=by
 have:=(y5f b.length b 0 _ (Nat.le_refl _) h).2.2 (by intro x hx;rw [List.mem_singleton] at hx;subst hx;show (5:Int)≠1;decide);simpa [v2b] using this
theorem f6p (t:List UInt8):src 5 t=91::(t++[93]):=by simp [src]
theorem v7o {b t:List UInt8} {n:Int} (h:zt b 0 = .inl [(5,t,n)]):z0l b dom b:=by
 have hb:=x5s h;have hu:∃u,ltk (t++93::[]) = .ok t u:=by
  rw [←hb,f6p] at h;obtain ⟨k,t',u,l',h1,h2,h3⟩:=j2w h;rw [g6k] at h1;simp only [List.cons.injEq,Prod.mk.injEq] at h3 h1;obtain ⟨u',h4,-⟩:=q4r h1.2;rw [←h3.1.2.1] at h4;exact ⟨u',h4⟩
 obtain ⟨u,hu⟩:=hu;intro p;refine ⟨[(5,t,(p:Int))],⟨by simp,fun x hx=>by rw [List.mem_singleton] at hx;subst hx;rfl⟩,fun X l hX hl => ?_,fun l hl=>⟨?_,rfl⟩⟩
 · rw [←hb,f6p] at hl ⊢
   have e:(91::(t++[93]))++X=91::(t++93::X):=by simp
   have hl2:=(y0c hu).1;have ho:one 91 (t++93::X)=(5,.ok t ((91::(t++[93])).length)):=by
    rw [g6k,k0c X hu];show (5,Tk.ok t (1+u))=_;rw [hl2,List.length_cons,List.length_append,List.length_singleton,Nat.add_comm 1]
   rw [e,wi ho,←e,List.drop_left,hl];rfl
 · show (true,src 5 t,1)=_
   rw [hb];rfl
def Wh (l:List Tok):Prop:=∀x∈l,(x.1==4||x.1==3)=true
theorem j5h:∀(w l:List Tok),Wh w→zn (w++l)=w.length+zn l
 | [],l,_=>by simp
 | x::w,l,h=>by
  rw [List.cons_append];simp only [zn,h x List.mem_cons_self,cond_true,j5h w l (fun y hy=>h y (List.mem_cons_of_mem _ hy)),List.length_cons];omega
theorem q6t {t:Tok} {l:List Tok} (h:(t.1==2&&t.2.1==[46])=false):Dn (t::l):=by
 intro acc;cases l with
 | nil=>rfl
 | cons u r=>simp only [dwn,h,Bool.false_and,cond_false]
theorem v7n:Dn []:=fun acc=>rfl
theorem b4y {w l:List Tok} (hw:Wh w) (hl:Dn l):Dn (w++l):=by
 cases w with
 | nil=>exact hl
 | cons x w =>
  refine q6t ?_;have:=hw x List.mem_cons_self;have h2:(x.1==2)=false:=by
   cases h:(x.1==2) with
   | false=>rfl
   | true =>
    have h3:x.1=2:=eq_of_beq h;rw [h3] at this;cases this
  rw [h2];rfl
theorem b5o {a b:List UInt8} {w1 w2 w3 ts td z:List Tok} {n:Int} (h1:Wh w1) (h2:Wh w2) (h3:Wh w3) (hz:Dn z)
 (hL:∀l,Dn l→loc (ts++l)=(true,a,ts.length)∧zn (ts++l)=0) (hD:∀l,Dn l→dom (td++l)=(true,b,td.length)∧zn (td++l)=0) :
 mt (w1++(ts++(w2++((2,[64],n)::(w3++(td++z))))))=some (a,b,w1.length+ts.length+w2.length+1+w3.length+td.length+zn z):=by
 have hn:Dn (w2++((2,[64],n)::(w3++(td++z)))):=b4y h2 (q6t rfl);obtain ⟨h4,h5⟩:=hL _ hn;obtain ⟨h6,h7⟩:=hD _ hz;have s1:zn (w1++(ts++(w2++((2,[64],n)::(w3++(td++z))))))=w1.length:=by rw [j5h _ _ h1,h5,Nat.add_zero]
 have e1:(w1++(ts++(w2++((2,[64],n)::(w3++(td++z)))))).drop w1.length=ts++(w2++((2,[64],n)::(w3++(td++z)))):=List.drop_left;have e2:(w1++(ts++(w2++((2,[64],n)::(w3++(td++z)))))).drop (w1.length+ts.length)=w2++((2,[64],n)::(w3++(td++z))):=by
  rw [←List.drop_drop,e1,List.drop_left]
 have s2:zn (w2++((2,[64],n)::(w3++(td++z))))=w2.length:=by rw [j5h _ _ h2];rfl
 have e3:(w1++(ts++(w2++((2,[64],n)::(w3++(td++z)))))).drop (w1.length+ts.length+w2.length)=(2,[64],n)::(w3++(td++z)):=by
  rw [←List.drop_drop,e2,List.drop_left]
 have e4:(w1++(ts++(w2++((2,[64],n)::(w3++(td++z)))))).drop (w1.length+ts.length+w2.length+1)=w3++(td++z):=by
  rw [←List.drop_drop,e3];rfl
 have s3:zn (w3++(td++z))=w3.length:=by rw [j5h _ _ h3,h7,Nat.add_zero]
 have e5:(w1++(ts++(w2++((2,[64],n)::(w3++(td++z)))))).drop (w1.length+ts.length+w2.length+1+w3.length)=td++z:=by
  rw [←List.drop_drop,e4,List.drop_left]
 have e6:(w1++(ts++(w2++((2,[64],n)::(w3++(td++z)))))).drop (w1.length+ts.length+w2.length+1+w3.length+td.length)=z:=by
  rw [←List.drop_drop,e5,List.drop_left]
 have hs:sgn [64] ((2,[64],n)::(w3++(td++z)))=true:=rfl;unfold mt;simp only [s1,e1,h4,e2,s2,e3,hs,e4,s3,e5,h6,e6,Bool.not_true,cond_false]
theorem m2v (s:List UInt8):Pf (q3n (s,[46],())) (fun y=>0≤y.1→s[y.1.toNat]? = some 46):=by
 unfold q3n k4l;dsimp only;exact pZ (d0l s) fun _ h=>pP h
theorem q7k {α:Type} (l:List α) (i:Nat) (v:α) (h:i<l.length):(l.set i v).take (i+1)=l.take i++[v]:=by
 rw [qg (by rw [List.length_set];exact h),List.getElem_set_self];congr 1;exact List.take_set_of_le (Nat.le_refl _)
def jq (q:List (List UInt8)):List UInt8:=q.flatMap (fun p=>p++[46])
theorem m2o (s:List UInt8) (hs:s.length≤1000000000):Pf (y5p (s,[46],0,-1,())) (fun y=>∃q r,y.1=q++[r]∧s=jn q r):=by
 unfold y5p k4c;dsimp only;rw [show ((-1:Int)==0)=false from rfl,show (([46]:List UInt8)==[])=false from rfl,show decide ((-1:Int)<0)=true from rfl];simp only [cond_false,cond_true];refine pZ pT ?_;rintro ⟨c,u⟩ -
 dsimp only;generalize IntKind.i64.wrap (c+1)=m;refine pZ (P:=fun y=>∃q r,y.1=q++[r]∧s=jn q r) ?_ fun _ h=>pP h;unfold q8z j7k;dsimp only;generalize (if IntKind.i64.wrap ((s.length:Int)+1)<m then IntKind.i64.wrap ((s.length:Int)+1) else m)=M;refine pX (fun hM => ?_) (fun _=>pN);have hM':M≤140737488355328:=by
  simp only [Bool.and_eq_true,decide_eq_true_eq] at hM;omega
 refine pZ (P:=fun y=>0≤y.2.1∧y.2.2.1.length≤140737488355328∧s=jq (y.2.2.1.take y.2.1.toNat)++y.1) ?_ ?_
 · refine pL ?I ?h _ ?hv
   case I=>exact (fun v=>∃(x:List UInt8) (N i:Int) (rows:List (List UInt8)),0≤i∧rows.length≤140737488355328∧s=jq (rows.take i.toNat)++x∧v=(x,[46],0,N,i,rows,()))
   case hv=>exact ⟨_,_,_,_,Int.le_refl _,by rw [List.length_replicate];omega,by simp [jq],rfl⟩
   rintro v ⟨x,N,i,rows,h0,hr,h1,rfl⟩;unfold j7l;dsimp only;with_reducible repeat' (first|exact pN|apply pP|apply pX<;>intro _)
   · refine pZ (m2v x) ?_
     rintro ⟨k,u⟩ hk;dsimp only at hk ⊢;rw [show (([46]:List UInt8).length:Int)=1 from rfl];have hxs:x.length≤s.length:=by rw [h1];simp
     refine pX (fun _=>pP ⟨h0,hr,h1⟩) (fun hneg => ?_);have h4:=hk (by omega);have hlt:k.toNat<x.length:=by
      rcases Nat.lt_or_ge k.toNat x.length with h|h
      · exact h
      · rw [List.getElem?_eq_none h] at h4;cases h4
     rw [List.getElem?_eq_getElem hlt,Option.some.injEq] at h4;rw [qh (n:=k+0) (by omega),qh (n:=k+1) (by omega),Int.add_zero];refine pX (fun _ => ?_) (fun _=>pN);refine pX (fun hi => ?_) (fun _=>pN);refine pX (fun _ => ?_) (fun _=>pN);rw [qh (n:=i+1) (by omega)];have hil:i.toNat<rows.length:=by omega
     refine pP ⟨_,_,_,_,by omega,by rw [List.length_set];exact hr,?_,rfl⟩;rw [show (i+1).toNat=i.toNat+1 by omega,q7k _ _ _ hil];conv=>lhs;rw [h1,←List.take_append_drop k.toNat x,←List.getElem_cons_drop hlt,h4]
     rw [show (k+1).toNat=k.toNat+1 by omega];simp [jq]
   · exact ⟨h0,hr,h1⟩
 · rintro ⟨x,i,rows,u⟩ ⟨h0,hr,h1⟩
   dsimp only at h0 hr h1 ⊢;refine pX (fun h2 => ?_) (fun _=>pN);refine pX (fun h3 => ?_) (fun _=>pN);have hil:i.toNat<rows.length:=by omega
   refine pP ⟨rows.take i.toNat,x,?_,h1⟩;dsimp only;rw [qh (n:=i+1) (by omega),show (i+1).toNat=i.toNat+1 by omega,q7k _ _ _ hil]
theorem p47 (s:List UInt8) (hs:s.length≤1000000000):Pf (C47 (s,())) (fun y=>y.1=true→Atm s):=by
 unfold C47 F47;dsimp only;refine pZ (P:=Sum.elim (fun y=>y.1=s∧s.all qz=true) (fun y=>y.1=false)) ?_ ?_
 · refine pL ?I ?h _ ?hv
   case I=>exact (fun v=>∃k:Int,0≤k∧k≤s.length∧(s.take k.toNat).all qz=true∧v=(s,(s.length:Int),k,()))
   case hv=>exact ⟨0,Int.le_refl _,by omega,rfl,rfl⟩
   rintro v ⟨k,h0,h1,h2,rfl⟩;unfold z8g;dsimp only;with_reducible repeat' (first|exact pN|apply pP|apply pX<;>intro _)
   · have hlt:k.toNat<s.length:=by omega
     rw [c17];simp only [Option.bind_some];with_reducible repeat' (first|exact pN|apply pP|apply pX<;>intro _)
     · exact rfl
     · rename_i ha
       rw [qh (n:=k+1) (by omega)];refine ⟨_,by omega,by omega,?_,rfl⟩;rw [getD_lt hlt] at ha;rw [show (k+1).toNat=k.toNat+1 by omega,qg hlt,List.all_append,h2];simp [ha]
   · rw [List.take_of_length_le (by omega)] at h2
     exact ⟨rfl,h2⟩
 · intro z hz
   refine pS hz ?_ ?_
   · rintro ⟨x,u⟩ ⟨h1,h2⟩
     dsimp only at h1;subst h1;refine pP fun h=>⟨fun e => ?_,h2⟩
     dsimp only at h;subst e;cases h
   · rintro ⟨b,u⟩ hb
     dsimp only at hb;subst hb;exact pP fun h=>by cases h
theorem v8p:∀(q:List (List UInt8)) (r:List UInt8),q.length≤(jn q r).length
 | [],r=>Nat.zero_le _
 | x::q,r=>by
  have:=v8p q r;rw [q2q];simp only [List.length_append,List.length_cons];omega
theorem p88 (s:List UInt8) (hs:s.length≤1000000000):Pf (C88 (s,())) (fun y=>y.1=true→Wd s):=by
 unfold C88 F88;dsimp only;refine pZ (P:=fun y=>(∃q r,y.1=q++[r]∧s=jn q r)∧∀p∈y.1,p.length≤s.length) ?_ ?_
 · unfold y0x k3n
   dsimp only;refine pZ (pA (m2o s hs) (b3y s hs).pf) ?_;rintro y ⟨h1,h2⟩;exact pP ⟨h1,h2.2⟩
 rintro ⟨ps,u⟩ ⟨⟨q,r,hq,hr⟩,hl⟩;dsimp only at hq hl ⊢;refine pZ (P:=Sum.elim (fun _=>∀p∈ps,Atm p) (fun y=>y.1=false)) ?_ ?_
 · refine pL ?I ?h _ ?hv
   case I=>exact (fun v=>∃k:Int,0≤k∧(∀p∈ps.take k.toNat,Atm p)∧v=(ps,(ps.length:Int),k,()))
   case hv=>exact ⟨0,Int.le_refl _,fun p hp=>(by cases hp),rfl⟩
   rintro v ⟨k,h0,h2,rfl⟩;unfold z8i;dsimp only;with_reducible repeat' (first|exact pN|apply pP|apply pX<;>intro _)
   · rename_i hk1 hk2
     have hlt:k.toNat<ps.length:=by omega
     have hmem:ps.getD k.toNat []∈ps:=by rw [getD_lt hlt];exact List.getElem_mem _
     refine pZ (p47 _ (by have:=hl _ hmem;omega)) ?_;rintro ⟨b,u⟩ hb;dsimp only at hb ⊢;with_reducible repeat' (first|exact pN|apply pP|apply pX<;>intro _)
     · exact rfl
     · rename_i hbt
       have ha:=hb hbt;rw [getD_lt hlt] at ha;have hkb:IntKind.i64.wrap (k+1)=k+1∨k≥9000000000000000000:=by
        by_cases h:k≥9000000000000000000
        · exact .inr h
        · exact .inl (qh (by omega))
       have hpl:ps.length≤s.length+1:=by
        have:=v8p q r;rw [hq,hr,List.length_append,List.length_singleton];omega
       rw [qh (n:=k+1) (by omega)];refine ⟨_,by omega,fun p hp => ?_,rfl⟩;rw [show (k+1).toNat=k.toNat+1 by omega,qg hlt] at hp;rcases List.mem_append.1 hp with hp|hp
       · exact h2 p hp
       · rw [List.mem_singleton] at hp
         subst hp;exact ha
   · rw [List.take_of_length_le (by omega)] at h2
     exact h2
 · intro z hz
   refine pS hz ?_ ?_
   · intro u h
     refine pP fun _=>⟨q,r,hr,fun p hp=>h p (by rw [hq];exact List.mem_append_left _ hp),h r (by rw [hq];simp)⟩
   · rintro ⟨b,u⟩ hb
     dsimp only at hb;subst hb;exact pP fun h=>by cases h
theorem v8j (s:List UInt8) (i:Nat):(⟨⟨s⟩⟩:ByteArray).get! i=s.getD i 0:=by
 show (⟨s⟩:Array UInt8)[i]! = _;rcases Nat.lt_or_ge i s.length with h|h
 · rw [getElem!_pos _ _ (by simpa using h),getD_lt h]
   simp
 · rw [getElem!_neg _ _ (by simpa using h),List.getD_eq_getElem?_getD,List.getElem?_eq_none h]
   rfl
theorem z4q (s:List UInt8) (p j:Nat) (h1:1≤j) (h2:j<(vd s p).2):128≤(s.getD (p+j) 0).toNat:=by
 have hsz:(⟨⟨s⟩⟩:ByteArray).size=s.length:=by simp [ByteArray.size]
 unfold vd Utf8.decode at h2;simp only [v8j] at h2;repeat' split at h2
 all_goals try (dsimp only at h2;omega)
 all_goals
  rename_i hc _;simp only [Bool.and_eq_true,decide_eq_true_eq,beq_iff_eq] at hc;dsimp only at h2;have hj:j=1∨j=2∨j=3:=by omega
  rcases hj with rfl|rfl|rfl<;>omega
theorem p85 (x:Int):Pf (C85 (x,())) (fun y=>y.1=false→x=9∨(32≤x∧x≠127)):=by
 unfold C85 F85;dsimp only;with_reducible repeat' (first|exact pN|apply pP|apply pX<;>intro _)
 · exact fun h=>by cases h
 · rename_i h1 h2
   intro h;have h':(x==127)=false:=h;have:x≠127:=by simpa using h'
   exact .inr ⟨by omega,this⟩
 · rename_i h
   exact fun _ => .inl h
theorem j9d {c:UInt8} (h:128≤c.toNat):jc c=true:=by
 rw [←q4f];unfold q4e;rw [decide_eq_true (show 32≤c.toNat by omega),decide_eq_false (show ¬c.toNat=127 by omega)];simp
theorem f5o (s:List UInt8) (hs:s.length≤1000000000000000):Pf (q7m (s,true,())) (fun y=>y.1<0→s.all jc=true):=by
 unfold q7m z7i;dsimp only;refine pZ (P:=Sum.elim (fun y=>0≤y.1) (fun _=>s.all jc=true)) ?_ ?_
 · refine pL ?I ?h _ ?hv
   case I=>exact (fun v=>∃p:Nat,v=(true,(s,(p:Int)),())∧∀i,i<p→i<s.length→jc (s.getD i 0)=true)
   case hv=>exact ⟨0,rfl,fun i h=>by omega⟩
   rintro v ⟨p,rfl,h1⟩;unfold q5h;dsimp only;simp only [Int.toNat_natCast];with_reducible repeat' (first|exact pN|apply pP|apply pX<;>intro _)
   · rename_i hp
     refine pZ (p85 _) ?_;rintro ⟨b,u⟩ hb;dsimp only at hb ⊢;cases b with
     | true=>exact pP (by show (0:Int)≤(p:Int);omega)
     | false =>
      refine pP ⟨_,rfl,fun i hi hil => ?_⟩;by_cases hip:i<p
      · exact h1 i hip hil
      · by_cases he:i=p
        · subst he
          have hb':=hb rfl;by_cases hlo:s[i].toNat<128
          · rw [q6s hp hlo] at hb'
            dsimp only at hb';rw [getD_lt hil,←q4f];unfold q4e;rcases hb' with hb'|hb'
            · rw [decide_eq_true (show s[i].toNat=9 by omega)];rfl
            · rw [decide_eq_true (show 32≤s[i].toNat by omega),decide_eq_false (show ¬s[i].toNat=127 by omega)];simp
          · rw [getD_lt hil]
            exact j9d (by omega)
        · have:=z4q s p (i-p) (by omega) (by omega)
          rw [show p+(i-p)=i by omega] at this;exact j9d this
   · rename_i hp
     show s.all jc=true;rw [List.all_eq_true];intro c hc;obtain ⟨i,hi,rfl⟩:=List.mem_iff_getElem.1 hc;have:=h1 i (by omega) hi;rw [getD_lt hi] at this;exact this
 · intro z hz
   refine pS hz ?_ ?_
   · rintro ⟨a,u⟩ h
     exact pP fun hn=>by
      have h':0≤a:=h;have hn':a<0:=hn;omega
   · intro u h
     exact pP fun _=>h
theorem d0s (s:List UInt8) (hs:s.length≤1000000000000000):Pf (z0c (s,())) (fun y=>y.1=false→s.all jc=true):=by
 unfold z0c x3l;dsimp only;refine pZ (P:=fun y=>y.1<0→s.all jc=true) ?_ ?_
 · unfold j9m z7c
   dsimp only;exact pZ (f5o s hs) fun _ h=>pP h
 · rintro ⟨a,u⟩ h
   refine pP fun hb=>h ?_;dsimp only at hb ⊢;simp only [decide_eq_false_iff_not] at hb;omega
theorem f6i (s:List UInt8) (hs:s.length≤1000000):Pf (C83 (s,())) (fun y=>y.2.1<0→utf s=none):=by
 obtain ⟨o,ho⟩:=c15 s hs;rw [ho];refine pP fun h => ?_;dsimp only at h;cases hu:utf s with
 | none=>rfl
 | some b=>rw [hu] at h;exact (Int.not_lt.2 (Int.natCast_nonneg b) h).elim
section
variable {T:List R6} {A:List R4} {B:List R3}
theorem d0k (s:List UInt8) (hs:s.length≤1000000):Pf (j9n (T,A,B,s,())) (fun y=>y.2.1=true→utf s=none):=by
 unfold j9n v4u;dsimp only;refine pZ (f6i s hs) ?_;rintro ⟨l,at_,u⟩ hl;dsimp only at hl ⊢;with_reducible repeat' (first|exact pN|apply pP|apply pX<;>intro _)
 · exact fun h=>by cases h
 · rename_i hat
   have:=hl (by omega);exact pZ pT fun _ _=>pZ pT fun _ _=>pZ pT fun _ _=>pZ pT fun _ _=>pP fun _=>this
theorem d0h (s:List UInt8) (hs:s.length≤1000000):Pf (z5x (T,A,B,s,())) (fun y=>y.2.2.1=0→utf s=none):=by
 unfold z5x;dsimp only;refine pZ (d0k s hs) ?_;rintro ⟨f,ok,u⟩ hf;dsimp only at hf ⊢;cases ok with
 | true=>exact pM pT fun _ _ _=>hf rfl
 | false =>
  rw [show q1d f false=some ([],7) from rfl];exact pP fun h=>by cases h
def Rm (a b:List UInt8):Prop:=a≠[]∧a.length≤64∧utf a=none∧a.all jc=true∧utf b=none∧((∃t n,zt b 0 = .inl [(5,t,n)])∨Wd b)
theorem p44 (h:TK T A B) (hK:KT T A B) (a b:List UInt8) (ha:a.length≤100000) (hb:b.length≤3000):Pf (C44 (T,A,B,a,b,())) (fun y=>y.1=0→Rm a b):=by
 unfold C44 F44;dsimp only;refine pZ (f6i a (by omega)) ?_;rintro ⟨o,at_,u⟩ hu;dsimp only at hu ⊢;refine pX (fun _=>pP (fun h=>by cases h)) (fun hne => ?_);have hne':a≠[]:=by simpa using hne
 refine pX (fun _=>pP (fun h=>by cases h)) (fun hlen => ?_);refine pX (fun _=>pP (fun h=>by cases h)) (fun hat => ?_);have hu':=hu (by omega);refine pZ (d0s a (by omega)) ?_;rintro ⟨st,u⟩ hst;dsimp only at hst ⊢;refine pX (fun _=>pP (fun h=>by cases h)) (fun hsf => ?_);have hmay:=hst hsf;refine pZ pT ?_;rintro ⟨li,u⟩ -
 dsimp only;refine pX (fun _ => ?_) (fun _ => ?_)
 · rw [c11 b]
   simp only [Option.bind_some];refine pX (fun _=>pP (fun h=>by cases h)) (fun he => ?_);refine pX (fun _=>pP (fun h=>by cases h)) (fun h1 => ?_);refine pX (fun _ => ?_) (fun _=>pN);refine pX (fun _=>pP (fun h=>by cases h)) (fun h5 => ?_);refine pP fun _=>⟨hne',by omega,hu',hmay,?_⟩
   unfold q4l at he h1 h5;by_cases h2:2000<b.length
   · rw [if_pos h2] at he
     cases he
   · rw [if_neg h2] at he h1 h5
     cases hub:utf b with
     | some x=>rw [hub] at he;cases he
     | none =>
      rw [hub] at he h1 h5;refine ⟨rfl,.inl ?_⟩;cases hl:zt b 0 with
      | inr x=>rw [hl] at h1;cases h1
      | inl l =>
       rw [hl] at h1 h5;have h1':(l.length:Int)=1:=h1;have h5':(l.getD 0 (0,([],0))).1=5:=h5
       match l,h1',h5' with
       | [(k,t,n)],_,h5' =>
        have:k=5:=h5';subst this;exact ⟨t,n,rfl⟩
 · refine pZ (P:=fun y=>y.2.1=0→run true 1 (bi b)=0∧utf b=none) ?_ ?_
   · unfold C87 F87
     dsimp only;refine pZ (pA (m2j h hK b hb) (d0h b (by omega))) ?_;rintro ⟨x,y,e,u⟩ ⟨h1,h2⟩;exact pP fun h0=>⟨h1 h0,h2 h0⟩
   · rintro ⟨x,e,u⟩ h1
     refine pP fun h0 => ?_;obtain ⟨h2,h3⟩:=h1 h0;exact ⟨hne',by omega,hu',hmay,h3,.inr (d0v h2)⟩
end
def lcl (a:List UInt8):List UInt8:=match C88 (a,()) with
 | some (true,_)=>a
 | _=>src 1 a
def Hd (w:List UInt8):Prop:=∃c r,w=c::r∧js c=false∧(c==13)=false
theorem m0z:((List.range 256).all fun n=>(fun c:UInt8 => !qz c||(!js c && !(c==13))) (UInt8.ofNat n))=true:=by kernel_rfl
theorem w1p {c:UInt8} (h:qz c=true):js c=false∧(c==13)=false:=by
 have:=vf (fun c:UInt8 => !qz c||(!js c && !(c==13))) m0z c;simp only [h,Bool.not_true,Bool.false_or,Bool.and_eq_true,Bool.not_eq_true'] at this;exact this
theorem v8k {x y:List UInt8} (h:Atm x):Hd (x++y):=by
 obtain ⟨h1,h2⟩:=h;cases x with
 | nil=>exact (h1 rfl).elim
 | cons c x =>
  simp only [List.all_cons,Bool.and_eq_true] at h2;exact ⟨c,x++y,rfl,w1p h2.1⟩
theorem g4v {w:List UInt8} (h:Wd w):Hd w:=by
 obtain ⟨q,r,rfl,hq,hr⟩:=h;cases q with
 | nil =>
  have:=v8k (y:=[]) hr;rw [List.append_nil] at this;exact this
 | cons x q=>rw [q2q];exact v8k (hq x List.mem_cons_self)
theorem g4u:(js 34||js 91)=false:=by kernel_rfl
structure Mp (a b:List UInt8):Prop where
 lc:z0l (lcl a) loc a
 dm:z0l b dom b
 ln:(lcl a).length≤130
 vl:Val (lcl a)
 vb:Val b
 hl:Hd (lcl a)
 hb:Hd b
 pr:C45 (a,b,())=some (lcl a++[64]++b,())
theorem b5n {a b:List UInt8} (h:Rm a b) (hb:b.length≤3000):Mp a b:=by
 obtain ⟨h1,h2,h3,h4,h5,h6⟩:=h;have hD:z0l b dom b:=by
  rcases h6 with ⟨t,n,h6⟩|h6
  · exact v7o h6
  · exact k9r h6
 have hva:Val a:=(q7b (by omega)).1 h3;have hvb:Val b:=(q7b (by omega)).1 h5;have hsk:=g4u;simp only [Bool.or_eq_false_iff] at hsk;have hHb:Hd b:=by
  rcases h6 with ⟨t,n,h6⟩|h6
  · rw [←x5s h6,f6p];exact ⟨91,_,rfl,hsk.2,rfl⟩
  · exact g4v h6
 obtain ⟨⟨w,u⟩,hw,-⟩:=d88 a (by omega);cases w with
 | true =>
  have e:lcl a=a:=by unfold lcl;rw [hw]
  have hL:=w5i (p88 a (by omega) _ hw rfl);refine ⟨by rw [e];exact hL,hD,by rw [e];omega,by rw [e];exact hva,hvb,by rw [e];exact g4v (p88 a (by omega) _ hw rfl),hHb,?_⟩;rw [e];show F45 C88 C89 _=_;simp only [F45,hw,Option.bind_some,Bool.not_true,cond_false];rw [decide_eq_true (by simp only [List.length_cons,List.length_nil];omega),decide_eq_true (by simp only [jv];omega)];rfl
 | false =>
  have e:lcl a=src 1 a:=by unfold lcl;rw [hw]
  have hlen:=q2o a;have hs:(src 1 a).length≤130:=by
   rw [y9l];simp only [jv];omega
  have hv:Val (src 1 a):=by
   have e:src 1 a=[]++34::(esc a++34::[]):=by simp [src]
   rw [e];refine Val.glue (by decide) .nil (Val.glue (by decide) ?_ .nil);have:=j9h a [] (by simpa using hva);simpa using this
  refine ⟨by rw [e];exact f4r h4,hD,by rw [e];exact hs,by rw [e];exact hv,hvb,by rw [e,y9l];exact ⟨34,_,rfl,hsk.1,rfl⟩,hHb,?_⟩;rw [e];show F45 C88 C89 _=_;simp only [F45,hw,Option.bind_some,Bool.not_false,cond_true,c9 1 a 0 (by omega)];rw [decide_eq_true (by simp only [List.length_cons,List.length_nil];omega),decide_eq_true (by simp only [jv];omega)];rfl
section
variable {T:List R6} {A:List R4} {B:List R3}
end
theorem zp {α:Type} {l r:List α} {p:Nat} (h:l.drop p=r) (hr:r≠[]):p<l.length:=by
 rcases Nat.lt_or_ge p l.length with h1|h1
 · exact h1
 · rw [List.drop_of_length_le h1] at h
   exact (hr h.symm).elim
theorem zx {α:Type} {l a b:List α} {p:Nat} (h:l.drop p=a++b):l.drop (p+a.length)=b:=by
 rw [←List.drop_drop,h,List.drop_left]
theorem xw {α:Type} {l b:List α} {x:α} {p:Nat} (h:l.drop p=x::b):l.drop (p+1)=b:=by
 rw [←List.drop_drop,h];rfl
theorem q1l {s:List UInt8} {l r:List Tok} {p:Nat} {t:Tok} (h:l.drop p=t::r):isS s l p=(t.1==2&&t.2.1==s):=by
 unfold isS;have:l[p]? = some t:=by rw [←List.head?_drop,h];rfl
 rw [this]
theorem w1s {s:List UInt8} {l:List Tok} {p:Nat} (h:l.drop p=[]):isS s l p=false:=by
 unfold isS;have:l[p]? = none:=by rw [←List.head?_drop,h];rfl
 rw [this]
theorem m4a:(js 32 && !qz 32 && !xg 32)=true:=by kernel_rfl
theorem m3z:(!qz 44&&xg 44&&(!qz 58&&xg 58)&&(!qz 59&&xg 59)&&(!qz 60&&xg 60)&&(!qz 62&&xg 62))=true:=by kernel_rfl
theorem s5:(qz 44=false∧xg 44=true)∧(qz 58=false∧xg 58=true)∧(qz 59=false∧xg 59=true)∧(qz 60=false∧xg 60=true)∧(qz 62=false∧xg 62=true):=by
 have h:=m3z;simp only [Bool.and_eq_true,Bool.not_eq_true'] at h;exact ⟨h.1.1.1.1,h.1.1.1.2,h.1.1.2,h.1.2,h.2⟩
theorem q6u {c:UInt8} (hc:qz c=false∧xg c=true) {X:List UInt8} {l:List Tok} {p:Nat} (h:zt X (p+1) = .inl l):zt (c::X) p = .inl ((2,[c],(p:Int))::l):=by
 have ho:one c X=(2,.ok [c] 1):=by
  unfold one;rw [if_neg (by rw [hc.1];decide),if_pos hc.2]
 rw [wi ho,show (c::X).drop 1=X from rfl,h];rfl
theorem d0w {c:UInt8} (r:List UInt8) (h:js c=false) (h2:(c==13)=false):wl (c::r)=0:=by
 match r with
 | []=>simp [wl,h]
 | [b]=>simp [wl,h]
 | b::d::r=>rw [wl];simp [h,h2]
theorem y8o {X:List UInt8} {l:List Tok} {p:Nat} (hX:Hd X) (h:zt X (p+1) = .inl l):zt (32::X) p = .inl ((4,[32],(p:Int))::l):=by
 have hk:=m4a;simp only [Bool.and_eq_true,Bool.not_eq_true'] at hk;obtain ⟨c,r,rfl,h1,h2⟩:=hX;have hw:wl (32::c::r)=1:=by rw [f6t hk.1.1,d0w r h1 h2]
 have ho:one 32 (c::r)=(4,.ok [32] 1):=by
  unfold one;rw [if_neg (by rw [hk.1.2];decide),if_neg (by rw [hk.2];decide),if_neg (by decide),if_neg (by decide),if_neg (by decide),hw,if_neg (by decide)];rfl
 rw [wi ho,show (32::c::r).drop 1=c::r from rfl,h];rfl
theorem g5g {a:List UInt8} (h:a.all jc=true) {X:List UInt8} {l:List Tok} {p:Nat} (hl:zt X (p+(src 1 a).length) = .inl l):zt (src 1 a++X) p = .inl ((1,a,(p:Int))::l):=by
 rw [y9l] at hl ⊢;have e:(34::(esc a++[34]))++X=34::(esc a++34::X):=by simp
 have ho:one 34 (esc a++34::X)=(1,.ok a ((34::(esc a++[34])).length)):=by
  rw [k1i,(y9b a X).1 h];show (1,Tk.ok a (1+((esc a).length+1)))=_;rw [List.length_cons,List.length_append,List.length_singleton,Nat.add_comm 1]
 rw [e,wi ho,←e,List.drop_left,hl];rfl
def pb (m:Bx):List UInt8:=lcl m.1++[64]++m.2
def d0y (m:Bx):Prop:=∀p:Nat,∃ts,Nw ts∧(∀(X:List UInt8) (l:List Tok),stops qz X→zt X (p+(pb m).length) = .inl l→zt (pb m++X) p = .inl (ts++l)) ∧
 ∀v z:List Tok,Wh v→Dn z→mt (v++(ts++z))=some (m.1,m.2,v.length+ts.length+zn z)
theorem k9e {m:Bx} (h:Mp m.1 m.2):d0y m:=by
 intro p;obtain ⟨ts,n1,k3,k4⟩:=h.lc p;obtain ⟨td,n2,k1,k2⟩:=h.dm (p+(lcl m.1).length+1);refine ⟨ts++(2,[64],((p+(lcl m.1).length:Nat):Int))::td,⟨by simp,fun x hx => ?_⟩,fun X l hX hl => ?_,fun v z hv hz => ?_⟩
 · rcases List.mem_append.1 hx with hx|hx
   · exact n1.2 x hx
   · rcases List.mem_cons.1 hx with rfl|hx
     · rfl
     · exact n2.2 x hx
 · have e:pb m++X=lcl m.1++64::(m.2++X):=by simp [pb]
   have hlen:(pb m).length=(lcl m.1).length+1+m.2.length:=by simp [pb];omega
   have g1:=k1 X l hX (by rw [←hl,hlen];congr 1;omega);have g2:=f4q g1;have g3:=k3 _ _ (k2i _) g2;rw [e,g3];simp
 · have hm:=b5o (w1:=v) (w2:=[]) (w3:=[]) (n:=((p+(lcl m.1).length:Nat):Int)) hv (fun x hx=>by cases hx) (fun x hx=>by cases hx) hz k4 k2
   simp only [List.nil_append,List.length_nil,Nat.add_zero] at hm;rw [show v++((ts++(2,[64],((p+(lcl m.1).length:Nat):Int))::td)++z)=v++(ts++(2,[64],((p+(lcl m.1).length:Nat):Int))::(td++z)) by simp,hm];simp only [List.length_append,List.length_cons];congr 3;omega
theorem y2v {m:Bx} {ts:List Tok} (hn:Nw ts) (hm:∀v z:List Tok,Wh v→Dn z→mt (v++(ts++z))=some (m.1,m.2,v.length+ts.length+zn z)):∃t r,ts=t::r∧(t.1==4||t.1==3)=false∧t.1≠2:=by
 cases ts with
 | nil=>exact (hn.1 rfl).elim
 | cons t r =>
  refine ⟨t,r,rfl,hn.2 t List.mem_cons_self,fun h2 => ?_⟩;have h:=hm [] [] (fun x hx=>by cases hx) v7n;obtain ⟨k,s,a⟩:=t;dsimp only at h2;subst h2;have h0:mt ([]++((2,s,a)::r++[]))=none:=rfl;rw [h0] at h;cases h
theorem v6o {m:Bx} {L v ts z:List Tok} {q:Nat} (hm:∀v z:List Tok,Wh v→Dn z→mt (v++(ts++z))=some (m.1,m.2,v.length+ts.length+zn z)) (hn:Nw ts) (h:L.drop q=v++(ts++z)) (hv:Wh v) (hz:Dn z) (hs:zn z=0) (hb:vp L+L.length≤9000) :
 wu (L,(q:Int),())=some ([],false,[m],true,L,((q+v.length+ts.length:Nat):Int),()):=by
 have hp:=zp h (by simp [hn.1]);have j4t:=v6p L q (by omega) hb;rw [h,hm v z hv hz,hs] at j4t;dsimp only at j4t;show z3b j5z q0p xj C68 xl _=_;simp only [z3b,j4t,Option.bind_some,cond_true,Nat.add_zero,Nat.add_assoc]
theorem b5p {v r:List Tok} {nm:List UInt8} {a:Int} (hv:Wh v) (h:sgn [64] (r.drop (zn r))=false):mt (v++(1,nm,a)::r)=none:=by
 have s1:zn (v++(1,nm,a)::r)=v.length:=by rw [j5h _ _ hv];rfl
 have e1:(v++(1,nm,a)::r).drop v.length=(1,nm,a)::r:=List.drop_left;have e2:(v++(1,nm,a)::r).drop (v.length+1)=r:=by rw [←List.drop_drop,e1];rfl
 have e3:(v++(1,nm,a)::r).drop (v.length+1+zn r)=r.drop (zn r):=by rw [←List.drop_drop,e2]
 have hl:loc ((1,nm,a)::r)=(true,nm,1):=rfl;unfold mt;simp only [s1,e1,hl,e2,e3,h,Bool.not_true,Bool.not_false,cond_false,cond_true]
theorem g6n {L v r:List Tok} {nm:List UInt8} {a:Int} {q:Nat} {t:Tok} {r':List Tok} (h:L.drop q=v++(1,nm,a)::r) (hv:Wh v) (hr:r.drop (zn r)=t::r') (ht:t.1=2):phr L q=(nm,true,q+v.length+1+zn r):=by
 have hp:=zp h (by simp);have s1:zn (L.drop q)=v.length:=by rw [h,j5h _ _ hv];rfl
 have e1:L.drop (q+v.length)=(1,nm,a)::r:=zx h;obtain ⟨k,hk⟩:∃k,L.length=k+1:=⟨L.length-1,by omega⟩
 have hw:phw k (r.drop (zn r))=([],0):=by
  rw [hr];cases k with
  | zero=>rfl
  | succ k=>simp [phw,ht]
 unfold phr;rw [s1,e1,hk];have hph:phw (k+1) ((1,nm,a)::r)=(nm::(phw k (r.drop (zn r))).1,1+zn r+(phw k (r.drop (zn r))).2):=rfl;rw [hw] at hph;rw [hph];simp only [Lib.join_one,List.length_singleton];rw [show decide (0<1)=true from rfl];congr 2;omega
def jb (bs:List Bx):List UInt8:=Lib.join (bs.map pb) [44,32]
theorem j9e (m m':Bx) (bs:List Bx):jb (m::m'::bs)=pb m++44::32::jb (m'::bs):=by
 simp [jb,Lib.join,List.intercalate,List.intersperse]
theorem j4w (m:Bx):jb [m]=pb m:=Lib.join_one _ _
theorem v8l {m:Bx} (h:Mp m.1 m.2) (X:List UInt8):Hd (pb m++X):=by
 obtain ⟨c,r,e,h1,h2⟩:=h.hl;exact ⟨c,r++[64]++m.2++X,by simp [pb,e],h1,h2⟩
theorem b5c {m:Bx} {bs:List Bx} (h:Mp m.1 m.2) (X:List UInt8):Hd (jb (m::bs)++X):=by
 cases bs with
 | nil=>rw [j4w];exact v8l h X
 | cons m' bs=>rw [j9e,List.append_assoc];exact v8l h _
theorem g6r {L:List Tok} {q q' r:Nat} {acc:List Bx} {nm:List UInt8} {m:Bx} (hq:(acc=[]∧q'=q)∨(acc≠[]∧isS [44] L q=true∧q'=q+1)) (hq0:q≤20000) (hr:r≤20000) (ha:acc.length≤100000)
 (h:wu (L,(q':Int),())=some ([],false,[m],true,L,(r:Int),())) :
 q0t wu q0p xj C68 (true,L,(q:Int),[],false,nm,true,acc,())=some (.inl (!isS [59] L r,L,((r+(bif isS [59] L r then 1 else 0):Nat):Int),[],false,nm,true,acc++[m],())):=by
 have h59:=c68 [59] L r (by omega);unfold q0t;dsimp only;rcases hq with ⟨rfl,rfl⟩|⟨hne,h44,rfl⟩
 · simp only [cond_true]
   rw [decide_eq_false (by simp)];simp only [cond_false,h,Option.bind_some,Bool.not_true,h59];rw [decide_eq_true (by simp)];cases isS [59] L r<;>rfl
 · have hl:acc.length≠0:=fun e=>hne (List.length_eq_zero_iff.1 e)
   have h68:=c68 [44] L q (by omega);rw [h44] at h68;simp only [cond_true] at h68 ⊢;rw [decide_eq_true (by omega)];simp only [cond_true,h68,Option.bind_some,Bool.not_true,cond_false,h,h59];rw [decide_eq_true (by simp;omega)];cases isS [59] L r<;>rfl
theorem g4o:∀(bs:List Bx),bs≠[]→(∀m∈bs,Mp m.1 m.2)→∀p:Nat,∃tb:List Tok,(∀(X:List UInt8) (l:List Tok),stops qz X→zt X (p+(jb bs).length) = .inl l→zt (jb bs++X) p = .inl (tb++l))∧(∃t r,tb=t::r∧(t.1==4||t.1==3)=false∧t.1≠2)∧tb≠[] ∧
 ∀(L:List Tok) (q q':Nat) (acc:List Bx) (v z:List Tok) (n:Int) (k:Nat) (nm:List UInt8),((acc=[]∧q'=q)∨(acc≠[]∧isS [44] L q=true∧q'=q+1))→L.drop q'=v++(tb++(2,[59],n)::z)→Wh v→vp L+L.length≤9000→bs.length<k→acc.length+bs.length≤90000 →
  qb (q0t wu q0p xj C68) k (true,L,(q:Int),[],false,nm,true,acc,())=some (.inl (L,((q'+v.length+tb.length+1:Nat):Int),[],false,nm,true,acc++bs,()))
 | [],h,_,_=>(h rfl).elim
 | [m],_,hM,p=>by
  obtain ⟨ts,n1,k1,k2⟩:=k9e (hM m List.mem_cons_self) p;refine ⟨ts,by rw [j4w];exact k1,?_,n1.1,?_⟩
  · exact y2v n1 k2
  · intro L q q' acc v z n k nm hq h hv hb hk ha
    have hp:=zp h (by simp);have z1x:=v6o k2 n1 h hv (q6t rfl) rfl hb;have hd:L.drop (q'+v.length+ts.length)=(2,[59],n)::z:=by rw [zx (zx h)]
    have hp2:=zp hd (by simp);have h59:isS [59] L (q'+v.length+ts.length)=true:=q1l hd;have hst:=g6r (nm:=nm) hq (by omega) (by omega) (by omega) z1x;rw [h59] at hst;simp only [List.length_cons,List.length_nil] at hk;obtain ⟨k,rfl⟩:∃k',k=k'+2:=⟨k-2,by omega⟩
    rw [qy hst];exact qe rfl
 | m::m'::bs,_,hM,p=>by
  obtain ⟨ts,n1,k1,k2⟩:=k9e (hM m List.mem_cons_self) p;obtain ⟨tb,j1,j2,j0,j3⟩:=g4o (m'::bs) (by simp) (fun x hx=>hM x (List.mem_cons_of_mem _ hx)) (p+(pb m).length+1+1);refine ⟨ts++(2,[44],((p+(pb m).length:Nat):Int))::(4,[32],((p+(pb m).length+1:Nat):Int))::tb,?_,?_,by simp,?_⟩
  · intro X l hX hl
    have e:jb (m::m'::bs)++X=pb m++44::32::(jb (m'::bs)++X):=by rw [j9e];simp
    have hlen:(jb (m::m'::bs)).length=(pb m).length+1+1+(jb (m'::bs)).length:=by rw [j9e];simp;omega
    have g1:=j1 X l hX (by rw [←hl,hlen];congr 1;omega);have g2:=y8o (b5c (hM m' (List.mem_cons_of_mem _ List.mem_cons_self)) X) g1;have g3:=q6u s5.1 g2;have g4:=k1 _ _ (show stops qz (44::_) from s5.1.1) g3;rw [e,g4];simp
  · obtain ⟨t,r,e,h1,h2⟩:=y2v n1 k2
    exact ⟨t,_,by rw [e];rfl,h1,h2⟩
  · intro L q q' acc v z n k nm hq h hv hb hk ha
    have h':L.drop q'=v++(ts++((2,[44],((p+(pb m).length:Nat):Int))::(4,[32],((p+(pb m).length+1:Nat):Int))::(tb++(2,[59],n)::z))):=by rw [h];simp
    have hp:=zp h' (by simp);have z1x:=v6o k2 n1 h' hv (q6t rfl) rfl hb;have hd:L.drop (q'+v.length+ts.length)=(2,[44],((p+(pb m).length:Nat):Int))::(4,[32],((p+(pb m).length+1:Nat):Int))::(tb++(2,[59],n)::z):=by rw [zx (zx h')]
    have hp2:=zp hd (by simp);have h59:isS [59] L (q'+v.length+ts.length)=false:=q1l hd;have h44:isS [44] L (q'+v.length+ts.length)=true:=q1l hd;have hst:=g6r (nm:=nm) hq (by omega) (by omega) (by omega) z1x;rw [h59] at hst;simp only [List.length_cons] at hk ha;obtain ⟨k,rfl⟩:∃k',k=k'+1:=⟨k-1,by omega⟩
    rw [qy hst];have:=j3 L (q'+v.length+ts.length) (q'+v.length+ts.length+1) (acc++[m]) [(4,[32],((p+(pb m).length+1:Nat):Int))] z n k nm (.inr ⟨by simp,h44,rfl⟩) (xw hd) (fun x hx=>by rw [List.mem_singleton] at hx;subst hx;rfl) hb (by simp only [List.length_cons];omega) (by simp only [jv];omega);simp only [Bool.not_false,cond_false,Nat.add_zero] at this ⊢;rw [this];simp only [jv,List.append_assoc,List.cons_append,List.nil_append];congr 4;omega
def pe (e:En):List UInt8:=bif e.2.1 then src 1 e.1++[58]++jb e.2.2++[59] else bif e.1==[] then jb e.2.2 else src 1 e.1++[32,60]++jb e.2.2++[62]
structure Re (e:En):Prop where
 nm:e.1.all jc=true
 gr:e.2.1=true→e.1≠[]
 bx:e.2.1=false→∃m,e.2.2=[m]
 mp:∀m∈e.2.2,Mp m.1 m.2
def Ez (z:List Tok):Prop:=z=[]∨∃n z',z=(2,[44],n)::z'
theorem Ez.dn {z:List Tok} (h:Ez z):Dn z:=by
 rcases h with rfl|⟨n,z',rfl⟩
 · exact v7n
 · exact q6t rfl
theorem Ez.sk {z:List Tok} (h:Ez z):zn z=0:=by
 rcases h with rfl|⟨n,z',rfl⟩<;>rfl
def k3i (e:En):Prop:=∀p:Nat,∃ts,ts≠[]∧(∀(X:List UInt8) (l:List Tok),stops qz X→zt X (p+(pe e).length) = .inl l→zt (pe e++X) p = .inl (ts++l)) ∧
 ∀(L:List Tok) (q:Nat) (v z:List Tok),L.drop q=v++(ts++z)→Wh v→Ez z→vp L+L.length≤9000 →
  C69 (L,(q:Int),())=some (e.1,e.2.1,e.2.2,true,L,((q+v.length+ts.length:Nat):Int),())
theorem v8c {m:Bx} (h:Mp m.1 m.2):k3i ([],false,[m]):=by
 intro p;obtain ⟨ts,n1,k1,k2⟩:=k9e h p;have e:pe ([],false,[m])=pb m:=j4w m;refine ⟨ts,n1.1,by rw [e];exact k1,fun L q v z hd hv hz hb => ?_⟩;have z1x:=v6o k2 n1 hd hv hz.dn hz.sk hb;show F69 wu j9k _=_;simp only [F69,z1x,Option.bind_some,cond_true]
theorem v1c {nm:List UInt8} {m:Bx} (hn:nm.all jc=true) (hne:nm≠[]) (h:Mp m.1 m.2):k3i (nm,false,[m]):=by
 intro p;obtain ⟨ts,n1,k1,k2⟩:=k9e h (p+(src 1 nm).length+1+1);have e:pe (nm,false,[m])=src 1 nm++32::60::(pb m++[62]):=by
  have:(nm==[])=false:=beq_eq_false_iff_ne.2 hne;simp [pe,this,j4w]
 have hlen:(pe (nm,false,[m])).length=(src 1 nm).length+1+1+(pb m).length+1:=by rw [e];simp;omega
 refine ⟨(1,nm,(p:Int))::(4,[32],((p+(src 1 nm).length:Nat):Int))::(2,[60],((p+(src 1 nm).length+1:Nat):Int))::(ts++[(2,[62],((p+(src 1 nm).length+1+1+(pb m).length:Nat):Int))]),by simp,?_,?_⟩
 · intro X l hX hl
   have e':pe (nm,false,[m])++X=src 1 nm++32::60::(pb m++62::X):=by rw [e];simp
   have g0:=q6u (p:=p+(src 1 nm).length+1+1+(pb m).length) s5.2.2.2.2 (X:=X) (l:=l) (by rw [←hl,hlen];congr 1;omega);have g1:=k1 _ _ (show stops qz (62::X) from s5.2.2.2.2.1) g0;have g2:=q6u s5.2.2.2.1 g1;have g3:=y8o ⟨60,_,rfl,(by kernel_rfl:js 60=false),rfl⟩ g2;have g4:=g5g hn g3;rw [e',g4];simp
 · intro L q v z hd hv hz hb
   have hd':L.drop q=v++(1,nm,(p:Int))::((4,[32],((p+(src 1 nm).length:Nat):Int))::(2,[60],((p+(src 1 nm).length+1:Nat):Int))::(ts++((2,[62],((p+(src 1 nm).length+1+1+(pb m).length:Nat):Int))::z))):=by rw [hd];simp
   have hp:=zp hd' (by simp);have hm:=b5p (nm:=nm) (a:=(p:Int)) (r:=(4,[32],((p+(src 1 nm).length:Nat):Int))::(2,[60],((p+(src 1 nm).length+1:Nat):Int))::(ts++((2,[62],((p+(src 1 nm).length+1+1+(pb m).length:Nat):Int))::z))) hv rfl;have j4t:=v6p L q (by omega) hb;rw [hd',hm] at j4t;dsimp only at j4t;have z1y:=k9f L q (by omega) hb;have hph:=g6n hd' hv (t:=(2,[60],((p+(src 1 nm).length+1:Nat):Int))) (r':=ts++((2,[62],((p+(src 1 nm).length+1+1+(pb m).length:Nat):Int))::z)) rfl rfl;have hsk:zn ((4,[32],((p+(src 1 nm).length:Nat):Int))::(2,[60],((p+(src 1 nm).length+1:Nat):Int))::(ts++((2,[62],((p+(src 1 nm).length+1+1+(pb m).length:Nat):Int))::z)))=1:=rfl;rw [hsk] at hph;rw [hph] at z1y;dsimp only at z1y;have d1:L.drop (q+v.length+1+1)=(2,[60],((p+(src 1 nm).length+1:Nat):Int))::(ts++((2,[62],((p+(src 1 nm).length+1+1+(pb m).length:Nat):Int))::z)):=xw (xw (zx hd'));have hp1:=zp d1 (by simp);have h60:isS [60] L (q+v.length+1+1)=true:=q1l d1;have h68:=c68 [60] L (q+v.length+1+1) (by omega);rw [h60] at h68;simp only [cond_true] at h68;have d2:=xw d1;have h143b:=v6p L (q+v.length+1+1+1) (by omega) hb;have hm2:=k2 [] ((2,[62],((p+(src 1 nm).length+1+1+(pb m).length:Nat):Int))::z) (fun x hx=>by cases hx) (q6t rfl);rw [d2,show ts++((2,[62],((p+(src 1 nm).length+1+1+(pb m).length:Nat):Int))::z)=[]++(ts++((2,[62],((p+(src 1 nm).length+1+1+(pb m).length:Nat):Int))::z)) from rfl,hm2] at h143b;dsimp only at h143b;rw [show ([]:List Tok).length+ts.length+zn ((2,[62],((p+(src 1 nm).length+1+1+(pb m).length:Nat):Int))::z)=ts.length by show 0+ts.length+0=_;omega] at h143b;have d3:L.drop (q+v.length+1+1+1+ts.length)=(2,[62],((p+(src 1 nm).length+1+1+(pb m).length:Nat):Int))::z:=zx d2;have hp3:=zp d3 (by simp);have h62:isS [62] L (q+v.length+1+1+1+ts.length)=true:=q1l d3;have h68b:=c68 [62] L (q+v.length+1+1+1+ts.length) (by omega);rw [h62] at h68b;simp only [cond_true] at h68b;have d4:=xw d3;have z9u:=v0u L (q+v.length+1+1+1+ts.length+1) (by omega) (by omega);rw [d4,hz.sk,Nat.add_zero] at z9u;have z1x:wu (L,(q:Int),())=some (nm,false,[m],true,L,((q+v.length+1+1+1+ts.length+1:Nat):Int),()):=by
    have hc:xl (nm,true,L,((q+v.length+1+1+1+ts.length+1:Nat):Int),[],false,m.1,m.2,())=some (true,L,((q+v.length+1+1+1+ts.length+1:Nat):Int),nm,false,[m],()):=by
     show q5b j5z q0p xj C68 _=_;simp only [q5b,z9u,Option.bind_some]
    show z3b j5z q0p xj C68 xl _=_;simp only [z3b,j4t,Option.bind_some,cond_false,z1y,h68,Bool.not_true,h143b,cond_true,h68b,hc]
   show F69 wu j9k _=_;simp only [F69,z1x,Option.bind_some,cond_true,List.length_cons,List.length_append,List.length_nil];congr 7;omega
theorem y7o {nm:List UInt8} {bs:List Bx} (hn:nm.all jc=true) (hne:nm≠[]) (hM:∀m∈bs,Mp m.1 m.2) (hbl:bs.length≤5000):k3i (nm,true,bs):=by
 intro p;have hb0:∃tb:List Tok,(∀(X:List UInt8) (l:List Tok),stops qz X→zt X (p+(src 1 nm).length+1+(jb bs).length) = .inl l→zt (jb bs++X) (p+(src 1 nm).length+1) = .inl (tb++l))∧(∀z n,zn (tb++(2,[59],n)::z)=0) ∧
  ∀(L:List Tok) (q:Nat) (z:List Tok) (n:Int),L.drop q=tb++(2,[59],n)::z→vp L+L.length≤9000 →
   q2d (!isS [59] L q,L,((q+(bif isS [59] L q then 1 else 0):Nat):Int),[],false,nm,true,[],())=some (.inl (L,((q+tb.length+1:Nat):Int),[],false,nm,true,bs,())):=by
  cases bs with
  | nil =>
   refine ⟨[],fun X l hX hl=>hl,fun z n=>rfl,fun L q z n h hb => ?_⟩;have h59:isS [59] L q=true:=q1l h;rw [h59];obtain ⟨k,hk⟩:∃k,je=k+1:=⟨je-1,by unfold je;omega⟩
   show qb (q0t wu q0p xj C68) je _=_;rw [hk];exact qe rfl
  | cons m bs =>
   obtain ⟨tb,j1,⟨t,r,rfl,ht1,ht2⟩,j0,j3⟩:=g4o (m::bs) (by simp) hM (p+(src 1 nm).length+1);refine ⟨t::r,j1,fun z n => ?_,fun L q z n h hb => ?_⟩
   · rw [List.cons_append]
     simp only [zn,ht1,cond_false]
   · have h59:isS [59] L q=false:=by
      rw [q1l h];have:(t.1==2)=false:=beq_eq_false_iff_ne.2 ht2;rw [this];rfl
     rw [h59];simp only [Bool.not_false,cond_false,Nat.add_zero];have:=j3 L q q [] [] z n je nm (.inl ⟨rfl,rfl⟩) h (fun x hx=>by cases hx) hb (by unfold je;omega) (by simp only [List.length_nil];omega);simp only [List.length_nil,Nat.add_zero,List.nil_append] at this;exact this
 obtain ⟨tb,j1,j2,j3⟩:=hb0;have e:pe (nm,true,bs)=src 1 nm++58::(jb bs++[59]):=by simp [pe]
 have hlen:(pe (nm,true,bs)).length=(src 1 nm).length+1+(jb bs).length+1:=by rw [e];simp;omega
 refine ⟨(1,nm,(p:Int))::(2,[58],((p+(src 1 nm).length:Nat):Int))::(tb++[(2,[59],((p+(src 1 nm).length+1+(jb bs).length:Nat):Int))]),by simp,?_,?_⟩
 · intro X l hX hl
   have e':pe (nm,true,bs)++X=src 1 nm++58::(jb bs++59::X):=by rw [e];simp
   have g0:=q6u (p:=p+(src 1 nm).length+1+(jb bs).length) s5.2.2.1 (X:=X) (l:=l) (by rw [←hl,hlen];congr 1;omega);have g1:=j1 _ _ (show stops qz (59::X) from s5.2.2.1.1) g0;have g2:=q6u s5.2.1 g1;have g4:=g5g hn g2;rw [e',g4];simp
 · intro L q v z hd hv hz hb
   generalize hn1:((p+(src 1 nm).length:Nat):Int)=n1 at hd;generalize hn2:((p+(src 1 nm).length+1+(jb bs).length:Nat):Int)=n2 at hd ⊢;have hd':L.drop q=v++(1,nm,(p:Int))::((2,[58],n1)::(tb++((2,[59],n2)::z))):=by rw [hd];simp
   have hp:=zp hd' (by simp);have hm:=b5p (nm:=nm) (a:=(p:Int)) (r:=(2,[58],n1)::(tb++((2,[59],n2)::z))) hv rfl;have j4t:=v6p L q (by omega) hb;rw [hd',hm] at j4t;dsimp only at j4t;have z1y:=k9f L q (by omega) hb;have hph:=g6n hd' hv (t:=(2,[58],n1)) (r':=tb++((2,[59],n2)::z)) rfl rfl;have hsk:zn ((2,[58],n1)::(tb++((2,[59],n2)::z)))=0:=rfl;rw [hsk] at hph;rw [hph] at z1y;dsimp only at z1y;rw [Nat.add_zero] at z1y;have d1:L.drop (q+v.length+1)=(2,[58],n1)::(tb++((2,[59],n2)::z)):=xw (zx hd');have hp1:=zp d1 (by simp);have h60:isS [60] L (q+v.length+1)=false:=q1l d1;have h68:=c68 [60] L (q+v.length+1) (by omega);rw [h60] at h68;simp only [cond_false,Nat.add_zero] at h68;have h58:isS [58] L (q+v.length+1)=true:=q1l d1;have h68b:=c68 [58] L (q+v.length+1) (by omega);rw [h58] at h68b;simp only [cond_true] at h68b;have d2:=xw d1;have z9u:=v0u L (q+v.length+1+1) (by omega) (by omega);rw [d2,j2,Nat.add_zero] at z9u;have h68c:=c68 [59] L (q+v.length+1+1) (by omega);have hl0:=j3 L (q+v.length+1+1) z n2 d2 hb;have d3:L.drop (q+v.length+1+1+tb.length+1)=z:=xw (zx d2);have hp3:=zp (zx d2) (by simp);have h145b:=v0u L (q+v.length+1+1+tb.length+1) (by omega) (by omega);rw [d3,hz.sk,Nat.add_zero] at h145b;have hnb:(nm==[])=false:=beq_eq_false_iff_ne.2 hne;have z1x:wu (L,(q:Int),())=some ([],false,[],false,L,((q+v.length+1:Nat):Int),()):=by
    show z3b j5z q0p xj C68 xl _=_;simp only [z3b,j4t,Option.bind_some,cond_false,z1y,h68,Bool.not_false,cond_true]
   have f3d:j9k (L,(q:Int),())=some (nm,true,bs,true,L,((q+v.length+1+1+tb.length+1:Nat):Int),()):=by
    show x7y wu q0p xj C68 q2d _=_;simp only [x7y,z1y,Option.bind_some,hnb,cond_false,h68b,Bool.not_true,z9u,h68c,hl0,Sum.elim_inl,h145b]
   show F69 wu j9k _=_;simp only [F69,z1x,Option.bind_some,cond_false,f3d,cond_true,List.length_cons,List.length_append,List.length_nil];congr 7;omega
theorem b5a {e:En} (h:Re e) (hl:e.2.2.length≤5000):k3i e:=by
 obtain ⟨nm,g,bs⟩:=e;cases g with
 | true=>exact y7o h.nm (h.gr rfl) h.mp hl
 | false =>
  obtain ⟨m,hm⟩:=h.bx rfl;dsimp only at hm;subst hm;have hM:=h.mp m List.mem_cons_self;by_cases hn:nm=[]
  · subst hn;exact v8c hM
  · exact v1c h.nm hn hM
theorem g4t {e:En} (h:Re e) (X:List UInt8):Hd (pe e++X):=by
 obtain ⟨nm,g,bs⟩:=e;have hk:=g4u;simp only [Bool.or_eq_false_iff] at hk;cases g with
 | true=>exact ⟨34,_,by simp only [pe,cond_true,y9l];rfl,hk.1,rfl⟩
 | false =>
  obtain ⟨m,hm⟩:=h.bx rfl;dsimp only at hm;subst hm;have hM:=h.mp m List.mem_cons_self;by_cases hn:nm=[]
  · subst hn
    have e:pe ([],false,[m])=pb m:=j4w m;rw [e];exact v8l hM X
  · have:(nm==[])=false:=beq_eq_false_iff_ne.2 hn
    exact ⟨34,_,by simp only [pe,cond_false,this,y9l];rfl,hk.1,rfl⟩
def jl (es:List En):List UInt8:=Lib.join (es.map pe) [44,32]
theorem z9x (m m':En) (bs:List En):jl (m::m'::bs)=pe m++44::32::jl (m'::bs):=by
 simp [jl,Lib.join,List.intercalate,List.intersperse]
theorem y7w (m:En):jl [m]=pe m:=Lib.join_one _ _
theorem b5d {m:En} {bs:List En} (h:Re m):Hd (jl (m::bs)):=by
 cases bs with
 | nil=>rw [y7w,←List.append_nil (pe m)];exact g4t h []
 | cons m' bs=>rw [z9x];exact g4t h _
theorem g5h (A) (B) (C):∀(es:List En),es≠[]→(∀e∈es,Re e∧e.2.2.length≤5000)→∀p:Nat,∃tl:List Tok,zt (jl es) p = .inl tl ∧
 ∀(x0 L:List Tok) (q:Nat) (acc:List En) (v:List Tok) (k:Nat),L.drop q=v++tl→Wh v→vp L+L.length≤9000→es.length<k→acc.length+es.length≤90000 →
  qb (q3t C31 C67 C68 C69 C70) k (x0,true,A,B,C,L,(q:Int),acc,())=some (.inl (x0,A,B,C,L,(L.length:Int),acc++es,()))
 | [],h,_,_=>(h rfl).elim
 | [e],_,hR,p=>by
  obtain ⟨h1,h2⟩:=hR e List.mem_cons_self;obtain ⟨ts,hne,k1,k2⟩:=b5a h1 h2 p;have hx:=k1 [] [] trivial (j2x _);rw [List.append_nil,List.append_nil] at hx;refine ⟨ts,by rw [y7w];exact hx,fun x0 L q acc v k h hv hb hk ha => ?_⟩;have h':L.drop q=v++(ts++[]):=by rw [h,List.append_nil]
  have hp:=zp h' (by simp [hne]);have h69:=k2 L q v [] h' hv (.inl rfl) hb;have hd:L.drop (q+v.length+ts.length)=[]:=zx (zx h');have hll:q+v.length+ts.length=L.length:=by
   have:=congrArg List.length h';simp only [List.length_drop,List.length_append,List.length_nil] at this;omega
  have h68:=c68 [44] L (q+v.length+ts.length) (by omega);rw [w1s hd] at h68;simp only [cond_false,Nat.add_zero] at h68;simp only [List.length_cons,List.length_nil] at hk ha;obtain ⟨k,rfl⟩:∃k',k=k'+2:=⟨k-2,by omega⟩
  rw [qy (v':=(x0,false,A,B,C,L,((q+v.length+ts.length:Nat):Int),acc++[e],())) ?_]
  · refine qe ?_
    simp only [q3t,cond_false,hll]
  · simp only [q3t,cond_true,h69,Option.bind_some,Bool.not_true,cond_false]
    rw [decide_eq_true (by simp only [List.length_cons,List.length_nil];omega)];simp only [cond_true,h68,Option.bind_some]
 | e::e'::es,_,hR,p=>by
  obtain ⟨h1,h2⟩:=hR e List.mem_cons_self;obtain ⟨ts,hne,k1,k2⟩:=b5a h1 h2 p;obtain ⟨tl,j1,j2⟩:=g5h A B C (e'::es) (by simp) (fun x hx=>hR x (List.mem_cons_of_mem _ hx)) (p+(pe e).length+1+1);have g2:=y8o (b5d (hR e' (List.mem_cons_of_mem _ List.mem_cons_self)).1) j1;have g3:=q6u s5.1 g2;have g4:=k1 _ _ (show stops qz (44::_) from s5.1.1) g3;refine ⟨_,by rw [z9x];exact g4,fun x0 L q acc v k h hv hb hk ha => ?_⟩;have hp:=zp h (by simp);have h69:=k2 L q v _ h hv (.inr ⟨_,_,rfl⟩) hb;have hd:=zx (zx h);have hp2:=zp hd (by simp);have h44:isS [44] L (q+v.length+ts.length)=true:=q1l hd;have h68:=c68 [44] L (q+v.length+ts.length) (by omega);rw [h44] at h68;simp only [cond_true] at h68;simp only [List.length_cons] at hk ha;obtain ⟨k,rfl⟩:∃k',k=k'+1:=⟨k-1,by omega⟩
  rw [qy (v':=(x0,true,A,B,C,L,((q+v.length+ts.length+1:Nat):Int),acc++[e],())) ?_]
  · have:=j2 x0 L (q+v.length+ts.length+1) (acc++[e]) [(4,[32],((p+(pe e).length+1:Nat):Int))] k (xw hd) (fun x hx=>by rw [List.mem_singleton] at hx;subst hx;rfl) hb (by simp only [List.length_cons];omega) (by simp only [jv];omega)
    rw [this,List.append_assoc];rfl
  · simp only [q3t,cond_true,h69,Option.bind_some,Bool.not_true,cond_false]
    rw [decide_eq_true (by simp only [List.length_cons,List.length_nil];omega)];simp only [cond_true,h68,Option.bind_some]
theorem x6z {a:List UInt8} (h:Val a):Val (src 1 a):=by
 have e:src 1 a=[]++34::(esc a++34::[]):=by simp [src]
 rw [e];refine Val.glue (by decide) .nil (Val.glue (by decide) ?_ .nil);have:=j9h a [] (by simpa using h);simpa using this
theorem k2r {m:Bx} (h:Mp m.1 m.2):Val (pb m):=by
 have e:pb m=lcl m.1++64::m.2:=by simp [pb]
 rw [e];exact Val.glue (by decide) h.vl h.vb
theorem k2p:∀bs:List Bx,(∀m∈bs,Mp m.1 m.2)→Val (jb bs)
 | [],_ => .nil
 | [m],h=>by rw [j4w];exact k2r (h m List.mem_cons_self)
 | m::m'::bs,h=>by
  rw [j9e];exact Val.glue (by decide) (k2r (h m List.mem_cons_self)) ((Val.one (by decide)).app (k2p (m'::bs) fun x hx=>h x (List.mem_cons_of_mem _ hx)))
theorem k2s {e:En} (h:Re e) (hv:Val e.1):Val (pe e):=by
 obtain ⟨nm,g,bs⟩:=e;have hj:=k2p bs h.mp;cases g with
 | true =>
  have e:pe (nm,true,bs)=src 1 nm++58::(jb bs++59::[]):=by simp [pe]
  rw [e];exact Val.glue (by decide) (x6z hv) (Val.glue (by decide) hj .nil)
 | false =>
  by_cases hn:nm=[]
  · subst hn;exact hj
  · have:(nm==[])=false:=beq_eq_false_iff_ne.2 hn
    have e:pe (nm,false,bs)=src 1 nm++32::([]++60::(jb bs++62::[])):=by simp [pe,this]
    rw [e];exact Val.glue (by decide) (x6z hv) (Val.glue (by decide) .nil (Val.glue (by decide) hj .nil))
theorem k2q:∀es:List En,(∀e∈es,Re e∧Val e.1)→Val (jl es)
 | [],_ => .nil
 | [m],h=>by rw [y7w];exact k2s (h m List.mem_cons_self).1 (h m List.mem_cons_self).2
 | m::m'::bs,h=>by
  rw [z9x];exact Val.glue (by decide) (k2s (h m List.mem_cons_self).1 (h m List.mem_cons_self).2) ((Val.one (by decide)).app (k2q (m'::bs) fun x hx=>h x (List.mem_cons_of_mem _ hx)))
theorem v9y {s:List UInt8} {l:List Tok} (h:zt s 0 = .inl l):vp l≤s.length∧l.length≤s.length:=y0a _ s 0 l (Nat.le_refl _) h
theorem b5l {A B C} (es:List En) (hne:es≠[]) (hR:∀e∈es,Re e∧Val e.1∧e.2.2.length≤5000) (hl:es.length≤5000) (hbx:(es.flatMap fun x=>x.2.2).length≤100000) (h70:C70 (A,B,C,es.flatMap fun x=>x.2.2,())=some (0,())) :
 C30 (A,B,C,jl es,())=some (if 2000<(jl es).length then ([],5,()) else (es,0,())):=by
 have h67:=c11 (jl es);by_cases h2:2000<(jl es).length
 · have hR:q4l (jl es)=([],0,5):=by unfold q4l;rw [if_pos h2]
   rw [hR] at h67;dsimp only at h67;rw [if_pos h2];show F30 C31 C67 C68 C69 C70 q3q _=_;simp only [F30,h67,Option.bind_some];rfl
 · obtain ⟨tl,j1,j2⟩:=g5h A B C es hne (fun e he=>⟨(hR e he).1,(hR e he).2.2⟩) 0
   have hz:=v9y j1;have hv:Val (jl es):=k2q es fun e he=>⟨(hR e he).1,(hR e he).2.1⟩
   have hX:q4l (jl es)=(tl,0,0):=by
    unfold q4l;rw [if_neg h2,(q7b (by omega)).2 hv,j1];rfl
   rw [hX] at h67;dsimp only at h67;have hl0:q3q (tl,true,A,B,C,tl,0,[],())=_:=j2 tl tl 0 [] [] je rfl (fun x hx=>by cases hx) (by omega) (by unfold je;omega) (by simp only [List.length_nil];omega);rw [List.nil_append] at hl0;rw [if_neg h2];show F30 C31 C67 C68 C69 C70 q3q _=_;simp only [F30,h67,Option.bind_some,inF (rfl:(0:Int)=0),cond_false,hl0,Sum.elim_inl,v6r es (by omega) hbx,h70];rw [decide_eq_false (by omega)];rfl
theorem x5o (n:Nat):∀xs:List (List UInt8),(∀x∈xs,x.length≤n)→Lib.lens xs≤n*xs.length
 | [],_=>Nat.zero_le _
 | x::xs,h=>by
  have h1:=x5o n xs fun y hy=>h y (List.mem_cons_of_mem _ hy);have h2:=h x List.mem_cons_self;simp only [Lib.lens,List.map_cons,List.sum_cons,List.length_cons] at h1 ⊢;rw [Nat.mul_add,Nat.mul_one];omega
theorem x5l (n:Nat) (xs:List (List UInt8)) (h:∀x∈xs,x.length≤n):(Lib.join xs [44,32]).length≤(n+2)*xs.length:=by
 cases xs with
 | nil=>exact Nat.zero_le _
 | cons x r =>
  have h1:=x5o n (x::r) h;rw [Lib.join_length];simp only [List.length_cons,List.length_nil] at h1 ⊢;rw [Nat.add_mul n 2];omega
theorem c73 (n:Nat) (xs:List (List UInt8)) (h:∀x∈xs,x.length≤n) (hn:(n+2)*xs.length≤100000000000) (hx:xs.length≤100000000000):C73 (xs,[44,32],())=some (Lib.join xs [44,32],()):=by
 have hj:=x5l n xs h;show q1c _=_;unfold q1c;dsimp only;rw [decide_eq_true (by omega),decide_eq_true (by omega)];rfl
section
variable (P:Bx→List UInt8)
def jbP (bs:List Bx):List UInt8:=Lib.join (bs.map P) [44,32]
def peP (e:En):List UInt8:=bif e.2.1 then src 1 e.1++[58]++jbP P e.2.2++[59] else bif e.1==[] then jbP P e.2.2 else src 1 e.1++[32,60]++jbP P e.2.2++[62]
theorem c72 (nm:List UInt8) (g:Bool) (bs:List Bx) (h:∀m∈bs,C45 (m.1,m.2,())=some (P m,())∧(P m).length≤4000) (hb:bs.length≤3000) (hn:nm.length≤3000):C72 (nm,g,bs,())=some (peP P (nm,g,bs),())∧(peP P (nm,g,bs)).length≤13000000:=by
 have hl:Df (z0b (bs,(bs.length:Int),0,nm,g,bs,[],())) (fun y=>y=(nm,g,bs,bs.map P,())):=by
  refine dL ?I ?m ?h _ ?hv ?hn
  case I=>exact (fun v=>∃k:Int,0≤k∧k≤bs.length∧v=(bs,(bs.length:Int),k,nm,g,bs,(bs.take k.toNat).map P,()))
  case m=>exact (fun v=>(bs.length-v.2.2.1).toNat)
  case hv=>exact ⟨0,Int.le_refl _,by omega,rfl⟩
  case hn=>exact (by (try dsimp only);omega)
  rintro v ⟨k,h0,h1,rfl⟩;unfold y6m;dsimp only;with_reducible repeat' (first|apply dP|apply dX<;>intro _)
  · have hlt:k.toNat<bs.length:=by omega
    obtain ⟨h2,h3⟩:=h bs[k.toNat] (List.getElem_mem hlt);rw [getD_lt hlt,h2];simp only [Option.bind_some];rw [qh (n:=k+1) (by omega)];with_reducible repeat' (first|apply dP|apply dX<;>intro _)
    · refine ⟨⟨k+1,by omega,by omega,?_⟩,by (try dsimp only);omega⟩
      rw [show (k+1).toNat=k.toNat+1 by omega,qg hlt,List.map_append];rfl
    · rename_i hc
      refine dO (hc ?_);simp only [List.length_map,List.length_take,List.length_cons,List.length_nil];omega
  · refine dO ?_;omega
  · rw [List.take_of_length_le (by omega)]
    exact rfl
 obtain ⟨y,hy,rfl⟩:=hl;have hmap:∀x∈bs.map P,x.length≤4000:=fun x hx=>by
  obtain ⟨m,hm,rfl⟩:=List.mem_map.1 hx;exact (h m hm).2
 have hjl:=x5l 4000 (bs.map P) hmap;rw [List.length_map] at hjl;have h73:=c73 4000 (bs.map P) hmap (by rw [List.length_map];omega) (by rw [List.length_map];omega);have h89:=c9 1 nm 0 (by omega);have hsl:(src 1 nm).length≤6002:=by
  have:=q2o nm;rw [y9l];simp only [jv];omega
 constructor
 · show F72 C45 C73 C89 z0b _=_
   simp only [F72,hy,Option.bind_some,h89,h73];unfold peP jbP;dsimp only;generalize Lib.join (bs.map P) [44,32]=J at hjl;cases g with
   | true =>
    simp only [cond_true];rw [decide_eq_true (by simp only [List.length_cons,List.length_nil];omega),decide_eq_true (by simp only [jv];omega),decide_eq_true (by simp only [jv];omega)];rfl
   | false =>
    simp only [cond_false];cases (nm==[]) with
    | true=>rfl
    | false =>
     simp only [Bool.not_false,cond_true,cond_false];rw [decide_eq_true (by simp only [List.length_cons,List.length_nil];omega),decide_eq_true (by simp only [jv];omega),decide_eq_true (by simp only [jv];omega)];rfl
 · unfold peP jbP
   dsimp only;generalize Lib.join (bs.map P) [44,32]=J at hjl;cases g<;>cases (nm==[])<;>simp only [cond_true,cond_false,jv]<;>omega
theorem c34 (es:List En) (h:∀e∈es,(∀m∈e.2.2,C45 (m.1,m.2,())=some (P m,())∧(P m).length≤4000)∧e.2.2.length≤3000∧e.1.length≤3000) (hl:es.length≤3000):C34 (es,())=some (Lib.join (es.map (peP P)) [44,32],()):=by
 have hlp:Df (j9x (es,(es.length:Int),0,[],())) (fun y=>y=(es.map (peP P),())):=by
  refine dL ?I ?m ?h _ ?hv ?hn
  case I=>exact (fun v=>∃k:Int,0≤k∧k≤es.length∧v=(es,(es.length:Int),k,(es.take k.toNat).map (peP P),()))
  case m=>exact (fun v=>(es.length-v.2.2.1).toNat)
  case hv=>exact ⟨0,Int.le_refl _,by omega,rfl⟩
  case hn=>exact (by (try dsimp only);omega)
  rintro v ⟨k,h0,h1,rfl⟩;unfold y6i;dsimp only;with_reducible repeat' (first|apply dP|apply dX<;>intro _)
  · have hlt:k.toNat<es.length:=by omega
    obtain ⟨h2,h3,h4⟩:=h es[k.toNat] (List.getElem_mem hlt);rw [getD_lt hlt,(c72 P _ _ _ h2 h3 h4).1];simp only [Option.bind_some];rw [qh (n:=k+1) (by omega)];with_reducible repeat' (first|apply dP|apply dX<;>intro _)
    · refine ⟨⟨k+1,by omega,by omega,?_⟩,by (try dsimp only);omega⟩
      rw [show (k+1).toNat=k.toNat+1 by omega,qg hlt,List.map_append];rfl
    · rename_i hc
      refine dO (hc ?_);simp only [List.length_map,List.length_take,List.length_cons,List.length_nil];omega
  · refine dO ?_;omega
  · rw [List.take_of_length_le (by omega)]
    exact rfl
 obtain ⟨y,hy,rfl⟩:=hlp;have hmap:∀x∈es.map (peP P),x.length≤13000000:=fun x hx=>by
  obtain ⟨m,hm,rfl⟩:=List.mem_map.1 hx;obtain ⟨h2,h3,h4⟩:=h m hm;exact (c72 P m.1 m.2.1 m.2.2 h2 h3 h4).2
 have h73:=c73 13000000 (es.map (peP P)) hmap (by rw [List.length_map];omega) (by rw [List.length_map];omega);show F34 C72 C73 j9x _=_;simp only [F34,hy,Option.bind_some,h73]
end
theorem f6k {m:Bx} (h:Mp m.1 m.2) (hb:m.2.length≤3000):(pb m).length≤4000:=by
 have:=h.ln;simp only [pb,jv];omega
theorem b3r (es:List En) (h:∀e∈es,Re e∧(∀m∈e.2.2,m.2.length≤3000)∧e.2.2.length≤3000∧e.1.length≤3000) (hl:es.length≤3000):C34 (es,())=some (jl es,()) :=
 c34 pb es (fun e he=>⟨fun m hm=>⟨((h e he).1.mp m hm).pr,f6k ((h e he).1.mp m hm) ((h e he).2.1 m hm)⟩,(h e he).2.2.1,(h e he).2.2.2⟩) hl
theorem d6h (es:List En) (h:∀e∈es,(∀m∈e.2.2,m.1.length≤150∧m.2.length≤200)∧e.2.2.length≤3000∧e.1.length≤3000) (hl:es.length≤3000):∃s,C34 (es,())=some (s,()):=by
 refine ⟨_,c34 (fun m=>match C45 (m.1,m.2,()) with|some (r,_)=>r|none=>[]) es (fun e he=>⟨fun m hm => ?_,(h e he).2.1,(h e he).2.2⟩) hl⟩;obtain ⟨h1,h2⟩:=(h e he).1 m hm;obtain ⟨⟨r,u⟩,h45,h3,h4⟩:=d45 m.1 m.2 (by omega) (by omega);dsimp only at h4;rw [h45];exact ⟨rfl,by (try dsimp only);omega⟩
def Sp (e:En):Prop:=(e.2.1=true→e.1≠[])∧(e.2.1=false→e.2.2.length=1)
theorem p75 (nm:List UInt8) (g:Bool) (bs:List Bx):Pf (C75 (nm,g,bs,())) (fun y=>y.1=false→Sp (nm,g,bs)):=by
 unfold C75 F75;dsimp only;cases g with
 | true =>
  simp only [cond_true,Bool.not_true,cond_false];with_reducible repeat' (first|exact pN|apply pP|apply pX<;>intro _)
  · exact fun h=>by cases h
  · rename_i h
    exact fun _=>⟨fun _=>by simpa using h,fun h=>by cases h⟩
 | false =>
  simp only [cond_false,Bool.not_false,cond_true];refine pP fun h=>⟨fun h=>(by cases h),fun _ => ?_⟩
  dsimp only at h;by_cases h1:(bs.length:Int)=1
  · exact_mod_cast h1
  · rw [ibF h1] at h;cases h
theorem p76 (nm:List UInt8) (g:Bool) (bs:List Bx) (hn:nm.length≤100000):Pf (C76 (nm,g,bs,())) (fun y=>y.1=false→utf nm=none):=by
 unfold C76 F76;dsimp only;refine pZ (f6i nm (by omega)) ?_;rintro ⟨o,a,u⟩ h;refine pP fun hb=>h ?_;dsimp only at hb ⊢;simp only [decide_eq_false_iff_not] at hb;omega
theorem m2g (x:Int):Pf (j5y (x,())) (fun y=>y.1=false→x=9∨(32≤x∧x≠127)):=by
 unfold j5y x7z;dsimp only;with_reducible repeat' (first|exact pN|apply pP|apply pX<;>intro _)
 · exact fun h=>by cases h
 · rename_i h1 h2
   intro h;have h':(x==127)=false:=h;have:x≠127:=by simpa using h'
   exact .inr ⟨by omega,this⟩
 · rename_i h
   exact fun _ => .inl h
theorem f5p (s:List UInt8) (hs:s.length≤1000000000000000):Pf (q2h (s,true,())) (fun y=>y.1<0→s.all jc=true):=by
 unfold q2h z0g;dsimp only;refine pZ (P:=Sum.elim (fun y=>0≤y.1) (fun _=>s.all jc=true)) ?_ ?_
 · refine pL ?I ?h _ ?hv
   case I=>exact (fun v=>∃p:Nat,v=(true,(s,(p:Int)),())∧∀i,i<p→i<s.length→jc (s.getD i 0)=true)
   case hv=>exact ⟨0,rfl,fun i h=>by omega⟩
   rintro v ⟨p,rfl,h1⟩;unfold q1p;dsimp only;simp only [Int.toNat_natCast];with_reducible repeat' (first|exact pN|apply pP|apply pX<;>intro _)
   · rename_i hp
     refine pZ (m2g _) ?_;rintro ⟨b,u⟩ hb;dsimp only at hb ⊢;cases b with
     | true=>exact pP (by show (0:Int)≤(p:Int);omega)
     | false =>
      refine pP ⟨_,rfl,fun i hi hil => ?_⟩;by_cases hip:i<p
      · exact h1 i hip hil
      · by_cases he:i=p
        · subst he
          have hb':=hb rfl;by_cases hlo:s[i].toNat<128
          · rw [q6s hp hlo] at hb'
            dsimp only at hb';rw [getD_lt hil,←q4f];unfold q4e;rcases hb' with hb'|hb'
            · rw [decide_eq_true (show s[i].toNat=9 by omega)];rfl
            · rw [decide_eq_true (show 32≤s[i].toNat by omega),decide_eq_false (show ¬s[i].toNat=127 by omega)];simp
          · rw [getD_lt hil]
            exact j9d (by omega)
        · have:=z4q s p (i-p) (by omega) (by omega)
          rw [show p+(i-p)=i by omega] at this;exact j9d this
   · rename_i hp
     show s.all jc=true;rw [List.all_eq_true];intro c hc;obtain ⟨i,hi,rfl⟩:=List.mem_iff_getElem.1 hc;have:=h1 i (by omega) hi;rw [getD_lt hi] at this;exact this
 · intro z hz
   refine pS hz ?_ ?_
   · rintro ⟨a,u⟩ h
     exact pP fun hn=>by
      have h':0≤a:=h;have hn':a<0:=hn;omega
   · intro u h
     exact pP fun _=>h
theorem p77 (nm:List UInt8) (g:Bool) (bs:List Bx) (hn:nm.length≤100000):Pf (C77 (nm,g,bs,())) (fun y=>y.1=false→nm.all jc=true):=by
 unfold C77 F77;dsimp only;refine pZ (P:=fun y=>y.1=false→nm.all jc=true) ?_ fun _ h=>pP h;unfold z3u y1u;dsimp only;refine pZ (P:=fun y=>y.1<0→nm.all jc=true) ?_ ?_
 · unfold j3r z0f
   dsimp only;exact pZ (f5p nm (by omega)) fun _ h=>pP h
 · rintro ⟨a,u⟩ h
   refine pP fun hb=>h ?_;dsimp only at hb ⊢;simp only [decide_eq_false_iff_not] at hb;omega
theorem z9r {F:List En×Int×Int×Unit→Option ((List En×Int×Int×Unit)⊕(Unit⊕(Int×Unit)))} {Q:En→Prop} {t:En→Option (Bool×Unit)} (L:List En) (hl:L.length≤1000000)
 (hF:∀(k:Int),F (L,(L.length:Int),k,())=bif decide (k<L.length) then (bif decide (0≤k)&&decide (k<(L.length:Int)) then ((t (L.getD k.toNat ([],(false,[])))).bind fun val=>bif val.1 then some (Sum.inr (Sum.inr (k,()))) else some (Sum.inl (L,(L.length:Int),IntKind.i64.wrap (k+1),()))) else none) else some (Sum.inr (Sum.inl ())))
 (ht:∀e∈L,Pf (t e) (fun y=>y.1=false→Q e)):Pf (qb F je (L,(L.length:Int),0,())) (Sum.elim (fun _=>∀e∈L,Q e) (fun y=>0≤y.1)):=by
 refine pL ?I ?h _ ?hv
 case I=>exact (fun v=>∃k:Int,0≤k∧k≤L.length∧(∀e∈L.take k.toNat,Q e)∧v=(L,(L.length:Int),k,()))
 case hv=>exact ⟨0,Int.le_refl _,by omega,fun e he=>(by cases he),rfl⟩
 rintro v ⟨k,h0,h1,h2,rfl⟩;rw [hF];with_reducible repeat' (first|exact pN|apply pP|apply pX<;>intro _)
 · have hlt:k.toNat<L.length:=by omega
   rw [getD_lt hlt];refine pZ (ht _ (List.getElem_mem hlt)) ?_;rintro ⟨b,u⟩ hb;dsimp only at hb ⊢;with_reducible repeat' (first|exact pN|apply pP|apply pX<;>intro _)
   · exact h0
   · rename_i hbf
     rw [qh (n:=k+1) (by omega)];refine ⟨_,by omega,by omega,fun e he => ?_,rfl⟩;rw [show (k+1).toNat=k.toNat+1 by omega,qg hlt] at he;rcases List.mem_append.1 he with he|he
     · exact h2 e he
     · rw [List.mem_singleton] at he
       subst he;exact hb hbf
 · rw [List.take_of_length_le (by omega)] at h2
   exact h2
theorem p74 (L:List En) (hl:L.length≤1000000):Pf (C74 (L,())) (fun y=>y.1=false→∀e∈L,Sp e):=by
 unfold C74 F74;dsimp only;refine pZ (P:=fun y=>y.1<0→∀e∈L,Sp e) ?_ ?_
 · unfold x7f v4q
   dsimp only;refine pZ (z9r (t:=fun e=>C75 (e.1,e.2.1,e.2.2,())) L hl (fun k=>rfl) (fun e _=>p75 _ _ _)) ?_;intro z hz;refine pS hz (fun _ h=>pP fun _=>h) ?_;rintro ⟨a,u⟩ h;exact pP fun hn=>by
    have h':0≤a:=h;have hn':a<0:=hn;omega
 · rintro ⟨a,u⟩ h
   refine pP fun hb=>h ?_;dsimp only at hb ⊢;simp only [decide_eq_false_iff_not] at hb;omega
theorem d0p (L:List En) (hl:L.length≤1000000) (hn:∀e∈L,e.1.length≤100000):Pf (wv (L,())) (fun y=>y.1=false→∀e∈L,utf e.1=none):=by
 unfold wv y1s;dsimp only;refine pZ (P:=fun y=>y.1<0→∀e∈L,utf e.1=none) ?_ ?_
 · unfold j3n z0d
   dsimp only;refine pZ (z9r (t:=fun e=>C76 (e.1,e.2.1,e.2.2,())) L hl (fun k=>rfl) (fun e he=>p76 _ _ _ (hn e he))) ?_;intro z hz;refine pS hz (fun _ h=>pP fun _=>h) ?_;rintro ⟨a,u⟩ h;exact pP fun hn=>by
    have h':0≤a:=h;have hn':a<0:=hn;omega
 · rintro ⟨a,u⟩ h
   refine pP fun hb=>h ?_;dsimp only at hb ⊢;simp only [decide_eq_false_iff_not] at hb;omega
theorem d0q (L:List En) (hl:L.length≤1000000) (hn:∀e∈L,e.1.length≤100000):Pf (ww (L,())) (fun y=>y.1=false→∀e∈L,e.1.all jc=true):=by
 unfold ww y1t;dsimp only;refine pZ (P:=fun y=>y.1<0→∀e∈L,e.1.all jc=true) ?_ ?_
 · unfold j3p z0e
   dsimp only;refine pZ (z9r (t:=fun e=>C77 (e.1,e.2.1,e.2.2,())) L hl (fun k=>rfl) (fun e he=>p77 _ _ _ (hn e he))) ?_;intro z hz;refine pS hz (fun _ h=>pP fun _=>h) ?_;rintro ⟨a,u⟩ h;exact pP fun hn=>by
    have h':0≤a:=h;have hn':a<0:=hn;omega
 · rintro ⟨a,u⟩ h
   refine pP fun hb=>h ?_;dsimp only at hb ⊢;simp only [decide_eq_false_iff_not] at hb;omega
section
variable {T:List R6} {A:List R4} {B:List R3}
theorem p70 (bs:List Bx):Pf (C70 (T,A,B,bs,())) (fun y=>y.1=0→bs.length≤100∧∀m∈bs,C44 (T,A,B,m.1,m.2,())=some (0,())):=by
 unfold C70 F70;dsimp only;with_reducible repeat' (first|exact pN|apply pP|apply pX<;>intro _)
 · exact fun h=>by cases h
 · rename_i hl
   refine pZ (P:=Sum.elim (fun _=>∀m∈bs,C44 (T,A,B,m.1,m.2,())=some (0,())) (fun y=>y.1≠0)) ?_ ?_
   · refine pL ?I ?h _ ?hv
     case I=>exact (fun v=>∃k:Int,0≤k∧k≤bs.length∧(∀m∈bs.take k.toNat,C44 (T,A,B,m.1,m.2,())=some (0,()))∧v=(bs,(bs.length:Int),k,T,A,B,()))
     case hv=>exact ⟨0,Int.le_refl _,by omega,fun e he=>(by cases he),rfl⟩
     rintro v ⟨k,h0,h1,h2,rfl⟩;unfold z8h;dsimp only;with_reducible repeat' (first|exact pN|apply pP|apply pX<;>intro _)
     · have hlt:k.toNat<bs.length:=by omega
       rw [getD_lt hlt];refine pZ (P:=fun y=>C44 (T,A,B,bs[k.toNat].1,bs[k.toNat].2,())=some (y.1,())) (fun y e=>by rw [e]) ?_;rintro ⟨e,u⟩ h44;dsimp only at h44 ⊢;with_reducible repeat' (first|exact pN|apply pP|apply pX<;>intro _)
       · assumption
       · rename_i he
         have he':e=0:=he;subst he';rw [qh (n:=k+1) (by omega)];refine ⟨_,by omega,by omega,fun m hm => ?_,rfl⟩;rw [show (k+1).toNat=k.toNat+1 by omega,qg hlt] at hm;rcases List.mem_append.1 hm with hm|hm
         · exact h2 m hm
         · rw [List.mem_singleton] at hm
           subst hm;exact h44
     · rw [List.take_of_length_le (by omega)] at h2
       exact h2
   · intro z hz
     refine pS hz (fun _ h=>pP fun _=>⟨by omega,h⟩) ?_;rintro ⟨e,u⟩ h;exact pP fun h0=>(h h0).elim
theorem p35 (L:List En) (hl:L.length≤100000) (hn:∀e∈L,e.1.length≤100000) (hb:(L.flatMap fun x=>x.2.2).length≤100000):Pf (C35 (T,A,B,L,())) (fun y=>y.1=0→L≠[]∧(∀e∈L,Sp e∧utf e.1=none∧e.1.all jc=true)∧C70 (T,A,B,L.flatMap fun x=>x.2.2,())=some (0,())):=by
 unfold C35 F35;dsimp only;with_reducible repeat' (first|exact pN|apply pP|apply pX<;>intro _)
 · rw [show q7q (L,true,T,A,B,())=some (.inl (1,())) from rfl]
   exact pP fun h=>by cases h
 · rename_i hne
   have hne':L≠[]:=fun e=>by subst e;exact hne rfl
   refine pZ (p74 L (by omega)) ?_;rintro ⟨b,u⟩ h1;dsimp only at h1 ⊢;refine pZ (P:=Sum.elim (fun y=>y.1≠0) (fun y=>y=(L,T,A,B,())∧∀e∈L,Sp e∧utf e.1=none∧e.1.all jc=true)) ?_ ?_
   · unfold q7q z0i
     dsimp only;with_reducible repeat' (first|exact pN|apply pP|apply pX<;>intro _)
     · exact (by decide:(1:Int)≠0)
     · rename_i hb
       refine pZ (d0p L (by omega) hn) ?_;rintro ⟨b2,u⟩ h2;dsimp only at h2 ⊢;with_reducible repeat' (first|exact pN|apply pP|apply pX<;>intro _)
       · exact (by decide:(7:Int)≠0)
       · rename_i hb2
         refine pZ (d0q L (by omega) hn) ?_;rintro ⟨b3,u⟩ h3;dsimp only at h3 ⊢;with_reducible repeat' (first|exact pN|apply pP|apply pX<;>intro _)
         · exact (by decide:(8:Int)≠0)
         · rename_i hb3
           exact ⟨rfl,fun e he=>⟨h1 hb e he,h2 hb2 e he,h3 hb3 e he⟩⟩
   · intro z hz
     refine pS hz ?_ ?_
     · rintro ⟨e,u⟩ h
       exact pP fun h0=>(h h0).elim
     · rintro y ⟨rfl,h⟩
       dsimp only;rw [v6r L hl hb];simp only [Option.bind_some];refine pZ (P:=fun y=>C70 (T,A,B,L.flatMap fun x=>x.2.2,())=some (y.1,())) (fun y e=>by rw [e]) ?_;rintro ⟨e,u⟩ h70;refine pP fun h0 => ?_;dsimp only at h0 h70;subst h0;exact ⟨hne',h,h70⟩
end
def Nq (s:List UInt8):Prop:=s.all jc=true∧Val s
def Tq (l:List Tok):Prop:=∀t∈l,(t.1=0∨t.1=1)→Nq t.2.1
theorem k1h {c:UInt8} {r t:List UInt8} {u:Nat} (h:one c r=(0,.ok t u)):t.all jc=true:=by
 unfold one at h;split at h
 · simp only [Prod.mk.injEq,true_and,Tk.ok.injEq] at h
   rw [←h.1];have:=v6c (c::r);rw [List.all_eq_true] at this ⊢;exact fun x hx=>(v6i (this x hx)).1
 · exfalso
   repeat' split at h
   all_goals (simp only [Prod.mk.injEq] at h;exact absurd h.1 (by decide))
theorem v1t {c:UInt8} {r t:List UInt8} {u:Nat} (h:one c r=(1,.ok t u)):c=34∧∃u',qt r = .ok t u':=by
 have hc:=((j9f h).2 rfl).1;subst hc;rw [k1i] at h;simp only [Prod.mk.injEq,true_and] at h;obtain ⟨u',h1,-⟩:=q4r h;exact ⟨rfl,u',h1⟩
theorem k2m:∀(m:Nat) (s:List UInt8) (p:Nat) (l:List Tok),s.length≤m→zt s p = .inl l→Val s→Tq l
 | _,[],p,l,_,h,_=>by
  rw [j2x] at h;cases h;exact fun t ht=>by cases ht
 | 0,c::r,p,l,hm,_,_=>by simp at hm
 | m+1,c::r,p,l,hm,h,hv=>by
  obtain ⟨k,t,u,l',h1,h2,rfl⟩:=j2w h;have hu:=q0c h1;obtain ⟨v1,v2⟩:=w6w h1 hv;have ih:=k2m m _ _ l' (by simp at hm ⊢;omega) h2 v2;intro x hx hk;rcases List.mem_cons.1 hx with rfl|hx
  · rcases hk with hk|hk
    · dsimp only at hk
      subst hk;exact ⟨k1h h1,by simpa [src] using v1⟩
    · dsimp only at hk
      subst hk;obtain ⟨rfl,u',hq⟩:=v1t h1;obtain ⟨-,-,x,hx1,-⟩:=j9i r.length (Nat.le_refl _) hq;have hvr:Val r:=(Val.cut (a:=[]) (c:=34) (by decide) hv).2;rw [hx1] at hvr;have hvt:=(Val.cut (by decide) hvr).1;exact ⟨y9c r.length (Nat.le_refl _) hq,by simpa using y0v r.length (a:=[]) (Nat.le_refl _) hq (by simpa using hvt)⟩
  · exact ih x hx hk
theorem Tq.drop {l:List Tok} (h:Tq l) (n:Nat):Tq (l.drop n):=fun t ht=>h t (List.mem_of_mem_drop ht)
theorem k0u:Nq []:=⟨rfl,.nil⟩
theorem f6n:jc 32=true:=by kernel_rfl
theorem x6h:∀ws:List (List UInt8),(∀w∈ws,Nq w)→Nq (Lib.join ws [32])
 | [],_=>k0u
 | [w],h=>by rw [Lib.join_one];exact h w List.mem_cons_self
 | w::w'::ws,h=>by
  have ih:=x6h (w'::ws) fun x hx=>h x (List.mem_cons_of_mem _ hx);have hw:=h w List.mem_cons_self;have e:Lib.join (w::w'::ws) [32]=w++32::Lib.join (w'::ws) [32]:=by simp [Lib.join,List.intercalate,List.intersperse]
  rw [e];refine ⟨?_,Val.glue (by decide) hw.2 ih.2⟩;rw [List.all_append,List.all_cons,hw.1,ih.1,f6n];rfl
theorem g6o:∀(m:Nat) (l:List Tok),Tq l→∀w∈(phw m l).1,Nq w
 | 0,l,_,w,h=>by cases h
 | m+1,[],_,w,h=>by cases h
 | m+1,t::r,hq,w,h=>by
  cases hc:(t.1==0||t.1==1) with
  | false =>
   rw [show phw (m+1) (t::r)=([],0) by simp only [phw,hc,cond_false]] at h;cases h
  | true =>
   rw [show (phw (m+1) (t::r)).1=t.2.1::(phw m (r.drop (zn r))).1 by simp only [phw,hc,cond_true]] at h;rcases List.mem_cons.1 h with rfl|h
   · refine hq t List.mem_cons_self ?_
     simpa using hc
   · exact g6o m _ (fun x hx=>hq x (List.mem_cons_of_mem _ (List.mem_of_mem_drop hx))) w h
section
variable {l:List Tok}
theorem d0i (hz:vp l+l.length≤2900) (hq:Tq l) (x:Int) (h0:0≤x) (h1:x≤l.length):Pf (q0p (l,x,())) (fun y=>Nq y.1∧y.1.length≤2900):=by
 obtain ⟨p,rfl⟩:=Int.eq_ofNat_of_zero_le h0;rw [k9f l p (by omega) (by omega)];refine pP ⟨?_,?_⟩
 · exact x6h _ (g6o _ _ (hq.drop _))
 · have h2:=y0p l.length (l.drop (p+zn (l.drop p)))
   have h3:=xa (p+zn (l.drop p)) l;rw [List.length_drop] at h2;show (Lib.join (phw l.length (l.drop (p+zn (l.drop p)))).1 [32]).length≤2900;generalize (phw l.length (l.drop (p+zn (l.drop p)))).1=W at h2;cases W with
   | nil=>exact Nat.zero_le _
   | cons w ws =>
    rw [Lib.join_length];simp only [List.length_cons,List.length_nil] at h2 ⊢;omega
def En2 (y:List UInt8×Bool×List Bx×Bool×List Tok×Int×Unit):Prop:=y.2.2.2.1=true→Nq y.1∧y.1.length≤2900∧Sp (y.1,y.2.1,y.2.2.1)
theorem k1t (hz:vp l+l.length≤2900) (nm:List UInt8) (ok:Bool) (x:Int) (a b:List UInt8) (h0:0≤x) (h1:x≤l.length) :
 Pf (xl (nm,ok,l,x,[],false,a,b,())) (fun y=>y.2.2.2.1=nm∧y.2.2.2.2.1=false∧y.2.2.2.2.2.1=[(a,b)]):=by
 unfold xl q5b;dsimp only;refine pZ (v7z hz x h0 h1).pf ?_;rintro ⟨l',q,u⟩ -
 exact pP ⟨rfl,rfl,rfl⟩
theorem m2e (hz:vp l+l.length≤2900) (hq:Tq l) (x:Int) (h0:0≤x) (h1:x≤l.length):Pf (wu (l,x,())) En2:=by
 unfold wu z3b;dsimp only;refine pZ (k9t hz x h0 h1).pf ?_;rintro ⟨a,b,ok,l',q,u⟩ ⟨hl,g1,g2,g3⟩;dsimp only at hl g1 g2 g3 ⊢;subst hl;with_reducible repeat' (first|exact pN|apply pP|apply pX<;>intro _)
 · exact fun _=>⟨k0u,Nat.zero_le _,fun h=>(by cases h),fun _=>rfl⟩
 · refine pZ (pA (k9u hz q (by omega) g2).pf (d0i hz hq q (by omega) g2)) ?_
   rintro ⟨nm,ok2,l2,q2,u2⟩ ⟨⟨hl,k1,k2⟩,k3,k4⟩;dsimp only at hl k1 k2 k3 k4 ⊢;subst hl;refine pZ (e68 hz [60] q2 (by omega) k2).pf ?_;rintro ⟨ok3,l3,q3,u3⟩ ⟨hl,m1,m2,m3⟩;dsimp only at hl m1 m2 m3 ⊢;subst hl;with_reducible repeat' (first|exact pN|apply pP|apply pX<;>intro _)
   · exact fun h=>by cases h
   · refine pZ (k9t hz q3 (by omega) m2).pf ?_
     rintro ⟨a,b,ok4,l4,q4,u4⟩ ⟨hl,n1,n2,n3⟩;dsimp only at hl n1 n2 n3 ⊢;subst hl;with_reducible repeat' (first|exact pN|apply pP|apply pX<;>intro _)
     · refine pZ (e68 hz [62] q4 (by omega) n2).pf ?_
       rintro ⟨ok5,l5,q5,u5⟩ ⟨hl,o1,o2,o3⟩;dsimp only at hl o1 o2 o3 ⊢;subst hl;refine pZ (k1t hz nm ok5 q5 a b (by omega) o2) ?_;rintro ⟨r1,r2,r3,r4,r5,r6,r7⟩ ⟨hr1,hr2,hr3⟩;dsimp only at hr1 hr2 hr3 ⊢;subst hr1;subst hr2;subst hr3;exact pP fun _=>⟨k3,k4,fun h=>(by cases h),fun _=>rfl⟩
     · refine pZ (k1t hz nm false q4 a b (by omega) n2) ?_
       rintro ⟨r1,r2,r3,r4,r5,r6,r7⟩ ⟨hr1,hr2,hr3⟩;dsimp only at hr1 hr2 hr3 ⊢;subst hr1;subst hr2;subst hr3;exact pP fun _=>⟨k3,k4,fun h=>(by cases h),fun _=>rfl⟩
theorem f5l (hz:vp l+l.length≤2900) (nm:List UInt8) (more:Bool) (x:Int) :
 Pf (q2d (more,l,x,[],false,nm,true,[],())) (Sum.elim (fun y=>y.2.2.2.2.1=nm∧y.2.2.2.2.2.1=true) (fun y=>y.1=false)):=by
 refine pL ?I ?h _ ?hv
 case I=>exact (fun v=>∃(m:Bool) (l':List Tok) (q:Int) (bs:List Bx),v=(m,l',q,[],false,nm,true,bs,()))
 case hv=>exact ⟨_,_,_,_,rfl⟩
 rintro v ⟨m,l',q,bs,rfl⟩;unfold q0t;dsimp only;with_reducible repeat' (first|exact pN|apply pP|apply pX<;>intro _)
 · refine pZ pT ?_
   rintro ⟨ok3,l3,q3,u3⟩ -
   dsimp only;with_reducible repeat' (first|exact pN|apply pP|apply pX<;>intro _)
   · exact rfl
   · refine pZ pT ?_
     rintro ⟨c1,c2,c3,c4,l4,q4,u4⟩ -
     dsimp only;with_reducible repeat' (first|exact pN|apply pP|apply pX<;>intro _)
     · exact rfl
     · refine pZ pT ?_
       rintro ⟨ok5,l5,q5,u5⟩ -
       exact pP ⟨_,_,_,_,rfl⟩
 · refine pZ pT ?_
   rintro ⟨c1,c2,c3,c4,l4,q4,u4⟩ -
   dsimp only;with_reducible repeat' (first|exact pN|apply pP|apply pX<;>intro _)
   · exact rfl
   · refine pZ pT ?_
     rintro ⟨ok5,l5,q5,u5⟩ -
     exact pP ⟨_,_,_,_,rfl⟩
 · exact ⟨rfl,rfl⟩
theorem m2f (hz:vp l+l.length≤2900) (hq:Tq l) (x:Int) (h0:0≤x) (h1:x≤l.length):Pf (j9k (l,x,())) En2:=by
 unfold j9k x7y;dsimp only;refine pZ (pA (k9u hz x h0 h1).pf (d0i hz hq x h0 h1)) ?_;rintro ⟨nm,ok2,l2,q2,u2⟩ ⟨⟨hl,k1,k2⟩,k3,k4⟩;dsimp only at hl k1 k2 k3 k4 ⊢;subst hl;with_reducible repeat' (first|exact pN|apply pP|apply pX<;>intro _)
 · exact fun h=>by cases h
 · rename_i hne
   have hne':nm≠[]:=by simpa using hne
   refine pZ (e68 hz [58] q2 (by omega) k2).pf ?_;rintro ⟨ok3,l3,q3,u3⟩ ⟨hl,m1,m2,m3⟩;dsimp only at hl m1 m2 m3 ⊢;subst hl;with_reducible repeat' (first|exact pN|apply pP|apply pX<;>intro _)
   · exact fun h=>by cases h
   · refine pZ (v7z hz q3 (by omega) m2).pf ?_
     rintro ⟨l4,q4,u4⟩ ⟨hl,n1,n2⟩;dsimp only at hl n1 n2 ⊢;subst hl;refine pZ (e68 hz [59] q4 (by omega) n2).pf ?_;rintro ⟨ok5,l5,q5,u5⟩ ⟨hl,o1,o2,o3⟩;dsimp only at hl o1 o2 o3 ⊢;subst hl;refine pZ (f5l hz nm (!ok5) q5) ?_;intro z hzz;refine pS hzz ?_ ?_
     · rintro ⟨l6,q6,z3,z4,z5,z6,bs,u6⟩ ⟨hl,p1⟩
       dsimp only at hl p1 ⊢;subst hl;subst p1;exact pZ pT fun _ _=>pP fun _=>⟨k3,k4,fun _=>hne',fun h=>(by cases h)⟩
     · rintro ⟨z1,l6,q6,z4,z5,u6⟩ hz1
       dsimp only at hz1 ⊢;subst hz1;exact pP fun h=>by cases h
theorem p69 (hz:vp l+l.length≤2900) (hq:Tq l) (x:Int) (h0:0≤x) (h1:x≤l.length):Pf (C69 (l,x,())) En2:=by
 unfold C69 F69;dsimp only;refine pZ (pA (k9s hz x h0 h1).pf (m2e hz hq x h0 h1)) ?_;rintro ⟨c1,c2,c3,c4,l4,q4,u4⟩ ⟨⟨hl,n1,n2,n3⟩,hc⟩;dsimp only at hl n1 n2 n3 ⊢;subst hl;with_reducible repeat' (first|exact pN|apply pP|apply pX<;>intro _)
 · rename_i h
   exact fun _=>hc h
 · refine pZ (m2f hz hq x h0 h1) ?_
   rintro ⟨c1,c2,c3,c4,l5,q5,u5⟩ hc;dsimp only;with_reducible repeat' (first|exact pN|apply pP|apply pX<;>intro _)
   · rename_i h
     exact fun _=>hc h
   · exact fun h=>by cases h
theorem d0m (hz:vp l+l.length≤2900) (hq:Tq l) (A) (B) (C):Pf (q3q (l,true,A,B,C,l,0,[],())) (Sum.elim (fun y=>y.2.2.2.2.2.2.1≠[]∧∀e∈y.2.2.2.2.2.2.1,Nq e.1∧e.1.length≤2900∧Sp e) (fun y=>y.1≠0)):=by
 refine pL ?I ?h _ ?hv
 case I=>exact (fun v=>∃(m:Bool) (q:Int) (acc:List En),(m=true∨acc≠[])∧0≤q∧q≤l.length∧(∀e∈acc,Nq e.1∧e.1.length≤2900∧Sp e)∧v=(l,m,A,B,C,l,q,acc,()))
 case hv=>exact ⟨_,_,_,.inl rfl,Int.le_refl _,by omega,fun e he=>(by cases he),rfl⟩
 rintro v ⟨m,q,acc,i0,i1,i2,i3,rfl⟩;unfold q3t;dsimp only;with_reducible repeat' (first|exact pN|apply pP|apply pX<;>intro _)
 · refine pZ (pA (e69 hz q i1 i2).pf (p69 hz hq q i1 i2)) ?_
   rintro ⟨c1,c2,c3,c4,l4,q4,u4⟩ ⟨⟨hl,n1,n2,n3⟩,hc⟩;dsimp only at hl n1 n2 n3 ⊢;subst hl;with_reducible repeat' (first|exact pN|apply pP|apply pX<;>intro _)
   · exact (by decide:(4:Int)≠0)
   · rename_i h4 _
     have hc4:=hc h4;refine pZ (e68 hz [44] q4 (by omega) n2).pf ?_;rintro ⟨ok5,l5,q5,u5⟩ ⟨hl,o1,o2,o3⟩;dsimp only at hl o1 o2 o3 ⊢;subst hl;refine pP ⟨_,_,_,.inr (by simp),by omega,o2,fun e he => ?_,rfl⟩;rcases List.mem_append.1 he with he|he
     · exact i3 e he
     · rw [List.mem_singleton] at he
       subst he;exact hc4
 · rename_i hm
   exact ⟨i0.resolve_left (by rw [hm];decide),i3⟩
end
section
variable {T:List R6} {A:List R4} {B:List R3}
theorem p30 (h:TK T A B) (s:List UInt8) (hs:s.length≤400):∃es e,C30 (T,A,B,s,())=some (es,e,())∧(e≠0→es=[])∧(e=0→es≠[]∧(∀x∈es,Nq x.1∧x.1.length≤2900∧Sp x)∧C70 (T,A,B,es.flatMap fun x=>x.2.2,())=some (0,())∧es.length≤2900∧(es.flatMap fun x=>x.2.2).length≤2900∧∀b∈es.flatMap fun x=>x.2.2,OkB b):=by
 obtain ⟨⟨es,e,u⟩,h30,-⟩:=e30 h s (by omega);refine ⟨es,e,h30,?_⟩;have key:Pf (C30 (T,A,B,s,())) (fun y=>(y.2.1≠0→y.1=[])∧(y.2.1=0→y.1≠[]∧(∀x∈y.1,Nq x.1∧x.1.length≤2900∧Sp x)∧C70 (T,A,B,y.1.flatMap fun x=>x.2.2,())=some (0,())∧y.1.length≤2900∧(y.1.flatMap fun x=>x.2.2).length≤2900∧∀b∈y.1.flatMap fun x=>x.2.2,OkB b)):=by
  unfold C30 F30;dsimp only;rw [c11 s];have hz:=x5p s;have htq:(q4l s).2.2=0→Tq (q4l s).1:=by
   unfold q4l;by_cases h2:2000<s.length
   · rw [if_pos h2];exact fun h=>by cases h
   · rw [if_neg h2]
     cases hu:utf s with
     | some b=>exact fun h=>by cases h
     | none =>
      cases hl:zt s 0 with
      | inl l=>exact fun _=>k2m s.length s 0 l (Nat.le_refl _) hl ((q7b (by omega)).1 hu)
      | inr e=>exact fun _ t ht=>by cases ht
  simp only [Option.bind_some];generalize q4l s=R at hz htq;obtain ⟨l,o,e⟩:=R;dsimp only at hz htq ⊢;with_reducible repeat' (first|exact pN|apply pP|apply pX<;>intro _)
  · rename_i he
    exact ⟨fun _=>rfl,fun h0=>(he h0).elim⟩
  · rename_i he
    have hq:=htq he;refine pZ (pA (g4r (l:=l) (by omega) T A B).pf (d0m (by omega) hq T A B)) ?_;intro z hzz;cases z with
    | inr z =>
     obtain ⟨c,u⟩:=z;have hc:c≠0:=hzz.2;exact pP ⟨fun _=>rfl,fun h0=>(hc h0).elim⟩
    | inl z =>
     obtain ⟨l0,A',B',C',l',q,acc,u⟩:=z;obtain ⟨⟨h1,ht,⟨h2,h3⟩,h4⟩,h5,h6⟩:=hzz;dsimp only at h1 ht h2 h3 h4 h5 h6;cases ht;simp only [Sum.elim_inl];with_reducible repeat' (first|exact pN|apply pP|apply pX<;>intro _)
     · exact ⟨fun _=>rfl,fun h=>(by cases h)⟩
     · rw [v6r acc (by omega) (Nat.le_trans h2 (by decide))]
       simp only [Option.bind_some];refine pZ (P:=fun y=>C70 (T,A,B,acc.flatMap fun x=>x.2.2,())=some (y.1,())) (fun y e=>by rw [e]) ?_;rintro ⟨c,u⟩ h70;dsimp only at h70 ⊢;with_reducible repeat' (first|exact pN|apply pP|apply pX<;>intro _)
       · rename_i hc
         exact ⟨fun _=>rfl,fun h0=>(hc h0).elim⟩
       · rename_i hc
         have hc':c=0:=hc;subst hc';refine ⟨fun h=>(h rfl).elim,fun _=>⟨h5,h6,h70,h3,h2,h4⟩⟩
 exact key _ h30
end
def tkB:Bool:=match C18 () with
 | some (T,A,B,_)=>(decide (T.length≤1000000000000)&&T.all fun e=>decide (0≤e.2.2.2.1)&&decide (e.2.2.2.1<8))&&(decide (A.length≤1000000000000)&&decide (B.length≤1000000000000))
 | none=>false
theorem d0u:tkB=true:=by kernel_rfl
theorem tk:∃T A B,C18 ()=some (T,A,B,())∧TK T A B:=by
 have h:=d0u;unfold tkB at h;cases hc:C18 () with
 | none=>rw [hc] at h;cases h
 | some y =>
  obtain ⟨T,A,B,u⟩:=y;rw [hc] at h;simp only [Bool.and_eq_true,decide_eq_true_eq,List.all_eq_true] at h;exact ⟨T,A,B,rfl,⟨h.1.1,h.1.2⟩,h.2.1,h.2.2⟩
theorem f3p:C29 ()=some (true,()):=by kernel_rfl
def Fw (L:List En):Prop:=L.length≤12∧∀e∈L,e.1.length≤150∧e.2.2.length≤120∧∀m∈e.2.2,m.1.length≤150∧m.2.length≤200
theorem c38 (a b:List UInt8):C38 (a,b,())=some (decide (a.length≤150∧b.length≤200),()):=by
 show F38 _=_;simp only [F38];have e1:decide ((a.length:Int)≤150)=decide (a.length≤150):=decide_eq_decide.2 (by omega);have e2:decide ((b.length:Int)≤200)=decide (b.length≤200):=decide_eq_decide.2 (by omega);rw [e1,e2];by_cases h1:a.length≤150<;>by_cases h2:b.length≤200<;>simp [h1,h2]
theorem b4u (L:List En) (i:Int) (hi:0≤i∧i<L.length) (hb:(L.getD i.toNat ([],(false,[]))).2.2.length≤120):Df (z6x (L,i,0,())) (Sum.elim (fun y=>y=(L,i,())∧∀m∈(L.getD i.toNat ([],(false,[]))).2.2,m.1.length≤150∧m.2.length≤200) (fun y=>y.1=false)):=by
 generalize hE:(L.getD i.toNat ([],(false,[]))).2.2=E at hb;refine dL ?I ?m ?h _ ?hv ?hn
 case I=>exact (fun v=>∃k:Int,0≤k∧k≤E.length∧(∀m∈E.take k.toNat,m.1.length≤150∧m.2.length≤200)∧v=(L,i,k,()))
 case m=>exact (fun v=>(E.length-v.2.2.1).toNat)
 case hv=>exact ⟨0,Int.le_refl _,by omega,fun m hm=>(by cases hm),rfl⟩
 case hn=>exact (by (try dsimp only);omega)
 rintro v ⟨k,h0,h1,h2,rfl⟩;unfold y6g;dsimp only;rw [hE,decide_eq_true hi.1,decide_eq_true hi.2];simp only [Bool.and_self,cond_true];with_reducible repeat' (first|apply dP|apply dX<;>intro _)
 · have hlt:k.toNat<E.length:=by omega
   rw [getD_lt hlt,c38];simp only [Option.bind_some];by_cases hm:E[k.toNat].1.length≤150∧E[k.toNat].2.length≤200
   · rw [decide_eq_true hm]
     simp only [Bool.not_true,cond_false];rw [qh (n:=k+1) (by omega)];refine dP ⟨⟨k+1,by omega,by omega,fun m hm' => ?_,rfl⟩,by (try dsimp only);omega⟩;rw [show (k+1).toNat=k.toNat+1 by omega,qg hlt] at hm';rcases List.mem_append.1 hm' with hm'|hm'
     · exact h2 m hm'
     · rw [List.mem_singleton] at hm'
       subst hm';exact hm
   · rw [decide_eq_false hm]
     exact dP rfl
 · refine dO ?_;omega
 · rw [List.take_of_length_le (by omega)] at h2
   exact ⟨rfl,h2⟩
theorem d33 (L:List En) (hL:L.length≤140737488351232):Df (C33 (L,())) (fun y=>y.1=true→Fw L):=by
 unfold C33 F33;dsimp only;refine dZ (P:=Sum.elim (fun y=>y.1=L∧∀e∈L,e.1.length≤150∧e.2.2.length≤120∧∀m∈e.2.2,m.1.length≤150∧m.2.length≤200) (fun y=>y.1=false)) ?_ ?_
 · refine dL ?I ?m ?h _ ?hv ?hn
   case I=>exact (fun v=>∃k:Int,0≤k∧k≤L.length∧(∀e∈L.take k.toNat,e.1.length≤150∧e.2.2.length≤120∧∀m∈e.2.2,m.1.length≤150∧m.2.length≤200)∧v=(L,k,()))
   case m=>exact (fun v=>(L.length-v.2.1).toNat)
   case hv=>exact ⟨0,Int.le_refl _,by omega,fun e he=>(by cases he),rfl⟩
   case hn=>exact (by (try dsimp only);omega)
   rintro v ⟨k,h0,h1,h2,rfl⟩;unfold y6h;dsimp only;with_reducible repeat' (first|apply dP|apply dX<;>intro _)
   · exact rfl
   · exact rfl
   · rename_i h3 h4 h5 h6 h7
     have hlt:k.toNat<L.length:=by omega
     refine dZ (b4u L k (by omega) (by omega)) ?_;intro z hz;refine dS hz ?_ ?_
     · rintro y ⟨rfl,h8⟩
       dsimp only;rw [qh (n:=k+1) (by omega)];refine dP ⟨⟨k+1,by omega,by omega,fun e he => ?_,rfl⟩,by (try dsimp only);omega⟩;rw [show (k+1).toNat=k.toNat+1 by omega,qg hlt] at he;rcases List.mem_append.1 he with he|he
       · exact h2 e he
       · rw [List.mem_singleton] at he
         rw [getD_lt hlt] at h5 h7 h8;subst he;exact ⟨by omega,by omega,h8⟩
     · rintro ⟨b,u⟩ hb
       exact dP hb
   · refine dO ?_;omega
   · refine dO ?_;omega
   · rw [List.take_of_length_le (by omega)] at h2
     exact ⟨rfl,h2⟩
 · intro z hz
   refine dS hz ?_ ?_
   · rintro ⟨y,u⟩ ⟨h1,h2⟩
     dsimp only at h1;subst h1;refine dP fun h=>⟨?_,h2⟩
     have h':=of_decide_eq_true h;dsimp only at h';omega
   · rintro ⟨b,u⟩ hb
     dsimp only at hb;subst hb;exact dP fun h=>by cases h
theorem y3h (n:Nat):∀L:List En,(∀e∈L,e.2.2.length≤n)→(L.flatMap fun x=>x.2.2).length≤n*L.length
 | [],_=>Nat.zero_le _
 | e::L,h=>by
  have h1:=y3h n L fun x hx=>h x (List.mem_cons_of_mem _ hx);have h2:=h e List.mem_cons_self;simp only [List.flatMap_cons,List.length_append,List.length_cons];rw [Nat.mul_add,Nat.mul_one];omega
theorem b4v (L:List En) (i:Int) (hi:0≤i∧i<L.length) (hb:(L.getD i.toNat ([],(false,[]))).2.2.length≤100000):Df (j9y (L,L,i,0,())) (fun y=>y = .inl (L,L,i,())):=by
 generalize hE:(L.getD i.toNat ([],(false,[]))).2.2=E at hb;refine dL ?I ?m ?h _ ?hv ?hn
 case I=>exact (fun v=>∃k:Int,0≤k∧k≤E.length∧v=(L,L,i,k,()))
 case m=>exact (fun v=>(E.length-v.2.2.2.1).toNat)
 case hv=>exact ⟨0,Int.le_refl _,by omega,rfl⟩
 case hn=>exact (by (try dsimp only);omega)
 rintro v ⟨k,h0,h1,rfl⟩;unfold y6j;dsimp only;rw [hE,decide_eq_true hi.1,decide_eq_true hi.2];simp only [Bool.and_self,cond_true,beq_self_eq_true,Bool.not_true,cond_false];with_reducible repeat' (first|apply dP|apply dX<;>intro _)
 · rw [qh (n:=k+1) (by omega)]
   exact ⟨⟨k+1,by omega,by omega,rfl⟩,by (try dsimp only);omega⟩
 all_goals first|exact rfl|(refine dO ?_;omega)
theorem d36 (L:List En) (hL:L.length≤100000) (hb:∀e∈L,e.2.2.length≤100000):C36 (L,L,())=some (true,()):=by
 have key:Df (C36 (L,L,())) (fun y=>y=(true,())):=by
  unfold C36 F36;dsimp only;rw [inF (rfl:(L.length:Int)=L.length)];simp only [cond_false];refine dZ (P:=fun z=>z = .inl ()) ?_ ?_
  · refine dL ?I ?m ?h _ ?hv ?hn
    case I=>exact (fun v=>∃k:Int,0≤k∧k≤L.length∧v=(L,L,k,()))
    case m=>exact (fun v=>(L.length-v.2.2.1).toNat)
    case hv=>exact ⟨0,Int.le_refl _,by omega,rfl⟩
    case hn=>exact (by (try dsimp only);omega)
    rintro v ⟨k,h0,h1,rfl⟩;unfold y6k;dsimp only;simp only [beq_self_eq_true,Bool.not_true,cond_false,bne_self_eq_false];with_reducible repeat' (first|apply dP|apply dX<;>intro _)
    · have hlt:k.toNat<L.length:=by omega
      have hc:z6y (L,L,k,())=some (.inl (L,L,k,())):=by
       obtain ⟨z,hz,rfl⟩:=b4v L k (by omega) (by rw [getD_lt hlt];exact hb _ (List.getElem_mem hlt));show z8f j9y _=_;simp only [z8f,hz,Option.bind_some,Sum.elim_inl]
      rw [hc];simp only [Option.bind_some,Sum.elim_inl];rw [qh (n:=k+1) (by omega)];exact dP ⟨⟨k+1,by omega,by omega,rfl⟩,by (try dsimp only);omega⟩
    all_goals first|exact rfl|(refine dO ?_;omega)
  · rintro z rfl
    exact dP rfl
 obtain ⟨y,hy,rfl⟩:=key;exact hy
theorem d6j (x:Int):Df (j5y (x,())) (fun _=>True):=by
 unfold j5y x7z;dsimp only;with_reducible repeat' (first|apply dP|apply dX<;>intro _)
 all_goals trivial
theorem f1d (s:List UInt8) (b:Bool) (hs:s.length≤1000000000000000):Df (q2h (s,b,())) (fun _=>True):=by
 unfold q2h z0g;dsimp only;refine dZ (P:=fun _=>True) ?_ (fun z _=>by cases z<;>exact dP trivial);refine dL ?I ?m ?h _ ?hv ?hn
 case I=>exact (fun v=>v.2.1.1=s∧0≤v.2.1.2)
 case m=>exact (fun v=>s.length-v.2.1.2.toNat)
 case hv=>exact ⟨rfl,Int.le_refl _⟩
 case hn=>exact (by (try dsimp only);omega)
 · rintro ⟨x0,⟨x1,p⟩,u⟩ hI
   dsimp only at hI;obtain ⟨rfl,h0⟩:=hI;unfold q1p;dsimp only;with_reducible repeat' (first|apply dP|apply dX<;>intro _)
   · refine dZ (d6j _) ?_
     rintro ⟨x,u⟩ -
     dsimp only;have:=z1p x1 p.toNat
     with_reducible repeat' (first|apply dP|apply dX<;>intro _)
     · trivial
     · exact ⟨⟨rfl,by (try dsimp only);omega⟩,by (try dsimp only);omega⟩
   · trivial
theorem z9q {F:List En×Int×Int×Unit→Option ((List En×Int×Int×Unit)⊕(Unit⊕(Int×Unit)))} {t:En→Option (Bool×Unit)} (L:List En) (hl:L.length≤1000000)
 (hF:∀(k:Int),F (L,(L.length:Int),k,())=bif decide (k<L.length) then (bif decide (0≤k)&&decide (k<(L.length:Int)) then ((t (L.getD k.toNat ([],(false,[])))).bind fun val=>bif val.1 then some (Sum.inr (Sum.inr (k,()))) else some (Sum.inl (L,(L.length:Int),IntKind.i64.wrap (k+1),()))) else none) else some (Sum.inr (Sum.inl ())))
 (ht:∀e∈L,Df (t e) (fun _=>True)):Df (qb F je (L,(L.length:Int),0,())) (fun _=>True):=by
 refine dL ?I ?m ?h _ ?hv ?hn
 case I=>exact (fun v=>∃k:Int,0≤k∧k≤L.length∧v=(L,(L.length:Int),k,()))
 case m=>exact (fun v=>(L.length-v.2.2.1).toNat)
 case hv=>exact ⟨0,Int.le_refl _,by omega,rfl⟩
 case hn=>exact (by (try dsimp only);omega)
 rintro v ⟨k,h0,h1,rfl⟩;rw [hF];with_reducible repeat' (first|apply dP|apply dX<;>intro _)
 · have hlt:k.toNat<L.length:=by omega
   rw [getD_lt hlt];refine dZ (ht _ (List.getElem_mem hlt)) ?_;rintro ⟨b,u⟩ -
   dsimp only;with_reducible repeat' (first|apply dP|apply dX<;>intro _)
   · trivial
   · rw [qh (n:=k+1) (by omega)]
     exact ⟨⟨k+1,by omega,by omega,rfl⟩,by (try dsimp only);omega⟩
 · refine dO ?_;omega
 · trivial
theorem z1u {F:List En×Int×Int×Unit→Option ((List En×Int×Int×Unit)⊕(Unit⊕(Int×Unit)))} {t:En→Option (Bool×Unit)} (L:List En) (hl:L.length≤1000000)
 (hF:∀(k:Int),F (L,(L.length:Int),k,())=bif decide (k<L.length) then (bif decide (0≤k)&&decide (k<(L.length:Int)) then ((t (L.getD k.toNat ([],(false,[])))).bind fun val=>bif val.1 then some (Sum.inr (Sum.inr (k,()))) else some (Sum.inl (L,(L.length:Int),IntKind.i64.wrap (k+1),()))) else none) else some (Sum.inr (Sum.inl ())))
 (ht:∀e∈L,Pf (t e) (fun y=>y.1=false)):Pf (qb F je (L,(L.length:Int),0,())) (Sum.elim (fun _=>True) (fun _=>False)):=by
 refine pL ?I ?h _ ?hv
 case I=>exact (fun v=>∃k:Int,0≤k∧k≤L.length∧v=(L,(L.length:Int),k,()))
 case hv=>exact ⟨0,Int.le_refl _,by omega,rfl⟩
 rintro v ⟨k,h0,h1,rfl⟩;rw [hF];with_reducible repeat' (first|exact pN|apply pP|apply pX<;>intro _)
 · have hlt:k.toNat<L.length:=by omega
   rw [getD_lt hlt];refine pZ (ht _ (List.getElem_mem hlt)) ?_;rintro ⟨b,u⟩ hb;dsimp only at hb ⊢;subst hb;simp only [cond_false];rw [qh (n:=k+1) (by omega)];exact pP ⟨_,by omega,by omega,rfl⟩
 · trivial
theorem y7m {s:List UInt8} {p:Nat} (h:p<s.length) (hc:128≤s[p].toNat):128≤(vd s p).1:=by
 have e:((⟨⟨s⟩⟩:ByteArray).get! (p+0))=s[p]:=by
  show (⟨s⟩:Array UInt8)[p+0]! = _;rw [Nat.add_zero,getElem!_pos _ _ (by simpa using h)];simp
 simp only [vd,Utf8.decode,e];rw [if_neg (by omega)];repeat' split
 all_goals simp_all [Utf8.runeError]
 all_goals omega
theorem d0g (x:Int) (h:x=9∨(32≤x∧x≠127)):j5y (x,())=some (false,()):=by
 show x7z _=_;simp only [x7z];rcases h with rfl|⟨h1,h2⟩
 · rfl
 · by_cases h9:x=9
   · omega
   · rw [inT h9,decide_eq_false (by omega),ibF h2]
     rfl
theorem w6l (s:List UInt8) (hm:s.all jc=true):Pf (q2h (s,true,())) (fun y=>y.1<0):=by
 unfold q2h z0g;dsimp only;refine pZ (P:=Sum.elim (fun _=>False) (fun _=>True)) ?_ ?_
 · refine pL ?I ?h _ ?hv
   case I=>exact (fun v=>∃p:Nat,v=(true,(s,(p:Int)),()))
   case hv=>exact ⟨0,rfl⟩
   rintro v ⟨p,rfl⟩;unfold q1p;dsimp only;simp only [Int.toNat_natCast];with_reducible repeat' (first|exact pN|apply pP|apply pX<;>intro _)
   · rename_i hp
     have hf:j5y (((vd s p).1:Int),())=some (false,()):=by
      refine d0g _ ?_;by_cases hlo:s[p].toNat<128
      · rw [q6s hp hlo]
        have:=List.all_eq_true.1 hm s[p] (List.getElem_mem hp);rw [←q4f] at this;unfold q4e at this;simp only [Bool.or_eq_true,Bool.and_eq_true,decide_eq_true_eq,Bool.not_eq_true',decide_eq_false_iff_not] at this;dsimp only;omega
      · have:=y7m hp (by omega)
        omega
     rw [hf];exact pP ⟨_,rfl⟩
   · trivial
 · intro z hz
   exact pS hz (fun _ h=>h.elim) (fun _ _=>pP (by decide:(-1:Int)<0))
theorem d75 (nm:List UInt8) (g:Bool) (bs:List Bx):Df (C75 (nm,g,bs,())) (fun _=>True):=by
 unfold C75 F75;dsimp only;with_reducible repeat' (first|apply dP|apply dX<;>intro _)
 all_goals trivial
theorem d76 (nm:List UInt8) (g:Bool) (bs:List Bx) (hn:nm.length≤100000):Df (C76 (nm,g,bs,())) (fun _=>True):=by
 unfold C76 F76;dsimp only;exact dZ (d83 nm (by omega)) fun _ _=>dP trivial
theorem d77 (nm:List UInt8) (g:Bool) (bs:List Bx) (hn:nm.length≤100000):Df (C77 (nm,g,bs,())) (fun _=>True):=by
 unfold C77 F77;dsimp only;refine dZ (P:=fun _=>True) ?_ fun _ _=>dP trivial;unfold z3u y1u;dsimp only;refine dZ (P:=fun _=>True) ?_ fun _ _=>dP trivial;unfold j3r z0f;dsimp only;exact dZ (f1d nm true (by omega)) fun _ _=>dP trivial
theorem m3v (nm:List UInt8) (g:Bool) (bs:List Bx) (h:Sp (nm,g,bs)):Pf (C75 (nm,g,bs,())) (fun y=>y.1=false):=by
 obtain ⟨h1,h2⟩:=h;dsimp only at h1 h2;unfold C75 F75;dsimp only;cases g with
 | true =>
  have:=beq_eq_false_iff_ne.2 (h1 rfl);rw [this];exact pP rfl
 | false =>
  rw [h2 rfl];exact pP rfl
theorem m3w (nm:List UInt8) (g:Bool) (bs:List Bx) (hn:nm.length≤100000) (h:utf nm=none):Pf (C76 (nm,g,bs,())) (fun y=>y.1=false):=by
 obtain ⟨o,ho⟩:=c15 nm (by omega);rw [h] at ho;show Pf (F76 C83 _) _;simp only [F76,ho,Option.bind_some];exact pP rfl
theorem m3x (nm:List UInt8) (g:Bool) (bs:List Bx) (h:nm.all jc=true):Pf (C77 (nm,g,bs,())) (fun y=>y.1=false):=by
 unfold C77 F77;dsimp only;refine pZ (P:=fun y=>y.1=false) ?_ fun _ h=>pP h;unfold z3u y1u;dsimp only;refine pZ (P:=fun y=>y.1<0) ?_ ?_
 · unfold j3r z0f
   dsimp only;exact pZ (w6l nm h) fun _ h=>pP h
 · rintro ⟨a,u⟩ h
   refine pP ?_;dsimp only at h ⊢;exact decide_eq_false (by omega)
theorem d6i (L:List En) (hl:L.length≤1000000):∃b,C74 (L,())=some (b,())∧((∀e∈L,Sp e)→b=false):=by
 have hd:Df (C74 (L,())) (fun _=>True):=by
  unfold C74 F74;dsimp only;refine dZ (P:=fun _=>True) ?_ fun _ _=>dP trivial;unfold x7f v4q;dsimp only;exact dZ (z9q (t:=fun e=>C75 (e.1,e.2.1,e.2.2,())) L hl (fun k=>rfl) fun e _=>d75 _ _ _) fun z _=>by cases z<;>exact dP trivial
 obtain ⟨⟨b,u⟩,h,-⟩:=hd;refine ⟨b,h,fun hs => ?_⟩;have hp:Pf (C74 (L,())) (fun y=>y.1=false):=by
  unfold C74 F74;dsimp only;refine pZ (P:=fun y=>y.1<0) ?_ ?_
  · unfold x7f v4q
    dsimp only;refine pZ (z1u (t:=fun e=>C75 (e.1,e.2.1,e.2.2,())) L hl (fun k=>rfl) (fun e he=>m3v _ _ _ (hs e he))) ?_;intro z hz;exact pS hz (fun _ _=>pP (by decide:(-1:Int)<0)) (fun _ h=>h.elim)
  · rintro ⟨a,u⟩ h
    refine pP ?_;dsimp only at h ⊢;exact decide_eq_false (by omega)
 exact hp _ h
theorem f0v (L:List En) (hl:L.length≤1000000) (hn:∀e∈L,e.1.length≤100000):∃b,wv (L,())=some (b,())∧((∀e∈L,utf e.1=none)→b=false):=by
 have hd:Df (wv (L,())) (fun _=>True):=by
  unfold wv y1s;dsimp only;refine dZ (P:=fun _=>True) ?_ fun _ _=>dP trivial;unfold j3n z0d;dsimp only;exact dZ (z9q (t:=fun e=>C76 (e.1,e.2.1,e.2.2,())) L hl (fun k=>rfl) fun e he=>d76 _ _ _ (hn e he)) fun z _=>by cases z<;>exact dP trivial
 obtain ⟨⟨b,u⟩,h,-⟩:=hd;refine ⟨b,h,fun hs => ?_⟩;have hp:Pf (wv (L,())) (fun y=>y.1=false):=by
  unfold wv y1s;dsimp only;refine pZ (P:=fun y=>y.1<0) ?_ ?_
  · unfold j3n z0d
    dsimp only;refine pZ (z1u (t:=fun e=>C76 (e.1,e.2.1,e.2.2,())) L hl (fun k=>rfl) (fun e he=>m3w _ _ _ (hn e he) (hs e he))) ?_;intro z hz;exact pS hz (fun _ _=>pP (by decide:(-1:Int)<0)) (fun _ h=>h.elim)
  · rintro ⟨a,u⟩ h
    refine pP ?_;dsimp only at h ⊢;exact decide_eq_false (by omega)
 exact hp _ h
theorem f0w (L:List En) (hl:L.length≤1000000) (hn:∀e∈L,e.1.length≤100000):∃b,ww (L,())=some (b,())∧((∀e∈L,e.1.all jc=true)→b=false):=by
 have hd:Df (ww (L,())) (fun _=>True):=by
  unfold ww y1t;dsimp only;refine dZ (P:=fun _=>True) ?_ fun _ _=>dP trivial;unfold j3p z0e;dsimp only;exact dZ (z9q (t:=fun e=>C77 (e.1,e.2.1,e.2.2,())) L hl (fun k=>rfl) fun e he=>d77 _ _ _ (hn e he)) fun z _=>by cases z<;>exact dP trivial
 obtain ⟨⟨b,u⟩,h,-⟩:=hd;refine ⟨b,h,fun hs => ?_⟩;have hp:Pf (ww (L,())) (fun y=>y.1=false):=by
  unfold ww y1t;dsimp only;refine pZ (P:=fun y=>y.1<0) ?_ ?_
  · unfold j3p z0e
    dsimp only;refine pZ (z1u (t:=fun e=>C77 (e.1,e.2.1,e.2.2,())) L hl (fun k=>rfl) (fun e he=>m3x _ _ _ (hs e he))) ?_;intro z hz;exact pS hz (fun _ _=>pP (by decide:(-1:Int)<0)) (fun _ h=>h.elim)
  · rintro ⟨a,u⟩ h
    refine pP ?_;dsimp only at h ⊢;exact decide_eq_false (by omega)
 exact hp _ h
section
variable {T:List R6} {A:List R4} {B:List R3}
theorem b3s (h:TK T A B) (L:List En) (hl:L.length≤100000) (hn:∀e∈L,e.1.length≤100000) (hb:(L.flatMap fun x=>x.2.2).length≤100000) (hk:∀b∈L.flatMap fun x=>x.2.2,OkB b) :
 ∃c,C35 (T,A,B,L,())=some (c,())∧(L≠[]→(∀e∈L,Sp e∧utf e.1=none∧e.1.all jc=true)→C70 (T,A,B,L.flatMap fun x=>x.2.2,())=some (0,())→c=0):=by
 obtain ⟨b1,k1,q1⟩:=d6i L (by omega);obtain ⟨b2,k2,q2⟩:=f0v L (by omega) hn;obtain ⟨b3,k3,q3⟩:=f0w L (by omega) hn;obtain ⟨⟨c,u⟩,h70,-⟩:=e70 h _ hk;by_cases hne:L=[]
 · subst hne
   exact ⟨1,rfl,fun h=>(h rfl).elim⟩
 have hz:¬((L.length:Int)=0):=by
  have:=List.length_pos_iff.2 hne;omega
 have hc:q7q (L,b1,T,A,B,())=some (bif b1 then .inl (1,()) else bif b2 then .inl (7,()) else bif b3 then .inl (8,()) else .inr (L,T,A,B,())):=by
  show z0i C31 C70 C74 wv ww _=_;simp only [z0i,k2,k3,Option.bind_some];cases b1<;>cases b2<;>cases b3<;>rfl
 refine ⟨bif b1 then 1 else bif b2 then 7 else bif b3 then 8 else c,?_,fun _ hs h70' => ?_⟩
 · show F35 C31 C70 C74 wv ww q7q _=_
   simp only [F35,ibF hz,cond_false,k1,Option.bind_some,hc];cases b1<;>cases b2<;>cases b3<;>simp only [cond_true,cond_false,Sum.elim_inl,Sum.elim_inr,v6r L hl hb,Option.bind_some,h70]
 · rw [q1 fun e he=>(hs e he).1,q2 fun e he=>(hs e he).2.1,q3 fun e he=>(hs e he).2.2]
   rw [h70] at h70';simp only [Option.some.injEq,Prod.mk.injEq,and_true] at h70';exact h70'
theorem g6p (h:TK T A B) (hK:KT T A B) (L:List En) (hs:∀e∈L,Sp e∧utf e.1=none∧e.1.all jc=true) (hn:∀e∈L,e.1.length≤100000) (hk:∀b∈L.flatMap fun x=>x.2.2,OkB b) (h70:C70 (T,A,B,L.flatMap fun x=>x.2.2,())=some (0,())) :
 (L.flatMap fun x=>x.2.2).length≤100∧∀e∈L,Re e∧Val e.1∧e.2.2.length≤100:=by
 obtain ⟨h1,h2⟩:=p70 _ _ h70 rfl;refine ⟨h1,fun e he => ?_⟩;obtain ⟨s1,s2,s3⟩:=hs e he;have hsub:∀m∈e.2.2,m∈L.flatMap fun x=>x.2.2:=fun m hm=>List.mem_flatMap.2 ⟨e,he,hm⟩;refine ⟨⟨s3,s1.1,fun hg => ?_,fun m hm => ?_⟩,(q7b (by have:=hn e he;omega)).1 s2,?_⟩
 · have:=s1.2 hg
   match h:e.2.2,this with
   | [m],_=>exact ⟨m,rfl⟩
 · have ho:=hk m (hsub m hm)
   exact b5n (p44 h hK m.1 m.2 (by have:=ho.1;omega) ho.2 _ (h2 m (hsub m hm)) rfl) ho.2
 · refine Nat.le_trans ?_ h1
   obtain ⟨a,b,rfl⟩:=List.append_of_mem he;simp only [List.flatMap_append,List.flatMap_cons,List.length_append];omega
theorem b3i (h:TK T A B) (hK:KT T A B) (s:List UInt8) (hs:s.length≤400):j9l (s,true,T,A,B,())=some (true,()):=by
 obtain ⟨es,e,h30,g1,g2⟩:=p30 h s hs;show z6z C18 C29 C30 C33 C34 C35 C36 _=_;simp only [z6z,h30,Option.bind_some];by_cases he:e=0
 · subst he
   obtain ⟨hne,hq,h70,hl,hbl,hk⟩:=g2 rfl;have hs':∀x∈es,Sp x∧utf x.1=none∧x.1.all jc=true:=fun x hx=>by
    obtain ⟨⟨n1,n2⟩,n3,n4⟩:=hq x hx;exact ⟨n4,(q7b (by omega)).2 n2,n1⟩
   have hn':∀x∈es,x.1.length≤100000:=fun x hx=>by have:=(hq x hx).2.1;omega
   obtain ⟨r1,r2⟩:=g6p h hK es hs' hn' hk h70;have h34:=b3r es (fun x hx=>⟨(r2 x hx).1,fun m hm=>(hk m (List.mem_flatMap.2 ⟨x,hx,hm⟩)).2,by have:=(r2 x hx).2.2;omega,by have:=(hq x hx).2.1;omega⟩) (by omega);have h30':=b5l es hne (fun x hx=>⟨(r2 x hx).1,(r2 x hx).2.1,by have:=(r2 x hx).2.2;omega⟩) (by omega) (by omega) h70;obtain ⟨c,h35,hc⟩:=b3s h es (by omega) hn' (by omega) hk;rw [hc hne hs' h70] at h35;have h36:=d36 es (by omega) fun x hx=>by have:=(r2 x hx).2.2;omega
   simp only [inF (rfl:(0:Int)=0),cond_false,h34,h30',Option.bind_some,cond_true,h35,ibT (rfl:(0:Int)=0)];by_cases h2:2000<(jl es).length
   · rw [if_pos h2]
     rfl
   · rw [if_neg h2]
     simp only [ibT (rfl:(0:Int)=0),cond_true,h36,Option.bind_some]
 · rw [g1 he]
   simp only [inT he,cond_true];rfl
end
theorem f0u (L:List En) (hL:L.length≤140737488351232) (s:List UInt8):C10 (L,s,())=some (true,()):=by
 obtain ⟨T,A,B,h18,hT⟩:=tk;have hK:=kt h18;obtain ⟨⟨fw,u⟩,h33,hfw⟩:=d33 L hL;dsimp only at hfw;show F10 C18 C29 C30 C33 C34 C35 C36 j9l _=_;simp only [F10,f3p,Option.bind_some,h33];cases fw with
 | false=>rfl
 | true =>
  obtain ⟨f1,f2⟩:=hfw rfl;simp only [Bool.not_true,cond_false];by_cases hs:(s.length:Int)>400
  · rw [decide_eq_true hs];rfl
  rw [decide_eq_false hs];have h0:=b3i hT hK s (by omega);obtain ⟨p,h34⟩:=d6h L (fun e he=>⟨(f2 e he).2.2,by have:=(f2 e he).2.1;omega,by have:=(f2 e he).1;omega⟩) (by omega);have hfl:=y3h 120 L fun e he=>(f2 e he).2.1;have hk:∀b∈L.flatMap fun x=>x.2.2,OkB b:=fun b hb=>by
   obtain ⟨e,he,hm⟩:=List.mem_flatMap.1 hb;have:=(f2 e he).2.2 b hm;exact ⟨by omega,by omega⟩
  have hn:∀e∈L,e.1.length≤100000:=fun e he=>by have:=(f2 e he).1;omega
  obtain ⟨c,h35,-⟩:=b3s hT L (by omega) hn (by omega) hk;simp only [cond_false,h18,h34,h35,Option.bind_some];by_cases hc:c=0
  · subst hc
    obtain ⟨hne,hsp,h70⟩:=p35 L (by omega) hn (by omega) _ h35 rfl;obtain ⟨r1,r2⟩:=g6p hT hK L hsp hn hk h70;have h34':=b3r L (fun x hx=>⟨(r2 x hx).1,fun m hm=>(hk m (List.mem_flatMap.2 ⟨x,hx,hm⟩)).2,by have:=(r2 x hx).2.2;omega,by have:=(f2 x hx).1;omega⟩) (by omega);rw [h34'] at h34;simp only [Option.some.injEq,Prod.mk.injEq,and_true] at h34;subst h34;have h30:=b5l L hne (fun x hx=>⟨(r2 x hx).1,(r2 x hx).2.1,by have:=(r2 x hx).2.2;omega⟩) (by omega) (by omega) h70;have h36:=d36 L (by omega) fun x hx=>by have:=(r2 x hx).2.2;omega
    simp only [ibT (rfl:(0:Int)=0),cond_true,h30,Option.bind_some];by_cases h2:2000<(jl L).length
    · rw [if_pos h2,decide_eq_true (by omega),decide_eq_false (by omega)]
      simp only [cond_true,cond_false,inF (rfl:(5:Int)=5),h0,Option.bind_some]
    · rw [if_neg h2,decide_eq_false (by omega),decide_eq_true (by omega)]
      simp only [cond_true,cond_false,inF (rfl:(0:Int)=0),h36,Bool.not_true,h0,Option.bind_some]
  · simp only [ibF hc,cond_false,h0,Option.bind_some]
end Go.Proofs.YtiacnhhmkdkpmaaGreatDoorA.W
namespace Go.Proofs.YtiacnhhmkdkpmaaGreatDoorA.PListBack
open Go Go.Ae Go.Proofs.YtiacnhhmkdkpmaaGreatDoorA.W
theorem pure (x0:(Ty.lst (.pair .str (.pair .bool (.lst (.pair .str .str))))).den) (b0:Bd (Ty.lst (.pair .str (.pair .bool (.lst (.pair .str .str))))) x0) (x1:Ty.str.den) (b1:Bd Ty.str x1):C10 (x0,x1,())=some (true,()):=f0u x0 b0.1 x1
end Go.Proofs.YtiacnhhmkdkpmaaGreatDoorA.PListBack
namespace Go.Proofs.YtiacnhhmkdkpmaaGreatDoor
open Go Go.Ae Go.RowKit
theorem glob {W:World} {p:Prop} (hL:p) (hsh:W.ShapedOpen Tryz.prog):GI W m0:=by
 obtain ⟨m,hm⟩:=Go.Proofs.cell_of_shapedOpen_int (g:=2) (k := .i64) (t:=3) (zero := #[.int .i64 0]) hsh (of_decide_eq_true (by kernel_rfl)) (by kernel_rfl) (by kernel_rfl) (by kernel_rfl) (by kernel_rfl) (by kernel_rfl);refine ⟨⟨m,hm⟩,fun b hb=>⟨?_,fun h=>h⟩⟩;simp only [q3w,List.mem_cons,List.not_mem_nil,or_false] at hb;subst hb;exact lt_of_cell hm
end Go.Proofs.YtiacnhhmkdkpmaaGreatDoor
