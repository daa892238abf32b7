/- The texts of the proof, one behind the other: PK3, PK4, PR0, PU1, PU2, PU3, PUE, PR1, PR2, PF1, PR3, PR4, PF2, PG1, PG2, PG3, PG4, PG5, PE1, PE2, PE3, PClientEight, PGlob. -/
import Derived.Test.YtgkmfhhghcccjaaGreatDoorAMt7
import Derived.Test.YtgkmfhhghcccjaaGreatDoorAMt2
import Derived.Test.YtgkmfhhghcccjaaGreatDoorAMt3
import Derived.Test.YtgkmfhhghcccjaaGreatDoorRows
import Derived.Test.YtgkmfhhghcccjaaGreatDoorProg
import Derived.MakeChecks
open Go.Proofs.Tryz
open Bool (and_eq_true)
open Int (toNat_natCast)
open List (all_eq_true getElem_mem length_cons length_nil length_set length_take mem_append mem_cons mem_cons_self mem_of_mem_take mem_singleton take_of_length_le)
open Nat (le_refl le_trans zero_le)
open Option (bind_eq_some_iff map_eq_some_iff map_some)
open Sum (elim_inl elim_inr)
set_option linter.unusedVariables false
set_option linter.unusedSimpArgs false
set_option maxRecDepth 100000
namespace Go.Proofs.YtgkmfhhghcccjaaGreatDoorA.W
open Go Go.Ae
abbrev Cho:=Int×Bool×List UInt8×List UInt8×Bool×List UInt8×List UInt8×Bool×Bool×Int×Unit
abbrev RR:=Bool×Bool×Int×Cho
abbrev VV:=Int×Bool×Int×Int×RR
structure MM where
 T:List R6
 A:List R4
 B:List R3
 nm:List UInt8
 fn:Bool
 fl:List UInt8
 fd:List UInt8
 ls:List (List UInt8)
 h:Bool
 b:Bool
 d:Bool
 ln:Int
 hp:Int
 z:Int
 tn:Bool
 tl:List UInt8
 td:List UInt8
abbrev SS:=List R6×List R4×List R3×List UInt8×Bool×List UInt8×List UInt8×List (List UInt8)×Bool×Bool×Bool×Int×Int×Int×Bool×List UInt8×List UInt8×VV
def full(m:MM)(v:VV):SS:=(m.T,m.A,m.B,m.nm,m.fn,m.fl,m.fd,m.ls,m.h,m.b,m.d,m.ln,m.hp,m.z,m.tn,m.tl,m.td,v)
def tag(n:Int):Nat->List (List UInt8)->List (Int×List UInt8)
 | _,[]=>[]
 | k,s::l=>((bif decide ((k:Int)<n)then 2 else 3),s)::tag n (k+1) l
theorem tag_app(n:Int):∀(k:Nat) (l r:List (List UInt8)),tag n k (l++r)=tag n k l++tag n (k+l.length) r
 | k,[],r=>by simp[tag]
 | k,s::l,r=>by
  simp only[List.cons_append,tag,tag_app n (k+1) l r,length_cons];rw[show k+1+l.length=k+(l.length+1) by omega]
theorem tag_len(n:Int):∀(k:Nat) (l:List (List UInt8)),(tag n k l).length=l.length
 | k,[]=>rfl
 | k,s::l=>by simp only[tag,length_cons,tag_len n (k+1) l]
theorem d35_l(n:Int)(ys:List (List UInt8))(T:List R6)(A:List R4)(B:List R3)(nm:List UInt8)(fn:Bool)(fl:List UInt8)(fd:List UInt8)(ls:List (List UInt8))(h:Bool)(b:Bool)(d:Bool)(ln:Int)(hp:Int)(z:Int)(tn:Bool)(tl:List UInt8)(td:List UInt8)(st:Int)(he:Bool)(re:Int)(ss:Int)(cu:Bool)(ce:Bool)(cz:Int)(k:Int)(gn:Bool)(gl:List UInt8)(gd:List UInt8)(vn:Bool)(vl:List UInt8)(vd:List UInt8)(e8:Bool)(u8:Bool)(cs:Int)(hl:ys.length<=1000000) :
 Df (C35_l0 (n,ys,(ys.length:Int),0,T,A,B,nm,fn,fl,fd,ls,h,b,d,ln,hp,z,tn,tl,td,st,he,re,ss,cu,ce,cz,k,gn,gl,gd,vn,vl,vd,e8,u8,cs,[],())) (λy=>y=(T,A,B,nm,fn,fl,fd,ls,h,b,d,ln,hp,z,tn,tl,td,st,he,re,ss,cu,ce,cz,k,gn,gl,gd,vn,vl,vd,e8,u8,cs,tag n 0 ys,())):=by
 refine dL ?I ?m ?h _ ?hv ?hn
 case I=>exact(λv=>∃i:Nat,i<=ys.length/\v=(n,ys,(ys.length:Int),(i:Int),T,A,B,nm,fn,fl,fd,ls,h,b,d,ln,hp,z,tn,tl,td,st,he,re,ss,cu,ce,cz,k,gn,gl,gd,vn,vl,vd,e8,u8,cs,tag n 0 (ys.take i),()))
 case m=>exact(λv=>ys.length-v.2.2.2.1.toNat)
 case hv=>exact⟨0,zero_le _,rfl⟩
 case hn=>exact(by(try dsimp only);omega)
 rintro _ ⟨i,hi,rfl⟩;unfold F35_l0;dsimp only;by_cases hlt:i<ys.length
 . have hg:ys.getD i []=ys[i]:=getD_lt hlt
   have htk:tag n 0 (ys.take (i+1))=tag n 0 (ys.take i)++[((bif decide ((i:Int)<n)then 2 else 3),ys[i])]:=by
    rw[take_succ_get hlt,tag_app];simp only[length_take,Nat.min_eq_left hi,Nat.zero_add,tag]
   have hlen:(tag n 0 (ys.take i)).length=i:=by rw[tag_len,length_take];omega
   rw[decide_eq_true (show (i:Int)<(ys.length:Int) by omega),decide_eq_true (show (0:Int)<=(i:Int) by omega)];simp only[cond_true,Bool.and_self,toNat_natCast,hg,hlen,length_cons,length_nil];rw[decide_eq_true (show i+(0+1)<=140737488355328/24 by omega),wrN i (by omega)];by_cases hn:(i:Int)<n
   . rw[decide_eq_true hn,cond_true,cond_true]
     rw[decide_eq_true hn,cond_true]at htk;rw[<-htk];exact dP ⟨⟨i+1,by omega,rfl⟩,by(try dsimp only);omega⟩
   . rw[decide_eq_false hn,cond_false,cond_true]
     rw[decide_eq_false hn,cond_false]at htk;rw[<-htk];exact dP ⟨⟨i+1,by omega,rfl⟩,by(try dsimp only);omega⟩
 . have:i=ys.length:=by omega
   subst this;rw[decide_eq_false (by omega),cond_false,take_of_length_le (le_refl _)];exact dP rfl
theorem lines_total:∀(l:List (List UInt8)),(∀x∈l,x.length<=1000000)->∃ys,linesC l=some ys/\ys.length=l.length
 | [],_=>⟨[],rfl,rfl⟩
 | x::l,h=>by
  obtain⟨ys,e,hy⟩:=lines_total l λy hy=>h y (by simp[hy]);obtain⟨⟨z,u⟩,e7,-⟩:=d76k x [46];have hx:=h x (by simp);refine⟨(bif z then 46::x else x)::ys,?_,by simp only[length_cons,hy]⟩;have hd:dotC x=some (bif z then 46::x else x):=by
   show (C76 (x,[46],())).bind _=_;rw[e7,Option.bind_some,decide_eq_true (by omega),cond_true]
  simp only[linesC,hd,Option.bind_some,e,map_some]
theorem d45k(l:List (List UInt8))(hl:l.length<=1000000000):Df (C45 (l,())) (λy=>0<=y.1/\y.1<=(l.length:Int)):=by
 unfold C45 F45;dsimp only;with_reducible repeat' (first|apply dP|apply dX<;>intro _)
 . exact⟨Int.le_refl _,by(try dsimp only);omega⟩
 . exact⟨Int.le_refl _,by(try dsimp only);omega⟩
 . refine dZ (P:=λy=>0<=y.1/\y.1<=(l.length:Int)) ?_ λ_ h=>dP h
   rename_i h0 _;have hl0:0<l.length:=by omega
   refine dL ?I ?m ?h _ ?hv ?hn
   case I=>exact(λv=>v.1=l/\0<=v.2.1/\v.2.1<=(l.length:Int))
   case m=>exact(λv=>l.length-v.2.1.toNat)
   case hv=>exact⟨rfl,by dsimp only;rw[w64s (by omega)];omega,by dsimp only;rw[w64s (by omega)];omega⟩
   case hn=>exact(by(try dsimp only);omega)
   rintro⟨x0,x1,u⟩ hI;dsimp only at hI;obtain⟨rfl,h1,h2⟩:=hI;unfold F45_g0;dsimp only;with_reducible repeat' (first|apply dP|apply dX<;>intro _)
   . exact⟨h1,h2⟩
   . exact⟨h1,h2⟩
   . rw[w64s (by omega)]
     exact⟨⟨rfl,by(try dsimp only);omega,by(try dsimp only);omega⟩,by(try dsimp only);omega⟩
   . omega
 . omega
def Msg(m:MM)(out:List (Int×List UInt8)):Prop:=∃n ys,C45 (m.ls,())=some (n,())/\linesC m.ls=some ys/\out=tag n 0 (ys++[[46]])
structure Mok (m:MM):Prop where
 tk:TK m.T m.A m.B
 nm:m.nm.length<=1000
 fl:m.fl.length<=1000
 fd:m.fd.length<=1000
 tl:m.tl.length<=1000
 td:m.td.length<=1000
 ls:m.ls.length<=100000
 lx:∀x∈m.ls,x.length<=100000
theorem s35{m:MM}(hm:Mok m)(v:VV):∃out,C35 (full m v)=some (out,full m (5,v.2))/\Msg m out:=by
 obtain⟨T,A,B,nm,fn,fl,fd,ls,h,b,d,ln,hp,z,tn,tl,td⟩:=m;obtain⟨st,he,re,ss,cu,ce,cz,k,gn,gl,gd,vn,vl,vd,e8,u8,cs,⟨⟩⟩:=v;obtain⟨⟨n,u⟩,e45,-⟩:=d45k ls (by have:=hm.ls;dsimp only at this;omega);obtain⟨ys,ey,hy⟩:=lines_total ls λx hx=>by have:=hm.lx x hx;omega
 have hls:=hm.ls;dsimp only at hls;have e56:C56 (ls,())=some (ys++[[46]],()):=by
  show (bif decide (ls.length<=1000000000)then(linesC ls).map λys=>(ys++[[46]],())else none)=_;rw[decide_eq_true (by omega),cond_true,ey,map_some]
 obtain⟨_,el,rfl⟩:=d35_l n (ys++[[46]]) T A B nm fn fl fd ls h b d ln hp z tn tl td st he re ss cu ce cz k gn gl gd vn vl vd e8 u8 cs (by simp only[qk];omega);refine⟨tag n 0 (ys++[[46]]),?_,n,ys,e45,ey,rfl⟩;show F35 C45 C56 C35_l0 _=_;simp only[F35,full,e45,e56,el,Option.bind_some]
theorem bind_id{α:Type}(x:Option α):(x.bind λval=>some val)=x:=by cases x<;>rfl
theorem bifD{α:Type}{p:Prop}{dp:Decidable p}(h:p){x y:α}:(bif decide p then x else y)=x:=by rw[decide_eq_true h];rfl
theorem s57(s:Int)(t:List UInt8)(m:MM)(v:VV):C57 (s,t,full m v)=some ([(1,t)],full m (s,v.2)):=by
 obtain⟨st,he,re,ss,cu,ce,cz,k,gn,gl,gd,vn,vl,vd,e8,u8,cs,⟨⟩⟩:=v;rfl
theorem s58(r s:Int)(m:MM)(v:VV):C58 (r,s,full m v)=some ([(1,[81,85,73,84])],full m (6,v.2.1,r,s,v.2.2.2.2)):=by
 obtain⟨st,he,re,ss,cu,ce,cz,k,gn,gl,gd,vn,vl,vd,e8,u8,cs,⟨⟩⟩:=v;rfl
theorem s37(c:Int)(rs:List (List UInt8))(m:MM)(v:VV):C37 (c,rs,full m v)=some ([(1,[81,85,73,84])],full m (6,v.2.1,2,0,v.2.2.2.2)):=by
 obtain⟨st,he,re,ss,cu,ce,cz,k,gn,gl,gd,vn,vl,vd,e8,u8,cs,⟨⟩⟩:=v;rfl
theorem s42(c:Int)(rs:List (List UInt8))(m:MM)(v:VV):C42 (c,rs,full m v)=some ([(1,[81,85,73,84])],full m (6,v.2.1,1,0,v.2.2.2.2)):=by
 obtain⟨st,he,re,ss,cu,ce,cz,k,gn,gl,gd,vn,vl,vd,e8,u8,cs,⟨⟩⟩:=v;rfl
theorem s41(c:Int)(rs:List (List UInt8))(m:MM)(v:VV):C41 (c,rs,full m v)=some ([(1,[68,65,84,65])],full m (4,v.2)):=by
 obtain⟨st,he,re,ss,cu,ce,cz,k,gn,gl,gd,vn,vl,vd,e8,u8,cs,⟨⟩⟩:=v;rfl
theorem s38(c:Int)(rs:List (List UInt8))(m:MM)(v:VV)(hm:m.nm.length<=1000):C38 (c,rs,full m v)=some ([(1,[69,72,76,79,32]++m.nm)],full m (1,v.2)):=by
 obtain⟨st,he,re,ss,cu,ce,cz,k,gn,gl,gd,vn,vl,vd,e8,u8,cs,⟨⟩⟩:=v;show F38 C57 _=_;simp only[F38,full];exact(bifD (by simp only[length_cons,length_nil];omega)).trans rfl
theorem s36h(m:MM)(v:VV)(hm:m.nm.length<=1000)(h1:v.1=1)(h2:v.2.1=false):C36 (full m v)=some ([(1,[72,69,76,79,32]++m.nm)],full m (1,true,v.2.2)):=by
 obtain⟨st,he,re,ss,cu,ce,cz,k,gn,gl,gd,vn,vl,vd,e8,u8,cs,⟨⟩⟩:=v;dsimp only at h1 h2;subst h1 h2;have h0:C36_c0 (true,full m (1,false,re,ss,cu,ce,cz,k,gn,gl,gd,vn,vl,vd,e8,u8,cs,()))=some (.inl ([(1,[72,69,76,79,32]++m.nm)],full m (1,true,re,ss,cu,ce,cz,k,gn,gl,gd,vn,vl,vd,e8,u8,cs,()))):=by
  show F36_c0 C57 C58 _=_;simp only[F36_c0,full,cond_true];exact(bifD (by simp only[length_cons,length_nil];omega)).trans rfl
 show F36 C57 C58 C36_c0 _=_;simp only[full]at h0;simp only[F36,full,beq_self_eq_true,cond_true,Bool.not_false,h0,Option.bind_some,elim_inl]
theorem s36f(m:MM)(v:VV)(h1:v.1=1->v.2.1=true):C36 (full m v)=some ([(1,[81,85,73,84])],full m (6,v.2.1,3,500,v.2.2.2.2)):=by
 have h0:C36_c0 (false,full m v)=some (.inr (full m v)):=by
  obtain⟨st,he,re,ss,cu,ce,cz,k,gn,gl,gd,vn,vl,vd,e8,u8,cs,⟨⟩⟩:=v;rfl
 have h5:=s58 3 500 m v;obtain⟨st,he,re,ss,cu,ce,cz,k,gn,gl,gd,vn,vl,vd,e8,u8,cs,⟨⟩⟩:=v;dsimp only at h1;simp only[full]at h0 h5 ⊢;show F36 C57 C58 C36_c0 _=_;by_cases hs:st=1
 . subst hs
   have:=h1 rfl;subst this;simp only[F36,beq_self_eq_true,cond_true,Bool.not_true,h0,Option.bind_some,elim_inr,h5]
 . simp only[F36,ibF hs,cond_false,h0,Option.bind_some,elim_inr,h5]
def From(r:RR)(t:List UInt8):Prop:=t.length<=10000/\∃z q,C123 (r.2.2.2.2.1,r.2.2.2.2.2.1,r.2.2.2.2.2.2.1,())=some (z,())/\t=[77,65,73,76]++([32,70,82,79,77,58]++z)++q/\(∀c∈q,c.toNat<128)
def To(r:RR)(t:List UInt8):Prop:=t.length<=10000/\∃z,C123 (r.2.2.2.2.2.2.2.1,r.2.2.2.2.2.2.2.2.1,r.2.2.2.2.2.2.2.2.2.1,())=some (z,())/\t=[82,67,80,84]++[32,84,79,58]++z
theorem s61(m:MM)(v:VV)(hr:ChB v.2.2.2.2.2.2.2):∃t,C61 (full m v)=some (t,full m v)/\t.length<=10000/\From v.2.2.2.2 t:=by
 obtain⟨st,he,re,ss,cu,ce,cz,k,gn,gl,gd,vn,vl,vd,e8,u8,cs,⟨⟩⟩:=v;obtain⟨⟨t,u⟩,e,hl,hf⟩:=t93m gn gl gd u8 e8 hr.1.1 hr.1.2;refine⟨t,?_,hl,hl,hf⟩;show F61 C93 _=_;simp only[F61,full,e,Option.bind_some]
theorem s62(m:MM)(v:VV)(hr:ChB v.2.2.2.2.2.2.2):∃t,C62 (full m v)=some (t,full m v)/\t.length<=10000/\To v.2.2.2.2 t:=by
 obtain⟨st,he,re,ss,cu,ce,cz,k,gn,gl,gd,vn,vl,vd,e8,u8,cs,⟨⟩⟩:=v;obtain⟨⟨t,u⟩,e,hl,hf⟩:=t93r vn vl vd hr.2.1 hr.2.2;refine⟨t,?_,hl,hl,hf⟩;show F62 C93 _=_;simp only[F62,full,e,Option.bind_some]
theorem s39c0(m:MM)(v:VV)(hr:ChB v.2.2.2.2.2.2.2) :
 (∃s,C39_c0 (full m v)=some ([(1,[81,85,73,84])],full m (6,v.2.1,3,s,v.2.2.2.2)))\/(v.2.2.2.2.2.2.2.1≠2/\∃t,C39_c0 (full m v)=some ([(1,t)],full m (2,v.2))/\From v.2.2.2.2 t):=by
 obtain⟨t,e61,hl,hf⟩:=s61 m v hr;obtain⟨t',e62,hl',hf'⟩:=s62 m v hr;have h5:=s58 3 500 m v;have h6:=s58 3 v.2.2.2.2.2.2.2.2.2.2.2.2.2.2.2.2.1 m v;have h7:=s57 2 t m v;obtain⟨st,he,re,ss,cu,ce,cz,k,gn,gl,gd,vn,vl,vd,e8,u8,cs,⟨⟩⟩:=v;dsimp only at h5 h6 h7 hf ⊢;simp only[full]at e61 e62 h5 h6 h7 ⊢;by_cases hk:k=2
 . subst hk
   refine .inl ⟨cs,?_⟩;show F39_c0 C57 C58 C59 C60 C61 C62 _=_;simp only[F39_c0,beq_self_eq_true,cond_true,h6,Option.bind_some]
 . by_cases h1:((t.length:Nat):Int)>510
   . refine .inl ⟨500,?_⟩
     show F39_c0 C57 C58 C59 C60 C61 C62 _=_;simp only[F39_c0,ibF hk,cond_false,e61,Option.bind_some,decide_eq_true h1,cond_true,h5]
   . by_cases h2:((t'.length:Nat):Int)>510
     . refine .inl ⟨500,?_⟩
       show F39_c0 C57 C58 C59 C60 C61 C62 _=_;simp only[F39_c0,ibF hk,cond_false,e61,e62,Option.bind_some,decide_eq_false h1,decide_eq_true h2,cond_true,h5]
     . refine .inr ⟨hk,t,?_,hf⟩
       show F39_c0 C57 C58 C59 C60 C61 C62 _=_;simp only[F39_c0,ibF hk,cond_false,e61,e62,Option.bind_some,decide_eq_false h1,decide_eq_false h2,h7]
theorem s39{m:MM}(hm:Mok m)(c:Int)(rs:List (List UInt8))(hn:rs.length<=1000)(hl:∀x∈rs,x.length<=100000)(v:VV) :
 ∃u e z ch,C60 (m.T,m.A,m.B,u,e,z,m.fn,m.fl,m.fd,m.tn,m.tl,m.td,m.h,m.b,m.z,())=some ch/\ChB ch /\
  ((∃s,C39 (c,rs,full m v)=some ([(1,[81,85,73,84])],full m (6,v.2.1,3,s,u,e,z,ch)))\/(ch.1≠2/\∃t,C39 (c,rs,full m v)=some ([(1,t)],full m (2,v.2.1,v.2.2.1,v.2.2.2.1,u,e,z,ch))/\From (u,e,z,ch) t)):=by
 have go:∀u e z,∃ch,C60 (m.T,m.A,m.B,u,e,z,m.fn,m.fl,m.fd,m.tn,m.tl,m.td,m.h,m.b,m.z,())=some ch/\ChB ch /\
  ((∃s,C39_c2 (full m (v.1,v.2.1,v.2.2.1,v.2.2.2.1,u,e,z,v.2.2.2.2.2.2.2))=some ([(1,[81,85,73,84])],full m (6,v.2.1,3,s,u,e,z,ch)))\/(ch.1≠2/\∃t,C39_c2 (full m (v.1,v.2.1,v.2.2.1,v.2.2.2.1,u,e,z,v.2.2.2.2.2.2.2))=some ([(1,t)],full m (2,v.2.1,v.2.2.1,v.2.2.2.1,u,e,z,ch))/\From (u,e,z,ch) t)):=by
  intro u e z;obtain⟨ch,e60,hb⟩:=t60 hm.tk u e z m.fn m.fl m.fd m.tn m.tl m.td m.h m.b m.z hm.fl hm.fd hm.tl hm.td;refine⟨ch,e60,hb,?_⟩;have hc:=s39c0 m (v.1,v.2.1,v.2.2.1,v.2.2.2.1,u,e,z,ch) hb;obtain⟨st,he,re,ss,cu,ce,cz,k,gn,gl,gd,vn,vl,vd,e8,u8,cs,⟨⟩⟩:=v;obtain⟨k2,gn2,gl2,gd2,vn2,vl2,vd2,e82,u82,cs2,⟨⟩⟩:=ch;have hcc:C39_c2 (full m (st,he,re,ss,u,e,z,k,gn,gl,gd,vn,vl,vd,e8,u8,cs,()))=C39_c0 (full m (st,he,re,ss,u,e,z,k2,gn2,gl2,gd2,vn2,vl2,vd2,e82,u82,cs2,())):=by
   show F39_c2 C57 C58 C59 C60 C61 C62 C39_c1 _=_;have h1:C39_c1 (m.T,m.A,m.B,m.nm,m.fn,m.fl,m.fd,m.ls,m.h,m.b,m.d,m.ln,m.hp,m.z,m.tn,m.tl,m.td,st,he,re,ss,u,e,z,k,gn,gl,gd,vn,vl,vd,e8,u8,cs,m.h,m.b,m.d,m.ln,m.hp,())=C39_c0 (full m (st,he,re,ss,u,e,z,k2,gn2,gl2,gd2,vn2,vl2,vd2,e82,u82,cs2,())):=by
    show F39_c1 C57 C58 C59 C60 C61 C62 C39_c0 _=_;simp only[F39_c1,e60,Option.bind_some];exact bind_id _
   simp only[F39_c2,full,h1];exact bind_id _
  dsimp only at hc ⊢;rw[hcc];exact hc
 have fin:∀u e z,C39 (c,rs,full m v)=C39_c2 (full m (v.1,v.2.1,v.2.2.1,v.2.2.2.1,u,e,z,v.2.2.2.2.2.2.2))->∃u e z ch,C60 (m.T,m.A,m.B,u,e,z,m.fn,m.fl,m.fd,m.tn,m.tl,m.td,m.h,m.b,m.z,())=some ch/\ChB ch /\
  ((∃s,C39 (c,rs,full m v)=some ([(1,[81,85,73,84])],full m (6,v.2.1,3,s,u,e,z,ch)))\/(ch.1≠2/\∃t,C39 (c,rs,full m v)=some ([(1,t)],full m (2,v.2.1,v.2.2.1,v.2.2.2.1,u,e,z,ch))/\From (u,e,z,ch) t)):=by
  intro u e z h;obtain⟨ch,k1,k2,k3⟩:=go u e z;rw[<-h]at k3;exact⟨u,e,z,ch,k1,k2,k3⟩
 obtain⟨st,he,re,ss,cu,ce,cz,k,gn,gl,gd,vn,vl,vd,e8,u8,cs,⟨⟩⟩:=v;cases he with
 | false =>
  obtain⟨⟨u,e,z,q⟩,e59,-⟩:=d59k c rs hn hl;refine fin u e z ?_;show F39 C57 C58 C59 C60 C61 C62 C39_c2 _=_;simp only[F39,full,Bool.not_false,cond_true,e59,Option.bind_some];exact bind_id _
 | true =>
  refine fin false false 0 ?_;show F39 C57 C58 C59 C60 C61 C62 C39_c2 _=_;simp only[F39,full,Bool.not_true,cond_false];exact bind_id _
theorem s40(m:MM)(c:Int)(rs:List (List UInt8))(v:VV)(hr:ChB v.2.2.2.2.2.2.2):∃t,C40 (c,rs,full m v)=some ([(1,t)],full m (3,v.2))/\To v.2.2.2.2 t:=by
 obtain⟨t,e62,hl,hf⟩:=s62 m v hr;have h7:=s57 3 t m v;obtain⟨st,he,re,ss,cu,ce,cz,k,gn,gl,gd,vn,vl,vd,e8,u8,cs,⟨⟩⟩:=v;refine⟨t,?_,hf⟩;simp only[full]at e62 h7 ⊢;show F40 C57 C62 _=_;simp only[F40,e62,Option.bind_some,h7]
inductive Rpl (m:MM):Int->VV->List (Int×List UInt8)->VV->Prop
 | over {c he re ss r}:Rpl m c (6,he,re,ss,r) [] (6,he,re,ss,r)
 | deaf {c v}:(c<200\/599<c)->Rpl m c v [] v
 | msg {c he re ss r out}:300<=c->Msg m out->Rpl m c (4,he,re,ss,r) out (5,he,re,ss,r)
 | helo {c re ss r}:300<=c->Rpl m c (1,false,re,ss,r) [(1,[72,69,76,79,32]++m.nm)] (1,true,re,ss,r)
 | fail {c st he re ss r k s}:st≠6->300<=c->k≠1->k≠0->Rpl m c (st,he,re,ss,r) [(1,[81,85,73,84])] (6,he,k,s,r)
 | greet {c he re ss r}:200<=c->c<300->Rpl m c (0,he,re,ss,r) [(1,[69,72,76,79,32]++m.nm)] (1,he,re,ss,r)
 | bad {c he re ss r s u e z ch}:200<=c->c<300->C60 (m.T,m.A,m.B,u,e,z,m.fn,m.fl,m.fd,m.tn,m.tl,m.td,m.h,m.b,m.z,())=some ch->Rpl m c (1,he,re,ss,r) [(1,[81,85,73,84])] (6,he,3,s,u,e,z,ch)
 | mail {c he re ss r t u e z ch}:200<=c->c<300->C60 (m.T,m.A,m.B,u,e,z,m.fn,m.fl,m.fd,m.tn,m.tl,m.td,m.h,m.b,m.z,())=some ch->ch.1≠2->From (u,e,z,ch) t->Rpl m c (1,he,re,ss,r) [(1,t)] (2,he,re,ss,u,e,z,ch)
 | rcpt {c he re ss r t}:200<=c->c<300->To r t->Rpl m c (2,he,re,ss,r) [(1,t)] (3,he,re,ss,r)
 | data {c he re ss r}:200<=c->c<300->Rpl m c (3,he,re,ss,r) [(1,[68,65,84,65])] (4,he,re,ss,r)
 | later {c he re ss r}:200<=c->c<300->Rpl m c (4,he,re,ss,r) [(1,[81,85,73,84])] (6,he,2,0,r)
 | done {c he re ss r}:200<=c->c<300->Rpl m c (5,he,re,ss,r) [(1,[81,85,73,84])] (6,he,1,0,r)
def Inv(m:MM)(v:VV):Prop:=(0<=v.1/\v.1<=6)/\(v.1≠6->v.2.2.1=0/\v.2.2.2.1=0)/\(v.1=6->v.2.2.1≠0) /\
 (2<=v.1->v.1<=5->(C60 (m.T,m.A,m.B,v.2.2.2.2.1,v.2.2.2.2.2.1,v.2.2.2.2.2.2.1,m.fn,m.fl,m.fd,m.tn,m.tl,m.td,m.h,m.b,m.z,())=some v.2.2.2.2.2.2.2/\v.2.2.2.2.2.2.2.1≠2/\ChB v.2.2.2.2.2.2.2))
theorem c1_end(c y:Int)(rs:List (List UInt8))(T:List R6)(A:List R4)(B:List R3)(nm:List UInt8)(fn:Bool)(fl:List UInt8)(fd:List UInt8)(ls:List (List UInt8))(h:Bool)(b:Bool)(d:Bool)(ln:Int)(hp:Int)(z:Int)(tn:Bool)(tl:List UInt8)(td:List UInt8)(st:Int)(he:Bool)(re:Int)(ss:Int)(cu:Bool)(ce:Bool)(cz:Int)(k:Int)(gn:Bool)(gl:List UInt8)(gd:List UInt8)(vn:Bool)(vl:List UInt8)(vd:List UInt8)(e8:Bool)(u8:Bool)(cs:Int):C14_c1 (y,true,T,A,B,nm,fn,fl,fd,ls,h,b,d,ln,hp,z,tn,tl,td,st,he,re,ss,cu,ce,cz,k,gn,gl,gd,vn,vl,vd,e8,u8,cs,c,rs,())=some (.inl ([],T,A,B,nm,fn,fl,fd,ls,h,b,d,ln,hp,z,tn,tl,td,st,he,re,ss,cu,ce,cz,k,gn,gl,gd,vn,vl,vd,e8,u8,cs,())):=rfl
theorem c1_go(c y:Int)(rs:List (List UInt8))(T:List R6)(A:List R4)(B:List R3)(nm:List UInt8)(fn:Bool)(fl:List UInt8)(fd:List UInt8)(ls:List (List UInt8))(h:Bool)(b:Bool)(d:Bool)(ln:Int)(hp:Int)(z:Int)(tn:Bool)(tl:List UInt8)(td:List UInt8)(st:Int)(he:Bool)(re:Int)(ss:Int)(cu:Bool)(ce:Bool)(cz:Int)(k:Int)(gn:Bool)(gl:List UInt8)(gd:List UInt8)(vn:Bool)(vl:List UInt8)(vd:List UInt8)(e8:Bool)(u8:Bool)(cs:Int):C14_c1 (y,false,T,A,B,nm,fn,fl,fd,ls,h,b,d,ln,hp,z,tn,tl,td,st,he,re,ss,cu,ce,cz,k,gn,gl,gd,vn,vl,vd,e8,u8,cs,c,rs,())=C14_c0 (y,(bif y==3 then st==4 else false),T,A,B,nm,fn,fl,fd,ls,h,b,d,ln,hp,z,tn,tl,td,st,he,re,ss,cu,ce,cz,k,gn,gl,gd,vn,vl,vd,e8,u8,cs,c,rs,()):=by
 show F14_c1 C34 C35 C36 C37 C38 C39 C40 C41 C42 C14_c0 _=_;have idb:∀x,(C14_c0 x).bind (λval=>Sum.elim (λval=>some (Sum.inl val)) (λval=>some (Sum.inr val)) val)=C14_c0 x:=λx=>by
  cases C14_c0 x with
  | none=>rfl
  | some r=>cases r<;>rfl
 by_cases h:y=3
 . simp only[F14_c1,cond_false,ibT h,cond_true]
   exact idb _
 . simp only[F14_c1,cond_false,ibF h]
   exact idb _
set_option maxHeartbeats 1000000 in
theorem take_inl{m:MM}{c y:Int}{rs:List (List UInt8)}{v:VV}{r}(e34:C34 (c,())=some (y,()))(h:∀b,(b=true↔v.1=6\/y=0)->C14_c1 (y,b,m.T,m.A,m.B,m.nm,m.fn,m.fl,m.fd,m.ls,m.h,m.b,m.d,m.ln,m.hp,m.z,m.tn,m.tl,m.td,v.1,v.2.1,v.2.2.1,v.2.2.2.1,v.2.2.2.2.1,v.2.2.2.2.2.1,v.2.2.2.2.2.2.1,v.2.2.2.2.2.2.2.1,v.2.2.2.2.2.2.2.2.1,v.2.2.2.2.2.2.2.2.2.1,v.2.2.2.2.2.2.2.2.2.2.1,v.2.2.2.2.2.2.2.2.2.2.2.1,v.2.2.2.2.2.2.2.2.2.2.2.2.1,v.2.2.2.2.2.2.2.2.2.2.2.2.2.1,v.2.2.2.2.2.2.2.2.2.2.2.2.2.2.1,v.2.2.2.2.2.2.2.2.2.2.2.2.2.2.2.1,v.2.2.2.2.2.2.2.2.2.2.2.2.2.2.2.2.1,c,rs,())=some (.inl r)):C14 (c,rs,full m v)=some r:=by
 obtain⟨st,he,re,ss,cu,ce,cz,k,gn,gl,gd,vn,vl,vd,e8,u8,cs,⟨⟩⟩:=v;dsimp only at h;show F14 C34 C35 C36 C37 C38 C39 C40 C41 C42 C14_c1 _=_;by_cases hs:st=6
 . have:=h true ⟨λ_ => .inl hs,λ_=>rfl⟩
   simp only[F14,full,e34,Option.bind_some,ibT hs,cond_true,this,elim_inl]
 . have:=h (y==0) ⟨λhy => .inr (by simpa using hy),λhy=>by rcases hy with hy|hy;exact(hs hy).elim;exact ibT hy⟩
   simp only[F14,full,e34,Option.bind_some,ibF hs,cond_false,this,elim_inl]
set_option maxHeartbeats 1000000 in
theorem take_inr{m:MM}{c:Int}{rs:List (List UInt8)}{v:VV}(h2:200<=c/\c<300)(hs:v.1≠6):C14 (c,rs,full m v) =
 bif decide (v.1=0)then C38 (c,rs,full m v)else bif decide (v.1=1)then C39 (c,rs,full m v)else bif decide (v.1=2)then C40 (c,rs,full m v)else bif decide (v.1=3)then C41 (c,rs,full m v)else bif decide (v.1=4)then C37 (c,rs,full m v)else bif decide (v.1=5)then C42 (c,rs,full m v)else none:=by
 obtain⟨⟨y,u⟩,e34,hy,-⟩:=c34 c;have hy2:y=2:=hy.2 h2;subst hy2;obtain⟨st,he,re,ss,cu,ce,cz,k,gn,gl,gd,vn,vl,vd,e8,u8,cs,⟨⟩⟩:=v;dsimp only at hs;have hc:C14_c1 (2,(2:Int)==0,m.T,m.A,m.B,m.nm,m.fn,m.fl,m.fd,m.ls,m.h,m.b,m.d,m.ln,m.hp,m.z,m.tn,m.tl,m.td,st,he,re,ss,cu,ce,cz,k,gn,gl,gd,vn,vl,vd,e8,u8,cs,c,rs,()) =
  some (.inr (m.T,m.A,m.B,m.nm,m.fn,m.fl,m.fd,m.ls,m.h,m.b,m.d,m.ln,m.hp,m.z,m.tn,m.tl,m.td,st,he,re,ss,cu,ce,cz,k,gn,gl,gd,vn,vl,vd,e8,u8,cs,c,rs,())):=rfl
 show F14 C34 C35 C36 C37 C38 C39 C40 C41 C42 C14_c1 _=_;simp only[F14,full,e34,Option.bind_some,ibF hs,cond_false,hc,elim_inr,Q14,bind_id]
theorem c34x(c:Int):∃y,C34 (c,())=some (y,())/\((200<=c/\c<=599/\y=c/100)\/((c<200\/599<c)/\y=0)):=by
 by_cases h:200<=c
 . by_cases h':c<=599
   . refine⟨c/100,?_,.inl ⟨h,h',rfl⟩⟩
     have e55:C55 (c,())=some (true,()):=by
      show F55 _=_;simp only[F55];rw[decide_eq_true (show c>=200 from h),cond_true,decide_eq_true h']
     have e:Int.tdiv c 100=c/100:=by rw[Int.tdiv_eq_ediv_of_nonneg (by omega)]
     show F34 C55 _=_;simp only[F34,e55,Option.bind_some,Bool.not_true,cond_false,e];rw[w64s (n:=c/100) (by omega)]
   . refine⟨0,?_,.inr ⟨.inr (by omega),rfl⟩⟩
     have e55:C55 (c,())=some (false,()):=by
      show F55 _=_;simp only[F55];rw[decide_eq_true (show c>=200 from h),cond_true,decide_eq_false h']
     show F34 C55 _=_;simp only[F34,e55,Option.bind_some,Bool.not_false,cond_true]
 . refine⟨0,?_,.inr ⟨.inl (by omega),rfl⟩⟩
   have e55:C55 (c,())=some (false,()):=by
    show F55 _=_;simp only[F55];rw[decide_eq_false (show ¬c>=200 from h),cond_false]
   show F34 C55 _=_;simp only[F34,e55,Option.bind_some,Bool.not_false,cond_true]
theorem c0_msg(c y:Int)(rs:List (List UInt8))(T:List R6)(A:List R4)(B:List R3)(nm:List UInt8)(fn:Bool)(fl:List UInt8)(fd:List UInt8)(ls:List (List UInt8))(h:Bool)(b:Bool)(d:Bool)(ln:Int)(hp:Int)(z:Int)(tn:Bool)(tl:List UInt8)(td:List UInt8)(st:Int)(he:Bool)(re:Int)(ss:Int)(cu:Bool)(ce:Bool)(cz:Int)(k:Int)(gn:Bool)(gl:List UInt8)(gd:List UInt8)(vn:Bool)(vl:List UInt8)(vd:List UInt8)(e8:Bool)(u8:Bool)(cs:Int):C14_c0 (y,true,T,A,B,nm,fn,fl,fd,ls,h,b,d,ln,hp,z,tn,tl,td,st,he,re,ss,cu,ce,cz,k,gn,gl,gd,vn,vl,vd,e8,u8,cs,c,rs,())=(C35 (T,A,B,nm,fn,fl,fd,ls,h,b,d,ln,hp,z,tn,tl,td,st,he,re,ss,cu,ce,cz,k,gn,gl,gd,vn,vl,vd,e8,u8,cs,())).bind (λval=>some (.inl val)):=rfl
theorem c0_ref(c:Int)(rs:List (List UInt8))(T:List R6)(A:List R4)(B:List R3)(nm:List UInt8)(fn:Bool)(fl:List UInt8)(fd:List UInt8)(ls:List (List UInt8))(h:Bool)(b:Bool)(d:Bool)(ln:Int)(hp:Int)(z:Int)(tn:Bool)(tl:List UInt8)(td:List UInt8)(st:Int)(he:Bool)(re:Int)(ss:Int)(cu:Bool)(ce:Bool)(cz:Int)(k:Int)(gn:Bool)(gl:List UInt8)(gd:List UInt8)(vn:Bool)(vl:List UInt8)(vd:List UInt8)(e8:Bool)(u8:Bool)(cs:Int):C14_c0 (5,false,T,A,B,nm,fn,fl,fd,ls,h,b,d,ln,hp,z,tn,tl,td,st,he,re,ss,cu,ce,cz,k,gn,gl,gd,vn,vl,vd,e8,u8,cs,c,rs,())=(C36 (T,A,B,nm,fn,fl,fd,ls,h,b,d,ln,hp,z,tn,tl,td,st,he,re,ss,cu,ce,cz,k,gn,gl,gd,vn,vl,vd,e8,u8,cs,())).bind (λval=>some (.inl val)):=rfl
theorem c0_late(c y:Int)(rs:List (List UInt8))(h5:y≠5)(h2:y≠2)(T:List R6)(A:List R4)(B:List R3)(nm:List UInt8)(fn:Bool)(fl:List UInt8)(fd:List UInt8)(ls:List (List UInt8))(h:Bool)(b:Bool)(d:Bool)(ln:Int)(hp:Int)(z:Int)(tn:Bool)(tl:List UInt8)(td:List UInt8)(st:Int)(he:Bool)(re:Int)(ss:Int)(cu:Bool)(ce:Bool)(cz:Int)(k:Int)(gn:Bool)(gl:List UInt8)(gd:List UInt8)(vn:Bool)(vl:List UInt8)(vd:List UInt8)(e8:Bool)(u8:Bool)(cs:Int):C14_c0 (y,false,T,A,B,nm,fn,fl,fd,ls,h,b,d,ln,hp,z,tn,tl,td,st,he,re,ss,cu,ce,cz,k,gn,gl,gd,vn,vl,vd,e8,u8,cs,c,rs,())=(C37 (c,rs,T,A,B,nm,fn,fl,fd,ls,h,b,d,ln,hp,z,tn,tl,td,st,he,re,ss,cu,ce,cz,k,gn,gl,gd,vn,vl,vd,e8,u8,cs,())).bind (λval=>some (.inl val)):=by
 show F14_c0 C34 C35 C36 C37 C38 C39 C40 C41 C42 _=_;simp only[F14_c0,cond_false,ibF h5,inT h2,cond_true]
theorem take_ok{m:MM}(hm:Mok m)(c:Int)(rs:List (List UInt8))(hn:rs.length<=1000)(hl:∀x∈rs,x.length<=100000)(v:VV)(hv:Inv m v) :
 ∃out v',C14 (c,rs,full m v)=some (out,full m v')/\Rpl m c v out v'/\Inv m v':=by
 obtain⟨y,e34,hy⟩:=c34x c;obtain⟨st,he,re,ss,r⟩:=v;obtain⟨⟨i1,i2⟩,i3,i4,i5⟩:=hv;dsimp only at i1 i2 i3 i4 i5;have quit:∀(k s:Int) (h:Bool) (q:RR),k≠0->Inv m (6,h,k,s,q):=λk s h q hk=>⟨⟨(by decide:(0:Int)<=6),(by decide:(6:Int)<=6)⟩,λh=>(h rfl).elim,λ_=>hk,λ_ (h:(6:Int)<=5)=>absurd h (by decide)⟩
 by_cases hs:st=6
 . subst hs
   refine⟨[],(6,he,re,ss,r),?_,.over,⟨⟨i1,i2⟩,i3,i4,i5⟩⟩;exact take_inl e34 λb hb=>by rw[hb.2 (.inl rfl)];exact c1_end _ _ _ m.T m.A m.B m.nm m.fn m.fl m.fd m.ls m.h m.b m.d m.ln m.hp m.z m.tn m.tl m.td _ _ _ _ _ _ _ _ _ _ _ _ _ _ _ _ _
 by_cases hy0':y=0
 . refine⟨[],(st,he,re,ss,r),?_,.deaf (by omega),⟨⟨i1,i2⟩,i3,i4,i5⟩⟩
   exact take_inl e34 λb hb=>by rw[hb.2 (.inr hy0')];exact c1_end _ _ _ m.T m.A m.B m.nm m.fn m.fl m.fd m.ls m.h m.b m.d m.ln m.hp m.z m.tn m.tl m.td _ _ _ _ _ _ _ _ _ _ _ _ _ _ _ _ _
 have hb0:∀b:Bool,(b=true↔st=6\/y=0)->b=false:=λb hb=>by
  cases b with
  | false=>rfl
  | true=>rcases hb.1 rfl with h|h;exact(hs h).elim;exact(hy0' h).elim
 by_cases hg:y=3/\st=4
 . obtain⟨rfl,rfl⟩:=hg
   obtain⟨out,e35,hmsg⟩:=s35 hm (4,he,re,ss,r);refine⟨out,(5,he,re,ss,r),?_,.msg (by omega) hmsg,⟨⟨by(try dsimp only);omega,by(try dsimp only);omega⟩,λ_=>i3 (by decide),λh=>absurd h (by simp),λ_ _=>i5 (by decide) (by decide)⟩⟩;refine take_inl e34 λb hb => ?_;rw[hb0 b hb];refine(c1_go _ _ _ m.T m.A m.B m.nm m.fn m.fl m.fd m.ls m.h m.b m.d m.ln m.hp m.z m.tn m.tl m.td _ _ _ _ _ _ _ _ _ _ _ _ _ _ _ _ _).trans ?_;refine(c0_msg _ _ _ m.T m.A m.B m.nm m.fn m.fl m.fd m.ls m.h m.b m.d m.ln m.hp m.z m.tn m.tl m.td _ _ _ _ _ _ _ _ _ _ _ _ _ _ _ _ _).trans ?_;exact congrArg (λo=>Option.bind o (λval=>some (Sum.inl val))) e35
 have hgf:(bif y==3 then st==4 else false)=false:=by
  by_cases h3:y=3
  . rw[ibT h3,cond_true,ibF (λh=>hg ⟨h3,h⟩)]
  . rw[ibF h3,cond_false]
 by_cases hy5:y=5
 . subst hy5
   by_cases hh:st=1/\he=false
   . obtain⟨rfl,rfl⟩:=hh
     refine⟨_,(1,true,re,ss,r),?_,.helo (by omega),⟨⟨by(try dsimp only);omega,by(try dsimp only);omega⟩,λ_=>i3 (by decide),λh=>absurd h (by simp),λh=>absurd h (by simp)⟩⟩;refine take_inl e34 λb hb => ?_;rw[hb0 b hb];refine(c1_go _ _ _ m.T m.A m.B m.nm m.fn m.fl m.fd m.ls m.h m.b m.d m.ln m.hp m.z m.tn m.tl m.td _ _ _ _ _ _ _ _ _ _ _ _ _ _ _ _ _).trans ?_;refine(c0_ref _ _ m.T m.A m.B m.nm m.fn m.fl m.fd m.ls m.h m.b m.d m.ln m.hp m.z m.tn m.tl m.td _ _ _ _ _ _ _ _ _ _ _ _ _ _ _ _ _).trans ?_;exact congrArg (λo=>Option.bind o (λval=>some (Sum.inl val))) (s36h m (1,false,re,ss,r) hm.nm rfl rfl)
   . refine⟨_,(6,he,3,500,r),?_,.fail hs (by omega) (by decide) (by decide),quit 3 500 he r (by decide)⟩
     refine take_inl e34 λb hb => ?_;rw[hb0 b hb];refine(c1_go _ _ _ m.T m.A m.B m.nm m.fn m.fl m.fd m.ls m.h m.b m.d m.ln m.hp m.z m.tn m.tl m.td _ _ _ _ _ _ _ _ _ _ _ _ _ _ _ _ _).trans ?_;refine(c0_ref _ _ m.T m.A m.B m.nm m.fn m.fl m.fd m.ls m.h m.b m.d m.ln m.hp m.z m.tn m.tl m.td _ _ _ _ _ _ _ _ _ _ _ _ _ _ _ _ _).trans ?_;exact congrArg (λo=>Option.bind o (λval=>some (Sum.inl val))) (s36f m (st,he,re,ss,r) (λh1=>by
      cases he with
      | true=>rfl
      | false=>exact(hh ⟨h1,rfl⟩).elim))
 by_cases hy2:y=2
 . have hc:200<=c/\c<300:=by omega
   have hin:=take_inr (m:=m) (rs:=rs) (v:=(st,he,re,ss,r)) hc hs;have hst:st=0\/st=1\/st=2\/st=3\/st=4\/st=5:=by omega
   rcases hst with rfl|rfl|rfl|rfl|rfl|rfl
   . exact⟨_,(1,he,re,ss,r),hin.trans (s38 c rs m (0,he,re,ss,r) hm.nm),.greet hc.1 hc.2,⟨⟨by(try dsimp only);omega,by(try dsimp only);omega⟩,λ_=>i3 (by decide),λh=>absurd h (by simp),λh=>absurd h (by simp)⟩⟩
   . obtain⟨u,e,z,ch,e60,hB,⟨s,h39⟩|⟨hk,t,h39,hf⟩⟩:=s39 hm c rs hn hl (1,he,re,ss,r)
     . exact⟨_,(6,he,3,s,u,e,z,ch),hin.trans h39,.bad hc.1 hc.2 e60,quit 3 s he _ (by decide)⟩
     . exact⟨_,(2,he,re,ss,u,e,z,ch),hin.trans h39,.mail hc.1 hc.2 e60 hk hf,⟨⟨by(try dsimp only);omega,by(try dsimp only);omega⟩,λ_=>i3 (by decide),λh=>absurd h (by simp),λ_ _=>⟨e60,hk,hB⟩⟩⟩
   . obtain⟨t,h40,ht⟩:=s40 m c rs (2,he,re,ss,r) (i5 (by decide) (by decide)).2.2
     exact⟨_,(3,he,re,ss,r),hin.trans h40,.rcpt hc.1 hc.2 ht,⟨⟨by(try dsimp only);omega,by(try dsimp only);omega⟩,λ_=>i3 (by decide),λh=>absurd h (by simp),λ_ _=>i5 (by decide) (by decide)⟩⟩
   . exact⟨_,(4,he,re,ss,r),hin.trans (s41 c rs m (3,he,re,ss,r)),.data hc.1 hc.2,⟨⟨by(try dsimp only);omega,by(try dsimp only);omega⟩,λ_=>i3 (by decide),λh=>absurd h (by simp),λ_ _=>i5 (by decide) (by decide)⟩⟩
   . exact⟨_,(6,he,2,0,r),hin.trans (s37 c rs m (4,he,re,ss,r)),.later hc.1 hc.2,quit 2 0 he r (by decide)⟩
   . exact⟨_,(6,he,1,0,r),hin.trans (s42 c rs m (5,he,re,ss,r)),.done hc.1 hc.2,quit 1 0 he r (by decide)⟩
 . refine⟨_,(6,he,2,0,r),?_,.fail hs (by omega) (by decide) (by decide),quit 2 0 he r (by decide)⟩
   refine take_inl e34 λb hb => ?_;rw[hb0 b hb];refine(c1_go _ _ _ m.T m.A m.B m.nm m.fn m.fl m.fd m.ls m.h m.b m.d m.ln m.hp m.z m.tn m.tl m.td _ _ _ _ _ _ _ _ _ _ _ _ _ _ _ _ _).trans ?_;rw[hgf];refine(c0_late _ _ _ hy5 hy2 m.T m.A m.B m.nm m.fn m.fl m.fd m.ls m.h m.b m.d m.ln m.hp m.z m.tn m.tl m.td _ _ _ _ _ _ _ _ _ _ _ _ _ _ _ _ _).trans ?_;exact congrArg (λo=>Option.bind o (λval=>some (Sum.inl val))) (s37 c rs m (st,he,re,ss,r))
abbrev Pa:=Bool×List UInt8×List UInt8
def smL(l:List (List UInt8)):Nat:=(l.map λx=>x.length+1).sum
theorem smL_app(a b:List (List UInt8)):smL (a++b)=smL a+smL b:=by simp[smL]
theorem smL_mem:∀{l:List (List UInt8)} {x},x∈l->x.length+1<=smL l
 | y::l,x,h=>by
  have e:smL (y::l)=y.length+1+smL l:=by simp[smL]
  rcases mem_cons.1 h with rfl|h
  . omega
  . have:=smL_mem h;omega
theorem smL_len:∀l:List (List UInt8),l.length<=smL l
 | []=>le_refl _
 | y::l=>by
  have e:smL (y::l)=y.length+1+smL l:=by simp[smL]
  have:=smL_len l;simp only[length_cons];omega
theorem smL_take{l:List (List UInt8)}{i:Nat}(h:i<l.length):smL (l.take (i+1))=smL (l.take i)+(l[i].length+1):=by
 rw[take_succ_get h,smL_app];simp[smL]
theorem smL_le{l:List (List UInt8)}(i:Nat):smL (l.take i)<=smL l:=by
 have:=smL_app (l.take i) (l.drop i);rw[List.take_append_drop]at this;omega
theorem c10(a b:List UInt8):Df (C10 (a,b,())) (λy=>y.1=true->a.length<=150/\b.length<=200):=by
 unfold C10 F10;dsimp only;with_reducible repeat' (first|apply dP|apply dX<;>intro _)
 . intro h
   have:=of_decide_eq_true h;omega
 . intro h;cases h
theorem c8k(fn:Bool)(fl fd:List UInt8)(to:List Pa)(ls:List (List UInt8))(h b d:Bool)(ln hp z:Int)(hs:smL ls<=100000000) :
 Df (C8 (fn,fl,fd,to,ls,h,b,d,ln,hp,z,())) (λy=>y.1=true->(fl.length<=150/\fd.length<=200)/\smL ls<=3000):=by
 have hl:=smL_len ls;unfold C8 F8;dsimp only;refine dZ (P:=λy=>y=(((smL ls:Nat):Int),fn,fl,fd,to,ls,h,b,d,ln,hp,z,())) ?_ ?_
 . refine dL ?I ?m ?h _ ?hv ?hn
   case I=>exact(λv=>∃i:Nat,i<=ls.length/\v=(((smL (ls.take i):Nat):Int),(i:Int),fn,fl,fd,to,ls,h,b,d,ln,hp,z,()))
   case m=>exact(λv=>ls.length-v.2.1.toNat)
   case hv=>exact⟨0,zero_le _,rfl⟩
   case hn=>exact(by(try dsimp only);omega)
   rintro _ ⟨i,hi,rfl⟩;unfold F8_l0;dsimp only;by_cases hlt:i<ls.length
   . have hg:ls.getD i []=ls[i]:=getD_lt hlt
     have ht:=smL_take hlt;have hle:=smL_le (l:=ls) i;have hle2:=smL_le (l:=ls) (i+1);rw[decide_eq_true (show (i:Int)<(ls.length:Int) by omega),decide_eq_true (show (0:Int)<=(i:Int) by omega)];simp only[cond_true,Bool.and_self,toNat_natCast,hg];rw[w64s (n:=((smL (ls.take i):Nat):Int)+((ls[i].length:Nat):Int)) (by omega),w64s (by omega),wrN i (by omega)];rw[show ((smL (ls.take i):Nat):Int)+((ls[i].length:Nat):Int)+1=((smL (ls.take (i+1)):Nat):Int) by omega];exact dP ⟨⟨i+1,by omega,rfl⟩,by(try dsimp only);omega⟩
   . have:i=ls.length:=by omega
     subst this;rw[decide_eq_false (by omega),cond_false,take_of_length_le (le_refl _)];exact dP rfl
 . rintro _ rfl
   dsimp only;refine dZ (c10 fl fd) ?_;rintro⟨y,u⟩ hy;dsimp only at hy ⊢;cases y with
   | true =>
    rw[cond_true];refine dP λhh=>⟨hy rfl,?_⟩
    have:=of_decide_eq_true hh;omega
   | false=>exact dP λhh=>by cases hh
abbrev Rp:=Int×List (List UInt8)
def Sh(r:Rp):Prop:=r.2.length<=20/\∀x∈r.2,x.length<=200
theorem c9_l0(l:List Rp)(i:Nat)(hi:i<l.length)(hl:l.length<=100000000)(hk:l[i].2.length<=100000000) :
 Df (C9_l0 (l,(i:Int),0,())) (Sum.elim (λy=>y=(l,(i:Int),())/\∀x∈l[i].2,x.length<=200) (λy=>y.1=false)):=by
 refine dL ?I ?m ?h _ ?hv ?hn
 case I=>exact(λv=>∃k:Nat,k<=l[i].2.length/\v=(l,(i:Int),(k:Int),())/\∀x∈l[i].2.take k,x.length<=200)
 case m=>exact(λv=>l[i].2.length-v.2.2.1.toNat)
 case hv=>exact⟨0,zero_le _,rfl,λx hx=>by simp at hx⟩
 case hn=>exact(by(try dsimp only);omega)
 rintro _ ⟨k,hk',rfl,hx⟩;have hg:l.getD i (0,[])=l[i]:=getD_lt hi;unfold F9_l0;dsimp only;rw[decide_eq_true (show (i:Int)<(l.length:Int) by omega),decide_eq_true (show (0:Int)<=(i:Int) by omega)];simp only[cond_true,Bool.and_self,toNat_natCast,hg];by_cases hlt:k<l[i].2.length
 . have hg2:l[i].2.getD k []=l[i].2[k]:=getD_lt hlt
   rw[decide_eq_true (show (k:Int)<(l[i].2.length:Int) by omega),decide_eq_true (show (0:Int)<=(k:Int) by omega)];simp only[cond_true,Bool.and_self,hg2];by_cases h2:((l[i].2[k].length:Nat):Int)>200
   . rw[decide_eq_true h2,cond_true]
     exact dP rfl
   . rw[decide_eq_false h2,cond_false,wrN k (by omega)]
     refine dP ⟨⟨k+1,by omega,rfl,λx hx' => ?_⟩,by(try dsimp only);omega⟩;rw[take_succ_get hlt]at hx';rcases mem_append.1 hx' with h|h
     . exact hx x h
     . rw[mem_singleton.1 h];omega
 . have:k=l[i].2.length:=by omega
   subst this;rw[decide_eq_false (by omega),cond_false];refine dP ⟨rfl,λx hx'=>hx x (by rwa[take_of_length_le (le_refl _)])⟩
theorem c9k(l:List Rp)(hl:l.length<=100000000)(hk:∀r∈l,r.2.length<=100000000):Df (C9 (l,())) (λy=>y.1=true->l.length<=30/\∀r∈l,Sh r):=by
 unfold C9 F9;dsimp only;refine dZ (P:=Sum.elim (λy=>y.1=l/\∀r∈l,Sh r) (λy=>y.1=false)) ?_ ?_
 . refine dL ?I ?m ?h _ ?hv ?hn
   case I=>exact(λv=>∃i:Nat,i<=l.length/\v=(l,(i:Int),())/\∀r∈l.take i,Sh r)
   case m=>exact(λv=>l.length-v.2.1.toNat)
   case hv=>exact⟨0,zero_le _,rfl,λx hx=>by simp at hx⟩
   case hn=>exact(by(try dsimp only);omega)
   rintro _ ⟨i,hi,rfl,hx⟩;unfold F9_l1;dsimp only;by_cases hlt:i<l.length
   . have hg:l.getD i (0,[])=l[i]:=getD_lt hlt
     have hm:=hk _ (getElem_mem hlt);rw[decide_eq_true (show (i:Int)<(l.length:Int) by omega),decide_eq_true (show (0:Int)<=(i:Int) by omega)];simp only[cond_true,Bool.and_self,toNat_natCast,hg];by_cases h20:((l[i].2.length:Nat):Int)>20
     . rw[decide_eq_true h20,cond_true]
       exact dP rfl
     . rw[decide_eq_false h20,cond_false]
       refine dZ (c9_l0 l i hlt hl hm) ?_;rintro (y|y) hy
       . obtain⟨rfl,hy⟩:=hy
         dsimp only[elim_inl];rw[wrN i (by omega)];refine dP ⟨⟨i+1,by omega,rfl,λr hr => ?_⟩,by(try dsimp only);omega⟩;rw[take_succ_get hlt]at hr;rcases mem_append.1 hr with h|h
         . exact hx r h
         . rw[mem_singleton.1 h];exact⟨by omega,hy⟩
       . exact dP hy
   . have:i=l.length:=by omega
     subst this;rw[decide_eq_false (by omega),cond_false];exact dP ⟨rfl,λr hr=>hx r (by rwa[take_of_length_le (le_refl _)])⟩
 . rintro (y|y) hy
   . refine dP λh=>⟨?_,hy.2⟩
     have:=of_decide_eq_true h;rw[hy.1]at this;omega
   . exact dP λh=>by rw[hy]at h;cases h
def tkkB:Bool:=match C12 ()with
 | some (T,A,B,_)=>(decide (T.length<=1000000000000)&&T.all λe=>decide (0<=e.2.2.2.1)&&decide (e.2.2.2.1<8))&&(decide (A.length<=1000000000000)&&decide (B.length<=1000000000000))
 | none=>false
theorem tkkB_k:tkkB=true:=by kernel_rfl
theorem tkk:∃T A B,C12 ()=some (T,A,B,())/\TK T A B:=by
 have h:=tkkB_k;unfold tkkB at h;cases hc:C12 ()with
 | none=>rw[hc]at h;cases h
 | some y =>
  obtain⟨T,A,B,u⟩:=y;rw[hc]at h;simp only[and_eq_true,decide_eq_true_eq,all_eq_true]at h;exact⟨T,A,B,rfl,⟨h.1.1,h.1.2⟩,h.2.1,h.2.2⟩
theorem sum_mem{α:Type}(f:α->Nat):∀{l:List α} {x:α},x∈l->f x<=(l.map f).sum
 | y::l,x,h=>by
  simp only[List.map_cons,List.sum_cons];rcases mem_cons.1 h with rfl|h
  . omega
  . have:=sum_mem f h;omega
theorem sum_len{α:Type}(f:α->Nat):∀l:List α,l.length<=(l.map λx=>f x+1).sum
 | []=>le_refl _
 | y::l=>by
  have:=sum_len f l;simp only[List.map_cons,List.sum_cons,length_cons];omega
theorem blk_rp(l:List Rp)(h:Blk (.lst (.pair (.int .i64) (.lst .str))) l<=1048576):l.length<=100000000/\∀r∈l,r.2.length<=100000000:=by
 have h':(l.map λx:Rp=>(0+smL x.2)+1).sum<=1048576:=h;refine⟨by have:=sum_len (λx:Rp=>0+smL x.2) l;omega,λr hr => ?_⟩;have h1:=sum_mem (λx:Rp=>(0+smL x.2)+1) hr;have h2:=smL_len r.2;have h3:(0+smL r.2)+1<=(l.map λx:Rp=>(0+smL x.2)+1).sum:=h1;omega
abbrev TMail:Ty := .pair (.pair .bool (.pair .str .str)) (.pair (.lst (.pair .bool (.pair .str .str))) (.pair (.lst .str) (.pair (.pair .bool (.pair .bool (.pair .bool (.pair (.int .i64) (.int .i64))))) (.int .i64))))
theorem blk_mail(x:TMail.den)(h:Blk TMail x<=1048576):smL x.2.2.1<=2000000:=by
 have h':Blk (.pair .bool (.pair .str .str)) x.1+(Blk (.lst (.pair .bool (.pair .str .str))) x.2.1+(smL x.2.2.1+Blk (.pair (.pair .bool (.pair .bool (.pair .bool (.pair (.int .i64) (.int .i64))))) (.int .i64)) x.2.2.2))<=1048576:=h;omega
def Pf{α:Type}(x:Option α)(Q:α->Prop):Prop:=∀y,x=some y->Q y
section
variable {α β γ:Type} {Q:α->Prop}
theorem pP{y:α}(h:Q y):Pf (some y) Q:=λ_ e=>by cases e;exact h
theorem pN:Pf (none:Option α) Q:=λ_ e=>by cases e
theorem pT{x:Option α}:Pf x (λ_=>True):=λ_ _=>trivial
theorem pZ{x:Option β}{f:β->Option α}{P:β->Prop}(h:Pf x P)(hf:∀a,P a->Pf (f a) Q):Pf (x.bind f) Q:=by
 intro y e;cases x with
 | none=>cases e
 | some a=>exact hf a (h a rfl) y e
theorem pX{b:Bool}{p q:Prop}[r:Rd b p q]{x y:Option α}(h1:p->Pf x Q)(h2:q->Pf y Q):Pf (bif b then x else y) Q:=by
 have h:b=true\/b=false:=by cases b<;>simp
 rcases h with h|h
 . rw[h];exact h1 (r.t h)
 . rw[h];exact h2 (r.f h)
theorem pS{f:β->Option α}{g:γ->Option α}{s:β⊕γ}{P:β->Prop}{P':γ->Prop}(hs:Sum.elim P P' s)(h1:∀a,P a->Pf (f a) Q)(h2:∀b,P' b->Pf (g b) Q):Pf (Sum.elim f g s) Q:=by
 cases s with
 | inl a=>exact h1 a hs
 | inr b=>exact h2 b hs
theorem pLn{F:β->Option (β⊕α)}(I:β->Prop)(h:∀v,I v->Pf (F v) (Sum.elim I Q)):∀(n:Nat) (v:β),I v->Pf (loopN F n v) Q
 | 0,v,_=>λ_ e=>by cases e
 | n+1,v,hv=>by
  intro y e;simp only[loopN]at e;cases hF:F v with
  | none=>rw[hF]at e;cases e
  | some z =>
   have hz:=h v hv z hF;rw[hF]at e;cases z with
   | inl v'=>exact pLn I h n v' hz y e
   | inr y' =>
    have e':some y'=some y:=e;cases e';exact hz
theorem pL{F:β->Option (β⊕α)}(I:β->Prop)(h:∀v,I v->Pf (F v) (Sum.elim I Q))(v:β)(hv:I v):Pf (loopN F big v) Q:=pLn I h big v hv
end
def kk(x:Int):Bool:=decide (0<=x)&&decide (x<128) && !(decide (97<=x)&&decide (x<=122)) && !(decide (65<=x)&&decide (x<=90)) && !(decide (48<=x)&&decide (x<=57)) && !decide (x=45)
theorem q8g(x:Int):kk x=true↔0<=x/\x<128/\(x<97\/122<x)/\(x<65\/90<x)/\(x<48\/57<x)/\x≠45:=by
 unfold kk;simp only[and_eq_true,Bool.not_eq_true',decide_eq_true_eq,Bool.and_eq_false_iff,decide_eq_false_iff_not];omega
def kj(d:Bool)(s:Nat)(x:Int):Nat:=if 2<=s then 2 else if kk x=true then(if x=46/\d=true then s+1 else 2)else 0
def run(d:Bool)(s:Nat)(l:List Int):Nat:=l.foldl (kj d) s
theorem kg(d:Bool){s s':Nat}(h:s<=s')(x:Int):kj d s x<=kj d s' x:=by
 unfold kj;repeat' split
 all_goals omega
theorem vf(d:Bool){s:Nat}{x:Int}(h:kk x=false):kj d s x=if 2<=s then 2 else 0:=by
 unfold kj;rw[h];simp
theorem q0a(d:Bool){s:Nat}(x:Int)(h:2<=s):kj d s x=2:=by
 unfold kj;rw[if_pos h]
theorem wy(d:Bool)(s:Nat)(p q:List Int):run d s (p++q)=run d (run d s p) q:=List.foldl_append
theorem ye(d:Bool)(s:Nat)(x:Int)(q:List Int):run d s (x::q)=run d (kj d s x) q:=rfl
def Rr(p q:List Int):Prop:=∀d,run d 1 p<=run d 1 q
theorem Rr.refl(p:List Int):Rr p p:=λd=>le_refl _
theorem Rr.trans{p q r:List Int}(h:Rr p q)(h':Rr q r):Rr p r:=λd=>le_trans (h d) (h' d)
theorem kf(d:Bool):∀(l r:List Int) (s s':Nat),s<=s'->r.length=l.length->(∀(i:Nat) (x:Int),l[i]? = some x->kk x=true->r[i]? = some x)->run d s l<=run d s' r
 | [],[],s,s',h,_,_=>h
 | [],_::_,_,_,_,h,_=>by simp at h
 | _::_,[],_,_,_,h,_=>by simp at h
 | x::l,y::r,s,s',h,hl,hp=>by
  have hl':r.length=l.length:=by simpa using hl
  have hp':∀(i:Nat) (x:Int),l[i]? = some x->kk x=true->r[i]? = some x:=λi z h1 h2=>by
   have:=hp (i+1) z (by simpa using h1) h2;simpa using this
  rw[ye,ye];refine kf d l r _ _ ?_ hl' hp';cases hx:kk x with
  | true =>
   have:=hp 0 x (by simp) hx;simp only[List.getElem?_cons_zero,Option.some.injEq]at this;subst this;exact kg d h y
  | false =>
   rw[vf d hx];split
   . rename_i h2
     rw[q0a d y (by omega)];exact le_refl _
   . exact zero_le _
theorem Rr.pt{l r:List Int}(h:r.length=l.length)(hp:∀(i:Nat) (x:Int),l[i]? = some x->kk x=true->r[i]? = some x):Rr l r:=λd=>kf d l r 1 1 (le_refl _) h hp
theorem Rr.set{p q:List Int}(x:Int)(h:Rr p q)(hx:kk x=false)(i:Nat)(v:Int)(hi:kk (q.getD i 0)=false):Rr (p++[x]) (q.set i v):=by
 intro d;rw[wy];show kj d _ x<=_;rw[vf d hx];split
 . rename_i h2
   have h3:Rr q (q.set i v):=by
    refine Rr.pt length_set λj z hj hz => ?_;by_cases hij:i=j
    . subst hij
      rw[List.getD_eq_getElem?_getD,hj]at hi;simp only[Option.getD_some]at hi;rw[hi]at hz;cases hz
    . rw[List.getElem?_set_ne hij];exact hj
   exact le_trans h2 (le_trans (h d) (h3 d))
 . exact zero_le _
abbrev Dst:=List UInt8×Int×Int×Int×Bool×List Int×Unit
def Fd:Dst->Option (Dst⊕((List Int×Unit)⊕(Bool×Unit))):=F209_l0 C125 C22 C241 C259 C260 C261
def Rch(j:Nat)(v w:Dst):Prop:=∀m,loopN Fd (m+j) v=loopN Fd m w
theorem Rch.next{j:Nat}{v w u:Dst}(h:Rch j v w)(h1:Fd w=some (.inl u)):Rch (j+1) v u:=λm=>by
 rw[show m+(j+1)=(m+1)+j by omega,h (m+1),loopN_inl h1]
def lo(n:Int)(l:List Int):List Int:=l.filter λr=>decide (r<=n)
def lt'(n:Int)(l:List Int):List Int:=l.filter λr=>decide (r<n)
def zy(l:List Int)(n:Int)(p:Nat):List Int:=lo n (l.take p)++lt' n (l.drop p)
theorem ki(l:List Int)(n:Int):zy l n 0=lt' n l:=by simp[zy,lo]
def St(l:List Int)(P:Nat)(pl:List Int)(pre:List UInt8)(n:Int)(p:Nat)(delta bias h:Int)(o:List UInt8):Prop :=
 ∃(e:List UInt8) (nd id:Int) (j:Nat),o=pre++e/\((zy l n p).length:Int)=h/\(j:Int)+P=h/\(0<=id/\id<=h)/\(128<=nd/\nd<=n)/\0<=delta/\delta=(n-nd)*(h+1)+((lo n (l.take p)).length:Int)-id /\
  (∀rest:List UInt8,e.length+rest.length<=800000->Rch j (e++rest,128,0,72,true,pl,()) (rest,nd,id,bias,h==(P:Int),zy l n p,()))/\(0<=bias/\bias<=10000000000)/\(e.length<=10*j/\j<=e.length)/\∀c∈e,(97<=c.toNat/\c.toNat<=122)\/(48<=c.toNat/\c.toNat<=57)
theorem j1p(r:Int)(h:C125 (r,())=some (true,())):0<=r/\r<=1114111:=by
 have:Pf (C125 (r,())) (λy=>y.1=true->0<=r/\r<=1114111):=by
  unfold C125 F125;dsimp only;with_reducible repeat' (first|exact pN|apply pP|apply pX<;>intro _)
  . exact λ_=>⟨by omega,by omega⟩
  . exact λ_=>⟨by omega,by omega⟩
  . intro h;cases h
  . intro h;cases h
 exact this _ h rfl
theorem j1a(s:List UInt8)(hs:s.length<=1000000)(ha:∀c∈s,c.toNat<128):C22 (s,())=some (-1,()):=by
 suffices h:Df (C22 (s,())) (λy=>y=(-1,())) by
  obtain⟨y,e,rfl⟩:=h;exact e
 unfold C22 F22;dsimp only;refine dZ (P:=λz=>z = .inl ()) ?_ ?_
 . refine dL ?I ?m ?h _ ?hv ?hn
   case I=>exact(λv=>v.1=s/\v.2.1=s.length/\0<=v.2.2.1)
   case m=>exact(λv=>(s.length-v.2.2.1).toNat)
   case hv=>exact⟨rfl,rfl,Int.le_refl _⟩
   case hn=>exact(by(try dsimp only);omega)
   rintro⟨s',n,k,u⟩ ⟨h1,h2,h3⟩;dsimp only at h1 h2 h3;subst h1;subst h2;unfold F22_l0;dsimp only;with_reducible repeat' (first|apply dP|apply dX<;>intro _)
   . rename_i hc
     have hg:(s'.getD k.toNat 0)∈s':=by rw[getD_lt (by omega)];exact getElem_mem _
     have:=ha _ hg;omega
   . rw[w64s (by omega)]
     exact⟨⟨rfl,rfl,by(try dsimp only);omega⟩,by(try dsimp only);omega⟩
   . refine dO ?_;omega
   . rfl
 . rintro z rfl
   exact dP rfl
end Go.Proofs.YtgkmfhhghcccjaaGreatDoorA.W
namespace Go.Proofs.YtgkmfhhghcccjaaGreatDoorA.W
open Go Go.Ae Go.Pl
theorem wu8{n:Int}(h0:0<=n)(h1:n<=255):IntKind.u8.wrap n=n:=by
 simp only[IntKind.wrap,IntKind.signed,IntKind.bits];simp;omega
theorem p6:(2:Int)^min 6 IntKind.i32.bits=64:=by decide
end Go.Proofs.YtgkmfhhghcccjaaGreatDoorA.W
namespace Go.Proofs.YtgkmfhhghcccjaaGreatDoorA.W
open Go Go.Ae
section
variable {T:List R6} {A:List R4} {B:List R3}
structure KT (T:List R6) (A:List R4) (B:List R3):Prop where
 cl:∀x,kk x=true->C295 (T,A,B,x,())=some (0,())
 lo:∀x,kk x=true->C221 (T,A,B,x,())=some (x,())
 ca:∀x,kk x=true->C227 (T,A,B,x,())=some (false,())
end
section
variable {T:List R6} {A:List R4} {B:List R3}
end
open Go.Pl (rl rr rr_le enc enc1 enc2 enc3 enc4 rightB lenE lenE_cases b8 b8_val runes_of rl_rr rl_right badAt badAt_neg dec_nil)
def Nf(B:List R3)(x:Int):Prop:=∀e∈B,¬(e.1<=x/\x<=e.2.1)
structure LN (B:List R3):Prop where
 len:B.length<=1000000000000
 sh:∀e∈B,(0<=e.1/\e.2.1<=1114111 /\ -100000<=e.2.2/\e.2.2<=100000)/\∀e'∈B,e.2.1+e.2.2<e'.1\/e'.2.1<e.1+e.2.2
 up:∀x,65<=x->x<=90->¬Nf B x
 lo:∀x,0<=x->x<128->¬(65<=x/\x<=90)->Nf B x
 hg:∀x,4352<=x->x<=4607->Nf B x
 jm:∀x,44032<=x->x<=55203->Nf B x
 sp:∀s∈splitT,s.2.2.2.1=false->Nf B s.1->Nf B s.2.1/\Nf B s.2.2.1
 pr:∀s∈splitT,s.2.2.2.1=false->s.2.2.2.2=false->Nf B s.2.1->Nf B s.2.2.1->Nf B s.1
section
variable {T:List R6} {A:List R4} {B:List R3}
variable {D:List R3}
end
section
variable {T:List R6} {A:List R4} {B:List R3}
end
section
variable {T:List R6} {A:List R4} {B:List R3}
end
def ktB:Bool:=match C12 ()with
 | some (T,A,B,_)=>(List.range 128).all λn => !kk (n:Int)||((match C295 (T,A,B,(n:Int),())with|some (c,_)=>c==0|none=>false)&&(match C221 (T,A,B,(n:Int),())with|some (c,_)=>c==(n:Int)|none=>false)&&(match C227 (T,A,B,(n:Int),())with|some (c,_) => !c|none=>false))
 | none=>false
theorem j0i:ktB=true:=by kernel_rfl
theorem kt{T A B}(h18:C12 ()=some (T,A,B,())):KT T A B:=by
 have h:=j0i;unfold ktB at h;rw[h18]at h;simp only[all_eq_true]at h;have key:∀x,kk x=true->(match C295 (T,A,B,x,())with|some (c,_)=>c==0|none=>false)=true/\(match C221 (T,A,B,x,())with|some (c,_)=>c==x|none=>false)=true/\(match C227 (T,A,B,x,())with|some (c,_) => !c|none=>false)=true:=by
  intro x hx;have h1:=(q8g x).1 hx;have h2:=h x.toNat (List.mem_range.2 (by omega))
  rw[show ((x.toNat:Nat):Int)=x by omega,hx]at h2;simp only[Bool.not_true,Bool.false_or,and_eq_true]at h2;exact⟨h2.1.1,h2.1.2,h2.2⟩
 refine⟨λx hx => ?_,λx hx => ?_,λx hx => ?_⟩
 . have:=(key x hx).1
   cases hc:C295 (T,A,B,x,())with
   | none=>rw[hc]at this;cases this
   | some y =>
    obtain⟨c,u⟩:=y;rw[hc]at this;have:c=0:=by simpa using this
    subst this;rfl
 . have:=(key x hx).2.1
   cases hc:C221 (T,A,B,x,())with
   | none=>rw[hc]at this;cases this
   | some y =>
    obtain⟨c,u⟩:=y;rw[hc]at this;have:c=x:=by simpa using this
    subst this;rfl
 . have:=(key x hx).2.2
   cases hc:C227 (T,A,B,x,())with
   | none=>rw[hc]at this;cases this
   | some y =>
    obtain⟨c,u⟩:=y;rw[hc]at this;have:c=false:=by simpa using this
    subst this;rfl
open Go.Pl (rl rr rr_le enc enc1 enc2 enc3 enc4 rightB rightB_iff lenE lenE1 lenE_cases b8 b8_val b8_of runes_of rl_rr rl_right rl_len badAt badAt_neg badAt_nil dec_nil)
section
variable {T:List R6} {A:List R4} {B:List R3}
def Lw(B:List R3)(s:List UInt8):Prop:=∀c∈s,c.toNat<128/\Nf B (c.toNat:Int)
end
open Go.Pl (rl rr rr_le enc enc1 rightB rightB_iff lenE lenE1 lenE_cases b8 b8_val b8_of rl_right rl_len badAt badAt_neg)
section
variable {T:List R6} {A:List R4} {B:List R3}
theorem f260(l:List Int):Pf (C249 (T,A,B,l,())) (λy=>y.2=(T,A,B,l,())):=by
 unfold C249 F249;dsimp only;exact pZ pT λ_ _=>pP rfl
end
open Go.Pl (rl rr rr_le enc enc1 rightB rightB_iff lenE lenE1 b8 b8_of rl_right rl_len badAt badAt_neg)
section
variable {T:List R6} {A:List R4} {B:List R3}
end
def ix(s:List UInt8)(k:UInt8):Int:=Lib.indexByte s k
theorem toB(k:UInt8):((k.toNat:Int)).toNat.toUInt8=k:=by
 rw[toNat_natCast];exact UInt8.ofNat_toNat
theorem j0y(s:List UInt8)(k:UInt8):C97 (s,(k.toNat:Int),())=some (ix s k,()):=by
 show F97 C126 _=_;simp only[F97];show (some (Lib.indexByte s ((k.toNat:Int)).toNat.toUInt8,())).bind _=_;rw[toB];rfl
theorem vz(a b:List UInt8)(r:List (List UInt8)):Lib.join (a::b::r) [46]=a++46::Lib.join (b::r) [46]:=by
 simp[Lib.join,List.intercalate,List.intersperse]
theorem yd:∀(az:List (List UInt8)) (c:UInt8),c∈Lib.join az [46]->c=46\/∃a∈az,c∈a
 | [],c,h=>by cases h
 | [a],c,h=>by rw[Lib.join_one]at h;exact .inr ⟨a,mem_cons_self,h⟩
 | a::b::r,c,h=>by
  rw[vz]at h;rcases mem_append.1 h with h|h
  . exact .inr ⟨a,mem_cons_self,h⟩
  . rcases mem_cons.1 h with h|h
    . exact .inl h
    . rcases yd (b::r) c h with h|⟨x,hx,hc⟩
      . exact .inl h
      . exact .inr ⟨x,List.mem_cons_of_mem _ hx,hc⟩
section
variable {T:List R6} {A:List R4} {B:List R3}
theorem yb(A U:List UInt8->Option (List UInt8×Int)):∀(ls ps qs:List (List UInt8)) r,bothF A U ls ps qs=some r->r.1=0->∃az,r.2.1=ps++az/\az.length=ls.length/\∀a∈az,∃x∈ls,A x=some (a,0)
 | [],ps,qs,r,h,h0=>by
  simp only[bothF,Option.some.injEq]at h;subst h;exact⟨[],by simp,rfl,λa ha=>by cases ha⟩
 | y::ls,ps,qs,r,h,h0=>by
  simp only[bothF]at h;cases ha:A y with
  | none=>rw[ha]at h;cases h
  | some a =>
   rw[ha]at h;simp only[Option.bind_some]at h;by_cases hz:a.2=0
   . rw[inF hz]at h
     simp only[cond_false]at h;cases hu:U y with
     | none=>rw[hu]at h;cases h
     | some u =>
      rw[hu]at h;obtain⟨az,e,hl,hall⟩:=yb A U ls _ _ r h h0;refine⟨a.1::az,by rw[e];simp,by simp[hl],λz hz' => ?_⟩;rcases mem_cons.1 hz' with rfl|hz'
      . exact⟨y,mem_cons_self,by rw[ha,<-hz]⟩
      . obtain⟨x,hx,hA⟩:=hall z hz'
        exact⟨x,List.mem_cons_of_mem _ hx,hA⟩
   . rw[inT hz]at h
     simp only[cond_true,Option.some.injEq]at h;subst h;exact(hz h0).elim
theorem wq{l:List (List UInt8)}{x:List UInt8}(h:joinF (l,[46],())=some (x,())):x=Lib.join l [46]:=by
 unfold joinF at h;dsimp only at h;cases hc:(decide (l.length<=140737488355328)&&decide ((Lib.join l [46]).length<=140737488355328))with
 | false=>rw[hc]at h;cases h
 | true=>rw[hc]at h;cases h;rfl
theorem wv{r:Int×List (List UInt8)×List (List UInt8)}{o:List UInt8×List UInt8×Int}(h:outF r=some o)(h0:o.2.2=0):r.1=0/\o.1=Lib.join r.2.1 [46]/\o.1.length<=253:=by
 unfold outF at h;by_cases hz:r.1=0
 . rw[inF hz]at h
   simp only[cond_false]at h;cases hj:joinF (r.2.1,[46],())with
   | none=>rw[hj]at h;cases h
   | some ja =>
    obtain⟨ja,u⟩:=ja;rw[hj]at h;simp only[Option.bind_some]at h;by_cases hl:253<ja.length
    . rw[decide_eq_true hl]at h
      simp only[cond_true,Option.some.injEq]at h;subst h;exact absurd h0 (by decide)
    . rw[decide_eq_false hl]at h
      simp only[cond_false]at h;cases hu:joinF (r.2.2,[46],())with
      | none=>rw[hu]at h;cases h
      | some ju =>
       rw[hu]at h;simp only[Option.bind_some,Option.some.injEq]at h;subst h;exact⟨hz,wq hj,by(try dsimp only);omega⟩
 . rw[inT hz]at h
   simp only[cond_true,Option.some.injEq]at h;subst h;exact(hz h0).elim
structure Dm (T:List R6) (A:List R4) (B:List R3) (x:List UInt8):Prop where
 lw:Lw B x
 ne:x≠[]
 len:x.length<=253
 kk:∀c∈x,kk (c.toNat:Int)=true->c=46
 self:Pf (C111 (T,A,B,x,())) λy=>y.1=x/\y.2.2.1=0
end
def tkB:Bool:=match C12 ()with
 | some (T,A,B,_)=>(decide (T.length<=1000000000000)&&T.all λe=>decide (0<=e.2.2.2.1)&&decide (e.2.2.2.1<8))&&(decide (A.length<=1000000000000)&&decide (B.length<=1000000000000))
 | none=>false
theorem j0j:tkB=true:=by kernel_rfl
theorem tk:∃T A B,C12 ()=some (T,A,B,())/\TK T A B:=by
 have h:=j0j;unfold tkB at h;cases hc:C12 ()with
 | none=>rw[hc]at h;cases h
 | some y =>
  obtain⟨T,A,B,u⟩:=y;rw[hc]at h;simp only[and_eq_true,decide_eq_true_eq,all_eq_true]at h;exact⟨T,A,B,rfl,⟨h.1.1,h.1.2⟩,h.2.1,h.2.2⟩
def Asc(s:List UInt8):Prop:=∀c∈s,c.toNat<128
theorem qm{a b:List UInt8}:Asc (a++b)↔Asc a/\Asc b:=⟨λh=>⟨λc hc=>h c (by simp[hc]),λc hc=>h c (by simp[hc])⟩,λh c hc=>(mem_append.1 hc).elim (h.1 c) (h.2 c)⟩
theorem asc_one{c:UInt8}(h:c.toNat<128):Asc [c]↔True:=⟨λ_=>trivial,λ_ d hd=>by rw[mem_singleton.1 hd];exact h⟩
theorem jf:Asc []↔True:=⟨λ_=>trivial,λ_ c hc=>by cases hc⟩
theorem wn{s:List UInt8}:Asc (esc s)↔Asc s:=by
 constructor
 . intro h c hc
   refine h c (List.mem_flatMap.2 ⟨c,hc,?_⟩);unfold esc1;split<;>simp
 . intro h c hc
   obtain⟨d,hd,hcd⟩:=List.mem_flatMap.1 hc;unfold esc1 at hcd;split at hcd
   . simp only[mem_cons,List.not_mem_nil,or_false]at hcd
     rcases hcd with rfl|rfl
     . decide
     . exact h _ hd
   . rw[mem_singleton.1 hcd];exact h _ hd
theorem wz{s:List UInt8}:Asc (src 1 s)↔Asc s:=by
 have e:src 1 s=[34]++esc s++[34]:=rfl;rw[e,qm,qm,asc_one (by decide),wn,true_and,and_true]
theorem j1e(a b:List UInt8)(ha:a.length<=1000)(hb:b.length<=1000):Df (C123 (false,a,b,())) (λy=>Asc y.1↔Asc a/\Asc b):=by
 have a60:Asc [60]↔True:=asc_one (by decide);have a62:Asc [62]↔True:=asc_one (by decide);have a64:Asc [64]↔True:=asc_one (by decide);unfold C123 F123;dsimp only;simp only[cond_false];refine dZ (P:=λy=>y.1=true->b=[]) ?_ ?_
 . unfold C50 F50
   dsimp only;with_reducible repeat' (first|apply dP|apply dX<;>intro _)
   . rename_i hb0
     rw[p25 a (by omega)];exact dP λ_=>eq_of_beq hb0
   all_goals (intro h;cases h)
 rintro⟨m,u⟩ hm;dsimp only at hm ⊢;with_reducible repeat' (first|apply dP|apply dX<;>intro _)
 . rename_i h1 _ _
   have:=hm h1;subst this;simp only[qm,a60,a62,jf,true_and,and_true]
 . refine dO ?_;rename_i hc;simp only[qk]at hc;omega
 . refine dO ?_;rename_i hc;simp only[qk]at hc;omega
 . refine dZ (P:=λy=>y.1.length<=2*a.length+b.length+3/\(Asc y.1↔Asc a/\Asc b)) ?_ ?_
   . unfold C158 F158
     dsimp only;refine dZ (d88 a (by omega)) ?_;rintro⟨w,u⟩ -
     dsimp only;have he:=esc_len a;have hq:(src 1 a).length=(esc a).length+2:=by simp[src]
     with_reducible repeat' (first|apply dP|apply dX<;>intro _)
     . rw[c9 1 a 0 (by omega)]
       simp only[Option.bind_some];with_reducible repeat' (first|apply dP|apply dX<;>intro _)
       . refine⟨by simp only[qk];omega,?_⟩
         simp only[qm,wz,a64,and_true]
       all_goals (refine dO ?_;rename_i hc;simp only[qk]at hc;omega)
     . refine⟨by simp only[qk];omega,?_⟩
       simp only[qm,a64,and_true]
     all_goals (refine dO ?_;rename_i hc;simp only[qk]at hc;omega)
   rintro⟨x,u⟩ ⟨k1,k2⟩;dsimp only at k1 k2 ⊢;with_reducible repeat' (first|apply dP|apply dX<;>intro _)
   . simp only[qm,a60,a62,true_and,and_true,k2]
   all_goals (refine dO ?_;rename_i hc;simp only[qk]at hc;omega)
theorem j0z(s:List UInt8)(hs:s.length<=1000000)(ha:Asc s):C22 (s,())=some (-1,()):=j1a s hs ha
def lit(b:List UInt8):Bool:=decide (b.take 1=[91])
section
variable {T:List R6} {A:List R4} {B:List R3}
theorem Dm.lit{y:List UInt8}(h:Dm T A B y):lit y=false:=by
 unfold W.lit;refine decide_eq_false λe => ?_;have h91:(91:UInt8)∈y:=mem_of_mem_take (i:=1) (by rw[e];exact mem_cons_self);exact absurd (h.kk _ h91 (by decide)) (by decide)
end
theorem j1o:((List.range 256).all λn=>decide ((lowb (UInt8.ofNat n)).toNat<128)==decide ((UInt8.ofNat n).toNat<128))=true:=by kernel_rfl
theorem wt(c:UInt8):(lowb c).toNat<128↔c.toNat<128:=by
 have h:=all_eq_true.1 j1o c.toNat (by simp only[List.mem_range];exact c.toNat_lt)
 rw[UInt8.ofNat_toNat]at h;have h2:=eq_of_beq h;constructor
 . intro h3;rw[decide_eq_true h3]at h2;exact of_decide_eq_true h2.symm
 . intro h3;rw[decide_eq_true h3]at h2;exact of_decide_eq_true h2
section
variable {T:List R6} {A:List R4} {B:List R3}
theorem j1b(a b:List UInt8)(ha:a.length<=1000):C50 (false,a,b,())=some (bif b==[]then a.map lowb==[112,111,115,116,109,97,115,116,101,114]else false,()):=by
 show F50 C69 _=_;simp only[F50,Bool.not_false,cond_true,p25 a (by omega),Option.bind_some];cases (b==[])with
 | true=>rfl
 | false=>rfl
theorem yh{a b:List UInt8}(ha:a.length<=1000){u:Unit}(h:C50 (false,a,b,())=some (true,u)):b=[]/\Asc a:=by
 rw[j1b a b ha]at h;cases hb:(b==[])with
 | false=>rw[hb]at h;cases h
 | true =>
  rw[hb]at h;simp only[cond_true,Option.some.injEq,Prod.mk.injEq]at h;have h2:a.map lowb=_:=eq_of_beq h.1;refine⟨eq_of_beq hb,λc hc=>(wt c).1 ?_⟩;have h3:lowb c∈a.map lowb:=List.mem_map_of_mem hc;rw[h2]at h3;have:∀d∈([112,111,115,116,109,97,115,116,101,114]:List UInt8),d.toNat<128:=by decide
  exact this _ h3
end
theorem Asc.add{s:List UInt8}{c:UInt8}(h:Asc s)(hc:c.toNat<128):Asc (s++[c]):=qm.2 ⟨h,(asc_one hc).2 trivial⟩
theorem zb{s:List UInt8}(h:(s.all λc=>decide (c.toNat<128))=true):Asc s:=λc hc=>of_decide_eq_true (all_eq_true.1 h c hc)
theorem js{n:Nat}(h:n<128):(UInt8.ofNat n).toNat<128:=by
 rw[UInt8.toNat_ofNat'];omega
theorem q7x(x:Int)(b:Bool)(hx:b=true->0<=x/\x<26):Pf (C288_c0 (x,b,())) (Sum.elim (λy=>y.1.toNat<128) (λ_=>True)):=by
 unfold C288_c0 F288_c0;dsimp only;with_reducible repeat' (first|exact pN|apply pP|apply pX<;>intro _)
 all_goals first|exact trivial|skip
 . have h:=hx ‹_›
   show (IntKind.u8.wrap _).toNat<128;rw[wu8 (n:=x) (by omega) (by omega),wu8 (by omega) (by omega)];omega
 . show (IntKind.u8.wrap _).toNat<128
   rw[w64s (n:=x-26) (by omega),wu8 (n:=x-26) (by omega) (by omega),wu8 (by omega) (by omega)];omega
theorem wj(x:Int):Pf (C288 (x,())) (λy=>y.1.toNat<128):=by
 unfold C288 F288;dsimp only;refine pX (λh0 => ?_) (λh0 => ?_)
 . refine pZ (q7x x _ λh=>⟨h0,of_decide_eq_true h⟩) ?_
   intro z hz;refine pS hz (λy h=>pP h) (λy _=>pP (by decide))
 . refine pZ (q7x x _ λh=>by cases h) ?_
   intro z hz;refine pS hz (λy h=>pP h) (λy _=>pP (by decide))
theorem j0b(n b k:Int)(o:List UInt8)(ho:Asc o):Pf (C240_l0 (n,b,k,o,())) (λy=>Asc y.1):=by
 refine pL ?I ?h _ ?hv
 case I=>exact(λv=>Asc v.2.2.2.1)
 case hv=>exact ho
 rintro⟨n,b,k,o',u⟩ hI;dsimp only at hI;unfold F240_l0;dsimp only;refine pZ pT ?_;rintro⟨t,u⟩ -
 dsimp only;refine pX (λ_ => ?_) (λ_ => ?_)
 . refine pZ (wj _) ?_
   rintro⟨c,u⟩ hc;dsimp only;exact pX (λh=>pP (hI.add (js hc))) (λ_=>pN)
 . refine pX (λ_ => ?_) (λ_=>pN)
   refine pZ (wj _) ?_;rintro⟨c,u⟩ hc;dsimp only;refine pX (λh => ?_) (λ_=>pN);exact pX (λ_=>pP (hI.add (js hc))) (λ_=>pN)
theorem j0x(n b:Int)(o:List UInt8)(ho:Asc o):Pf (C240 (n,b,o,())) (λy=>Asc y.1):=by
 unfold C240 F240;dsimp only;refine pZ pT ?_;rintro⟨t,u⟩ -
 dsimp only;refine pX (λ_ => ?_) (λ_ => ?_)
 . refine pZ (wj _) ?_
   rintro⟨c,u⟩ hc;dsimp only;exact pX (λh=>pP (ho.add (js hc))) (λ_=>pN)
 . refine pX (λ_ => ?_) (λ_=>pN)
   refine pZ (wj _) ?_;rintro⟨c,u⟩ hc;dsimp only;refine pX (λh => ?_) (λ_=>pN);refine pX (λ_ => ?_) (λ_=>pN);refine pZ (j0b _ _ _ _ (ho.add (js hc))) ?_;rintro⟨y,u⟩ hy;exact pP hy
theorem q8e(l:List Int)(P m delta bias h:Int)(o:List UInt8)(ho:Asc o) :
 Pf (C206_l1 (l,P,m,delta,bias,h,l,(l.length:Int),0,o,())) (λy=>Asc y.2.2.2.2.2.2.1):=by
 refine pL ?I ?h _ ?hv
 case I=>exact(λv=>Asc v.2.2.2.2.2.2.2.2.2.1)
 case hv=>exact ho
 rintro⟨l0,P,n,delta,bias,h,l',N,p,o,u⟩ ho;dsimp only at ho;unfold F206_l1;dsimp only;refine pX (λ_ => ?_) (λ_=>pP ho);refine pX (λ_ => ?_) (λ_=>pN);refine pX (λ_=>pP ho) (λ_ => ?_);refine pX (λ_ => ?_) (λ_=>pP ho);refine pZ (j0x _ _ o ho) ?_;rintro⟨o2,u⟩ g;dsimp only at g ⊢;refine pZ pT ?_;rintro⟨b2,u⟩ -
 exact pP g
theorem q8f(l:List Int)(P h:Int)(o:List UInt8)(ho:Asc o) :
 Pf (C206_l2 (l,P,128,0,72,h,o,())) (Sum.elim (λy=>Asc y.1) (λy=>Asc y.1)):=by
 refine pL ?I ?h _ ?hv
 case I=>exact(λv=>Asc v.2.2.2.2.2.2.1)
 case hv=>exact ho
 rintro⟨l0,P,n,delta,bias,h,o,u⟩ ho;dsimp only at ho;unfold F206_l2;dsimp only;refine pX (λ_ => ?_) (λhge=>pP ho);refine pZ pT ?_;rintro⟨m,u⟩ -
 dsimp only;refine pX (λ_=>pP (jf.2 trivial)) (λ_ => ?_);refine pZ (q8e l0 P m _ bias h o ho) ?_;rintro⟨a,b,c,d,e,f,g,u⟩ h;exact pP h
theorem q8d(l l':List Int)(N:Int):Pf (C206_l0 (l,l',N,0,[],())) (Sum.elim (λy=>Asc y.2.1) (λy=>Asc y.1)):=by
 refine pL ?I ?h _ ?hv
 case I=>exact(λv=>Asc v.2.2.2.2.1)
 case hv=>exact(jf.2 trivial)
 rintro⟨l0,l1,n,i,o,u⟩ ho;dsimp only at ho;unfold F206_l0;dsimp only;refine pX (λ_ => ?_) (λ_=>pP ho);refine pX (λ_ => ?_) (λ_=>pN);have hp:Pf (C125 (l1.getD i.toNat 0,())) (λy=>y.1=true->0<=l1.getD i.toNat 0):=λy e h=>by
  obtain⟨y1,u⟩:=y;dsimp only at h;subst h;exact(j1p _ e).1
 refine pZ hp ?_;rintro⟨c,u⟩ hc;dsimp only at hc ⊢;cases c with
 | false=>exact pP (jf.2 trivial)
 | true =>
  have h0:=hc rfl;simp only[Bool.not_true,cond_false];refine pX (λhlt => ?_) (λ_=>pP ho);refine pX (λ_=>pP (ho.add (js ?_))) (λ_=>pN);rw[wu8 h0 (by omega)];omega
theorem q7w(l:List Int)(h:Int)(o:List UInt8)(ho:Asc o):Pf (C206_c0 (l,h,o,())) (λy=>Asc y.1):=by
 unfold C206_c0 F206_c0;dsimp only;refine pZ (q8f l _ _ o ho) ?_;intro z hz;exact pS hz (λy h=>pP h) (λy h=>pP h)
theorem j0v(l:List Int):Pf (C206 (l,())) (λy=>Asc y.1):=by
 unfold C206 F206;dsimp only;refine pZ (q8d l l _) ?_;intro z hz;refine pS hz ?_ (λy h=>pP h);rintro⟨l1,o,u⟩ ho;dsimp only at ho ⊢;refine pX (λhpos => ?_) (λhpos => ?_)
 . refine pX (λh => ?_) (λ_=>pN)
   refine pZ (q7w _ _ _ (ho.add (by decide))) ?_;intro y hy;exact pP hy
 . refine pZ (q7w _ _ _ ho) ?_
   intro y hy;exact pP hy
theorem j0w(s:List UInt8)(n:Int)(hn:n=(s.length:Int)):Pf (C22_l0 (s,n,0,())) (Sum.elim (λ_=>Asc s) (λy=>0<=y.1)):=by
 refine pL ?I ?h _ ?hv
 case I=>exact(λv=>v.1=s/\v.2.1=(s.length:Int)/\(v.2.2.1<0\/∃k:Nat,v.2.2.1=(k:Int)/\k<=9223372036854775807/\k<=s.length/\Asc (s.take k)))
 case hv=>exact⟨rfl,hn,.inr ⟨0,rfl,zero_le _,zero_le _,jf.2 trivial⟩⟩
 rintro⟨s0,n,i,u⟩ ⟨e1,e2,hi⟩;dsimp only at e1 e2 hi;subst e1 e2;unfold F22_l0;dsimp only;rcases hi with hi|⟨k,rfl,hb,hk,ha⟩
 . rw[decide_eq_true (show i<((s0.length:Nat):Int) by omega),decide_eq_false (show ¬0<=i by omega)]
   exact pN
 . refine pX (λhlt => ?_) (λhge=>pP ?_)
   . refine pX (λ_ => ?_) (λ_=>pN)
     refine pX (λ_=>pP (by dsimp only[elim_inr];omega)) (λhc => ?_);have hk2:k<s0.length:=by omega
     by_cases hm:k=9223372036854775807
     . subst hm
       exact pP ⟨rfl,rfl,.inl (show IntKind.i64.wrap (((9223372036854775807:Nat):Int)+1)<0 by decide)⟩
     . rw[wrN k (by omega)]
       refine pP ⟨rfl,rfl,.inr ⟨k+1,rfl,by omega,by omega,?_⟩⟩;rw[take_succ_get hk2];refine ha.add ?_;simp only[toNat_natCast,getD_lt hk2]at hc;omega
   . have:k=s0.length:=by omega
     subst this;rw[take_of_length_le (le_refl _)]at ha;exact ha
theorem a22(s:List UInt8):Pf (C22 (s,())) (λy=>y.1<0->Asc s):=by
 unfold C22 F22;dsimp only;refine pZ (j0w s _ rfl) ?_;intro z hz;exact pS hz (λy h=>pP λ_=>h) (λy h=>pP λh'=>by dsimp only at h' h;omega)
section
variable {T:List R6} {A:List R4} {B:List R3}
theorem j0u(s:List UInt8):Pf (C170 (T,A,B,s,())) (λy=>y.2.2.1=0->Asc y.1):=by
 unfold C170 F170;dsimp only;refine pZ pT ?_;rintro⟨f,ok,u⟩ -
 dsimp only;refine pZ pT ?_;rintro⟨g,ok2,u⟩ -
 dsimp only;refine pX (λ_=>pP λh=>absurd h (by decide)) (λ_ => ?_);refine pZ (a22 f) ?_;rintro⟨k,u⟩ hk;dsimp only at hk ⊢;refine pX (λ_ => ?_) (λhk2 => ?_)
 . refine pZ pT ?_
   rintro⟨r,k2,u⟩ -
   dsimp only;refine pZ (j0v r) ?_;rintro⟨c,ok3,u⟩ hc;dsimp only at hc ⊢;refine pX (λ_ => ?_) (λ_=>pN);refine pZ pT ?_;rintro⟨e,u⟩ -
   exact pP λ_=>qm.2 ⟨zb rfl,hc⟩
 . have hf:Asc f:=hk (by omega)
   refine pX (λ_ => ?_) (λ_ => ?_)
   . refine pZ pT ?_
     rintro⟨e,u⟩ -
     exact pP λ_=>hf
   . refine pZ pT ?_
     rintro⟨r,ok3,u⟩ -
     dsimp only;refine pX (λ_=>pP λh=>absurd h (by decide)) (λ_ => ?_);refine pX (λ_=>pP λh=>absurd h (by decide)) (λ_ => ?_);refine pZ pT ?_;rintro⟨q,k3,u⟩ -
     dsimp only;refine pZ pT ?_;rintro⟨e,u⟩ -
     dsimp only;refine pX (λ_=>pP λ_=>jf.2 trivial) (λ_ => ?_);refine pZ pT ?_;rintro⟨c,k4,u⟩ -
     dsimp only;exact pX (λ_=>pP λh=>absurd h (by decide)) (λ_=>pP λ_=>hf)
theorem j0s(s:List UInt8):Pf (C142 (T,A,B,s,())) (λy=>y.2.1=0->Asc y.1):=by
 unfold C142 F142;dsimp only;refine pZ (j0u s) ?_;rintro⟨a,w,e,u⟩ h;dsimp only at h ⊢;exact pX (λh0=>pP λh1=>absurd h1 h0) (λh0=>pP λ_=>h (by omega))
theorem j0q(s:List UInt8):Pf (C111 (T,A,B,s,())) (λy=>y.2.2.1=0->Asc y.1):=by
 intro y h;have h1:((C151 (T,A,B,s,())).bind λf=>(labelsF f.1 f.2.1).bind λlc =>
  bif lc.2 != 0 then some ([],[],lc.2,())else
  bif decide (lc.1.length<=32)then
   (bothF (λx=>(C142 (T,A,B,x,())).map λr=>(r.1,r.2.1)) (λx=>(C143 (T,A,B,x,())).map λr=>(r.1,r.2.1)) lc.1 [] []).bind λres=>(outF res).map λo=>(o.1,o.2.1,o.2.2,())
  else none)=some y:=h
 obtain⟨f,_,h2⟩:=bind_eq_some_iff.1 h1;obtain⟨lc,_,h3⟩:=bind_eq_some_iff.1 h2;rcases cond_some h3 with⟨_,h4⟩|⟨_,h4⟩
 . cases h4;exact λ_=>jf.2 trivial
 . rcases cond_some h4 with⟨_,h5⟩|⟨_,h5⟩
   . obtain⟨res,hb,h6⟩:=bind_eq_some_iff.1 h5
     obtain⟨o,h7,rfl⟩:=map_eq_some_iff.1 h6;intro h0;obtain⟨r0,e1,-⟩:=wv h7 h0;obtain⟨az,e2,-,ha⟩:=yb _ _ _ _ _ _ hb r0;dsimp only;rw[e1,e2,List.nil_append];intro c hc;rcases yd az c hc with rfl|⟨a,haz,hca⟩
     . decide
     . obtain⟨x,-,hx⟩:=ha a haz
       obtain⟨⟨q1,q2,u⟩,hq,hq2⟩:=map_eq_some_iff.1 hx;simp only[Prod.mk.injEq]at hq2;obtain⟨rfl,rfl⟩:=hq2;exact j0s x _ hq rfl c hca
   . cases h5
theorem a74(s:List UInt8):Pf (C74 (T,A,B,s,())) (λy=>y.2.1=0->Asc y.1):=by
 unfold C74 F74;dsimp only;refine pZ (j0q s) ?_;rintro⟨a,w,e,u⟩ h;exact pP h
theorem j0t(s:List UInt8):Pf (C157 (T,A,B,s,())) (λy=>y.2.1=0->Asc y.1):=by
 unfold C157 F157;dsimp only;refine pZ (a74 s) ?_;rintro⟨a,e,u⟩ h;dsimp only at h ⊢;refine pX (λh0 => ?_) (λh0=>pP h);refine pZ (a22 s) ?_;rintro⟨k,u⟩ hk;dsimp only at hk ⊢;exact pX (λhk2=>pP λ_=>hk (by omega)) (λ_=>pP h)
end
def zh(n:Bool)(a b:List UInt8):Prop:=n=true\/Asc a/\Asc b
section
variable {T:List R6} {A:List R4} {B:List R3}
theorem j0r(a b:List UInt8):Pf (C120 (T,A,B,a,b,())) (λy=>y.2.2.1=0->Asc y.1/\Asc y.2.1):=by
 have fin:∀x:Bool,(x=false->Asc a/\(C72 (b,())=some (true,())->Asc b))->Pf ((C120_c0 (x,T,A,B,a,b,[],[],())).bind λval =>
  Sum.elim (λval=>some (val.2.1,val.2.2.1,val.1,()))
   (λval =>
    (C157 (val.1,val.2.1,val.2.2.1,val.2.2.2.2.1,())).bind λval_1 =>
     bif val_1.2.1 != 0 then some ([],[],val_1.2.1,())
     else some (val.2.2.2.1,val_1.1,0,()))
   val) (λy=>y.2.2.1=0->Asc y.1/\Asc y.2.1):=by
  intro x hx;cases x with
  | true=>exact pP λh=>absurd h (by decide)
  | false =>
   obtain⟨h1,h2⟩:=hx rfl;have h0:Pf (C120_c0 (false,T,A,B,a,b,[],[],())) (Sum.elim (λy=>y=(0,a,b,())/\Asc b) (λy=>y=(T,A,B,a,b,[],[],()))):=by
    unfold C120_c0 F120_c0;dsimp only;rw[cond_false];have hp:Pf (C72 (b,())) (λy=>y.1=true->Asc b):=λy e h=>by
     obtain⟨y1,u⟩:=y;dsimp only at h;subst h;exact h2 e
    refine pZ hp ?_;rintro⟨k,u⟩ hk;dsimp only at hk ⊢;exact pX (λh=>pP ⟨rfl,hk h⟩) (λ_=>pP rfl)
   refine pZ h0 ?_;rintro (y|y) hy
   . obtain⟨rfl,hb⟩:=hy
     exact pP λ_=>⟨h1,hb⟩
   . have hy':y=(T,A,B,a,b,[],[],()):=hy
     subst hy';dsimp only[elim_inr];refine pZ (j0t b) ?_;rintro⟨d,e,u⟩ h;dsimp only at h ⊢;exact pX (λh0=>pP λh1=>absurd h1 h0) (λh0=>pP λ_=>⟨h1,h (by omega)⟩)
 unfold C120 F120;dsimp only;refine pZ (a22 a) ?_;rintro⟨k,u⟩ hk;dsimp only at hk ⊢;refine pX (λ_=>fin true λh=>by cases h) (λhk2 => ?_);have ha:Asc a:=hk (by omega);have hp:Pf (C72 (b,())) (λy=>C72 (b,())=some (y.1,())):=λy e=>by obtain⟨y1,u⟩:=y;exact e
 refine pZ hp ?_;rintro⟨z,u⟩ hz;dsimp only at hz ⊢;refine pX (λ_ => ?_) (λhz0=>fin false λ_=>⟨ha,λh => ?_⟩)
 . refine pZ (a22 b) ?_
   rintro⟨q,u⟩ hq;dsimp only at hq ⊢;exact fin _ λh=>⟨ha,λ_=>hq (by have:=of_decide_eq_false h;omega)⟩
 . rw[h]at hz
   cases hz;cases hz0
theorem a89(n:Bool)(a b:List UInt8)(ha:a.length<=1000)(hs:Asc a):Pf (C89 (T,A,B,n,a,b,())) (λy=>y.2.2.2.1=0->zh y.1 y.2.1 y.2.2.1):=by
 unfold C89 F89;dsimp only;cases n with
 | true=>exact pP λ_ => .inl rfl
 | false =>
  simp only[cond_false];have hp:Pf (C50 (false,a,b,())) (λy=>y.1=true->b=[]/\Asc a):=λy e h=>by
   obtain⟨y1,u⟩:=y;dsimp only at h;subst h;exact yh ha e
  refine pZ hp ?_;rintro⟨k,u⟩ hk;dsimp only at hk ⊢;refine pX (λh=>pP λ_ => ?_) (λ_ => ?_)
  . obtain⟨rfl,h2⟩:=hk h
    exact .inr ⟨h2,jf.2 trivial⟩
  . refine pZ (j0r a b) ?_
    rintro⟨y1,y2,y3,u⟩ hy;dsimp only at hy ⊢;exact pX (λh0=>pP λh1=>absurd h1 h0) (λh0=>pP λ_ => .inr (hy (by omega)))
def ChE(U E hd bd:Bool)(t:Int×Bool×List UInt8×List UInt8×Bool×List UInt8×List UInt8×Bool×Bool×Int×Unit):Prop :=
 t.1≠2->(U=true\/(hd=false/\zh t.2.1 t.2.2.1 t.2.2.2.1/\zh t.2.2.2.2.1 t.2.2.2.2.2.1 t.2.2.2.2.2.2.1))/\(bd=true->U=true\/E=true)
def CsE(U E hd bd:Bool):CsK->Prop:=Sum.elim (ChE U E hd bd) (λz=>ChE U E hd bd z.2.2.2.2.2.2.2.2.2.2)
theorem ke(U E hd bd:Bool)(s:Int)(p q:Bool):ChE U E hd bd (2,false,[],[],false,[],[],p,q,s,()):=λh=>absurd rfl h
theorem vp(U E hd bd:Bool)(x:Bool)(n:Bool)(a b:List UInt8)(n':Bool)(a' b':List UInt8)(p1 p2:Bool)(z:Int)(m:Bool)(c d:List UInt8)(m':Bool)(c' d':List UInt8)(u e:Bool)(s:Int)(h:x=false->(U=true\/(hd=false/\zh m c d/\zh m' c' d'))/\(bd=true->U=true\/E=true)) :
 Pf (C60_c0 (x,n,a,b,n',a',b',p1,p2,z,0,false,[],[],false,[],[],false,false,0,0,m,c,d,m',c',d',u,e,s,())) (CsE U E hd bd):=by
 unfold C60_c0 F60_c0;dsimp only;cases x with
 | true=>exact pP (ke _ _ _ _ _ _ _)
 | false =>
  have:=h rfl;simp only[cond_false];refine pX (λ_=>pP λ_=>this) (λ_ => ?_);exact pX (λ_=>pP λ_=>this) (λ_=>pP λ_=>this)
theorem q9z(n:Bool)(a b:List UInt8):Pf (C121 (n,a,b,())) (λy=>y.1=false->Asc a):=by
 unfold C121 F121;dsimp only;refine pZ (a22 a) ?_;rintro⟨k,u⟩ hk;dsimp only at hk ⊢;refine pX (λ_=>pP λh=>by cases h) (λhk2 => ?_);have ha:Asc a:=hk (by omega);refine pZ pT ?_;rintro⟨z,u⟩ -
 dsimp only;refine pX (λ_ => ?_) (λ_=>pP λ_=>ha);refine pZ pT ?_;rintro⟨q,u⟩ -
 exact pP λ_=>ha
theorem a91(n:Bool)(a b:List UInt8)(n':Bool)(a' b':List UInt8)(hd bd:Bool)(z:Int):Pf (C91 (n,a,b,n',a',b',hd,bd,z,())) (λy=>y.1=false->hd=false/\Asc a/\Asc a'):=by
 unfold C91 F91;dsimp only;cases hd with
 | true=>exact pP λh=>by cases h
 | false =>
  simp only[cond_false];refine pZ (q9z n a b) ?_;rintro⟨k,u⟩ hk;dsimp only at hk ⊢;refine pX (λ_=>pP λh=>by cases h) (λh => ?_);refine pZ (q9z n' a' b') ?_;rintro⟨k',u⟩ hk';exact pP λh'=>⟨trivial,hk h,hk' h'⟩
theorem a88(n:Bool)(a b:List UInt8)(n':Bool)(a' b':List UInt8)(hd bd:Bool)(z k:Int)(m:Bool)(c d:List UInt8)(m':Bool)(c' d':List UInt8)(u e:Bool)(s:Int)(ha:a.length<=1000)(ha':a'.length<=1000)(hs:Asc a)(hs':Asc a') :
 Pf (C88 (T,A,B,n,a,b,n',a',b',hd,bd,z,k,m,c,d,m',c',d',u,e,s,())) (λy=>∃g p1 c d p2 c' d',y=(g,T,A,B,n,a,b,n',a',b',hd,bd,z,k,p1,c,d,p2,c',d',u,e,s,())/\(g=true->zh p1 c d/\zh p2 c' d')):=by
 unfold C88 F88;dsimp only;refine pZ (a89 n a b ha hs) ?_;rintro⟨y1,y2,y3,y4,q⟩ hy;refine pZ (a89 n' a' b' ha' hs') ?_;rintro⟨z1,z2,z3,z4,q'⟩ hz;dsimp only at hy hz ⊢;refine pX (λh0=>pP ⟨_,_,_,_,_,_,_,rfl,λhg=>⟨hy (by omega),hz ?_⟩⟩) (λ_=>pP ⟨_,_,_,_,_,_,_,rfl,λhg=>by cases hg⟩);exact eq_of_beq hg
theorem vq(hd bd:Bool)(x U E:Bool)(Z:Int)(n:Bool)(a b:List UInt8)(n':Bool)(a' b':List UInt8)(by':Int)(ha:a.length<=1000)(ha':a'.length<=1000)(u e:Bool)(s:Int)(hx:x=false->bd=true->U=true\/E=true) :
 Pf (C60_c1 (x,U,E,Z,n,a,b,n',a',b',hd,bd,by',0,false,[],[],false,[],[],false,false,0,0,n,a,b,n',a',b',u,e,s,T,A,B,())) (CsE U E hd bd):=by
 unfold C60_c1 F60_c1;dsimp only;cases x with
 | true=>exact pP (ke _ _ _ _ _ _ _)
 | false =>
  have hb:=hx rfl;simp only[cond_false];have pass:∀{v:CsK},CsE U E hd bd v->CsE U E hd bd v:=λh=>h;cases U with
  | true =>
   simp only[cond_true];refine pZ pT ?_;rintro⟨k,q⟩ -
   dsimp only;refine pX (λ_=>pP λ_=>⟨.inl rfl,hb⟩) (λ_ => ?_);refine pZ pT ?_;rintro⟨k,q⟩ -
   dsimp only;refine pX (λ_=>pP λ_=>⟨.inl rfl,hb⟩) (λ_ => ?_);refine pZ pT ?_;rintro⟨k,q⟩ -
   exact pP λ_=>⟨.inl rfl,hb⟩
  | false =>
   simp only[cond_false];refine pZ (a91 n a b n' a' b' hd bd by') ?_;rintro⟨k,q⟩ hk;dsimp only at hk ⊢;cases k with
   | true =>
    simp only[cond_true];refine pZ (vp false E hd bd true n a b n' a' b' hd bd by' n a b n' a' b' u e s λh=>by cases h) ?_;rintro (y|y) hy
    . exact pP hy
    . exact pP hy
   | false =>
    obtain⟨k1,k2,k3⟩:=hk rfl;simp only[cond_false];refine pZ (a88 n a b n' a' b' hd bd by' 0 n a b n' a' b' u e s ha ha' k2 k3) ?_;rintro _ ⟨g,p1,c,d,p2,c',d',rfl,hg⟩;dsimp only;refine pZ (vp false E hd bd (!g) n a b n' a' b' hd bd by' p1 c d p2 c' d' u e s λh => ?_) ?_
    . have:g=true:=by cases g<;>first|rfl|cases h
      exact⟨.inr ⟨k1,hg this⟩,hb⟩
    rintro (y|y) hy
    . exact pP hy
    . exact pP hy
theorem vr(hd bd:Bool)(x U E:Bool)(Z:Int)(n:Bool)(a b:List UInt8)(n':Bool)(a' b':List UInt8)(by':Int)(ha:a.length<=1000)(ha':a'.length<=1000)(u e:Bool)(s:Int) :
 Pf (C60_c2 (x,U,E,Z,n,a,b,n',a',b',hd,bd,by',0,false,[],[],false,[],[],false,false,0,0,n,a,b,n',a',b',u,e,s,T,A,B,())) (CsE U E hd bd):=by
 unfold C60_c2 F60_c2;dsimp only;cases x with
 | true=>exact pP (ke _ _ _ _ _ _ _)
 | false =>
  simp only[cond_false];have hp:Pf (C23 (U,E,Z,true,())) (λy=>y.1=true->U=true\/E=true):=by
   unfold C23 F23;dsimp only;cases U with
   | true=>exact pP λ_ => .inl rfl
   | false =>
    cases E with
    | true=>exact pP λ_ => .inr rfl
    | false=>exact pP λh=>by cases h
  refine pX (λhb => ?_) (λhb => ?_)
  . refine pZ hp ?_
    rintro⟨k,q⟩ hk;dsimp only at hk ⊢;refine pZ (vq hd bd (!k) U E Z n a b n' a' b' by' ha ha' u e s λh _=>hk (by cases k<;>first|rfl|cases h)) ?_;rintro (y|y) hy
    . exact pP hy
    . exact pP hy
  . refine pZ (vq hd bd false U E Z n a b n' a' b' by' ha ha' u e s λ_ h=>by rw[hb]at h;cases h) ?_
    rintro (y|y) hy
    . exact pP hy
    . exact pP hy
theorem vt(U E:Bool)(Z:Int)(n:Bool)(a b:List UInt8)(n':Bool)(a' b':List UInt8)(hd bd:Bool)(by':Int)(ha:a.length<=1000)(ha':a'.length<=1000)(u e:Bool)(s:Int) :
 Pf (C60_c3 (T,A,B,U,E,Z,n,a,b,n',a',b',hd,bd,by',0,false,[],[],false,[],[],false,false,0,0,n,a,b,n',a',b',u,e,s,())) (ChE U E hd bd):=by
 unfold C60_c3 F60_c3;dsimp only;refine pX (λ_ => ?_) (λ_ => ?_)
 . refine pZ (vr hd bd _ U E Z n a b n' a' b' by' ha ha' u e s) ?_
   rintro (y|y) hy
   . exact pP hy
   . exact pP hy
 . refine pZ (vr hd bd _ U E Z n a b n' a' b' by' ha ha' u e s) ?_
   rintro (y|y) hy
   . exact pP hy
   . exact pP hy
theorem a60(U E:Bool)(Z:Int)(n:Bool)(a b:List UInt8)(n':Bool)(a' b':List UInt8)(hd bd:Bool)(by':Int)(ha:a.length<=1000)(ha':a'.length<=1000) :
 Pf (C60 (T,A,B,U,E,Z,n,a,b,n',a',b',hd,bd,by',())) (ChE U E hd bd):=by
 unfold C60 F60;dsimp only;refine pX (λh => ?_) (λh => ?_)
 . subst h
   exact pZ (vt U E Z n a b n' a' b' hd true by' ha ha' _ _ _) λ_ h=>pP h
 . subst h
   exact pZ (vt U E Z n a b n' a' b' hd false by' ha ha' _ _ _) λ_ h=>pP h
theorem j0a(n:Bool)(a b:List UInt8)(ha:a.length<=1000)(hb:b.length<=1000)(hs:zh n a b){z:List UInt8}(e:C123 (n,a,b,())=some (z,())):Asc z:=by
 cases n with
 | true=>cases e;exact zb rfl
 | false =>
  rcases hs with h|⟨h1,h2⟩
  . cases h
  . obtain⟨⟨z',u⟩,e',hz⟩:=j1e a b ha hb
    rw[e]at e';cases e';exact hz.2 ⟨h1,h2⟩
end
theorem j1f(l:List (List UInt8))(hl:l.length<=1000000000):Df (C45 (l,())) (λy=>∃n:Nat,y.1=(n:Int)/\n<=l.length/\∀i<n,l.getD i []≠[]):=by
 unfold C45 F45;dsimp only;with_reducible repeat' (first|apply dP|apply dX<;>intro _)
 . exact⟨0,rfl,zero_le _,λi h=>by omega⟩
 . exact⟨0,rfl,zero_le _,λi h=>by omega⟩
 . refine dZ (P:=λy=>∃n:Nat,y.1=(n:Int)/\n<=l.length/\∀i<n,l.getD i []≠[]) ?_ λ_ h=>dP h
   rename_i h0 hne;have hl0:0<l.length:=by omega
   have hne0:∀i<1,l.getD i []≠[]:=λi hi=>by
    have:i=0:=by omega
    subst this;simpa using hne
   refine dL ?I ?m ?h _ ?hv ?hn
   case I=>exact(λv=>v.1=l/\∃n:Nat,v.2.1=(n:Int)/\n<=l.length/\∀i<n,l.getD i []≠[])
   case m=>exact(λv=>l.length-v.2.1.toNat)
   case hv=>exact⟨rfl,1,by dsimp only;rw[w64s (by omega)];omega,hl0,hne0⟩
   case hn=>exact(by(try dsimp only);omega)
   rintro⟨x0,x1,u⟩ hI;dsimp only at hI;obtain⟨rfl,n,rfl,h2,h3⟩:=hI;unfold F45_g0;dsimp only;with_reducible repeat' (first|apply dP|apply dX<;>intro _)
   . exact⟨n,rfl,h2,h3⟩
   . exact⟨n,rfl,h2,h3⟩
   . rename_i hx
     rw[w64s (by omega)];refine⟨⟨rfl,n+1,by(try dsimp only);omega,by omega,λi hi => ?_⟩,by(try dsimp only);omega⟩;by_cases he:i=n
     . subst he
       simpa using hx
     . exact h3 i (by omega)
   . omega
 . omega
theorem j1h(s:List UInt8)(hs:s.length<=1000000000):Df (C47 (s,())) (λy=>y.1=false->Asc s):=by
 unfold C47 F47;dsimp only;refine dZ (d21 s (by omega)) ?_;rintro⟨k,u⟩ ⟨-,hk⟩;dsimp only at hk ⊢;refine dP λh=>hk ?_;have:=of_decide_eq_false h;omega
theorem j1i(s:List UInt8)(hs:s.length<=1000000000):Df (C48 (s,())) (λ_=>True):=by
 unfold C48 F48;dsimp only;refine dZ (d83 s (by omega)) ?_;rintro⟨r,k,u⟩ -
 exact dP trivial
theorem j0e(l:List (List UInt8))(hl:l.length<=1000000000)(hx:∀s∈l,s.length<=1000000000):Df (C46 (l,())) (λy=>y.1=false->∀s∈l,Asc s):=by
 have hd:Df (C64_l0 (l,(l.length:Int),0,())) (Sum.elim (λ_=>∀s∈l,Asc s) (λy=>0<=y.1)):=by
  refine dL ?I ?m ?h _ ?hv ?hn
  case I=>exact(λv=>v.1=l/\v.2.1=(l.length:Int)/\∃k:Nat,v.2.2.1=(k:Int)/\k<=l.length/\∀s∈l.take k,Asc s)
  case m=>exact(λv=>l.length-v.2.2.1.toNat)
  case hv=>exact⟨rfl,rfl,0,rfl,zero_le _,λs h=>by cases h⟩
  case hn=>exact(by(try dsimp only);omega)
  rintro⟨x0,n,i,u⟩ ⟨e1,e2,k,e3,hk,ha⟩;dsimp only at e1 e2 e3;subst e1 e2 e3;unfold F64_l0;dsimp only;by_cases hlt:k<x0.length
  . have hg:x0.getD k []=x0[k]:=getD_lt hlt
    rw[decide_eq_true (show (k:Int)<(x0.length:Int) by omega),decide_eq_true (show (0:Int)<=(k:Int) by omega)];simp only[cond_true,Bool.and_self,toNat_natCast,hg];refine dZ (j1h _ (hx _ (getElem_mem hlt))) ?_;rintro⟨b,u⟩ hb;dsimp only at hb ⊢;cases b with
    | true=>exact dP (by dsimp only[elim_inr];omega)
    | false =>
     rw[cond_false,wrN k (by omega)];refine dP ⟨⟨rfl,rfl,k+1,rfl,by omega,λs hs => ?_⟩,by(try dsimp only);omega⟩;rw[take_succ_get hlt]at hs;rcases mem_append.1 hs with h|h
     . exact ha s h
     . rw[mem_singleton.1 h];exact hb rfl
  . have:k=x0.length:=by omega
    subst this;rw[decide_eq_false (by omega),cond_false];rw[take_of_length_le (le_refl _)]at ha;exact dP ha
 unfold C46 F46;dsimp only;refine dZ (P:=λy=>y.1<0->∀s∈l,Asc s) ?_ ?_
 . unfold C64 F64
   dsimp only;refine dZ hd ?_;rintro (y|y) hy
   . exact dP λ_=>hy
   . have hy':0<=y.1:=hy
     exact dP λh=>by dsimp only at h;omega
 . rintro⟨k,u⟩ hk
   dsimp only at hk ⊢;refine dP λh=>hk ?_;have:=of_decide_eq_false h;omega
theorem j1g(l:List (List UInt8))(hl:l.length<=1000000000)(hx:∀s∈l,s.length<=1000000000):Df (C46v1 (l,())) (λ_=>True):=by
 have hd:Df (C64v1_l0 (l,(l.length:Int),0,())) (λ_=>True):=by
  refine dL ?I ?m ?h _ ?hv ?hn
  case I=>exact(λv=>v.1=l/\v.2.1=(l.length:Int)/\∃k:Nat,v.2.2.1=(k:Int)/\k<=l.length)
  case m=>exact(λv=>l.length-v.2.2.1.toNat)
  case hv=>exact⟨rfl,rfl,0,rfl,zero_le _⟩
  case hn=>exact(by(try dsimp only);omega)
  rintro⟨x0,n,i,u⟩ ⟨e1,e2,k,e3,hk⟩;dsimp only at e1 e2 e3;subst e1 e2 e3;unfold F64v1_l0;dsimp only;by_cases hlt:k<x0.length
  . have hg:x0.getD k []=x0[k]:=getD_lt hlt
    rw[decide_eq_true (show (k:Int)<(x0.length:Int) by omega),decide_eq_true (show (0:Int)<=(k:Int) by omega)];simp only[cond_true,Bool.and_self,toNat_natCast,hg];refine dZ (j1i _ (hx _ (getElem_mem hlt))) ?_;rintro⟨b,u⟩ -
    dsimp only;cases b with
    | true=>exact dP trivial
    | false =>
     rw[cond_false,wrN k (by omega)];exact dP ⟨⟨rfl,rfl,k+1,rfl,by omega⟩,by(try dsimp only);omega⟩
  . rw[decide_eq_false (by omega),cond_false]
    exact dP trivial
 unfold C46v1 F46v1;dsimp only;refine dZ (P:=λ_=>True) ?_ λ_ _=>dP trivial;unfold C64v1 F64v1;dsimp only;refine dZ hd ?_;rintro (y|y) -
 . exact dP trivial
 . exact dP trivial
theorem j0d(s:List UInt8)(b:Bool)(hs:s.length<=1000000000000000):Df (C132v1 (s,b,())) (λ_=>True):=by
 unfold C132v1 F132v1;dsimp only;refine dZ (P:=λ_=>True) ?_ (λz _=>by cases z<;>exact dP trivial);refine dL ?I ?m ?h _ ?hv ?hn
 case I=>exact(λv=>v.2.1.1=s/\0<=v.2.1.2)
 case m=>exact(λv=>s.length-v.2.1.2.toNat)
 case hv=>exact⟨rfl,Int.le_refl _⟩
 case hn=>exact(by(try dsimp only);omega)
 rintro⟨x0,⟨x1,p⟩,u⟩ hI;dsimp only at hI;obtain⟨rfl,h0⟩:=hI;unfold F132v1_l0;dsimp only;with_reducible repeat' (first|apply dP|apply dX<;>intro _)
 . refine dZ (P:=λ_=>True) ?_ ?_
   . unfold C99 F99
     dsimp only;with_reducible repeat' (first|apply dP|apply dX<;>intro _)
     all_goals trivial
   . rintro⟨x,u⟩ -
     dsimp only;have:=decR_pos x1 p.toNat
     with_reducible repeat' (first|apply dP|apply dX<;>intro _)
     . trivial
     . exact⟨⟨rfl,by(try dsimp only);omega⟩,by(try dsimp only);omega⟩
 . trivial
theorem j1j(s:List UInt8)(hs:s.length<=1000000000):Df (C67 (s,())) (λy=>y.2.1.length<=s.length):=by
 unfold C67 F67;dsimp only;refine dZ (u98 58 s (by omega)) ?_;rintro⟨y1,y2,y3,u⟩ ⟨h1,h2⟩;dsimp only at h1 h2 ⊢;rw[p25 y1 (by omega)];simp only[Option.bind_some];with_reducible repeat' (first|apply dP|apply dX<;>intro _)
 . refine dZ (P:=λ_=>True) ?_ ?_
   . unfold C70v1 F70v1
     dsimp only;refine dZ (P:=λ_=>True) ?_ λ_ _=>dP trivial;unfold C109v1 F109v1;dsimp only;exact dZ (j0d y1 true (by omega)) λ_ _=>dP trivial
   . rintro⟨z,u⟩ -
     exact dP h2
 . exact h2
 . exact h2
theorem j0f(l:List (List UInt8))(hl:l.length<=2000000)(hx:∀s∈l,s.length<=2000000)(hn:∀i<l.length,l.getD i []≠[]) :
 Df (C49_l0 (false,l,(l.length:Int),0,[],())) (λy=>y.1.length<=l.length/\∀f∈y.1,f.2.length<=10000000000000):=by
 refine dL ?I ?m ?h _ ?hv ?hn
 case I=>exact(λv=>v.2.1=l/\v.2.2.1=(l.length:Int)/\(v.1=true->v.2.2.2.2.1≠[])/\∃k:Nat,v.2.2.2.1=(k:Int)/\k<=l.length/\v.2.2.2.2.1.length<=k/\∀f∈v.2.2.2.2.1,f.2.length<=2000000*k)
 case m=>exact(λv=>l.length-v.2.2.2.1.toNat)
 case hv=>exact⟨rfl,rfl,λh=>(by cases h),0,rfl,zero_le _,le_refl _,λf h=>(by cases h)⟩
 case hn=>exact(by(try dsimp only);omega)
 rintro⟨g,x0,n,i,fs,u⟩ ⟨e1,e2,hg,k,e3,hk,hf,hb⟩;dsimp only at e1 e2 e3 hg hf hb;subst e1 e2 e3;unfold F49_l0;dsimp only;by_cases hlt:k<x0.length
 . have hgd:x0.getD k []=x0[k]:=getD_lt hlt
   have hlen:x0[k].length<=2000000:=hx _ (getElem_mem hlt);have hne:=hn k hlt;rw[hgd]at hne;have hpos:0<x0[k].length:=List.length_pos_iff.2 hne;rw[decide_eq_true (show (k:Int)<(x0.length:Int) by omega),decide_eq_true (show (0:Int)<=(k:Int) by omega)];simp only[cond_true,Bool.and_self,toNat_natCast,hgd];rw[decide_eq_true (show (0:Int)<((x0[k].length:Nat):Int) by omega),cond_true];refine dZ (P:=λ_=>True) ?_ ?_
   . unfold C66 F66
     dsimp only;rw[j0y];exact dP trivial
   rintro⟨q,u⟩ -
   dsimp only;refine dX (λ_ => ?_) (λ_ => ?_)
   . cases g with
     | false =>
      rw[cond_false,wrN k (by omega)];exact dP ⟨⟨rfl,rfl,hg,k+1,rfl,by omega,by(try dsimp only);omega,λf h=>by have:=hb f h;omega⟩,by(try dsimp only);omega⟩
     | true =>
      have hfl:0<fs.length:=List.length_pos_iff.2 (hg rfl);rw[cond_true,w64s (n:=((fs.length:Nat):Int)-1) (by omega),show ((fs.length:Nat):Int)-1=((fs.length-1:Nat):Int) by omega];have hlf:fs.length-1<fs.length:=by omega
      have hgf:fs.getD (fs.length-1) ([],[])=fs[fs.length-1]:=getD_lt hlf;have hbf:=hb _ (getElem_mem hlf);rw[decide_eq_true (show (0:Int)<=((fs.length-1:Nat):Int) by omega),decide_eq_true (show ((fs.length-1:Nat):Int)<((fs.length:Nat):Int) by omega)];simp only[cond_true,Bool.and_self,toNat_natCast,hgf];rw[decide_eq_true (show fs[fs.length-1].2.length+x0[k].length<=9223372036854775807 by omega),cond_true,wrN k (by omega)];refine dP ⟨⟨rfl,rfl,λ_ h => ?_,k+1,rfl,by omega,by simp only[length_set];omega,λf h => ?_⟩,by(try dsimp only);omega⟩
      . have:=congrArg List.length h
        simp only[length_set,length_nil]at this;omega
      . rcases List.mem_or_eq_of_mem_set h with h|rfl
        . have:=hb f h;omega
        . simp only[List.length_append];omega
   . refine dZ (j1j _ (by omega)) ?_
     rintro⟨y1,y2,ok,u⟩ hy;dsimp only at hy ⊢;cases ok with
     | false =>
      rw[cond_false,wrN k (by omega)];exact dP ⟨⟨rfl,rfl,λh=>(by cases h),k+1,rfl,by omega,by(try dsimp only);omega,λf h=>by have:=hb f h;omega⟩,by(try dsimp only);omega⟩
     | true =>
      rw[cond_true,decide_eq_true (show fs.length+[(y1,y2)].length<=140737488355328/32 by simp only[length_cons,length_nil];omega),cond_true,wrN k (by omega)];refine dP ⟨⟨rfl,rfl,λ_ h=>by simp at h,k+1,rfl,by omega,by simp only[qk];omega,λf h => ?_⟩,by(try dsimp only);omega⟩;rcases mem_append.1 h with h|h
      . have:=hb f h;omega
      . rw[mem_singleton.1 h];dsimp only;omega
 . have:k=x0.length:=by omega
   subst this;rw[decide_eq_false (by omega),cond_false];exact dP ⟨hf,λf h=>by have:=hb f h;omega⟩
theorem j0g(fs:List (List UInt8×List UInt8))(hl:fs.length<=2000000)(hx:∀f∈fs,f.2.length<=10000000000000) :
 Df (C49_l1 ((fs.length:Int),0,fs,())) (λy=>y.1.length<=2000000):=by
 refine dL ?I ?m ?h _ ?hv ?hn
 case I=>exact(λv=>v.1=(fs.length:Int)/\v.2.2.1.length=fs.length/\∃k:Nat,v.2.1=(k:Int)/\k<=fs.length/\∀j,k<=j->v.2.2.1[j]? = fs[j]?)
 case m=>exact(λv=>fs.length-v.2.1.toNat)
 case hv=>exact⟨rfl,rfl,0,rfl,zero_le _,λj _=>rfl⟩
 case hn=>exact(by(try dsimp only);omega)
 rintro⟨n,i,l,u⟩ ⟨e1,e2,k,e3,hk,hj⟩;dsimp only at e1 e2 e3 hj;subst e1 e3;unfold F49_l1;dsimp only;by_cases hlt:k<fs.length
 . have hgk:l.getD k ([],[])=fs[k]:=by
    rw[List.getD_eq_getElem?_getD,hj k (le_refl _),List.getElem?_eq_getElem hlt];rfl
   have hb:=hx _ (getElem_mem hlt);rw[decide_eq_true (show (k:Int)<(fs.length:Int) by omega),decide_eq_true (show (0:Int)<=(k:Int) by omega),decide_eq_true (show (k:Int)<((l.length:Nat):Int) by omega)];simp only[cond_true,Bool.and_self,toNat_natCast,hgk];have e68:C68 (fs[k].2,[32,9],())=some (Lib.trimS fs[k].2 [32,9],()):=by
    unfold C68;dsimp only;rw[if_pos ⟨by omega,by decide,by decide⟩]
   rw[e68];simp only[Option.bind_some];rw[wrN k (by omega)];refine dP ⟨⟨rfl,by simp only[length_set];exact e2,k+1,rfl,by omega,λj hkj => ?_⟩,by(try dsimp only);omega⟩;rw[List.getElem?_set_ne (by omega)];exact hj j (by omega)
 . rw[decide_eq_false (by omega),cond_false]
   refine dP ?_;show l.length<=2000000;omega
theorem j1d(fs:List (List UInt8×List UInt8))(hl:fs.length<=2000000)(h b bad:Bool)(n:Int) :
 Df (C21_l0 (fs,(fs.length:Int),0,false,false,false,0,0,h,b,bad,n,0,())) (λy=>y.2.2.2.2.2.1=h/\y.2.2.2.2.2.2.1=b):=by
 refine dL ?I ?m ?h _ ?hv ?hn
 case I=>exact(λv=>v.1=fs/\v.2.1=(fs.length:Int)/\v.2.2.2.2.2.2.2.2.1=h/\v.2.2.2.2.2.2.2.2.2.1=b/\∃k:Nat,v.2.2.1=(k:Int)/\k<=fs.length)
 case m=>exact(λv=>fs.length-v.2.2.1.toNat)
 case hv=>exact⟨rfl,rfl,rfl,rfl,0,rfl,zero_le _⟩
 case hn=>exact(by(try dsimp only);omega)
 rintro⟨x0,x1,x2,x3,x4,x5,x6,x7,x8,x9,x10,x11,x12,u⟩ ⟨e1,e2,e4,e5,k,e3,hk⟩;dsimp only at e1 e2 e3 e4 e5;subst e1 e2 e3 e4 e5;unfold F21_l0;dsimp only;by_cases hlt:k<x0.length
 . rw[decide_eq_true (show (k:Int)<(x0.length:Int) by omega),decide_eq_true (show (0:Int)<=(k:Int) by omega),wrN k (by omega)]
   simp only[cond_true,Bool.and_self];refine dX (λ_ => ?_) (λ_ => ?_)
   . exact dP ⟨⟨rfl,rfl,rfl,rfl,k+1,rfl,by omega⟩,by(try dsimp only);omega⟩
   . exact dP ⟨⟨rfl,rfl,rfl,rfl,k+1,rfl,by omega⟩,by(try dsimp only);omega⟩
 . rw[decide_eq_false (by omega),cond_false]
   exact dP ⟨rfl,rfl⟩
theorem j1c(ls:List (List UInt8))(hl:ls.length<=2000000)(hx:∀s∈ls,s.length<=2000000) :
 ∃(n:Nat) (h b bad:Bool) (k hops:Int),C45 (ls,())=some ((n:Int),())/\C21 (ls,())=some (h,b,bad,k,hops,())/\(h=false->∀s∈ls.take n,Asc s)/\(b=false->∀s∈ls.drop n,Asc s):=by
 obtain⟨⟨_,u⟩,e45,n,hn,hnl,hne⟩:=j1f ls (by omega);dsimp only at hn;subst hn;obtain⟨⟨h,u1⟩,e1,h1⟩:=j0e (ls.take n) (by simp only[length_take];omega) (λs hs=>by have:=hx s (mem_of_mem_take hs);omega);obtain⟨⟨b,u2⟩,e2,h2⟩:=j0e (ls.drop n) (by simp only[List.length_drop];omega) (λs hs=>by have:=hx s (List.mem_of_mem_drop hs);omega);obtain⟨⟨bad,u3⟩,e3,-⟩:=j1g (ls.take n) (by simp only[length_take];omega) (λs hs=>by have:=hx s (mem_of_mem_take hs);omega);obtain⟨⟨fs,u5⟩,e4,hf1,hf2⟩:=j0f (ls.take n) (by simp only[length_take];omega) (λs hs=>hx s (mem_of_mem_take hs)) (λi hi=>by
  simp only[length_take]at hi;have:=hne i (by omega)
  rwa[List.getD_eq_getElem?_getD,List.getElem?_take_of_lt (by omega),<-List.getD_eq_getElem?_getD])
 dsimp only at hf1 hf2;simp only[length_take]at hf1;obtain⟨⟨fs2,u6⟩,e5,hf3⟩:=j0g fs (by omega) hf2;have e49:C49 (ls,())=some (fs2,()):=by
  show F49 C45 C66 C67 C68 C49_l0 C49_l1 _=_;simp only[F49,e45,Option.bind_some];rw[decide_eq_true (show (0:Int)<=(n:Int) by omega),decide_eq_true (show (n:Int)<=((ls.length:Nat):Int) by omega)];simp only[Bool.and_self,cond_true,toNat_natCast,e4,e5,Option.bind_some]
 obtain⟨⟨y1,y2,y3,y4,y5,y6,y7,y8,y9,y10,u7⟩,e6,g1,g2⟩:=j1d fs2 hf3 h b bad (n:Int);dsimp only at g1 g2;subst g1 g2;refine⟨n,_,_,y8,y9,y10,e45,?_,h1,h2⟩;show F21 C45 C46 C46v1 C49 C21_l0 _=_;simp only[F21,e45,Option.bind_some];rw[decide_eq_true (show (0:Int)<=(n:Int) by omega),decide_eq_true (show (n:Int)<=((ls.length:Nat):Int) by omega)];simp only[Bool.and_self,cond_true,toNat_natCast,e1,e2,e3,e49,e6,Option.bind_some]
def Fl(m:MM):Prop:=∃n:Nat,C45 (m.ls,())=some ((n:Int),())/\(m.h=false->∀s∈m.ls.take n,Asc s)/\(m.b=false->∀s∈m.ls.drop n,Asc s)
def vo(v:VV)(out:List (Int×List UInt8)):Prop:=∀p∈out,p.2.length<=1000000/\(Asc p.2\/v.2.2.2.2.1=true\/(v.2.2.2.2.2.1=true/\p.1=3))
theorem jt{v:VV}{k:Int}{t:List UInt8}(hl:t.length<=1000000)(h:Asc t\/v.2.2.2.2.1=true):vo v [(k,t)]:=by
 intro p hp;rw[mem_singleton.1 hp];exact⟨hl,h.elim .inl λh => .inr (.inl h)⟩
theorem kh(n:Int):∀(k:Nat) (l:List (List UInt8)) (p:Int×List UInt8),p∈tag n k l->∃(i:Nat) (h:i<l.length),p=((bif decide (((k+i:Nat):Int)<n)then 2 else 3),l[i])
 | k,[],p,h=>by cases h
 | k,s::l,p,h=>by
  rcases mem_cons.1 h with rfl|h
  . exact⟨0,by simp,rfl⟩
  . obtain⟨i,hi,rfl⟩:=kh n (k+1) l p h
    exact⟨i+1,by simpa using hi,by rw[show k+1+i=k+(i+1) by omega];rfl⟩
theorem vw{x y:List UInt8}(h:dotC x=some y):y=x\/y=46::x:=by
 have h':(C76 (x,[46],())).bind (λa=>bif decide (x.length<=1000000000)then some (bif a.1 then 46::x else x)else none)=some y:=h;obtain⟨⟨z,u⟩,e76,hz⟩:=d76k x [46];rw[e76,Option.bind_some]at h';rcases cond_some h' with⟨_,h2⟩|⟨_,h2⟩
 case inr=>cases h2
 have hy:(bif z then 46::x else x)=y:=Option.some.inj h2;cases z with
 | true=>exact .inr hy.symm
 | false=>exact .inl hy.symm
theorem wu{l ys:List (List UInt8)}(h:linesC l=some ys){i:Nat}(hi:i<ys.length):∃(hl:i<l.length),dotC l[i]=some ys[i]:=by
 have hlen:=linesC_len h;have hl:i<l.length:=by omega
 obtain⟨y,h1,h2⟩:=linesC_at h i l[i] (List.getElem?_eq_getElem hl);rw[List.getElem?_eq_getElem hi]at h2;cases h2;exact⟨hl,h1⟩
theorem ve{x y:List UInt8}(h:dotC x=some y)(ha:Asc x):Asc y:=by
 rcases vw h with rfl|rfl
 . exact ha
 . intro c hc
   rcases mem_cons.1 hc with rfl|hc
   . decide
   . exact ha c hc
theorem vv{m:MM}(hm:Mok m){u e:Bool}{z:Int}{ch:Cho}(h:C60 (m.T,m.A,m.B,u,e,z,m.fn,m.fl,m.fd,m.tn,m.tl,m.td,m.h,m.b,m.z,())=some ch)(hk:ch.1≠2) :
 (u=true\/(m.h=false/\zh ch.2.1 ch.2.2.1 ch.2.2.2.1/\zh ch.2.2.2.2.1 ch.2.2.2.2.2.1 ch.2.2.2.2.2.2.1))/\(m.b=true->u=true\/e=true) :=
 a60 u e z m.fn m.fl m.fd m.tn m.tl m.td m.h m.b m.z hm.fl hm.tl ch h hk
theorem wx{m:MM}(hm:Mok m)(hnm:Asc m.nm)(hfl:Fl m){c:Int}{v v':VV}{out:List (Int×List UInt8)}(h:Rpl m c v out v')(hv:Inv m v)(hv':Inv m v'):vo v' out:=by
 cases h
 case over=>exact λp hp=>by cases hp
 case deaf=>exact λp hp=>by cases hp
 case msg he re ss r hc hmsg =>
  obtain⟨n',ys,e45',hys,rfl⟩:=hmsg;obtain⟨n,e45,h1,h2⟩:=hfl;rw[e45]at e45';cases e45';obtain⟨g1,g2,-⟩:=hv.2.2.2 (by simp) (by simp);obtain⟨g3,g4⟩:=vv hm g1 g2;intro p hp;obtain⟨i,hi,rfl⟩:=kh _ _ _ _ hp;dsimp only;rw[Nat.zero_add];simp only[qk]at hi;by_cases hiy:i<ys.length
  . rw[List.getElem_append_left hiy]
    obtain⟨hil,hdot⟩:=wu hys hiy;have hlx:=hm.lx _ (getElem_mem hil);have hyl:ys[i].length<=1000000:=by
     rcases vw hdot with h|h
     . rw[h];omega
     . rw[h,length_cons];omega
    refine⟨hyl,?_⟩;by_cases hin:i<n
    . rw[decide_eq_true (show ((i:Nat):Int)<(n:Int) by omega),cond_true]
      rcases g3 with g3|g3
      . exact .inr (.inl g3)
      . refine .inl (ve hdot (h1 g3.1 _ ?_))
        exact List.mem_take_iff_getElem.2 ⟨i,by omega,rfl⟩
    . rw[decide_eq_false (show ¬((i:Nat):Int)<(n:Int) by omega),cond_false]
      cases hb:m.b with
      | true =>
       rcases g4 hb with g|g
       . exact .inr (.inl g)
       . exact .inr (.inr ⟨g,rfl⟩)
      | false =>
       refine .inl (ve hdot (h2 hb _ ?_));exact List.mem_drop_iff_getElem.2 ⟨i-n,by omega,by congr 1;omega⟩
  . have:i=ys.length:=by omega
    subst this;rw[List.getElem_append_right (le_refl _)];simp only[Nat.sub_self,List.getElem_cons_zero];exact⟨by decide,.inl (zb rfl)⟩
 case helo=>exact jt (by have:=hm.nm;simp only[qk];omega) (.inl (qm.2 ⟨zb rfl,hnm⟩))
 case greet=>exact jt (by have:=hm.nm;simp only[qk];omega) (.inl (qm.2 ⟨zb rfl,hnm⟩))
 case mail he re ss r t u e z ch c1 c2 g1 g2 hf =>
  obtain⟨hl,x,q,ex,rfl,hq⟩:=hf;refine jt (by omega) ?_;obtain⟨g3,-⟩:=vv hm g1 g2;have hB:=(hv'.2.2.2 (by simp) (by simp)).2.2;rcases g3 with g3|g3
  . exact .inr g3
  . exact .inl (qm.2 ⟨qm.2 ⟨zb rfl,qm.2 ⟨zb rfl,j0a _ _ _ hB.1.1 hB.1.2 g3.2.1 ex⟩⟩,hq⟩)
 case rcpt he re ss r t c1 c2 hf =>
  obtain⟨hl,x,ex,rfl⟩:=hf;refine jt (by omega) ?_;obtain⟨g1,g2,hB⟩:=hv.2.2.2 (by simp) (by simp);obtain⟨g3,-⟩:=vv hm g1 g2;rcases g3 with g3|g3
  . exact .inr g3
  . exact .inl (qm.2 ⟨qm.2 ⟨zb rfl,zb rfl⟩,j0a _ _ _ hB.2.1 hB.2.2 g3.2.2 ex⟩)
 all_goals exact jt (by decide) (.inl (zb rfl))
theorem s24(m:MM)(v:VV):C24 (full m v)=some (v.2.2.2.2.1,v.2.2.2.2.2.1,v.2.2.2.2.2.2.1,full m v):=by
 obtain⟨st,he,re,ss,cu,ce,cz,k,gn,gl,gd,vn,vl,vd,e8,u8,cs,⟨⟩⟩:=v;rfl
theorem j1m(l:List Rp)(hd:Bool)(i:Int)(out:List (Int×List UInt8))(k:Int)(S:SS):F5_l0 C10 C11 C12 C14 C21 C22 C23 C24 C7 C8 C9 (l,hd,i,out,k,S) =
 bif decide (k<((out.length:Nat):Int))then
  bif decide (0<=k)&&decide (k<((out.length:Nat):Int))then
   (C22 ((out.getD k.toNat (0,[])).2,())).bind λval =>
    bif decide (val.1>=0)then
     (C24 S).bind λval =>
      bif decide (0<=k)&&decide (k<((out.length:Nat):Int))then
       (C23 (val.1,val.2.1,val.2.2.1,(out.getD k.toNat (0,[])).1==3,())).bind λval_1 =>
        bif !val_1.1 then some (Sum.inr (Sum.inr (false,())))
        else some (Sum.inl (l,hd,i,out,IntKind.i64.wrap (k+1),val.2.2.2))
      else none
    else some (Sum.inl (l,hd,i,out,IntKind.i64.wrap (k+1),S))
  else none
 else some (Sum.inr (Sum.inl (l,hd,i,S))):=by
 obtain⟨T,A,B,nm,fn2,fl2,fd2,ls2,h2,b2,d2,ln2,hp2,z2,tn,tl,td,st,he,re,ss,cu,ce,cz,k,gn,gl,gd,vn,vl,vd,e8,u8,cs,⟨⟩⟩:=S;rfl
theorem j1k(l:List Rp)(hd:Bool)(i:Int)(out:List (Int×List UInt8))(hl:out.length<=100000000)(m:MM)(v:VV)(ho:vo v out) :
 Df (C5_l0 (l,hd,i,out,0,full m v)) (Sum.elim (λy=>y=(l,hd,i,full m v)) (λ_=>False)):=by
 refine dL ?I ?m ?h _ ?hv ?hn
 case I=>exact(λw=>∃k:Nat,k<=out.length/\w=(l,hd,i,out,(k:Int),full m v))
 case m=>exact(λw=>out.length-w.2.2.2.2.1.toNat)
 case hv=>exact⟨0,zero_le _,rfl⟩
 case hn=>exact(by(try dsimp only);omega)
 rintro _ ⟨k,hk,rfl⟩;rw[j1m];by_cases hlt:k<out.length
 . have hg:out.getD k (0,[])=out[k]:=getD_lt hlt
   obtain⟨hlen,hor⟩:=ho _ (getElem_mem hlt);obtain⟨⟨q,u⟩,e22,-,hq⟩:=d21 out[k].2 (by omega);dsimp only at hq;rw[decide_eq_true (show (k:Int)<(out.length:Int) by omega),decide_eq_true (show (0:Int)<=(k:Int) by omega)];simp only[cond_true,Bool.and_self,toNat_natCast,hg,e22,Option.bind_some];by_cases hq0:q>=0
   . have hna:¬Asc out[k].2:=λh=>by
      have:=j0z _ hlen h;rw[e22]at this;cases this;omega
     rw[decide_eq_true hq0];simp only[cond_true,s24,Option.bind_some];have e23:C23 (v.2.2.2.2.1,v.2.2.2.2.2.1,v.2.2.2.2.2.2.1,out[k].1==3,())=some (true,()):=by
      rcases hor with h|h|⟨h,h'⟩
      . exact(hna h).elim
      . rw[h];rfl
      . rw[h,h']
        cases v.2.2.2.2.1<;>rfl
     rw[e23];simp only[Option.bind_some,Bool.not_true,cond_false];rw[wrN k (by omega)];exact dP ⟨⟨k+1,by omega,rfl⟩,by(try dsimp only);omega⟩
   . rw[decide_eq_false hq0,cond_false,wrN k (by omega)]
     exact dP ⟨⟨k+1,by omega,rfl⟩,by(try dsimp only);omega⟩
 . rw[decide_eq_false (by omega),cond_false]
   exact dP rfl
theorem j1n(l:List Rp)(hd:Bool)(i:Int)(S:SS):F5_l1 C10 C11 C12 C14 C21 C22 C23 C24 C7 C8 C9 C5_l0 (l,hd,i,S) =
 bif decide (i<((l.length:Nat):Int))then
  bif decide (0<=i)&&decide (i<((l.length:Nat):Int))then
   (C14 ((l.getD i.toNat (0,[])).1,(l.getD i.toNat (0,[])).2,S)).bind λval =>
    (C5_l0 (l,hd,i,val.1,0,val.2)).bind λval =>
     Sum.elim (λval=>some (Sum.inl (val.1,val.2.1,IntKind.i64.wrap (val.2.2.1+1),val.2.2.2)))
      (λval=>some (Sum.inr (Sum.inr (val.1,())))) val
  else none
 else some (Sum.inr (Sum.inl (hd,()))):=by
 obtain⟨T,A,B,nm,fn2,fl2,fd2,ls2,h2,b2,d2,ln2,hp2,z2,tn,tl,td,st,he,re,ss,cu,ce,cz,k,gn,gl,gd,vn,vl,vd,e8,u8,cs,⟨⟩⟩:=S;rfl
theorem ww{m:MM}(hm:Mok m){c:Int}{v v':VV}{out:List (Int×List UInt8)}(h:Rpl m c v out v'):out.length<=100000000:=by
 cases h
 case msg he re ss r hc hmsg =>
  obtain⟨n',ys,e45',hys,rfl⟩:=hmsg;have:=linesC_len hys;have:=hm.ls;rw[tag_len,List.length_append,length_cons,length_nil];omega
 all_goals simp
theorem wm{m:MM}(hm:Mok m)(hnm:Asc m.nm)(hfl:Fl m)(l:List Rp)(hl:l.length<=30)(hr:∀r∈l,Sh r)(hd:Bool)(v:VV)(hv:Inv m v) :
 Df (C5_l1 (l,hd,0,full m v)) (Sum.elim (λy=>y=(hd,())) (λ_=>False)):=by
 refine dL ?I ?m ?h _ ?hv ?hn
 case I=>exact(λw=>∃(i:Nat) (v:VV),i<=l.length/\w=(l,hd,(i:Int),full m v)/\Inv m v)
 case m=>exact(λw=>l.length-w.2.2.1.toNat)
 case hv=>exact⟨0,v,zero_le _,rfl,hv⟩
 case hn=>exact(by(try dsimp only);omega)
 rintro _ ⟨i,v,hi,rfl,hv⟩;rw[j1n];by_cases hlt:i<l.length
 . have hg:l.getD i (0,[])=l[i]:=getD_lt hlt
   have hsh:=hr _ (getElem_mem hlt);obtain⟨out,v',e14,hR,hv'⟩:=take_ok hm l[i].1 l[i].2 (by have:=hsh.1;omega) (λx hx=>by have:=hsh.2 x hx;omega) v hv;rw[decide_eq_true (show (i:Int)<(l.length:Int) by omega),decide_eq_true (show (0:Int)<=(i:Int) by omega)];simp only[cond_true,Bool.and_self,toNat_natCast,hg,Option.bind_some,e14];refine dZ (j1k l hd i out (ww hm hR) m v' (wx hm hnm hfl hR hv hv')) ?_;rintro (y|y) hy
   . have hy':y=(l,hd,(i:Int),full m v'):=hy
     subst hy';dsimp only[elim_inl];rw[wrN i (by omega)];exact dP ⟨⟨i+1,v',by omega,rfl,hv'⟩,by(try dsimp only);omega⟩
   . exact hy.elim
 . rw[decide_eq_false (by omega),cond_false]
   exact dP rfl
theorem j1l(l:List Rp)(hd:Bool)(S:SS)(h:Df (C5_l1 (l,hd,0,S)) (Sum.elim (λy=>y=(hd,())) (λ_=>False))):C5_c0 (l,hd,S)=some (hd,()):=by
 obtain⟨w,e,hw⟩:=h;have hf:C5_c0 (l,hd,S)=F5_c0 C10 C11 C12 C14 C21 C22 C23 C24 C7 C8 C9 C5_l1 (l,hd,S):=rfl;rw[hf];obtain⟨T,A,B,nm,fn2,fl2,fd2,ls2,h2,b2,d2,ln2,hp2,z2,tn,tl,td,st,he,re,ss,cu,ce,cz,k,gn,gl,gd,vn,vl,vd,e8,u8,cs,⟨⟩⟩:=S;simp only[F5_c0,e,Option.bind_some];rcases w with w|w
 . have hw':w=(hd,()):=hw
   subst hw';rfl
 . exact hw.elim
theorem j0c(fn:Bool)(fl fd:List UInt8)(to:List Pa)(ls:List (List UInt8))(h b d:Bool)(ln hp z:Int)(tn:Bool)(tl td:List UInt8)(l:List Rp)(hs:smL ls<=2000000)(hl:l.length<=100000000)(hk:∀r∈l,r.2.length<=100000000) :
 C5 (fn,fl,fd,to,ls,h,b,d,ln,hp,z,tn,tl,td,l,())=some (true,()):=by
 obtain⟨⟨f1,u1⟩,e8,h8⟩:=c8k fn fl fd to ls h b d ln hp z (by omega);obtain⟨⟨f2,u2⟩,e9,h9⟩:=c9k l hl hk;obtain⟨⟨f3,u3⟩,e10,h10⟩:=c10 tl td;obtain⟨T,A,B,e12,hT⟩:=tkk;have hsl:=smL_len ls;obtain⟨n,h2,b2,d2,ln2,hp2,e45,e21,g1,g2⟩:=j1c ls (by omega) (λs hx=>by have:=smL_mem hx;omega);have e29:C29 (ls,())=some (ls,()):=by
  show (bif decide (ls.length<=8796093022208)then some (ls,())else none)=_;rw[decide_eq_true (by omega)];rfl
 have e11:C11 (T,A,B,[120],fn,fl,fd,to,ls,h2,b2,d2,ln2,hp2,z,tn,tl,td,())=some (full ⟨T,A,B,[120],fn,fl,fd,ls,h2,b2,d2,ln2,hp2,z,tn,tl,td⟩ (0,false,0,0,false,false,0,0,false,[],[],false,[],[],false,false,0,())):=by
  show F11 C29 _=_;simp only[F11,e29,Option.bind_some];rfl
 have e7:C7 ()=some (true,()):=rfl;have key:C5_c1 (l,true,f1,f2,f3,fn,fl,fd,to,ls,h2,b2,d2,ln2,hp2,z,tn,tl,td,())=some (true,()):=by
  show F5_c1 C10 C11 C12 C14 C21 C22 C23 C24 C7 C8 C9 C5_c0 _=_;simp only[F5_c1,e12,e11,Option.bind_some];dsimp only at h8 h9 h10;cases f1 with
  | false=>rfl
  | true =>
   cases f2 with
   | false=>rfl
   | true =>
    cases f3 with
    | false=>rfl
    | true =>
     obtain⟨⟨b1,b2'⟩,b3⟩:=h8 rfl;obtain⟨b4,b5⟩:=h9 rfl;obtain⟨b6,b7⟩:=h10 rfl;have hm:Mok ⟨T,A,B,[120],fn,fl,fd,ls,h2,b2,d2,ln2,hp2,z,tn,tl,td⟩:=⟨hT,by simp,by(try dsimp only);omega,by(try dsimp only);omega,by(try dsimp only);omega,by(try dsimp only);omega,by(try dsimp only);omega,λx hx=>by have:=smL_mem hx;dsimp only at this;omega⟩
     simp only[Bool.not_true,cond_false];rw[j1l l true _ (wm hm (zb rfl) ⟨n,e45,g1,g2⟩ l b4 b5 true _ ⟨⟨Int.le_refl _,by decide⟩,λ_=>⟨rfl,rfl⟩,λh=>absurd h (by simp),λh=>absurd h (by simp)⟩)];rfl
 have key2:C5_c2 (l,true,f1,f2,f3,fn,fl,fd,to,ls,h,b,d,ln,hp,z,tn,tl,td,())=some (true,()):=by
  show F5_c2 C10 C11 C12 C14 C21 C22 C23 C24 C7 C8 C9 C5_c1 _=_;simp only[F5_c2,e21,key,Option.bind_some]
 show F5 C10 C11 C12 C14 C21 C22 C23 C24 C7 C8 C9 C5_c2 _=_;simp only[F5,e7,e8,e9,e10,key2,Option.bind_some]
end Go.Proofs.YtgkmfhhghcccjaaGreatDoorA.W
namespace Go.Proofs.YtgkmfhhghcccjaaGreatDoorA.PClientEight
open Go Go.Ae Go.Proofs.YtgkmfhhghcccjaaGreatDoorA.W
theorem pure(x0:(Ty.pair (.pair .bool (.pair .str .str)) (.pair (.lst (.pair .bool (.pair .str .str))) (.pair (.lst .str) (.pair (.pair .bool (.pair .bool (.pair .bool (.pair (.int .i64) (.int .i64))))) (.int .i64))))).den)(b0:Bd (Ty.pair (.pair .bool (.pair .str .str)) (.pair (.lst (.pair .bool (.pair .str .str))) (.pair (.lst .str) (.pair (.pair .bool (.pair .bool (.pair .bool (.pair (.int .i64) (.int .i64))))) (.int .i64))))) x0)(u0:Blk (Ty.pair (.pair .bool (.pair .str .str)) (.pair (.lst (.pair .bool (.pair .str .str))) (.pair (.lst .str) (.pair (.pair .bool (.pair .bool (.pair .bool (.pair (.int .i64) (.int .i64))))) (.int .i64))))) x0<=1048576)(x1:(Ty.pair .bool (.pair .str .str)).den)(b1:Bd (Ty.pair .bool (.pair .str .str)) x1)(u1:Blk (Ty.pair .bool (.pair .str .str)) x1<=1048576)(x2:(Ty.lst (.pair (.int .i64) (.lst .str))).den)(b2:Bd (Ty.lst (.pair (.int .i64) (.lst .str))) x2)(u2:Blk (Ty.lst (.pair (.int .i64) (.lst .str))) x2<=1048576):C5 (x0.1.1,x0.1.2.1,x0.1.2.2,x0.2.1,x0.2.2.1,x0.2.2.2.1.1,x0.2.2.2.1.2.1,x0.2.2.2.1.2.2.1,x0.2.2.2.1.2.2.2.1,x0.2.2.2.1.2.2.2.2,x0.2.2.2.2,x1.1,x1.2.1,x1.2.2,x2,())=some (true,()) :=
 j0c _ _ _ _ _ _ _ _ _ _ _ _ _ _ x2 (blk_mail x0 u0) (blk_rp x2 u2).1 (blk_rp x2 u2).2
end Go.Proofs.YtgkmfhhghcccjaaGreatDoorA.PClientEight
namespace Go.Proofs.YtgkmfhhghcccjaaGreatDoor
open Go Go.Ae Go.RowKit Go.ChangeShapes
theorem cells_of_strs{H:Type}{enc:TypeId×Value->H}{P:Program}{w:World}{base:Nat}{sp:Nat->Bool}{held:Bool}{fuel:Nat}{t e:TypeId}{n:Nat}{cs:List Value}{zs:List (List UInt8)}{p:List MemPlace}(ht:P.underlying t=some (.array n e))(he:P.underlying e=some .string)(hce:P.cellsOf e=1)(hct:P.cellsOf t=n)(h:DataW.trod enc P w base sp held fuel t cs=some (.agg (zs.map λz => .lit (.string z)),p)):cs=zs.map λz=>Value.string ⟨⟨z⟩⟩:=by
 cases fuel with
 | zero=>simp[DataW.trod]at h
 | succ fuel =>
  simp only[DataW.trod,ht,hce,hct,Nat.mul_one]at h;split at h
  . rename_i hl
    obtain⟨xs,hm,hx⟩:=map_eq_some_iff.1 h;have hxs:xs.map (·.1)=zs.map λz=>(DataW.lit (.string z):DataW H):=by
     have:=congrArg Prod.fst hx;simpa using this
    have hxl:xs.length=n:=by simpa using Lib.mapM_length hm
    have hzl:zs.length=n:=by
     have:=congrArg List.length hxs;simp at this;omega
    apply List.ext_getElem?;intro i;by_cases hi:i<n
    . obtain⟨b,hb,hf⟩:=Lib.mapM_at hm i i (by simp[hi])
      obtain⟨z,hc,rfl,_⟩:=DataW.trod_string he hf;have h1:cs[i]? = some (.string z):=by
       have:=congrArg (·[0]?) hc;simpa[List.getElem?_take,List.getElem?_drop]using this
      have h2:(xs.map (·.1))[i]? = some (DataW.lit (.string z.data.toList):DataW H):=by simp[hb]
      rw[hxs]at h2;simp only[List.getElem?_map,map_eq_some_iff,DataW.lit.injEq,Lit.string.injEq]at h2;obtain⟨z',hz',rfl⟩:=h2;simp[h1,hz']
    . rw[List.getElem?_eq_none (by omega),List.getElem?_eq_none (by simp;omega)]
  . cases h
theorem strs_of_head{P:Program}{W:World}{name:String}{zs:List (List UInt8)}{rest:List (String×DataW Unit)}{g:Nat}{t e:TypeId}{n:Nat}(hg:P.globalNamed name=some g)(hty:(P.globals[g]?).map (·.type)=some t)(ht:P.underlying t=some (.array n e))(he:P.underlying e=some .string)(hce:P.cellsOf e=1)(hct:P.cellsOf t=n)(h:laidMet P ((name,.agg (zs.map λz => .lit (.string z)))::rest) W):W.var? P name=some (zs.map λz=>Value.string ⟨⟨z⟩⟩).toArray:=by
 obtain⟨ps,⟨g',t',cs,fuel,p,q,hg',ht',hvar,hd,_,_⟩,_⟩:=h;obtain rfl:=Option.some.inj (hg.symm.trans hg');obtain rfl:=Option.some.inj (hty.symm.trans ht');rw[hvar,<-cells_of_strs ht he hce hct hd]
theorem glob{W:World}(hL:laidMetH prog Rows.clientEndsUptoRow.laid W)(hsh:W.ShapedOpen prog):GI W m0:=by
 rw[MakeChecks.laidMetH_plain _ _ _ (by kernel_rfl)]at hL;obtain⟨m,hm⟩:=Go.Proofs.cell_of_shapedOpen_int (g:=1) (k := .i64) (t:=3) (zero := #[.int .i64 0]) hsh (of_decide_eq_true (by kernel_rfl)) (by kernel_rfl) (by kernel_rfl) (by kernel_rfl) (by kernel_rfl) (by kernel_rfl);have g1:prog.globalNamed "internal/strconv.uint64pow10" = some 6:=by kernel_rfl
 have g0:prog.globalNamed "pillarbox/command.words" = some 0:=by kernel_rfl
 have h1:Lib.TabIs prog W "internal/strconv.uint64pow10" .u64 tens:=Lib.tabIs_of_head (zs:=tens) (t:=311) (e:=183) (n:=20) g1 (by kernel_rfl) (by kernel_rfl) (by kernel_rfl) (by kernel_rfl) (by kernel_rfl) hL.tail.tail;have h0:W.var? prog "pillarbox/command.words" = some (wordsL.map λz=>Value.string ⟨⟨z⟩⟩).toArray:=strs_of_head (zs:=wordsL) (t:=144) (e:=9) (n:=8) g0 (by kernel_rfl) (by kernel_rfl) (by kernel_rfl) (by kernel_rfl) (by kernel_rfl) hL.tail.tail.tail.tail.tail.tail;have g5:prog.globalNamed "strconv.ErrRange" = some 5:=by kernel_rfl
 have g4:prog.globalNamed "strconv.ErrSyntax" = some 4:=by kernel_rfl
 obtain⟨t5,p5,h5⟩:=laid_iface (ti:=185) (ms := #[("Error",125)]) hL.tail.tail.tail.tail g5 (by kernel_rfl) (by kernel_rfl);obtain⟨t4,p4,h4⟩:=laid_iface (ti:=185) (ms := #[("Error",125)]) hL.tail.tail.tail.tail.tail g4 (by kernel_rfl) (by kernel_rfl);obtain⟨ty1,fz1,k1⟩:=var_heap g1 h1;obtain⟨ty0,fz0,k0⟩:=var_heap g0 h0;obtain⟨ty5,fz5,k5⟩:=var_heap g5 h5;obtain⟨ty4,fz4,k4⟩:=var_heap g4 h4;refine⟨⟨⟨m,hm⟩,⟨ty1,fz1,k1⟩,⟨ty0,fz0,k0⟩,⟨t4,p4,cell_of_heap0 k4⟩,⟨t5,p5,cell_of_heap0 k5⟩⟩,λb hb=>⟨?_,λh=>h⟩⟩;simp only[GlobB,mem_cons,List.not_mem_nil,or_false]at hb;rcases hb with rfl|rfl|rfl|rfl|rfl
 . exact lt_of_heap k0
 . exact lt_of_cell hm
 . exact lt_of_heap k4
 . exact lt_of_heap k5
 . exact lt_of_heap k1
end Go.Proofs.YtgkmfhhghcccjaaGreatDoor
