/- The texts of the proof, one behind the other: PK3, PK4, PClientEnds, PClientSent, PGlob. -/
import Derived.Test.YtgkmfhhghcccjaaGreatDoorAMs6
import Derived.Test.YtgkmfhhghcccjaaGreatDoorAMs2
import Derived.Test.YtgkmfhhghcccjaaGreatDoorRows
import Derived.Test.YtgkmfhhghcccjaaGreatDoorProg
import Derived.MakeChecks
open Go.Proofs.Tryz
open Int (toNat_natCast)
open List (getElem_mem length_cons length_nil length_take mem_cons take_of_length_le)
open Nat (le_refl zero_le)
open Option (map_some)
open Sum (elim_inl elim_inr)
set_option linter.unusedVariables false
set_option linter.unusedSimpArgs false
set_option maxRecDepth 100000
namespace Go.Proofs.YtgkmfhhghcccjaaGreatDoorA.W
open Go Go.Ae
abbrev Cho:=Int×Bool×List UInt8×List UInt8×Bool×List UInt8×List UInt8×Bool×Bool×Int×Unit
abbrev RR:=Bool×Bool×Int×Cho
abbrev VV:=Int×Bool×Int×Int×RR
structure MM where
 T:List R6
 A:List R4
 B:List R3
 nm:List UInt8
 fn:Bool
 fl:List UInt8
 fd:List UInt8
 ls:List (List UInt8)
 h:Bool
 b:Bool
 d:Bool
 ln:Int
 hp:Int
 z:Int
 tn:Bool
 tl:List UInt8
 td:List UInt8
abbrev SS:=List R6×List R4×List R3×List UInt8×Bool×List UInt8×List UInt8×List (List UInt8)×Bool×Bool×Bool×Int×Int×Int×Bool×List UInt8×List UInt8×VV
def full(m:MM)(v:VV):SS:=(m.T,m.A,m.B,m.nm,m.fn,m.fl,m.fd,m.ls,m.h,m.b,m.d,m.ln,m.hp,m.z,m.tn,m.tl,m.td,v)
def tag(n:Int):Nat->List (List UInt8)->List (Int×List UInt8)
 | _,[]=>[]
 | k,s::l=>((bif decide ((k:Int)<n)then 2 else 3),s)::tag n (k+1) l
theorem tag_app(n:Int):∀(k:Nat) (l r:List (List UInt8)),tag n k (l++r)=tag n k l++tag n (k+l.length) r
 | k,[],r=>by simp[tag]
 | k,s::l,r=>by
  simp only[List.cons_append,tag,tag_app n (k+1) l r,length_cons];rw[show k+1+l.length=k+(l.length+1) by omega]
theorem tag_len(n:Int):∀(k:Nat) (l:List (List UInt8)),(tag n k l).length=l.length
 | k,[]=>rfl
 | k,s::l=>by simp only[tag,length_cons,tag_len n (k+1) l]
theorem d35_l(n:Int)(ys:List (List UInt8))(T:List R6)(A:List R4)(B:List R3)(nm:List UInt8)(fn:Bool)(fl:List UInt8)(fd:List UInt8)(ls:List (List UInt8))(h:Bool)(b:Bool)(d:Bool)(ln:Int)(hp:Int)(z:Int)(tn:Bool)(tl:List UInt8)(td:List UInt8)(st:Int)(he:Bool)(re:Int)(ss:Int)(cu:Bool)(ce:Bool)(cz:Int)(k:Int)(gn:Bool)(gl:List UInt8)(gd:List UInt8)(vn:Bool)(vl:List UInt8)(vd:List UInt8)(e8:Bool)(u8:Bool)(cs:Int)(hl:ys.length<=1000000) :
 Df (C35_l0 (n,ys,(ys.length:Int),0,T,A,B,nm,fn,fl,fd,ls,h,b,d,ln,hp,z,tn,tl,td,st,he,re,ss,cu,ce,cz,k,gn,gl,gd,vn,vl,vd,e8,u8,cs,[],())) (λy=>y=(T,A,B,nm,fn,fl,fd,ls,h,b,d,ln,hp,z,tn,tl,td,st,he,re,ss,cu,ce,cz,k,gn,gl,gd,vn,vl,vd,e8,u8,cs,tag n 0 ys,())):=by
 refine dL ?I ?m ?h _ ?hv ?hn
 case I=>exact(λv=>∃i:Nat,i<=ys.length/\v=(n,ys,(ys.length:Int),(i:Int),T,A,B,nm,fn,fl,fd,ls,h,b,d,ln,hp,z,tn,tl,td,st,he,re,ss,cu,ce,cz,k,gn,gl,gd,vn,vl,vd,e8,u8,cs,tag n 0 (ys.take i),()))
 case m=>exact(λv=>ys.length-v.2.2.2.1.toNat)
 case hv=>exact⟨0,zero_le _,rfl⟩
 case hn=>exact(by(try dsimp only);omega)
 rintro _ ⟨i,hi,rfl⟩;unfold F35_l0;dsimp only;by_cases hlt:i<ys.length
 . have hg:ys.getD i []=ys[i]:=getD_lt hlt
   have htk:tag n 0 (ys.take (i+1))=tag n 0 (ys.take i)++[((bif decide ((i:Int)<n)then 2 else 3),ys[i])]:=by
    rw[take_succ_get hlt,tag_app];simp only[length_take,Nat.min_eq_left hi,Nat.zero_add,tag]
   have hlen:(tag n 0 (ys.take i)).length=i:=by rw[tag_len,length_take];omega
   rw[decide_eq_true (show (i:Int)<(ys.length:Int) by omega),decide_eq_true (show (0:Int)<=(i:Int) by omega)];simp only[cond_true,Bool.and_self,toNat_natCast,hg,hlen,length_cons,length_nil];rw[decide_eq_true (show i+(0+1)<=140737488355328/24 by omega),wrN i (by omega)];by_cases hn:(i:Int)<n
   . rw[decide_eq_true hn,cond_true,cond_true]
     rw[decide_eq_true hn,cond_true]at htk;rw[<-htk];exact dP ⟨⟨i+1,by omega,rfl⟩,by(try dsimp only);omega⟩
   . rw[decide_eq_false hn,cond_false,cond_true]
     rw[decide_eq_false hn,cond_false]at htk;rw[<-htk];exact dP ⟨⟨i+1,by omega,rfl⟩,by(try dsimp only);omega⟩
 . have:i=ys.length:=by omega
   subst this;rw[decide_eq_false (by omega),cond_false,take_of_length_le (le_refl _)];exact dP rfl
theorem lines_total:∀(l:List (List UInt8)),(∀x∈l,x.length<=1000000)->∃ys,linesC l=some ys/\ys.length=l.length
 | [],_=>⟨[],rfl,rfl⟩
 | x::l,h=>by
  obtain⟨ys,e,hy⟩:=lines_total l λy hy=>h y (by simp[hy]);obtain⟨⟨z,u⟩,e7,-⟩:=d76k x [46];have hx:=h x (by simp);refine⟨(bif z then 46::x else x)::ys,?_,by simp only[length_cons,hy]⟩;have hd:dotC x=some (bif z then 46::x else x):=by
   show (C76 (x,[46],())).bind _=_;rw[e7,Option.bind_some,decide_eq_true (by omega),cond_true]
  simp only[linesC,hd,Option.bind_some,e,map_some]
theorem d45k(l:List (List UInt8))(hl:l.length<=1000000000):Df (C45 (l,())) (λy=>0<=y.1/\y.1<=(l.length:Int)):=by
 unfold C45 F45;dsimp only;with_reducible repeat' (first|apply dP|apply dX<;>intro _)
 . exact⟨Int.le_refl _,by(try dsimp only);omega⟩
 . exact⟨Int.le_refl _,by(try dsimp only);omega⟩
 . refine dZ (P:=λy=>0<=y.1/\y.1<=(l.length:Int)) ?_ λ_ h=>dP h
   rename_i h0 _;have hl0:0<l.length:=by omega
   refine dL ?I ?m ?h _ ?hv ?hn
   case I=>exact(λv=>v.1=l/\0<=v.2.1/\v.2.1<=(l.length:Int))
   case m=>exact(λv=>l.length-v.2.1.toNat)
   case hv=>exact⟨rfl,by dsimp only;rw[w64s (by omega)];omega,by dsimp only;rw[w64s (by omega)];omega⟩
   case hn=>exact(by(try dsimp only);omega)
   rintro⟨x0,x1,u⟩ hI;dsimp only at hI;obtain⟨rfl,h1,h2⟩:=hI;unfold F45_g0;dsimp only;with_reducible repeat' (first|apply dP|apply dX<;>intro _)
   . exact⟨h1,h2⟩
   . exact⟨h1,h2⟩
   . rw[w64s (by omega)]
     exact⟨⟨rfl,by(try dsimp only);omega,by(try dsimp only);omega⟩,by(try dsimp only);omega⟩
   . omega
 . omega
def Msg(m:MM)(out:List (Int×List UInt8)):Prop:=∃n ys,C45 (m.ls,())=some (n,())/\linesC m.ls=some ys/\out=tag n 0 (ys++[[46]])
structure Mok (m:MM):Prop where
 tk:TK m.T m.A m.B
 nm:m.nm.length<=1000
 fl:m.fl.length<=1000
 fd:m.fd.length<=1000
 tl:m.tl.length<=1000
 td:m.td.length<=1000
 ls:m.ls.length<=100000
 lx:∀x∈m.ls,x.length<=100000
theorem s35{m:MM}(hm:Mok m)(v:VV):∃out,C35 (full m v)=some (out,full m (5,v.2))/\Msg m out:=by
 obtain⟨T,A,B,nm,fn,fl,fd,ls,h,b,d,ln,hp,z,tn,tl,td⟩:=m;obtain⟨st,he,re,ss,cu,ce,cz,k,gn,gl,gd,vn,vl,vd,e8,u8,cs,⟨⟩⟩:=v;obtain⟨⟨n,u⟩,e45,-⟩:=d45k ls (by have:=hm.ls;dsimp only at this;omega);obtain⟨ys,ey,hy⟩:=lines_total ls λx hx=>by have:=hm.lx x hx;omega
 have hls:=hm.ls;dsimp only at hls;have e56:C56 (ls,())=some (ys++[[46]],()):=by
  show (bif decide (ls.length<=1000000000)then(linesC ls).map λys=>(ys++[[46]],())else none)=_;rw[decide_eq_true (by omega),cond_true,ey,map_some]
 obtain⟨_,el,rfl⟩:=d35_l n (ys++[[46]]) T A B nm fn fl fd ls h b d ln hp z tn tl td st he re ss cu ce cz k gn gl gd vn vl vd e8 u8 cs (by simp only[ql];omega);refine⟨tag n 0 (ys++[[46]]),?_,n,ys,e45,ey,rfl⟩;show F35 C45 C56 C35_l0 _=_;simp only[F35,full,e45,e56,el,Option.bind_some]
theorem bind_id{α:Type}(x:Option α):(x.bind λval=>some val)=x:=by cases x<;>rfl
theorem bifD{α:Type}{p:Prop}{dp:Decidable p}(h:p){x y:α}:(bif decide p then x else y)=x:=by rw[decide_eq_true h];rfl
theorem s57(s:Int)(t:List UInt8)(m:MM)(v:VV):C57 (s,t,full m v)=some ([(1,t)],full m (s,v.2)):=by
 obtain⟨st,he,re,ss,cu,ce,cz,k,gn,gl,gd,vn,vl,vd,e8,u8,cs,⟨⟩⟩:=v;rfl
theorem s58(r s:Int)(m:MM)(v:VV):C58 (r,s,full m v)=some ([(1,[81,85,73,84])],full m (6,v.2.1,r,s,v.2.2.2.2)):=by
 obtain⟨st,he,re,ss,cu,ce,cz,k,gn,gl,gd,vn,vl,vd,e8,u8,cs,⟨⟩⟩:=v;rfl
theorem s37(c:Int)(rs:List (List UInt8))(m:MM)(v:VV):C37 (c,rs,full m v)=some ([(1,[81,85,73,84])],full m (6,v.2.1,2,0,v.2.2.2.2)):=by
 obtain⟨st,he,re,ss,cu,ce,cz,k,gn,gl,gd,vn,vl,vd,e8,u8,cs,⟨⟩⟩:=v;rfl
theorem s42(c:Int)(rs:List (List UInt8))(m:MM)(v:VV):C42 (c,rs,full m v)=some ([(1,[81,85,73,84])],full m (6,v.2.1,1,0,v.2.2.2.2)):=by
 obtain⟨st,he,re,ss,cu,ce,cz,k,gn,gl,gd,vn,vl,vd,e8,u8,cs,⟨⟩⟩:=v;rfl
theorem s41(c:Int)(rs:List (List UInt8))(m:MM)(v:VV):C41 (c,rs,full m v)=some ([(1,[68,65,84,65])],full m (4,v.2)):=by
 obtain⟨st,he,re,ss,cu,ce,cz,k,gn,gl,gd,vn,vl,vd,e8,u8,cs,⟨⟩⟩:=v;rfl
theorem s38(c:Int)(rs:List (List UInt8))(m:MM)(v:VV)(hm:m.nm.length<=1000):C38 (c,rs,full m v)=some ([(1,[69,72,76,79,32]++m.nm)],full m (1,v.2)):=by
 obtain⟨st,he,re,ss,cu,ce,cz,k,gn,gl,gd,vn,vl,vd,e8,u8,cs,⟨⟩⟩:=v;show F38 C57 _=_;simp only[F38,full];exact(bifD (by simp only[length_cons,length_nil];omega)).trans rfl
theorem s36h(m:MM)(v:VV)(hm:m.nm.length<=1000)(h1:v.1=1)(h2:v.2.1=false):C36 (full m v)=some ([(1,[72,69,76,79,32]++m.nm)],full m (1,true,v.2.2)):=by
 obtain⟨st,he,re,ss,cu,ce,cz,k,gn,gl,gd,vn,vl,vd,e8,u8,cs,⟨⟩⟩:=v;dsimp only at h1 h2;subst h1 h2;have h0:C36_c0 (true,full m (1,false,re,ss,cu,ce,cz,k,gn,gl,gd,vn,vl,vd,e8,u8,cs,()))=some (.inl ([(1,[72,69,76,79,32]++m.nm)],full m (1,true,re,ss,cu,ce,cz,k,gn,gl,gd,vn,vl,vd,e8,u8,cs,()))):=by
  show F36_c0 C57 C58 _=_;simp only[F36_c0,full,cond_true];exact(bifD (by simp only[length_cons,length_nil];omega)).trans rfl
 show F36 C57 C58 C36_c0 _=_;simp only[full]at h0;simp only[F36,full,beq_self_eq_true,cond_true,Bool.not_false,h0,Option.bind_some,elim_inl]
theorem s36f(m:MM)(v:VV)(h1:v.1=1->v.2.1=true):C36 (full m v)=some ([(1,[81,85,73,84])],full m (6,v.2.1,3,500,v.2.2.2.2)):=by
 have h0:C36_c0 (false,full m v)=some (.inr (full m v)):=by
  obtain⟨st,he,re,ss,cu,ce,cz,k,gn,gl,gd,vn,vl,vd,e8,u8,cs,⟨⟩⟩:=v;rfl
 have h5:=s58 3 500 m v;obtain⟨st,he,re,ss,cu,ce,cz,k,gn,gl,gd,vn,vl,vd,e8,u8,cs,⟨⟩⟩:=v;dsimp only at h1;simp only[full]at h0 h5 ⊢;show F36 C57 C58 C36_c0 _=_;by_cases hs:st=1
 . subst hs
   have:=h1 rfl;subst this;simp only[F36,beq_self_eq_true,cond_true,Bool.not_true,h0,Option.bind_some,elim_inr,h5]
 . simp only[F36,ibF hs,cond_false,h0,Option.bind_some,elim_inr,h5]
def From(r:RR)(t:List UInt8):Prop:=t.length<=10000/\∃z q,C123 (r.2.2.2.2.1,r.2.2.2.2.2.1,r.2.2.2.2.2.2.1,())=some (z,())/\t=[77,65,73,76]++([32,70,82,79,77,58]++z)++q/\(∀c∈q,c.toNat<128)
def To(r:RR)(t:List UInt8):Prop:=t.length<=10000/\∃z,C123 (r.2.2.2.2.2.2.2.1,r.2.2.2.2.2.2.2.2.1,r.2.2.2.2.2.2.2.2.2.1,())=some (z,())/\t=[82,67,80,84]++[32,84,79,58]++z
theorem s61(m:MM)(v:VV)(hr:ChB v.2.2.2.2.2.2.2):∃t,C61 (full m v)=some (t,full m v)/\t.length<=10000/\From v.2.2.2.2 t:=by
 obtain⟨st,he,re,ss,cu,ce,cz,k,gn,gl,gd,vn,vl,vd,e8,u8,cs,⟨⟩⟩:=v;obtain⟨⟨t,u⟩,e,hl,hf⟩:=t93m gn gl gd u8 e8 hr.1.1 hr.1.2;refine⟨t,?_,hl,hl,hf⟩;show F61 C93 _=_;simp only[F61,full,e,Option.bind_some]
theorem s62(m:MM)(v:VV)(hr:ChB v.2.2.2.2.2.2.2):∃t,C62 (full m v)=some (t,full m v)/\t.length<=10000/\To v.2.2.2.2 t:=by
 obtain⟨st,he,re,ss,cu,ce,cz,k,gn,gl,gd,vn,vl,vd,e8,u8,cs,⟨⟩⟩:=v;obtain⟨⟨t,u⟩,e,hl,hf⟩:=t93r vn vl vd hr.2.1 hr.2.2;refine⟨t,?_,hl,hl,hf⟩;show F62 C93 _=_;simp only[F62,full,e,Option.bind_some]
theorem s39c0(m:MM)(v:VV)(hr:ChB v.2.2.2.2.2.2.2) :
 (∃s,C39_c0 (full m v)=some ([(1,[81,85,73,84])],full m (6,v.2.1,3,s,v.2.2.2.2)))\/(v.2.2.2.2.2.2.2.1≠2/\∃t,C39_c0 (full m v)=some ([(1,t)],full m (2,v.2))/\From v.2.2.2.2 t):=by
 obtain⟨t,e61,hl,hf⟩:=s61 m v hr;obtain⟨t',e62,hl',hf'⟩:=s62 m v hr;have h5:=s58 3 500 m v;have h6:=s58 3 v.2.2.2.2.2.2.2.2.2.2.2.2.2.2.2.2.1 m v;have h7:=s57 2 t m v;obtain⟨st,he,re,ss,cu,ce,cz,k,gn,gl,gd,vn,vl,vd,e8,u8,cs,⟨⟩⟩:=v;dsimp only at h5 h6 h7 hf ⊢;simp only[full]at e61 e62 h5 h6 h7 ⊢;by_cases hk:k=2
 . subst hk
   refine .inl ⟨cs,?_⟩;show F39_c0 C57 C58 C59 C60 C61 C62 _=_;simp only[F39_c0,beq_self_eq_true,cond_true,h6,Option.bind_some]
 . by_cases h1:((t.length:Nat):Int)>510
   . refine .inl ⟨500,?_⟩
     show F39_c0 C57 C58 C59 C60 C61 C62 _=_;simp only[F39_c0,ibF hk,cond_false,e61,Option.bind_some,decide_eq_true h1,cond_true,h5]
   . by_cases h2:((t'.length:Nat):Int)>510
     . refine .inl ⟨500,?_⟩
       show F39_c0 C57 C58 C59 C60 C61 C62 _=_;simp only[F39_c0,ibF hk,cond_false,e61,e62,Option.bind_some,decide_eq_false h1,decide_eq_true h2,cond_true,h5]
     . refine .inr ⟨hk,t,?_,hf⟩
       show F39_c0 C57 C58 C59 C60 C61 C62 _=_;simp only[F39_c0,ibF hk,cond_false,e61,e62,Option.bind_some,decide_eq_false h1,decide_eq_false h2,h7]
theorem s39{m:MM}(hm:Mok m)(c:Int)(rs:List (List UInt8))(hn:rs.length<=1000)(hl:∀x∈rs,x.length<=100000)(v:VV) :
 ∃u e z ch,C60 (m.T,m.A,m.B,u,e,z,m.fn,m.fl,m.fd,m.tn,m.tl,m.td,m.h,m.b,m.z,())=some ch/\ChB ch /\
  ((∃s,C39 (c,rs,full m v)=some ([(1,[81,85,73,84])],full m (6,v.2.1,3,s,u,e,z,ch)))\/(ch.1≠2/\∃t,C39 (c,rs,full m v)=some ([(1,t)],full m (2,v.2.1,v.2.2.1,v.2.2.2.1,u,e,z,ch))/\From (u,e,z,ch) t)):=by
 have go:∀u e z,∃ch,C60 (m.T,m.A,m.B,u,e,z,m.fn,m.fl,m.fd,m.tn,m.tl,m.td,m.h,m.b,m.z,())=some ch/\ChB ch /\
  ((∃s,C39_c2 (full m (v.1,v.2.1,v.2.2.1,v.2.2.2.1,u,e,z,v.2.2.2.2.2.2.2))=some ([(1,[81,85,73,84])],full m (6,v.2.1,3,s,u,e,z,ch)))\/(ch.1≠2/\∃t,C39_c2 (full m (v.1,v.2.1,v.2.2.1,v.2.2.2.1,u,e,z,v.2.2.2.2.2.2.2))=some ([(1,t)],full m (2,v.2.1,v.2.2.1,v.2.2.2.1,u,e,z,ch))/\From (u,e,z,ch) t)):=by
  intro u e z;obtain⟨ch,e60,hb⟩:=t60 hm.tk u e z m.fn m.fl m.fd m.tn m.tl m.td m.h m.b m.z hm.fl hm.fd hm.tl hm.td;refine⟨ch,e60,hb,?_⟩;have hc:=s39c0 m (v.1,v.2.1,v.2.2.1,v.2.2.2.1,u,e,z,ch) hb;obtain⟨st,he,re,ss,cu,ce,cz,k,gn,gl,gd,vn,vl,vd,e8,u8,cs,⟨⟩⟩:=v;obtain⟨k2,gn2,gl2,gd2,vn2,vl2,vd2,e82,u82,cs2,⟨⟩⟩:=ch;have hcc:C39_c2 (full m (st,he,re,ss,u,e,z,k,gn,gl,gd,vn,vl,vd,e8,u8,cs,()))=C39_c0 (full m (st,he,re,ss,u,e,z,k2,gn2,gl2,gd2,vn2,vl2,vd2,e82,u82,cs2,())):=by
   show F39_c2 C57 C58 C59 C60 C61 C62 C39_c1 _=_;have h1:C39_c1 (m.T,m.A,m.B,m.nm,m.fn,m.fl,m.fd,m.ls,m.h,m.b,m.d,m.ln,m.hp,m.z,m.tn,m.tl,m.td,st,he,re,ss,u,e,z,k,gn,gl,gd,vn,vl,vd,e8,u8,cs,m.h,m.b,m.d,m.ln,m.hp,())=C39_c0 (full m (st,he,re,ss,u,e,z,k2,gn2,gl2,gd2,vn2,vl2,vd2,e82,u82,cs2,())):=by
    show F39_c1 C57 C58 C59 C60 C61 C62 C39_c0 _=_;simp only[F39_c1,e60,Option.bind_some];exact bind_id _
   simp only[F39_c2,full,h1];exact bind_id _
  dsimp only at hc ⊢;rw[hcc];exact hc
 have fin:∀u e z,C39 (c,rs,full m v)=C39_c2 (full m (v.1,v.2.1,v.2.2.1,v.2.2.2.1,u,e,z,v.2.2.2.2.2.2.2))->∃u e z ch,C60 (m.T,m.A,m.B,u,e,z,m.fn,m.fl,m.fd,m.tn,m.tl,m.td,m.h,m.b,m.z,())=some ch/\ChB ch /\
  ((∃s,C39 (c,rs,full m v)=some ([(1,[81,85,73,84])],full m (6,v.2.1,3,s,u,e,z,ch)))\/(ch.1≠2/\∃t,C39 (c,rs,full m v)=some ([(1,t)],full m (2,v.2.1,v.2.2.1,v.2.2.2.1,u,e,z,ch))/\From (u,e,z,ch) t)):=by
  intro u e z h;obtain⟨ch,k1,k2,k3⟩:=go u e z;rw[<-h]at k3;exact⟨u,e,z,ch,k1,k2,k3⟩
 obtain⟨st,he,re,ss,cu,ce,cz,k,gn,gl,gd,vn,vl,vd,e8,u8,cs,⟨⟩⟩:=v;cases he with
 | false =>
  obtain⟨⟨u,e,z,q⟩,e59,-⟩:=d59k c rs hn hl;refine fin u e z ?_;show F39 C57 C58 C59 C60 C61 C62 C39_c2 _=_;simp only[F39,full,Bool.not_false,cond_true,e59,Option.bind_some];exact bind_id _
 | true =>
  refine fin false false 0 ?_;show F39 C57 C58 C59 C60 C61 C62 C39_c2 _=_;simp only[F39,full,Bool.not_true,cond_false];exact bind_id _
theorem s40(m:MM)(c:Int)(rs:List (List UInt8))(v:VV)(hr:ChB v.2.2.2.2.2.2.2):∃t,C40 (c,rs,full m v)=some ([(1,t)],full m (3,v.2))/\To v.2.2.2.2 t:=by
 obtain⟨t,e62,hl,hf⟩:=s62 m v hr;have h7:=s57 3 t m v;obtain⟨st,he,re,ss,cu,ce,cz,k,gn,gl,gd,vn,vl,vd,e8,u8,cs,⟨⟩⟩:=v;refine⟨t,?_,hf⟩;simp only[full]at e62 h7 ⊢;show F40 C57 C62 _=_;simp only[F40,e62,Option.bind_some,h7]
inductive Rpl (m:MM):Int->VV->List (Int×List UInt8)->VV->Prop
 | over {c he re ss r}:Rpl m c (6,he,re,ss,r) [] (6,he,re,ss,r)
 | deaf {c v}:(c<200\/599<c)->Rpl m c v [] v
 | msg {c he re ss r out}:300<=c->Msg m out->Rpl m c (4,he,re,ss,r) out (5,he,re,ss,r)
 | helo {c re ss r}:300<=c->Rpl m c (1,false,re,ss,r) [(1,[72,69,76,79,32]++m.nm)] (1,true,re,ss,r)
 | fail {c st he re ss r k s}:st≠6->300<=c->k≠1->k≠0->Rpl m c (st,he,re,ss,r) [(1,[81,85,73,84])] (6,he,k,s,r)
 | greet {c he re ss r}:200<=c->c<300->Rpl m c (0,he,re,ss,r) [(1,[69,72,76,79,32]++m.nm)] (1,he,re,ss,r)
 | bad {c he re ss r s u e z ch}:200<=c->c<300->C60 (m.T,m.A,m.B,u,e,z,m.fn,m.fl,m.fd,m.tn,m.tl,m.td,m.h,m.b,m.z,())=some ch->Rpl m c (1,he,re,ss,r) [(1,[81,85,73,84])] (6,he,3,s,u,e,z,ch)
 | mail {c he re ss r t u e z ch}:200<=c->c<300->C60 (m.T,m.A,m.B,u,e,z,m.fn,m.fl,m.fd,m.tn,m.tl,m.td,m.h,m.b,m.z,())=some ch->ch.1≠2->From (u,e,z,ch) t->Rpl m c (1,he,re,ss,r) [(1,t)] (2,he,re,ss,u,e,z,ch)
 | rcpt {c he re ss r t}:200<=c->c<300->To r t->Rpl m c (2,he,re,ss,r) [(1,t)] (3,he,re,ss,r)
 | data {c he re ss r}:200<=c->c<300->Rpl m c (3,he,re,ss,r) [(1,[68,65,84,65])] (4,he,re,ss,r)
 | later {c he re ss r}:200<=c->c<300->Rpl m c (4,he,re,ss,r) [(1,[81,85,73,84])] (6,he,2,0,r)
 | done {c he re ss r}:200<=c->c<300->Rpl m c (5,he,re,ss,r) [(1,[81,85,73,84])] (6,he,1,0,r)
def Inv(m:MM)(v:VV):Prop:=(0<=v.1/\v.1<=6)/\(v.1≠6->v.2.2.1=0/\v.2.2.2.1=0)/\(v.1=6->v.2.2.1≠0) /\
 (2<=v.1->v.1<=5->(C60 (m.T,m.A,m.B,v.2.2.2.2.1,v.2.2.2.2.2.1,v.2.2.2.2.2.2.1,m.fn,m.fl,m.fd,m.tn,m.tl,m.td,m.h,m.b,m.z,())=some v.2.2.2.2.2.2.2/\v.2.2.2.2.2.2.2.1≠2/\ChB v.2.2.2.2.2.2.2))
theorem c1_end(c y:Int)(rs:List (List UInt8))(T:List R6)(A:List R4)(B:List R3)(nm:List UInt8)(fn:Bool)(fl:List UInt8)(fd:List UInt8)(ls:List (List UInt8))(h:Bool)(b:Bool)(d:Bool)(ln:Int)(hp:Int)(z:Int)(tn:Bool)(tl:List UInt8)(td:List UInt8)(st:Int)(he:Bool)(re:Int)(ss:Int)(cu:Bool)(ce:Bool)(cz:Int)(k:Int)(gn:Bool)(gl:List UInt8)(gd:List UInt8)(vn:Bool)(vl:List UInt8)(vd:List UInt8)(e8:Bool)(u8:Bool)(cs:Int):C14_c1 (y,true,T,A,B,nm,fn,fl,fd,ls,h,b,d,ln,hp,z,tn,tl,td,st,he,re,ss,cu,ce,cz,k,gn,gl,gd,vn,vl,vd,e8,u8,cs,c,rs,())=some (.inl ([],T,A,B,nm,fn,fl,fd,ls,h,b,d,ln,hp,z,tn,tl,td,st,he,re,ss,cu,ce,cz,k,gn,gl,gd,vn,vl,vd,e8,u8,cs,())):=rfl
theorem c1_go(c y:Int)(rs:List (List UInt8))(T:List R6)(A:List R4)(B:List R3)(nm:List UInt8)(fn:Bool)(fl:List UInt8)(fd:List UInt8)(ls:List (List UInt8))(h:Bool)(b:Bool)(d:Bool)(ln:Int)(hp:Int)(z:Int)(tn:Bool)(tl:List UInt8)(td:List UInt8)(st:Int)(he:Bool)(re:Int)(ss:Int)(cu:Bool)(ce:Bool)(cz:Int)(k:Int)(gn:Bool)(gl:List UInt8)(gd:List UInt8)(vn:Bool)(vl:List UInt8)(vd:List UInt8)(e8:Bool)(u8:Bool)(cs:Int):C14_c1 (y,false,T,A,B,nm,fn,fl,fd,ls,h,b,d,ln,hp,z,tn,tl,td,st,he,re,ss,cu,ce,cz,k,gn,gl,gd,vn,vl,vd,e8,u8,cs,c,rs,())=C14_c0 (y,(bif y==3 then st==4 else false),T,A,B,nm,fn,fl,fd,ls,h,b,d,ln,hp,z,tn,tl,td,st,he,re,ss,cu,ce,cz,k,gn,gl,gd,vn,vl,vd,e8,u8,cs,c,rs,()):=by
 show F14_c1 C34 C35 C36 C37 C38 C39 C40 C41 C42 C14_c0 _=_;have idb:∀x,(C14_c0 x).bind (λval=>Sum.elim (λval=>some (Sum.inl val)) (λval=>some (Sum.inr val)) val)=C14_c0 x:=λx=>by
  cases C14_c0 x with
  | none=>rfl
  | some r=>cases r<;>rfl
 by_cases h:y=3
 . simp only[F14_c1,cond_false,ibT h,cond_true]
   exact idb _
 . simp only[F14_c1,cond_false,ibF h]
   exact idb _
set_option maxHeartbeats 1000000 in
theorem take_inl{m:MM}{c y:Int}{rs:List (List UInt8)}{v:VV}{r}(e34:C34 (c,())=some (y,()))(h:∀b,(b=true↔v.1=6\/y=0)->C14_c1 (y,b,m.T,m.A,m.B,m.nm,m.fn,m.fl,m.fd,m.ls,m.h,m.b,m.d,m.ln,m.hp,m.z,m.tn,m.tl,m.td,v.1,v.2.1,v.2.2.1,v.2.2.2.1,v.2.2.2.2.1,v.2.2.2.2.2.1,v.2.2.2.2.2.2.1,v.2.2.2.2.2.2.2.1,v.2.2.2.2.2.2.2.2.1,v.2.2.2.2.2.2.2.2.2.1,v.2.2.2.2.2.2.2.2.2.2.1,v.2.2.2.2.2.2.2.2.2.2.2.1,v.2.2.2.2.2.2.2.2.2.2.2.2.1,v.2.2.2.2.2.2.2.2.2.2.2.2.2.1,v.2.2.2.2.2.2.2.2.2.2.2.2.2.2.1,v.2.2.2.2.2.2.2.2.2.2.2.2.2.2.2.1,v.2.2.2.2.2.2.2.2.2.2.2.2.2.2.2.2.1,c,rs,())=some (.inl r)):C14 (c,rs,full m v)=some r:=by
 obtain⟨st,he,re,ss,cu,ce,cz,k,gn,gl,gd,vn,vl,vd,e8,u8,cs,⟨⟩⟩:=v;dsimp only at h;show F14 C34 C35 C36 C37 C38 C39 C40 C41 C42 C14_c1 _=_;by_cases hs:st=6
 . have:=h true ⟨λ_ => .inl hs,λ_=>rfl⟩
   simp only[F14,full,e34,Option.bind_some,ibT hs,cond_true,this,elim_inl]
 . have:=h (y==0) ⟨λhy => .inr (by simpa using hy),λhy=>by rcases hy with hy|hy;exact(hs hy).elim;exact ibT hy⟩
   simp only[F14,full,e34,Option.bind_some,ibF hs,cond_false,this,elim_inl]
set_option maxHeartbeats 1000000 in
theorem take_inr{m:MM}{c:Int}{rs:List (List UInt8)}{v:VV}(h2:200<=c/\c<300)(hs:v.1≠6):C14 (c,rs,full m v) =
 bif decide (v.1=0)then C38 (c,rs,full m v)else bif decide (v.1=1)then C39 (c,rs,full m v)else bif decide (v.1=2)then C40 (c,rs,full m v)else bif decide (v.1=3)then C41 (c,rs,full m v)else bif decide (v.1=4)then C37 (c,rs,full m v)else bif decide (v.1=5)then C42 (c,rs,full m v)else none:=by
 obtain⟨⟨y,u⟩,e34,hy,-⟩:=c34 c;have hy2:y=2:=hy.2 h2;subst hy2;obtain⟨st,he,re,ss,cu,ce,cz,k,gn,gl,gd,vn,vl,vd,e8,u8,cs,⟨⟩⟩:=v;dsimp only at hs;have hc:C14_c1 (2,(2:Int)==0,m.T,m.A,m.B,m.nm,m.fn,m.fl,m.fd,m.ls,m.h,m.b,m.d,m.ln,m.hp,m.z,m.tn,m.tl,m.td,st,he,re,ss,cu,ce,cz,k,gn,gl,gd,vn,vl,vd,e8,u8,cs,c,rs,()) =
  some (.inr (m.T,m.A,m.B,m.nm,m.fn,m.fl,m.fd,m.ls,m.h,m.b,m.d,m.ln,m.hp,m.z,m.tn,m.tl,m.td,st,he,re,ss,cu,ce,cz,k,gn,gl,gd,vn,vl,vd,e8,u8,cs,c,rs,())):=rfl
 show F14 C34 C35 C36 C37 C38 C39 C40 C41 C42 C14_c1 _=_;simp only[F14,full,e34,Option.bind_some,ibF hs,cond_false,hc,elim_inr,Q14,bind_id]
theorem c34x(c:Int):∃y,C34 (c,())=some (y,())/\((200<=c/\c<=599/\y=c/100)\/((c<200\/599<c)/\y=0)):=by
 by_cases h:200<=c
 . by_cases h':c<=599
   . refine⟨c/100,?_,.inl ⟨h,h',rfl⟩⟩
     have e55:C55 (c,())=some (true,()):=by
      show F55 _=_;simp only[F55];rw[decide_eq_true (show c>=200 from h),cond_true,decide_eq_true h']
     have e:Int.tdiv c 100=c/100:=by rw[Int.tdiv_eq_ediv_of_nonneg (by omega)]
     show F34 C55 _=_;simp only[F34,e55,Option.bind_some,Bool.not_true,cond_false,e];rw[w64s (n:=c/100) (by omega)]
   . refine⟨0,?_,.inr ⟨.inr (by omega),rfl⟩⟩
     have e55:C55 (c,())=some (false,()):=by
      show F55 _=_;simp only[F55];rw[decide_eq_true (show c>=200 from h),cond_true,decide_eq_false h']
     show F34 C55 _=_;simp only[F34,e55,Option.bind_some,Bool.not_false,cond_true]
 . refine⟨0,?_,.inr ⟨.inl (by omega),rfl⟩⟩
   have e55:C55 (c,())=some (false,()):=by
    show F55 _=_;simp only[F55];rw[decide_eq_false (show ¬c>=200 from h),cond_false]
   show F34 C55 _=_;simp only[F34,e55,Option.bind_some,Bool.not_false,cond_true]
theorem c0_msg(c y:Int)(rs:List (List UInt8))(T:List R6)(A:List R4)(B:List R3)(nm:List UInt8)(fn:Bool)(fl:List UInt8)(fd:List UInt8)(ls:List (List UInt8))(h:Bool)(b:Bool)(d:Bool)(ln:Int)(hp:Int)(z:Int)(tn:Bool)(tl:List UInt8)(td:List UInt8)(st:Int)(he:Bool)(re:Int)(ss:Int)(cu:Bool)(ce:Bool)(cz:Int)(k:Int)(gn:Bool)(gl:List UInt8)(gd:List UInt8)(vn:Bool)(vl:List UInt8)(vd:List UInt8)(e8:Bool)(u8:Bool)(cs:Int):C14_c0 (y,true,T,A,B,nm,fn,fl,fd,ls,h,b,d,ln,hp,z,tn,tl,td,st,he,re,ss,cu,ce,cz,k,gn,gl,gd,vn,vl,vd,e8,u8,cs,c,rs,())=(C35 (T,A,B,nm,fn,fl,fd,ls,h,b,d,ln,hp,z,tn,tl,td,st,he,re,ss,cu,ce,cz,k,gn,gl,gd,vn,vl,vd,e8,u8,cs,())).bind (λval=>some (.inl val)):=rfl
theorem c0_ref(c:Int)(rs:List (List UInt8))(T:List R6)(A:List R4)(B:List R3)(nm:List UInt8)(fn:Bool)(fl:List UInt8)(fd:List UInt8)(ls:List (List UInt8))(h:Bool)(b:Bool)(d:Bool)(ln:Int)(hp:Int)(z:Int)(tn:Bool)(tl:List UInt8)(td:List UInt8)(st:Int)(he:Bool)(re:Int)(ss:Int)(cu:Bool)(ce:Bool)(cz:Int)(k:Int)(gn:Bool)(gl:List UInt8)(gd:List UInt8)(vn:Bool)(vl:List UInt8)(vd:List UInt8)(e8:Bool)(u8:Bool)(cs:Int):C14_c0 (5,false,T,A,B,nm,fn,fl,fd,ls,h,b,d,ln,hp,z,tn,tl,td,st,he,re,ss,cu,ce,cz,k,gn,gl,gd,vn,vl,vd,e8,u8,cs,c,rs,())=(C36 (T,A,B,nm,fn,fl,fd,ls,h,b,d,ln,hp,z,tn,tl,td,st,he,re,ss,cu,ce,cz,k,gn,gl,gd,vn,vl,vd,e8,u8,cs,())).bind (λval=>some (.inl val)):=rfl
theorem c0_late(c y:Int)(rs:List (List UInt8))(h5:y≠5)(h2:y≠2)(T:List R6)(A:List R4)(B:List R3)(nm:List UInt8)(fn:Bool)(fl:List UInt8)(fd:List UInt8)(ls:List (List UInt8))(h:Bool)(b:Bool)(d:Bool)(ln:Int)(hp:Int)(z:Int)(tn:Bool)(tl:List UInt8)(td:List UInt8)(st:Int)(he:Bool)(re:Int)(ss:Int)(cu:Bool)(ce:Bool)(cz:Int)(k:Int)(gn:Bool)(gl:List UInt8)(gd:List UInt8)(vn:Bool)(vl:List UInt8)(vd:List UInt8)(e8:Bool)(u8:Bool)(cs:Int):C14_c0 (y,false,T,A,B,nm,fn,fl,fd,ls,h,b,d,ln,hp,z,tn,tl,td,st,he,re,ss,cu,ce,cz,k,gn,gl,gd,vn,vl,vd,e8,u8,cs,c,rs,())=(C37 (c,rs,T,A,B,nm,fn,fl,fd,ls,h,b,d,ln,hp,z,tn,tl,td,st,he,re,ss,cu,ce,cz,k,gn,gl,gd,vn,vl,vd,e8,u8,cs,())).bind (λval=>some (.inl val)):=by
 show F14_c0 C34 C35 C36 C37 C38 C39 C40 C41 C42 _=_;simp only[F14_c0,cond_false,ibF h5,inT h2,cond_true]
theorem take_ok{m:MM}(hm:Mok m)(c:Int)(rs:List (List UInt8))(hn:rs.length<=1000)(hl:∀x∈rs,x.length<=100000)(v:VV)(hv:Inv m v) :
 ∃out v',C14 (c,rs,full m v)=some (out,full m v')/\Rpl m c v out v'/\Inv m v':=by
 obtain⟨y,e34,hy⟩:=c34x c;obtain⟨st,he,re,ss,r⟩:=v;obtain⟨⟨i1,i2⟩,i3,i4,i5⟩:=hv;dsimp only at i1 i2 i3 i4 i5;have quit:∀(k s:Int) (h:Bool) (q:RR),k≠0->Inv m (6,h,k,s,q):=λk s h q hk=>⟨⟨(by decide:(0:Int)<=6),(by decide:(6:Int)<=6)⟩,λh=>(h rfl).elim,λ_=>hk,λ_ (h:(6:Int)<=5)=>absurd h (by decide)⟩
 by_cases hs:st=6
 . subst hs
   refine⟨[],(6,he,re,ss,r),?_,.over,⟨⟨i1,i2⟩,i3,i4,i5⟩⟩;exact take_inl e34 λb hb=>by rw[hb.2 (.inl rfl)];exact c1_end _ _ _ m.T m.A m.B m.nm m.fn m.fl m.fd m.ls m.h m.b m.d m.ln m.hp m.z m.tn m.tl m.td _ _ _ _ _ _ _ _ _ _ _ _ _ _ _ _ _
 by_cases hy0':y=0
 . refine⟨[],(st,he,re,ss,r),?_,.deaf (by omega),⟨⟨i1,i2⟩,i3,i4,i5⟩⟩
   exact take_inl e34 λb hb=>by rw[hb.2 (.inr hy0')];exact c1_end _ _ _ m.T m.A m.B m.nm m.fn m.fl m.fd m.ls m.h m.b m.d m.ln m.hp m.z m.tn m.tl m.td _ _ _ _ _ _ _ _ _ _ _ _ _ _ _ _ _
 have hb0:∀b:Bool,(b=true↔st=6\/y=0)->b=false:=λb hb=>by
  cases b with
  | false=>rfl
  | true=>rcases hb.1 rfl with h|h;exact(hs h).elim;exact(hy0' h).elim
 by_cases hg:y=3/\st=4
 . obtain⟨rfl,rfl⟩:=hg
   obtain⟨out,e35,hmsg⟩:=s35 hm (4,he,re,ss,r);refine⟨out,(5,he,re,ss,r),?_,.msg (by omega) hmsg,⟨⟨by(try dsimp only);omega,by(try dsimp only);omega⟩,λ_=>i3 (by decide),λh=>absurd h (by simp),λ_ _=>i5 (by decide) (by decide)⟩⟩;refine take_inl e34 λb hb => ?_;rw[hb0 b hb];refine(c1_go _ _ _ m.T m.A m.B m.nm m.fn m.fl m.fd m.ls m.h m.b m.d m.ln m.hp m.z m.tn m.tl m.td _ _ _ _ _ _ _ _ _ _ _ _ _ _ _ _ _).trans ?_;refine(c0_msg _ _ _ m.T m.A m.B m.nm m.fn m.fl m.fd m.ls m.h m.b m.d m.ln m.hp m.z m.tn m.tl m.td _ _ _ _ _ _ _ _ _ _ _ _ _ _ _ _ _).trans ?_;exact congrArg (λo=>Option.bind o (λval=>some (Sum.inl val))) e35
 have hgf:(bif y==3 then st==4 else false)=false:=by
  by_cases h3:y=3
  . rw[ibT h3,cond_true,ibF (λh=>hg ⟨h3,h⟩)]
  . rw[ibF h3,cond_false]
 by_cases hy5:y=5
 . subst hy5
   by_cases hh:st=1/\he=false
   . obtain⟨rfl,rfl⟩:=hh
     refine⟨_,(1,true,re,ss,r),?_,.helo (by omega),⟨⟨by(try dsimp only);omega,by(try dsimp only);omega⟩,λ_=>i3 (by decide),λh=>absurd h (by simp),λh=>absurd h (by simp)⟩⟩;refine take_inl e34 λb hb => ?_;rw[hb0 b hb];refine(c1_go _ _ _ m.T m.A m.B m.nm m.fn m.fl m.fd m.ls m.h m.b m.d m.ln m.hp m.z m.tn m.tl m.td _ _ _ _ _ _ _ _ _ _ _ _ _ _ _ _ _).trans ?_;refine(c0_ref _ _ m.T m.A m.B m.nm m.fn m.fl m.fd m.ls m.h m.b m.d m.ln m.hp m.z m.tn m.tl m.td _ _ _ _ _ _ _ _ _ _ _ _ _ _ _ _ _).trans ?_;exact congrArg (λo=>Option.bind o (λval=>some (Sum.inl val))) (s36h m (1,false,re,ss,r) hm.nm rfl rfl)
   . refine⟨_,(6,he,3,500,r),?_,.fail hs (by omega) (by decide) (by decide),quit 3 500 he r (by decide)⟩
     refine take_inl e34 λb hb => ?_;rw[hb0 b hb];refine(c1_go _ _ _ m.T m.A m.B m.nm m.fn m.fl m.fd m.ls m.h m.b m.d m.ln m.hp m.z m.tn m.tl m.td _ _ _ _ _ _ _ _ _ _ _ _ _ _ _ _ _).trans ?_;refine(c0_ref _ _ m.T m.A m.B m.nm m.fn m.fl m.fd m.ls m.h m.b m.d m.ln m.hp m.z m.tn m.tl m.td _ _ _ _ _ _ _ _ _ _ _ _ _ _ _ _ _).trans ?_;exact congrArg (λo=>Option.bind o (λval=>some (Sum.inl val))) (s36f m (st,he,re,ss,r) (λh1=>by
      cases he with
      | true=>rfl
      | false=>exact(hh ⟨h1,rfl⟩).elim))
 by_cases hy2:y=2
 . have hc:200<=c/\c<300:=by omega
   have hin:=take_inr (m:=m) (rs:=rs) (v:=(st,he,re,ss,r)) hc hs;have hst:st=0\/st=1\/st=2\/st=3\/st=4\/st=5:=by omega
   rcases hst with rfl|rfl|rfl|rfl|rfl|rfl
   . exact⟨_,(1,he,re,ss,r),hin.trans (s38 c rs m (0,he,re,ss,r) hm.nm),.greet hc.1 hc.2,⟨⟨by(try dsimp only);omega,by(try dsimp only);omega⟩,λ_=>i3 (by decide),λh=>absurd h (by simp),λh=>absurd h (by simp)⟩⟩
   . obtain⟨u,e,z,ch,e60,hB,⟨s,h39⟩|⟨hk,t,h39,hf⟩⟩:=s39 hm c rs hn hl (1,he,re,ss,r)
     . exact⟨_,(6,he,3,s,u,e,z,ch),hin.trans h39,.bad hc.1 hc.2 e60,quit 3 s he _ (by decide)⟩
     . exact⟨_,(2,he,re,ss,u,e,z,ch),hin.trans h39,.mail hc.1 hc.2 e60 hk hf,⟨⟨by(try dsimp only);omega,by(try dsimp only);omega⟩,λ_=>i3 (by decide),λh=>absurd h (by simp),λ_ _=>⟨e60,hk,hB⟩⟩⟩
   . obtain⟨t,h40,ht⟩:=s40 m c rs (2,he,re,ss,r) (i5 (by decide) (by decide)).2.2
     exact⟨_,(3,he,re,ss,r),hin.trans h40,.rcpt hc.1 hc.2 ht,⟨⟨by(try dsimp only);omega,by(try dsimp only);omega⟩,λ_=>i3 (by decide),λh=>absurd h (by simp),λ_ _=>i5 (by decide) (by decide)⟩⟩
   . exact⟨_,(4,he,re,ss,r),hin.trans (s41 c rs m (3,he,re,ss,r)),.data hc.1 hc.2,⟨⟨by(try dsimp only);omega,by(try dsimp only);omega⟩,λ_=>i3 (by decide),λh=>absurd h (by simp),λ_ _=>i5 (by decide) (by decide)⟩⟩
   . exact⟨_,(6,he,2,0,r),hin.trans (s37 c rs m (4,he,re,ss,r)),.later hc.1 hc.2,quit 2 0 he r (by decide)⟩
   . exact⟨_,(6,he,1,0,r),hin.trans (s42 c rs m (5,he,re,ss,r)),.done hc.1 hc.2,quit 1 0 he r (by decide)⟩
 . refine⟨_,(6,he,2,0,r),?_,.fail hs (by omega) (by decide) (by decide),quit 2 0 he r (by decide)⟩
   refine take_inl e34 λb hb => ?_;rw[hb0 b hb];refine(c1_go _ _ _ m.T m.A m.B m.nm m.fn m.fl m.fd m.ls m.h m.b m.d m.ln m.hp m.z m.tn m.tl m.td _ _ _ _ _ _ _ _ _ _ _ _ _ _ _ _ _).trans ?_;rw[hgf];refine(c0_late _ _ _ hy5 hy2 m.T m.A m.B m.nm m.fn m.fl m.fd m.ls m.h m.b m.d m.ln m.hp m.z m.tn m.tl m.td _ _ _ _ _ _ _ _ _ _ _ _ _ _ _ _ _).trans ?_;exact congrArg (λo=>Option.bind o (λval=>some (Sum.inl val))) (s37 c rs m (st,he,re,ss,r))
abbrev Pa:=Bool×List UInt8×List UInt8
def smL(l:List (List UInt8)):Nat:=(l.map λx=>x.length+1).sum
theorem smL_app(a b:List (List UInt8)):smL (a++b)=smL a+smL b:=by simp[smL]
theorem smL_mem:∀{l:List (List UInt8)} {x},x∈l->x.length+1<=smL l
 | y::l,x,h=>by
  have e:smL (y::l)=y.length+1+smL l:=by simp[smL]
  rcases mem_cons.1 h with rfl|h
  . omega
  . have:=smL_mem h;omega
theorem smL_len:∀l:List (List UInt8),l.length<=smL l
 | []=>le_refl _
 | y::l=>by
  have e:smL (y::l)=y.length+1+smL l:=by simp[smL]
  have:=smL_len l;simp only[length_cons];omega
theorem smL_take{l:List (List UInt8)}{i:Nat}(h:i<l.length):smL (l.take (i+1))=smL (l.take i)+(l[i].length+1):=by
 rw[take_succ_get h,smL_app];simp[smL]
theorem smL_le{l:List (List UInt8)}(i:Nat):smL (l.take i)<=smL l:=by
 have:=smL_app (l.take i) (l.drop i);rw[List.take_append_drop]at this;omega
theorem c10(a b:List UInt8):Df (C10 (a,b,())) (λy=>y.1=true->a.length<=150/\b.length<=200):=by
 unfold C10 F10;dsimp only;with_reducible repeat' (first|apply dP|apply dX<;>intro _)
 . intro h
   have:=of_decide_eq_true h;omega
 . intro h;cases h
theorem c8k(fn:Bool)(fl fd:List UInt8)(to:List Pa)(ls:List (List UInt8))(h b d:Bool)(ln hp z:Int)(hs:smL ls<=100000000) :
 Df (C8 (fn,fl,fd,to,ls,h,b,d,ln,hp,z,())) (λy=>y.1=true->(fl.length<=150/\fd.length<=200)/\smL ls<=3000):=by
 have hl:=smL_len ls;unfold C8 F8;dsimp only;refine dZ (P:=λy=>y=(((smL ls:Nat):Int),fn,fl,fd,to,ls,h,b,d,ln,hp,z,())) ?_ ?_
 . refine dL ?I ?m ?h _ ?hv ?hn
   case I=>exact(λv=>∃i:Nat,i<=ls.length/\v=(((smL (ls.take i):Nat):Int),(i:Int),fn,fl,fd,to,ls,h,b,d,ln,hp,z,()))
   case m=>exact(λv=>ls.length-v.2.1.toNat)
   case hv=>exact⟨0,zero_le _,rfl⟩
   case hn=>exact(by(try dsimp only);omega)
   rintro _ ⟨i,hi,rfl⟩;unfold F8_l0;dsimp only;by_cases hlt:i<ls.length
   . have hg:ls.getD i []=ls[i]:=getD_lt hlt
     have ht:=smL_take hlt;have hle:=smL_le (l:=ls) i;have hle2:=smL_le (l:=ls) (i+1);rw[decide_eq_true (show (i:Int)<(ls.length:Int) by omega),decide_eq_true (show (0:Int)<=(i:Int) by omega)];simp only[cond_true,Bool.and_self,toNat_natCast,hg];rw[w64s (n:=((smL (ls.take i):Nat):Int)+((ls[i].length:Nat):Int)) (by omega),w64s (by omega),wrN i (by omega)];rw[show ((smL (ls.take i):Nat):Int)+((ls[i].length:Nat):Int)+1=((smL (ls.take (i+1)):Nat):Int) by omega];exact dP ⟨⟨i+1,by omega,rfl⟩,by(try dsimp only);omega⟩
   . have:i=ls.length:=by omega
     subst this;rw[decide_eq_false (by omega),cond_false,take_of_length_le (le_refl _)];exact dP rfl
 . rintro _ rfl
   dsimp only;refine dZ (c10 fl fd) ?_;rintro⟨y,u⟩ hy;dsimp only at hy ⊢;cases y with
   | true =>
    rw[cond_true];refine dP λhh=>⟨hy rfl,?_⟩
    have:=of_decide_eq_true hh;omega
   | false=>exact dP λhh=>by cases hh
abbrev Rp:=Int×List (List UInt8)
def Sh(r:Rp):Prop:=r.2.length<=20/\∀x∈r.2,x.length<=200
theorem c9_l0(l:List Rp)(i:Nat)(hi:i<l.length)(hl:l.length<=100000000)(hk:l[i].2.length<=100000000) :
 Df (C9_l0 (l,(i:Int),0,())) (Sum.elim (λy=>y=(l,(i:Int),())/\∀x∈l[i].2,x.length<=200) (λy=>y.1=false)):=by
 refine dL ?I ?m ?h _ ?hv ?hn
 case I=>exact(λv=>∃k:Nat,k<=l[i].2.length/\v=(l,(i:Int),(k:Int),())/\∀x∈l[i].2.take k,x.length<=200)
 case m=>exact(λv=>l[i].2.length-v.2.2.1.toNat)
 case hv=>exact⟨0,zero_le _,rfl,λx hx=>by simp at hx⟩
 case hn=>exact(by(try dsimp only);omega)
 rintro _ ⟨k,hk',rfl,hx⟩;have hg:l.getD i (0,[])=l[i]:=getD_lt hi;unfold F9_l0;dsimp only;rw[decide_eq_true (show (i:Int)<(l.length:Int) by omega),decide_eq_true (show (0:Int)<=(i:Int) by omega)];simp only[cond_true,Bool.and_self,toNat_natCast,hg];by_cases hlt:k<l[i].2.length
 . have hg2:l[i].2.getD k []=l[i].2[k]:=getD_lt hlt
   rw[decide_eq_true (show (k:Int)<(l[i].2.length:Int) by omega),decide_eq_true (show (0:Int)<=(k:Int) by omega)];simp only[cond_true,Bool.and_self,hg2];by_cases h2:((l[i].2[k].length:Nat):Int)>200
   . rw[decide_eq_true h2,cond_true]
     exact dP rfl
   . rw[decide_eq_false h2,cond_false,wrN k (by omega)]
     refine dP ⟨⟨k+1,by omega,rfl,λx hx' => ?_⟩,by(try dsimp only);omega⟩;rw[take_succ_get hlt]at hx';rcases List.mem_append.1 hx' with h|h
     . exact hx x h
     . rw[List.mem_singleton.1 h];omega
 . have:k=l[i].2.length:=by omega
   subst this;rw[decide_eq_false (by omega),cond_false];refine dP ⟨rfl,λx hx'=>hx x (by rwa[take_of_length_le (le_refl _)])⟩
theorem c9k(l:List Rp)(hl:l.length<=100000000)(hk:∀r∈l,r.2.length<=100000000):Df (C9 (l,())) (λy=>y.1=true->l.length<=30/\∀r∈l,Sh r):=by
 unfold C9 F9;dsimp only;refine dZ (P:=Sum.elim (λy=>y.1=l/\∀r∈l,Sh r) (λy=>y.1=false)) ?_ ?_
 . refine dL ?I ?m ?h _ ?hv ?hn
   case I=>exact(λv=>∃i:Nat,i<=l.length/\v=(l,(i:Int),())/\∀r∈l.take i,Sh r)
   case m=>exact(λv=>l.length-v.2.1.toNat)
   case hv=>exact⟨0,zero_le _,rfl,λx hx=>by simp at hx⟩
   case hn=>exact(by(try dsimp only);omega)
   rintro _ ⟨i,hi,rfl,hx⟩;unfold F9_l1;dsimp only;by_cases hlt:i<l.length
   . have hg:l.getD i (0,[])=l[i]:=getD_lt hlt
     have hm:=hk _ (getElem_mem hlt);rw[decide_eq_true (show (i:Int)<(l.length:Int) by omega),decide_eq_true (show (0:Int)<=(i:Int) by omega)];simp only[cond_true,Bool.and_self,toNat_natCast,hg];by_cases h20:((l[i].2.length:Nat):Int)>20
     . rw[decide_eq_true h20,cond_true]
       exact dP rfl
     . rw[decide_eq_false h20,cond_false]
       refine dZ (c9_l0 l i hlt hl hm) ?_;rintro (y|y) hy
       . obtain⟨rfl,hy⟩:=hy
         dsimp only[elim_inl];rw[wrN i (by omega)];refine dP ⟨⟨i+1,by omega,rfl,λr hr => ?_⟩,by(try dsimp only);omega⟩;rw[take_succ_get hlt]at hr;rcases List.mem_append.1 hr with h|h
         . exact hx r h
         . rw[List.mem_singleton.1 h];exact⟨by omega,hy⟩
       . exact dP hy
   . have:i=l.length:=by omega
     subst this;rw[decide_eq_false (by omega),cond_false];exact dP ⟨rfl,λr hr=>hx r (by rwa[take_of_length_le (le_refl _)])⟩
 . rintro (y|y) hy
   . refine dP λh=>⟨?_,hy.2⟩
     have:=of_decide_eq_true h;rw[hy.1]at this;omega
   . exact dP λh=>by rw[hy]at h;cases h
def tkkB:Bool:=match C12 ()with
 | some (T,A,B,_)=>(decide (T.length<=1000000000000)&&T.all λe=>decide (0<=e.2.2.2.1)&&decide (e.2.2.2.1<8))&&(decide (A.length<=1000000000000)&&decide (B.length<=1000000000000))
 | none=>false
theorem tkkB_k:tkkB=true:=by kernel_rfl
theorem tkk:∃T A B,C12 ()=some (T,A,B,())/\TK T A B:=by
 have h:=tkkB_k;unfold tkkB at h;cases hc:C12 ()with
 | none=>rw[hc]at h;cases h
 | some y =>
  obtain⟨T,A,B,u⟩:=y;rw[hc]at h;simp only[Bool.and_eq_true,decide_eq_true_eq,List.all_eq_true]at h;exact⟨T,A,B,rfl,⟨h.1.1,h.1.2⟩,h.2.1,h.2.2⟩
theorem sum_mem{α:Type}(f:α->Nat):∀{l:List α} {x:α},x∈l->f x<=(l.map f).sum
 | y::l,x,h=>by
  simp only[List.map_cons,List.sum_cons];rcases mem_cons.1 h with rfl|h
  . omega
  . have:=sum_mem f h;omega
theorem sum_len{α:Type}(f:α->Nat):∀l:List α,l.length<=(l.map λx=>f x+1).sum
 | []=>le_refl _
 | y::l=>by
  have:=sum_len f l;simp only[List.map_cons,List.sum_cons,length_cons];omega
theorem blk_rp(l:List Rp)(h:Blk (.lst (.pair (.int .i64) (.lst .str))) l<=1048576):l.length<=100000000/\∀r∈l,r.2.length<=100000000:=by
 have h':(l.map λx:Rp=>(0+smL x.2)+1).sum<=1048576:=h;refine⟨by have:=sum_len (λx:Rp=>0+smL x.2) l;omega,λr hr => ?_⟩;have h1:=sum_mem (λx:Rp=>(0+smL x.2)+1) hr;have h2:=smL_len r.2;have h3:(0+smL r.2)+1<=(l.map λx:Rp=>(0+smL x.2)+1).sum:=h1;omega
abbrev TMail:Ty := .pair (.pair .bool (.pair .str .str)) (.pair (.lst (.pair .bool (.pair .str .str))) (.pair (.lst .str) (.pair (.pair .bool (.pair .bool (.pair .bool (.pair (.int .i64) (.int .i64))))) (.int .i64))))
theorem blk_mail(x:TMail.den)(h:Blk TMail x<=1048576):smL x.2.2.1<=2000000:=by
 have h':Blk (.pair .bool (.pair .str .str)) x.1+(Blk (.lst (.pair .bool (.pair .str .str))) x.2.1+(smL x.2.2.1+Blk (.pair (.pair .bool (.pair .bool (.pair .bool (.pair (.int .i64) (.int .i64))))) (.int .i64)) x.2.2.2))<=1048576:=h;omega
theorem s13(m:MM)(v:VV):C13 (full m v)=some (v.1,full m v):=by
 obtain⟨st,he,re,ss,cu,ce,cz,k,gn,gl,gd,vn,vl,vd,e8,u8,cs,⟨⟩⟩:=v;rfl
theorem s15(m:MM)(v:VV):C15 (full m v)=some (v.2.2.1,v.2.2.2.1,full m v):=by
 obtain⟨st,he,re,ss,cu,ce,cz,k,gn,gl,gd,vn,vl,vd,e8,u8,cs,⟨⟩⟩:=v;rfl
theorem s16(m:MM)(v:VV):C16 (full m v)=some (full m (bif v.1 != 6 then(6,v.2.1,2,v.2.2.2.1,v.2.2.2.2)else v)):=by
 obtain⟨st,he,re,ss,cu,ce,cz,k,gn,gl,gd,vn,vl,vd,e8,u8,cs,⟨⟩⟩:=v;show F16 _=_;by_cases h:st=6
 . simp only[F16,full,inF h,cond_false]
 . simp only[F16,full,inT h,cond_true]
theorem take_over(m:MM)(c:Int)(rs:List (List UInt8))(v:VV)(h:v.1=6):C14 (c,rs,full m v)=some ([],full m v):=by
 obtain⟨y,e34,-⟩:=c34x c;exact take_inl e34 λb hb=>by rw[hb.2 (.inl h)];rfl
theorem e3c0(l:List Rp)(hd:Bool)(q i:Int)(out:List (Int×List UInt8))(fl:Bool)(mc:Int)(ml:List (List UInt8))(S:SS):C3_c0 (l,hd,q,i,out,fl,mc,ml,S) =
 bif fl then
  bif((out.length:Nat):Int) != 1 then some (Sum.inl (false,()))
  else
   bif decide (0<((out.length:Nat):Int))then
    bif !(out.getD 0 (0,[])).2==[81,85,73,84]then some (Sum.inl (false,()))
    else some (Sum.inr (l,hd,IntKind.i64.wrap (q+1),i,mc,ml,S))
   else none
 else some (Sum.inr (l,hd,q,i,mc,ml,S)):=by
 obtain⟨T,A,B,nm,fn,f2,fd,ls,h,b,d,ln,hp,z,tn,tl,td,st,he,re,ss,cu,ce,cz,k,gn,gl,gd,vn,vl,vd,e8,u8,cs,⟨⟩⟩:=S;rfl
theorem e3l0(l:List Rp)(hd:Bool)(q i mc:Int)(ml:List (List UInt8))(S:SS):F3_l0 C10 C11 C12 C13 C14 C15 C16 C7 C8 C9 C3_c0 (l,hd,q,i,mc,ml,S) =
 bif decide (i<((l.length:Nat):Int))then
  (C13 S).bind λval =>
   bif decide (0<=i)&&decide (i<((l.length:Nat):Int))then
    (C14 ((l.getD i.toNat (0,[])).1,(l.getD i.toNat (0,[])).2,val.2)).bind λval_1 =>
     bif val.1==6 then
      bif decide (((val_1.1.length:Nat):Int)>0)then some (Sum.inr (Sum.inr (false,())))
      else
       bif !val.1==6 then
        (C13 val_1.2).bind λval =>
         (C3_c0 (l,hd,q,i,val_1.1,val.1==6,mc,ml,val.2)).bind λval =>
          Sum.elim (λval=>some (Sum.inr (Sum.inr (val.1,()))))
           (λval=>some (Sum.inl (val.1,val.2.1,val.2.2.1,IntKind.i64.wrap (val.2.2.2.1+1),val.2.2.2.2))) val
       else
        (C3_c0 (l,hd,q,i,val_1.1,false,mc,ml,val_1.2)).bind λval =>
         Sum.elim (λval=>some (Sum.inr (Sum.inr (val.1,()))))
          (λval=>some (Sum.inl (val.1,val.2.1,val.2.2.1,IntKind.i64.wrap (val.2.2.2.1+1),val.2.2.2.2))) val
     else
      bif !val.1==6 then
       (C13 val_1.2).bind λval =>
        (C3_c0 (l,hd,q,i,val_1.1,val.1==6,mc,ml,val.2)).bind λval =>
         Sum.elim (λval=>some (Sum.inr (Sum.inr (val.1,()))))
          (λval=>some (Sum.inl (val.1,val.2.1,val.2.2.1,IntKind.i64.wrap (val.2.2.2.1+1),val.2.2.2.2))) val
      else
       (C3_c0 (l,hd,q,i,val_1.1,false,mc,ml,val_1.2)).bind λval =>
        Sum.elim (λval=>some (Sum.inr (Sum.inr (val.1,()))))
         (λval=>some (Sum.inl (val.1,val.2.1,val.2.2.1,IntKind.i64.wrap (val.2.2.2.1+1),val.2.2.2.2))) val
   else none
 else some (Sum.inr (Sum.inl (hd,q,mc,ml,S))):=by
 obtain⟨T,A,B,nm,fn,f2,fd,ls,h,b,d,ln,hp,z,tn,tl,td,st,he,re,ss,cu,ce,cz,k,gn,gl,gd,vn,vl,vd,e8,u8,cs,⟨⟩⟩:=S;rfl
theorem rpl_end{m:MM}{c:Int}{v v':VV}{out:List (Int×List UInt8)}(h:Rpl m c v out v'):(v.1=6->out=[]/\v'=v)/\(v.1≠6->v'.1=6->out=[(1,[81,85,73,84])]):=by
 cases h
 case over=>exact⟨λ_=>⟨rfl,rfl⟩,λh=>(h rfl).elim⟩
 case deaf=>exact⟨λ_=>⟨rfl,rfl⟩,λh h'=>(h h').elim⟩
 all_goals refine⟨λh => ?_,λh h' => ?_⟩
 all_goals first|rfl|(exfalso;revert h;simp;done)|(exfalso;revert h';simp;done)|(exfalso;exact absurd h ‹_›)
def En3(m:MM)(mc:Int)(ml:List (List UInt8))(y:Bool×Int×Int×List (List UInt8)×SS):Prop :=
 ∃v q,y=(true,q,mc,ml,full m v)/\Inv m v/\((v.1=6/\q=1)\/(v.1≠6/\q=0))
theorem e3_loop{m:MM}(hm:Mok m)(l:List Rp)(hl:l.length<=30)(hr:∀r∈l,Sh r)(mc:Int)(ml:List (List UInt8))(v:VV)(hv:Inv m v)(hv6:v.1≠6) :
 Df (C3_l0 (l,true,0,0,mc,ml,full m v)) (Sum.elim (En3 m mc ml) (λ_=>False)):=by
 refine dL ?I ?m ?h _ ?hv ?hn
 case I=>exact(λw=>∃(i:Nat) (q:Int) (v:VV),i<=l.length/\w=(l,true,q,(i:Int),mc,ml,full m v)/\Inv m v/\((v.1=6/\q=1)\/(v.1≠6/\q=0)))
 case m=>exact(λw=>l.length-w.2.2.2.1.toNat)
 case hv=>exact⟨0,0,v,zero_le _,rfl,hv,.inr ⟨hv6,rfl⟩⟩
 case hn=>exact(by(try dsimp only);omega)
 rintro _ ⟨i,q,v,hi,rfl,hv,hq⟩;rw[e3l0,s13];by_cases hlt:i<l.length
 . have hg:l.getD i (0,[])=l[i]:=getD_lt hlt
   have hsh:=hr _ (getElem_mem hlt);obtain⟨out,v',e14,hR,hv'⟩:=take_ok hm l[i].1 l[i].2 (by have:=hsh.1;omega) (λx hx=>by have:=hsh.2 x hx;omega) v hv;obtain⟨r1,r2⟩:=rpl_end hR;rw[decide_eq_true (show (i:Int)<(l.length:Int) by omega),decide_eq_true (show (0:Int)<=(i:Int) by omega)];simp only[cond_true,Bool.and_self,toNat_natCast,hg,Option.bind_some,e14,s13,e3c0];by_cases h6:v.1=6
   . obtain⟨rfl,rfl⟩:=r1 h6
     rw[ibT h6];simp only[cond_true,length_nil,Bool.not_true,cond_false,Option.bind_some,elim_inr];rw[show decide (((0:Nat):Int)>0)=false from rfl,cond_false,wrN i (by omega)];exact dP ⟨⟨i+1,q,v',by omega,rfl,hv',hq⟩,by(try dsimp only);omega⟩
   . have hq0:q=0:=by rcases hq with h|h;exact(h6 h.1).elim;exact h.2
     subst hq0;rw[ibF h6];simp only[cond_false,Bool.not_false,cond_true];by_cases h6':v'.1=6
     . have ho:=r2 h6 h6'
       subst ho;rw[ibT h6'];simp only[cond_true];refine dZ (P:=Sum.elim (λ_=>False) (λy=>y=(l,true,1,(i:Int),mc,ml,full m v'))) (dP rfl) ?_;rintro (y|y) hy
       . exact hy.elim
       . have hy':y=(l,true,1,(i:Int),mc,ml,full m v'):=hy
         subst hy';dsimp only[elim_inr];rw[wrN i (by omega)];exact dP ⟨⟨i+1,1,v',by omega,rfl,hv',.inl ⟨h6',rfl⟩⟩,by(try dsimp only);omega⟩
     . rw[ibF h6']
       simp only[cond_false,Option.bind_some,elim_inr];rw[wrN i (by omega)];exact dP ⟨⟨i+1,0,v',by omega,rfl,hv',.inr ⟨h6',rfl⟩⟩,by(try dsimp only);omega⟩
 . have:i=l.length:=by omega
   subst this;rw[decide_eq_false (by omega),cond_false];exact dP ⟨v,q,rfl,hv,hq⟩
theorem e3c1(l:List Rp)(mc:Int)(ml:List (List UInt8))(S:SS){m:MM}(h:Df (C3_l0 (l,true,0,0,mc,ml,S)) (Sum.elim (En3 m mc ml) (λ_=>False))):C3_c1 (l,true,mc,ml,S)=some (true,()):=by
 obtain⟨w,e,hw⟩:=h;have hf:C3_c1 (l,true,mc,ml,S)=F3_c1 C10 C11 C12 C13 C14 C15 C16 C7 C8 C9 C3_l0 (l,true,mc,ml,S):=rfl;rw[hf];obtain⟨T,A,B,nm,fn,f2,fd,ls,h,b,d,ln,hp,z,tn,tl,td,st,he,re,ss,cu,ce,cz,k,gn,gl,gd,vn,vl,vd,e8,u8,cs,⟨⟩⟩:=S;simp only[F3_c1,e,Option.bind_some];rcases w with w|w
 . obtain⟨v,q,rfl,hv,hq⟩:=hw
   have o1:∀(o:List (Int×List UInt8)) (S:SS),o=[]->True:=λ_ _ _=>trivial;simp only[elim_inl,s15,s16,Option.bind_some];rcases hq with⟨h6,rfl⟩|⟨h6,rfl⟩
   . have hx:=hv.2.2.1 h6
     rw[inF h6];simp only[cond_false,take_over m mc ml v h6,Option.bind_some,s13,h6];rw[inF rfl,inF rfl];rfl
   . obtain⟨h1,h2⟩:=hv.2.1 h6
     rw[inT h6];have ht:=take_over m mc ml (6,v.2.1,2,v.2.2.2.1,v.2.2.2.2) rfl;simp only[cond_true,h2]at ht ⊢;simp only[ht,Option.bind_some,s13];rfl
 . exact hw.elim
theorem c3law(fn:Bool)(fl fd:List UInt8)(to:List Pa)(ls:List (List UInt8))(h b d:Bool)(ln hp z:Int)(tn:Bool)(tl td:List UInt8)(l:List Rp)(mc:Int)(ml:List (List UInt8))(hs:smL ls<=2000000)(hl:l.length<=100000000)(hk:∀r∈l,r.2.length<=100000000) :
 C3 (fn,fl,fd,to,ls,h,b,d,ln,hp,z,tn,tl,td,l,mc,ml,())=some (true,()):=by
 obtain⟨⟨f1,u1⟩,e8,h8⟩:=c8k fn fl fd to ls h b d ln hp z (by omega);obtain⟨⟨f2,u2⟩,e9,h9⟩:=c9k l hl hk;obtain⟨⟨f3,u3⟩,e10,h10⟩:=c10 tl td;obtain⟨T,A,B,e12,hT⟩:=tkk;have hsl:=smL_len ls;have e29:C29 (ls,())=some (ls,()):=by
  show (bif decide (ls.length<=8796093022208)then some (ls,())else none)=_;rw[decide_eq_true (by omega)];rfl
 have e11:C11 (T,A,B,[120],fn,fl,fd,to,ls,h,b,d,ln,hp,z,tn,tl,td,())=some (full ⟨T,A,B,[120],fn,fl,fd,ls,h,b,d,ln,hp,z,tn,tl,td⟩ (0,false,0,0,false,false,0,0,false,[],[],false,[],[],false,false,0,())):=by
  show F11 C29 _=_;simp only[F11,e29,Option.bind_some];rfl
 have e7:C7 ()=some (true,()):=rfl;show F3 C10 C11 C12 C13 C14 C15 C16 C7 C8 C9 C3_c1 _=_;simp only[F3,e7,e8,e9,e10,e12,e11,Option.bind_some];dsimp only at h8 h9 h10;cases f1 with
 | false=>rfl
 | true =>
  cases f2 with
  | false=>rfl
  | true =>
   cases f3 with
   | false=>rfl
   | true =>
    obtain⟨⟨b1,b2⟩,b3⟩:=h8 rfl;obtain⟨b4,b5⟩:=h9 rfl;obtain⟨b6,b7⟩:=h10 rfl;by_cases h20:((ml.length:Nat):Int)>20
    . rw[decide_eq_true h20];rfl
    . have hm:Mok ⟨T,A,B,[120],fn,fl,fd,ls,h,b,d,ln,hp,z,tn,tl,td⟩:=⟨hT,by simp,by(try dsimp only);omega,by(try dsimp only);omega,by(try dsimp only);omega,by(try dsimp only);omega,by(try dsimp only);omega,λx hx=>by have:=smL_mem hx;dsimp only at this;omega⟩
      rw[decide_eq_false h20];simp only[Bool.not_true,cond_false];rw[e3c1 l mc ml _ (e3_loop hm l b4 b5 mc ml _ ⟨⟨Int.le_refl _,by decide⟩,λ_=>⟨rfl,rfl⟩,λh=>absurd h (by simp),λh=>absurd h (by simp)⟩ (by simp))];rfl
end Go.Proofs.YtgkmfhhghcccjaaGreatDoorA.W
namespace Go.Proofs.YtgkmfhhghcccjaaGreatDoorA.PClientEnds
open Go Go.Ae Go.Proofs.YtgkmfhhghcccjaaGreatDoorA.W
theorem pure(x0:(Ty.pair (.pair .bool (.pair .str .str)) (.pair (.lst (.pair .bool (.pair .str .str))) (.pair (.lst .str) (.pair (.pair .bool (.pair .bool (.pair .bool (.pair (.int .i64) (.int .i64))))) (.int .i64))))).den)(b0:Bd (Ty.pair (.pair .bool (.pair .str .str)) (.pair (.lst (.pair .bool (.pair .str .str))) (.pair (.lst .str) (.pair (.pair .bool (.pair .bool (.pair .bool (.pair (.int .i64) (.int .i64))))) (.int .i64))))) x0)(u0:Blk (Ty.pair (.pair .bool (.pair .str .str)) (.pair (.lst (.pair .bool (.pair .str .str))) (.pair (.lst .str) (.pair (.pair .bool (.pair .bool (.pair .bool (.pair (.int .i64) (.int .i64))))) (.int .i64))))) x0<=1048576)(x1:(Ty.pair .bool (.pair .str .str)).den)(b1:Bd (Ty.pair .bool (.pair .str .str)) x1)(u1:Blk (Ty.pair .bool (.pair .str .str)) x1<=1048576)(x2:(Ty.lst (.pair (.int .i64) (.lst .str))).den)(b2:Bd (Ty.lst (.pair (.int .i64) (.lst .str))) x2)(u2:Blk (Ty.lst (.pair (.int .i64) (.lst .str))) x2<=1048576)(x3:(Ty.pair (.int .i64) (.lst .str)).den)(b3:Bd (Ty.pair (.int .i64) (.lst .str)) x3)(u3:Blk (Ty.pair (.int .i64) (.lst .str)) x3<=1048576):C3 (x0.1.1,x0.1.2.1,x0.1.2.2,x0.2.1,x0.2.2.1,x0.2.2.2.1.1,x0.2.2.2.1.2.1,x0.2.2.2.1.2.2.1,x0.2.2.2.1.2.2.2.1,x0.2.2.2.1.2.2.2.2,x0.2.2.2.2,x1.1,x1.2.1,x1.2.2,x2,x3.1,x3.2,())=some (true,()) :=
 c3law _ _ _ _ _ _ _ _ _ _ _ _ _ _ x2 _ _ (blk_mail x0 u0) (blk_rp x2 u2).1 (blk_rp x2 u2).2
end Go.Proofs.YtgkmfhhghcccjaaGreatDoorA.PClientEnds
namespace Go.Proofs.YtgkmfhhghcccjaaGreatDoorA.W
open Go Go.Ae
theorem dot_in{x y:List UInt8}(h:dotC x=some y):C43 (y,())=some (x,false,())/\y≠[46]:=by
 have h':(C76 (x,[46],())).bind (λa=>bif decide (x.length<=1000000000)then some (bif a.1 then 46::x else x)else none)=some y:=h;obtain⟨⟨z,u⟩,e76,hz⟩:=d76k x [46];dsimp only[length_cons,length_nil]at hz;rw[e76,Option.bind_some]at h';rcases cond_some h' with⟨_,h2⟩|⟨_,h2⟩
 case inr=>cases h2
 have hy:(bif z then 46::x else x)=y:=Option.some.inj h2;have e94:∀s:List UInt8,C94 (s,[46],())=some (bif decide (s.take 1=[46])then s.drop 1 else s,()):=by
  intro s;obtain⟨⟨q,u⟩,e112,hq⟩:=d112k s [46];dsimp only[length_cons,length_nil]at hq;show F94 C112 _=_;simp only[F94,e112,Option.bind_some];subst hq;by_cases ht:s.take (0+1)=[46]
  . have hl:1<=s.length:=by
     have:=congrArg List.length ht;simp only[length_take,length_cons,length_nil]at this;omega
    have ht1:decide (s.take 1=[46])=true:=decide_eq_true ht;simp only[length_cons,length_nil];rw[ht1];simp only[cond_true];rw[decide_eq_true (show (0:Int)<=((0+1:Nat):Int) by omega),decide_eq_true (show ((0+1:Nat):Int)<=((s.length:Nat):Int) by omega)];rfl
  . have ht1:decide (s.take 1=[46])=false:=decide_eq_false ht
    simp only[length_cons,length_nil];rw[ht1];rfl
 have e43:∀s:List UInt8,s≠[46]->C43 (s,())=some (bif decide (s.take 1=[46])then s.drop 1 else s,false,()):=by
  intro s hs;have e63:C63 (s,[46],())=some (bif decide (s.take 1=[46])then s.drop 1 else s,()):=by
   show F63 C94 _=_;simp only[F63,e94,Option.bind_some]
  show F43 C63 _=_;have hb:(s==[46])=false:=beq_eq_false_iff_ne.2 hs;simp only[F43,hb,cond_false,e63,Option.bind_some]
 subst hy;by_cases ht:x.take (0+1)=[46]
 . rw[decide_eq_true ht]at hz
   subst hz;have hx:x≠[]:=λh=>by subst h;simp at ht
   have hne:(46::x)≠[46]:=λh=>hx (by simpa using h);refine⟨?_,hne⟩;rw[cond_true,e43 _ hne];rfl
 . rw[decide_eq_false ht]at hz
   subst hz;have hne:x≠[46]:=λh=>ht (by rw[h];rfl);refine⟨?_,hne⟩;rw[cond_false,e43 _ hne,show decide (x.take 1=[46])=false from decide_eq_false ht];rfl
theorem t18_end(p q r:Int)(o:Bool)(l:List (List UInt8)):C18v1 ([46],p,q,r,o,l,())=some (.inl (true,p,q,r,o,l,())):=rfl
theorem t18_go{x y:List UInt8}(h:dotC x=some y)(r:Nat)(l:List (List UInt8))(hl:l.length<5000)(hr:r+(x.length+2)<=1048576) :
 C18v1 (y,5000,1048576,(r:Int),false,l,())=some (.inr (false,5000,1048576,((r+(x.length+2):Nat):Int),false,l++[x],())):=by
 have e43:=(dot_in h).1;have w1:IntKind.i64.wrap (((x.length:Nat):Int)+2)=((x.length+2:Nat):Int):=by rw[w64s (by omega)];omega
 have w2:IntKind.i64.wrap ((r:Int)+((x.length+2:Nat):Int))=((r+(x.length+2):Nat):Int):=by rw[w64s (by omega)];omega
 have c0:∀t:Int,C18v1_c0 (x,5000,1048576,t,false,l,())=some (.inl (false,5000,1048576,t,false,l++[x],())):=by
  intro t;show F18v1_c0 C43 _=_;simp only[F18v1_c0,Bool.not_false,cond_true,length_cons,length_nil];exact bifD (by omega)
 have c1:C18v1_c1 (x,5000,1048576,((r+(x.length+2):Nat):Int),false,l,())=some (.inl (false,5000,1048576,((r+(x.length+2):Nat):Int),false,l++[x],())):=by
  show F18v1_c1 C43 C18v1_c0 _=_;have hd:decide (((r+(x.length+2):Nat):Int)>1048576)=false:=decide_eq_false (by omega);simp only[F18v1_c1,cond_false,ibF (show ((l.length:Nat):Int)≠5000 by omega),hd,c0,Option.bind_some,elim_inl]
 show F18v1 C43 C18v1_c1 _=_;simp only[F18v1,e43,Option.bind_some,cond_false,w1,w2,c1,elim_inl]
theorem tag_get(n:Int):∀(l:List (List UInt8)) (k i:Nat),((tag n k l).getD i (0,[])).2=l.getD i []
 | [],k,i=>by simp[tag]
 | s::l,k,0=>by simp[tag]
 | s::l,k,i+1=>by
  have:=tag_get n l (k+1) i;simp only[tag];simpa using this
theorem ls_take{l ys:List (List UInt8)}(h:linesC l=some ys){i:Nat}(hi:i<ys.length):∃(hl:i<l.length),dotC l[i]=some ys[i]:=by
 have hlen:=linesC_len h;have hl:i<l.length:=by omega
 obtain⟨y,h1,h2⟩:=linesC_at h i l[i] (List.getElem?_eq_getElem hl);rw[List.getElem?_eq_getElem hi]at h2;cases h2;exact⟨hl,h1⟩
def sm2(l:List (List UInt8)):Nat:=(l.map λx=>x.length+2).sum
theorem sm2_le:∀l:List (List UInt8),sm2 l<=2*smL l
 | []=>le_refl _
 | x::l=>by
  have:=sm2_le l;have e1:sm2 (x::l)=x.length+2+sm2 l:=by simp[sm2]
  have e2:smL (x::l)=x.length+1+smL l:=by simp[smL]
  omega
theorem sm2_take{l:List (List UInt8)}{i:Nat}(h:i<l.length):sm2 (l.take (i+1))=sm2 (l.take i)+(l[i].length+2):=by
 rw[take_succ_get h];unfold sm2;rw[List.map_append,List.sum_append];rfl
theorem sm2_tk(l:List (List UInt8))(i:Nat):sm2 (l.take i)<=sm2 l:=by
 have:sm2 (l.take i++l.drop i)=sm2 (l.take i)+sm2 (l.drop i):=by
  unfold sm2;rw[List.map_append,List.sum_append]
 rw[List.take_append_drop]at this;omega
theorem d4_l0(l:List Rp)(hd rc:Bool)(i was r:Int)(ok:Bool)(fn:Bool)(fl:List UInt8)(fd:List UInt8)(to:List Pa)(ls:List (List UInt8))(h:Bool)(b:Bool)(d:Bool)(ln:Int)(hp:Int)(z:Int)(T:List R6)(A:List R4)(B:List R3)(nm:List UInt8)(fn2:Bool)(fl2:List UInt8)(fd2:List UInt8)(ls2:List (List UInt8))(h2:Bool)(b2:Bool)(d2:Bool)(ln2:Int)(hp2:Int)(z2:Int)(tn:Bool)(tl:List UInt8)(td:List UInt8)(st:Int)(he:Bool)(re:Int)(ss:Int)(cu:Bool)(ce:Bool)(cz:Int)(k:Int)(gn:Bool)(gl:List UInt8)(gd:List UInt8)(vn:Bool)(vl:List UInt8)(vd:List UInt8)(e8:Bool)(u8:Bool)(cs:Int)(lx ys:List (List UInt8))(n0:Int)(hys:linesC lx=some ys)(hs:smL lx<=3000) :
 Df (C4_l0 (l,hd,rc,i,was,tag n0 0 (ys++[[46]]),r,ok,0,fn,fl,fd,to,ls,h,b,d,ln,hp,z,T,A,B,nm,fn2,fl2,fd2,ls2,h2,b2,d2,ln2,hp2,z2,tn,tl,td,st,he,re,ss,cu,ce,cz,k,gn,gl,gd,vn,vl,vd,e8,u8,cs,5000,1048576,0,false,[],())) (Sum.elim (λy=>∃g:Int,y=(l,hd,rc,i,was,r,ok,fn,fl,fd,to,ls,h,b,d,ln,hp,z,T,A,B,nm,fn2,fl2,fd2,ls2,h2,b2,d2,ln2,hp2,z2,tn,tl,td,st,he,re,ss,cu,ce,cz,k,gn,gl,gd,vn,vl,vd,e8,u8,cs,5000,1048576,g,false,lx,())) (λ_=>False)):=by
 have hlen:=linesC_len hys;have hsl:=smL_len lx;have hs2:=sm2_le lx;have htl:(tag n0 0 (ys++[[46]])).length=ys.length+1:=by rw[tag_len,List.length_append];rfl
 refine dL ?I ?m ?h _ ?hv ?hn
 case I=>exact(λv=>∃(n:Nat) (g:Nat),n<=ys.length+1/\(n<=ys.length->g=sm2 (lx.take n))/\v=(l,hd,rc,i,was,tag n0 0 (ys++[[46]]),r,ok,(n:Int),fn,fl,fd,to,ls,h,b,d,ln,hp,z,T,A,B,nm,fn2,fl2,fd2,ls2,h2,b2,d2,ln2,hp2,z2,tn,tl,td,st,he,re,ss,cu,ce,cz,k,gn,gl,gd,vn,vl,vd,e8,u8,cs,5000,1048576,(g:Int),false,lx.take n,()))
 case m=>exact(λv=>ys.length+1-v.2.2.2.2.2.2.2.2.1.toNat)
 case hv=>exact⟨0,0,zero_le _,λ_=>rfl,rfl⟩
 case hn=>exact(by(try dsimp only);omega)
 rintro _ ⟨n,g,hn,hg,rfl⟩;unfold F4_l0;dsimp only;rw[htl];by_cases hlt:n<ys.length+1
 . rw[decide_eq_true (show (n:Int)<((ys.length+1:Nat):Int) by omega),decide_eq_true (show (0:Int)<=(n:Int) by omega)]
   simp only[cond_true,Bool.and_self,toNat_natCast,tag_get];rw[w64s (n:=((ys.length+1:Nat):Int)-1) (by omega),show ((ys.length+1:Nat):Int)-1=((ys.length:Nat):Int) by omega];by_cases hy:n<ys.length
   . obtain⟨hlx,hdot⟩:=ls_take hys hy
     have hgd:(ys++[[46]]).getD n []=ys[n]:=by
      rw[List.getD_eq_getElem?_getD,List.getElem?_append_left hy,List.getElem?_eq_getElem hy];rfl
     have hg':=hg (by omega);have ht:=sm2_take hlx;have htk:=sm2_tk lx (n+1);have h18:=t18_go hdot g (lx.take n) (by simp only[length_take];omega) (by omega);rw[hgd,h18];simp only[Option.bind_some,elim_inr,Bool.not_false];rw[ibF (show (n:Int)≠((ys.length:Nat):Int) by omega),wrN n (by omega)];rw[show lx.take n++[lx[n]]=lx.take (n+1) from(take_succ_get hlx).symm];exact dP ⟨⟨n+1,g+(lx[n].length+2),by omega,λ_=>by rw[ht,hg'],rfl⟩,by(try dsimp only);omega⟩
   . have hn':n=ys.length:=by omega
     subst hn';have hgd:(ys++[[46]]).getD ys.length []=[46]:=by
      rw[List.getD_eq_getElem?_getD,List.getElem?_append_right (le_refl _),Nat.sub_self];rfl
     rw[hgd,t18_end];simp only[Option.bind_some,elim_inl,Bool.not_true];rw[ibT rfl,wrN ys.length (by omega)];have htake:lx.take ys.length=lx.take (ys.length+1):=by rw[take_of_length_le (by omega),take_of_length_le (by omega)]
     rw[htake];exact dP ⟨⟨ys.length+1,g,by omega,λh=>by omega,rfl⟩,by(try dsimp only);omega⟩
 . have hn':n=ys.length+1:=by omega
   subst hn';rw[decide_eq_false (by omega),cond_false,take_of_length_le (by omega)];exact dP ⟨_,rfl⟩
theorem e44(lx:List (List UInt8))(hl:lx.length<=1000000):C44 (0,lx,0,lx,())=some (true,()):=by
 have hd:Df (C44_l0 (0,0,lx,0,lx,())) (Sum.elim (λ_=>True) (λ_=>False)):=by
  refine dL ?I ?m ?h _ ?hv ?hn
  case I=>exact(λv=>∃i:Nat,i<=lx.length/\v=((i:Int),0,lx,0,lx,()))
  case m=>exact(λv=>lx.length-v.1.toNat)
  case hv=>exact⟨0,zero_le _,rfl⟩
  case hn=>exact(by(try dsimp only);omega)
  rintro _ ⟨i,hi,rfl⟩;unfold F44_l0;dsimp only;by_cases hlt:i<lx.length
  . rw[decide_eq_true (show (i:Int)<(lx.length:Int) by omega),decide_eq_true (show (0:Int)<=(i:Int) by omega),beq_self_eq_true]
    simp only[cond_true,Bool.and_self,Bool.not_true,cond_false];rw[wrN i (by omega)];exact dP ⟨⟨i+1,by omega,rfl⟩,by(try dsimp only);omega⟩
  . rw[decide_eq_false (by omega),cond_false]
    exact dP trivial
 obtain⟨w,e,hw⟩:=hd;show F44 C44_l0 _=_;rw[F44];rw[inF rfl,inF rfl,e];rcases w with w|w
 . rfl
 . exact hw.elim
theorem e19(lx:List (List UInt8))(hl:lx.length<=1000000):C19 (lx,lx,())=some (true,()):=by
 show F19 C44 _=_;simp only[F19,e44 lx hl,Option.bind_some]
theorem e20(a b g:Int)(lx:List (List UInt8))(hl:lx.length<=1000000):C20 (a,b,g,false,lx,())=some (lx,a,b,g,false,()):=by
 have e29:C29 (lx,())=some (lx,()):=by
  show (bif decide (lx.length<=8796093022208)then some (lx,())else none)=_;rw[decide_eq_true (by omega)];rfl
 show F20 C29 _=_;simp only[F20,cond_false,e29,Option.bind_some]
theorem e4c0_off(l:List Rp)(hd rc sd:Bool)(i was:Int)(out:List (Int×List UInt8))(r:Int)(ok:Bool)(fn:Bool)(fl:List UInt8)(fd:List UInt8)(to:List Pa)(ls:List (List UInt8))(h:Bool)(b:Bool)(d:Bool)(ln:Int)(hp:Int)(z:Int)(S:SS) :
 C4_c0 (l,hd,rc,sd,i,was,out,r,ok,false,fn,fl,fd,to,ls,h,b,d,ln,hp,z,S)=some (.inr (l,hd,rc,sd,i,was,r,ok,fn,fl,fd,to,ls,h,b,d,ln,hp,z,S)):=by
 obtain⟨T,A,B,nm,fn2,fl2,fd2,ls2,h2,b2,d2,ln2,hp2,z2,tn,tl,td,st,he,re,ss,cu,ce,cz,k,gn,gl,gd,vn,vl,vd,e8,u8,cs,⟨⟩⟩:=S;rfl
theorem e4c0_on(l:List Rp)(hd sd:Bool)(i was r:Int)(ok:Bool)(fn:Bool)(fl:List UInt8)(fd:List UInt8)(to:List Pa)(ls:List (List UInt8))(h:Bool)(b:Bool)(d:Bool)(ln:Int)(hp:Int)(z:Int)(S:SS)(ys:List (List UInt8))(n0:Int)(hys:linesC ls=some ys)(hs:smL ls<=3000) :
 C4_c0 (l,hd,true,sd,i,was,tag n0 0 (ys++[[46]]),r,ok,true,fn,fl,fd,to,ls,h,b,d,ln,hp,z,S)=some (.inr (l,hd,true,true,i,was,r,ok,fn,fl,fd,to,ls,h,b,d,ln,hp,z,S)):=by
 obtain⟨T,A,B,nm,fn2,fl2,fd2,ls2,h2,b2,d2,ln2,hp2,z2,tn,tl,td,st,he,re,ss,cu,ce,cz,k,gn,gl,gd,vn,vl,vd,e8,u8,cs,⟨⟩⟩:=S;have hsl:=smL_len ls;obtain⟨w,e,hw⟩:=d4_l0 l hd true i was r ok fn fl fd to ls h b d ln hp z T A B nm fn2 fl2 fd2 ls2 h2 b2 d2 ln2 hp2 z2 tn tl td st he re ss cu ce cz k gn gl gd vn vl vd e8 u8 cs ls ys n0 hys hs;rcases w with w|w
 . obtain⟨g,rfl⟩:=hw
   have e17:C17 (5000,1048576,())=some (5000,1048576,0,false,()):=rfl;show F4_c0 C10 C11 C12 C13 C14 C15 C17 C18v1 C19 C20 C7 C8 C9 C4_l0 _=_;simp only[F4_c0,cond_true,Bool.not_true,cond_false,e17,e,e20 5000 1048576 g ls (by omega),e19 ls (by omega),Option.bind_some,elim_inl]
 . exact hw.elim
theorem e13(S:SS):C13 S=some (S.2.2.2.2.2.2.2.2.2.2.2.2.2.2.2.2.2.1,S):=by
 obtain⟨T,A,B,nm,fn2,fl2,fd2,ls2,h2,b2,d2,ln2,hp2,z2,tn,tl,td,st,he,re,ss,cu,ce,cz,k,gn,gl,gd,vn,vl,vd,e8,u8,cs,⟨⟩⟩:=S;rfl
theorem e4c1_off{l:List Rp}{hd rc sd:Bool}{i was:Int}{out:List (Int×List UInt8)}{r:Int}{ok:Bool}{fn:Bool}{fl:List UInt8}{fd:List UInt8}{to:List Pa}{ls:List (List UInt8)}{h:Bool}{b:Bool}{d:Bool}{ln:Int}{hp:Int}{z:Int}{m:MM}{v:VV}(h4:was≠4)(hA:(r==1)=((v.1==6)&&(((was==5)&&(ok&&(rc&&sd)))||((was==6)&&(r==1)))))(hB:(v.1==6)=(r != 0)) :
 C4_c1 (l,hd,rc,sd,i,was,out,r,ok,fn,fl,fd,to,ls,h,b,d,ln,hp,z,full m v)=some (.inr (l,hd,rc,sd,i,fn,fl,fd,to,ls,h,b,d,ln,hp,z,full m v)):=by
 have e0:=e4c0_off l hd rc sd i was out r ok fn fl fd to ls h b d ln hp z (full m v);have e1:=e13 (full m v);obtain⟨st,he,re,ss,cu,ce,cz,k,gn,gl,gd,vn,vl,vd,e8,u8,cs,⟨⟩⟩:=v;simp only[full]at e0 e1 hA hB ⊢;show F4_c1 C10 C11 C12 C13 C14 C15 C17 C18v1 C19 C20 C7 C8 C9 C4_c0 _=_;simp only[F4_c1,ibF h4,cond_false,e0,Option.bind_some,elim_inr,e1];generalize (st==6)=b6 at hA hB ⊢;generalize (was==5)=b5 at hA ⊢;generalize (was==6)=w6 at hA ⊢;generalize (r==1)=r1 at hA ⊢;generalize (r != 0)=r0 at hB ⊢;cases b6<;>cases r0<;>first|(exact absurd hB (by decide))|skip
 all_goals cases r1<;>cases b5<;>cases w6<;>cases ok<;>cases rc<;>cases sd<;>first|rfl|exact absurd hA (by decide)
theorem e4c1_on{l:List Rp}{hd sd:Bool}{i:Int}{n0:Int}{ys:List (List UInt8)}{r:Int}{ok:Bool}{fn:Bool}{fl:List UInt8}{fd:List UInt8}{to:List Pa}{ls:List (List UInt8)}{h:Bool}{b:Bool}{d:Bool}{ln:Int}{hp:Int}{z:Int}{m:MM}{v:VV}(h5:v.1=5)(hr:r=0)(hys:linesC ls=some ys)(hs:smL ls<=3000) :
 C4_c1 (l,hd,true,sd,i,4,tag n0 0 (ys++[[46]]),r,ok,fn,fl,fd,to,ls,h,b,d,ln,hp,z,full m v)=some (.inr (l,hd,true,true,i,fn,fl,fd,to,ls,h,b,d,ln,hp,z,full m v)):=by
 have e0:=e4c0_on l hd sd i 4 r ok fn fl fd to ls h b d ln hp z (full m v) ys n0 hys hs;have e1:=e13 (full m v);obtain⟨st,he,re,ss,cu,ce,cz,k,gn,gl,gd,vn,vl,vd,e8,u8,cs,⟨⟩⟩:=v;dsimp only at h5;subst h5 hr;simp only[full]at e0 e1 ⊢;show F4_c1 C10 C11 C12 C13 C14 C15 C17 C18v1 C19 C20 C7 C8 C9 C4_c0 _=_;simp only[F4_c1,beq_self_eq_true,cond_true,e0,Option.bind_some,elim_inr,e1,show ((5:Int)==6)=false from rfl,cond_false,show ((0:Int)==1)=false from rfl,show ((0:Int) != 0)=false from rfl,Bool.not_true,beq_self_eq_true]
theorem e4c1_at{l:List Rp}{hd rc sd:Bool}{i:Int}{out:List (Int×List UInt8)}{r:Int}{ok:Bool}{fn:Bool}{fl:List UInt8}{fd:List UInt8}{to:List Pa}{ls:List (List UInt8)}{h:Bool}{b:Bool}{d:Bool}{ln:Int}{hp:Int}{z:Int}{m:MM}{v:VV}(h5:v.1≠5)(hA:r≠1)(hB:(v.1==6)=(r != 0)) :
 C4_c1 (l,hd,rc,sd,i,4,out,r,ok,fn,fl,fd,to,ls,h,b,d,ln,hp,z,full m v)=some (.inr (l,hd,rc,sd,i,fn,fl,fd,to,ls,h,b,d,ln,hp,z,full m v)):=by
 have e0:=e4c0_off l hd rc sd i 4 out r ok fn fl fd to ls h b d ln hp z (full m v);have e1:=e13 (full m v);obtain⟨st,he,re,ss,cu,ce,cz,k,gn,gl,gd,vn,vl,vd,e8,u8,cs,⟨⟩⟩:=v;dsimp only at h5;simp only[full]at e0 e1 hB ⊢;show F4_c1 C10 C11 C12 C13 C14 C15 C17 C18v1 C19 C20 C7 C8 C9 C4_c0 _=_;simp only[F4_c1,beq_self_eq_true,cond_true,ibF h5,e0,Option.bind_some,elim_inr,e1,ibF hA,show ((4:Int)==5)=false from rfl,show ((4:Int)==6)=false from rfl,cond_false,Bool.not_true,beq_self_eq_true];generalize (st==6)=b6 at hB ⊢;generalize (r != 0)=r0 at hB ⊢;cases b6<;>cases r0<;>first|rfl|exact absurd hB (by decide)
theorem e4c2{l:List Rp}{hd rc sd:Bool}{i was:Int}{out:List (Int×List UInt8)}{r:Int}{ok:Bool}{fn:Bool}{fl:List UInt8}{fd:List UInt8}{to:List Pa}{ls:List (List UInt8)}{h:Bool}{b:Bool}{d:Bool}{ln:Int}{hp:Int}{z:Int}{S:SS}{R}(hh:C4_c1 (l,hd,(bif was==3 then ok else rc),sd,i,was,out,r,ok,fn,fl,fd,to,ls,h,b,d,ln,hp,z,S)=some (.inr R)) :
 C4_c2 (l,hd,rc,sd,i,was,out,r,ok,fn,fl,fd,to,ls,h,b,d,ln,hp,z,S)=some (.inr R):=by
 obtain⟨T,A,B,nm,fn2,fl2,fd2,ls2,h2,b2,d2,ln2,hp2,z2,tn,tl,td,st,he,re,ss,cu,ce,cz,k,gn,gl,gd,vn,vl,vd,e8,u8,cs,⟨⟩⟩:=S;show F4_c2 C10 C11 C12 C13 C14 C15 C17 C18v1 C19 C20 C7 C8 C9 C4_c1 _=_;cases hw:was==3 with
 | true =>
  simp only[hw,cond_true]at hh;simp only[F4_c2,hw,cond_true,hh,Option.bind_some,elim_inr]
 | false =>
  simp only[hw,cond_false]at hh;simp only[F4_c2,hw,cond_false,hh,Option.bind_some,elim_inr]
theorem e4l1(l:List Rp)(hd rc sd:Bool)(i:Int)(fn:Bool)(fl:List UInt8)(fd:List UInt8)(to:List Pa)(ls:List (List UInt8))(h:Bool)(b:Bool)(d:Bool)(ln:Int)(hp:Int)(z:Int)(S:SS):F4_l1 C10 C11 C12 C13 C14 C15 C17 C18v1 C19 C20 C7 C8 C9 C4_c2 (l,hd,rc,sd,i,fn,fl,fd,to,ls,h,b,d,ln,hp,z,S) =
 bif decide (i<((l.length:Nat):Int))then
  (C13 S).bind λval =>
   bif decide (0<=i)&&decide (i<((l.length:Nat):Int))then
    (C14 ((l.getD i.toNat (0,[])).1,(l.getD i.toNat (0,[])).2,val.2)).bind λval_1 =>
     (C15 val_1.2).bind λval_2 =>
      bif decide (0<=i)&&decide (i<((l.length:Nat):Int))then
       bif decide ((l.getD i.toNat (0,[])).1>=200)then
        bif decide (0<=i)&&decide (i<((l.length:Nat):Int))then
         (C4_c2 (l,hd,rc,sd,i,val.1,val_1.1,val_2.1,decide ((l.getD i.toNat (0,[])).1<300),fn,fl,fd,to,ls,h,b,d,ln,hp,z,val_2.2.2)).bind λval =>
          Sum.elim (λval=>some (Sum.inr (Sum.inr (val.1,()))))
           (λval=>some (Sum.inl (val.1,val.2.1,val.2.2.1,val.2.2.2.1,IntKind.i64.wrap (val.2.2.2.2.1+1),val.2.2.2.2.2))) val
        else none
       else
        (C4_c2 (l,hd,rc,sd,i,val.1,val_1.1,val_2.1,false,fn,fl,fd,to,ls,h,b,d,ln,hp,z,val_2.2.2)).bind λval =>
         Sum.elim (λval=>some (Sum.inr (Sum.inr (val.1,()))))
          (λval=>some (Sum.inl (val.1,val.2.1,val.2.2.1,val.2.2.2.1,IntKind.i64.wrap (val.2.2.2.2.1+1),val.2.2.2.2.2))) val
      else none
   else none
 else some (Sum.inr (Sum.inl (hd,()))):=by
 obtain⟨T,A,B,nm,fn2,fl2,fd2,ls2,h2,b2,d2,ln2,hp2,z2,tn,tl,td,st,he,re,ss,cu,ce,cz,k,gn,gl,gd,vn,vl,vd,e8,u8,cs,⟨⟩⟩:=S;rfl
theorem inD{α:Type}{n:Int}(h:n=5){x y:α}:(bif n==3 then x else y)=y:=by subst h;rfl
theorem iff_b{p q:Bool}(h:p=true↔q=true):p=q:=by cases p<;>cases q<;>simp at h<;>rfl
set_option maxHeartbeats 4000000 in
theorem e4rnd{m:MM}{c:Int}{v v':VV}{out:List (Int×List UInt8)}(hR:Rpl m c v out v')(hv:Inv m v)(hv':Inv m v')(hs:smL m.ls<=3000){ok rc sd:Bool}(hok:ok=true↔200<=c/\c<300)(h4:v.1=4\/v.1=5->rc=true)(h5:v.1=5->sd=true)(l:List Rp)(hd:Bool)(i:Int)(to:List Pa) :
 ∃rc' sd',C4_c2 (l,hd,rc,sd,i,v.1,out,v'.2.2.1,ok,m.fn,m.fl,m.fd,to,m.ls,m.h,m.b,m.d,m.ln,m.hp,m.z,full m v')=some (.inr (l,hd,rc',sd',i,m.fn,m.fl,m.fd,to,m.ls,m.h,m.b,m.d,m.ln,m.hp,m.z,full m v')) /\
  (v'.1=4\/v'.1=5->rc'=true)/\(v'.1=5->sd'=true):=by
 have hB:(v'.1==6)=(v'.2.2.1 != 0):=by
  by_cases h:v'.1=6
  . rw[ibT h,inT (hv'.2.2.1 h)]
  . rw[ibF h,inF (hv'.2.1 h).1]
 by_cases hw4:v.1=4
 . have hrc:=h4 (.inl hw4)
   subst hrc;rw[hw4];by_cases hw5:v'.1=5
   . refine⟨true,true,?_,λ_=>rfl,λ_=>rfl⟩
     cases hR
     case msg hm => 
      obtain⟨n,ys,e45,hys,rfl⟩:=hm;exact e4c2 (e4c1_on rfl (hv'.2.1 (by simp)).1 hys hs)
     all_goals (exfalso;revert hw5 hw4;simp)
     all_goals (intro h h';rw[h]at h';revert h';decide)
   . refine⟨true,sd,e4c2 (e4c1_at hw5 ?_ hB),λ_=>rfl,λh=>(hw5 h).elim⟩
     intro h1;cases hR
     case deaf=>have:=(hv'.2.1 (by rw[hw4];decide)).1;rw[h1]at this;revert this;decide
     all_goals first|(exfalso;revert hw4;simp;done)|skip
     all_goals first|(exact absurd rfl hw5)|(simp at h1;done)|exact absurd h1 ‹_›
 . refine⟨bif v.1==3 then ok else rc,sd,e4c2 (e4c1_off hw4 ?_ hB),?_,?_⟩
   . refine iff_b ?_
     simp only[beq_iff_eq,Bool.and_eq_true,Bool.or_eq_true];cases hR
     case over=>simp
     case deaf =>
      by_cases h6:v.1=6
      . simp[h6]
      . have:=(hv.2.1 h6).1
        simp[this,h6]
     case msg=>exact absurd rfl hw4
     case later=>exact absurd rfl hw4
     case fail k s h6 hc k1 k0 =>
      have hok':ok=false:=by
       cases ok with
       | false=>rfl
       | true=>exact absurd (hok.1 rfl).2 (by omega)
      simp[k1,h6,hok']
     case bad=>simp
     case done h1 h2 =>
      have o:ok=true:=hok.2 ⟨h1,h2⟩;simp[o,h4 (.inr rfl),h5 rfl]
     all_goals (have h0:=(hv.2.1 (by simp)).1;simp at h0;simp[h0])
   . intro hq
     cases hR
     case over=>simp at hq
     case deaf =>
      rcases hq with hq|hq
      . exact absurd hq hw4
      . rw[inD hq];exact h4 (.inr hq)
     case data h1 h2=>exact hok.2 ⟨h1,h2⟩
     case msg=>exact absurd rfl hw4
     all_goals simp at hq
   . intro hq
     cases hR
     case deaf=>exact h5 hq
     case msg=>exact absurd rfl hw4
     all_goals simp at hq
theorem e4_loop{m:MM}(hm:Mok m)(hs:smL m.ls<=3000)(to:List Pa)(l:List Rp)(hl:l.length<=30)(hr:∀r∈l,Sh r)(hd:Bool)(v:VV)(hv:Inv m v)(h0:v.1=0) :
 Df (C4_l1 (l,hd,false,false,0,m.fn,m.fl,m.fd,to,m.ls,m.h,m.b,m.d,m.ln,m.hp,m.z,full m v)) (Sum.elim (λy=>y=(hd,())) (λ_=>False)):=by
 refine dL ?I ?m ?h _ ?hv ?hn
 case I=>exact(λw=>∃(i:Nat) (rc sd:Bool) (v:VV),i<=l.length/\w=(l,hd,rc,sd,(i:Int),m.fn,m.fl,m.fd,to,m.ls,m.h,m.b,m.d,m.ln,m.hp,m.z,full m v)/\Inv m v/\(v.1=4\/v.1=5->rc=true)/\(v.1=5->sd=true))
 case m=>exact(λw=>l.length-w.2.2.2.2.1.toNat)
 case hv=>exact⟨0,false,false,v,zero_le _,rfl,hv,λh=>by rcases h with h|h<;>(rw[h0]at h;cases h),λh=>by rw[h0]at h;cases h⟩
 case hn=>exact(by(try dsimp only);omega)
 rintro _ ⟨i,rc,sd,v,hi,rfl,hv,h4,h5⟩;rw[e4l1,s13];by_cases hlt:i<l.length
 . have hg:l.getD i (0,[])=l[i]:=getD_lt hlt
   have hsh:=hr _ (getElem_mem hlt);obtain⟨out,v',e14,hR,hv'⟩:=take_ok hm l[i].1 l[i].2 (by have:=hsh.1;omega) (λx hx=>by have:=hsh.2 x hx;omega) v hv;rw[decide_eq_true (show (i:Int)<(l.length:Int) by omega),decide_eq_true (show (0:Int)<=(i:Int) by omega)];simp only[cond_true,Bool.and_self,toNat_natCast,hg,Option.bind_some,e14,s15];by_cases hc:l[i].1>=200
   . rw[decide_eq_true hc]
     obtain⟨rc',sd',e,g4,g5⟩:=e4rnd hR hv hv' hs (ok:=decide (l[i].1<300)) (by rw[decide_eq_true_eq];omega) h4 h5 l hd i to;simp only[cond_true,e,Option.bind_some,elim_inr];rw[wrN i (by omega)];exact dP ⟨⟨i+1,rc',sd',v',by omega,rfl,hv',g4,g5⟩,by(try dsimp only);omega⟩
   . rw[decide_eq_false hc]
     obtain⟨rc',sd',e,g4,g5⟩:=e4rnd hR hv hv' hs (ok:=false) ⟨λh=>(by cases h),λh=>absurd h.1 hc⟩ h4 h5 l hd i to;simp only[cond_false,e,Option.bind_some,elim_inr];rw[wrN i (by omega)];exact dP ⟨⟨i+1,rc',sd',v',by omega,rfl,hv',g4,g5⟩,by(try dsimp only);omega⟩
 . have:i=l.length:=by omega
   subst this;rw[decide_eq_false (by omega),cond_false];exact dP rfl
theorem e4c3(l:List Rp)(hd:Bool)(fn:Bool)(fl:List UInt8)(fd:List UInt8)(to:List Pa)(ls:List (List UInt8))(h:Bool)(b:Bool)(d:Bool)(ln:Int)(hp:Int)(z:Int)(S:SS)(hdf:Df (C4_l1 (l,hd,false,false,0,fn,fl,fd,to,ls,h,b,d,ln,hp,z,S)) (Sum.elim (λy=>y=(hd,())) (λ_=>False))):C4_c3 (l,hd,fn,fl,fd,to,ls,h,b,d,ln,hp,z,S)=some (hd,()):=by
 obtain⟨w,e,hw⟩:=hdf;have hf:C4_c3 (l,hd,fn,fl,fd,to,ls,h,b,d,ln,hp,z,S)=F4_c3 C10 C11 C12 C13 C14 C15 C17 C18v1 C19 C20 C7 C8 C9 C4_l1 (l,hd,fn,fl,fd,to,ls,h,b,d,ln,hp,z,S):=rfl;rw[hf];obtain⟨T,A,B,nm,fn2,fl2,fd2,ls2,h2,b2,d2,ln2,hp2,z2,tn,tl,td,st,he,re,ss,cu,ce,cz,k,gn,gl,gd,vn,vl,vd,e8,u8,cs,⟨⟩⟩:=S;simp only[F4_c3,e,Option.bind_some];rcases w with w|w
 . have hw':w=(hd,()):=hw
   subst hw';rfl
 . exact hw.elim
theorem c4law(fn:Bool)(fl fd:List UInt8)(to:List Pa)(ls:List (List UInt8))(h b d:Bool)(ln hp z:Int)(tn:Bool)(tl td:List UInt8)(l:List Rp)(hs:smL ls<=2000000)(hl:l.length<=100000000)(hk:∀r∈l,r.2.length<=100000000) :
 C4 (fn,fl,fd,to,ls,h,b,d,ln,hp,z,tn,tl,td,l,())=some (true,()):=by
 obtain⟨⟨f1,u1⟩,e8,h8⟩:=c8k fn fl fd to ls h b d ln hp z (by omega);obtain⟨⟨f2,u2⟩,e9,h9⟩:=c9k l hl hk;obtain⟨⟨f3,u3⟩,e10,h10⟩:=c10 tl td;obtain⟨T,A,B,e12,hT⟩:=tkk;have hsl:=smL_len ls;have e29:C29 (ls,())=some (ls,()):=by
  show (bif decide (ls.length<=8796093022208)then some (ls,())else none)=_;rw[decide_eq_true (by omega)];rfl
 have e11:C11 (T,A,B,[120],fn,fl,fd,to,ls,h,b,d,ln,hp,z,tn,tl,td,())=some (full ⟨T,A,B,[120],fn,fl,fd,ls,h,b,d,ln,hp,z,tn,tl,td⟩ (0,false,0,0,false,false,0,0,false,[],[],false,[],[],false,false,0,())):=by
  show F11 C29 _=_;simp only[F11,e29,Option.bind_some];rfl
 have e7:C7 ()=some (true,()):=rfl;show F4 C10 C11 C12 C13 C14 C15 C17 C18v1 C19 C20 C7 C8 C9 C4_c3 _=_;simp only[F4,e7,e8,e9,e10,e12,e11,Option.bind_some];dsimp only at h8 h9 h10;cases f1 with
 | false=>rfl
 | true =>
  cases f2 with
  | false=>rfl
  | true =>
   cases f3 with
   | false=>rfl
   | true =>
    obtain⟨⟨b1,b2⟩,b3⟩:=h8 rfl;obtain⟨b4,b5⟩:=h9 rfl;obtain⟨b6,b7⟩:=h10 rfl;have hm:Mok ⟨T,A,B,[120],fn,fl,fd,ls,h,b,d,ln,hp,z,tn,tl,td⟩:=⟨hT,by simp,by(try dsimp only);omega,by(try dsimp only);omega,by(try dsimp only);omega,by(try dsimp only);omega,by(try dsimp only);omega,λx hx=>by have:=smL_mem hx;dsimp only at this;omega⟩
    simp only[Bool.not_true,cond_false];rw[e4c3 l true fn fl fd to ls h b d ln hp z _ (e4_loop hm b3 to l b4 b5 true (0,false,0,0,false,false,0,0,false,[],[],false,[],[],false,false,0,()) ⟨⟨Int.le_refl _,by decide⟩,λ_=>⟨rfl,rfl⟩,λh=>absurd h (by simp),λh=>absurd h (by simp)⟩ rfl)];rfl
end Go.Proofs.YtgkmfhhghcccjaaGreatDoorA.W
namespace Go.Proofs.YtgkmfhhghcccjaaGreatDoorA.PClientSent
open Go Go.Ae Go.Proofs.YtgkmfhhghcccjaaGreatDoorA.W
theorem pure(x0:(Ty.pair (.pair .bool (.pair .str .str)) (.pair (.lst (.pair .bool (.pair .str .str))) (.pair (.lst .str) (.pair (.pair .bool (.pair .bool (.pair .bool (.pair (.int .i64) (.int .i64))))) (.int .i64))))).den)(b0:Bd (Ty.pair (.pair .bool (.pair .str .str)) (.pair (.lst (.pair .bool (.pair .str .str))) (.pair (.lst .str) (.pair (.pair .bool (.pair .bool (.pair .bool (.pair (.int .i64) (.int .i64))))) (.int .i64))))) x0)(u0:Blk (Ty.pair (.pair .bool (.pair .str .str)) (.pair (.lst (.pair .bool (.pair .str .str))) (.pair (.lst .str) (.pair (.pair .bool (.pair .bool (.pair .bool (.pair (.int .i64) (.int .i64))))) (.int .i64))))) x0<=1048576)(x1:(Ty.pair .bool (.pair .str .str)).den)(b1:Bd (Ty.pair .bool (.pair .str .str)) x1)(u1:Blk (Ty.pair .bool (.pair .str .str)) x1<=1048576)(x2:(Ty.lst (.pair (.int .i64) (.lst .str))).den)(b2:Bd (Ty.lst (.pair (.int .i64) (.lst .str))) x2)(u2:Blk (Ty.lst (.pair (.int .i64) (.lst .str))) x2<=1048576):C4 (x0.1.1,x0.1.2.1,x0.1.2.2,x0.2.1,x0.2.2.1,x0.2.2.2.1.1,x0.2.2.2.1.2.1,x0.2.2.2.1.2.2.1,x0.2.2.2.1.2.2.2.1,x0.2.2.2.1.2.2.2.2,x0.2.2.2.2,x1.1,x1.2.1,x1.2.2,x2,())=some (true,()) :=
 c4law _ _ _ _ _ _ _ _ _ _ _ _ _ _ x2 (blk_mail x0 u0) (blk_rp x2 u2).1 (blk_rp x2 u2).2
end Go.Proofs.YtgkmfhhghcccjaaGreatDoorA.PClientSent
namespace Go.Proofs.YtgkmfhhghcccjaaGreatDoor
open Go Go.Ae Go.RowKit Go.ChangeShapes
theorem cells_of_strs{H:Type}{enc:TypeId×Value->H}{P:Program}{w:World}{base:Nat}{sp:Nat->Bool}{held:Bool}{fuel:Nat}{t e:TypeId}{n:Nat}{cs:List Value}{zs:List (List UInt8)}{p:List MemPlace}(ht:P.underlying t=some (.array n e))(he:P.underlying e=some .string)(hce:P.cellsOf e=1)(hct:P.cellsOf t=n)(h:DataW.trod enc P w base sp held fuel t cs=some (.agg (zs.map λz => .lit (.string z)),p)):cs=zs.map λz=>Value.string ⟨⟨z⟩⟩:=by
 cases fuel with
 | zero=>simp[DataW.trod]at h
 | succ fuel =>
  simp only[DataW.trod,ht,hce,hct,Nat.mul_one]at h;split at h
  . rename_i hl
    obtain⟨xs,hm,hx⟩:=Option.map_eq_some_iff.1 h;have hxs:xs.map (·.1)=zs.map λz=>(DataW.lit (.string z):DataW H):=by
     have:=congrArg Prod.fst hx;simpa using this
    have hxl:xs.length=n:=by simpa using Lib.mapM_length hm
    have hzl:zs.length=n:=by
     have:=congrArg List.length hxs;simp at this;omega
    apply List.ext_getElem?;intro i;by_cases hi:i<n
    . obtain⟨b,hb,hf⟩:=Lib.mapM_at hm i i (by simp[hi])
      obtain⟨z,hc,rfl,_⟩:=DataW.trod_string he hf;have h1:cs[i]? = some (.string z):=by
       have:=congrArg (·[0]?) hc;simpa[List.getElem?_take,List.getElem?_drop]using this
      have h2:(xs.map (·.1))[i]? = some (DataW.lit (.string z.data.toList):DataW H):=by simp[hb]
      rw[hxs]at h2;simp only[List.getElem?_map,Option.map_eq_some_iff,DataW.lit.injEq,Lit.string.injEq]at h2;obtain⟨z',hz',rfl⟩:=h2;simp[h1,hz']
    . rw[List.getElem?_eq_none (by omega),List.getElem?_eq_none (by simp;omega)]
  . cases h
theorem strs_of_head{P:Program}{W:World}{name:String}{zs:List (List UInt8)}{rest:List (String×DataW Unit)}{g:Nat}{t e:TypeId}{n:Nat}(hg:P.globalNamed name=some g)(hty:(P.globals[g]?).map (·.type)=some t)(ht:P.underlying t=some (.array n e))(he:P.underlying e=some .string)(hce:P.cellsOf e=1)(hct:P.cellsOf t=n)(h:laidMet P ((name,.agg (zs.map λz => .lit (.string z)))::rest) W):W.var? P name=some (zs.map λz=>Value.string ⟨⟨z⟩⟩).toArray:=by
 obtain⟨ps,⟨g',t',cs,fuel,p,q,hg',ht',hvar,hd,_,_⟩,_⟩:=h;obtain rfl:=Option.some.inj (hg.symm.trans hg');obtain rfl:=Option.some.inj (hty.symm.trans ht');rw[hvar,<-cells_of_strs ht he hce hct hd]
theorem glob{W:World}(hL:laidMetH prog Rows.clientEndsUptoRow.laid W)(hsh:W.ShapedOpen prog):GI W m0:=by
 rw[MakeChecks.laidMetH_plain _ _ _ (by kernel_rfl)]at hL;obtain⟨m,hm⟩:=Go.Proofs.cell_of_shapedOpen_int (g:=1) (k := .i64) (t:=3) (zero := #[.int .i64 0]) hsh (of_decide_eq_true (by kernel_rfl)) (by kernel_rfl) (by kernel_rfl) (by kernel_rfl) (by kernel_rfl) (by kernel_rfl);have g1:prog.globalNamed "internal/strconv.uint64pow10" = some 6:=by kernel_rfl
 have g0:prog.globalNamed "pillarbox/command.words" = some 0:=by kernel_rfl
 have h1:Lib.TabIs prog W "internal/strconv.uint64pow10" .u64 tens:=Lib.tabIs_of_head (zs:=tens) (t:=311) (e:=183) (n:=20) g1 (by kernel_rfl) (by kernel_rfl) (by kernel_rfl) (by kernel_rfl) (by kernel_rfl) hL.tail.tail;have h0:W.var? prog "pillarbox/command.words" = some (wordsL.map λz=>Value.string ⟨⟨z⟩⟩).toArray:=strs_of_head (zs:=wordsL) (t:=144) (e:=9) (n:=8) g0 (by kernel_rfl) (by kernel_rfl) (by kernel_rfl) (by kernel_rfl) (by kernel_rfl) hL.tail.tail.tail.tail.tail.tail;have g5:prog.globalNamed "strconv.ErrRange" = some 5:=by kernel_rfl
 have g4:prog.globalNamed "strconv.ErrSyntax" = some 4:=by kernel_rfl
 obtain⟨t5,p5,h5⟩:=laid_iface (ti:=185) (ms := #[("Error",125)]) hL.tail.tail.tail.tail g5 (by kernel_rfl) (by kernel_rfl);obtain⟨t4,p4,h4⟩:=laid_iface (ti:=185) (ms := #[("Error",125)]) hL.tail.tail.tail.tail.tail g4 (by kernel_rfl) (by kernel_rfl);obtain⟨ty1,fz1,k1⟩:=var_heap g1 h1;obtain⟨ty0,fz0,k0⟩:=var_heap g0 h0;obtain⟨ty5,fz5,k5⟩:=var_heap g5 h5;obtain⟨ty4,fz4,k4⟩:=var_heap g4 h4;refine⟨⟨⟨m,hm⟩,⟨ty1,fz1,k1⟩,⟨ty0,fz0,k0⟩,⟨t4,p4,cell_of_heap0 k4⟩,⟨t5,p5,cell_of_heap0 k5⟩⟩,λb hb=>⟨?_,λh=>h⟩⟩;simp only[GlobB,mem_cons,List.not_mem_nil,or_false]at hb;rcases hb with rfl|rfl|rfl|rfl|rfl
 . exact lt_of_heap k0
 . exact lt_of_cell hm
 . exact lt_of_heap k4
 . exact lt_of_heap k5
 . exact lt_of_heap k1
end Go.Proofs.YtgkmfhhghcccjaaGreatDoor
