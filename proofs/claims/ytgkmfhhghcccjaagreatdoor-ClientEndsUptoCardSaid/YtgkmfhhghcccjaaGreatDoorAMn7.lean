/- The texts of the proof, one behind the other: PClientEnds, PGlob. -/
import Derived.Test.YtgkmfhhghcccjaaGreatDoorAMn6
import Derived.Test.YtgkmfhhghcccjaaGreatDoorRows
import Derived.Test.YtgkmfhhghcccjaaGreatDoorProg
import Derived.Test.YtgkmfhhghcccjaaGreatDoorAMn2
import Derived.MakeChecks
set_option linter.unusedVariables false
set_option linter.unusedSimpArgs false
set_option maxRecDepth 100000
namespace Go.Proofs.YtgkmfhhghcccjaaGreatDoorA.W
open Go Go.Ae
theorem s13 (m:MM) (v:VV):C13 (full m v)=some (v.1,full m v):=by
 obtain ⟨st,he,re,ss,cu,ce,cz,k,gn,gl,gd,vn,vl,vd,e8,u8,cs,⟨⟩⟩:=v;rfl
theorem s15 (m:MM) (v:VV):C15 (full m v)=some (v.2.2.1,v.2.2.2.1,full m v):=by
 obtain ⟨st,he,re,ss,cu,ce,cz,k,gn,gl,gd,vn,vl,vd,e8,u8,cs,⟨⟩⟩:=v;rfl
theorem s16 (m:MM) (v:VV):C16 (full m v)=some (full m (bif v.1 != 6 then (6,v.2.1,2,v.2.2.2.1,v.2.2.2.2) else v)):=by
 obtain ⟨st,he,re,ss,cu,ce,cz,k,gn,gl,gd,vn,vl,vd,e8,u8,cs,⟨⟩⟩:=v;show F16 _=_;by_cases h:st=6
 · simp only [F16,full,inF h,cond_false]
 · simp only [F16,full,inT h,cond_true]
theorem take_over (m:MM) (c:Int) (rs:List (List UInt8)) (v:VV) (h:v.1=6):C14 (c,rs,full m v)=some ([],full m v):=by
 obtain ⟨y,e34,-⟩:=c34x c;exact take_inl e34 fun b hb=>by rw [hb.2 (.inl h)];rfl
theorem e3c0 (l:List Rp) (hd:Bool) (q i:Int) (out:List (Int×List UInt8)) (fl:Bool) (mc:Int) (ml:List (List UInt8)) (S:SS):C3_c0 (l,hd,q,i,out,fl,mc,ml,S) =
 bif fl then
  bif ((out.length:Nat):Int) != 1 then some (Sum.inl (false,()))
  else
   bif decide (0<((out.length:Nat):Int)) then
    bif !(out.getD 0 (0,[])).2==[81,85,73,84] then some (Sum.inl (false,()))
    else some (Sum.inr (l,hd,IntKind.i64.wrap (q+1),i,mc,ml,S))
   else none
 else some (Sum.inr (l,hd,q,i,mc,ml,S)):=by
 obtain ⟨T,A,B,nm,fn,f2,fd,ls,h,b,d,ln,hp,z,tn,tl,td,st,he,re,ss,cu,ce,cz,k,gn,gl,gd,vn,vl,vd,e8,u8,cs,⟨⟩⟩:=S;rfl
theorem e3l0 (l:List Rp) (hd:Bool) (q i mc:Int) (ml:List (List UInt8)) (S:SS):F3_l0 C10 C11 C12 C13 C14 C15 C16 C7 C8 C9 C3_c0 (l,hd,q,i,mc,ml,S) =
 bif decide (i<((l.length:Nat):Int)) then
  (C13 S).bind fun val =>
   bif decide (0≤i)&&decide (i<((l.length:Nat):Int)) then
    (C14 ((l.getD i.toNat (0,[])).1,(l.getD i.toNat (0,[])).2,val.2)).bind fun val_1 =>
     bif val.1==6 then
      bif decide (((val_1.1.length:Nat):Int)>0) then some (Sum.inr (Sum.inr (false,())))
      else
       bif !val.1==6 then
        (C13 val_1.2).bind fun val =>
         (C3_c0 (l,hd,q,i,val_1.1,val.1==6,mc,ml,val.2)).bind fun val =>
          Sum.elim (fun val=>some (Sum.inr (Sum.inr (val.1,()))))
           (fun val=>some (Sum.inl (val.1,val.2.1,val.2.2.1,IntKind.i64.wrap (val.2.2.2.1+1),val.2.2.2.2))) val
       else
        (C3_c0 (l,hd,q,i,val_1.1,false,mc,ml,val_1.2)).bind fun val =>
         Sum.elim (fun val=>some (Sum.inr (Sum.inr (val.1,()))))
          (fun val=>some (Sum.inl (val.1,val.2.1,val.2.2.1,IntKind.i64.wrap (val.2.2.2.1+1),val.2.2.2.2))) val
     else
      bif !val.1==6 then
       (C13 val_1.2).bind fun val =>
        (C3_c0 (l,hd,q,i,val_1.1,val.1==6,mc,ml,val.2)).bind fun val =>
         Sum.elim (fun val=>some (Sum.inr (Sum.inr (val.1,()))))
          (fun val=>some (Sum.inl (val.1,val.2.1,val.2.2.1,IntKind.i64.wrap (val.2.2.2.1+1),val.2.2.2.2))) val
      else
       (C3_c0 (l,hd,q,i,val_1.1,false,mc,ml,val_1.2)).bind fun val =>
        Sum.elim (fun val=>some (Sum.inr (Sum.inr (val.1,()))))
         (fun val=>some (Sum.inl (val.1,val.2.1,val.2.2.1,IntKind.i64.wrap (val.2.2.2.1+1),val.2.2.2.2))) val
   else none
 else some (Sum.inr (Sum.inl (hd,q,mc,ml,S))):=by
 obtain ⟨T,A,B,nm,fn,f2,fd,ls,h,b,d,ln,hp,z,tn,tl,td,st,he,re,ss,cu,ce,cz,k,gn,gl,gd,vn,vl,vd,e8,u8,cs,⟨⟩⟩:=S;rfl
theorem rpl_end {m:MM} {c:Int} {v v':VV} {out:List (Int×List UInt8)} (h:Rpl m c v out v'):(v.1=6→out=[]∧v'=v)∧(v.1≠6→v'.1=6→out=[(1,[81,85,73,84])]):=by
 cases h
 case over=>exact ⟨fun _=>⟨rfl,rfl⟩,fun h=>(h rfl).elim⟩
 case deaf=>exact ⟨fun _=>⟨rfl,rfl⟩,fun h h'=>(h h').elim⟩
 all_goals refine ⟨fun h => ?_,fun h h' => ?_⟩
 all_goals first|rfl|(exfalso;revert h;simp;done)|(exfalso;revert h';simp;done)|(exfalso;exact absurd h ‹_›)
def En3 (m:MM) (mc:Int) (ml:List (List UInt8)) (y:Bool×Int×Int×List (List UInt8)×SS):Prop :=
 ∃v q,y=(true,q,mc,ml,full m v)∧Inv m v∧((v.1=6∧q=1)∨(v.1≠6∧q=0))
theorem e3_loop {m:MM} (hm:Mok m) (l:List Rp) (hl:l.length≤30) (hr:∀r∈l,Sh r) (mc:Int) (ml:List (List UInt8)) (v:VV) (hv:Inv m v) (hv6:v.1≠6) :
 Df (C3_l0 (l,true,0,0,mc,ml,full m v)) (Sum.elim (En3 m mc ml) (fun _=>False)):=by
 refine dL ?I ?m ?h _ ?hv ?hn
 case I=>exact (fun w=>∃(i:Nat) (q:Int) (v:VV),i≤l.length∧w=(l,true,q,(i:Int),mc,ml,full m v)∧Inv m v∧((v.1=6∧q=1)∨(v.1≠6∧q=0)))
 case m=>exact (fun w=>l.length-w.2.2.2.1.toNat)
 case hv=>exact ⟨0,0,v,Nat.zero_le _,rfl,hv,.inr ⟨hv6,rfl⟩⟩
 case hn=>exact (by (try dsimp only);omega)
 rintro _ ⟨i,q,v,hi,rfl,hv,hq⟩;rw [e3l0,s13];by_cases hlt:i<l.length
 · have hg:l.getD i (0,[])=l[i]:=getD_lt hlt
   have hsh:=hr _ (List.getElem_mem hlt);obtain ⟨out,v',e14,hR,hv'⟩:=take_ok hm l[i].1 l[i].2 (by have:=hsh.1;omega) (fun x hx=>by have:=hsh.2 x hx;omega) v hv;obtain ⟨r1,r2⟩:=rpl_end hR;rw [decide_eq_true (show (i:Int)<(l.length:Int) by omega),decide_eq_true (show (0:Int)≤(i:Int) by omega)];simp only [cond_true,Bool.and_self,Int.toNat_natCast,hg,Option.bind_some,e14,s13,e3c0];by_cases h6:v.1=6
   · obtain ⟨rfl,rfl⟩:=r1 h6
     rw [ibT h6];simp only [cond_true,List.length_nil,Bool.not_true,cond_false,Option.bind_some,Sum.elim_inr];rw [show decide (((0:Nat):Int)>0)=false from rfl,cond_false,wrN i (by omega)];exact dP ⟨⟨i+1,q,v',by omega,rfl,hv',hq⟩,by (try dsimp only);omega⟩
   · have hq0:q=0:=by rcases hq with h|h;exact (h6 h.1).elim;exact h.2
     subst hq0;rw [ibF h6];simp only [cond_false,Bool.not_false,cond_true];by_cases h6':v'.1=6
     · have ho:=r2 h6 h6'
       subst ho;rw [ibT h6'];simp only [cond_true];refine dZ (P:=Sum.elim (fun _=>False) (fun y=>y=(l,true,1,(i:Int),mc,ml,full m v'))) (dP rfl) ?_;rintro (y|y) hy
       · exact hy.elim
       · have hy':y=(l,true,1,(i:Int),mc,ml,full m v'):=hy
         subst hy';dsimp only [Sum.elim_inr];rw [wrN i (by omega)];exact dP ⟨⟨i+1,1,v',by omega,rfl,hv',.inl ⟨h6',rfl⟩⟩,by (try dsimp only);omega⟩
     · rw [ibF h6']
       simp only [cond_false,Option.bind_some,Sum.elim_inr];rw [wrN i (by omega)];exact dP ⟨⟨i+1,0,v',by omega,rfl,hv',.inr ⟨h6',rfl⟩⟩,by (try dsimp only);omega⟩
 · have:i=l.length:=by omega
   subst this;rw [decide_eq_false (by omega),cond_false];exact dP ⟨v,q,rfl,hv,hq⟩
theorem e3c1 (l:List Rp) (mc:Int) (ml:List (List UInt8)) (S:SS) {m:MM} (h:Df (C3_l0 (l,true,0,0,mc,ml,S)) (Sum.elim (En3 m mc ml) (fun _=>False))):C3_c1 (l,true,mc,ml,S)=some (true,()):=by
 obtain ⟨w,e,hw⟩:=h;have hf:C3_c1 (l,true,mc,ml,S)=F3_c1 C10 C11 C12 C13 C14 C15 C16 C7 C8 C9 C3_l0 (l,true,mc,ml,S):=rfl;rw [hf];obtain ⟨T,A,B,nm,fn,f2,fd,ls,h,b,d,ln,hp,z,tn,tl,td,st,he,re,ss,cu,ce,cz,k,gn,gl,gd,vn,vl,vd,e8,u8,cs,⟨⟩⟩:=S;simp only [F3_c1,e,Option.bind_some];rcases w with w|w
 · obtain ⟨v,q,rfl,hv,hq⟩:=hw
   have o1:∀(o:List (Int×List UInt8)) (S:SS),o=[]→True:=fun _ _ _=>trivial;simp only [Sum.elim_inl,s15,s16,Option.bind_some];rcases hq with ⟨h6,rfl⟩|⟨h6,rfl⟩
   · have hx:=hv.2.2.1 h6
     rw [inF h6];simp only [cond_false,take_over m mc ml v h6,Option.bind_some,s13,h6];rw [inF rfl,inF rfl];rfl
   · obtain ⟨h1,h2⟩:=hv.2.1 h6
     rw [inT h6];have ht:=take_over m mc ml (6,v.2.1,2,v.2.2.2.1,v.2.2.2.2) rfl;simp only [cond_true,h2] at ht ⊢;simp only [ht,Option.bind_some,s13];rfl
 · exact hw.elim
theorem c3law (fn:Bool) (fl fd:List UInt8) (to:List Pa) (ls:List (List UInt8)) (h b d:Bool) (ln hp z:Int) (tn:Bool) (tl td:List UInt8) (l:List Rp) (mc:Int) (ml:List (List UInt8))
 (hs:smL ls≤2000000) (hl:l.length≤100000000) (hk:∀r∈l,r.2.length≤100000000) :
 C3 (fn,fl,fd,to,ls,h,b,d,ln,hp,z,tn,tl,td,l,mc,ml,())=some (true,()):=by
 obtain ⟨⟨f1,u1⟩,e8,h8⟩:=c8k fn fl fd to ls h b d ln hp z (by omega);obtain ⟨⟨f2,u2⟩,e9,h9⟩:=c9k l hl hk;obtain ⟨⟨f3,u3⟩,e10,h10⟩:=c10 tl td;obtain ⟨T,A,B,e12,hT⟩:=tkk;have hsl:=smL_len ls;have e29:C29 (ls,())=some (ls,()):=by
  show (bif decide (ls.length≤8796093022208) then some (ls,()) else none)=_;rw [decide_eq_true (by omega)];rfl
 have e11:C11 (T,A,B,[120],fn,fl,fd,to,ls,h,b,d,ln,hp,z,tn,tl,td,())=some (full ⟨T,A,B,[120],fn,fl,fd,ls,h,b,d,ln,hp,z,tn,tl,td⟩ (0,false,0,0,false,false,0,0,false,[],[],false,[],[],false,false,0,())):=by
  show F11 C29 _=_;simp only [F11,e29,Option.bind_some];rfl
 have e7:C7 ()=some (true,()):=rfl;show F3 C10 C11 C12 C13 C14 C15 C16 C7 C8 C9 C3_c1 _=_;simp only [F3,e7,e8,e9,e10,e12,e11,Option.bind_some];dsimp only at h8 h9 h10;cases f1 with
 | false=>rfl
 | true =>
  cases f2 with
  | false=>rfl
  | true =>
   cases f3 with
   | false=>rfl
   | true =>
    obtain ⟨⟨b1,b2⟩,b3⟩:=h8 rfl;obtain ⟨b4,b5⟩:=h9 rfl;obtain ⟨b6,b7⟩:=h10 rfl;by_cases h20:((ml.length:Nat):Int)>20
    · rw [decide_eq_true h20];rfl
    · have hm:Mok ⟨T,A,B,[120],fn,fl,fd,ls,h,b,d,ln,hp,z,tn,tl,td⟩:=⟨hT,by simp,by (try dsimp only);omega,by (try dsimp only);omega,by (try dsimp only);omega,by (try dsimp only);omega,by (try dsimp only);omega,fun x hx=>by have:=smL_mem hx;dsimp only at this;omega⟩
      rw [decide_eq_false h20];simp only [Bool.not_true,cond_false];rw [e3c1 l mc ml _ (e3_loop hm l b4 b5 mc ml _ ⟨⟨Int.le_refl _,by decide⟩,fun _=>⟨rfl,rfl⟩,fun h=>absurd h (by simp),fun h=>absurd h (by simp)⟩ (by simp))];rfl
end Go.Proofs.YtgkmfhhghcccjaaGreatDoorA.W
namespace Go.Proofs.YtgkmfhhghcccjaaGreatDoorA.PClientEnds
open Go Go.Ae Go.Proofs.YtgkmfhhghcccjaaGreatDoorA.W
theorem pure (x0:(Ty.pair (.pair .bool (.pair .str .str)) (.pair (.lst (.pair .bool (.pair .str .str))) (.pair (.lst .str) (.pair (.pair .bool (.pair .bool (.pair .bool (.pair (.int .i64) (.int .i64))))) (.int .i64))))).den) (b0:Bd (Ty.pair (.pair .bool (.pair .str .str)) (.pair (.lst (.pair .bool (.pair .str .str))) (.pair (.lst .str) (.pair (.pair .bool (.pair .bool (.pair .bool (.pair (.int .i64) (.int .i64))))) (.int .i64))))) x0) (u0:Blk (Ty.pair (.pair .bool (.pair .str .str)) (.pair (.lst (.pair .bool (.pair .str .str))) (.pair (.lst .str) (.pair (.pair .bool (.pair .bool (.pair .bool (.pair (.int .i64) (.int .i64))))) (.int .i64))))) x0≤1048576) (x1:(Ty.pair .bool (.pair .str .str)).den) (b1:Bd (Ty.pair .bool (.pair .str .str)) x1) (u1:Blk (Ty.pair .bool (.pair .str .str)) x1≤1048576) (x2:(Ty.lst (.pair (.int .i64) (.lst .str))).den) (b2:Bd (Ty.lst (.pair (.int .i64) (.lst .str))) x2) (u2:Blk (Ty.lst (.pair (.int .i64) (.lst .str))) x2≤1048576) (x3:(Ty.pair (.int .i64) (.lst .str)).den) (b3:Bd (Ty.pair (.int .i64) (.lst .str)) x3) (u3:Blk (Ty.pair (.int .i64) (.lst .str)) x3≤1048576):C3 (x0.1.1,x0.1.2.1,x0.1.2.2,x0.2.1,x0.2.2.1,x0.2.2.2.1.1,x0.2.2.2.1.2.1,x0.2.2.2.1.2.2.1,x0.2.2.2.1.2.2.2.1,x0.2.2.2.1.2.2.2.2,x0.2.2.2.2,x1.1,x1.2.1,x1.2.2,x2,x3.1,x3.2,())=some (true,()) :=
 c3law _ _ _ _ _ _ _ _ _ _ _ _ _ _ x2 _ _ (blk_mail x0 u0) (blk_rp x2 u2).1 (blk_rp x2 u2).2
end Go.Proofs.YtgkmfhhghcccjaaGreatDoorA.PClientEnds
namespace Go.Proofs.YtgkmfhhghcccjaaGreatDoor
open Go Go.Ae Go.RowKit Go.ChangeShapes
theorem cells_of_strs {H:Type} {enc:TypeId×Value→H} {P:Program} {w:World} {base:Nat} {sp:Nat→Bool} {held:Bool} {fuel:Nat} {t e:TypeId} {n:Nat} {cs:List Value} {zs:List (List UInt8)} {p:List MemPlace}
 (ht:P.underlying t=some (.array n e)) (he:P.underlying e=some .string) (hce:P.cellsOf e=1) (hct:P.cellsOf t=n)
 (h:DataW.trod enc P w base sp held fuel t cs=some (.agg (zs.map fun z => .lit (.string z)),p)):cs=zs.map fun z=>Value.string ⟨⟨z⟩⟩:=by
 cases fuel with
 | zero=>simp [DataW.trod] at h
 | succ fuel =>
  simp only [DataW.trod,ht,hce,hct,Nat.mul_one] at h;split at h
  · rename_i hl
    obtain ⟨xs,hm,hx⟩:=Option.map_eq_some_iff.1 h;have hxs:xs.map (·.1)=zs.map fun z=>(DataW.lit (.string z):DataW H):=by
     have:=congrArg Prod.fst hx;simpa using this
    have hxl:xs.length=n:=by simpa using Lib.mapM_length hm
    have hzl:zs.length=n:=by
     have:=congrArg List.length hxs;simp at this;omega
    apply List.ext_getElem?;intro i;by_cases hi:i<n
    · obtain ⟨b,hb,hf⟩:=Lib.mapM_at hm i i (by simp [hi])
      obtain ⟨z,hc,rfl,_⟩:=DataW.trod_string he hf;have h1:cs[i]? = some (.string z):=by
       have:=congrArg (·[0]?) hc;simpa [List.getElem?_take,List.getElem?_drop] using this
      have h2:(xs.map (·.1))[i]? = some (DataW.lit (.string z.data.toList):DataW H):=by simp [hb]
      rw [hxs] at h2;simp only [List.getElem?_map,Option.map_eq_some_iff,DataW.lit.injEq,Lit.string.injEq] at h2;obtain ⟨z',hz',rfl⟩:=h2;simp [h1,hz']
    · rw [List.getElem?_eq_none (by omega),List.getElem?_eq_none (by simp;omega)]
  · cases h
theorem strs_of_head {P:Program} {W:World} {name:String} {zs:List (List UInt8)} {rest:List (String×DataW Unit)} {g:Nat} {t e:TypeId} {n:Nat}
 (hg:P.globalNamed name=some g) (hty:(P.globals[g]?).map (·.type)=some t) (ht:P.underlying t=some (.array n e)) (he:P.underlying e=some .string) (hce:P.cellsOf e=1) (hct:P.cellsOf t=n)
 (h:laidMet P ((name,.agg (zs.map fun z => .lit (.string z)))::rest) W):W.var? P name=some (zs.map fun z=>Value.string ⟨⟨z⟩⟩).toArray:=by
 obtain ⟨ps,⟨g',t',cs,fuel,p,q,hg',ht',hvar,hd,_,_⟩,_⟩:=h;obtain rfl:=Option.some.inj (hg.symm.trans hg');obtain rfl:=Option.some.inj (hty.symm.trans ht');rw [hvar,←cells_of_strs ht he hce hct hd]
theorem glob {W:World} (hL:laidMetH Tryz.prog Rows.clientEndsUptoRow.laid W) (hsh:W.ShapedOpen Tryz.prog):GI W m0:=by
 rw [MakeChecks.laidMetH_plain _ _ _ (by kernel_rfl)] at hL;obtain ⟨m,hm⟩:=Go.Proofs.cell_of_shapedOpen_int (g:=1) (k := .i64) (t:=3) (zero := #[.int .i64 0]) hsh (of_decide_eq_true (by kernel_rfl)) (by kernel_rfl) (by kernel_rfl) (by kernel_rfl) (by kernel_rfl) (by kernel_rfl);have g1:Tryz.prog.globalNamed "internal/strconv.uint64pow10" = some 6:=by kernel_rfl
 have g0:Tryz.prog.globalNamed "pillarbox/command.words" = some 0:=by kernel_rfl
 have h1:Lib.TabIs Tryz.prog W "internal/strconv.uint64pow10" .u64 tens:=Lib.tabIs_of_head (zs:=tens) (t:=311) (e:=183) (n:=20) g1 (by kernel_rfl) (by kernel_rfl) (by kernel_rfl) (by kernel_rfl) (by kernel_rfl) hL.tail.tail;have h0:W.var? Tryz.prog "pillarbox/command.words" = some (wordsL.map fun z=>Value.string ⟨⟨z⟩⟩).toArray:=strs_of_head (zs:=wordsL) (t:=144) (e:=9) (n:=8) g0 (by kernel_rfl) (by kernel_rfl) (by kernel_rfl) (by kernel_rfl) (by kernel_rfl) hL.tail.tail.tail.tail.tail.tail;have g5:Tryz.prog.globalNamed "strconv.ErrRange" = some 5:=by kernel_rfl
 have g4:Tryz.prog.globalNamed "strconv.ErrSyntax" = some 4:=by kernel_rfl
 obtain ⟨t5,p5,h5⟩:=laid_iface (ti:=185) (ms := #[("Error",125)]) hL.tail.tail.tail.tail g5 (by kernel_rfl) (by kernel_rfl);obtain ⟨t4,p4,h4⟩:=laid_iface (ti:=185) (ms := #[("Error",125)]) hL.tail.tail.tail.tail.tail g4 (by kernel_rfl) (by kernel_rfl);obtain ⟨ty1,fz1,k1⟩:=var_heap g1 h1;obtain ⟨ty0,fz0,k0⟩:=var_heap g0 h0;obtain ⟨ty5,fz5,k5⟩:=var_heap g5 h5;obtain ⟨ty4,fz4,k4⟩:=var_heap g4 h4;refine ⟨⟨⟨m,hm⟩,⟨ty1,fz1,k1⟩,⟨ty0,fz0,k0⟩,⟨t4,p4,cell_of_heap0 k4⟩,⟨t5,p5,cell_of_heap0 k5⟩⟩,fun b hb=>⟨?_,fun h=>h⟩⟩;simp only [GlobB,List.mem_cons,List.not_mem_nil,or_false] at hb;rcases hb with rfl|rfl|rfl|rfl|rfl
 · exact lt_of_heap k0
 · exact lt_of_cell hm
 · exact lt_of_heap k4
 · exact lt_of_heap k5
 · exact lt_of_heap k1
end Go.Proofs.YtgkmfhhghcccjaaGreatDoor
