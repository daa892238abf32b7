/- The texts of the proof, one behind the other: Ae0, G0, Ae1, Glb, Ae2, Ae3, Ae4, Ae5, Ae6, Ae7, Ae8, Ae9, Ae10. -/
import Derived.WalkKit
import Derived.Orders
import Derived.Lib.AppendStr
import Derived.Lib.ConvBytes
import Derived.Laws.OwnMore
import Derived.Laws.StructEq
import Derived.Laws.BytesString
import Derived.Laws.RangeString
import Derived.Laws.IdiomStrings
open Bool (and_eq_true)
open Int (toNat_of_nonneg)
open List (append_assoc drop_drop drop_left drop_zero ext_getElem? getD_eq_getElem?_getD getElem?_append_left getElem?_cons_zero getElem?_drop getElem?_eq_getElem getElem?_map getElem?_set getElem?_take length_cons map_cons mem_cons mem_cons_of_mem mem_cons_self nil_append take_left)
open Nat (add_assoc add_mul add_right_comm add_zero le_refl le_trans lt_of_lt_of_le lt_or_ge mul_one zero_add zero_le)
open Option (map_eq_some_iff)
open Go.World (cell?_of_block)
namespace Go.Ae
theorem qk:(∀{α:Type} (a b:List α),(a++b).length=a.length+b.length)/\(∀{α:Type} (a:α) (l:List α),(a::l).length=l.length+1)/\(∀{α:Type},([]:List α).length=0):=⟨λ_ _=>List.length_append,λ_ _=>rfl,rfl⟩
end Go.Ae
set_option linter.unusedVariables false
namespace Go.Ae
def HasE(o:Obj)(l:List (Value×Value)):Prop:=∃es clock,o = .map es clock/\es.toList.map (λe=>(e.key,e.val))=l
inductive Ty where
 | int (k:IntKind)|byte|bool|str|lst (t:Ty)|pair (a b:Ty)|unit
 deriving DecidableEq
def Ty.den:Ty->Type
 | .int _=>Int | .byte=>UInt8 | .bool=>Bool | .str=>List UInt8 | .lst t=>List t.den | .pair a b=>a.den×b.den | .unit=>Unit
def Ty.dflt:(T:Ty)->T.den
 | .int _=>(0:Int) | .byte=>(0:UInt8) | .bool=>false | .str=>([]:List UInt8) | .lst t=>([]:List t.den) | .pair a b=>(a.dflt,b.dflt) | .unit=>()
def Ty.size:Ty->Nat
 | .pair a b=>a.size+b.size | .unit=>0|_=>1
def castL(T T':Ty)(x:List T.den):Option (List T'.den):=if h:T=T' then some (h▸x)else none
def flatV:(T:Ty)->T.den->Option (List Value)
 | .int k,n=>if k = .u8 then none else some [.int k n]
 | .byte,c=>some [.int .u8 ((c:UInt8).toNat:Int)]
 | .bool,b=>some [.bool b]
 | .str,s=>some [.string ⟨⟨s⟩⟩]
 | .lst _,_=>none
 | .pair a b,x=>match flatV a (x:a.den×b.den).1,flatV b (x:a.den×b.den).2 with
  | some u,some v=>some (u++v)
  | _,_=>none
 | .unit,_=>some []
end Go.Ae
namespace Go.Ae
def rulesT:List (Int×FuncId):=[(8205,301),(8204,302),(183,303),(885,304),(1523,305),(1524,305),(12539,306)]
def fmapOf:Nat->Option (IntKind×List (Int×FuncId))
 | 2=>some (.i32,rulesT)
 | _=>none
def wordsT:Ty := .pair .str (.pair .str (.pair .str (.pair .str (.pair .str (.pair .str (.pair .str .str))))))
def wordsV:wordsT.den:=([69,72,76,79],[72,69,76,79],[77,65,73,76],[82,67,80,84],[68,65,84,65],[82,83,69,84],[78,79,79,80],[81,85,73,84])
def globT:Nat->Option ((T:Ty)×T.den)
 | 0=>some ⟨wordsT,wordsV⟩
 | _=>none
end Go.Ae
namespace Go.Ae
inductive AV where
 | top
 | int (k:IntKind) (n:Int)|bool (b:Bool)|str (s:List UInt8)
 | lst (T:Ty) (l:List T.den)      
 | row (o:Nat)                      
 | win (o sz off n:Nat)             
 | rowc (e:TypeId) (T:Ty) (l:List T.den)     
 | frow (T:Ty) (l:List T.den)     
 | siter (s:List UInt8) (p:Nat)   
 | arrc (e:TypeId) (T:Ty) (l:List T.den)     
 | vals (e:TypeId) (n:Nat) (cs:List AV)      
 | bldr (t:TypeId) (o:Nat)        
 | nils
 | ptr (o off:Nat)|nilp
 | elt (T:Ty) (x:T.den) (off:Nat)
 | rel (o sz i off:Nat)
 | func (fn:Fn) (first captured:List AV)|nilf
 | iface (t:TypeId) (v:AV)|nili
 | opq (i:Nat)|nilm               
 | agg (cs:List AV)|tuple (vs:List AV)
def Ty.leaves:(T:Ty)->T.den->List AV
 | .int k,n=>[.int k n] | .byte,c=>[.int .u8 ((c:UInt8).toNat:Int)] | .bool,b=>[.bool b] | .str,s=>[.str s] | .lst t,l=>[.lst t l]
 | .pair a b,x=>a.leaves (x:a.den×b.den).1++b.leaves (x:a.den×b.den).2 | .unit,_=>[]
def Ty.parse:(T:Ty)->List AV->Option (T.den×List AV)
 | .int k,.int k' n::r=>if k=k' then some ((n:Int),r)else none
 | .byte,.int .u8 n::r=>some (UInt8.ofNat n.toNat,r)
 | .bool,.bool b::r=>some ((b:Bool),r)
 | .str,.str s::r=>some ((s:List UInt8),r)
 | .lst t,.lst t' l::r=>(castL t' t l).map λx=>(x,r)
 | .lst t,.nils::r=>some (([]:List t.den),r)
 | .pair a b,vs=>match a.parse vs with
  | some (x,r)=>match b.parse r with
   | some (y,r)=>some ((x,y),r)
   | none=>none
  | none=>none
 | .unit,r=>some ((),r)
 | _,_=>none
abbrev Store:=List (List AV)
def decR(s:List UInt8)(p:Nat):Nat×Nat:=Utf8.decode ⟨⟨s⟩⟩ p
inductive TD where
 | int (k:IntKind)|bool|str|slice (e:TypeId)|struct (fs:List (Nat×TypeId))|array (n:Nat) (e:TypeId)|ptr (e:TypeId)|map (k e:TypeId)|func|iface|other
structure TI where
 d:TD
 size:Nat
 bytes:Nat
 ty:Option Ty
 zero:List AV
 cmp:Bool:=false
 win:Bool:=false       
abbrev Tys:=TypeId->Option TI
inductive Wr where
 | obj (o:Nat) (cs:List AV)     
 | new (cs:List AV)               
section
variable {R:Type}
def chk(b:Bool)(x:Option R):Option R:=cond b x none
def AV.cells:AV->List AV
 | .agg cs=>cs
 | v=>[v]
def TI.isAgg(t:TI):Bool:=match t.d with | .struct _ | .array _ _=>true|_=>false
def part(t:TI)(cs:List AV)(off:Nat):Option AV :=
 let l:=(cs.drop off).take t.size
 if l.length=t.size then(if t.isAgg then some (.agg l)else match l with | [v]=>some v|_=>none)else none
def put(cs:List AV)(off:Nat)(vs:List AV):Option (List AV) :=
 if off+vs.length<=cs.length then some (cs.take off++vs++cs.drop (off+vs.length))else none
def view(ob:Store):AV->AV
 | .row o=>match ob[o]? with|some [.rowc _ T l] => .lst T l|some [.frow T l] => .lst T l|_ => .top
 | v=>v
def frees(ob:Store):List AV->List Wr
 | .row o::r=>match ob[o]? with|some [.rowc _ T l] => .obj o [.frow T l]::frees ob r|_=>frees ob r
 | _::r=>frees ob r
 | []=>[]
def inR(k:IntKind)(n:Int):Bool:=match k with
 | .u8=>decide (0<=n)&&decide (n<=255)
 | _=>true
def AV.leaf:AV->Bool
 | .top | .rowc _ _ _ | .frow _ _ | .siter _ _ | .arrc _ _ _ | .vals _ _ _ | .bldr _ _ | .agg _ | .tuple _=>false
 | _=>true
def AV.cell:AV->Bool
 | .rowc _ _ _ | .frow _ _ | .siter _ _ | .arrc _ _ _ | .vals _ _ _ | .bldr _ _=>false
 | _=>true
def AV.isRow(o:Nat):AV->Bool
 | .row o'=>Nat.beq o o'
 | _=>false
def ofConst:Value->AV
 | .int k n=>(match inR k n with|true => .int k n|false => .top) | .bool b => .bool b | .string s => .str s.data.toList
 | .slice none 0 0 => .nils | .pointer none => .nilp | .nilFunc => .nilf | .nilIface => .nili | .map none => .nilm
 | .tuple ⟨[]⟩ => .tuple []
 | _ => .top
def tdOf(Γ:Tys)(t:TypeId):TD:=match Γ t with|some ti=>ti.d|none => .other
def eqFs(part:TI->List AV->Nat->Option AV)(rec:TypeId->AV->AV->Option Bool)(Γ:Tys)(xs ys:List AV):List (Nat×TypeId)->Option Bool
 | []=>some true
 | f::fs=>match Γ f.2 with
  | some ti=>match part ti xs f.1,part ti ys f.1 with
   | some x,some y=>match rec f.2 x y,eqFs part rec Γ xs ys fs with
    | some a,some b=>some (a&&b)
    | _,_=>none
   | _,_=>none
  | none=>none
def eqT(Γ:Tys):Nat->TypeId->AV->AV->Option Bool
 | 0,_,_,_=>none
 | n+1,t,x,y=>match Γ t with
  | some ti=>match ti.d,x,y with
   | .int _,.int k a,.int k' b=>if k=k' then some (a==b)else none
   | .bool,.bool a,.bool b=>some (a==b)
   | .str,.str a,.str b=>some (a==b)
   | .struct fs,.agg xs,.agg ys=>if ti.cmp then eqFs part (eqT Γ n) Γ xs ys fs else none
   | _,_,_=>none
  | none=>none
def leB:List UInt8->List UInt8->Bool:=λa b=>Op.bytesLess a b||a==b
def intBits(op:BinOp)(k:IntKind)(x y:Int):Int :=
 let a:=BitVec.ofInt k.bits x
 let b:=BitVec.ofInt k.bits y
 k.wrap ((match op with | .and=>a &&& b | .or=>a ||| b | .xor=>a ^^^ b|_=>a &&& ~~~b).toNat)
def binF(Γ:Tys)(op:BinOp)(t:TypeId)(x y:AV)(κ:AV->Option R):Option R :=
 match x,y with
 | .int k a,.int k' b =>
  match op with
  | .shl=>chk (decide (0<=b)) (κ (.int k (k.wrap (a*2^(min b.toNat k.bits)))))
  | .shr=>chk (decide (0<=b)) (κ (.int k (a.fdiv (2^(min b.toNat k.bits)))))
  | _=>if k=k' then match op with
   | .add=>κ (.int k (k.wrap (a+b))) | .sub=>κ (.int k (k.wrap (a-b))) | .mul=>κ (.int k (k.wrap (a*b)))
   | .quo=>chk (b != 0) (κ (.int k (k.wrap (a.tdiv b)))) | .rem=>chk (b != 0) (κ (.int k (a.tmod b)))
   | .eql=>κ (.bool (a==b)) | .neq=>κ (.bool (a != b))
   | .lss=>κ (.bool (decide (a<b))) | .leq=>κ (.bool (decide (a<=b))) | .gtr=>κ (.bool (decide (a>b))) | .geq=>κ (.bool (decide (a>=b)))
   | .and=>κ (.int k (intBits .and k a b)) | .or=>κ (.int k (intBits .or k a b)) | .xor=>κ (.int k (intBits .xor k a b)) | .andNot=>κ (.int k (intBits .andNot k a b))
   | _=>none
   else none
 | .bool a,.bool b=>match tdOf Γ t with
  | .bool=>(match op with | .eql=>κ (.bool (a==b)) | .neq=>κ (.bool (!(a==b)))|_=>none)
  | _=>none
 | .str a,.str b=>match op with
  | .add=>chk (decide (a.length+b.length<=9223372036854775807)) (κ (.str (a++b)))
  | .eql=>κ (.bool (a==b)) | .neq=>κ (.bool (!(a==b)))
  | .lss=>κ (.bool (Op.bytesLess a b)) | .leq=>κ (.bool (leB a b)) | .gtr=>κ (.bool (!(leB a b))) | .geq=>κ (.bool (!(Op.bytesLess a b)))
  | _=>none
 | .agg xs,.agg ys=>match eqT Γ 9 t (.agg xs) (.agg ys)with
  | some b=>(match op with | .eql=>κ (.bool b) | .neq=>κ (.bool (!b))|_=>none)
  | none=>none
 | _,_=>none
def litO:Operand->Bool
 | .const _=>true
 | _=>false
def nilEq(Γ:Tys)(t:TypeId)(x y:Operand)(ax ay:AV):Option Bool:=match tdOf Γ t with
 | .iface=>(match ax,ay with
  | .iface _ _,.nili=>some false | .nili,.iface _ _=>some false
  | .nili,.nili=>(match litO x||litO y with|true=>some true|false=>none)
  | .iface t a,.iface t' b=>if t=t' then(match Γ t with|some ti=>if ti.cmp then eqT Γ 9 t a b else none|none=>none)else some false
  | _,_=>none)
 | .ptr e=>(match ax,ay with
  | .nilp,.nilp=>some true
  | .ptr _ _,.nilp=>some false | .nilp,.ptr _ _=>some false
  | .elt _ _ _,.nilp=>some false | .rel _ _ _ _,.nilp=>some false
  | .ptr o off,.ptr o' off'=>if o=o'/\((Γ e).map (·.size)).getD 0≠0 then some (off==off')else none
  | _,_=>none)
 | .func=>(match ax,ay with
  | .nilf,.nilf=>some true
  | .func _ _ _,.nilf=>some false | .nilf,.func _ _ _=>some false
  | _,_=>none)
 | _=>none
def asRow(ob:Store):AV->Option ((T:Ty)×List T.den)
 | .lst T l=>some ⟨T,l⟩
 | .row o=>match ob[o]? with|some [.rowc _ T l]=>some ⟨T,l⟩|some [.frow T l]=>some ⟨T,l⟩|_=>none
 | _=>none
def valsOf(ob:Store):AV->Option Nat
 | .row o=>match ob[o]? with|some [.vals _ n _]=>some n|_=>none
 | _=>none
def parseN(T:Ty):Nat->List AV->Option (List T.den)
 | 0,[]=>some []
 | n+1,vs=>match T.parse vs with
  | some (x,r)=>match parseN T n r with|some l=>some (x::l)|none=>none
  | none=>none
 | _,_=>none
def cut{α:Type}(l:List α)(lo hi:Option Int)(κ:List α->Option R):Option R :=
 match hi,lo with
 | none,none=>κ l
 | none,some a=>chk (decide (0<=a)&&decide (a<=(l.length:Int))) (κ (l.drop a.toNat))
 | some b,none=>chk (decide (0<=b)&&decide (b<=(l.length:Int))) (κ (l.take b.toNat))
 | some b,some a=>chk (decide (0<=b)&&decide (b<=(l.length:Int))) (chk (decide (0<=a)&&decide (a<=b)) (κ ((l.take b.toNat).drop a.toNat)))
def cutN(n:Nat)(lo hi:Option Int)(κ:Nat->Nat->Option R):Option R :=
 match hi,lo with
 | none,none=>κ 0 n
 | none,some a=>chk (decide (0<=a)&&decide (a<=(n:Int))) (κ a.toNat n)
 | some b,none=>chk (decide (0<=b)&&decide (b<=(n:Int))) (κ 0 b.toNat)
 | some b,some a=>chk (decide (0<=b)&&decide (b<=(n:Int))) (chk (decide (0<=a)&&decide (a<=b)) (κ a.toNat b.toNat))
def winF(Γ:Tys)(ob:Store)(t:TypeId)(x:AV):Option (Nat×((T:Ty)×List T.den)):=match Γ t with
 | some ti=>match ti.win,x with
  | true,.row o=>(match ob[o]? with|some [.rowc _ T l]=>some (o,⟨T,l⟩)|_=>none)
  | _,_=>none
 | none=>none
def ofInt:AV->Option Int
 | .int _ n=>some n
 | _=>none
def ofIntO:Option AV->Option (Option Int)
 | none=>some none
 | some (.int _ n)=>some (some n)
 | _=>none
end
end Go.Ae
namespace Go.Ae
inductive Sh where
 | top|int (k:IntKind)|bool|str|lst (T:Ty)
 | win (i sz:Nat)|row (i:Nat)|ptr (i off:Nat)|nilp|nils|nilf|nili
 | agg (n:Nat)|tuple (n:Nat)|func (fn:Fn) (nf nc:Nat)|iface (t:TypeId)
 | cint (k:IntKind) (n:Int)|cbool (b:Bool)
 | opq (i:Nat)|nilm
 | obox (n:Nat)      
 | orow (e:TypeId) (T:Ty)       
 | oiter               
 | oarr (e:TypeId) (T:Ty)       
 | obld (t:TypeId) (j:Nat)      
 | ovals (e:TypeId) (n k:Nat)   
 | odead               
def Sh.ty:Sh->Option Ty
 | .int k=>some (.int k) | .bool=>some .bool | .str=>some .str | .lst T=>some (.lst T) | .win _ _=>some (.pair (.int .i64) (.int .i64)) | .orow _ T=>some (.lst T) | .oarr _ T=>some (.lst T) | .oiter=>some (.pair .str (.int .i64))|_=>none
def HS:List Sh->Type
 | []=>Unit
 | s::r=>match s.ty with|some t=>t.den×HS r|none=>HS r
structure MS where
 m:List (Option Nat)
 fz:List Nat:=[]
def see(ms:MS)(i:Nat)(o:Option Nat):Option MS :=
 if i<ms.m.length then(match ms.m[i]?,o with
  | some (some a),some b=>if a=b then some ms else none
  | _,_=>none)
 else if i=ms.m.length then(match o with
  | some _=>if ms.m.contains o then none else some ⟨ms.m++[o],ms.fz⟩
  | none=>some ⟨ms.m++[none],ms.fz⟩)
 else none
def froze(ob:Store)(a:AV)(ms:MS):MS:=match a with
 | .row o=>match ob[o]? with|some [.rowc _ _ _]=>⟨ms.m,o::ms.fz⟩|_=>ms
 | _=>ms
def mt(ob:Store):(l:List Sh)->List AV->Nat->MS->Option (HS l×MS)
 | [],avs,i,ms=>match avs with
  | []=>if i=ms.m.length/\ms.fz.all (λo => !ms.m.contains (some o))then some ((),ms)else none
  | _=>none
 | .top::r,avs,i,ms=>match avs with
  | _::avs=>mt ob r avs i ms
  | _=>none
 | .int k::r,avs,i,ms=>match avs with
  | .int k' n::avs=>if k=k' then(mt ob r avs i ms).map λx=>((n,x.1),x.2)else none
  | _=>none
 | .cint k c::r,avs,i,ms=>match avs with
  | .int k' n::avs=>if k=k'/\c=n then mt ob r avs i ms else none
  | _=>none
 | .bool::r,avs,i,ms=>match avs with
  | .bool b::avs=>(mt ob r avs i ms).map λx=>((b,x.1),x.2)
  | _=>none
 | .cbool c::r,avs,i,ms=>match avs with
  | .bool b::avs=>if c=b then mt ob r avs i ms else none
  | _=>none
 | .str::r,avs,i,ms=>match avs with
  | .str s::avs=>(mt ob r avs i ms).map λx=>((s,x.1),x.2)
  | _=>none
 | .lst T::r,avs,i,ms=>match avs with
  | .nils::avs=>(mt ob r avs i ms).map λx=>((([]:List T.den),x.1),x.2)
  | a::avs=>match asRow ob a with
   | some ⟨T',l⟩=>match castL T' T l with
    | some y=>(mt ob r avs i (froze ob a ms)).map λx=>((y,x.1),x.2)
    | none=>none
   | none=>none
  | []=>none
 | .row j::r,avs,i,ms=>match avs with
  | .row o::avs=>match see ms j (some o)with|some ms=>mt ob r avs i ms|none=>none
  | .nils::avs=>match see ms j none with|some ms=>mt ob r avs i ms|none=>none
  | _=>none
 | .win j sz::r,avs,i,ms=>match avs with
  | .win o sz' off n::avs=>if sz=sz' then(match see ms j (some o)with|some ms=>(mt ob r avs i ms).map λx=>((((off:Int),(n:Int)),x.1),x.2)|none=>none)else none
  | _=>none
 | .ptr j off::r,avs,i,ms=>match avs with
  | .ptr o off'::avs=>if off=off' then(match see ms j (some o)with|some ms=>mt ob r avs i ms|none=>none)else none
  | _=>none
 | .nilp::r,avs,i,ms=>match avs with | .nilp::avs=>mt ob r avs i ms|_=>none
 | .nilm::r,avs,i,ms=>match avs with | .nilm::avs=>mt ob r avs i ms|_=>none
 | .opq j::r,avs,i,ms=>match avs with | .opq j'::avs=>if j=j' then mt ob r avs i ms else none|_=>none
 | .nils::r,avs,i,ms=>match avs with | .nils::avs=>mt ob r avs i ms|_=>none
 | .nilf::r,avs,i,ms=>match avs with | .nilf::avs=>mt ob r avs i ms|_=>none
 | .nili::r,avs,i,ms=>match avs with | .nili::avs=>mt ob r avs i ms|_=>none
 | .agg n::r,avs,i,ms=>match avs with
  | .agg cs::avs=>if cs.length=n then mt ob r (cs++avs) i ms else none
  | _=>none
 | .tuple n::r,avs,i,ms=>match avs with
  | .tuple cs::avs=>if cs.length=n then mt ob r (cs++avs) i ms else none
  | _=>none
 | .func fn nf nc::r,avs,i,ms=>match avs with
  | .func fn' f c::avs=>if fn=fn'/\f.length=nf/\c.length=nc then mt ob r (f++(c++avs)) i ms else none
  | _=>none
 | .iface t::r,avs,i,ms=>match avs with
  | .iface t' v::avs=>if t=t' then mt ob r (v::avs) i ms else none
  | _=>none
 | .obox n::r,avs,i,ms=>match avs,ms.m[i]? with
  | [],some (some o)=>match ob[o]? with
   | some cs=>if cs.length=n/\n≠0/\cs.all AV.cell then mt ob r cs (i+1) ms else none
   | none=>none
  | _,_=>none
 | .orow e T::r,avs,i,ms=>match avs,ms.m[i]? with
  | [],some (some o)=>match ob[o]? with
   | some [.rowc e' T' l]=>if e'≠e then none else match castL T' T l with
    | some y=>(mt ob r [] (i+1) ms).map λx=>((y,x.1),x.2)
    | none=>none
   | _=>none
  | [],some none=>(mt ob r [] (i+1) ms).map λx=>((([]:List T.den),x.1),x.2)
  | _,_=>none
 | .oiter::r,avs,i,ms=>match avs,ms.m[i]? with
  | [],some (some o)=>match ob[o]? with
   | some [.siter s p]=>(mt ob r [] (i+1) ms).map λx=>(((s,(p:Int)),x.1),x.2)
   | _=>none
  | _,_=>none
 | .oarr e T::r,avs,i,ms=>match avs,ms.m[i]? with
  | [],some (some o)=>match ob[o]? with
   | some [.arrc e' T' l]=>if e'≠e then none else match castL T' T l with
    | some y=>(mt ob r [] (i+1) ms).map λx=>((y,x.1),x.2)
    | none=>none
   | _=>none
  | _,_=>none
 | .obld t j::r,avs,i,ms=>match avs,ms.m[i]? with
  | [],some (some o)=>match ob[o]? with
   | some [.bldr t' o']=>if t'=t then(match see ms j (some o')with|some ms=>mt ob r [] (i+1) ms|none=>none)else none
   | _=>none
  | _,_=>none
 | .ovals e n k::r,avs,i,ms=>match avs,ms.m[i]? with
  | [],some (some o)=>match ob[o]? with
   | some [.vals e' n' cs]=>if e'=e/\n'=n/\cs.length=k/\cs.all AV.cell then mt ob r cs (i+1) ms else none
   | _=>none
  | _,_=>none
 | .odead::r,avs,i,ms=>match avs with
  | []=>if i<ms.m.length then mt ob r [] (i+1) ms else none
  | _=>none
def em(ρ:Nat->Nat):(l:List Sh)->HS l->List AV×Store
 | [],_=>([],[])
 | .top::r,v=>let x:=em ρ r v;(.top::x.1,x.2)
 | .int k::r,v=>let x:=em ρ r (v:Int×HS r).2;(.int k (v:Int×HS r).1::x.1,x.2)
 | .cint k n::r,v=>let x:=em ρ r v;(.int k n::x.1,x.2)
 | .bool::r,v=>let x:=em ρ r (v:Bool×HS r).2;(.bool (v:Bool×HS r).1::x.1,x.2)
 | .cbool b::r,v=>let x:=em ρ r v;(.bool b::x.1,x.2)
 | .str::r,v=>let x:=em ρ r (v:List UInt8×HS r).2;(.str (v:List UInt8×HS r).1::x.1,x.2)
 | .lst T::r,v=>let x:=em ρ r (v:List T.den×HS r).2;(.lst T (v:List T.den×HS r).1::x.1,x.2)
 | .row i::r,v=>let x:=em ρ r v;(.row (ρ i)::x.1,x.2)
 | .win i sz::r,v=>let x:=em ρ r (v:(Int×Int)×HS r).2;(.win (ρ i) sz (v:(Int×Int)×HS r).1.1.toNat (v:(Int×Int)×HS r).1.2.toNat::x.1,x.2)
 | .ptr i off::r,v=>let x:=em ρ r v;(.ptr (ρ i) off::x.1,x.2)
 | .nilp::r,v=>let x:=em ρ r v;(.nilp::x.1,x.2)
 | .nilm::r,v=>let x:=em ρ r v;(.nilm::x.1,x.2)
 | .opq j::r,v=>let x:=em ρ r v;(.opq j::x.1,x.2)
 | .nils::r,v=>let x:=em ρ r v;(.nils::x.1,x.2)
 | .nilf::r,v=>let x:=em ρ r v;(.nilf::x.1,x.2)
 | .nili::r,v=>let x:=em ρ r v;(.nili::x.1,x.2)
 | .agg n::r,v=>let x:=em ρ r v;(.agg (x.1.take n)::x.1.drop n,x.2)
 | .tuple n::r,v=>let x:=em ρ r v;(.tuple (x.1.take n)::x.1.drop n,x.2)
 | .func fn nf nc::r,v=>let x:=em ρ r v;(.func fn (x.1.take nf) ((x.1.drop nf).take nc)::x.1.drop (nf+nc),x.2)
 | .iface t::r,v=>let x:=em ρ r v;(match x.1 with|a::q=>(.iface t a::q) | []=>[],x.2)
 | .obox _::r,v=>let x:=em ρ r v;([],x.1::x.2)
 | .orow e T::r,v=>let x:=em ρ r (v:List T.den×HS r).2;([],[.rowc e T (v:List T.den×HS r).1]::x.2)
 | .oiter::r,v=>let x:=em ρ r (v:(List UInt8×Int)×HS r).2;([],[.siter (v:(List UInt8×Int)×HS r).1.1 (v:(List UInt8×Int)×HS r).1.2.toNat]::x.2)
 | .oarr e T::r,v=>let x:=em ρ r (v:List T.den×HS r).2;([],[.arrc e T (v:List T.den×HS r).1]::x.2)
 | .ovals e n _::r,v=>let x:=em ρ r v;([],[.vals e n x.1]::x.2)
 | .obld t j::r,v=>let x:=em ρ r v;([],[.bldr t (ρ j)]::x.2)
 | .odead::r,v=>let x:=em ρ r v;([],[]::x.2)
inductive AX where
 | normal|exit (id:Nat)|goto (l:Nat)|ret
 deriving DecidableEq
abbrev Outs:=List (AX×List Sh)
def OTy:Outs->Type
 | []=>Empty
 | [l]=>HS l.2
 | l::l'::r=>HS l.2⊕OTy (l'::r)
def ocase{R:Type}:(os:Outs)->OTy os->(AX->(l:List Sh)->HS l->Option R)->Option R
 | [],_,_=>none
 | [l],y,k=>k l.1 l.2 y
 | l::l'::r,y,k=>Sum.elim (k l.1 l.2) (λz=>ocase (l'::r) z k) (y:HS l.2⊕OTy (l'::r))
structure FEnt where
 ins:List Sh
 outs:Outs
 fn:HS ins->Option (OTy outs)
def Ty.hasLst:Ty->Bool | .lst _=>true | .pair a b=>a.hasLst||b.hasLst|_=>false
def Sh.isLst:Sh->Bool | .lst _=>true | .opq _=>true | .orow _ T=>T.hasLst | .oarr _ T=>T.hasLst|_=>false
def nobj(l:List Sh):Nat:=(l.filter λs=>match s with | .obox _ | .orow _ _ | .oiter | .oarr _ _ | .ovals _ _ _ | .obld _ _ | .odead=>true|_=>false).length
abbrev Calls':=FuncId->List FEnt
def merge:List (Option Nat)->Store->List Wr
 | some o::m,cs::st => .obj o cs::merge m st
 | [],cs::st => .new cs::merge [] st
 | _,_=>[]
def back(m:List (Option Nat))(base:Nat)(i:Nat):Nat :=
 match m[i]? with
 | some (some o)=>o
 | _=>base+(i-m.length)
def inside(n:Nat):Option Nat->Bool
 | some o=>Nat.blt o n
 | none=>false
section
variable {R:Type}
def callF(e:FEnt)(ob:Store)(args:List AV)(κ:AV->List Wr->Option R):Option R :=
 match mt ob e.ins args 0 ⟨[],[]⟩with
 | some (v,ms)=>if ms.m.all (inside ob.length)=true then(e.fn v).bind λy=>ocase e.outs y λ_ l u =>
  match (em (back ms.m ob.length) l u).1 with
  | [a]=>if ms.m.length<=(em (back ms.m ob.length) l u).2.length then
   κ a ((if l.any Sh.isLst then frees ob (ms.fz.map AV.row)else [])++merge ms.m (em (back ms.m ob.length) l u).2)else none
  | _=>none
  else none
 | none=>none
def fitE(e:FEnt)(ob:Store)(args:List AV):Bool:=match mt ob e.ins args 0 ⟨[],[]⟩with|some _=>true|none=>false
def pickE(ob:Store)(args:List AV):List FEnt->Option FEnt
 | []=>none
 | [e]=>some e
 | e::e'::es=>match fitE e ob args with|true=>some e|false=>pickE ob args (e'::es)
def placesF(Γ:Tys):List (Nat×TypeId)->Option (List (Nat×Nat))
 | []=>some []
 | f::fs=>match Γ f.2,placesF Γ fs with
  | some ti,some l=>some ((f.1,ti.size)::l)
  | _,_=>none
def fillF(place:Nat->Option (Nat×Nat))(cs:List AV):List (Nat×AV)->Option (List AV)
 | []=>some cs
 | p::rest=>match place p.1 with
  | some (off,size)=>if p.2.cells.length=size/\p.2.cells.all AV.leaf then(match put cs off p.2.cells with
   | some cs=>fillF place cs rest
   | none=>none)else none
  | none=>none
def freeL(ob:Store)(T:Ty)(x:AV):List Wr:=bif T.hasLst then frees ob [x]else []
def clash(T:Ty)(kill:List Wr)(x:AV):Bool:=T.hasLst&&(match kill,x with | [.obj q _],.row q'=>Nat.beq q q'|_,_=>false)
def appendG(Γ:Tys)(ob:Store)(slot:Nat)(t u e:TypeId)(ei:TI)(T:Ty)(x:AV)(l:List T.den)(kill:List Wr)(κ:AV->List Wr->Option R):Option R :=
 match x with
 | .str c=>match tdOf Γ u,ei.d,ei.zero with
  | .str,.int .u8,[.int .u8 z]=>if z=0/\ei.size=1/\ei.bytes=1 then(match castL .byte T c with
   | some m=>chk (decide (l.length+m.length<=140737488355328/ei.bytes)) (κ (.row slot) (kill++[.new [.rowc e T (l++m)]]))
   | none=>none)else none
  | _,_,_=>none
 | .nils=>if u=t then chk (decide (l.length+0<=140737488355328/ei.bytes)) (κ (.row slot) (kill++[.new [.rowc e T (l++[])]]))else none
 | x=>if u=t/\clash T kill x=false then(match asRow ob x with
  | some ⟨T',m⟩=>match castL T' T m with
   | some m=>chk (decide (l.length+m.length<=140737488355328/ei.bytes)) (κ (.row slot) (freeL ob T x++(kill++[.new [.rowc e T (l++m)]])))
   | none=>none
  | none=>none)else none
def appendF(Γ:Tys)(ob:Store)(slot:Nat)(t u:TypeId)(s x:AV)(κ:AV->List Wr->Option R):Option R :=
 match tdOf Γ t with
 | .slice e=>match Γ e with
  | some ei=>match ei.ty with
   | some T =>
    if ei.size≠T.size\/T.size=0\/ei.zero.length≠T.size then none else
    match s with
    | .nils=>appendG Γ ob slot t u e ei T x [] [] κ
    | .row o=>match ob[o]? with
     | some [.rowc e' T' l]=>if e'=e then(match castL T' T l with|some l=>appendG Γ ob slot t u e ei T x l [.obj o []] κ|none=>none)else none
     | _=>none
    | _=>none
   | none=>none
  | none=>none
 | _=>none
def builtinF(Γ:Tys)(ob:Store)(slot:Nat)(b:Builtin)(ts:List TypeId)(args:List AV)(κ:AV->List Wr->Option R):Option R :=
 match b,args,ts with
 | .len,[x],[t]=>match tdOf Γ t,x with
  | .str,.str s=>κ (.int .i64 (s.length:Int)) []
  | .slice _,.nils=>κ (.int .i64 0) []
  | .slice _,.win _ _ _ n=>κ (.int .i64 (n:Int)) []
  | .slice _,x=>match asRow ob x with|some ⟨_,l⟩=>κ (.int .i64 (l.length:Int)) []|none=>(match valsOf ob x with|some n=>κ (.int .i64 (n:Int)) []|none=>none)
  | _,_=>none
 | .append,[s,x],[t,u]=>appendF Γ ob slot t u s x κ
 | .max,[.int k x,.int k' y],_=>if k=k' then κ (.int k (if y>x then y else x)) []else none
 | .min,[.int k x,.int k' y],_=>if k=k' then κ (.int k (if y<x then y else x)) []else none
 | _,_,_=>none
def fmF(n:Int)(κ:AV->Option R):List (Int×FuncId)->Option R
 | []=>κ .nilf
 | p::r=>cond (decide (n=p.1)) (κ (.func (.func p.2) [] [])) (fmF n κ r)
def idxF(i:Int)(κ:Nat->Option R):List Nat->Option R
 | []=>none
 | j::r=>cond (decide (i=(j:Int))) (κ j) (idxF i κ r)
def opF(Γ:Tys)(K:Calls')(ρ:Operand->AV)(ob:Store)(slot:Nat)(op:Op)(κ:AV->List Wr->Option R):Option R :=
 match op with
 | .move x | .assign x=>κ (ρ x) []
 | .pick c a b=>match ρ c with | .bool c=>cond c (κ (ρ a) []) (κ (ρ b) [])|_=>none
 | .alloc t=>match Γ t with
  | some ti=>match ti.d with
   | .array n e=>match Γ e with
    | some ei=>match ei.ty with
     | some T=>match parseN T n ti.zero with
      | some l=>if ei.size≠T.size then none else κ (.ptr slot 0) [.new [.arrc e T l]]
      | none=>none
     | none=>cond (ti.zero.all AV.leaf) (κ (.ptr slot 0) [.new ti.zero]) none
    | none=>none
   | .struct [(0,a),(1,s)]=>match tdOf Γ a,tdOf Γ s with
    | .ptr a',.slice e=>match Nat.beq a' t with
     | true=>match ti.zero with
      | [.nilp,.nils]=>κ (.ptr (slot+1) 0) [.new [.rowc e .byte []],.new [.bldr t slot]]
      | _=>none
     | false=>cond (ti.zero.all AV.leaf) (κ (.ptr slot 0) [.new ti.zero]) none
    | _,_=>cond (ti.zero.all AV.leaf) (κ (.ptr slot 0) [.new ti.zero]) none
   | _=>cond (ti.zero.all AV.leaf) (κ (.ptr slot 0) [.new ti.zero]) none
  | none=>none
 | .box _ x=>cond ((ρ x).cells.all AV.leaf) (κ (.ptr slot 0) [.new (ρ x).cells]) none
 | .build t ps=>match Γ t with
  | some ti=>match ti.d with
   | .struct fs=>match placesF Γ fs with
    | some pl=>match fillF (λi=>pl[i]?) ti.zero (ps.toList.map λp=>(p.1,ρ p.2))with
     | some cs=>κ (.agg cs) []
     | none=>none
    | none=>none
   | .array _ e=>match Γ e with
    | some ei=>match fillF (λi=>some (i*ei.size,ei.size)) ti.zero (ps.toList.map λp=>(p.1,ρ p.2))with
     | some cs=>κ (.agg cs) []
     | none=>none
    | none=>none
   | _=>none
  | none=>none
 | .range t x=>match tdOf Γ t,ρ x with
  | .str,.str s=>κ (.ptr slot 0) [.new [.siter s 0]]
  | _,_=>none
 | .next x isStr=>match isStr,ρ x with
  | true,.ptr o 0=>match ob[o]? with
   | some [.siter s p]=>cond (decide (p<s.length)) (κ (.tuple [.bool true,.int .i64 (p:Int),.int .i32 ((decR s p).1:Int)]) [.obj o [.siter s (p+(decR s p).2)]]) (κ (.tuple [.bool false]) [])
   | _=>none
  | _,_=>none
 | .makeSlice t x y=>match tdOf Γ t with
  | .slice e=>match Γ e with
   | some ei=>match ei.ty with
    | some T=>match parseN T 1 ei.zero with
     | some (z::_)=>match ρ x,ρ y with
      | .int _ n,.int _ n' =>
       if ei.size≠T.size\/T.size=0\/ei.zero.length≠T.size then none else
       chk (decide (0<=n)&&(decide (n=n')&&(decide ((ei.bytes:Int)*n<=281474976710656)&&decide (n<=140737488355328)))) (κ (.row slot) [.new [.rowc e T (List.replicate n.toNat z)]])
      | _,_=>none
     | _=>none
    | none=>none
   | none=>none
  | _=>none
 | .buildSlice t n ps=>match tdOf Γ t with
  | .slice e=>match Γ e with
   | some ei=>match ei.ty with
    | some T =>
     if ei.size≠T.size\/T.size=0\/65536<n*T.size\/ei.zero.length≠T.size then none else
     match fillF (λi=>some (i*T.size,T.size)) (List.replicate n ei.zero).flatten (ps.toList.map λp=>(p.1,ρ p.2))with
     | some cs=>match parseN T n (cs.map (view ob))with
      | some l=>κ (.row slot) (frees ob cs++[.new [.rowc e T l]])
      | none=>none
     | none=>none
    | none =>
     if ei.size=0\/n=0\/65536<n*ei.size\/ei.zero.length≠ei.size then none else
     match fillF (λi=>some (i*ei.size,ei.size)) (List.replicate n ei.zero).flatten (ps.toList.map λp=>(p.1,ρ p.2))with
     | some cs=>κ (.row slot) [.new [.vals e n cs]]
     | none=>none
   | none=>none
  | _=>none
 | .load t a=>match Γ t with
  | some ti=>match ρ a with
   | .ptr o off=>match ob[o]? with
    | some [.siter _ _]=>none
    | some [.arrc _ T l]=>(match ti.d with
     | .array n _=>if off=0/\ti.size=n*T.size then chk (decide (l.length=n)) (κ (.agg ((List.range n).flatMap λj=>T.leaves (l.getD j T.dflt))) [])else none
     | _=>none)
    | some [.vals _ _ _]=>none
    | some [.bldr _ r]=>match ti.d,Nat.beq off 1 with | .slice _,true=>κ (.row r) []|_,_=>none
    | some cs=>match part ti cs off with|some v=>κ v []|none=>none
    | none=>none
   | .elt T x off=>match part ti (T.leaves x) off with|some v=>κ v []|none=>none
   | .rel o sz i off=>match ob[o]? with
    | some [.rowc e T l]=>if sz≠T.size then none else match part ti (T.leaves (l.getD i T.dflt)) off with|some v=>κ v []|none=>none
    | some [.arrc e T l]=>if sz≠T.size then none else match part ti (T.leaves (l.getD i T.dflt)) off with|some v=>chk (decide (i<l.length)) (κ v [])|none=>none
    | some [.vals e n cs]=>match part ti cs (i*sz+off)with|some v=>κ v []|none=>none
    | _=>none
   | _=>none
  | none=>none
 | .store t a x=>match Γ t with
  | some ti=>if(ρ x).cells.length=ti.size/\(ρ x).cells.all AV.leaf then match ρ a with
   | .ptr o off=>match ob[o]? with
    | some [.rowc _ _ _]=>none
    | some [.frow _ _]=>none
    | some [.siter _ _]=>none
    | some [.arrc e T l]=>(match ti.d with
     | .array n _=>if off=0/\ti.size=n*T.size/\T.hasLst=false then(match parseN T n (ρ x).cells with
      | some l'=>chk (decide (l.length=n)) (κ (.tuple []) [.obj o [.arrc e T l']])
      | none=>none)else none
     | _=>none)
    | some [.vals _ _ _]=>none
    | some [.bldr u _]=>match ρ x,Nat.beq off 1 with | .row r,true=>κ (.tuple []) [.obj o [.bldr u r]]|_,_=>none
    | some cs=>match put cs off (ρ x).cells with|some cs=>κ (.tuple []) [.obj o cs]|none=>none
    | none=>none
   | .rel o sz i off=>match ob[o]? with
    | some [.rowc e T l]=>if sz≠T.size\/(ρ x).cells.any (AV.isRow o)then none else match put (T.leaves (l.getD i T.dflt)) off ((ρ x).cells.map (view ob))with
     | some vs=>match T.parse vs with
      | some (y,[])=>κ (.tuple []) (frees ob (ρ x).cells++[.obj o [.rowc e T (l.set i y)]])
      | _=>none
     | none=>none
    | some [.arrc e T l]=>if sz≠T.size\/T.hasLst then none else match put (T.leaves (l.getD i T.dflt)) off (ρ x).cells with
     | some vs=>match T.parse vs with
      | some (y,[])=>chk (decide (i<l.length)) (κ (.tuple []) [.obj o [.arrc e T (l.set i y)]])
      | _=>none
     | none=>none
    | _=>none
   | _=>none
   else none
  | none=>none
 | .nilCheck x=>match ρ x with
  | .ptr o off=>κ (.ptr o off) [] | .elt T x off=>κ (.elt T x off) [] | .rel o sz i off=>κ (.rel o sz i off) []
  | .func fn f c=>match fn with | .func _=>κ (.func fn f c) []|_=>none
  | _=>none
 | .binOp op t x y _=>match nilEq Γ t x y (ρ x) (ρ y)with
  | some b=>(match op with | .eql=>κ (.bool b) [] | .neq=>κ (.bool (!b)) []|_=>none)
  | none=>binF Γ op t (ρ x) (ρ y) λv=>κ v []
 | .unOp op _ x=>match op,ρ x with
  | .not,.bool b=>κ (.bool (!b)) []
  | .neg,.int k n=>κ (.int k (k.wrap (0-n))) []
  | _,_=>none
 | .convert s d x=>match tdOf Γ s,tdOf Γ d,ρ x with
  | .int _,.int k,.int _ n=>κ (.int k (k.wrap n)) []
  | .str,.str,.str s=>κ (.str s) []
  | .str,.slice e,.str c=>match tdOf Γ e with
   | .int .u8=>chk (decide (c.length<=9223372036854775807)) (κ (.lst .byte c) [])
   | .int .i32=>(match Γ e with
    | some ei=>if ei.size=1 then chk (decide (c.length<=70368744177664)&&c.all λb=>decide (b.toNat<128)) (κ (.row slot) [.new [.rowc e (.int .i32) (c.map λb=>((b.toNat:Int):Int))]])else none
    | none=>none)
   | _=>none
  | .slice e,.str,x=>match tdOf Γ e with
   | .int .u8=>match x with
    | .nils=>κ (.str []) []
    | x=>match asRow ob x with
     | some ⟨T,l⟩=>match castL T .byte l with|some c=>κ (.str c) []|none=>none
     | none=>none
   | _=>none
  | _,_,_=>none
 | .makeFunc fn f c=>κ (.func fn (f.toList.map ρ) (c.toList.map ρ)) []
 | .makeInterface t x=>cond (match tdOf Γ t with | .iface | .other=>false|_=>true) (κ (.iface t (ρ x)) []) none
 | .slice t x lo hi mx=>match mx,ofIntO (lo.map ρ),ofIntO (hi.map ρ)with
  | none,some lo,some hi=>match tdOf Γ t with
   | .str=>match ρ x with
    | .str s=>cut s lo hi λs=>κ (.str s) []
    | _=>none
   | .slice e=>match ρ x with
    | .nils=>match Γ e with
     | some _=>cut ([]:List Nat) lo hi λ_=>κ .nils []
     | none=>none
    | x=>match winF Γ ob t x with
     | some p=>match Γ e with
      | some ei=>if p.2.1.size=ei.size then cutN p.2.2.length lo hi λa b=>κ (.win p.1 p.2.1.size a (b-a)) []else none
      | none=>none
     | none=>match Γ e,asRow ob x with
      | some ei,some ⟨T,l⟩=>if T.size=ei.size then cut l lo hi λl=>κ (.lst T l) (frees ob [x])else none
      | _,_=>none
   | .array n e=>match ρ x with
    | .ptr o 0=>match ob[o]?,Γ e with
     | some [.arrc _ T l],some ei=>if T.size=ei.size/\n<=9223372036854775807 then chk (decide (l.length=n)) (cut l lo hi λl=>κ (.lst T l) [.obj o []])else none
     | _,_=>none
    | _=>none
   | _=>none
  | _,_,_=>none
 | .fieldAddr s x f=>match tdOf Γ s with
  | .struct fs=>match fs[f]? with
   | some (fo,ft)=>if((Γ ft).map (·.size)).getD 0=0 then none else match ρ x with
    | .ptr o off=>κ (.ptr o (off+fo)) [] | .elt T x off=>κ (.elt T x (off+fo)) [] | .rel o sz i off=>κ (.rel o sz i (off+fo)) []
    | _=>none
   | none=>none
  | _=>none
 | .field s x f=>match tdOf Γ s,ρ x with
  | .struct fs,.agg cs=>match fs[f]? with
   | some (fo,ft)=>match Γ ft with
    | some ti=>match part ti cs fo with|some v=>κ v []|none=>none
    | none=>none
   | none=>none
  | _,_=>none
 | .indexAddr t x i=>match tdOf Γ t with
  | .slice e=>match ofInt (ρ i),Γ e with
   | some i,some ei=>match ρ x with
    | .lst T l=>if T.size=ei.size then chk (decide (0<=i)&&decide (i<(l.length:Int))) (κ (.elt T (l.getD i.toNat T.dflt) 0) [])else none
    | .row o=>match ob[o]? with
     | some [.rowc e T l]=>if T.size=ei.size then chk (decide (0<=i)&&decide (i<(l.length:Int))) (κ (.rel o T.size i.toNat 0) [])else none
     | some [.frow T l]=>if T.size=ei.size then chk (decide (0<=i)&&decide (i<(l.length:Int))) (κ (.elt T (l.getD i.toNat T.dflt) 0) [])else none
     | some [.vals e n cs]=>if cs.length=n*ei.size then chk (decide (0<=i)&&decide (i<(n:Int))) (κ (.rel o ei.size i.toNat 0) [])else none
     | _=>none
    | .win o sz off n=>if sz=ei.size then chk (decide (0<=i)&&decide (i<(n:Int))) (κ (.rel o sz (off+i.toNat) 0) [])else none
    | _=>none
   | _,_=>none
  | .array n e=>match ofInt (ρ i),Γ e,ρ x with
   | some i,some ei,.elt T y off=>idxF i (λj=>κ (.elt T y (off+j*ei.size)) []) (List.range n)
   | some i,some ei,.ptr o 0=>match ob[o]? with
    | some [.arrc _ T l]=>if T.size=ei.size then chk (decide (l.length=n)) (chk (decide (0<=i)&&decide (i<(n:Int))) (κ (.rel o T.size i.toNat 0) []))else none
    | some _=>idxF i (λj=>κ (.ptr o (j*ei.size)) []) (List.range n)
    | none=>none
   | _,_,_=>none
  | _=>none
 | .index t x i=>match tdOf Γ t,ofInt (ρ i),ρ x with
  | .str,some i,.str s=>chk (decide (0<=i)&&decide (i<(s.length:Int))) (κ (.int .u8 ((s.getD i.toNat 0).toNat:Int)) [])
  | .array n e,some i,.agg cs=>(match Γ e with
   | some ei=>idxF i (λj=>match part ei cs (j*ei.size)with|some v=>κ v []|none=>none) (List.range n)
   | none=>none)
  | _,_,_=>none
 | .lookup t x i ok=>match tdOf Γ t,ok,ρ x,ρ i with
  | .map kt e,false,.opq j,.int k n=>(match tdOf Γ kt,fmapOf j,Γ e with
   | .int k0,some p,some ti=>if k0=p.1/\k=p.1 then(match ti.d,ti.zero with
    | .func,[.nilf]=>fmF n (λv=>κ v []) p.2
    | _,_=>none)else none
   | _,_,_=>none)
  | _,_,_,_=>none
 | .extract x i=>match ρ x with
  | .tuple vs=>match vs[i]? with|some v=>κ v []|none=>none
  | _=>none
 | .call c=>match c.callee with
  | .builtin b=>builtinF Γ ob slot b c.argTypes.toList (c.args.toList.map ρ) κ
  | .value f=>match ρ f with
   | .func (.func id) first captured=>match pickE ob (first++c.args.toList.map ρ++captured) (K id)with
    | some e=>callF e ob (first++c.args.toList.map ρ++captured) κ
    | none=>none
   | _=>none
  | _=>none
 | _=>none
end
structure St where
 t:List AV
 o:Store
def gvar(g:Nat):AV:=match globT g with|some p => .elt p.1 p.2 0|none => .top
def St.ev(st:St):Operand->AV
 | .tmp t=>st.t.getD t .top
 | .const v=>ofConst v
 | .func f => .func (.func f) [] []
 | .global g=>gvar g
def wr(ob:Store):List Wr->Store
 | []=>ob
 | .obj o cs::r=>wr (ob.set o cs) r
 | .new cs::r=>wr (ob++[cs]) r
def St.put(st:St)(d:Option Tmp)(v:AV):List AV:=match d with|some d=>st.t.set d v|none=>st.t
section
variable {R:Type}
def aops(Γ:Tys)(K:Calls')(ops:Array Oper):List Oper->St->(St->Option R)->Option R
 | [],st,κ=>κ st
 | o::rest,st,κ =>
  let run (st:St):Option R:=opF Γ K st.ev st.o st.o.length o.op λv ws=>aops Γ K ops rest ⟨st.put o.dst v,wr st.o ws⟩ κ
  let skip (st:St):Option R:=aops Γ K ops rest ⟨st.put o.dst (.tuple []),st.o⟩ κ
  match o.guard with
  | none=>run st
  | some (j,want)=>match (ops[j]?).bind (·.dst)with
   | some d=>match st.t[d]? with
    | some (.bool b) =>
     cond b (match want with|true=>run ⟨st.t.set d (.bool true),st.o⟩|false=>skip ⟨st.t.set d (.bool true),st.o⟩)
      (match want with|true=>skip ⟨st.t.set d (.bool false),st.o⟩|false=>run ⟨st.t.set d (.bool false),st.o⟩)
    | some (.tuple [])=>skip st
    | _=>none
   | none=>none
def memN(n:Nat):List Nat->Bool
 | []=>false
 | x::r=>match Nat.beq x n with|true=>true|false=>memN n r
mutual
def AV.ren(ρ:Nat->Nat):AV->AV
 | .row o => .row (ρ o) | .win o sz off n => .win (ρ o) sz off n | .ptr o off => .ptr (ρ o) off | .rel o sz i off => .rel (ρ o) sz i off
 | .func fn f c => .func fn (renL ρ f) (renL ρ c) | .iface t v => .iface t (v.ren ρ)
 | .agg cs => .agg (renL ρ cs) | .tuple vs => .tuple (renL ρ vs)
 | .top => .top | .int k n => .int k n | .bool b => .bool b | .str s => .str s | .lst T l => .lst T l | .rowc e T l => .rowc e T l | .frow T l => .frow T l | .siter s p => .siter s p | .arrc e T l => .arrc e T l
 | .vals e n cs => .vals e n (renL ρ cs) | .bldr t o => .bldr t (ρ o)
 | .nils => .nils | .nilp => .nilp | .elt T x off => .elt T x off | .nilf => .nilf | .nili => .nili | .opq i => .opq i | .nilm => .nilm
def renL(ρ:Nat->Nat):List AV->List AV
 | []=>[]
 | a::as=>a.ren ρ::renL ρ as
end
def AV.objs:Nat->AV->List Nat
 | _,.row o=>[o]|_,.win o _ _ _=>[o]|_,.ptr o _=>[o]|_,.rel o _ _ _=>[o]|_,.bldr _ o=>[o]
 | n+1,.func _ f c=>f.flatMap (AV.objs n)++c.flatMap (AV.objs n)|n+1,.iface _ v=>v.objs n
 | n+1,.agg cs=>cs.flatMap (AV.objs n)|n+1,.tuple vs=>vs.flatMap (AV.objs n)|n+1,.vals _ _ cs=>cs.flatMap (AV.objs n)
 | _,_=>[]
def addN:List Nat->List Nat->List Nat
 | [],l=>l
 | x::r,l=>addN r (match memN x l with|true=>l|false=>x::l)
def closeO(ob:Store):Nat->List Nat->List Nat
 | 0,l=>l
 | n+1,l=>closeO ob n (addN (l.flatMap λo=>(ob.getD o []).flatMap (AV.objs 4)) l)
def fpF(ob:Store)(ev:Operand->AV)(op:Op):List Nat:=match op with
 | .move _ | .assign _ | .nilCheck _ | .fieldAddr _ _ _ | .extract _ _=>[]
 | .indexAddr _ x _=>match ev x with
  | .win _ _ _ _=>[]
  | _=>closeO ob 3 (addN (op.operands.toList.flatMap λx=>(ev x).objs 4) [])
 | _=>closeO ob 3 (addN (op.operands.toList.flatMap λx=>(ev x).objs 4) [])
def maskF(fp:List Nat):Nat->Store->Store
 | _,[]=>[]
 | i,cs::r=>(match memN i fp with|true=>cs|false=>[])::maskF fp (i+1) r
def tmF(us:List Nat)(t:List AV)(i:Nat):AV:=match memN i us with|true=>t.getD i .top|false => .top
def evF(t:Nat->AV):Operand->AV
 | .tmp i=>t i
 | .const v=>ofConst v
 | .func f => .func (.func f) [] []
 | .global g=>gvar g
def slotF(L b i:Nat):Nat:=match Nat.blt i L with|true=>i|false=>b+(i-L)
def newsF(ρ:Nat->Nat):Nat->List Wr->List (Nat×List AV)
 | _,[]=>[]
 | b,.obj o cs::r=>(o,renL ρ cs)::newsF ρ b r
 | b,.new cs::r=>(b,renL ρ cs)::newsF ρ (b+1) r
def setAll(ob:Store):List (Nat×List AV)->Store
 | []=>ob
 | p::r=>setAll (ob.set p.1 p.2) r
def wrsOf:List Wr->List Nat
 | []=>[]
 | .obj o _::r=>addN [o] (wrsOf r)
 | .new _::r=>wrsOf r
def newsN:List Wr->Nat
 | []=>0
 | .obj _ _::r=>newsN r
 | .new _::r=>newsN r+1
def allN(f:Nat->Bool):List Nat->Bool
 | []=>true
 | x::r=>match f x with|true=>allN f r|false=>false
structure Inf where
 k:Nat
 us:List Nat
 fp:List Nat
 wrs:List Nat
 b:Nat
 n:Nat
def okW(x:Inf)(ws:List Wr):Bool:=(Nat.ble (newsN ws) x.n&&allN (λo=>memN o x.wrs) (wrsOf ws))&&(allN (λo=>memN o x.fp) x.wrs&&allN (λo=>Nat.blt o x.b) x.fp)
def nslots(K:Calls'):Op->Nat
 | .alloc _=>2
 | .box _ _ | .buildSlice _ _ _ | .makeSlice _ _ _ | .range _ _ | .convert _ _ _=>1
 | .call c=>match c.callee with
  | .builtin .append=>1
  | .value (.func id)=>(K id).foldl (λn e=>Nat.max n (e.outs.foldl (λn l=>Nat.max n (nobj l.2)) 0)) 0
  | .value _=>4
  | _=>0
 | _=>0
def apartN(xs ys:List Nat):Bool:=allN (λo => !memN o ys) xs
def Inf.ws(x:Inf):List Nat:=x.wrs++List.range' x.b x.n
def indepD(ops:Array Oper)(x y:Inf):Bool :=
 let dx:=(ops[x.k]?).bind (·.dst)
 let dy:=(ops[y.k]?).bind (·.dst)
 ((match dx with|some d => !memN d y.us&&(match dy with|some d' => !Nat.beq d d'|none=>true)|none=>true)&&(match dy with|some d => !memN d x.us|none=>true)) &&
 (apartN x.ws y.fp&&apartN y.ws x.fp&&apartN x.ws y.ws)
def reachD(ops:Array Oper):Nat->Nat->Nat->Bool
 | 0,_,_=>false
 | n+1,k,j=>match ops[j]? with
  | some o=>o.after.toList.any λe=>Region.binds .any e&&(Nat.beq e.on k||reachD ops n k e.on)
  | none=>false
def indepAll(ops:Array Oper)(l:List Inf):Bool:=l.all λx=>l.all λy => !Nat.blt x.k y.k||(indepD ops x y||(reachD ops 1 x.k y.k||reachD ops 3 x.k y.k))
section
variable {R:Type}
def dops(Γ:Tys)(K:Calls')(L:Nat)(ops:Array Oper):List Oper->Nat->Nat->List Inf->St->(St->Option R)->Option R
 | [],_,_,acc,st,κ=>cond (indepAll ops acc) (κ st) none
 | o::rest,k,b,acc,st,κ =>
  let us:=o.looksAt ops
  let n:=nslots K o.op
  let fp:=fpF st.o (evF (tmF us st.t)) o.op
  let run (st:St):Option R:=opF Γ K (evF (tmF us st.t)) (maskF fp 0 st.o) L o.op λav ws =>
   cond (okW ⟨k,us,fp,wrsOf ws,b,n⟩ ws) (dops Γ K L ops rest (k+1) (b+n) (⟨k,us,fp,wrsOf ws,b,n⟩::acc) ⟨st.put o.dst (av.ren (slotF L b)),setAll st.o (newsF (slotF L b) b ws)⟩ κ) none
  let skip (st:St):Option R:=dops Γ K L ops rest (k+1) (b+n) (⟨k,us,fp,[],b,n⟩::acc) ⟨st.put o.dst (.tuple []),st.o⟩ κ
  cond (o.after.toList.all λe => !Region.binds .any e||Nat.blt e.on k) (match o.guard with
  | none=>run st
  | some (j,want)=>match (ops[j]?).bind (·.dst)with
   | some d=>match memN d us with
    | true=>match st.t[d]? with
     | some (.bool b) =>
      cond b (match want with|true=>run ⟨st.t.set d (.bool true),st.o⟩|false=>skip ⟨st.t.set d (.bool true),st.o⟩)
       (match want with|true=>skip ⟨st.t.set d (.bool false),st.o⟩|false=>run ⟨st.t.set d (.bool false),st.o⟩)
     | some (.tuple [])=>skip st
     | _=>none
    | false=>none
   | none=>none) none
def slotsAll(K:Calls'):List Oper->Nat
 | []=>0
 | o::r=>nslots K o.op+slotsAll K r
def dregion(Γ:Tys)(K:Calls')(ops:Array Oper)(st:St)(κ:St->Option R):Option R :=
 dops Γ K (st.o.length+slotsAll K ops.toList) ops ops.toList 0 st.o.length [] ⟨st.t,st.o++List.replicate (slotsAll K ops.toList) []⟩ κ
end
structure LEnt where
 ins:List Sh
 outs:Outs
 fn:HS ins->Option (OTy outs)
inductive Ann where
 | nil
 | seq (a b:Ann)|cond (a b:Ann)|blk (a:Ann)
 | cut (a:Ann) (e:LEnt)      
 | loop (e:LEnt)
 | unroll (k:Nat) (a:Ann)    
 | peel (a:Ann) (e:LEnt)     
 | scope (a:Ann) (l:List (Nat×LEnt))
def Ann.l:Ann->Ann | .seq a _=>a | .cut a _=>a | .cond a _=>a | .blk a=>a | .scope a _=>a|_ => .nil
def Ann.r:Ann->Ann | .seq _ b=>b | .cond _ b=>b|_ => .nil
def Ann.find(l:Nat):List (Nat×LEnt)->Option LEnt
 | []=>none
 | p::r=>match Nat.beq p.1 l with|true=>some p.2|false=>Ann.find l r
def Ann.cuts:Ann->Option LEnt | .cut _ e=>some e|_=>none
def Ann.labels:Ann->List (Nat×LEnt) | .scope _ l=>l|_=>[]
def ms0(np:Nat):MS:=⟨(List.range np).map some,[]⟩
def runL(np:Nat)(e:LEnt)(st:St)(κ:AX->St->Option R):Option R :=
 match mt st.o e.ins st.t 0 (ms0 np)with
 | some (v,_)=>(e.fn v).bind λy=>ocase e.outs y λax l u=>κ ax ⟨(em id l u).1,(em id l u).2⟩
 | none=>none
def unr(f:St->(AX->St->Option R)->Option R)(κ:AX->St->Option R):Nat->St->Option R
 | 0,_=>none
 | k+1,st=>f st λax st'=>match ax with
  | .normal=>unr f κ k st'
  | ax=>κ ax st'
def aev(Γ:Tys)(K:Calls')(np:Nat):Code->Ann->St->(AX->St->Option R)->Option R
 | .skip,_,st,κ=>κ .normal st
 | .label _,_,st,κ=>κ .normal st
 | .region _ ops d,_,st,κ=>cond d (dregion Γ K ops st (κ .normal)) (aops Γ K ops ops.toList st (κ .normal))
 | .seq a b,n,st,κ=>aev Γ K np a n.l st λe st'=>match e with
  | .normal=>match n.cuts with
   | some e=>runL np e st' κ
   | none=>aev Γ K np b n.r st' κ
  | e=>κ e st'
 | .cond c x y,n,st,κ=>match c with
  | .tmp t=>match st.t[t]? with
   | some (.bool b)=>cond b (aev Γ K np x n.l ⟨st.t.set t (.bool true),st.o⟩ κ) (aev Γ K np y n.r ⟨st.t.set t (.bool false),st.o⟩ κ)
   | _=>none
  | .const (.bool b)=>cond b (aev Γ K np x n.l st κ) (aev Γ K np y n.r st κ)
  | _=>none
 | .block id c,n,st,κ=>aev Γ K np c n.l st λe st'=>match e with
  | .exit id'=>if id'=id then κ .normal st' else κ (.exit id') st'
  | e=>κ e st'
 | .loop c,n,st,κ=>match n with
  | .loop e=>runL np e st κ
  | .unroll k a=>unr (λst κ=>aev Γ K np c a st κ) κ k st
  | .peel a e=>aev Γ K np c a st λax st'=>match ax with
   | .normal=>runL np e st' κ
   | ax=>κ ax st'
  | _=>none
 | .exit id,_,st,κ=>κ (.exit id) st
 | .goto l,_,st,κ=>κ (.goto l) st
 | .ret,_,st,κ=>κ .ret st
 | .scope c,n,st,κ=>aev Γ K np c n.l st λe st'=>match e with
  | .goto l=>match Ann.find l n.labels with
   | some e=>runL np e st' κ
   | none=>none
  | e=>κ e st'
 | _,_,_,_=>none
def aresult(Γ:Tys)(st:St):ResultVar->Option AV
 | .tmp t=>st.t[t]?
 | .cell a t=>match st.t[a]?,Γ t with
  | some (.ptr o off),some ti=>match st.o[o]? with
   | some [.siter _ _]=>none
   | some [.arrc _ T l]=>(match ti.d with
    | .array n _=>if off=0/\ti.size=n*T.size then cond (decide (l.length=n)) (some (.agg ((List.range n).flatMap λj=>T.leaves (l.getD j T.dflt)))) none else none
    | _=>none)
   | some [.vals _ _ _]=>none
   | some [.bldr _ _]=>none
   | some cs=>part ti cs off
   | none=>none
  | _,_=>none
def aresults(Γ:Tys)(st:St)(rs:List ResultVar):Option AV :=
 match rs with
 | [r]=>aresult Γ st r
 | rs=>(rs.mapM (aresult Γ st)).map .tuple
def afun(Γ:Tys)(K:Calls')(np nt:Nat)(rs:List ResultVar)(body:Code)(n:Ann)(args:List AV)(ob:Store)(κ:AV->Store->Option R):Option R :=
 aev Γ K np body n ⟨args++List.replicate (nt-args.length) (.tuple []),ob⟩ λe st=>match e with
  | .normal | .ret=>match aresults Γ st rs with|some v=>κ v st.o|none=>none
  | _=>none
def ofin(np:Nat):(os:Outs)->AV->Store->Option (OTy os)
 | [],_,_=>none
 | [l],v,ob=>match mt ob l.2 [v] 0 (ms0 np)with
  | some (x,_)=>some x
  | none=>none
 | l::l'::r,v,ob=>match mt ob l.2 [v] 0 (ms0 np)with
  | some (x,_)=>some (.inl x)
  | none=>match ofin np (l'::r) v ob with
   | some z=>some (.inr z)
   | none=>none
def oout(np:Nat):(os:Outs)->AX->St->Option (OTy os)
 | [],_,_=>none
 | [l],e,st=>if l.1=e then(match mt st.o l.2 st.t 0 (ms0 np)with
  | some (x,_)=>some x
  | none=>none)else none
 | l::l'::r,e,st=>match (if l.1=e then mt st.o l.2 st.t 0 (ms0 np)else none)with
  | some (x,_)=>some (.inl x)
  | none=>match oout np (l'::r) e st with
   | some z=>some (.inr z)
   | none=>none
def around(np:Nat)(ins:List Sh)(os:Outs)(e:AX)(st:St):Option (HS ins⊕OTy os):=match e with
 | .normal=>match mt st.o ins st.t 0 (ms0 np)with
  | some (x,_)=>some (.inl x)
  | none=>none
 | e=>match oout np os e st with
  | some y=>some (.inr y)
  | none=>none
def loopN{α β:Type}(F:α->Option (α⊕β)):Nat->α->Option β
 | 0,_=>none
 | n+1,v=>(F v).bind (Sum.elim (loopN F n) some)
end
end Go.Ae
namespace Go.Ae
def tens:List Int:=[1,10,100,1000,10000,100000,1000000,10000000,100000000,1000000000,10000000000,100000000000,1000000000000,10000000000000,100000000000000,1000000000000000,10000000000000000,100000000000000000,1000000000000000000,10000000000000000000]
def tabAt(w:World)(b:Nat)(k:IntKind)(zs:List Int):Prop:=∃ty fz,w.heap[b]? = some (.cells (zs.map λz=>Value.int k z).toArray ty fz)
def wordsL:List (List UInt8):=[[69,72,76,79],[72,69,76,79],[77,65,73,76],[82,67,80,84],[68,65,84,65],[82,83,69,84],[78,79,79,80],[81,85,73,84]]
def GlobI(w:World):Prop:=(∃m,w.cell? ⟨1,0,none⟩=some (.int .i64 m))/\tabAt w 6 .u64 tens/\(∃ty fz,w.heap[0]? = some (.cells (wordsL.map λs=>Value.string ⟨⟨s⟩⟩).toArray ty fz)) /\
 (∃tp p,w.cell? ⟨4,0,none⟩=some (.iface tp p))/\∃tp p,w.cell? ⟨5,0,none⟩=some (.iface tp p)
def GlobB:List Nat:=[0,1,4,5,6]
theorem glob_st(w w':World)(h:∀b∈GlobB,w'.heap[b]? = w.heap[b]?)(k:GlobI w):GlobI w':=by
 obtain⟨⟨m,k⟩,k1,k0,⟨t4,p4,k4⟩,t5,p5,k5⟩:=k;refine⟨⟨m,(cell?_of_block (h _ (by simp[GlobB]))).trans k⟩,?_,?_,⟨t4,p4,(cell?_of_block (h _ (by simp[GlobB]))).trans k4⟩,t5,p5,(cell?_of_block (h _ (by simp[GlobB]))).trans k5⟩
 . unfold tabAt;rw[h 6 (by simp[GlobB])];exact k1
 . rw[h 0 (by simp[GlobB])];exact k0
def splitT:List (Int×Int×Int×Bool×Bool):=[(160,32,0,true,true),(178,50,0,true,true),(179,51,0,true,true),(192,65,768,false,false),(193,65,769,false,false),(194,65,770,false,false),(195,65,771,false,false),(196,65,776,false,false),(197,65,778,false,false),(199,67,807,false,false),(200,69,768,false,false),(201,69,769,false,false),(202,69,770,false,false),(203,69,776,false,false),(209,78,771,false,false),(214,79,776,false,false),(220,85,776,false,false),(224,97,768,false,false),(225,97,769,false,false),(226,97,770,false,false),(227,97,771,false,false),(228,97,776,false,false),(229,97,778,false,false),(231,99,807,false,false),(232,101,768,false,false),(233,101,769,false,false),(234,101,770,false,false),(235,101,776,false,false),(241,110,771,false,false),(246,111,776,false,false),(252,117,776,false,false),(1049,1048,774,false,false),(1081,1080,774,false,false),(2392,2325,2364,false,true),(7844,194,769,false,false),(7845,226,769,false,false),(8490,75,0,false,true),(8491,197,0,false,true),(12460,12459,12441,false,false),(12468,12467,12441,false,false),(64257,102,105,true,true),(64258,102,108,true,true)]
def splitV(s:Int×Int×Int×Bool×Bool):Value := .agg #[.int .i32 s.1,.int .i32 s.2.1,.int .i32 s.2.2.1,.bool s.2.2.2.1,.bool s.2.2.2.2]
def splitE(l:List (Int×Int×Int×Bool×Bool)):List (Value×Value):=l.map λs=>(.int .i32 s.1,splitV s)
def pairE(l:List (Int×Int×Int×Bool×Bool)):List (Value×Value):=(l.filter λs => !s.2.2.2.1 && !s.2.2.2.2).map λs=>(.agg #[.int .i32 s.2.1,.int .i32 s.2.2.1],.int .i32 s.1)
def Opq:Nat->Obj->Prop
 | 0,o=>HasE o (splitE splitT)
 | 1,o=>HasE o (pairE splitT)
 | 2,o=>HasE o (rulesT.map λq=>(.int .i32 q.1,.func (.func q.2) #[] #[]))
 | _,_=>False
theorem opq_fmap:∀(i:Nat) (o:Obj) (p:IntKind×List (Int×FuncId)),Opq i o->fmapOf i=some p->HasE o (p.2.map λq=>(.int p.1 q.1,.func (.func q.2) #[] #[]))
 | 0,_,_,_,h|1,_,_,_,h|_+3,_,_,_,h=>by cases h
 | 2,o,p,h,e=>by cases e;exact h
theorem glob_cells(w:World)(k:GlobI w)(g:Nat)(p:(T:Ty)×T.den)(h:globT g=some p):g∈GlobB/\∃us,flatV p.1 p.2=some us/\∀(i:Nat) u,us[i]? = some u->w.cell? ⟨g,i,none⟩=some u:=by
 obtain⟨_,_,⟨ty,fz,k0⟩,_⟩:=k
 match g,h with
 | 0,h =>
  cases h;refine⟨by simp[GlobB],wordsL.map λs=>Value.string ⟨⟨s⟩⟩,rfl,λi u hu => ?_⟩;simp only[World.cell?,k0];simpa using hu
 | n+1,h=>cases h
end Go.Ae
set_option linter.unusedSimpArgs false
namespace Go.Ae
open Go.RowKit
def Rng(k:IntKind)(n:Int):Prop:=k = .u8->0<=n/\n<=255
theorem inR_iff(k:IntKind)(n:Int)(h:inR k n=true):Rng k n:=by
 rintro rfl;simpa[inR]using h
theorem Rng.wrap(k:IntKind)(n:Int):Rng k (k.wrap n):=by
 rintro rfl;simp[IntKind.wrap,IntKind.signed,IntKind.bits];omega
theorem Rng.of_ne{k:IntKind}{n:Int}(h:k ≠ .u8):Rng k n:=λe=>absurd e h
theorem Rng.byte(c:UInt8):Rng .u8 (c.toNat:Int):=λ_=>by have:=c.toNat_lt;omega
structure Md where
 n:Nat->Prop
 a:Nat->Prop
instance : CoeFun Md (λ_ => Nat -> Prop) := ⟨Md.a⟩
def asL{t:Ty}(l:(Ty.lst t).den):List t.den:=l
def RepT(w:World)(m:Md):(T:Ty)->T.den->List Value->Prop
 | .int k,n,vs=>vs=[.int k n]/\Rng k n
 | .byte,c,vs=>vs=[.int .u8 ((c:UInt8).toNat:Int)]
 | .bool,b,vs=>vs=[.bool b]
 | .str,s,vs=>vs=[.string ⟨⟨s⟩⟩]
 | .lst t,l,vs=>∃ao cap,vs=[.slice ao (asL l).length cap]/\(asL l).length<=cap/\cap<=9223372036854775807/\(ao=none->cap=0) /\
  ∀(j:Nat) (x:t.den),(asL l)[j]? = some x->∃b o us,ao=some ⟨b,o,none⟩/\RepT w m t x us/\us.length=t.size/\b<w.heap.size/\¬m b /\
   ∀i u,us[i]? = some u->w.cell? ⟨b,o+j*t.size+i,none⟩=some u
 | .pair a b,x,vs=>∃v1 v2,vs=v1++v2/\RepT w m a (x:a.den×b.den).1 v1/\RepT w m b (x:a.den×b.den).2 v2
 | .unit,_,vs=>vs=[]
theorem RepT.length{w:World}{m:Md}:∀{T:Ty} {x:T.den} {vs:List Value},RepT w m T x vs->vs.length=T.size:=by
 intro T
 induction T with
 | int k=>intro x vs h;rw[h.1];rfl
 | byte=>intro x vs h;rw[show vs=_ from h];rfl
 | bool=>intro x vs h;rw[show vs=_ from h];rfl
 | str=>intro x vs h;rw[show vs=_ from h];rfl
 | lst t _=>intro x vs h;obtain⟨ao,cap,rfl,_⟩:=h;rfl
 | pair a b iha ihb=>intro x vs h;obtain⟨v1,v2,rfl,h1,h2⟩:=h;simp[Ty.size,iha h1,ihb h2]
 | unit=>intro x vs h;rw[show vs=_ from h];rfl
structure Stp (w:World) (m:Md) (w':World) (m':Md):Prop where
 os:w'.os=w.os
 tape:w'.tape=w.tape
 output:w'.output=w.output
 size:w.heap.size<=w'.heap.size
 nm:∀b,m.n b->m.a b
 keep:∀b,b<w.heap.size->¬m.n b->w'.heap[b]? = w.heap[b]?
 mutb:∀b,b<w.heap.size->m' b->m b
 mutn:∀b,b<w.heap.size->m'.n b->m.n b
 stay:∀b,b<w.heap.size->m b->¬m.n b->m' b
theorem Stp.refl(w:World){m:Md}(h:∀b,m.n b->m.a b):Stp w m w m:=⟨rfl,rfl,rfl,le_refl _,h,λ_ _ _=>rfl,λ_ _ h=>h,λ_ _ h=>h,λ_ _ h _=>h⟩
theorem Stp.trans{w w1 w2:World}{m m1 m2:Md}(h:Stp w m w1 m1)(k:Stp w1 m1 w2 m2):Stp w m w2 m2 :=
 ⟨k.os.trans h.os,k.tape.trans h.tape,k.output.trans h.output,le_trans h.size k.size,h.nm,
  λb hb hm=>(k.keep b (lt_of_lt_of_le hb h.size) (λh1=>hm (h.mutn b hb h1))).trans (h.keep b hb hm),
  λb hb h2=>h.mutb b hb (k.mutb b (lt_of_lt_of_le hb h.size) h2),
  λb hb h2=>h.mutn b hb (k.mutn b (lt_of_lt_of_le hb h.size) h2),
  λb hb h1 h2=>k.stay b (lt_of_lt_of_le hb h.size) (h.stay b hb h1 h2) λh3=>h2 (h.mutn b hb h3)⟩
theorem Stp.less(w:World){m m':Md}(hn:∀b,m.n b->m.a b)(h:∀b,m' b->m b)(h2:∀b,m'.n b->m.n b)(h3:∀b,m b->¬m.n b->m' b):Stp w m w m':=⟨rfl,rfl,rfl,le_refl _,hn,λ_ _ _=>rfl,λb _=>h b,λb _=>h2 b,λb _=>h3 b⟩
theorem Stp.cell{w w':World}{m m':Md}(h:Stp w m w' m'){a:Addr}(hb:a.block<w.heap.size)(hm:¬m a.block):w'.cell? a=w.cell? a :=
 cell?_of_block (h.keep _ hb λh'=>hm (h.nm _ h'))
structure GI (w:World) (m:Md):Prop where
 i:GlobI w
 b:∀b∈GlobB,b<w.heap.size/\¬m.a b
theorem GI.mono{w w':World}{m m':Md}(h:GI w m)(s:Stp w m w' m'):GI w' m' :=
 ⟨glob_st w w' (λb hb=>s.keep b (h.b b hb).1 λh'=>(h.b b hb).2 (s.nm b h')) h.i,λb hb=>⟨lt_of_lt_of_le (h.b b hb).1 s.size,λh'=>(h.b b hb).2 (s.mutb b (h.b b hb).1 h')⟩⟩
theorem flatV_rep{w:World}{m:Md}:∀{T:Ty} {x:T.den} {us:List Value},flatV T x=some us->RepT w m T x us:=by
 intro T
 induction T with
 | int k =>
  intro x us h;unfold flatV at h;split at h
  . cases h
  . rename_i hk;cases h;exact⟨rfl,λe=>absurd e hk⟩
 | byte=>intro x us h;cases h;rfl
 | bool=>intro x us h;cases h;rfl
 | str=>intro x us h;cases h;rfl
 | lst t _=>intro x us h;cases h
 | pair a b iha ihb =>
  intro x us h;unfold flatV at h;split at h
  . rename_i u v hu hv;cases h;exact⟨u,v,rfl,iha hu,ihb hv⟩
  . cases h
 | unit=>intro x us h;cases h;rfl
theorem RepT.mono{w w':World}{m m':Md}(hs:Stp w m w' m'):∀{T:Ty} {x:T.den} {vs:List Value},RepT w m T x vs->RepT w' m' T x vs:=by
 intro T
 induction T with
 | int k=>exact λh=>h
 | byte=>exact λh=>h
 | bool=>exact λh=>h
 | str=>exact λh=>h
 | lst t ih =>
  rintro x vs ⟨ao,cap,rfl,h1,h2,h0,h⟩;refine⟨ao,cap,rfl,h1,h2,h0,λj y hy => ?_⟩;obtain⟨b,o,us,rfl,hr,hl,hb,hm,hc⟩:=h j y hy;exact⟨b,o,us,rfl,ih hr,hl,lt_of_lt_of_le hb hs.size,λh'=>hm (hs.mutb b hb h'),λi u hu=>(hs.cell (a:=⟨b,_,none⟩) hb hm).trans (hc i u hu)⟩
 | pair a b iha ihb=>rintro x vs ⟨v1,v2,rfl,h1,h2⟩;exact⟨v1,v2,rfl,iha h1,ihb h2⟩
 | unit=>exact λh=>h
mutual
def RepV(w:World)(m:Md)(g:List Value):AV->Value->Prop
 | .top,_=>True
 | .int k n,v=>v = .int k n/\Rng k n
 | .bool b,v=>v = .bool b
 | .str s,v=>v = .string ⟨⟨s⟩⟩
 | .lst T l,v=>RepT w m (.lst T) l [v]
 | .row o,v=>g[o]? = some v/\∃ao n c,v = .slice ao n c
 | .win o sz off n,v=>∃a0 n0 c0 ao cap,g[o]? = some (.slice a0 n0 c0)/\v = .slice ao n cap/\(0<n->∃b,a0=some ⟨b,0,none⟩/\off+n<=n0/\ao=some ⟨b,off*sz,none⟩)
 | .rowc _ _ _,_ | .frow _ _,_ | .siter _ _,_ | .arrc _ _ _,_ | .vals _ _ _,_ | .bldr _ _,_=>False
 | .nils,v=>v = .slice none 0 0
 | .ptr o off,v=>∃b,g[o]? = some (.pointer (some ⟨b,0,none⟩))/\v = .pointer (some ⟨b,off,none⟩)
 | .nilp,v=>v = .pointer none
 | .nilm,v=>v = .map none
 | .opq i,v=>∃b o,v = .map (some b)/\b<w.heap.size/\¬m b/\w.heap[b]? = some o/\Opq i o
 | .elt T x off,v=>∃b o us,v = .pointer (some ⟨b,o+off,none⟩)/\RepT w m T x us/\b<w.heap.size/\¬m b/\∀i u,us[i]? = some u->w.cell? ⟨b,o+i,none⟩=some u
 | .rel o sz i off,v=>∃b,((∃n c,g[o]? = some (.slice (some ⟨b,0,none⟩) n c)/\i<n)\/g[o]? = some (.pointer (some ⟨b,0,none⟩)))/\v = .pointer (some ⟨b,i*sz+off,none⟩)
 | .func fn f c,v=>∃fs cs,v = .func fn fs cs/\RepL w m g f fs.toList/\RepL w m g c cs.toList
 | .nilf,v=>v = .nilFunc
 | .iface t a,v=>∃u,v = .iface t u/\RepV w m g a u
 | .nili,v=>v = .nilIface
 | .agg cs,v=>∃a,v = .agg a/\RepL w m g cs a.toList
 | .tuple vs,v=>∃a,v = .tuple a/\RepL w m g vs a.toList
def RepL(w:World)(m:Md)(g:List Value):List AV->List Value->Prop
 | [],vs=>vs=[]
 | a::as,vs=>∃v r,vs=v::r/\RepV w m g a v/\RepL w m g as r
end
mutual
theorem RepV.mono{w w':World}{m m':Md}{g g':List Value}(hs:Stp w m w' m')(hg:∀(o:Nat) v,g[o]? = some v->g'[o]? = some v) :
 ∀(a:AV) (v:Value),RepV w m g a v->RepV w' m' g' a v
 | .top,_,_=>trivial
 | .int _ _,_,h=>h
 | .bool _,_,h=>h
 | .str _,_,h=>h
 | .lst _ _,_,h=>RepT.mono (T := .lst _) hs h
 | .row _,_,h=>⟨hg _ _ h.1,h.2⟩
 | .win _ _ _ _,_,⟨a0,n0,c0,ao,cap,h0,h1⟩=>⟨a0,n0,c0,ao,cap,hg _ _ h0,h1⟩
 | .rowc _ _ _,_,h=>h
 | .frow _ _,_,h=>h
 | .siter _ _,_,h=>h
 | .arrc _ _ _,_,h=>h
 | .vals _ _ _,_,h=>h
 | .bldr _ _,_,h=>h
 | .nils,_,h=>h
 | .ptr _ _,_,⟨b,h1,h2⟩=>⟨b,hg _ _ h1,h2⟩
 | .nilp,_,h=>h
 | .nilm,_,h=>h
 | .opq _,_,⟨b,o,h1,h2,h3,h4,h5⟩=>⟨b,o,h1,lt_of_lt_of_le h2 hs.size,λh'=>h3 (hs.mutb b h2 h'),(hs.keep b h2 λh'=>h3 (hs.nm b h')).trans h4,h5⟩
 | .elt _ _ _,_,⟨b,o,us,h1,h2,h3,h4,h5⟩=>⟨b,o,us,h1,h2.mono hs,lt_of_lt_of_le h3 hs.size,λh'=>h4 (hs.mutb b h3 h'),λi u hu=>(hs.cell (a:=⟨b,_,none⟩) h3 h4).trans (h5 i u hu)⟩
 | .rel _ _ _ _,_,⟨b,.inl ⟨n,c,h1,h3⟩,h2⟩=>⟨b,.inl ⟨n,c,hg _ _ h1,h3⟩,h2⟩
 | .rel _ _ _ _,_,⟨b,.inr h1,h2⟩=>⟨b,.inr (hg _ _ h1),h2⟩
 | .func _ f c,_,⟨fs,cs,h1,h2,h3⟩=>⟨fs,cs,h1,RepL.mono hs hg f _ h2,RepL.mono hs hg c _ h3⟩
 | .nilf,_,h=>h
 | .iface _ a,_,⟨u,h1,h2⟩=>⟨u,h1,RepV.mono hs hg a u h2⟩
 | .nili,_,h=>h
 | .agg cs,_,⟨a,h1,h2⟩=>⟨a,h1,RepL.mono hs hg cs _ h2⟩
 | .tuple vs,_,⟨a,h1,h2⟩=>⟨a,h1,RepL.mono hs hg vs _ h2⟩
theorem RepL.mono{w w':World}{m m':Md}{g g':List Value}(hs:Stp w m w' m')(hg:∀(o:Nat) v,g[o]? = some v->g'[o]? = some v) :
 ∀(as:List AV) (vs:List Value),RepL w m g as vs->RepL w' m' g' as vs
 | [],_,h=>h
 | a::as,_,⟨v,r,h1,h2,h3⟩=>⟨v,r,h1,RepV.mono hs hg a v h2,RepL.mono hs hg as r h3⟩
end
theorem RepL.nil{w:World}{m:Md}{g:List Value}:RepL w m g [] []:=rfl
theorem RepL.cons{w:World}{m:Md}{g:List Value}{a:AV}{v:Value}{as:List AV}{vs:List Value}(h:RepV w m g a v)(k:RepL w m g as vs):RepL w m g (a::as) (v::vs):=⟨v,vs,rfl,h,k⟩
theorem RepL.append{w:World}{m:Md}{g:List Value}:∀{as bs:List AV} {vs us:List Value},RepL w m g as vs->RepL w m g bs us->RepL w m g (as++bs) (vs++us)
 | [],_,_,_,h,k=>by rw[show _=[] from h];exact k
 | _::_,_,_,_,⟨v,r,h1,h2,h3⟩,k=>by subst h1;exact⟨v,_,rfl,h2,h3.append k⟩
theorem RepL.split{w:World}{m:Md}{g:List Value}:∀{as bs:List AV} {vs:List Value},RepL w m g (as++bs) vs->∃v1 v2,vs=v1++v2/\RepL w m g as v1/\RepL w m g bs v2
 | [],_,vs,h=>⟨[],vs,rfl,rfl,h⟩
 | _::_,_,_,⟨v,r,h1,h2,h3⟩=>by
  obtain⟨v1,v2,rfl,k1,k2⟩:=h3.split;exact⟨v::v1,v2,h1,⟨v,v1,rfl,h2,k1⟩,k2⟩
theorem RepL.length{w:World}{m:Md}{g:List Value}:∀{as:List AV} {vs:List Value},RepL w m g as vs->vs.length=as.length
 | [],_,h=>by rw[show _=[] from h];rfl
 | _::_,_,⟨v,r,h1,_,h3⟩=>by subst h1;simp[h3.length]
theorem RepL.get{w:World}{m:Md}{g:List Value}:∀{as:List AV} {vs:List Value},RepL w m g as vs->∀(i:Nat) a,as[i]? = some a->∃v,vs[i]? = some v/\RepV w m g a v
 | [],_,_,_,_,h=>by simp at h
 | _::_,_,⟨v,r,h1,h2,_⟩,0,a,h=>by subst h1;simp at h;subst h;exact⟨v,rfl,h2⟩
 | _::_,_,⟨v,r,h1,_,h3⟩,i+1,a,h=>by subst h1;simpa using h3.get i a (by simpa using h)
theorem RepL.of_get{w:World}{m:Md}{g:List Value}:∀{as:List AV} {vs:List Value},as.length=vs.length->(∀(i:Nat) a v,as[i]? = some a->vs[i]? = some v->RepV w m g a v)->RepL w m g as vs
 | [],[],_,_=>rfl
 | a::as,v::vs,hl,h=>⟨v,vs,rfl,h 0 a v rfl rfl,RepL.of_get (by simpa using hl) λi a v h1 h2=>h (i+1) a v (by simpa using h1) (by simpa using h2)⟩
 | [],_::_,hl,_=>by simp at hl
 | _::_,[],hl,_=>by simp at hl
theorem RepL.take{w:World}{m:Md}{g:List Value}{as:List AV}{vs:List Value}(h:RepL w m g as vs)(n:Nat):RepL w m g (as.take n) (vs.take n):=by
 refine RepL.of_get (by simp[h.length]) λi a v h1 h2 => ?_;rw[getElem?_take]at h1 h2;split at h1
 . rename_i hi
   rw[if_pos hi]at h2;obtain⟨v',h3,h4⟩:=h.get i a h1;rw[h2]at h3;cases h3;exact h4
 . cases h1
theorem RepL.drop{w:World}{m:Md}{g:List Value}{as:List AV}{vs:List Value}(h:RepL w m g as vs)(n:Nat):RepL w m g (as.drop n) (vs.drop n):=by
 refine RepL.of_get (by simp[h.length]) λi a v h1 h2 => ?_;rw[getElem?_drop]at h1 h2;obtain⟨v',h3,h4⟩:=h.get _ a h1;rw[h2]at h3;cases h3;exact h4
theorem repT_leaves{w:World}{m:Md}{g:List Value}:∀{T:Ty} {x:T.den} {vs:List Value},RepT w m T x vs->RepL w m g (T.leaves x) vs:=by
 intro T
 induction T with
 | int k=>rintro x vs ⟨rfl,h⟩;exact .cons ⟨rfl,h⟩ .nil
 | byte =>
  intro x vs h;rw[show vs=_ from h]
  exact .cons ⟨rfl,Rng.byte _⟩ .nil
 | bool=>intro x vs h;rw[show vs=_ from h];exact .cons rfl .nil
 | str=>intro x vs h;rw[show vs=_ from h];exact .cons rfl .nil
 | lst t _=>intro x vs h;have h':=h;obtain⟨ao,cap,rfl,_⟩:=h;exact .cons h' .nil
 | pair a b iha ihb=>rintro x vs ⟨v1,v2,rfl,h1,h2⟩;exact(iha h1).append (ihb h2)
 | unit=>intro x vs h;rw[show vs=_ from h];exact .nil
theorem castL_some{T T':Ty}{x:List T.den}{y:List T'.den}(h:castL T T' x=some y):∃e:T=T',e▸x=y:=by
 unfold castL at h;split at h
 . rename_i e;exact⟨e,by simpa using h⟩
 . cases h
theorem repT_parse{w:World}{m:Md}{g:List Value}:∀{T:Ty} {as:List AV} {vs:List Value} {x:T.den} {r:List AV},RepL w m g as vs->T.parse as=some (x,r) ->
 ∃v1 v2,vs=v1++v2/\RepT w m T x v1/\RepL w m g r v2:=by
 intro T
 induction T with
 | int k =>
  intro as vs x r h hp;cases as with
  | nil=>simp[Ty.parse]at hp
  | cons a as =>
   obtain⟨v,q,rfl,h1,h2⟩:=h;cases a<;>simp only[Ty.parse,reduceCtorEq]at hp
   rename_i k' n;split at hp
   . rename_i e;subst e
     simp only[Option.some.injEq,Prod.mk.injEq]at hp;obtain⟨rfl,rfl⟩:=hp;exact⟨[v],q,rfl,⟨by rw[h1.1],h1.2⟩,h2⟩
   . cases hp
 | byte =>
  intro as vs x r h hp;cases as with
  | nil=>simp[Ty.parse]at hp
  | cons a as =>
   obtain⟨v,q,rfl,h1,h2⟩:=h;cases a<;>try (simp only[Ty.parse,reduceCtorEq]at hp)
   rename_i k' n;cases k'<;>simp only[Ty.parse,reduceCtorEq,Option.some.injEq,Prod.mk.injEq]at hp
   obtain⟨rfl,rfl⟩:=hp;refine⟨[v],q,rfl,?_,h2⟩;obtain⟨rfl,hr⟩:=h1;replace hr:=hr rfl;show _=_;congr 2;have:n.toNat<256:=by omega
   simp[UInt8.toNat_ofNat',Nat.mod_eq_of_lt this];omega
 | bool =>
  intro as vs x r h hp;cases as with
  | nil=>simp[Ty.parse]at hp
  | cons a as =>
   obtain⟨v,q,rfl,h1,h2⟩:=h;cases a<;>simp only[Ty.parse,reduceCtorEq,Option.some.injEq,Prod.mk.injEq]at hp
   obtain⟨rfl,rfl⟩:=hp;exact⟨[v],q,rfl,by rw[show v=_ from h1];rfl,h2⟩
 | str =>
  intro as vs x r h hp;cases as with
  | nil=>simp[Ty.parse]at hp
  | cons a as =>
   obtain⟨v,q,rfl,h1,h2⟩:=h;cases a<;>simp only[Ty.parse,reduceCtorEq,Option.some.injEq,Prod.mk.injEq]at hp
   obtain⟨rfl,rfl⟩:=hp;exact⟨[v],q,rfl,by rw[show v=_ from h1];rfl,h2⟩
 | lst t _ =>
  intro as vs x r h hp;cases as with
  | nil=>simp[Ty.parse]at hp
  | cons a as =>
   obtain⟨v,q,rfl,h1,h2⟩:=h;cases a<;>simp only[Ty.parse,reduceCtorEq]at hp
   case lst T l =>
    obtain⟨y,hy,e⟩:=map_eq_some_iff.1 hp;obtain⟨rfl,rfl⟩:=Prod.mk.inj e;obtain⟨rfl,rfl⟩:=castL_some hy;exact⟨[v],q,rfl,h1,h2⟩
   case nils =>
    simp only[Option.some.injEq,Prod.mk.injEq]at hp;obtain⟨rfl,rfl⟩:=hp;refine⟨[v],q,rfl,⟨none,0,by rw[show v=_ from h1];rfl,le_refl _,by omega,λ_=>rfl,λj x hx => ?_⟩,h2⟩;exact absurd (show ([]:List t.den)[j]? = some x from hx) (by simp)
 | pair a b iha ihb =>
  intro as vs x r h hp;rw[show (Ty.pair a b).parse as=(match a.parse as with|some (x,r)=>(match b.parse r with|some (y,r)=>some ((x,y),r)|none=>none)|none=>none) by cases as<;>rfl]at hp;split at hp
  . rename_i y q hq
    split at hp
    . rename_i z q' hq'
      simp only[Option.some.injEq,Prod.mk.injEq]at hp;obtain⟨rfl,rfl⟩:=hp;obtain⟨v1,v2,rfl,k1,k2⟩:=iha h hq;obtain⟨v3,v4,rfl,k3,k4⟩:=ihb k2 hq';exact⟨v1++v3,v4,by simp,⟨v1,v3,rfl,k1,k3⟩,k4⟩
    . cases hp
  . cases hp
 | unit =>
  intro as vs x r h hp;rw[show Ty.unit.parse as=some ((),as) by cases as<;>rfl]at hp;obtain⟨_,rfl⟩:=Prod.mk.inj (Option.some.inj hp);exact⟨[],vs,rfl,rfl,h⟩
def blk(gi:Value):List AV->Option Nat
 | [.rowc _ _ _]=>gi.ownBlock
 | [.frow _ _]=>none
 | [.vals _ _ _]=>gi.ownBlock
 | []=>none
 | _=>match gi with | .pointer (some a)=>some a.block|_=>none
def isBox:List AV->Bool
 | [.rowc _ _ _]=>false
 | [.frow _ _]=>false
 | [.siter _ _]=>false
 | [.arrc _ _ _]=>false
 | [.vals _ _ _]=>false
 | [.bldr _ _]=>false
 | []=>false
 | _=>true
def Mu(g:List Value)(ob:Store)(b:Nat):Prop:=∃(i:Nat) (gi:Value) (cs:List AV),g[i]? = some gi/\ob[i]? = some cs/\blk gi cs=some b
def RepE(w:World)(m:Md)(T:Ty)(l:List T.den)(xs:List Value):Prop :=
 ∀(j:Nat) (x:T.den),l[j]? = some x->RepT w m T x ((xs.drop (j*T.size)).take T.size)
theorem RepE.mono{w w':World}{m m':Md}(hs:Stp w m w' m'){T:Ty}{l:List T.den}{xs:List Value}(h:RepE w m T l xs):RepE w' m' T l xs :=
 λj x hj=>(h j x hj).mono hs
def RepM(w:World)(m:Md)(g:List Value)(gi:Value):List AV->Prop
 | [.arrc _ T l]=>∃b ty arr,gi = .pointer (some ⟨b,0,none⟩)/\w.heap[b]? = some (.cells arr ty (0,0))/\arr.size=l.length*T.size/\RepE w m T l arr.toList
 | [.vals _ n cs]=>∃b ty arr c,gi = .slice (some ⟨b,0,none⟩) n c/\n<=c/\c<=9223372036854775807/\w.heap[b]? = some (.cells arr ty (0,0))/\RepL w m g cs arr.toList
 | [.bldr t o]=>∃b p v,gi = .pointer (some ⟨b,0,none⟩)/\w.heap[b]? = some (.cells #[p,v] t (0,0))/\(p = .pointer none\/p = .pointer (some ⟨b,0,none⟩))/\RepV w m g (.row o) v
 | _=>True
structure RepO (w:World) (m:Md) (g:List Value) (gi:Value) (cs:List AV):Prop where
 rowc:∀e T l,cs=[.rowc e T l]->∃xs,w.ownsRow 0 e T.size gi l.length xs/\RepE w m T l xs
 frow:∀T l,cs=[.frow T l]->RepT w m (.lst T) l [gi]
 box:isBox cs=true->∃b ty arr,gi = .pointer (some ⟨b,0,none⟩)/\w.heap[b]? = some (.cells arr ty (0,0))/\RepL w m g cs arr.toList
 iter:∀s p,cs=[.siter s p]->∃b,gi = .pointer (some ⟨b,0,none⟩)/\w.heap[b]? = some (.stringIter ⟨⟨s⟩⟩ p)
 more:RepM w m g gi cs
structure RepOb (w:World) (m:Md) (g:List Value) (ob:Store):Prop where
 gi:GI w m
 len:g.length=ob.length
 sub:∀b,Mu g ob b->m.n b
 nm:∀b,m.n b->m.a b
 lt:∀b,m b->b<w.heap.size
 obj:∀(i:Nat) gi cs,g[i]? = some gi->ob[i]? = some cs->RepO w m g gi cs
 sep:∀(i j:Nat) gi gj ci cj b,i≠j->g[i]? = some gi->ob[i]? = some ci->g[j]? = some gj->ob[j]? = some cj->blk gi ci=some b->blk gj cj≠some b
theorem RepOb.gvar{w:World}{m:Md}{g:List Value}{ob:Store}(h:RepOb w m g ob)(k:Nat):RepV w m g (gvar k) (.pointer (some ⟨k,0,none⟩)):=by
 unfold Go.Ae.gvar;split
 . rename_i p hp
   obtain⟨hb,us,h1,h2⟩:=glob_cells w h.gi.i k p hp;exact⟨k,0,us,rfl,flatV_rep h1,(h.gi.b k hb).1,(h.gi.b k hb).2,λi u hu=>by rw[zero_add];exact h2 i u hu⟩
 . trivial
theorem own_of_block{w w':World}{e:TypeId}{size n:Nat}{v:Value}{xs:List Value}(h:w.ownsRow 0 e size v n xs)(hb:∀b,v.ownBlock=some b->w'.heap[b]? = w.heap[b]?):w'.ownsRow 0 e size v n xs:=by
 refine⟨h.1,?_⟩;rcases h.2 with h|⟨g,cap,cur,rfl,h1,h2,h3⟩
 . exact .inl h
 . exact .inr ⟨g,cap,cur,rfl,h1,(hb g rfl).trans h2,h3⟩
theorem box_blk{gi:Value}{cs:List AV}{b:Nat}(h:isBox cs=true)(hg:gi = .pointer (some ⟨b,0,none⟩)):blk gi cs=some b:=by
 subst hg;unfold isBox at h;unfold blk;split at h<;>simp_all
theorem RepM.mono{w w':World}{m m':Md}{g g':List Value}{gi:Value}{cs:List AV}(h:RepM w m g gi cs)(hs:Stp w m w' m')(hg:∀(o:Nat) v,g[o]? = some v->g'[o]? = some v)(hb:∀b,blk gi cs=some b->w'.heap[b]? = w.heap[b]?):RepM w' m' g' gi cs:=by
 unfold RepM at *
 split at h
 . obtain⟨b,ty,arr,rfl,h1,h2,h3⟩:=h
   exact⟨b,ty,arr,rfl,(hb b rfl).trans h1,h2,h3.mono hs⟩
 . obtain⟨b,ty,arr,c,rfl,h0,h1,h2,h3⟩:=h
   exact⟨b,ty,arr,c,rfl,h0,h1,(hb b rfl).trans h2,h3.mono hs hg⟩
 . obtain⟨b,p,v,rfl,h1,h2,h3⟩:=h
   exact⟨b,p,v,rfl,(hb b rfl).trans h1,h2,⟨hg _ _ h3.1,h3.2⟩⟩
 . trivial
theorem RepM.of_box{w:World}{m:Md}{g:List Value}{gi:Value}{cs:List AV}(h:isBox cs=true):RepM w m g gi cs:=by
 unfold RepM;split
 . cases h
 . cases h
 . cases h
 . trivial
theorem RepO.mono{w w':World}{m m':Md}{g g':List Value}{gi:Value}{cs:List AV}(h:RepO w m g gi cs)(hs:Stp w m w' m')(hg:∀(o:Nat) v,g[o]? = some v->g'[o]? = some v)(hb:∀b,blk gi cs=some b->w'.heap[b]? = w.heap[b]?):RepO w' m' g' gi cs:=by
 refine⟨λe T l he => ?_,λT l he=>(h.frow T l he).mono hs,λhbx => ?_,λs p he => ?_,h.more.mono hs hg hb⟩
 . obtain⟨xs,h1,h2⟩:=h.rowc e T l he
   subst he;exact⟨xs,own_of_block h1 λb hbb=>hb b hbb,h2.mono hs⟩
 . obtain⟨b,ty,arr,h1,h2,h3⟩:=h.box hbx
   exact⟨b,ty,arr,h1,(hb b (box_blk hbx h1)).trans h2,h3.mono hs hg⟩
 . obtain⟨b,h1,h2⟩:=h.iter s p he
   subst he h1;exact⟨b,rfl,(hb b rfl).trans h2⟩
theorem not_rowc{w:World}{m:Md}{g:List Value}{e:TypeId}{T:Ty}{l:List T.den}{vs:List Value}(h:RepL w m g [.rowc e T l] vs):False:=by
 obtain⟨v,r,_,h1,_⟩:=h;exact h1
theorem not_frow{w:World}{m:Md}{g:List Value}{T:Ty}{l:List T.den}{vs:List Value}(h:RepL w m g [.frow T l] vs):False:=by
 obtain⟨v,r,_,h1,_⟩:=h;exact h1
theorem not_siter{w:World}{m:Md}{g:List Value}{s:List UInt8}{p:Nat}{vs:List Value}(h:RepL w m g [.siter s p] vs):False:=by
 obtain⟨v,r,_,h1,_⟩:=h;exact h1
theorem not_arrc{w:World}{m:Md}{g:List Value}{e:TypeId}{T:Ty}{l:List T.den}{vs:List Value}(h:RepL w m g [.arrc e T l] vs):False:=by
 obtain⟨v,r,_,h1,_⟩:=h;exact h1
theorem not_vals{w:World}{m:Md}{g:List Value}{e:TypeId}{n:Nat}{cs:List AV}{vs:List Value}(h:RepL w m g [.vals e n cs] vs):False:=by
 obtain⟨v,r,_,h1,_⟩:=h;exact h1
theorem not_bldr{w:World}{m:Md}{g:List Value}{t:TypeId}{o:Nat}{vs:List Value}(h:RepL w m g [.bldr t o] vs):False:=by
 obtain⟨v,r,_,h1,_⟩:=h;exact h1
theorem RepM.of_rep{w w':World}{m m':Md}{g g':List Value}{gi:Value}{cs:List AV}{vs:List Value}(h:RepL w m g cs vs):RepM w' m' g' gi cs:=by
 unfold RepM;split
 . exact(not_arrc h).elim
 . exact(not_vals h).elim
 . exact(not_bldr h).elim
 . trivial
theorem isBox_of_rep{w:World}{m:Md}{g:List Value}{cs:List AV}{vs:List Value}(h:RepL w m g cs vs)(hn:cs≠[]):isBox cs=true:=by
 unfold isBox;split
 . exact(not_rowc h).elim
 . exact(not_frow h).elim
 . exact(not_siter h).elim
 . exact(not_arrc h).elim
 . exact(not_vals h).elim
 . exact(not_bldr h).elim
 . exact absurd rfl hn
 . rfl
theorem RepO.dead(w:World)(m:Md)(g:List Value)(gi:Value):RepO w m g gi [] :=
 ⟨(λ_ _ _ h=>by cases h),(λ_ _ h=>by cases h),(λh=>by cases h),(λ_ _ h=>by cases h),trivial⟩
theorem RepO.blk_lt{w:World}{m:Md}{g:List Value}{gi:Value}{cs:List AV}(h:RepO w m g gi cs){b:Nat}(hb:blk gi cs=some b):b<w.heap.size:=by
 by_cases hx:isBox cs=true
 . obtain⟨b',ty,arr,h1,h2,_⟩:=h.box hx
   rw[box_blk hx h1]at hb;cases hb;exact(Array.getElem?_eq_some_iff.1 h2).1
 . unfold isBox at hx
   split at hx
   . obtain⟨xs,h1,_⟩:=h.rowc _ _ _ rfl
     exact(h1.lt b hb).2
   . simp[blk]at hb
   . obtain⟨b',h1,h2⟩:=h.iter _ _ rfl
     subst h1;simp only[blk,Option.some.injEq]at hb;subst hb;exact(Array.getElem?_eq_some_iff.1 h2).1
   . obtain⟨b',ty,arr,rfl,h1,_⟩:=h.more
     simp only[blk,Option.some.injEq]at hb;subst hb;exact(Array.getElem?_eq_some_iff.1 h1).1
   . obtain⟨b',ty,arr,c,rfl,_,_,h1,_⟩:=h.more
     have e:b'=b:=by simpa[blk,Value.ownBlock]using hb
     subst e;exact(Array.getElem?_eq_some_iff.1 h1).1
   . obtain⟨b',p,v,rfl,h1,_⟩:=h.more
     simp only[blk,Option.some.injEq]at hb;subst hb;exact(Array.getElem?_eq_some_iff.1 h1).1
   . simp[blk]at hb
   . exact absurd rfl hx
theorem set_get{α:Type}{l:List α}{o i:Nat}{x y:α}(h:(l.set o x)[i]? = some y):(i=o/\y=x/\o<l.length)\/(i≠o/\l[i]? = some y):=by
 rw[getElem?_set]at h;by_cases e:o=i
 . subst e
   by_cases hl:o<l.length
   . simp[hl]at h;exact .inl ⟨rfl,h.symm,hl⟩
   . simp[hl]at h
 . rw[if_neg e]at h;exact .inr ⟨λh=>e h.symm,h⟩
theorem app_get{α:Type}{l:List α}{i:Nat}{x y:α}(h:(l++[x])[i]? = some y):(i=l.length/\y=x)\/(i<l.length/\l[i]? = some y):=by
 rcases lt_or_ge i l.length with hi|hi
 . rw[getElem?_append_left hi]at h;exact .inr ⟨hi,h⟩
 . rw[List.getElem?_append_right hi]at h
   rcases Nat.eq_zero_or_pos (i-l.length)with e|e
   . rw[e]at h;simp at h;exact .inl ⟨by omega,h.symm⟩
   . rw[List.getElem?_eq_none (by simp;omega)]at h;cases h
theorem RepOb.set{w w':World}{m:Md}{g:List Value}{ob:Store}(h:RepOb w m g ob){o:Nat}{gi:Value}{cs cs':List AV}(hgo:g[o]? = some gi)(hob:ob[o]? = some cs)(hle:∀b,blk gi cs'=some b->blk gi cs=some b)(hos:w'.os=w.os)(ht:w'.tape=w.tape)(hou:w'.output=w.output)(hsz:w.heap.size<=w'.heap.size)(hk:∀b,b<w.heap.size->blk gi cs≠some b->w'.heap[b]? = w.heap[b]?)(hn:Stp w m w' m->RepO w' m g gi cs') :
 RepOb w' m g (ob.set o cs')/\Stp w m w' m:=by
 have hst:Stp w m w' m:=⟨hos,ht,hou,hsz,h.nm,λb hb hm=>hk b hb λe=>hm (h.sub b ⟨o,gi,cs,hgo,hob,e⟩),λb _ hb=>hb,λb _ hb=>hb,λb _ hb _=>hb⟩
 have hl:∀(i:Nat) gi' c1 b,g[i]? = some gi'->(ob.set o cs')[i]? = some c1->blk gi' c1=some b->∃c2,ob[i]? = some c2/\blk gi' c2=some b:=by
  intro i gi' c1 b h1 h2 h3;rcases set_get h2 with⟨rfl,rfl,_⟩|⟨_,h4⟩
  . rw[hgo]at h1;cases h1;exact⟨cs,hob,hle b h3⟩
  . exact⟨c1,h4,h3⟩
 refine⟨⟨h.gi.mono hst,by simpa using h.len,?_,h.nm,λb hb=>lt_of_lt_of_le (h.lt b hb) hsz,λi gi' cs1 h1 h2 => ?_,λi j gi1 gj ci cj b hij h1 h2 h3 h4 h5 h6 => ?_⟩,hst⟩
 . rintro b ⟨i,gi',c1,h1,h2,h3⟩
   obtain⟨c2,h4,h5⟩:=hl i gi' c1 b h1 h2 h3;exact h.sub b ⟨i,gi',c2,h1,h4,h5⟩
 . rcases set_get h2 with⟨rfl,rfl,_⟩|⟨hne,h4⟩
   . rw[hgo]at h1;cases h1;exact hn hst
   . exact(h.obj i gi' cs1 h1 h4).mono hst (λ_ _ h=>h) λb hb=>hk b ((h.obj i gi' cs1 h1 h4).blk_lt hb) λe=>h.sep o i gi gi' cs cs1 b (Ne.symm hne) hgo hob h1 h4 e hb
 . obtain⟨c2,k1,k2⟩:=hl i gi1 ci b h1 h2 h5
   obtain⟨c3,k3,k4⟩:=hl j gj cj b h3 h4 h6;exact h.sep i j gi1 gj c2 c3 b hij h1 k1 h3 k3 k2 k4
theorem RepOb.kill{w:World}{m:Md}{g:List Value}{ob:Store}(h:RepOb w m g ob)(o:Nat):RepOb w m g (ob.set o []):=by
 rcases lt_or_ge o ob.length with hlt|hge
 . exact(h.set (cs':=[]) (getElem?_eq_getElem (by rw[h.len];exact hlt)) (getElem?_eq_getElem hlt) (λb hb=>by simp[blk]at hb) rfl rfl rfl (le_refl _) (λ_ _ _=>rfl) λ_=>RepO.dead ..).1
 . rw[List.set_eq_of_length_le hge];exact h
theorem own_cells{w:World}{e:TypeId}{size n:Nat}{v:Value}{xs:List Value}(h:w.ownsRow 0 e size v n xs) :
 ∃ao cap,v = .slice ao n cap/\n<=cap/\cap<=9223372036854775807/\(ao=none->cap=0)/\(0<n->∃b,ao=some ⟨b,0,none⟩/\v.ownBlock=some b) /\
  ∀b,ao=some ⟨b,0,none⟩->v.ownBlock=some b/\b<w.heap.size/\∀(i:Nat) u,xs[i]? = some u->w.cell? ⟨b,i,none⟩=some u:=by
 rcases h.2 with⟨rfl,rfl⟩|⟨g,cap,cur,rfl,_,h2,h3,h4,h5,h6⟩
 . exact⟨none,0,rfl,le_refl _,by omega,(λ_=>rfl),(λh=>by omega),(λb hb=>by cases hb)⟩
 . refine⟨_,cap,rfl,h3,by simp only[maxLen]at h4;omega,(λh=>by cases h),λ_=>⟨g,rfl,rfl⟩,λb hb => ?_⟩
   cases hb;refine⟨rfl,(Array.getElem?_eq_some_iff.1 h2).1,λi u hu => ?_⟩;have:=h.cells (g:=g) rfl i u hu
   rwa[show (⟨g,0,none⟩:Addr).add i=⟨g,i,none⟩ by unfold Addr.add;split<;>simp_all]at this
theorem own_repT{w:World}{m:Md}{e:TypeId}{T:Ty}{v:Value}{l:List T.den}{xs:List Value}(h:w.ownsRow 0 e T.size v l.length xs)(hE:RepE w m T l xs)(hm:∀b,v.ownBlock=some b->¬m b) :
 RepT w m (.lst T) l [v]:=by
 obtain⟨ao,cap,rfl,h1,h2,h0,h3,h4⟩:=own_cells h;refine⟨ao,cap,rfl,h1,h2,h0,λj x hj => ?_⟩;have hlt:j<l.length:=(List.getElem?_eq_some_iff.1 (show l[j]? = some x from hj)).1;obtain⟨b,rfl,hb⟩:=h3 (by omega);obtain⟨_,h5,h6⟩:=h4 b rfl;have hr:=hE j x hj;refine⟨b,0,_,rfl,hr,hr.length,h5,hm b hb,λi u hu => ?_⟩;rw[getElem?_take]at hu;split at hu
 . rw[getElem?_drop]at hu
   rw[zero_add];exact h6 _ u hu
 . cases hu
theorem RepOb.less{w:World}{m m':Md}{g:List Value}{ob:Store}(h:RepOb w m g ob)(hs:∀b,Mu g ob b->m'.n b)(hm:∀b,m' b->m b)(hn:∀b,m'.n b->m.n b)(hnm:∀b,m'.n b->m' b)(hst:∀b,m b->¬m.n b->m' b):RepOb w m' g ob :=
 ⟨h.gi.mono (Stp.less w h.nm hm hn hst),h.len,hs,hnm,λb hb=>h.lt b (hm b hb),λi gi cs h1 h2=>(h.obj i gi cs h1 h2).mono (Stp.less w h.nm hm hn hst) (λ_ _ h=>h) λ_ _=>rfl,h.sep⟩
theorem RepOb.freeze{w:World}{m:Md}{g:List Value}{ob:Store}(h:RepOb w m g ob){o:Nat}{e:TypeId}{T:Ty}{l:List T.den}(hob:ob[o]? = some [.rowc e T l]) :
 ∃m':Md,(∀b,m' b->m b)/\(∀b,m'.n b->m.n b)/\(∀b,m b->¬m.n b->m' b)/\RepOb w m' g (ob.set o [.frow T l]):=by
 have hlt:o<ob.length:=(List.getElem?_eq_some_iff.1 hob).1;have hgo:g[o]? = some (g[o]'(by rw[h.len];exact hlt)):=getElem?_eq_getElem (by rw[h.len];exact hlt);generalize g[o]'(by rw[h.len];exact hlt)=gi at hgo;have hd:∀b,gi.ownBlock=some b->¬Mu g (ob.set o []) b:=by
  rintro b hb ⟨i,gi',cs,k1,k2,k3⟩;rcases set_get k2 with⟨rfl,rfl,_⟩|⟨hne,h4⟩
  . simp[blk]at k3
  . exact h.sep o i gi gi' _ cs b (Ne.symm hne) hgo hob k1 h4 hb k3
 have hsty:∀b,m b->¬m.n b->m b/\gi.ownBlock≠some b:=λb h1 h2=>⟨h1,λe=>h2 (h.sub b ⟨o,gi,_,hgo,hob,e⟩)⟩
 refine⟨⟨λb=>m.n b/\gi.ownBlock≠some b,λb=>m b/\gi.ownBlock≠some b⟩,λb hb=>hb.1,λb hb=>hb.1,hsty,?_⟩;have h1:=(h.kill o).less (m':=⟨λb=>m.n b/\gi.ownBlock≠some b,λb=>m b/\gi.ownBlock≠some b⟩) (λb hb=>⟨(h.kill o).sub b hb,λe=>hd b e hb⟩) (λb hb=>hb.1) (λb hb=>hb.1) (λb hb=>⟨h.nm b hb.1,hb.2⟩) hsty;have hob1:(ob.set o [])[o]? = some []:=by rw[getElem?_set,if_pos rfl,if_pos hlt]
 have h2:=(h1.set (cs':=[.frow T l]) hgo hob1 (λb hb=>by simp[blk]at hb) rfl rfl rfl (le_refl _) (λ_ _ _=>rfl) λhst=>⟨(λ_ _ _ h=>by cases h),λT' l' he => ?_,(λh=>by simp[isBox]at h),(λ_ _ h=>by cases h),trivial⟩).1
 . rwa[List.set_set]at h2
 . cases he
   obtain⟨xs,h1,h2⟩:=(h.obj o _ _ hgo hob).rowc e T l rfl;exact own_repT h1 (h2.mono (Stp.less (m':=⟨λb=>m.n b/\gi.ownBlock≠some b,λb=>m b/\gi.ownBlock≠some b⟩) w h.nm (λb hb=>hb.1) (λb hb=>hb.1) hsty)) λb hb hmu=>hmu.2 hb
theorem RepOb.freezeA{w:World}{m:Md}{g:List Value}{ob:Store}(h:RepOb w m g ob){o b:Nat}{e:TypeId}{T:Ty}{l:List T.den}(hob:ob[o]? = some [.arrc e T l])(hgo:g[o]? = some (.pointer (some ⟨b,0,none⟩)))(hmax:l.length<=9223372036854775807) :
 ∃m':Md,(∀b,m' b->m b)/\(∀b,m'.n b->m.n b)/\(∀b,m b->¬m.n b->m' b)/\RepOb w m' g (ob.set o [])/\RepT w m' (.lst T) l [.slice (some ⟨b,0,none⟩) l.length l.length]:=by
 have hd:¬Mu g (ob.set o []) b:=by
  rintro⟨i,gi',cs,k1,k2,k3⟩;rcases set_get k2 with⟨rfl,rfl,_⟩|⟨hne,h4⟩
  . simp[blk]at k3
  . exact h.sep o i _ gi' _ cs b (Ne.symm hne) hgo hob k1 h4 rfl k3
 have hsty:∀b',m b'->¬m.n b'->m b'/\b'≠b:=λb' h1 h2=>⟨h1,λe=>h2 (e▸h.sub b ⟨o,_,_,hgo,hob,rfl⟩)⟩
 refine⟨⟨λb'=>m.n b'/\b'≠b,λb'=>m b'/\b'≠b⟩,λb hb=>hb.1,λb hb=>hb.1,hsty,?_,?_⟩
 . exact(h.kill o).less (m':=⟨λb'=>m.n b'/\b'≠b,λb'=>m b'/\b'≠b⟩) (λb' hb=>⟨(h.kill o).sub b' hb,λe=>hd (e▸hb)⟩) (λb hb=>hb.1) (λb hb=>hb.1) (λb hb=>⟨h.nm b hb.1,hb.2⟩) hsty
 . obtain⟨b',ty,arr,he,h1,h2,h3⟩:=(h.obj o _ _ hgo hob).more
   simp only[Value.pointer.injEq,Option.some.injEq,Addr.mk.injEq,and_true]at he;subst he;refine⟨_,_,rfl,le_refl _,hmax,(λh=>by cases h),λj x hj => ?_⟩;have hr:=(h3.mono (Stp.less (m':=⟨λb'=>m.n b'/\b'≠b,λb'=>m b'/\b'≠b⟩) w h.nm (λb hb=>hb.1) (λb hb=>hb.1) hsty)) j x hj;refine⟨b,0,_,rfl,hr,hr.length,(Array.getElem?_eq_some_iff.1 h1).1,λhm=>hm.2 rfl,λi u hu => ?_⟩;rw[getElem?_take]at hu;split at hu
   . rw[getElem?_drop]at hu
     rw[zero_add,cell_of_row w b _ arr ty (0,0) h1];simpa using hu
   . cases hu
def Fz(ob ob':Store):Prop:=ob'.length=ob.length/\∀(o:Nat),ob'[o]? = ob[o]? \/ ∃e T l,ob[o]? = some [.rowc e T l]/\ob'[o]? = some [.frow T l]
theorem Fz.refl(ob:Store):Fz ob ob:=⟨rfl,λ_ => .inl rfl⟩
theorem frees_sound{w:World}{g:List Value}{ob:Store}:∀(cs:List AV) (m:Md) (ob1:Store),RepOb w m g ob1->Fz ob ob1 ->
 ∃m':Md,(∀b,m' b->m b)/\(∀b,m'.n b->m.n b)/\(∀b,m b->¬m.n b->m' b)/\RepOb w m' g (wr ob1 (frees ob cs))/\Fz ob (wr ob1 (frees ob cs)) /\
 (∀(o:Nat) T l,ob1[o]? = some [.frow T l]->(wr ob1 (frees ob cs))[o]? = some [.frow T l]) /\
 ∀(o:Nat) e T l,AV.row o∈cs->ob[o]? = some [.rowc e T l]->(wr ob1 (frees ob cs))[o]? = some [.frow T l]
 | [],m,ob1,h,hf=>⟨m,λ_ h=>h,λ_ h=>h,λ_ h _=>h,h,hf,λ_ _ _ h=>h,λ_ _ _ _ h=>by cases h⟩
 | c::cs,m,ob1,h,hf=>by
  by_cases hc:∃o e T l,c = .row o/\ob[o]? = some [.rowc e T l]
  . obtain⟨o,e,T,l,rfl,ho⟩:=hc
    have hfr:frees ob (.row o::cs) = .obj o [.frow T l]::frees ob cs:=by simp[frees,ho]
    rw[hfr];simp only[wr];have key:∃m':Md,(∀b,m' b->m b)/\(∀b,m'.n b->m.n b)/\(∀b,m b->¬m.n b->m' b)/\RepOb w m' g (ob1.set o [.frow T l]):=by
     rcases hf.2 o with h1|⟨e',T',l',h1,h2⟩
     . exact h.freeze (h1.trans ho)
     . rw[ho]at h1;cases h1
       have:ob1.set o [.frow T l]=ob1:=by
        apply ext_getElem?;intro i
        rw[getElem?_set];split
        . rename_i e;subst e
          rw[h2];simp[(List.getElem?_eq_some_iff.1 h2).1]
        . rfl
       rw[this];exact⟨m,λ_ h=>h,λ_ h=>h,λ_ h _=>h,h⟩
    have hlt1:o<ob1.length:=by rw[hf.1];exact(List.getElem?_eq_some_iff.1 ho).1
    have hf2:Fz ob (ob1.set o [.frow T l]):=by
     refine⟨by simpa using hf.1,λi => ?_⟩;by_cases e':o=i
     . subst e'
       exact .inr ⟨e,T,l,ho,by rw[getElem?_set,if_pos rfl,if_pos hlt1]⟩
     . rw[getElem?_set,if_neg e'];exact hf.2 i
    obtain⟨m1,hm1,hn1,hs1,key⟩:=key;obtain⟨m2,hm2,hn2,hs2,r1,r4,r5,r6⟩:=frees_sound cs m1 _ key hf2;refine⟨m2,λb hb=>hm1 b (hm2 b hb),λb hb=>hn1 b (hn2 b hb),λb h1 h2=>hs2 b (hs1 b h1 h2) λh3=>h2 (hn1 b h3),r1,r4,λo' T' l' h' => ?_,λo' e' T' l' hmm h' => ?_⟩
    . refine r5 o' T' l' ?_
      by_cases e':o=o'
      . subst e'
        rcases hf.2 o with h1|⟨e',T'',l'',h1,h2⟩
        . rw[h1,ho]at h';cases h'
        . rw[ho]at h1;cases h1
          rw[h2]at h';cases h'
          rw[getElem?_set,if_pos rfl,if_pos hlt1]
      . rw[getElem?_set,if_neg e'];exact h'
    . rcases mem_cons.1 hmm with he|hmm
      . cases he
        rw[ho]at h';cases h'
        exact r5 o T l (by rw[getElem?_set,if_pos rfl,if_pos hlt1])
      . exact r6 o' e' T' l' hmm h'
  . have hfr:frees ob (c::cs)=frees ob cs:=by
     cases c<;>simp only[frees]
     rename_i o;split
     . rename_i e T l ho;exact absurd ⟨o,e,T,l,rfl,ho⟩ hc
     . rfl
    rw[hfr];obtain⟨m2,hm2,hn2,hs2,r1,r4,r5,r6⟩:=frees_sound cs m ob1 h hf;refine⟨m2,hm2,hn2,hs2,r1,r4,r5,λo' e' T' l' hmm h' => ?_⟩;rcases mem_cons.1 hmm with he|hmm
    . exact absurd ⟨o',e',T',l',he.symm,h'⟩ hc
    . exact r6 o' e' T' l' hmm h'
theorem view_sound{w:World}{m:Md}{g:List Value}{ob ob':Store}{a:AV}{v:Value}(h':RepOb w m g ob')(hf:Fz ob ob')(hr:RepV w m g a v)(hz:∀(o:Nat) e T l,a = .row o->ob[o]? = some [.rowc e T l]->ob'[o]? = some [.frow T l]):RepV w m g (view ob a) v:=by
 cases a<;>try exact hr
 rename_i o;have:∀T l,ob'[o]? = some [.frow T l]->RepV w m g (.lst T l) v:=λT l ho=>by
  obtain⟨hg,_⟩:=hr;exact(h'.obj o v _ hg ho).frow T l rfl
 simp only[view];split
 . rename_i e T l ho;exact this T l (hz o e T l rfl ho)
 . rename_i T l ho
   rcases hf.2 o with h1|⟨e,T',l',h1,h2⟩
   . exact this T l (h1.trans ho)
   . rw[ho]at h1;cases h1
 . trivial
theorem viewL_sound{w:World}{m:Md}{g:List Value}{ob ob':Store}(h':RepOb w m g ob')(hf:Fz ob ob'):∀{cs:List AV} {vs:List Value},RepL w m g cs vs ->
 (∀(o:Nat) e T l,AV.row o∈cs->ob[o]? = some [.rowc e T l]->ob'[o]? = some [.frow T l])->RepL w m g (cs.map (view ob)) vs
 | [],_,h,_=>h
 | c::cs,_,⟨v,r,h1,h2,h3⟩,hz=>⟨v,r,h1,view_sound h' hf h2 λo e T l he ho=>hz o e T l (he▸mem_cons_self) ho,viewL_sound h' hf h3 λo e T l hm ho=>hz o e T l (mem_cons_of_mem _ hm) ho⟩
def Md.plus(m:Md)(x:Option Nat):Md:=⟨λb=>m.n b\/x=some b,λb=>m b\/x=some b⟩
theorem RepOb.add{w w':World}{m:Md}{g:List Value}{ob:Store}(h:RepOb w m g ob)(gi:Value)(cs:List AV)(hos:w'.os=w.os)(ht:w'.tape=w.tape)(hou:w'.output=w.output)(hsz:w.heap.size<=w'.heap.size)(hk:∀b,b<w.heap.size->¬m.n b\/Mu g ob b->w'.heap[b]? = w.heap[b]?)(hfree:∀b,blk gi cs=some b->b<w.heap.size->m.n b/\¬Mu g ob b)(hn:Stp w m w' (m.plus (blk gi cs))->RepO w' (m.plus (blk gi cs)) (g++[gi]) gi cs) :
 RepOb w' (m.plus (blk gi cs)) (g++[gi]) (ob++[cs])/\Stp w m w' (m.plus (blk gi cs))/\(∀(o:Nat) v,g[o]? = some v->(g++[gi])[o]? = some v):=by
 have hgg:∀(o:Nat) v,g[o]? = some v->(g++[gi])[o]? = some v:=λo v ho=>by
  rw[getElem?_append_left (List.getElem?_eq_some_iff.1 ho).1];exact ho
 have hst:Stp w m w' (m.plus (blk gi cs)) :=
  ⟨hos,ht,hou,hsz,h.nm,λb hb hm=>hk b hb (.inl hm),λb hb hb'=>hb'.elim id λe=>h.nm b (hfree b e hb).1,λb hb hb'=>hb'.elim id λe=>(hfree b e hb).1,λb _ h1 _ => .inl h1⟩
 have hlt:∀i gi' cs' b,g[i]? = some gi'->ob[i]? = some cs'->blk gi' cs'=some b->blk gi cs≠some b:=λi gi' cs' b h1 h2 h3 h4 =>
  (hfree b h4 ((h.obj i gi' cs' h1 h2).blk_lt h3)).2 ⟨i,gi',cs',h1,h2,h3⟩
 refine⟨⟨h.gi.mono hst,by simp[h.len],?_,λb hb=>hb.elim (λhb => .inl (h.nm b hb)) .inr,λb hb=>hb.elim (λhb=>lt_of_lt_of_le (h.lt b hb) hsz) λe=>(hn hst).blk_lt e,λi gi' cs' h1 h2 => ?_,λi j gi1 gj ci cj b hij h1 h2 h3 h4 h5 h6 => ?_⟩,hst,hgg⟩
 . rintro b ⟨i,gi',c1,h1,h2,h3⟩
   rcases app_get h1 with⟨e1,rfl⟩|⟨l1,k1⟩
   . rcases app_get h2 with⟨_,rfl⟩|⟨l2,_⟩
     . exact .inr h3
     . rw[e1,h.len]at l2;omega
   . rcases app_get h2 with⟨e2,_⟩|⟨_,k2⟩
     . rw[e2,<-h.len]at l1;omega
     . exact .inl (h.sub b ⟨i,gi',c1,k1,k2,h3⟩)
 . rcases app_get h1 with⟨e1,rfl⟩|⟨l1,k1⟩
   . rcases app_get h2 with⟨_,rfl⟩|⟨l2,_⟩
     . exact hn hst
     . rw[e1,h.len]at l2;omega
   . rcases app_get h2 with⟨e2,_⟩|⟨_,k2⟩
     . rw[e2,<-h.len]at l1;omega
     . exact(h.obj i gi' cs' k1 k2).mono hst hgg λb hb=>hk b ((h.obj i gi' cs' k1 k2).blk_lt hb) (.inr ⟨i,gi',cs',k1,k2,hb⟩)
 . rcases app_get h1 with⟨e1,rfl⟩|⟨l1,k1⟩<;>rcases app_get h2 with⟨e2,rfl⟩|⟨l2,k2⟩<;>(try (rw[<-h.len]at *;omega)) <;>
    rcases app_get h3 with⟨e3,rfl⟩|⟨l3,k3⟩<;>rcases app_get h4 with⟨e4,rfl⟩|⟨l4,k4⟩<;>(try (rw[<-h.len]at *;omega))
   . exact hlt j gj cj b k3 k4 h6 h5
   . exact hlt i gi1 ci b k1 k2 h5 h6
   . exact h.sep i j gi1 gj ci cj b hij k1 k2 k3 k4 h5 h6
def DOk(desc:TypeDesc):TD->Prop
 | .int k=>desc = .int k | .bool=>desc = .bool | .str=>desc = .string | .slice e=>desc = .slice e
 | .struct fs=>∃fields,desc = .struct fields/\fields.toList.map (λf=>(f.offset,f.type))=fs
 | .array n e=>desc = .array n e | .ptr e=>desc = .pointer e | .map k e=>desc = .map k e
 | .func=>∃a b c,desc = .func a b c | .iface=>∃ms,desc = .interface ms
 | .other=>(match desc with | .struct _ | .array _ _=>False|_=>True)
structure TOk (P:Program) (t:TypeId) (ti:TI):Prop where
 i:∃info desc z,P.info? t=some info/\P.underlying t=some desc/\info.size=ti.size/\info.bytes=ti.bytes/\info.zero=some z/\DOk desc ti.d /\
  (∀w m g,RepL w m g ti.zero z.cells.toList)/\(ti.isAgg=false->∀cs,z ≠ .agg cs)
 cmp:ti.cmp=true->P.stoodInHeld t=false/\P.eqGuardType P.depth t=false/\∀fs,P.underlying t=some (.struct fs)->∀f∈fs.toList,f.name ≠ "_"
 comp:ti.cmp=true->∀info,P.info? t=some info->info.comparable=true
def GOk(P:Program)(Γ:Tys):Prop:=∀t ti,Γ t=some ti->TOk P t ti
variable {P:Program} {Γ:Tys}
theorem GOk.info(hΓ:GOk P Γ){t:TypeId}{ti:TI}(h:Γ t=some ti):∃info z,P.info? t=some info/\info.size=ti.size/\info.bytes=ti.bytes/\info.zero=some z/\∀w m g,RepL w m g ti.zero z.cells.toList:=by
 obtain⟨info,desc,z,h1,_,h3,h4,h5,_,h7,_⟩:=(hΓ t ti h).i;exact⟨info,z,h1,h3,h4,h5,h7⟩
theorem GOk.und(hΓ:GOk P Γ){t:TypeId}{ti:TI}(h:Γ t=some ti):∃desc,P.underlying t=some desc/\DOk desc ti.d:=by
 obtain⟨info,desc,z,_,h2,_,_,_,h6,_⟩:=(hΓ t ti h).i;exact⟨desc,h2,h6⟩
theorem GOk.td(hΓ:GOk P Γ){t:TypeId}{d:TD}(h:tdOf Γ t=d)(hd:d ≠ .other):∃desc,P.underlying t=some desc/\DOk desc d:=by
 unfold tdOf at h;split at h
 . rename_i ti hti;obtain⟨desc,h1,h2⟩:=hΓ.und hti;exact⟨desc,h1,h▸h2⟩
 . exact absurd h.symm hd
theorem GOk.slice(hΓ:GOk P Γ){t e:TypeId}(h:tdOf Γ t = .slice e):P.underlying t=some (.slice e):=by
 obtain⟨desc,h1,h2⟩:=hΓ.td h (by simp);rw[h1,show desc=_ from h2]
theorem GOk.intT(hΓ:GOk P Γ){t:TypeId}{k:IntKind}(h:tdOf Γ t = .int k):P.underlying t=some (.int k):=by
 obtain⟨desc,h1,h2⟩:=hΓ.td h (by simp);rw[h1,show desc=_ from h2]
theorem GOk.boolT(hΓ:GOk P Γ){t:TypeId}(h:tdOf Γ t = .bool):P.underlying t=some .bool:=by
 obtain⟨desc,h1,h2⟩:=hΓ.td h (by simp);rw[h1,show desc=_ from h2]
theorem GOk.strT(hΓ:GOk P Γ){t:TypeId}(h:tdOf Γ t = .str):P.underlying t=some .string:=by
 obtain⟨desc,h1,h2⟩:=hΓ.td h (by simp);rw[h1,show desc=_ from h2]
theorem GOk.structT(hΓ:GOk P Γ){t:TypeId}{fs:List (Nat×TypeId)}(h:tdOf Γ t = .struct fs):∃fields,P.underlying t=some (.struct fields)/\fields.toList.map (λf=>(f.offset,f.type))=fs:=by
 obtain⟨desc,h1,fields,rfl,h2⟩:=hΓ.td h (by simp);exact⟨fields,h1,h2⟩
theorem tdOf_some{t:TypeId}{ti:TI}(h:Γ t=some ti):tdOf Γ t=ti.d:=by simp[tdOf,h]
theorem run_info{t:TypeId}{info:TypeInfo}(h:P.info? t=some info)(w:World):(typeInfo t).run P w = .ok info w:=by simp[typeInfo,h]
theorem run_size{t:TypeId}{info:TypeInfo}(h:P.info? t=some info)(w:World):(sizeOf t).run P w = .ok info.size w:=by simp[sizeOf,run_info h]
theorem run_isAgg(hΓ:GOk P Γ){t:TypeId}{ti:TI}(h:Γ t=some ti)(w:World):(isAgg t).run P w = .ok ti.isAgg w:=by
 obtain⟨desc,h1,h2⟩:=hΓ.und h;unfold TI.isAgg;simp only[isAgg,Sem.run_bind,run_underlying h1,Result.andThen_ok];cases hd:ti.d<;>rw[hd]at h2<;>simp only[DOk]at h2
 case struct=>obtain⟨f,rfl,_⟩:=h2;rfl
 case func=>obtain⟨a,b,c,rfl⟩:=h2;rfl
 case iface=>obtain⟨a,rfl⟩:=h2;rfl
 case other=>cases desc<;>first|rfl|exact h2.elim
 all_goals (subst h2;rfl)
theorem leaf_one{w:World}{m:Md}{g:List Value}{a:AV}{v:Value}(h:RepV w m g a v)(hl:a.leaf=true):v.oneCell'=true:=by
 cases a<;>simp[AV.leaf]at hl<;>simp only[RepV]at h
 case int=>rw[h.1];rfl
 case bool=>rw[h];rfl
 case str=>rw[h];rfl
 case lst=>obtain⟨ao,cap,he,_⟩:=h;cases he;rfl
 case row=>obtain⟨_,ao,n,c,rfl⟩:=h;rfl
 case nils=>rw[h];rfl
 case ptr=>obtain⟨b,_,rfl⟩:=h;rfl
 case nilp=>rw[h];rfl
 case nilm=>rw[h];rfl
 case opq=>obtain⟨b,o,rfl,_⟩:=h;rfl
 case win=>obtain⟨_,_,_,_,_,_,rfl,_⟩:=h;rfl
 case elt=>obtain⟨b,o,us,rfl,_⟩:=h;rfl
 case rel=>obtain⟨b,n,c,_,_,rfl⟩:=h;rfl
 case func=>obtain⟨b,n,rfl,_⟩:=h;rfl
 case nilf=>rw[h];rfl
 case iface=>obtain⟨u,rfl,_⟩:=h;rfl
 case nili=>rw[h];rfl
theorem leafL_one{w:World}{m:Md}{g:List Value}:∀{as:List AV} {vs:List Value},RepL w m g as vs->as.all AV.leaf=true->∀v∈vs,v.oneCell'=true
 | [],_,h,_,v,hv=>by rw[show _=[] from h]at hv;cases hv
 | a::as,_,⟨u,r,rfl,h2,h3⟩,hl,v,hv=>by
  simp only[List.all_cons,and_eq_true]at hl;rcases mem_cons.1 hv with rfl|hv
  . exact leaf_one h2 hl.1
  . exact leafL_one h3 hl.2 v hv
theorem cells_rep{w:World}{m:Md}{g:List Value}{a:AV}{v:Value}(h:RepV w m g a v)(hl:a.cells.all AV.leaf=true):RepL w m g a.cells v.cells.toList:=by
 by_cases ha:∃cs,a = .agg cs
 . obtain⟨cs,rfl⟩:=ha
   obtain⟨arr,rfl,h2⟩:=h;exact h2
 . have e:a.cells=[a]:=by cases a<;>first|rfl|exact absurd ⟨_,rfl⟩ ha
   rw[e]at hl ⊢;have h1:=leaf_one h (by simpa using hl);have e2:v.cells = #[v]:=by cases v<;>first|rfl|(simp[Value.oneCell']at h1)
   rw[e2];exact .cons h .nil
theorem ofConst_rep{w:World}{m:Md}{g:List Value}(v:Value):RepV w m g (ofConst v) v:=by
 unfold ofConst;split
 . rename_i k n
   split
   . rename_i h;exact⟨rfl,inR_iff k n h⟩
   . trivial
 . rfl
 . rename_i s;cases s;rfl
 . rfl
 . rfl
 . rfl
 . rfl
 . rfl
 . exact⟨_,rfl,rfl⟩
 . trivial
def Post(P:Program)(o:Oper)(a:Act)(w:World)(m:Md)(g:List Value)(ob:Store)(Z:AV->List Wr->Prop):Prop :=
 ∀(next:Act->World->Prop) (Q:Exit->Act->World->Prop),
  (∀v w' m' g' av ws,Z av ws->RepV w' m' g' av v->RepOb w' m' g' (wr ob ws)->(∀(o:Nat) v,g[o]? = some v->g'[o]? = some v)->Stp w m w' m'->next (a.put o.dst v) w') ->
  o.wp P a w next Q
variable {o:Oper} {a:Act} {w:World} {m:Md} {g:List Value} {ob:Store} {Z:AV->List Wr->Prop}
theorem Post.val{v:Value}{w':World}{m':Md}{g':List Value}{av:AV}{ws:List Wr}(hr:(execOp a.eval o).run P w = .ok (.value v) w')(hZ:Z av ws)(h1:RepV w' m' g' av v)(h2:RepOb w' m' g' (wr ob ws))(h3:∀(o:Nat) v,g[o]? = some v->g'[o]? = some v)(h4:Stp w m w' m'):Post P o a w m g ob Z:=by
 intro next Q K;unfold Oper.wp;rw[hr];exact K v w' m' g' av ws hZ h1 h2 h3 h4
theorem Post.skip{w':World}{m':Md}{g':List Value}{ws:List Wr}(hr:(execOp a.eval o).run P w = .ok .skip w')(hZ:Z (.tuple []) ws)(h2:RepOb w' m' g' (wr ob ws))(h3:∀(o:Nat) v,g[o]? = some v->g'[o]? = some v)(h4:Stp w m w' m'):Post P o a w m g ob Z:=by
 intro next Q K;unfold Oper.wp;rw[hr];exact K undef w' m' g' _ ws hZ ⟨#[],rfl,rfl⟩ h2 h3 h4
theorem Post.quiet(hob:RepOb w m g ob){v:Value}{av:AV}(hr:(execOp a.eval o).run P w = .ok (.value v) w)(hZ:Z av [])(h1:RepV w m g av v):Post P o a w m g ob Z :=
 Post.val hr hZ h1 hob (λ_ _ h=>h) (Stp.refl _ hob.nm)
theorem Post.mono{Z':AV->List Wr->Prop}(h:Post P o a w m g ob Z)(hz:∀av ws,Z av ws->Z' av ws):Post P o a w m g ob Z' :=
 λnext Q K=>h next Q λv w' m' g' av ws hZ=>K v w' m' g' av ws (hz _ _ hZ)
theorem Post.alloc(hob:RepOb w m g ob){cells:Array Value}{ty:TypeId}{cs:List AV}(hr:(execOp a.eval o).run P w = .ok (.value (.pointer (some ⟨w.heap.size,0,none⟩))) (w.alloc (.cells cells ty)))(hc:RepL w m g cs cells.toList)(hl:cs.all AV.leaf=true)(hZ:Z (.ptr ob.length 0) [.new cs]):Post P o a w m g ob Z:=by
 have hnb:∀b,blk (.pointer (some ⟨w.heap.size,0,none⟩)) cs=some b->b=w.heap.size:=by
  intro b hb;unfold blk at hb;split at hb
  . cases hb
  . cases hb
  . cases hb
  . cases hb
  . simpa using hb.symm
 obtain⟨r1,r2,r3⟩:=hob.add (w':=w.alloc (.cells cells ty)) (.pointer (some ⟨w.heap.size,0,none⟩)) cs rfl rfl rfl (by simp) (λb hb _=>Below.heap_alloc _ _ _ hb) (λb hb hlt=>by have:=hnb b hb;omega)
  (λhs=>⟨λe T l he=>by subst he;exact(not_rowc hc).elim,λT l he=>by subst he;exact(not_frow hc).elim,λhb=>⟨w.heap.size,ty,cells,rfl,heap_alloc_new _ _,hc.mono hs (λo v h=>by rw[getElem?_append_left (List.getElem?_eq_some_iff.1 h).1];exact h)⟩,(λs p he=>by subst he;exact(not_siter hc).elim),.of_rep hc⟩)
 refine Post.val (av := .ptr ob.length 0) (ws:=[.new cs]) hr hZ ⟨w.heap.size,?_,rfl⟩ r1 r3 r2;rw[<-hob.len];simp
theorem op_move{x:Operand}(hob:RepOb w m g ob){av:AV}(hop:o.op = .move x\/o.op = .assign x)(h:RepV w m g av (a.eval x))(hZ:Z av []):Post P o a w m g ob Z:=by
 refine Post.quiet hob ?_ hZ h;rcases hop with hop|hop<;>simp[execOp,hop]
theorem op_pick{c x y:Operand}(hob:RepOb w m g ob){b:Bool}{av:AV}(hop:o.op = .pick c x y)(hc:a.eval c = .bool b)(h:RepV w m g av (if b then a.eval x else a.eval y))(hZ:Z av []):Post P o a w m g ob Z:=by
 refine Post.quiet hob ?_ hZ h;simp[execOp,hop,hc,asBool]
theorem op_alloc(hΓ:GOk P Γ)(hob:RepOb w m g ob){t:TypeId}{ti:TI}(hop:o.op = .alloc t)(ht:Γ t=some ti)(hl:ti.zero.all AV.leaf=true)(hZ:Z (.ptr ob.length 0) [.new ti.zero]):Post P o a w m g ob Z:=by
 obtain⟨info,z,h1,h2,h3,h4,h5⟩:=hΓ.info ht;exact Post.alloc hob (cells:=z.cells) (ty:=t) (by simp[execOp,hop,Instr.alloc,zeroValue,run_info h1,h4,newVar,newRow]) (h5 w m g) hl hZ
theorem Post.newArr(hob:RepOb w m g ob){cells:Array Value}{ty e:TypeId}{T:Ty}{l:List T.den}(hr:(execOp a.eval o).run P w = .ok (.value (.pointer (some ⟨w.heap.size,0,none⟩))) (w.alloc (.cells cells ty)))(hs:cells.size=l.length*T.size)(hE:RepE w m T l cells.toList)(hZ:Z (.ptr ob.length 0) [.new [.arrc e T l]]):Post P o a w m g ob Z:=by
 obtain⟨r1,r2,r3⟩:=hob.add (w':=w.alloc (.cells cells ty)) (.pointer (some ⟨w.heap.size,0,none⟩)) [.arrc e T l] rfl rfl rfl (by simp) (λb hb _=>Below.heap_alloc _ _ _ hb) (λb hb hlt=>by
  have:w.heap.size=b:=by simpa[blk]using hb
  omega)
  (λhst=>⟨(λ_ _ _ h=>by cases h),(λ_ _ h=>by cases h),(λh=>by simp[isBox]at h),(λ_ _ h=>by cases h),⟨w.heap.size,ty,cells,rfl,heap_alloc_new _ _,hs,hE.mono hst⟩⟩)
 refine Post.val (av := .ptr ob.length 0) (ws:=[.new [.arrc e T l]]) hr hZ ⟨w.heap.size,?_,rfl⟩ r1 r3 r2;rw[<-hob.len];simp
theorem op_alloc_bld(hΓ:GOk P Γ)(hob:RepOb w m g ob){t e:TypeId}{ti:TI}(hop:o.op = .alloc t)(ht:Γ t=some ti)(hz:ti.zero=[.nilp,.nils])(hZ:Z (.ptr (ob.length+1) 0) [.new [.rowc e .byte []],.new [.bldr t ob.length]]):Post P o a w m g ob Z:=by
 obtain⟨info,z,h1,h2,h3,h4,h5⟩:=hΓ.info ht;have hr:(execOp a.eval o).run P w = .ok (.value (.pointer (some ⟨w.heap.size,0,none⟩))) (w.alloc (.cells z.cells t)):=by simp[execOp,hop,Instr.alloc,zeroValue,run_info h1,h4,newVar,newRow]
 have hzc:=h5 w m g;rw[hz]at hzc;obtain⟨v1,r1,e1,e2,v2,r2,e3,e4,e5⟩:=hzc;have e2':v1 = .pointer none:=e2;have e4':v2 = .slice none 0 0:=e4;have e5':r2=[]:=e5;subst e2' e4' e5' e3;have hcells:z.cells = #[.pointer none,.slice none 0 0]:=by
  cases hh:z.cells with|mk l=>rw[hh]at e1;simp at e1;rw[e1]
 obtain⟨r1,r2,r3⟩:=hob.add (w':=w) (.slice none 0 0) [.rowc e .byte []] rfl rfl rfl (le_refl _) (λ_ _ _=>rfl) (λb hb _=>by simp[blk,Value.ownBlock]at hb)
  (λhs=>⟨λe' T' l' he'=>by cases he';exact⟨[],⟨by simp,.inl ⟨rfl,rfl⟩⟩,λj x hx=>by simp at hx⟩,(λ_ _ h=>by cases h),(λh=>by simp[isBox]at h),(λ_ _ h=>by cases h),trivial⟩)
 obtain⟨q1,q2,q3⟩:=r1.add (w':=w.alloc (.cells z.cells t)) (.pointer (some ⟨w.heap.size,0,none⟩)) [.bldr t ob.length] rfl rfl rfl (by simp) (λb hb _=>Below.heap_alloc _ _ _ hb) (λb hb hlt=>by
  have:w.heap.size=b:=by simpa[blk]using hb
  omega)
  (λhs=>⟨(λ_ _ _ h=>by cases h),(λ_ _ h=>by cases h),(λh=>by simp[isBox]at h),(λ_ _ h=>by cases h),⟨w.heap.size,.pointer none,.slice none 0 0,rfl,by rw[<-hcells];exact heap_alloc_new _ _,.inl rfl,by
   rw[<-hob.len,append_assoc];simp,_,_,_,rfl⟩⟩)
 refine Post.val (av := .ptr (ob.length+1) 0) hr hZ ⟨w.heap.size,?_,rfl⟩ (by simpa[wr]using q1) (λi v hv=>q3 i v (r3 i v hv)) (r2.trans q2);rw[<-hob.len];simp
theorem op_box(hob:RepOb w m g ob){t:TypeId}{x:Operand}{av:AV}(hop:o.op = .box t x)(h:RepV w m g av (a.eval x))(hl:av.cells.all AV.leaf=true)(hZ:Z (.ptr ob.length 0) [.new av.cells]):Post P o a w m g ob Z :=
 Post.alloc hob (cells:=(a.eval x).cells) (ty:=t) (by simp[execOp,hop,Instr.box,newVar,newRow]) (cells_rep h hl) hl hZ
theorem op_func(hob:RepOb w m g ob){fn:Fn}{f c:Array Operand}{ρ:Operand->AV}(hop:o.op = .makeFunc fn f c)(hρ:∀x,RepV w m g (ρ x) (a.eval x))(hZ:Z (.func fn (f.toList.map ρ) (c.toList.map ρ)) []):Post P o a w m g ob Z:=by
 have hL:∀l:List Operand,RepL w m g (l.map ρ) (l.map a.eval):=by
  intro l;induction l with
  | nil=>exact .nil
  | cons x l ih=>exact .cons (hρ x) ih
 refine Post.quiet hob (v := .func fn (f.map a.eval) (c.map a.eval)) ?_ hZ ⟨_,_,rfl,?_,?_⟩
 . simp[execOp,hop,Instr.makeFunc]
 . simpa using hL f.toList
 . simpa using hL c.toList
theorem op_iface(hΓ:GOk P Γ)(hob:RepOb w m g ob){t:TypeId}{x:Operand}{av:AV}(hop:o.op = .makeInterface t x)(ht:(match tdOf Γ t with | .iface | .other=>false|_=>true)=true)(h:RepV w m g av (a.eval x))(hZ:Z (.iface t av) []):Post P o a w m g ob Z:=by
 refine Post.quiet hob (v := .iface t (a.eval x)) ?_ hZ ⟨_,rfl,h⟩;obtain⟨desc,h1,h2⟩:=hΓ.td (t:=t) rfl (by intro e;rw[e]at ht;simp at ht);cases hd:tdOf Γ t<;>rw[hd]at h2 ht<;>(try (simp at ht;done))<;>simp only[DOk]at h2
 case func=>obtain⟨a1,b1,c1,rfl⟩:=h2;simp[execOp,hop,Instr.makeInterface,run_underlying h1]
 case struct=>obtain⟨a1,rfl,_⟩:=h2;simp[execOp,hop,Instr.makeInterface,run_underlying h1]
 all_goals (subst h2;simp[execOp,hop,Instr.makeInterface,run_underlying h1])
theorem op_extract(hob:RepOb w m g ob){x:Operand}{i:Nat}{vs:List AV}{av:AV}(hop:o.op = .extract x i)(h:RepV w m g (.tuple vs) (a.eval x))(hi:vs[i]? = some av)(hZ:Z av []):Post P o a w m g ob Z:=by
 obtain⟨arr,h1,h2⟩:=h;obtain⟨v,h3,h4⟩:=h2.get i av hi;refine Post.quiet hob (v:=v) ?_ hZ h4;have:arr[i]? = some v:=by simpa using h3
 simp[execOp,hop,h1,Instr.extract,this]
theorem op_nilCheck(hob:RepOb w m g ob){x:Operand}{av:AV}(hop:o.op = .nilCheck x)(h:RepV w m g av (a.eval x))(hav:(match av with | .ptr _ _ | .elt _ _ _ | .rel _ _ _ _ | .func (.func _) _ _=>true|_=>false)=true)(hZ:Z av []):Post P o a w m g ob Z:=by
 refine Post.quiet hob (v:=a.eval x) ?_ hZ h;have h':=h;cases av<;>(try (simp at hav;done))<;>simp only[RepV]at h'
 case ptr=>obtain⟨b,_,h2⟩:=h';simp[execOp,hop,h2]
 case elt=>obtain⟨b,o1,us,h2,_⟩:=h';simp[execOp,hop,h2]
 case rel=>obtain⟨b,_,h2⟩:=h';simp[execOp,hop,h2]
 case func fn f c =>
  obtain⟨b,n,h2,_⟩:=h';cases fn<;>simp at hav
  simp[execOp,hop,h2]
theorem op_not(hob:RepOb w m g ob){x:Operand}{t:TypeId}{b:Bool}(hop:o.op = .unOp .not t x)(h:RepV w m g (.bool b) (a.eval x))(hZ:Z (.bool (!b)) []):Post P o a w m g ob Z :=
 Post.quiet hob (v := .bool (!b)) (by simp[execOp,hop,show a.eval x = .bool b from h,Op.unary]) hZ rfl
theorem op_neg(hob:RepOb w m g ob){x:Operand}{t:TypeId}{k:IntKind}{n:Int}(hop:o.op = .unOp .neg t x)(h:RepV w m g (.int k n) (a.eval x))(hZ:Z (.int k (k.wrap (0-n))) []):Post P o a w m g ob Z :=
 Post.quiet hob (v := .int k (k.wrap (0-n))) (by simp[execOp,hop,h.1,Op.unary,Op.intArith]) hZ ⟨rfl,Rng.wrap _ _⟩
end Go.Ae
namespace Go.Ae
open Go.RowKit
variable {P:Program} {Γ:Tys} {o:Oper} {a:Act} {w:World} {m:Md} {g:List Value} {ob:Store} {Z:AV->List Wr->Prop}
theorem lit_add(b x i:Nat):(⟨b,x,none⟩:Addr).add i=⟨b,x+i,none⟩:=by
 unfold Addr.add;split<;>simp_all
theorem part_some{ti:TI}{cs:List AV}{off:Nat}{v:AV}(h:part ti cs off=some v) :
 ((cs.drop off).take ti.size).length=ti.size/\((ti.isAgg=true/\v = .agg ((cs.drop off).take ti.size))\/(ti.isAgg=false/\(cs.drop off).take ti.size=[v])):=by
 unfold part at h;simp only at h;split at h
 . rename_i hl
   refine⟨hl,?_⟩;split at h
   . rename_i hi;exact .inl ⟨hi,by simpa using h.symm⟩
   . rename_i hi
     split at h
     . rename_i x hx;cases h;exact .inr ⟨by simpa using hi,hx⟩
     . cases h
 . cases h
theorem run_loadPart(hΓ:GOk P Γ){t:TypeId}{ti:TI}(ht:Γ t=some ti){cs:List AV}{off:Nat}{v:AV}(hp:part ti cs off=some v){b x:Nat}{vs:List Value}(hr:RepL w m g cs vs)(hc:∀(i:Nat) u,vs[i]? = some u->w.cell? ⟨b,x+i,none⟩=some u) :
 ∃u,(loadVar t ⟨b,x+off,none⟩).run P w = .ok u w/\RepV w m g v u:=by
 obtain⟨hl,hv⟩:=part_some hp;have hr2:=(hr.drop off).take ti.size;have hl2:((vs.drop off).take ti.size).length=ti.size:=by rw[hr2.length,hl]
 obtain⟨info,z,h1,h2,_⟩:=hΓ.info ht;have hcell:∀(j:Nat) u,((vs.drop off).take ti.size)[j]? = some u->w.cell? ((⟨b,x+off,none⟩:Addr).add j)=some u:=by
  intro j u hu;rw[getElem?_take]at hu;split at hu
  . rw[getElem?_drop]at hu
    rw[lit_add,add_assoc];exact hc _ u hu
  . cases hu
 rcases hv with⟨hi,rfl⟩|⟨hi,hs⟩
 . refine⟨.agg ((vs.drop off).take ti.size).toArray,?_,_,rfl,by simpa using hr2⟩
   have hld:=run_loadCells_list (P:=P) w ⟨b,x+off,none⟩ _ hcell;rw[hl2]at hld;unfold loadVar;simp only[Sem.run_bind,run_isAgg hΓ ht,Result.andThen_ok,hi,if_true,run_size h1,h2,hld,Sem.run_pure,Sem.run_map]
 . rw[hs]at hr2
   obtain⟨u,r,h3,h4,h5⟩:=hr2;have hr0:r=[]:=h5;subst hr0;refine⟨u,?_,h4⟩;have hz:(⟨b,x+off,none⟩:Addr).add 0=⟨b,x+off,none⟩:=by simp[Addr.add]
   have:=hcell 0 u (by rw[h3];rfl);rw[hz]at this;unfold loadVar;simp only[Sem.run_bind,run_isAgg hΓ ht,Result.andThen_ok,hi,Bool.false_eq_true,if_false,run_load,this]
theorem box_of_ptr(hob:RepOb w m g ob){i off b:Nat}{cs:List AV}(hg:g[i]? = some (.pointer (some ⟨b,0,none⟩)))(ho:ob[i]? = some cs)(hsi:∀s p,cs=[.siter s p]->False)(har:∀e T l,cs=[.arrc e T l]->False)(hva:∀e n l,cs=[.vals e n l]->False)(hbl:∀t o,cs=[.bldr t o]->False) :
 cs=[]\/∃ty arr,w.heap[b]? = some (.cells arr ty (0,0))/\RepL w m g cs arr.toList/\isBox cs=true:=by
 have h:=hob.obj i _ cs hg ho;by_cases hx:isBox cs=true
 . obtain⟨b',ty,arr,h1,h2,h3⟩:=h.box hx
   simp only[Value.pointer.injEq,Option.some.injEq,Addr.mk.injEq,and_true]at h1;subst h1;exact .inr ⟨ty,arr,h2,h3,hx⟩
 . refine .inl ?_
   unfold isBox at hx;split at hx
   . obtain⟨xs,h1,_⟩:=h.rowc _ _ _ rfl
     obtain⟨ao,cap,he,_⟩:=own_cells h1;cases he
   . obtain⟨ao,cap,he,_⟩:=h.frow _ _ rfl
     cases he
   . exact(hsi _ _ rfl).elim
   . exact(har _ _ _ rfl).elim
   . exact(hva _ _ _ rfl).elim
   . exact(hbl _ _ rfl).elim
   . rfl
   . exact absurd rfl hx
theorem op_load_ptr(hΓ:GOk P Γ)(hob:RepOb w m g ob){t:TypeId}{ti:TI}{x:Operand}{i off:Nat}{cs:List AV}{v:AV}(hop:o.op = .load t x)(ht:Γ t=some ti)(h:RepV w m g (.ptr i off) (a.eval x))(ho:ob[i]? = some cs)(hsi:∀s p,cs=[.siter s p]->False)(har:∀e T l,cs=[.arrc e T l]->False)(hva:∀e n l,cs=[.vals e n l]->False)(hbl:∀t o,cs=[.bldr t o]->False)(hp:part ti cs off=some v)(hZ:Z v []):Post P o a w m g ob Z:=by
 obtain⟨b,h1,h2⟩:=h;have key:∃u,(loadVar t ⟨b,off,none⟩).run P w = .ok u w/\RepV w m g v u:=by
  rcases box_of_ptr (off:=off) hob h1 ho hsi har hva hbl with rfl|⟨ty,arr,k1,k2,_⟩
  . have:=run_loadPart (w:=w) (m:=m) (g:=g) hΓ ht hp (b:=b) (x:=0) (vs:=[]) rfl (λi u hu=>by simp at hu)
    simpa using this
  . have:=run_loadPart hΓ ht hp (b:=b) (x:=0) k2 (λi u hu=>by rw[zero_add,cell_of_row w b i arr ty (0,0) k1];simpa using hu)
    simpa using this
 obtain⟨u,h3,h4⟩:=key;exact Post.quiet hob (v:=u) (by simp[execOp,hop,h2,Instr.loadAt,Instr.sureAddr,h3]) hZ h4
theorem op_load_elt(hΓ:GOk P Γ)(hob:RepOb w m g ob){t:TypeId}{ti:TI}{x:Operand}{T:Ty}{y:T.den}{off:Nat}{v:AV}(hop:o.op = .load t x)(ht:Γ t=some ti)(h:RepV w m g (.elt T y off) (a.eval x))(hp:part ti (T.leaves y) off=some v)(hZ:Z v []):Post P o a w m g ob Z:=by
 obtain⟨b,q,us,h1,h2,h3,h4,h5⟩:=h;obtain⟨u,h6,h7⟩:=run_loadPart hΓ ht hp (b:=b) (x:=q) (repT_leaves (g:=g) h2) h5;exact Post.quiet hob (v:=u) (by simp[execOp,hop,h1,Instr.loadAt,Instr.sureAddr,h6]) hZ h7
theorem row_elem(hob:RepOb w m g ob){i j n b c:Nat}{e:TypeId}{T:Ty}{l:List T.den}(hg:g[i]? = some (.slice (some ⟨b,0,none⟩) n c))(ho:ob[i]? = some [.rowc e T l])(hj:j<n) :
 ∃xs cur,n=l.length/\w.heap[b]? = some (.cells cur e (0,0))/\cur.size=c*T.size/\n<=c/\c<=maxLen/\cur.toList.take (n*T.size)=xs/\xs.length=n*T.size/\RepE w m T l xs /\
  RepT w m T (l.getD j T.dflt) ((xs.drop (j*T.size)).take T.size)/\∀(k:Nat) u,((xs.drop (j*T.size)).take T.size)[k]? = some u->w.cell? ⟨b,j*T.size+k,none⟩=some u:=by
 obtain⟨xs,h1,h2⟩:=(hob.obj i _ _ hg ho).rowc e T l rfl;have h1':=h1;rcases h1'.2 with⟨he,_⟩|⟨g',cap,cur,he,_,k2,k3,k4,k5,k6⟩
 . cases he
 . cases he
   have hgd:l[j]? = some (l.getD j T.dflt):=by rw[getD_eq_getElem?_getD,getElem?_eq_getElem hj];rfl
   refine⟨xs,cur,rfl,k2,k5,k3,k4,k6,h1.1,h2,h2 j _ hgd,λk u hu => ?_⟩;rw[getElem?_take]at hu;split at hu
   . rw[getElem?_drop]at hu
     obtain⟨ao,cap',he',_,_,_,_,h8⟩:=own_cells h1;cases he';exact(h8 _ rfl).2.2 _ u hu
   . cases hu
theorem rel_slice(hob:RepOb w m g ob){i j sz off:Nat}{e:TypeId}{T:Ty}{l:List T.den}{v:Value}(ho:ob[i]? = some [.rowc e T l])(h:RepV w m g (.rel i sz j off) v) :
 ∃b n c,g[i]? = some (.slice (some ⟨b,0,none⟩) n c)/\j<n/\v = .pointer (some ⟨b,j*sz+off,none⟩):=by
 obtain⟨b,⟨n,c,h1,h2⟩|h1,h3⟩:=h
 . exact⟨b,n,c,h1,h2,h3⟩
 . obtain⟨xs,h4,_⟩:=(hob.obj i _ _ h1 ho).rowc e T l rfl
   obtain⟨ao,cap,he,_⟩:=own_cells h4;cases he
theorem rel_arr(hob:RepOb w m g ob){i j sz off:Nat}{e:TypeId}{T:Ty}{l:List T.den}{v:Value}(ho:ob[i]? = some [.arrc e T l])(h:RepV w m g (.rel i sz j off) v) :
 ∃b ty arr,g[i]? = some (.pointer (some ⟨b,0,none⟩))/\v = .pointer (some ⟨b,j*sz+off,none⟩)/\w.heap[b]? = some (.cells arr ty (0,0))/\arr.size=l.length*T.size/\RepE w m T l arr.toList:=by
 obtain⟨b,⟨n,c,h1,h2⟩|h1,h3⟩:=h
 . obtain⟨b',ty,arr,he,_⟩:=(hob.obj i _ _ h1 ho).more
   cases he
 . obtain⟨b',ty,arr,he,k1,k2,k3⟩:=(hob.obj i _ _ h1 ho).more
   simp only[Value.pointer.injEq,Option.some.injEq,Addr.mk.injEq,and_true]at he;subst he;exact⟨b,ty,arr,h1,h3,k1,k2,k3⟩
theorem rel_vals(hob:RepOb w m g ob){i j sz off:Nat}{e:TypeId}{n:Nat}{cs:List AV}{v:Value}(ho:ob[i]? = some [.vals e n cs])(h:RepV w m g (.rel i sz j off) v) :
 ∃b ty arr,v = .pointer (some ⟨b,j*sz+off,none⟩)/\w.heap[b]? = some (.cells arr ty (0,0))/\RepL w m g cs arr.toList:=by
 obtain⟨b,⟨n',c,h1,h2⟩|h1,h3⟩:=h
 . obtain⟨b',ty,arr,c',he,_,_,k1,k2⟩:=(hob.obj i _ _ h1 ho).more
   simp only[Value.slice.injEq,Option.some.injEq,Addr.mk.injEq,and_true]at he;obtain⟨rfl,_⟩:=he;exact⟨b,ty,arr,h3,k1,k2⟩
 . obtain⟨b',ty,arr,c',he,_⟩:=(hob.obj i _ _ h1 ho).more
   cases he
theorem arr_elem{b j:Nat}{ty:TypeId}{arr:Array Value}{T:Ty}{l:List T.den}(k1:w.heap[b]? = some (.cells arr ty (0,0)))(k3:RepE w m T l arr.toList)(hj:j<l.length) :
 RepT w m T (l.getD j T.dflt) ((arr.toList.drop (j*T.size)).take T.size)/\∀(k:Nat) u,((arr.toList.drop (j*T.size)).take T.size)[k]? = some u->w.cell? ⟨b,j*T.size+k,none⟩=some u:=by
 refine⟨k3 j _ (by rw[getD_eq_getElem?_getD,getElem?_eq_getElem hj];rfl),λk u hu => ?_⟩;rw[getElem?_take]at hu;split at hu
 . rw[getElem?_drop]at hu
   rw[cell_of_row w b _ arr ty (0,0) k1];simpa using hu
 . cases hu
theorem op_load_arr(hΓ:GOk P Γ)(hob:RepOb w m g ob){t:TypeId}{ti:TI}{x:Operand}{i j off:Nat}{e:TypeId}{T:Ty}{l:List T.den}{v:AV}(hop:o.op = .load t x)(ht:Γ t=some ti)(h:RepV w m g (.rel i T.size j off) (a.eval x))(ho:ob[i]? = some [.arrc e T l])(hj:j<l.length)(hp:part ti (T.leaves (l.getD j T.dflt)) off=some v)(hZ:Z v []):Post P o a w m g ob Z:=by
 obtain⟨b,ty,arr,h1,h3,k1,k2,k3⟩:=rel_arr hob ho h;obtain⟨h5,h6⟩:=arr_elem k1 k3 hj;obtain⟨u,h7,h8⟩:=run_loadPart hΓ ht hp (b:=b) (x:=j*T.size) (repT_leaves (g:=g) h5) h6;exact Post.quiet hob (v:=u) (by simp[execOp,hop,h3,Instr.loadAt,Instr.sureAddr,h7]) hZ h8
theorem repE_leaves{T:Ty}:∀(l:List T.den) (vs:List Value),RepE w m T l vs->vs.length=l.length*T.size->RepL w m g (l.flatMap T.leaves) vs
 | [],vs,_,h=>List.eq_nil_of_length_eq_zero (by simpa using h)
 | x::l,vs,h,hl=>by
  have h0:=h 0 x rfl;rw[Nat.zero_mul,drop_zero]at h0;have hl':(vs.drop T.size).length=l.length*T.size:=by simp only[length_cons,Nat.succ_mul]at hl;simp;omega
  have ih:=repE_leaves l (vs.drop T.size) (λj y hj=>by
   have:=h (j+1) y (by simpa using hj)
   rwa[Nat.succ_mul,Nat.add_comm,<-drop_drop]at this) hl'
  rw[List.flatMap_cons,<-List.take_append_drop T.size vs];exact(repT_leaves h0).append ih
theorem range_flat{T:Ty}(l:List T.den):((List.range l.length).flatMap λj=>T.leaves (l.getD j T.dflt))=l.flatMap T.leaves:=by
 rw[<-List.flatMap_map (f:=λj=>l.getD j T.dflt) (g:=T.leaves)];congr 1;apply List.ext_getElem
 . simp
 . intro i h1 h2;simp[List.getD,getElem?_eq_getElem h2]
theorem run_whole(hΓ:GOk P Γ)(hob:RepOb w m g ob){t:TypeId}{ti:TI}{i n b:Nat}{e e':TypeId}{T:Ty}{l:List T.den}(ht:Γ t=some ti)(hd:ti.d = .array n e')(hs:ti.size=n*T.size)(h1:g[i]? = some (.pointer (some ⟨b,0,none⟩)))(ho:ob[i]? = some [.arrc e T l])(hl:l.length=n):∃u,(loadVar t ⟨b,0,none⟩).run P w = .ok u w/\RepV w m g (.agg ((List.range n).flatMap λj=>T.leaves (l.getD j T.dflt))) u:=by
 obtain⟨b',ty,arr,he,k1,k2,k3⟩:=(hob.obj i _ _ h1 ho).more;simp only[Value.pointer.injEq,Option.some.injEq,Addr.mk.injEq,and_true]at he;subst he;subst hl;rw[range_flat];have hr:=repE_leaves (g:=g) l arr.toList k3 (by simpa using k2);have hlen:(l.flatMap T.leaves).length=ti.size:=by rw[<-hr.length,hs];simpa using k2
 have hp:part ti (l.flatMap T.leaves) 0=some (.agg (l.flatMap T.leaves)):=by
  unfold part;simp only[drop_zero];rw[List.take_of_length_le (by omega),if_pos hlen,if_pos (by simp[TI.isAgg,hd])]
 exact run_loadPart hΓ ht hp (b:=b) (x:=0) hr (λi u hu=>by rw[zero_add,cell_of_row w b i arr ty (0,0) k1];simpa using hu)
theorem op_load_whole(hΓ:GOk P Γ)(hob:RepOb w m g ob){t:TypeId}{ti:TI}{x:Operand}{i n:Nat}{e e':TypeId}{T:Ty}{l:List T.den}(hop:o.op = .load t x)(ht:Γ t=some ti)(hd:ti.d = .array n e')(hs:ti.size=n*T.size)(h:RepV w m g (.ptr i 0) (a.eval x))(ho:ob[i]? = some [.arrc e T l])(hl:l.length=n)(hZ:Z (.agg ((List.range n).flatMap λj=>T.leaves (l.getD j T.dflt))) []):Post P o a w m g ob Z:=by
 obtain⟨b,h1,h3⟩:=h;obtain⟨u,h7,h8⟩:=run_whole hΓ hob ht hd hs h1 ho hl;exact Post.quiet hob (v:=u) (by simp[execOp,hop,h3,Instr.loadAt,Instr.sureAddr,h7]) hZ h8
theorem op_load_vals(hΓ:GOk P Γ)(hob:RepOb w m g ob){t:TypeId}{ti:TI}{x:Operand}{i j sz off:Nat}{e:TypeId}{n:Nat}{cs:List AV}{v:AV}(hop:o.op = .load t x)(ht:Γ t=some ti)(h:RepV w m g (.rel i sz j off) (a.eval x))(ho:ob[i]? = some [.vals e n cs])(hp:part ti cs (j*sz+off)=some v)(hZ:Z v []):Post P o a w m g ob Z:=by
 obtain⟨b,ty,arr,h3,k1,k3⟩:=rel_vals hob ho h;have:=run_loadPart hΓ ht hp (b:=b) (x:=0) k3 (λi u hu=>by rw[zero_add,cell_of_row w b i arr ty (0,0) k1];simpa using hu);obtain⟨u,h7,h8⟩:=this;rw[zero_add]at h7;exact Post.quiet hob (v:=u) (by simp[execOp,hop,h3,Instr.loadAt,Instr.sureAddr,h7]) hZ h8
theorem op_load_rel(hΓ:GOk P Γ)(hob:RepOb w m g ob){t:TypeId}{ti:TI}{x:Operand}{i j off:Nat}{e:TypeId}{T:Ty}{l:List T.den}{v:AV}(hop:o.op = .load t x)(ht:Γ t=some ti)(h:RepV w m g (.rel i T.size j off) (a.eval x))(ho:ob[i]? = some [.rowc e T l])(hp:part ti (T.leaves (l.getD j T.dflt)) off=some v)(hZ:Z v []):Post P o a w m g ob Z:=by
 obtain⟨b,n,c,h1,h2,h3⟩:=rel_slice hob ho h;obtain⟨xs,cur,_,_,_,_,_,_,_,_,h5,h6⟩:=row_elem hob h1 ho h2;obtain⟨u,h7,h8⟩:=run_loadPart hΓ ht hp (b:=b) (x:=j*T.size) (repT_leaves (g:=g) h5) h6;exact Post.quiet hob (v:=u) (by simp[execOp,hop,h3,Instr.loadAt,Instr.sureAddr,h7]) hZ h8
theorem put_some{cs vs r:List AV}{off:Nat}(h:put cs off vs=some r):off+vs.length<=cs.length/\r=cs.take off++vs++cs.drop (off+vs.length):=by
 unfold put at h;split at h
 . rename_i hl;exact⟨hl,by simpa using h.symm⟩
 . cases h
theorem put_rep{cs vs r:List AV}{us xs:List Value}{off:Nat}(h:put cs off vs=some r)(h1:RepL w m g cs us)(h2:RepL w m g vs xs) :
 off+xs.length<=us.length/\RepL w m g r (us.take off++xs++us.drop (off+xs.length)):=by
 obtain⟨hl,rfl⟩:=put_some h;rw[<-h1.length,<-h2.length]at hl;refine⟨hl,?_⟩;rw[<-h2.length];exact((h1.take off).append h2).append (h1.drop _)
theorem op_store_ptr(hΓ:GOk P Γ)(hob:RepOb w m g ob){t:TypeId}{ti:TI}{x y:Operand}{i off:Nat}{cs cs':List AV}{v:AV}(hop:o.op = .store t x y)(ht:Γ t=some ti)(h:RepV w m g (.ptr i off) (a.eval x))(ho:ob[i]? = some cs)(hsi:∀s p,cs=[.siter s p]->False)(har:∀e T l,cs=[.arrc e T l]->False)(hva:∀e n l,cs=[.vals e n l]->False)(hbl:∀t o,cs=[.bldr t o]->False)(hv:RepV w m g v (a.eval y))(hl:v.cells.length=ti.size)(hlf:v.cells.all AV.leaf=true)(hp:put cs off v.cells=some cs')(hZ:Z (.tuple []) [.obj i cs']):Post P o a w m g ob Z:=by
 obtain⟨b,h1,h2⟩:=h;obtain⟨info,z,k1,k2,_⟩:=hΓ.info ht;have hc:=cells_rep hv hlf;have hcs:(a.eval y).cells.size=info.size:=by rw[k2,<-hl,<-hc.length];simp
 rcases box_of_ptr (off:=off) hob h1 ho hsi har hva hbl with rfl|⟨ty,arr,k3,k4,k6⟩
 . obtain⟨hlen,rfl⟩:=put_some hp
   have h0:v.cells=[]:=by simp at hlen;exact hlen.2
   have hr:(execOp a.eval o).run P w = .ok .skip w:=by
    have e0:(a.eval y).cells.toList=[]:=by rw[h0]at hc;exact hc
    have hsz:info.size=0:=by rw[k2,<-hl,h0];rfl
    have e1:(a.eval y).cells = #[]:=by simpa using e0
    simp[execOp,hop,h2,Instr.storeAt,Instr.sureAddr,storeVar,run_size k1,hcs,e1,hsz,storeCells]
   refine Post.skip hr hZ ?_ (λ_ _ h=>h) (Stp.refl _ hob.nm);have:ob.set i (([]:List AV).take off++v.cells++([]:List AV).drop (off+v.cells.length))=ob:=by
    apply ext_getElem?;intro q
    rw[getElem?_set];split
    . rename_i e;subst e
      rw[h0,ho,if_pos (List.getElem?_eq_some_iff.1 ho).1];simp
    . rfl
   simp only[wr];rw[this];exact hob
 . obtain⟨hfit,hrep⟩:=put_rep hp k4 hc
   have hst:=run_storeCells_at P b off ty (a.eval y).cells.toList 0 arr w k3 (by simpa using hfit) (leafL_one hc hlf);have hr:(execOp a.eval o).run P w = .ok .skip (w.setRow b (arr.toList.take off++(a.eval y).cells.toList++arr.toList.drop (off+(a.eval y).cells.toList.length)).toArray):=by
    simp only[add_zero]at hst;simp[execOp,hop,h2,Instr.storeAt,Instr.sureAddr,storeVar,run_size k1,hcs,hst]
   have hbx:isBox cs'=true\/cs'=[]:=by
    by_cases hn:cs'=[]
    . exact .inr hn
    . exact .inl (isBox_of_rep hrep hn)
   have hblk:=box_blk k6 rfl (b:=b);obtain⟨r1,r2⟩:=hob.set (w':=w.setRow b (arr.toList.take off++(a.eval y).cells.toList++arr.toList.drop (off+(a.eval y).cells.toList.length)).toArray) (cs':=cs') h1 ho
    (λb' hb'=>by
     rw[hblk];rcases hbx with hbx|rfl
     . rw[box_blk hbx rfl]at hb';exact hb'
     . simp[blk]at hb')
    rfl rfl rfl (by simp[World.setRow]) (λb' _ hne=>setRow_other w b b' _ λe=>hne (by rw[e];exact hblk))
    (λhs=>⟨(λe T l he=>by subst he;exact(not_rowc hrep).elim),(λT l he=>by subst he;exact(not_frow hrep).elim),λ_=>⟨b,ty,_,rfl,setRow_heap w b arr _ ty (0,0) k3,by simpa using hrep.mono hs (λ_ _ h=>h)⟩,(λs p he=>by subst he;exact(not_siter hrep).elim),.of_rep hrep⟩)
   exact Post.skip hr hZ r1 (λ_ _ h=>h) r2
theorem op_load_bld(hΓ:GOk P Γ)(hob:RepOb w m g ob){t u:TypeId}{ti:TI}{x:Operand}{i r:Nat}{e:TypeId}(hop:o.op = .load t x)(ht:Γ t=some ti)(hd:ti.d = .slice e)(h:RepV w m g (.ptr i 1) (a.eval x))(ho:ob[i]? = some [.bldr u r])(hZ:Z (.row r) []):Post P o a w m g ob Z:=by
 obtain⟨b,h1,h2⟩:=h;obtain⟨b',p,v,he,hh,_,hv⟩:=(hob.obj i _ _ h1 ho).more;simp only[Value.pointer.injEq,Option.some.injEq,Addr.mk.injEq,and_true]at he;subst he;have hc:w.cell? ⟨b,1,none⟩=some v:=by rw[cell_of_row w b 1 _ u (0,0) hh];rfl
 have hagg:ti.isAgg=false:=by simp[TI.isAgg,hd]
 refine Post.quiet hob (v:=v) ?_ hZ hv;simp[execOp,hop,h2,Instr.loadAt,Instr.sureAddr,loadVar,run_isAgg hΓ ht,hagg,run_load,hc]
theorem op_store_bld(hΓ:GOk P Γ)(hob:RepOb w m g ob){t u:TypeId}{ti:TI}{x y:Operand}{i r r':Nat}(hop:o.op = .store t x y)(ht:Γ t=some ti)(h:RepV w m g (.ptr i 1) (a.eval x))(ho:ob[i]? = some [.bldr u r])(hv:RepV w m g (.row r') (a.eval y))(hl:(AV.row r').cells.length=ti.size)(hZ:Z (.tuple []) [.obj i [.bldr u r']]):Post P o a w m g ob Z:=by
 obtain⟨b,h1,h2⟩:=h;obtain⟨info,z,k1,k2,_⟩:=hΓ.info ht;obtain⟨b',p,v,he,hh,hp,_⟩:=(hob.obj i _ _ h1 ho).more;simp only[Value.pointer.injEq,Option.some.injEq,Addr.mk.injEq,and_true]at he;subst he;have hc:=cells_rep hv rfl;have hcs:(a.eval y).cells.size=info.size:=by rw[k2,<-hl,<-hc.length];simp
 have hcl:(a.eval y).cells.toList=[a.eval y]:=by
  obtain⟨_,ao,n,c,he⟩:=hv;rw[he];rfl
 have hst:=run_storeCells_at P b 1 u (a.eval y).cells.toList 0 #[p,v] w hh (by rw[hcl];simp) (leafL_one hc rfl);have hr:(execOp a.eval o).run P w = .ok .skip (w.setRow b #[p,a.eval y]):=by
  simp only[add_zero]at hst;rw[hcl]at hst;simp only[length_cons,List.length_nil,List.take,List.drop,List.cons_append,nil_append,List.take_succ_cons]at hst;simp[execOp,hop,h2,Instr.storeAt,Instr.sureAddr,storeVar,run_size k1,hcs,hcl,hst]
 obtain⟨r1,r2⟩:=hob.set (w':=w.setRow b #[p,a.eval y]) (cs':=[.bldr u r']) h1 ho (λb' hb'=>hb') rfl rfl rfl (by simp[World.setRow]) (λb' _ hne=>setRow_other w b b' _ λe=>hne (by rw[e];rfl))
  (λhs=>⟨(λ_ _ _ h=>by cases h),(λ_ _ h=>by cases h),(λh=>by simp[isBox]at h),(λ_ _ h=>by cases h),⟨b,p,a.eval y,rfl,setRow_heap w b _ _ u (0,0) hh,hp,hv⟩⟩)
 exact Post.skip hr hZ r1 (λ_ _ h=>h) r2
end Go.Ae
namespace Go.Ae
open Go.RowKit
variable {P:Program} {Γ:Tys} {o:Oper} {a:Act} {w:World} {m:Md} {g:List Value} {ob:Store} {Z:AV->List Wr->Prop}
theorem fields_get{fields:Array Field}{fs:List (Nat×TypeId)}(h:fields.toList.map (λf=>(f.offset,f.type))=fs){f:Nat}{fo:Nat}{ft:TypeId}(hf:fs[f]? = some (fo,ft)) :
 ∃fld,fields[f]? = some fld/\fld.offset=fo/\fld.type=ft:=by
 subst h;rw[getElem?_map]at hf;obtain⟨fld,h1,h2⟩:=map_eq_some_iff.1 hf;exact⟨fld,by simpa using h1,by simpa using congrArg Prod.fst h2,by simpa using congrArg Prod.snd h2⟩
theorem op_fieldAddr(hΓ:GOk P Γ)(hob:RepOb w m g ob){s:TypeId}{x:Operand}{f:Nat}{fs:List (Nat×TypeId)}{fo:Nat}{ft:TypeId}{av av':AV}(hop:o.op = .fieldAddr s x f)(hs:tdOf Γ s = .struct fs)(hf:fs[f]? = some (fo,ft))(hz:((Γ ft).map (·.size)).getD 0≠0)(h:RepV w m g av (a.eval x))(hav:(match av with | .ptr i off=>av' = .ptr i (off+fo) | .elt T y off=>av' = .elt T y (off+fo) | .rel i sz j off=>av' = .rel i sz j (off+fo)|_=>False))(hZ:Z av' []):Post P o a w m g ob Z:=by
 obtain⟨fields,h1,h2⟩:=hΓ.structT hs;obtain⟨fld,h3,h4,h5⟩:=fields_get h2 hf;cases hti:Γ ft with
 | none=>simp[hti]at hz
 | some ti =>
  obtain⟨info,z,k1,k2,_⟩:=hΓ.info hti;have hsz:info.size≠0:=by rw[k2];simpa[hti]using hz
  have run:∀b q,a.eval x = .pointer (some ⟨b,q,none⟩)->(execOp a.eval o).run P w = .ok (.value (.pointer (some ⟨b,q+fo,none⟩))) w:=by
   intro b q he;simp[execOp,hop,he,Instr.fieldAt,run_underlying h1,h3,Instr.sureAddr,fieldPlace,h5,run_size k1,hsz,h4,lit_add]
  cases av<;>simp only at hav
  case ptr=>subst hav;obtain⟨b,k3,k4⟩:=h;exact Post.quiet hob (run b _ k4) hZ ⟨b,k3,rfl⟩
  case elt=>subst hav;obtain⟨b,q,us,k3,k4⟩:=h;exact Post.quiet hob (run b _ k3) hZ ⟨b,q,us,by rw[add_assoc],k4⟩
  case rel=>subst hav;obtain⟨b,k3,k5⟩:=h;exact Post.quiet hob (run b _ k5) hZ ⟨b,k3,by rw[add_assoc]⟩
theorem run_part(hΓ:GOk P Γ){t:TypeId}{ti:TI}(ht:Γ t=some ti){cs:List AV}{off:Nat}{v:AV}(hp:part ti cs off=some v){arr:Array Value}(hr:RepL w m g cs arr.toList) :
 ∃u,(Go.part t arr off).run P w = .ok u w/\RepV w m g v u:=by
 obtain⟨hl,hv⟩:=part_some hp;have hr2:=(hr.drop off).take ti.size;obtain⟨info,z,h1,h2,_⟩:=hΓ.info ht;rcases hv with⟨hi,rfl⟩|⟨hi,hs⟩
 . refine⟨.agg (arr.extract off (off+ti.size)),?_,_,rfl,?_⟩
   . simp[Go.part,run_isAgg hΓ ht,hi,run_size h1,h2]
   . have:(arr.extract off (off+ti.size)).toList=(arr.toList.drop off).take ti.size:=by simp
     rw[this];exact hr2
 . rw[hs]at hr2
   obtain⟨u,r,h3,h4,h5⟩:=hr2;refine⟨u,?_,h4⟩;have:arr[off]? = some u:=by
    have h0:((arr.toList.drop off).take ti.size)[0]? = some u:=by rw[h3];rfl
    rw[getElem?_take]at h0;split at h0
    . rw[getElem?_drop]at h0;simpa using h0
    . cases h0
   simp[Go.part,run_isAgg hΓ ht,hi,this]
theorem op_field(hΓ:GOk P Γ)(hob:RepOb w m g ob){s:TypeId}{x:Operand}{f:Nat}{fs:List (Nat×TypeId)}{fo:Nat}{ft:TypeId}{ti:TI}{cs:List AV}{v:AV}(hop:o.op = .field s x f)(hs:tdOf Γ s = .struct fs)(hf:fs[f]? = some (fo,ft))(ht:Γ ft=some ti)(h:RepV w m g (.agg cs) (a.eval x))(hp:part ti cs fo=some v)(hZ:Z v []):Post P o a w m g ob Z:=by
 obtain⟨fields,h1,h2⟩:=hΓ.structT hs;obtain⟨fld,h3,h4,h5⟩:=fields_get h2 hf;obtain⟨arr,h6,h7⟩:=h;obtain⟨u,h8,h9⟩:=run_part hΓ ht hp h7;refine Post.quiet hob (v:=u) ?_ hZ h9;simp[execOp,hop,h6,Instr.field,run_underlying h1,h3,h4,h5,asAgg,h8]
theorem chk_some{R:Type}{b:Bool}{x:Option R}{r:R}(h:chk b x=some r):b=true/\x=some r:=by
 unfold chk at h;cases b<;>simp_all
theorem bnd{i:Int}{n:Nat}(h:(decide (0<=i)&&decide (i<(n:Int)))=true):0<=i/\i<n/\i.toNat<n:=by
 simp only[and_eq_true,decide_eq_true_eq]at h;omega
theorem idxF_some{R:Type}{i:Int}{κ:Nat->Option R}{r:R}:∀{l:List Nat},idxF i κ l=some r->∃j∈l,i=(j:Int)/\κ j=some r
 | [],h=>by cases h
 | j::l,h=>by
  simp only[idxF]at h;by_cases hj:i=(j:Int)
  . rw[decide_eq_true hj]at h;exact⟨j,mem_cons_self,hj,h⟩
  . rw[decide_eq_false hj]at h
    obtain⟨q,h1,h2⟩:=idxF_some h;exact⟨q,mem_cons_of_mem _ h1,h2⟩
theorem op_indexAddr_arrE(hΓ:GOk P Γ)(hob:RepOb w m g ob){t e:TypeId}{ei:TI}{x y:Operand}{k:IntKind}{j n off:Nat}{T:Ty}{d:T.den}(hop:o.op = .indexAddr t x y)(ht:tdOf Γ t = .array n e)(he:Γ e=some ei)(hj:j<n)(hi:RepV w m g (.int k (j:Int)) (a.eval y))(h:RepV w m g (.elt T d off) (a.eval x))(hZ:Z (.elt T d (off+j*ei.size)) []):Post P o a w m g ob Z:=by
 obtain⟨b,q,us,h1,h2⟩:=h;obtain⟨info,z,k1,k2,_⟩:=hΓ.info he;obtain⟨d1,hu1,hd1⟩:=hΓ.td ht (by simp);have hd1':d1 = .array n e:=hd1;subst hd1';refine Post.quiet hob (v := .pointer (some ⟨b,q+(off+j*ei.size),none⟩)) ?_ hZ ⟨b,q,us,rfl,h2⟩;have hlt:(j:Int)<(n:Int):=by omega
 simp[execOp,hop,hi.1,h1,Instr.indexAt,asIntOf,run_underlying hu1,hlt,run_size k1,k2,lit_add,Instr.sureAddr,asAddr,add_assoc];intro hh;omega
theorem op_indexAddr_boxE(hΓ:GOk P Γ)(hob:RepOb w m g ob){t e:TypeId}{ei:TI}{x y:Operand}{k:IntKind}{j n q:Nat}(hop:o.op = .indexAddr t x y)(ht:tdOf Γ t = .array n e)(he:Γ e=some ei)(hj:j<n)(hi:RepV w m g (.int k (j:Int)) (a.eval y))(h:RepV w m g (.ptr q 0) (a.eval x))(hZ:Z (.ptr q (j*ei.size)) []):Post P o a w m g ob Z:=by
 obtain⟨b,h3,h5⟩:=h;obtain⟨info,z,k1,k2,_⟩:=hΓ.info he;obtain⟨d1,hu1,hd1⟩:=hΓ.td ht (by simp);have hd1':d1 = .array n e:=hd1;subst hd1';refine Post.quiet hob (v := .pointer (some ⟨b,j*ei.size,none⟩)) ?_ hZ ⟨b,h3,rfl⟩;have hlt:(j:Int)<(n:Int):=by omega
 simp[execOp,hop,hi.1,h5,Instr.indexAt,asIntOf,run_underlying hu1,hlt,run_size k1,k2,lit_add,Instr.sureAddr,asAddr];intro hh;omega
theorem op_indexArr(hΓ:GOk P Γ)(hob:RepOb w m g ob){t e:TypeId}{x y:Operand}{k:IntKind}{j n:Nat}{ei:TI}{cs:List AV}{v:AV}(hop:o.op = .index t x y)(ht:tdOf Γ t = .array n e)(he:Γ e=some ei)(hj:j<n)(hi:RepV w m g (.int k (j:Int)) (a.eval y))(hx:RepV w m g (.agg cs) (a.eval x))(hp:part ei cs (j*ei.size)=some v)(hZ:Z v []):Post P o a w m g ob Z:=by
 obtain⟨arr,h1,h2⟩:=hx;obtain⟨d1,hu1,hd1⟩:=hΓ.td ht (by simp);have hd1':d1 = .array n e:=hd1;subst hd1';obtain⟨u,h3,h4⟩:=run_part hΓ he hp h2;obtain⟨info,z,k1,k2,_⟩:=hΓ.info he;refine Post.quiet hob (v:=u) ?_ hZ h4;have hlt:(0:Int)<=(j:Int)/\(j:Int)<(n:Int):=by omega
 have hlt2:j<n:=hj;simp[execOp,hop,hi.1,h1,Instr.index,asIntOf,run_underlying hu1,hlt.2,hlt2,run_size k1,k2];rw[h3];rfl
theorem op_indexStr(hob:RepOb w m g ob){t:TypeId}{x y:Operand}{k:IntKind}{i:Int}{s:List UInt8}(hop:o.op = .index t x y)(ht:P.underlying t=some .string)(hi:RepV w m g (.int k i) (a.eval y))(h:RepV w m g (.str s) (a.eval x))(hb:(decide (0<=i)&&decide (i<(s.length:Int)))=true)(hZ:Z (.int .u8 ((s.getD i.toNat 0).toNat:Int)) []):Post P o a w m g ob Z:=by
 obtain⟨h0,h1,h2⟩:=bnd hb;have e1:(⟨⟨s⟩⟩:ByteArray)[i.toNat]? = some (s.getD i.toNat 0):=by
  rw[getD_eq_getElem?_getD,getElem?_eq_getElem h2,Option.getD_some];rw[getElem?_pos (⟨⟨s⟩⟩:ByteArray) i.toNat (by show i.toNat<(⟨s⟩:Array UInt8).size;simpa using h2)];rfl
 refine Post.quiet hob (v := .int .u8 ((s.getD i.toNat 0).toNat:Int)) ?_ hZ ⟨rfl,Rng.byte _⟩;simp[execOp,hop,hi.1,show a.eval x=_ from h,Instr.index,asIntOf,run_underlying ht,h0,e1]
theorem op_indexAddr_elt(hΓ:GOk P Γ)(hob:RepOb w m g ob){t e:TypeId}{ei:TI}{x y:Operand}{k:IntKind}{i:Int}{T:Ty}{l:List T.den}{ao:Option Addr}(hop:o.op = .indexAddr t x y)(ht:tdOf Γ t = .slice e)(he:Γ e=some ei)(hsz:T.size=ei.size)(hi:RepV w m g (.int k i) (a.eval y))(h:RepT w m (.lst T) l [a.eval x])(hb:(decide (0<=i)&&decide (i<(l.length:Int)))=true)(hZ:Z (.elt T (l.getD i.toNat T.dflt) 0) []):Post P o a w m g ob Z:=by
 obtain⟨h0,h1,h2⟩:=bnd hb;obtain⟨ao,cap,h3,h4,h5,_,h6⟩:=h;have hx:a.eval x = .slice ao l.length cap:=by simpa[asL]using h3
 have hgd:l[i.toNat]? = some (l.getD i.toNat T.dflt):=by rw[getD_eq_getElem?_getD,getElem?_eq_getElem h2];rfl
 obtain⟨b,q,us,rfl,h7,h8,h9,h10,h11⟩:=h6 i.toNat _ hgd;obtain⟨info,z,k1,k2,_⟩:=hΓ.info he;refine Post.quiet hob (v := .pointer (some ⟨b,q+i.toNat*T.size,none⟩)) ?_ hZ ⟨b,_,us,rfl,h7,h9,h10,h11⟩;simp[execOp,hop,hi.1,hx,Instr.indexAt,asIntOf,run_underlying (hΓ.slice ht),h0,h1,run_size k1,k2,<-hsz,lit_add]
theorem op_indexAddr_row(hΓ:GOk P Γ)(hob:RepOb w m g ob){t e:TypeId}{ei:TI}{x y:Operand}{k:IntKind}{i:Int}{q:Nat}{e':TypeId}{T:Ty}{l:List T.den}(hop:o.op = .indexAddr t x y)(ht:tdOf Γ t = .slice e)(he:Γ e=some ei)(hsz:T.size=ei.size)(hi:RepV w m g (.int k i) (a.eval y))(h:RepV w m g (.row q) (a.eval x))(ho:ob[q]? = some [.rowc e' T l])(hb:(decide (0<=i)&&decide (i<(l.length:Int)))=true)(hZ:Z (.rel q T.size i.toNat 0) []):Post P o a w m g ob Z:=by
 obtain⟨h0,h1,h2⟩:=bnd hb;obtain⟨h3,_⟩:=h;obtain⟨xs,h4,_⟩:=(hob.obj q _ _ h3 ho).rowc e' T l rfl;obtain⟨ao,cap,h5,_,_,_,h6,_⟩:=own_cells h4;obtain⟨b,rfl,_⟩:=h6 (by omega);obtain⟨info,z,k1,k2,_⟩:=hΓ.info he;rw[h5]at h3;refine Post.quiet hob (v := .pointer (some ⟨b,i.toNat*T.size,none⟩)) ?_ hZ ⟨b,.inl ⟨_,_,h3,h2⟩,rfl⟩;simp[execOp,hop,hi.1,h5,Instr.indexAt,asIntOf,run_underlying (hΓ.slice ht),h0,h1,run_size k1,k2,<-hsz,lit_add]
theorem op_indexAddr_win(hΓ:GOk P Γ)(hob:RepOb w m g ob){t e:TypeId}{ei:TI}{x y:Operand}{k:IntKind}{i:Int}{q sz off n:Nat}(hop:o.op = .indexAddr t x y)(ht:tdOf Γ t = .slice e)(he:Γ e=some ei)(hsz:sz=ei.size)(hi:RepV w m g (.int k i) (a.eval y))(h:RepV w m g (.win q sz off n) (a.eval x))(hb:(decide (0<=i)&&decide (i<(n:Int)))=true)(hZ:Z (.rel q sz (off+i.toNat) 0) []):Post P o a w m g ob Z:=by
 obtain⟨h0,h1,h2⟩:=bnd hb;obtain⟨a0,n0,c0,ao,cap,h3,h5,h6⟩:=h;obtain⟨b,rfl,h4,rfl⟩:=h6 (by omega);obtain⟨info,z,k1,k2,_⟩:=hΓ.info he;refine Post.quiet hob (v := .pointer (some ⟨b,(off+i.toNat)*sz,none⟩)) ?_ hZ ⟨b,.inl ⟨_,_,h3,by omega⟩,rfl⟩;simp[execOp,hop,hi.1,h5,Instr.indexAt,asIntOf,run_underlying (hΓ.slice ht),h0,h1,run_size k1,k2,<-hsz,lit_add,add_mul]
theorem op_indexAddr_vals(hΓ:GOk P Γ)(hob:RepOb w m g ob){t e:TypeId}{ei:TI}{x y:Operand}{k:IntKind}{i:Int}{q n:Nat}{e':TypeId}{cs:List AV}(hop:o.op = .indexAddr t x y)(ht:tdOf Γ t = .slice e)(he:Γ e=some ei)(hi:RepV w m g (.int k i) (a.eval y))(h:RepV w m g (.row q) (a.eval x))(ho:ob[q]? = some [.vals e' n cs])(hb:(decide (0<=i)&&decide (i<(n:Int)))=true)(hZ:Z (.rel q ei.size i.toNat 0) []):Post P o a w m g ob Z:=by
 obtain⟨h0,h1,h2⟩:=bnd hb;obtain⟨h3,_⟩:=h;obtain⟨b,ty,arr,c,h5,_⟩:=(hob.obj q _ _ h3 ho).more;obtain⟨info,z,k1,k2,_⟩:=hΓ.info he;rw[h5]at h3;refine Post.quiet hob (v := .pointer (some ⟨b,i.toNat*ei.size,none⟩)) ?_ hZ ⟨b,.inl ⟨_,_,h3,h2⟩,rfl⟩;simp[execOp,hop,hi.1,h5,Instr.indexAt,asIntOf,run_underlying (hΓ.slice ht),h0,h1,run_size k1,k2,lit_add]
theorem op_indexAddr_arr(hΓ:GOk P Γ)(hob:RepOb w m g ob){t e:TypeId}{ei:TI}{x y:Operand}{k:IntKind}{i:Int}{q n:Nat}{e':TypeId}{T:Ty}{l:List T.den}(hop:o.op = .indexAddr t x y)(ht:tdOf Γ t = .array n e)(he:Γ e=some ei)(hsz:T.size=ei.size)(hi:RepV w m g (.int k i) (a.eval y))(h:RepV w m g (.ptr q 0) (a.eval x))(ho:ob[q]? = some [.arrc e' T l])(hb:(decide (0<=i)&&decide (i<(n:Int)))=true)(hZ:Z (.rel q T.size i.toNat 0) []):Post P o a w m g ob Z:=by
 obtain⟨h0,h1,h2⟩:=bnd hb;obtain⟨b,h3,h5⟩:=h;obtain⟨info,z,k1,k2,_⟩:=hΓ.info he;obtain⟨d1,hu1,hd1⟩:=hΓ.td ht (by simp);have hd1':d1 = .array n e:=hd1;subst hd1';refine Post.quiet hob (v := .pointer (some ⟨b,i.toNat*T.size,none⟩)) ?_ hZ ⟨b,.inr h3,rfl⟩;simp[execOp,hop,hi.1,h5,Instr.indexAt,asIntOf,run_underlying hu1,h0,h1,run_size k1,k2,<-hsz,lit_add,Instr.sureAddr,asAddr]
theorem valsOf_rep(hob:RepOb w m g ob){x:AV}{v:Value}{n:Nat}(h:RepV w m g x v)(hx:valsOf ob x=some n) :
 ∃ao cap,v = .slice ao n cap:=by
 unfold valsOf at hx;split at hx<;>try (cases hx;done)
 rename_i q;split at hx<;>try (cases hx;done)
 rename_i e n' cs ho;cases hx;obtain⟨b,ty,arr,c,he,_⟩:=(hob.obj q _ _ h.1 ho).more;exact⟨_,c,he⟩
theorem asRow_rep(hob:RepOb w m g ob){x:AV}{v:Value}{T:Ty}{l:List T.den}(h:RepV w m g x v)(hx:asRow ob x=some ⟨T,l⟩) :
 ∃ao cap,v = .slice ao l.length cap/\l.length<=cap/\cap<=9223372036854775807:=by
 unfold asRow at hx;split at hx
 . cases hx;obtain⟨ao,cap,h1,h2,h3,_⟩:=h;exact⟨ao,cap,by simpa[asL]using h1,h2,h3⟩
 . rename_i q
   split at hx
   . rename_i e T' l' ho;cases hx
     obtain⟨xs,h4,_⟩:=(hob.obj q _ _ h.1 ho).rowc _ _ _ rfl;obtain⟨ao,cap,h5,h6,h7,_⟩:=own_cells h4;exact⟨ao,cap,h5,h6,h7⟩
   . rename_i T' l' ho;cases hx
     obtain⟨ao,cap,h1,h2,h3,_⟩:=(hob.obj q _ _ h.1 ho).frow _ _ rfl;exact⟨ao,cap,by simpa[asL]using h1,h2,h3⟩
   . cases hx
 . cases hx
theorem op_len_slice(hob:RepOb w m g ob){t e:TypeId}{x:Operand}{v:Value}{ao:Option Addr}{n cap:Nat}(hop:o.op = .call { callee := .builtin .len,args := #[x],argTypes := #[t] })(ht:P.underlying t=some (.slice e))(hx:a.eval x = .slice ao n cap)(hZ:Z (.int .i64 n) []):Post P o a w m g ob Z :=
 Post.quiet hob (v := .int .i64 n) (by simp[execOp,hop,hx,resolve,invoke,builtin,Builtin.len_,run_underlying ht,goInt]) hZ ⟨rfl,Rng.of_ne (by simp)⟩
theorem op_len_str(hob:RepOb w m g ob){t:TypeId}{x:Operand}{s:List UInt8}(hop:o.op = .call { callee := .builtin .len,args := #[x],argTypes := #[t] })(ht:P.underlying t=some .string)(hx:RepV w m g (.str s) (a.eval x))(hZ:Z (.int .i64 s.length) []):Post P o a w m g ob Z :=
 Post.quiet hob (v := .int .i64 s.length) (by
  have:(⟨⟨s⟩⟩:ByteArray).size=s.length:=rfl;simp[execOp,hop,show a.eval x=_ from hx,resolve,invoke,builtin,Builtin.len_,run_underlying ht,goInt,this]) hZ ⟨rfl,Rng.of_ne (by simp)⟩
section
variable {P:Program} {w:World}
def findE(p:Value->Bool):List MapEntry->Nat->Option (Nat×Value)
 | [],_=>none
 | e::es,i=>match p e.key with|true=>some (i,e.val)|false=>findE p es (i+1)
def lookE(p:Value->Bool):List (Value×Value)->Option Value
 | []=>none
 | e::es=>match p e.1 with|true=>some e.2|false=>lookE p es
theorem findE_look(p:Value->Bool):∀(es:List MapEntry) (i:Nat),(findE p es i).map Prod.snd=lookE p (es.map λe=>(e.key,e.val))
 | [],_=>rfl
 | e::es,i=>by
  simp only[findE,map_cons,lookE];cases p e.key with
  | true=>rfl
  | false=>exact findE_look p es (i+1)
theorem findAsking_run{kt:TypeId}{k:Value}{p:Value->Bool}:∀(es:List MapEntry) (i:Nat),(∀e∈es,(Op.equal kt k e.key).run P w = .ok (p e.key) w)->(Instr.findAsking kt k es i).run P w = .ok (findE p es i) w
 | [],i,_=>rfl
 | e::es,i,h=>by
  simp only[Instr.findAsking,Sem.run_bind,h e mem_cons_self,Result.andThen_ok,findE];cases hp:p e.key with
  | true=>rfl
  | false=>exact findAsking_run es (i+1) λe he=>h e (mem_cons_of_mem _ he)
def isInt(x:Int):Value->Bool
 | .int _ n=>x==n
 | _=>false
theorem findNow_int{q:IntKind}{x:Int}:∀(es:List MapEntry) (i:Nat),(∀e∈es,∃n,e.key = .int q n)->Instr.findNow (.int q) (.int q x) es i=some (findE (isInt x) es i)
 | [],i,_=>rfl
 | e::es,i,h=>by
  obtain⟨n,hn⟩:=h e mem_cons_self;have ih:=findNow_int (q:=q) (x:=x) es (i+1) λe he=>h e (mem_cons_of_mem _ he);simp only[Instr.findNow,findE,hn,isInt,Instr.sameNow,if_true];cases x==n with
  | true=>rfl
  | false=>exact ih
theorem findKey_int{kt:TypeId}{q:IntKind}{x:Int}(hk:P.underlying kt=some (.int q)){es:List MapEntry}(h:∀e∈es,∃n,e.key = .int q n):(Instr.findKey kt (.int q x) es).run P w = .ok (findE (isInt x) es 0) w:=by
 simp only[Instr.findKey,Sem.run_bind,run_underlying hk,Result.andThen_ok,findNow_int es 0 h];rfl
theorem findNow_agg{fs:Array Field}{xs:Array Value}{e:MapEntry}{es:List MapEntry}{i:Nat}:Instr.findNow (.struct fs) (.agg xs) (e::es) i=none:=by
 simp only[Instr.findNow];rfl
theorem findKey_agg{kt:TypeId}{fs:Array Field}{xs:Array Value}{p:Value->Bool}(hk:P.underlying kt=some (.struct fs)){es:List MapEntry}(h:∀e∈es,(Op.equal kt (.agg xs) e.key).run P w = .ok (p e.key) w):(Instr.findKey kt (.agg xs) es).run P w = .ok (findE p es 0) w:=by
 simp only[Instr.findKey,Sem.run_bind,run_underlying hk,Result.andThen_ok]
 match es,h with
 | [],_=>rfl
 | e::es,h=>rw[findNow_agg];exact findAsking_run (e::es) 0 h
theorem run_getObj_m{b:Nat}{es:Array MapEntry}{clock:Nat}(hb:w.heap[b]? = some (.map es clock)):(getObj b).run P w = .ok (.map es clock) w:=by simp[getObj,Sem.run,hb]
theorem run_lookup{t kt et:TypeId}{b:Nat}{es:Array MapEntry}{clock:Nat}{key z:Value}{r:Option (Nat×Value)}(ht:P.underlying t=some (.map kt et))(hb:w.heap[b]? = some (.map es clock))(hk:(Instr.checkKey es.isEmpty 10000 kt key).run P w = .ok () w)(hf:(Instr.findKey kt key es.toList).run P w = .ok r w)(hz:(zeroValue et).run P w = .ok z w) :
 (Instr.lookup t (.map (some b)) key true).run P w = .ok (.tuple (match r.map Prod.snd with|some v => #[v,.bool true]|none => #[z,.bool false])) w:=by
 simp only[Instr.lookup,Sem.run_bind,run_underlying ht,Result.andThen_ok,run_getObj_m hb,Sem.run_pure,hk,hf];cases r with
 | none=>simp only[Option.map_none,Sem.run_bind,hz,Result.andThen_ok,Sem.run_pure];rfl
 | some x=>obtain⟨i,v⟩:=x;rfl
theorem run_update_new{t kt et:TypeId}{b:Nat}{es:Array MapEntry}{clock:Nat}{key val:Value}(ht:P.underlying t=some (.map kt et))(hb:w.heap[b]? = some (.map es clock))(hk:(Instr.checkKey false 10000 kt key).run P w = .ok () w)(hf:(Instr.findKey kt key es.toList).run P w = .ok none w) :
 (Instr.mapUpdate t (.map (some b)) key val).run P w = .ok () { w with heap:=w.heap.setIfInBounds b (.map (es.push { key,val,born:=clock }) (clock+1)) }:=by
 simp only[Instr.mapUpdate,Sem.run_bind,run_underlying ht,Result.andThen_ok,run_getObj_m hb,Sem.run_pure,hk,hf];simp[setObj,Sem.run,hb]
end
theorem fmF_look{R:Type}{n:Int}{k:IntKind}{κ:AV->Option R}{r:R}:∀(l:List (Int×FuncId)),fmF n κ l=some r ->
 ∃av,κ av=some r/\((lookE (isInt n) (l.map λq=>(.int k q.1,.func (.func q.2) #[] #[]))=none/\av = .nilf)\/∃f,lookE (isInt n) (l.map λq=>(.int k q.1,.func (.func q.2) #[] #[]))=some (.func (.func f) #[] #[])/\av = .func (.func f) [] [])
 | [],h=>⟨_,h,.inl ⟨rfl,rfl⟩⟩
 | q::l,h=>by
  simp only[fmF]at h;simp only[map_cons,lookE,isInt];by_cases hq:n=q.1
  . rw[decide_eq_true hq]at h
    rw[show (n==q.1)=true by simpa using hq];exact⟨_,h,.inr ⟨q.2,rfl,rfl⟩⟩
  . rw[decide_eq_false hq]at h
    rw[show (n==q.1)=false by simpa using hq];exact fmF_look l h
theorem op_lookupF(hΓ:GOk P Γ)(hob:RepOb w m g ob){t kt e:TypeId}{x y:Operand}{n:Int}{q:Nat}{p:IntKind×List (Int×FuncId)}{ti:TI}{R:Type}{κ:AV->List Wr->Option R}{r:R}(hop:o.op = .lookup t x y false)(ht:tdOf Γ t = .map kt e)(hk:tdOf Γ kt = .int p.1)(hp:fmapOf q=some p)(he:Γ e=some ti)(hd:ti.d = .func)(hz:ti.zero=[.nilf])(hy:RepV w m g (.int p.1 n) (a.eval y))(hx:RepV w m g (.opq q) (a.eval x))(h:fmF n (λv=>κ v []) p.2=some r):Post P o a w m g ob λv ws=>κ v ws=some r:=by
 obtain⟨b,ob',h1,h2,h3,h4,h5⟩:=hx;obtain⟨es,clock,rfl,hes⟩:=opq_fmap q ob' p h5 hp;obtain⟨d1,hu1,hd1⟩:=hΓ.td ht (by simp);have hd1':d1 = .map kt e:=hd1;subst hd1';have hint:∀en∈es.toList,∃n,en.key = .int p.1 n:=by
  intro en hen;have:(en.key,en.val)∈p.2.map λq=>((.int p.1 q.1,.func (.func q.2) #[] #[]):Value×Value):=hes▸List.mem_map_of_mem (f:=λe:MapEntry=>(e.key,e.val)) hen;obtain⟨q',_,e'⟩:=List.mem_map.1 this;exact⟨q'.1,(Prod.mk.inj e').1.symm⟩
 have hfk:=findKey_int (P:=P) (w:=w) (x:=n) (hΓ.intT hk) hint;have hlk:=findE_look (isInt n) es.toList 0;rw[hes]at hlk;obtain⟨info,desc,z,i1,i2,i3,i4,i5,i6,i7,i8⟩:=(hΓ e ti he).i;have hzv:z = .nilFunc:=by
  have hr:=i7 w m g;rw[hz]at hr;obtain⟨v,r',e1,e2,e3⟩:=hr;have hna:=i8 (by simp[TI.isAgg,hd]);have e2':v = .nilFunc:=e2;have e3':r'=[]:=e3;subst e2' e3';cases z<;>first|rfl|(exact absurd rfl (hna _))|(simp[Value.cells]at e1;done)
 subst hzv;have hck0:∀k,(Instr.checkKey es.isEmpty (k+1) kt (.int p.1 n)).run P w = .ok () w:=by
  intro k;simp only[Instr.checkKey,Sem.run_bind,run_underlying (hΓ.intT hk),Result.andThen_ok];rfl
 have hck:(Instr.checkKey es.isEmpty 10000 kt (.int p.1 n)).run P w = .ok () w:=hck0 9999;obtain⟨av,k1,k2⟩:=fmF_look (k:=p.1) p.2 h;rw[<-hlk]at k2;have hrun:∀v,(match findE (isInt n) es.toList 0 with|some x=>x.2|none=>Value.nilFunc)=v->(execOp a.eval o).run P w = .ok (.value v) w:=by
  intro v hv;subst hv;simp only[execOp,hop,h1,hy.1,Instr.lookup,Sem.run_bind,run_underlying hu1,Result.andThen_ok,run_getObj_m h4,Sem.run_pure,hck,hfk,Sem.run_map];cases findE (isInt n) es.toList 0 with
  | none=>simp[zeroValue,typeInfo,i1,i5]
  | some x=>rfl
 rcases k2 with⟨e1,rfl⟩|⟨f,e1,rfl⟩
 . refine Post.quiet hob (v := .nilFunc) (hrun _ ?_) k1 rfl
   cases hq:findE (isInt n) es.toList 0 with
   | none=>rfl
   | some x=>rw[hq]at e1;simp at e1
 . refine Post.quiet hob (v := .func (.func f) #[] #[]) (hrun _ ?_) k1 ⟨#[],#[],rfl,rfl,rfl⟩
   cases hq:findE (isInt n) es.toList 0 with
   | none=>rw[hq]at e1;simp at e1
   | some x=>rw[hq]at e1;simpa using e1
end Go.Ae
namespace Go.Ae
open Go.RowKit
variable {P:Program} {Γ:Tys} {o:Oper} {a:Act} {w:World} {m:Md} {g:List Value} {ob:Store} {Z:AV->List Wr->Prop}
theorem toList_mk(s:List UInt8):(⟨⟨s⟩⟩:ByteArray).toList=s:=by rw[ByteArray.toList_eq]
theorem eqFs_sound(hΓ:GOk P Γ)(d:Nat)(rec:TypeId->AV->AV->Option Bool)(hrec:∀t x y b u v,rec t x y=some b->RepV w m g x u->RepV w m g y v->(Op.equalIn d t u v).run P w = .ok b w){xs ys:List AV}{us vs:Array Value}(hx:RepL w m g xs us.toList)(hy:RepL w m g ys vs.toList) :
 ∀(fields:List Field) (b:Bool),(∀f∈fields,f.name ≠ "_")->eqFs part rec Γ xs ys (fields.map λf=>(f.offset,f.type))=some b->(Op.eqFields d us vs fields).run P w = .ok b w
 | [],b,_,h=>by simp[eqFs]at h;subst h;simp[Op.eqFields]
 | f::fs,b,hn,h=>by
  simp only[map_cons,eqFs]at h;split at h
  . rename_i ti hti
    split at h
    . rename_i x y hpx hpy
      split at h
      . rename_i a1 b1 ha hb
        cases h;obtain⟨u,h1,h2⟩:=run_part hΓ hti hpx hx;obtain⟨v,h3,h4⟩:=run_part hΓ hti hpy hy;have h5:=hrec _ _ _ _ _ _ ha h2 h4;have ih:=eqFs_sound hΓ d rec hrec hx hy fs b1 (λf hf=>hn f (mem_cons_of_mem _ hf)) hb;have hne:f.name ≠ "_" := hn f mem_cons_self;simp only[Op.eqFields,if_pos hne,Sem.run_bind,h1,Result.andThen_ok,h3,h5];cases a1
        . simp
        . simpa using ih
      . cases h
    . cases h
  . cases h
theorem eqT_sound(hΓ:GOk P Γ):∀(n:Nat) (d:Nat) (t:TypeId) (x y:AV) (b:Bool) (u v:Value),n<=d->eqT Γ n t x y=some b->RepV w m g x u->RepV w m g y v->(Op.equalIn d t u v).run P w = .ok b w
 | 0,_,_,_,_,_,_,_,_,h,_,_=>by simp[eqT]at h
 | n+1,0,_,_,_,_,_,_,hd,_,_,_=>by omega
 | n+1,d+1,t,x,y,b,u,v,hd,h,hx,hy=>by
  simp only[eqT]at h;split at h
  . rename_i ti hti
    split at h
    . rename_i k0 k a0 k' b0 ki
      split at h
      . rename_i e;subst e;cases h
        rw[hx.1,hy.1];exact run_equalIn_int w d t k k0 a0 b0 (hΓ.intT ((tdOf_some hti).trans ki))
      . cases h
    . rename_i a0 b0 ki;cases h
      rw[show u=_ from hx,show v=_ from hy];exact run_equalIn_bool' w d t a0 b0 (hΓ.boolT ((tdOf_some hti).trans ki))
    . rename_i a0 b0 ki;cases h
      rw[show u=_ from hx,show v=_ from hy];have:=run_equalIn_string (P:=P) w d t ⟨⟨a0⟩⟩ ⟨⟨b0⟩⟩ (hΓ.strT ((tdOf_some hti).trans ki))
      rwa[toList_mk,toList_mk]at this
    . rename_i fs xs ys ki
      split at h
      . rename_i hc
        obtain⟨us,rfl,h1⟩:=hx;obtain⟨vs,rfl,h2⟩:=hy;obtain⟨fields,h3,h4⟩:=hΓ.structT ((tdOf_some hti).trans ki);obtain⟨h5,h6,h7⟩:=(hΓ t ti hti).cmp hc;have hfo:P.fieldsOf t=fields:=by unfold Program.fieldsOf;rw[h3]
        rw[run_equalIn_struct w d t us vs (by rw[hfo];exact h3) h5,hfo];subst h4;exact eqFs_sound hΓ d (eqT Γ n) (λt x y b u v he hu hv=>eqT_sound hΓ n d t x y b u v (by omega) he hu hv) h1 h2 fields.toList b (h7 fields h3) h
      . cases h
    . cases h
  . cases h
theorem rng_shr{k:IntKind}{x:Int}(h:Rng k x)(n:Nat):Rng k (x.fdiv (2^n)):=by
 intro e;obtain⟨h1,h2⟩:=h e;have hp:(0:Int)<2^n:=Int.pow_pos (by omega);rw[Int.fdiv_eq_ediv_of_nonneg _ (Int.le_of_lt hp)];refine⟨Int.ediv_nonneg h1 (Int.le_of_lt hp),?_⟩;have:=Int.ediv_le_self (2^n:Int) h1;omega
theorem rng_rem{k:IntKind}{x y:Int}(h:Rng k x):Rng k (x.tmod y):=by
 intro e;obtain⟨h1,h2⟩:=h e;refine⟨Int.tmod_nonneg y h1,?_⟩;have h3:=Int.natAbs_tmod x y;have h4:=Nat.mod_le x.natAbs y.natAbs;omega
theorem op_bin(hΓ:GOk P Γ)(hob:RepOb w m g ob){op:BinOp}{t u:TypeId}{x y:Operand}{ax ay:AV}{R:Type}{κ:AV->Option R}{r:R}(hop:o.op = .binOp op t x y u)(hx:RepV w m g ax (a.eval x))(hy:RepV w m g ay (a.eval y))(h:binF Γ op t ax ay κ=some r)(hZ:∀v,κ v=some r->Z v []):Post P o a w m g ob Z:=by
 have key:∀(v:Value) (av:AV),(eqGuard op t x y (a.eval x) (a.eval y)).run P w = .ok () w->(binOp op t (a.eval x) (a.eval y)).run P w = .ok v w->RepV w m g av v->κ av=some r->Post P o a w m g ob Z:=by
  intro v av h1 h2 h3 h4;exact Post.quiet hob (v:=v) (by simp[execOp,hop,h1,h2]) (hZ av h4) h3
 have keyI:∀{kk:IntKind} {nn:Int},κ (.int kk nn)=some r->Rng kk nn->(eqGuard op t x y (a.eval x) (a.eval y)).run P w = .ok () w->(binOp op t (a.eval x) (a.eval y)).run P w = .ok (.int kk nn) w->Post P o a w m g ob Z :=
  λh4 h3 h1 h2=>key _ (.int _ _) h1 h2 ⟨rfl,h3⟩ h4
 have keyB:∀{b:Bool},κ (.bool b)=some r->(eqGuard op t x y (a.eval x) (a.eval y)).run P w = .ok () w->(binOp op t (a.eval x) (a.eval y)).run P w = .ok (.bool b) w->Post P o a w m g ob Z :=
  λh4 h1 h2=>key _ (.bool _) h1 h2 rfl h4
 unfold binF at h;split at h
 . rename_i k n k' n'
   obtain⟨ex,hn⟩:=hx;obtain⟨ey,hn'⟩:=hy;have hg:∀op,(eqGuard op t x y (.int k n) (.int k' n')).run P w = .ok () w:=by intro op;cases op<;>simp[eqGuard]
   split at h
   . obtain⟨hb,h⟩:=chk_some h
     have:¬n'<0:=by simpa using hb
     exact keyI h (Rng.wrap _ _) (by rw[ex,ey];exact hg _) (by rw[ex,ey];simp[binOp,Op.shift,this])
   . obtain⟨hb,h⟩:=chk_some h
     have:¬n'<0:=by simpa using hb
     exact keyI h (rng_shr hn _) (by rw[ex,ey];exact hg _) (by rw[ex,ey];simp[binOp,Op.shift,this])
   . rename_i op hne1 hne2
     split at h
     . rename_i e;subst e
       split at h<;>(try (cases h;done))
       . exact keyI h (Rng.wrap _ _) (by rw[ex,ey];exact hg _) (by rw[ex,ey];simp[binOp,Op.intArith])
       . exact keyI h (Rng.wrap _ _) (by rw[ex,ey];exact hg _) (by rw[ex,ey];simp[binOp,Op.intArith])
       . exact keyI h (Rng.wrap _ _) (by rw[ex,ey];exact hg _) (by rw[ex,ey];simp[binOp,Op.intArith])
       . obtain⟨hb,h⟩:=chk_some h
         have:n'≠0:=by simpa using hb
         exact keyI h (Rng.wrap _ _) (by rw[ex,ey];exact hg _) (by rw[ex,ey];simp[binOp,Op.intDiv,this])
       . obtain⟨hb,h⟩:=chk_some h
         have:n'≠0:=by simpa using hb
         exact keyI h (rng_rem hn) (by rw[ex,ey];exact hg _) (by rw[ex,ey];simp[binOp,Op.intDiv,this])
       . exact keyB h (by rw[ex,ey];exact hg _) (by rw[ex,ey];simp[binOp,Op.intCmp])
       . exact keyB h (by rw[ex,ey];exact hg _) (by rw[ex,ey];simp[binOp,Op.intCmp])
       . exact keyB h (by rw[ex,ey];exact hg _) (by rw[ex,ey];simp[binOp,Op.intCmp])
       . exact keyB h (by rw[ex,ey];exact hg _) (by rw[ex,ey];simp[binOp,Op.intCmp])
       . exact keyB h (by rw[ex,ey];exact hg _) (by rw[ex,ey];simp[binOp,Op.intCmp])
       . exact keyB h (by rw[ex,ey];exact hg _) (by rw[ex,ey];simp[binOp,Op.intCmp])
       . exact keyI h (Rng.wrap _ _) (by rw[ex,ey];exact hg _) (by rw[ex,ey];simp[binOp,Op.intBits,intBits])
       . exact keyI h (Rng.wrap _ _) (by rw[ex,ey];exact hg _) (by rw[ex,ey];simp[binOp,Op.intBits,intBits])
       . exact keyI h (Rng.wrap _ _) (by rw[ex,ey];exact hg _) (by rw[ex,ey];simp[binOp,Op.intBits,intBits])
       . exact keyI h (Rng.wrap _ _) (by rw[ex,ey];exact hg _) (by rw[ex,ey];simp[binOp,Op.intBits,intBits])
     . cases h
 . rename_i p q
   have ex:a.eval x = .bool p:=hx;have ey:a.eval y = .bool q:=hy;have hg:∀op,(eqGuard op t x y (.bool p) (.bool q)).run P w = .ok () w:=by intro op;cases op<;>simp[eqGuard]
   split at h
   . rename_i ht
     have hb:=hΓ.boolT ht;split at h
     . exact keyB h (by rw[ex,ey];exact hg _) (by rw[ex,ey];exact run_eql_bool w t p q hb)
     . exact keyB h (by rw[ex,ey];exact hg _) (by rw[ex,ey];exact run_neq_bool w t p q hb)
     . cases h
   . cases h
 . rename_i s q
   have ex:a.eval x = .string ⟨⟨s⟩⟩:=hx;have ey:a.eval y = .string ⟨⟨q⟩⟩:=hy;have hg:∀op,(eqGuard op t x y (.string ⟨⟨s⟩⟩) (.string ⟨⟨q⟩⟩)).run P w = .ok () w:=by intro op;cases op<;>simp[eqGuard]
   have z1:(⟨⟨s⟩⟩:ByteArray).size=s.length:=rfl;have z2:(⟨⟨q⟩⟩:ByteArray).size=q.length:=rfl;split at h<;>(try (cases h;done))
   . obtain⟨hb,h⟩:=chk_some h
     refine key (.string ⟨⟨s++q⟩⟩) (.str (s++q)) (by rw[ex,ey];exact hg _) ?_ rfl h;have:¬(9223372036854775807<(s.length:Int)+(q.length:Int)):=by simp at hb;omega
     rw[ex,ey];simp[binOp,Op.stringOp,z1,z2,IntKind.max,IntKind.signed,IntKind.bits,this];rfl
   . exact keyB h (by rw[ex,ey];exact hg _) (by rw[ex,ey];simp[binOp,Op.stringOp,toList_mk])
   . exact keyB h (by rw[ex,ey];exact hg _) (by rw[ex,ey];simp[binOp,Op.stringOp,toList_mk])
   . exact keyB h (by rw[ex,ey];exact hg _) (by rw[ex,ey];simp[binOp,Op.stringOp,toList_mk])
   . exact keyB h (by rw[ex,ey];exact hg _) (by rw[ex,ey];simp[binOp,Op.stringOp,toList_mk,leB])
   . exact keyB h (by rw[ex,ey];exact hg _) (by rw[ex,ey];simp[binOp,Op.stringOp,toList_mk,leB])
   . exact keyB h (by rw[ex,ey];exact hg _) (by rw[ex,ey];simp[binOp,Op.stringOp,toList_mk])
 . rename_i xs ys
   have hx':=hx;have hy':=hy;obtain⟨us,ex,h1⟩:=hx';obtain⟨vs,ey,h2⟩:=hy';split at h
   . rename_i b hb
     have he:=eqT_sound hΓ 9 10000 t _ _ b _ _ (by omega) hb hx hy;have hgd:∀op,(eqGuard op t x y (a.eval x) (a.eval y)).run P w = .ok () w:=by
      intro op;simp only[eqT]at hb;split at hb
      . rename_i ti hti
        split at hb<;>(try (cases hb;done))<;>rename_i heq1 heq2<;>(try (cases heq1;done))
        split at hb
        . rename_i hc
          rw[ex,ey];exact run_eqGuard_agg w op t x y us vs ((hΓ t ti hti).cmp hc).2.1
        . cases hb
      . cases hb
     split at h
     . refine keyB h (hgd _) ?_
       rw[ex,ey]at he ⊢;rw[run_eql_struct,he];rfl
     . refine keyB h (hgd _) ?_
       rw[ex,ey]at he ⊢;rw[run_neq_struct,he];rfl
     . cases h
   . cases h
 . cases h
theorem bin_eq{t:TypeId}{v1 v2:Value}{b:Bool}(h:(Op.equalIn (9999+1) t v1 v2).run P w = .ok b w)(h1:binOp .eql t v1 v2=(do pure (.bool (<-Op.equal t v1 v2))))(h2:binOp .neq t v1 v2=(do pure (.bool (!(<-Op.equal t v1 v2))))) :
 (binOp .eql t v1 v2).run P w = .ok (.bool b) w/\(binOp .neq t v1 v2).run P w = .ok (.bool (!b)) w:=by
 have h':(Op.equal t v1 v2).run P w = .ok b w:=h;rw[h1,h2];simp only[Sem.run_bind,h',Result.andThen,Sem.run_pure];exact⟨trivial,trivial⟩
theorem eqn_i1{t:TypeId}{ms:Array (String×TypeId)}(hu:P.underlying t=some (.interface ms))(d:Nat)(tx:TypeId)(v:Value):(Op.equalIn (d+1) t (.iface tx v) .nilIface).run P w = .ok false w:=by simp[Op.equalIn,run_underlying hu]
theorem eqn_i2{t:TypeId}{ms:Array (String×TypeId)}(hu:P.underlying t=some (.interface ms))(d:Nat)(tx:TypeId)(v:Value):(Op.equalIn (d+1) t .nilIface (.iface tx v)).run P w = .ok false w:=by simp[Op.equalIn,run_underlying hu]
theorem eqn_i3{t:TypeId}{ms:Array (String×TypeId)}(hu:P.underlying t=some (.interface ms))(d:Nat):(Op.equalIn (d+1) t .nilIface .nilIface).run P w = .ok true w:=by simp[Op.equalIn,run_underlying hu]
theorem eqn_p1{t e:TypeId}(hu:P.underlying t=some (.pointer e))(d:Nat):(Op.equalIn (d+1) t (.pointer none) (.pointer none)).run P w = .ok true w:=by simp[Op.equalIn,run_underlying hu]
theorem eqn_p2{t e:TypeId}(hu:P.underlying t=some (.pointer e))(d:Nat)(q:Addr):(Op.equalIn (d+1) t (.pointer (some q)) (.pointer none)).run P w = .ok false w:=by simp[Op.equalIn,run_underlying hu]
theorem eqn_p3{t e:TypeId}(hu:P.underlying t=some (.pointer e))(d:Nat)(q:Addr):(Op.equalIn (d+1) t (.pointer none) (.pointer (some q))).run P w = .ok false w:=by simp[Op.equalIn,run_underlying hu]
theorem eqn_f1{t:TypeId}{p1 p2:Array TypeId}{p3:Bool}(hu:P.underlying t=some (.func p1 p2 p3))(d:Nat):(Op.equalIn (d+1) t .nilFunc .nilFunc).run P w = .ok true w:=by simp[Op.equalIn,run_underlying hu]
theorem eqn_f2{t:TypeId}{p1 p2:Array TypeId}{p3:Bool}(hu:P.underlying t=some (.func p1 p2 p3))(d:Nat)(f:Fn)(a b:Array Value):(Op.equalIn (d+1) t (.func f a b) .nilFunc).run P w = .ok false w:=by simp[Op.equalIn,run_underlying hu]
theorem eqn_f3{t:TypeId}{p1 p2:Array TypeId}{p3:Bool}(hu:P.underlying t=some (.func p1 p2 p3))(d:Nat)(f:Fn)(a b:Array Value):(Op.equalIn (d+1) t .nilFunc (.func f a b)).run P w = .ok false w:=by simp[Op.equalIn,run_underlying hu]
theorem op_nil(hΓ:GOk P Γ)(hob:RepOb w m g ob){op:BinOp}{t u:TypeId}{x y:Operand}{ax ay:AV}{b:Bool}(hop:o.op = .binOp op t x y u)(hb:nilEq Γ t x y ax ay=some b)(hx:RepV w m g ax (a.eval x))(hy:RepV w m g ay (a.eval y))(ho:op = .eql/\Z (.bool b) []\/op = .neq/\Z (.bool (!b)) []):Post P o a w m g ob Z:=by
 have key:∀(v1 v2:Value),a.eval x=v1->a.eval y=v2->(∀op,(eqGuard op t x y v1 v2).run P w = .ok () w)->((binOp .eql t v1 v2).run P w = .ok (.bool b) w/\(binOp .neq t v1 v2).run P w = .ok (.bool (!b)) w)->Post P o a w m g ob Z:=by
  intro v1 v2 h1 h2 h3 h45;obtain⟨h4,h5⟩:=h45;rcases ho with⟨rfl,hz⟩|⟨rfl,hz⟩
  . exact Post.quiet hob (v := .bool b) (by simp[execOp,hop,h1,h2,h3,h4]) hz rfl
  . exact Post.quiet hob (v := .bool (!b)) (by simp[execOp,hop,h1,h2,h3,h5]) hz rfl
 unfold nilEq at hb;split at hb
 . rename_i ht
   obtain⟨desc,hu,ms,rfl⟩:=hΓ.td ht (by simp);split at hb<;>try (cases hb;done)
   . cases hb
     obtain⟨u,e1,_⟩:=hx;have e2:a.eval y = .nilIface:=hy;exact key _ _ e1 e2 (by intro op;cases op<;>simp[eqGuard]) (bin_eq (eqn_i1 hu _ _ _) rfl rfl)
   . cases hb
     obtain⟨u,e2,_⟩:=hy;have e1:a.eval x = .nilIface:=hx;exact key _ _ e1 e2 (by intro op;cases op<;>simp[eqGuard]) (bin_eq (eqn_i2 hu _ _ _) rfl rfl)
   . split at hb
     . rename_i hl
       cases hb;have e1:a.eval x = .nilIface:=hx;have e2:a.eval y = .nilIface:=hy;have hl':(∃c,x = .const c)\/∃c,y = .const c:=by
        simp only[Bool.or_eq_true]at hl;rcases hl with hl|hl
        . cases x<;>simp[litO]at hl;exact .inl ⟨_,rfl⟩
        . cases y<;>simp[litO]at hl;exact .inr ⟨_,rfl⟩
       exact key _ _ e1 e2 (by intro op;rcases hl' with⟨c,rfl⟩|⟨c,rfl⟩<;>cases op<;>simp[eqGuard]) (bin_eq (eqn_i3 hu _) rfl rfl)
     . cases hb
   . rename_i t1 a1 t2 a2
     obtain⟨u1,e1,r1⟩:=hx;obtain⟨u2,e2,r2⟩:=hy;have hg:∀op,(eqGuard op t x y (.iface t1 u1) (.iface t2 u2)).run P w = .ok () w:=by intro op;cases op<;>simp[eqGuard]
     split at hb
     . rename_i he
       subst he;split at hb<;>try (cases hb;done)
       rename_i ti hti;split at hb<;>try (cases hb;done)
       rename_i hc;obtain⟨info,z,h1,h2,_⟩:=hΓ.info hti;have hcomp:=(hΓ t1 ti hti).comp hc info h1;have:=eqT_sound hΓ 9 (Op.maxDepth-1) t1 a1 a2 b u1 u2 (by decide) hb r1 r2;refine key _ _ e1 e2 hg (bin_eq (t:=t) ?_ rfl rfl);show (Op.equalIn (Op.maxDepth-1+1) t _ _).run P w=_;simp[Op.equalIn,run_underlying hu,run_info h1,hcomp,this]
     . rename_i he
       cases hb;refine key _ _ e1 e2 hg (bin_eq (t:=t) ?_ rfl rfl);show (Op.equalIn (Op.maxDepth-1+1) t _ _).run P w=_;simp[Op.equalIn,run_underlying hu,he]
 . rename_i e ht
   obtain⟨desc,hu,hd⟩:=hΓ.td ht (by simp);have zy:desc = .pointer e:=hd;subst zy;split at hb<;>try (cases hb;done)
   . cases hb
     have e1:a.eval x = .pointer none:=hx;have e2:a.eval y = .pointer none:=hy;exact key _ _ e1 e2 (by intro op;cases op<;>simp[eqGuard]) (bin_eq (eqn_p1 hu _) rfl rfl)
   . cases hb
     obtain⟨b,_,e1⟩:=hx;have e2:a.eval y = .pointer none:=hy;exact key _ _ e1 e2 (by intro op;cases op<;>simp[eqGuard]) (bin_eq (eqn_p2 hu _ _) rfl rfl)
   . cases hb
     obtain⟨b,_,e2⟩:=hy;have e1:a.eval x = .pointer none:=hx;exact key _ _ e1 e2 (by intro op;cases op<;>simp[eqGuard]) (bin_eq (eqn_p3 hu _ _) rfl rfl)
   . cases hb
     obtain⟨b,q,us,e1,_⟩:=hx;have e2:a.eval y = .pointer none:=hy;exact key _ _ e1 e2 (by intro op;cases op<;>simp[eqGuard]) (bin_eq (eqn_p2 hu _ _) rfl rfl)
   . cases hb
     obtain⟨b,_,e1⟩:=hx;have e2:a.eval y = .pointer none:=hy;exact key _ _ e1 e2 (by intro op;cases op<;>simp[eqGuard]) (bin_eq (eqn_p2 hu _ _) rfl rfl)
   . rename_i o1 off1 o2 off2
     obtain⟨b1,g1,e1⟩:=hx;obtain⟨b2,g2,e2⟩:=hy;split at hb<;>try (cases hb;done)
     rename_i hc;obtain⟨rfl,hsz⟩:=hc;rw[g1]at g2;cases g2;cases hti:Γ e with
     | none=>simp[hti]at hsz
     | some ti =>
      obtain⟨info,z,k1,k2,_⟩:=hΓ.info hti;have hsz':info.size≠0:=by rw[k2];simpa[hti]using hsz
      refine key _ _ e1 e2 (by intro op;cases op<;>simp[eqGuard]) (bin_eq (t:=t) ?_ rfl rfl);show (Op.equalIn (Op.maxDepth-1+1) t _ _).run P w=_;cases hb;by_cases ho:off1=off2
      . subst ho;simp[Op.equalIn,run_underlying hu,run_size k1,hsz',sameAddr]
      . have e1:((⟨b1,off1,none⟩:Addr)==⟨b1,off2,none⟩)=false:=beq_eq_false_iff_ne.2 λh=>ho (by cases h;rfl)
        have e2:(off1==off2)=false:=beq_eq_false_iff_ne.2 ho;simp[Op.equalIn,run_underlying hu,run_size k1,hsz',sameAddr,e1,e2]
 . rename_i ht
   obtain⟨desc,hu,p1,p2,p3,rfl⟩:=hΓ.td ht (by simp);split at hb<;>try (cases hb;done)
   . cases hb
     have e1:a.eval x = .nilFunc:=hx;have e2:a.eval y = .nilFunc:=hy;exact key _ _ e1 e2 (by intro op;cases op<;>simp[eqGuard]) (bin_eq (eqn_f1 hu _) rfl rfl)
   . cases hb
     obtain⟨fs,cs,e1,_⟩:=hx;have e2:a.eval y = .nilFunc:=hy;exact key _ _ e1 e2 (by intro op;cases op<;>simp[eqGuard]) (bin_eq (eqn_f2 hu _ _ _ _) rfl rfl)
   . cases hb
     obtain⟨fs,cs,e2,_⟩:=hy;have e1:a.eval x = .nilFunc:=hx;exact key _ _ e1 e2 (by intro op;cases op<;>simp[eqGuard]) (bin_eq (eqn_f3 hu _ _ _ _) rfl rfl)
 . cases hb
end Go.Ae
namespace Go.Ae
open Go.RowKit
variable {P:Program} {Γ:Tys} {o:Oper} {a:Act} {w:World} {m:Md} {g:List Value} {ob:Store} {Z:AV->List Wr->Prop}
theorem wr_append(ob:Store):∀(x y:List Wr),wr ob (x++y)=wr (wr ob x) y
 | [],_=>rfl
 | .obj o cs::x,y=>wr_append (ob.set o cs) x y
 | .new cs::x,y=>wr_append (ob++[cs]) x y
theorem repT_cut{T:Ty}{l:List T.den}{ao:Option Addr}{n cap lo hi:Nat}(h:RepT w m (.lst T) l [.slice ao n cap])(h1:lo<=hi)(h2:hi<=l.length) :
 RepT w m (.lst T) ((l.take hi).drop lo) [.slice (if cap=lo then ao else ao.map (·.add (lo*T.size))) (hi-lo) (cap-lo)]:=by
 obtain⟨ao',cap',he,h3,h4,h0,h5⟩:=h;simp only[List.cons.injEq,Value.slice.injEq,and_true]at he;obtain⟨rfl,rfl,rfl⟩:=he;have h3':l.length<=cap:=h3;have hlen:(asL (t:=T) ((l.take hi).drop lo)).length=hi-lo:=by
  show ((l.take hi).drop lo).length=hi-lo;rw[List.length_drop,List.length_take];omega
 refine⟨_,cap-lo,by rw[hlen],by rw[hlen];omega,by omega,?_,λj x hj => ?_⟩
 . intro hn
   split at hn
   . have:=h0 hn;omega
   . have:=h0 (by simpa using hn);omega
 . have hj':((l.take hi).drop lo)[j]? = some x:=hj
   rw[getElem?_drop,getElem?_take]at hj';split at hj'
   . rename_i hlt
     obtain⟨b,q,us,rfl,k1,k2,k3,k4,k5⟩:=h5 (lo+j) x hj';have hne:¬cap=lo:=by omega
     rw[if_neg hne];refine⟨b,q+lo*T.size,us,by simp[lit_add],k1,k2,k3,k4,λi u hu => ?_⟩;have:=k5 i u hu
     rwa[add_mul,<-add_assoc]at this
   . cases hj'
theorem asRow_view{x:AV}{T:Ty}{l:List T.den}(h:asRow ob x=some ⟨T,l⟩):view ob x = .lst T l:=by
 unfold asRow at h;unfold view
 split at h
 . cases h;rfl
 . split at h<;>cases h<;>rename_i h<;>simp[h]
 . cases h
theorem cut_some{α R:Type}{l:List α}{lo hi:Option Int}{κ:List α->Option R}{r:R}(h:cut l lo hi κ=some r) :
 ∃a b:Nat,a<=b/\b<=l.length/\κ ((l.take b).drop a)=some r/\(lo=none/\a=0\/lo=some (a:Int))/\(hi=none/\b=l.length\/hi=some (b:Int)):=by
 unfold cut at h;split at h
 . exact⟨0,l.length,zero_le _,le_refl _,by simpa using h,.inl ⟨rfl,rfl⟩,.inl ⟨rfl,rfl⟩⟩
 . rename_i x
   obtain⟨hb,h⟩:=chk_some h;simp only[and_eq_true,decide_eq_true_eq]at hb;exact⟨x.toNat,l.length,by omega,le_refl _,by simpa using h,.inr (by rw[toNat_of_nonneg hb.1]),.inl ⟨rfl,rfl⟩⟩
 . rename_i x
   obtain⟨hb,h⟩:=chk_some h;simp only[and_eq_true,decide_eq_true_eq]at hb;exact⟨0,x.toNat,by omega,by omega,by simpa using h,.inl ⟨rfl,rfl⟩,.inr (by rw[toNat_of_nonneg hb.1])⟩
 . rename_i x y
   obtain⟨hb,h⟩:=chk_some h;obtain⟨hc,h⟩:=chk_some h;simp only[and_eq_true,decide_eq_true_eq]at hb hc;exact⟨y.toNat,x.toNat,by omega,by omega,h,.inr (by rw[toNat_of_nonneg hc.1]),.inr (by rw[toNat_of_nonneg hb.1])⟩
theorem cutN_some{R:Type}{n:Nat}{lo hi:Option Int}{κ:Nat->Nat->Option R}{r:R}(h:cutN n lo hi κ=some r) :
 ∃p q:Nat,p<=q/\q<=n/\κ p q=some r/\(lo=none/\p=0\/lo=some (p:Int))/\(hi=none/\q=n\/hi=some (q:Int)):=by
 unfold cutN at h;split at h
 . exact⟨0,n,zero_le _,le_refl _,h,.inl ⟨rfl,rfl⟩,.inl ⟨rfl,rfl⟩⟩
 . rename_i a
   obtain⟨h1,h2⟩:=chk_some h;simp only[and_eq_true,decide_eq_true_eq]at h1;exact⟨a.toNat,n,by omega,le_refl _,h2,.inr (by rw[toNat_of_nonneg h1.1]),.inl ⟨rfl,rfl⟩⟩
 . rename_i b
   obtain⟨h1,h2⟩:=chk_some h;simp only[and_eq_true,decide_eq_true_eq]at h1;exact⟨0,b.toNat,zero_le _,by omega,h2,.inl ⟨rfl,rfl⟩,.inr (by rw[toNat_of_nonneg h1.1])⟩
 . rename_i b a
   obtain⟨h1,h2⟩:=chk_some h;obtain⟨h3,h4⟩:=chk_some h2;simp only[and_eq_true,decide_eq_true_eq]at h1 h3;exact⟨a.toNat,b.toNat,by omega,by omega,h4,.inr (by rw[toNat_of_nonneg h3.1]),.inr (by rw[toNat_of_nonneg h1.1])⟩
theorem winF_some{t:TypeId}{x:AV}{p:Nat×((T:Ty)×List T.den)}(h:winF Γ ob t x=some p):x = .row p.1/\∃e,ob[p.1]? = some [.rowc e p.2.1 p.2.2]:=by
 unfold winF at h;split at h<;>try (cases h;done)
 split at h<;>try (cases h;done)
 split at h<;>try (cases h;done)
 rename_i o _ e T l ho;cases h;exact⟨rfl,e,ho⟩
theorem run_bounds(isSlice:Bool)(len cap lo hi:Nat)(vlo vhi:Option Value)(h1:lo<=hi)(h2:hi<=cap)(h3:len<=cap)(hlo:vlo=none/\lo=0\/∃k,vlo=some (.int k lo))(hhi:vhi=none/\hi=len\/∃k,vhi=some (.int k hi)) :
 (Instr.sliceBounds isSlice len cap vlo vhi none).run P w = .ok (lo,hi,cap) w:=by
 have hb:∀(k:IntKind) (x y:Nat) (c:BoundsCode),x<=y->(Instr.sliceBound (.int k x) y c).run P w = .ok x w:=by
  intro k x y c hxy;have:(x:Int)<=(y:Int):=by omega
  simp[Instr.sliceBound,asIntOf,this]
 rcases hlo with⟨rfl,rfl⟩|⟨k,rfl⟩<;>rcases hhi with⟨rfl,rfl⟩|⟨k',rfl⟩<;>simp[Instr.sliceBounds,hb,h1,h2]
theorem ints_of{ρ:Operand->AV}{x:Option Operand}{r:Option Int}(hρ:∀x,RepV w m g (ρ x) (a.eval x))(h:ofIntO (x.map ρ)=some r) :
 (r=none/\x=none)\/∃y k n,x=some y/\r=some n/\a.eval y = .int k n:=by
 cases x with
 | none=>simp[ofIntO]at h;exact .inl ⟨h.symm,rfl⟩
 | some y =>
  right
  simp only[Option.map_some,ofIntO]at h;split at h
  . rename_i he;cases he
  . rename_i k n he
    have:=hρ y;rw[Option.some.inj he]at this;cases h;exact⟨y,k,n,rfl,rfl,this.1⟩
  . cases h
theorem bnds_of{ρ:Operand->AV}(hρ:∀x,RepV w m g (ρ x) (a.eval x)){x:Option Operand}{r:Option Int}{n d:Nat}(h:ofIntO (x.map ρ)=some r)(hr:r=none/\n=d\/r=some (n:Int)) :
 x.map a.eval=none/\n=d\/∃k,x.map a.eval=some (.int k n):=by
 rcases ints_of hρ h with⟨rfl,rfl⟩|⟨y,k,q,rfl,rfl,h3⟩
 . rcases hr with⟨_,rfl⟩|hr
   . exact .inl ⟨rfl,rfl⟩
   . cases hr
 . rcases hr with⟨hr,_⟩|hr
   . cases hr
   . cases hr;exact .inr ⟨k,by simp[h3]⟩
theorem extract_mk(s:List UInt8)(lo hi:Nat):(⟨⟨s⟩⟩:ByteArray).extract lo hi=⟨⟨(s.take hi).drop lo⟩⟩:=by
 apply ByteArray.ext;rw[ByteArray.data_extract];simp;rw[List.drop_take]
theorem op_slice(hΓ:GOk P Γ)(hob:RepOb w m g ob){ρ:Operand->AV}(hρ:∀x,RepV w m g (ρ x) (a.eval x)){t:TypeId}{x:Operand}{lo hi:Option Operand}{K:Calls'}{R:Type}{κ:AV->List Wr->Option R}{r:R}(hop:o.op = .slice t x lo hi none)(h:opF Γ K ρ ob ob.length (.slice t x lo hi none) κ=some r)(hZ:∀av ws,κ av ws=some r->Z av ws):Post P o a w m g ob Z:=by
 simp only[opF]at h;split at h
 . rename_i lo' hi' _ hlo hhi
   have hx:=hρ x;split at h
   . rename_i htd
     split at h
     . rename_i s hxs
       rw[hxs]at hx;have hst:=hΓ.strT htd;obtain⟨p,q,h1,h2,h3,h4,h5⟩:=cut_some h;refine Post.quiet hob (v := .string ⟨⟨(s.take q).drop p⟩⟩) ?_ (hZ _ _ h3) rfl;have hsz:(⟨⟨s⟩⟩:ByteArray).size=s.length:=rfl;have hb:=run_bounds (P:=P) (w:=w) false s.length s.length p q (lo.map a.eval) (hi.map a.eval) h1 h2 (le_refl _) (bnds_of hρ hlo h4) (bnds_of hρ hhi h5);simp[execOp,hop,show a.eval x = .string ⟨⟨s⟩⟩ from hx,Instr.sliceAt,Instr.slice,run_underlying hst,hsz,hb,extract_mk]
     . cases h
   . rename_i e htd
     have hst:=hΓ.slice htd;split at h
     . rename_i hxs
       rw[hxs]at hx;split at h
       . rename_i ei hei
         obtain⟨p,q,h1,h2,h3,h4,h5⟩:=cut_some h;have hq:q=0:=by simpa using h2
         have hp:p=0:=by omega
         subst hq hp;refine Post.quiet hob (v := .slice none 0 0) ?_ (hZ _ _ h3) rfl;have hb:=run_bounds (P:=P) (w:=w) true 0 0 0 0 (lo.map a.eval) (hi.map a.eval) h1 (le_refl _) (le_refl _) (bnds_of hρ hlo h4) (bnds_of hρ hhi h5);obtain⟨info,z,i1,i2,_⟩:=hΓ.info hei;simp[execOp,hop,show a.eval x = .slice none 0 0 from hx,Instr.sliceAt,Instr.slice,run_underlying hst,hb,run_size i1]
       . cases h
     . split at h
       . rename_i pp hw
         obtain⟨hxr,e0,ho⟩:=winF_some hw;obtain⟨q0,T,l⟩:=pp;split at h<;>try (cases h;done)
         rename_i ei hei;split at h<;>try (cases h;done)
         rename_i hsz;simp only at hsz ho hxr h;obtain⟨p,q,h1,h2,h3,h4,h5⟩:=cutN_some h;rw[hxr]at hx;obtain⟨g1,_⟩:=hx;obtain⟨xs,g2,_⟩:=(hob.obj q0 _ _ g1 ho).rowc e0 T l rfl;obtain⟨ao,cap,g3,g4,_,_,g6,_⟩:=own_cells g2;obtain⟨info,z,i1,i2,_⟩:=hΓ.info hei;have hb:=run_bounds (P:=P) (w:=w) true l.length cap p q (lo.map a.eval) (hi.map a.eval) h1 (le_trans h2 g4) g4 (bnds_of hρ hlo h4) (bnds_of hρ hhi h5);refine Post.quiet hob (v := .slice (if cap=p then ao else ao.map (·.add (p*T.size))) (q-p) (cap-p)) ?_ (hZ _ _ h3) ⟨_,_,_,_,_,g3▸g1,rfl,λhn => ?_⟩
         . simp[execOp,hop,g3,Instr.sliceAt,Instr.slice,run_underlying hst,hb,run_size i1,i2,<-hsz]
         . obtain⟨b,rfl,_⟩:=g6 (by omega)
           refine⟨b,rfl,by omega,?_⟩;rw[if_neg (by omega)];simp[lit_add]
       split at h
       . rename_i ei T l hei hrow
         split at h
         . rename_i hsz
           obtain⟨p,q,h1,h2,h3,h4,h5⟩:=cut_some h;obtain⟨m',hm',hn',hst',r1,r2,r3,r4⟩:=frees_sound [ρ x] m ob hob (Fz.refl ob);have hs:=Stp.less w hob.nm hm' hn' hst';have hv:=view_sound (a:=ρ x) r1 r2 (hx.mono hs (λ_ _ h=>h)) (λo' e' T' l' he ho=>r4 o' e' T' l' (by rw[he];exact List.mem_singleton_self _) ho);rw[asRow_view hrow]at hv;have hv':=hv;obtain⟨ao,cap,he,k1,k2,k3,k4⟩:=hv';have hev:a.eval x = .slice ao l.length cap:=by simpa[asL]using he
           rw[hev]at hv;obtain⟨info,z,i1,i2,_⟩:=hΓ.info hei;have hb:=run_bounds (P:=P) (w:=w) true l.length cap p q (lo.map a.eval) (hi.map a.eval) h1 (le_trans h2 k1) k1 (bnds_of hρ hlo h4) (bnds_of hρ hhi h5);refine Post.val (v := .slice (if cap=p then ao else ao.map (·.add (p*T.size))) (q-p) (cap-p)) ?_ (hZ _ _ h3) (repT_cut hv h1 h2) r1 (λ_ _ h=>h) hs;simp[execOp,hop,hev,Instr.sliceAt,Instr.slice,run_underlying hst,hb,run_size i1,i2,<-hsz]
         . cases h
       . cases h
   . rename_i n e htd
     split at h<;>try (cases h;done)
     rename_i q hxs;split at h<;>try (cases h;done)
     rename_i e' T l ei ho hei;split at h<;>try (cases h;done)
     rename_i hsz;obtain⟨hsz,hmax⟩:=hsz;obtain⟨hn,hk⟩:=chk_some h;clear h;have hn':l.length=n:=of_decide_eq_true hn;subst hn';obtain⟨p,q',h1,h2,h3,h4,h5⟩:=cut_some hk;rw[hxs]at hx;obtain⟨b,g1,e1⟩:=hx;obtain⟨m',hm',hn2,hst',r1,r2⟩:=hob.freezeA ho g1 hmax;have hs:=Stp.less w hob.nm hm' hn2 hst';obtain⟨info,z,i1,i2,_⟩:=hΓ.info hei;obtain⟨d1,hu1,hd1⟩:=hΓ.td htd (by simp);have hd1':d1 = .array l.length e:=hd1;subst hd1';have hb:=run_bounds (P:=P) (w:=w) false l.length l.length p q' (lo.map a.eval) (hi.map a.eval) h1 h2 (le_refl _) (bnds_of hρ hlo h4) (bnds_of hρ hhi h5);refine Post.val (av := .lst T ((l.take q').drop p)) (v := .slice (if l.length=p then some ⟨b,0,none⟩else(some ⟨b,0,none⟩:Option Addr).map (·.add (p*T.size))) (q'-p) (l.length-p)) ?_ (hZ _ _ h3) (repT_cut r2 h1 h2) r1 (λ_ _ h=>h) hs;simp[execOp,hop,e1,Instr.sliceAt,Instr.slice,run_underlying hu1,Instr.sureAddr,hb,run_size i1,i2,<-hsz];split<;>rfl
   . cases h
 . cases h
theorem foldl_push:∀(l:List UInt8) (r:List UInt8),(l.map λc=>(c.toNat:Int)).foldl (λ(b:ByteArray) n=>b.push (UInt8.ofNat n.toNat)) ⟨⟨r⟩⟩=⟨⟨r++l⟩⟩
 | [],r=>by simp
 | c::l,r=>by
  have:(⟨⟨r⟩⟩:ByteArray).push (UInt8.ofNat ((c.toNat:Int)).toNat)=⟨⟨r++[c]⟩⟩:=by
   simp[ByteArray.push]
  simp only[map_cons,List.foldl_cons,this];rw[foldl_push l (r++[c])];simp
theorem bytes_string(hΓ:GOk P Γ){s d e:TypeId}(h1:tdOf Γ s = .slice e)(h2:tdOf Γ d = .str)(h4:tdOf Γ e = .int .u8){l:List UInt8}{v:Value}(hv:RepT w m (.lst .byte) l [v]):(convert s d v).run P w = .ok (.string ⟨⟨l⟩⟩) w:=by
 obtain⟨ao,cap,he,k1,k2,k3,k4⟩:=hv;have hev:v = .slice ao l.length cap:=(List.cons.inj he).1;subst hev;cases ao with
 | none =>
  have hc0:=k3 rfl;have hl0:l=[]:=List.eq_nil_of_length_eq_zero (by have:l.length<=cap:=k1;omega);subst hl0;simp[convert,run_underlying (hΓ.slice h1),run_underlying (hΓ.strT h2),run_underlying (hΓ.intT h4),Conv.bytesToString];rfl
 | some ad =>
  have hld:(loadCells ad l.length).run P w = .ok ((l.map λc=>(c.toNat:Int)).map (Value.int .u8)).toArray w:=by
   have:=run_loadCells_list (P:=P) w ad ((l.map λc=>(c.toNat:Int)).map (Value.int .u8)) (λj v hv=>by
    rw[getElem?_map,getElem?_map]at hv;obtain⟨n,hn,rfl⟩:=map_eq_some_iff.1 hv;obtain⟨c,hc,rfl⟩:=map_eq_some_iff.1 hn;obtain⟨b,q,us,e1,e2,_,_,_,e3⟩:=k4 j c hc;cases e1;have e2':us=[.int .u8 (c.toNat:Int)]:=e2;have:=e3 0 _ (by rw[e2'];rfl);rw[lit_add];simpa[Ty.size]using this)
   simpa using this
  have hr:=run_bytesToString (P:=P) w ad l.length cap (l.map λc=>(c.toNat:Int)) hld;have hf:=foldl_push l [];simp only[nil_append]at hf;rw[show ByteArray.empty=(⟨⟨[]⟩⟩:ByteArray) from rfl,hf]at hr;simp[run_convert_bytes_string w s d e _ _ _ (hΓ.slice h1) (hΓ.intT h4) (hΓ.strT h2),hr]
theorem runesFrom_ascii(c:List UInt8)(ha:∀b∈c,b.toNat<128):∀(bound i:Nat) (acc:Array Value),i<=c.length->c.length-i<=bound ->
 (Conv.runesFrom ⟨⟨c⟩⟩ bound i acc).toList=acc.toList++(c.drop i).map λb=>Value.int .i32 (b.toNat:Int)
 | 0,i,acc,h1,h2=>by rw[List.drop_eq_nil_of_le (by omega)];simp[Conv.runesFrom]
 | bound+1,i,acc,h1,h2=>by
  have hs:(⟨⟨c⟩⟩:ByteArray).size=c.length:=rfl;unfold Conv.runesFrom;by_cases hi:i<c.length
  . rw[if_pos (by rw[hs];exact hi)]
    have hlt:((⟨⟨c⟩⟩:ByteArray)[i]'(by rw[hs];exact hi)).toNat<128:=ha _ (List.getElem_mem hi);rw[decode_ascii _ _ (by rw[hs];exact hi) hlt];simp only;rw[runesFrom_ascii c ha bound (i+1) _ (by omega) (by omega),List.drop_eq_getElem_cons hi,map_cons,Array.toList_push,append_assoc];rfl
  . rw[if_neg (by rw[hs];exact hi),List.drop_eq_nil_of_le (by omega)];simp
def i32v(n:(Ty.int .i32).den):Value := .int .i32 (n:Int)
theorem op_runes(hΓ:GOk P Γ)(hob:RepOb w m g ob){s d e:TypeId}{x:Operand}{c:List UInt8}(hop:o.op = .convert s d x)(h1:tdOf Γ s = .str)(h2:tdOf Γ d = .slice e)(h4:tdOf Γ e = .int .i32)(hx:a.eval x = .string ⟨⟨c⟩⟩)(hlen:c.length<=70368744177664)(hasc:∀b∈c,b.toNat<128)(hZ:Z (.row ob.length) [.new [.rowc e (.int .i32) (c.map λb=>((b.toNat:Int):Int))]]):Post P o a w m g ob Z:=by
 have hs:(⟨⟨c⟩⟩:ByteArray).size=c.length:=rfl;obtain⟨L,hL⟩:∃L:List (Ty.int .i32).den,L=c.map λb=>((b.toNat:Int):Int):=⟨_,rfl⟩
 have hZ':Z (.row ob.length) [.new [.rowc e (.int .i32) L]]:=by rw[hL];exact hZ
 have hLl:L.length=c.length:=by rw[hL];exact List.length_map _
 have hLm:(L.map i32v)=c.map λb=>Value.int .i32 (b.toNat:Int):=by rw[hL];exact List.map_map
 have hr:=runesFrom_ascii c hasc c.length 0 #[] (zero_le _) (by omega);simp only[drop_zero,nil_append]at hr;have hrl:(Conv.runesFrom ⟨⟨c⟩⟩ c.length 0 #[]).size=c.length:=by rw[<-Array.length_toList,hr];simp
 have hrun0:=run_runes_of_string (P:=P) w s d e ⟨⟨c⟩⟩ (hΓ.strT h1) (hΓ.slice h2) (hΓ.intT h4) (by rw[hs,hrl];exact hlen);rw[hs,hrl]at hrun0;have hge:=grownCap_ge w c.length 0 e;have hle:=grownCap_le_maxLen w c.length 0 e (by simp only[maxLen];omega);generalize hcap:grownCap w c.length 0 e=cap at hrun0 hge hle;generalize hcs:(Conv.runesFrom ⟨⟨c⟩⟩ c.length 0 #[]++Array.replicate (cap-c.length) (.int .i32 0))=cells at hrun0;have hcl:cells.size=cap:=by rw[<-hcs];simp[hrl];omega
 have hct:cells.toList.take L.length=L.map i32v:=by
  rw[hLm,hLl,<-hcs,Array.toList_append,List.take_append_of_le_length (by rw[hr];simp),hr,List.take_of_length_le (by simp)]
 have hrun:(execOp a.eval o).run P w = .ok (.value (.slice (some ⟨w.heap.size,0,none⟩) c.length cap)) (w.drew.alloc (.cells cells e)):=by
  simp[execOp,hop,hx,hrun0]
 have hmem:(w.drew.alloc (.cells cells e)).heap[w.heap.size]? = some (.cells cells e (0,0)):=by
  show (w.heap.push (.cells cells e))[w.heap.size]? = _;simp
 rw[<-hLl]at hrun hge;obtain⟨q1,q2,q3⟩:=hob.add (w':=w.drew.alloc (.cells cells e)) (.slice (some ⟨w.heap.size,0,none⟩) L.length cap) [.rowc e (.int .i32) L] rfl rfl rfl (by show w.heap.size<=(w.heap.push _).size;simp)
  (λb hb _=>by show (w.heap.push _)[b]? = _;rw[Array.getElem?_push,if_neg (by omega)])
  (λb e hb=>by simp[blk,Value.ownBlock]at e;omega)
  (λhst=>⟨λe' T' l' he=>by
   cases he;refine⟨L.map i32v,⟨by rw[List.length_map];exact(mul_one _).symm,.inr ⟨w.heap.size,cap,cells,rfl,zero_le _,hmem,hge,hle,hcl.trans (mul_one _).symm,by rw[show (Ty.int IntKind.i32).size=1 from rfl,mul_one];exact hct⟩⟩,λj y hj => ?_⟩;rw[show (Ty.int IntKind.i32).size=1 from rfl,mul_one];refine⟨?_,λh=>by cases h⟩;apply ext_getElem?;intro k
   rw[getElem?_take,getElem?_drop,getElem?_map];cases k with
   | zero=>rw[if_pos (by omega),add_zero,hj];rfl
   | succ k=>rw[if_neg (by omega)];rfl,
   (λT' l' he=>by cases he),(λh=>by simp[isBox]at h),(λ_ _ he=>by cases he),trivial⟩)
 refine Post.val (av := .row ob.length) hrun hZ' ⟨?_,_,_,_,rfl⟩ q1 q3 q2;rw[<-hob.len];simp
theorem op_convert(hΓ:GOk P Γ)(hob:RepOb w m g ob){ρ:Operand->AV}(hρ:∀x,RepV w m g (ρ x) (a.eval x)){s d:TypeId}{x:Operand}{K:Calls'}{R:Type}{κ:AV->List Wr->Option R}{r:R}(hop:o.op = .convert s d x)(h:opF Γ K ρ ob ob.length (.convert s d x) κ=some r)(hZ:∀av ws,κ av ws=some r->Z av ws):Post P o a w m g ob Z:=by
 simp only[opF]at h;have hx:=hρ x;split at h
 . rename_i k0 k k1 n h1 h2 h3
   rw[h3]at hx;refine Post.quiet hob (v := .int k (k.wrap n)) ?_ (hZ _ _ h) ⟨rfl,Rng.wrap _ _⟩;simp[execOp,hop,hx.1,convert,run_underlying (hΓ.intT h1),run_underlying (hΓ.intT h2),Conv.intToInt]
 . rename_i q h1 h2 h3
   rw[h3]at hx;refine Post.quiet hob (v := .string ⟨⟨q⟩⟩) ?_ (hZ _ _ h) rfl;simp[execOp,hop,show a.eval x=_ from hx,convert,run_underlying (hΓ.strT h1),run_underlying (hΓ.strT h2)]
 . rename_i e c h1 h2 h3
   rw[h3]at hx;split at h
   . rename_i h4
     obtain⟨hcl,h⟩:=chk_some h;have hcl':c.length<=9223372036854775807:=by simpa using hcl
     have hr:=Lib.run_convert_string_bytes (P:=P) w s d e ⟨⟨c⟩⟩ (hΓ.strT h1) (hΓ.slice h2) (hΓ.intT h4);have hsz:(⟨⟨c⟩⟩:ByteArray).size=c.length:=rfl;have hmm:∀b,m b->b<w.heap.size:=hob.lt;have hst:Stp w m (Lib.bytesWorld w e ⟨⟨c⟩⟩) m:=⟨rfl,rfl,rfl,by rw[Lib.bytesWorld_size];omega,hob.nm,λb hb _=>Lib.bytesWorld_at_old w e _ b hb,λ_ _ h=>h,λ_ _ h=>h,λ_ _ h _=>h⟩
     refine Post.val (v := .slice (some ⟨w.heap.size,0,none⟩) c.length (grownCap w c.length 0 e)) (ws:=[]) (by simp[execOp,hop,show a.eval x=_ from hx,hr,hsz]) (hZ _ _ h) ?_ ?_ (λ_ _ h=>h) hst
     . have hge:=grownCap_ge w c.length 0 e
       have hle:=grownCap_le_maxLen w c.length 0 e (by simp only[maxLen];omega);refine⟨_,_,rfl,hge,by simp only[maxLen]at hle;omega,(λh=>by cases h),λj y hj => ?_⟩;have hj':c[j]? = some y:=hj;have hlt:j<c.length:=(List.getElem?_eq_some_iff.1 hj').1;refine⟨w.heap.size,0,[.int .u8 ((y:UInt8).toNat:Int)],rfl,rfl,rfl,by rw[Lib.bytesWorld_size];omega,λhb=>by have:=hmm _ hb;omega,λi u hu => ?_⟩;have hi:i=0:=by
        have:=(List.getElem?_eq_some_iff.1 hu).1;simp at this;exact this
       subst hi;have hcc:=Lib.bytesWorld_cell w e ⟨⟨c⟩⟩ j (by rw[hsz];exact hlt);have hu':u = .int .u8 ((y:UInt8).toNat:Int):=by simpa using hu.symm
       rw[hu'];have hg:c.getD j 0=y:=by rw[getD_eq_getElem?_getD,hj'];rfl
       simp only[Ty.size,mul_one,zero_add,add_zero];rw[hcc];show some (Value.int .u8 ((c.getD j 0).toNat:Int))=_;rw[hg]
     . exact⟨hob.gi.mono hst,hob.len,hob.sub,hob.nm,λb hb=>by rw[Lib.bytesWorld_size];have:=hmm b hb;omega,λi gi cs k1 k2=>(hob.obj i gi cs k1 k2).mono hst (λ_ _ h=>h) λb hb=>Lib.bytesWorld_at_old w e _ b ((hob.obj i gi cs k1 k2).blk_lt hb),hob.sep⟩
   . rename_i h4
     split at h<;>try (cases h;done)
     split at h<;>try (cases h;done)
     obtain⟨hcc,h⟩:=chk_some h;simp only[and_eq_true,decide_eq_true_eq,List.all_eq_true]at hcc;exact op_runes hΓ hob hop h1 h2 h4 hx hcc.1 hcc.2 (hZ _ _ h)
   . cases h
 . rename_i _ _ e h1 h2
   split at h
   . rename_i h4
     split at h
     . rename_i h3
       rw[h3]at hx;refine Post.quiet hob (v := .string ⟨⟨[]⟩⟩) ?_ (hZ _ _ h) rfl;simp[execOp,hop,show a.eval x=_ from hx,convert,run_underlying (hΓ.slice h1),run_underlying (hΓ.strT h2),run_underlying (hΓ.intT h4),Conv.bytesToString];rfl
     . split at h
       . rename_i T l hrow
         split at h
         . rename_i c hc
           obtain⟨rfl,rfl⟩:=castL_some hc;obtain⟨m',hm',hn',hst',r1,r2,r3,r4⟩:=frees_sound [ρ x] m ob hob (Fz.refl ob);have hs:=Stp.less w hob.nm hm' hn' hst';have hv:=view_sound (a:=ρ x) r1 r2 (hx.mono hs (λ_ _ h=>h)) (λo' e' T' l' he ho=>r4 o' e' T' l' (by rw[he];exact List.mem_singleton_self _) ho);rw[asRow_view hrow]at hv;have hr:=bytes_string (P:=P) hΓ h1 h2 h4 hv;exact Post.quiet hob (v := .string ⟨⟨l⟩⟩) (by simp[execOp,hop,hr]) (hZ _ _ h) rfl
         . cases h
       . cases h
   . cases h
 . cases h
end Go.Ae
namespace Go.Ae
open Go.RowKit Go.Lib
variable {P:Program} {Γ:Tys} {o:Oper} {a:Act} {w:World} {m:Md} {g:List Value} {ob:Store} {Z:AV->List Wr->Prop}
theorem leaves_leaf:∀(T:Ty) (x:T.den),(T.leaves x).all AV.leaf=true
 | .int _,_=>rfl | .byte,_=>rfl | .bool,_=>rfl | .str,_=>rfl | .lst _,_=>rfl | .unit,_=>rfl
 | .pair a b,x=>by simp only[Ty.leaves,List.all_append,and_eq_true];exact⟨leaves_leaf a _,leaves_leaf b _⟩
theorem repT_one{T:Ty}{x:T.den}{us:List Value}(h:RepT w m T x us):∀u∈us,u.oneCell'=true:=leafL_one (repT_leaves (g:=[]) h) (leaves_leaf T x)
theorem flat_aux{T:Ty}{b q:Nat}:∀(l:List T.den) (k:Nat),(∀(j:Nat) x,l[j]? = some x->∃us,RepT w m T x us/\us.length=T.size/\∀(i:Nat) u,us[i]? = some u->w.cell? ⟨b,q+(k+j)*T.size+i,none⟩=some u) ->
 ∃xs,xs.length=l.length*T.size/\RepE w m T l xs/\(∀(i:Nat) u,xs[i]? = some u->w.cell? ⟨b,q+k*T.size+i,none⟩=some u)/\∀u∈xs,u.oneCell'=true
 | [],k,_=>⟨[],by simp,λj x h=>by simp at h,λi u h=>by simp at h,λu h=>by cases h⟩
 | x::l,k,h=>by
  obtain⟨us,h1,h2,h3⟩:=h 0 x rfl;obtain⟨xs,h4,h5,h6,h7⟩:=flat_aux l (k+1) λj y hj=>by
   obtain⟨us,k1,k2,k3⟩:=h (j+1) y (by simpa using hj);exact⟨us,k1,k2,λi u hu=>by have:=k3 i u hu;rwa[show k+(j+1)=k+1+j by omega]at this⟩
  refine⟨us++xs,by simp[h2,h4,add_mul];omega,λj y hj => ?_,λi u hu => ?_,λu hu => ?_⟩
  . cases j with
    | zero =>
     simp at hj;subst hj
     simp only[Nat.zero_mul,drop_zero];rw[<-h2,take_left];exact h1
    | succ j =>
     have:=h5 j y (by simpa using hj);rw[show (j+1)*T.size=us.length+j*T.size by rw[h2,add_mul];omega,<-drop_drop,drop_left];exact this
  . rcases lt_or_ge i us.length with hi|hi
    . rw[getElem?_append_left hi]at hu
      simpa using h3 i u hu
    . rw[List.getElem?_append_right hi]at hu
      have:=h6 _ u hu;rw[h2]at this hi
      rwa[show q+(k+1)*T.size+(i-T.size)=q+k*T.size+i by rw[add_mul];omega]at this
  . rcases List.mem_append.1 hu with hu|hu
    . exact repT_one h1 u hu
    . exact h7 u hu
theorem RepE.append{T:Ty}{l l':List T.den}{xs ys:List Value}(h:RepE w m T l xs)(h':RepE w m T l' ys)(hl:xs.length=l.length*T.size):RepE w m T (l++l') (xs++ys):=by
 intro j x hj;rcases lt_or_ge j l.length with hlt|hge
 . rw[getElem?_append_left hlt]at hj
   have h1:(j+1)*T.size<=l.length*T.size:=Nat.mul_le_mul_right _ hlt;rw[add_mul,Nat.one_mul]at h1;rw[List.drop_append_of_le_length (by omega),List.take_append_of_le_length (by rw[List.length_drop];omega)];exact h j x hj
 . rw[List.getElem?_append_right hge]at hj
   have:=h' _ x hj;rw[show j*T.size=xs.length+(j-l.length)*T.size by rw[hl,<-add_mul];congr 1;omega,<-drop_drop,drop_left];exact this
theorem byte_zero(hΓ:GOk P Γ){e:TypeId}{ei:TI}(he:Γ e=some ei)(hz:ei.zero=[.int .u8 0])(hs:ei.size=1)(hb:ei.bytes=1)(hd:ei.d = .int .u8) :
 ∃info,P.info? e=some info/\info.zero=some (.int .u8 0)/\info.size=1/\info.bytes=1:=by
 obtain⟨info,desc,z,h1,h2,h3,h4,h5,h6,h7,h8⟩:=(hΓ e ei he).i;refine⟨info,h1,?_,by rw[h3,hs],by rw[h4,hb]⟩;have h9:=h7 default ⟨λ_=>True,λ_=>True⟩ [];rw[hz]at h9;obtain⟨v,r,k1,k2,k3⟩:=h9;have k3':r=[]:=k3;subst k3';have hna:=h8 (by simp[TI.isAgg,hd]);have hv:z.cells.toList=[.int .u8 0]:=by rw[k1,k2.1]
 cases z<;>simp[Value.cells]at hv<;>first|exact absurd rfl (hna _)|(rw[h5];simp_all)
theorem lim_bytes{n k b:Nat}(h:n<=k/b):n*b<=k:=by
 rcases Nat.eq_zero_or_pos b with rfl|hb
 . simp
 . exact(Nat.le_div_iff_mul_le hb).1 h
theorem lim_len{n b:Nat}(h:n<=140737488355328/b):n<=140737488355328:=le_trans h (Nat.div_le_self _ _)
theorem zero_size(hΓ:GOk P Γ){e:TypeId}{ei:TI}(he:Γ e=some ei):∃info z,P.info? e=some info/\info.size=ei.size/\info.bytes=ei.bytes/\info.zero=some z/\z.cells.size=ei.zero.length:=by
 obtain⟨info,z,i1,i2,i3,i4,i5⟩:=hΓ.info he;exact⟨info,z,i1,i2,i3,i4,by rw[<-(i5 default ⟨λ_=>True,λ_=>True⟩ []).length];simp⟩
theorem run_append_slice(hΓ:GOk P Γ){t e ty:TypeId}{ei:TI}{T:Ty}{v vx:Value}{n:Nat}{xs:List Value}{mm:List T.den}(ht:tdOf Γ t = .slice e)(he:Γ e=some ei)(hsz:ei.size=T.size)(h0:0<T.size)(hz0:ei.zero.length=T.size)(hown:w.ownsRow 0 e T.size v n xs)(hsrc:RepT w m (.lst T) mm [vx])(hlim:n+mm.length<=140737488355328/ei.bytes) :
 ∃v' w' news,(Builtin.append_ #[t,t] ty #[v,vx]).run P w = .ok v' w'/\w'.ownsRow 0 e T.size v' (n+mm.length) (xs++news)/\news.length=mm.length*T.size/\RepE w m T mm news/\w.grownBy w' v.ownBlock /\
  ∀b,v'.ownBlock=some b->v.ownBlock=some b\/b=w.heap.size:=by
 obtain⟨info,z,i1,i2,i3,i4,i5⟩:=zero_size hΓ he;have hbytes:(n+mm.length)*info.bytes<=140737488355328:=by rw[i3];exact lim_bytes hlim
 have hll:=lim_len hlim;have hu:=hΓ.slice ht;have hsi:info.size=T.size:=i2.trans hsz;obtain⟨ao,cap,hv,k1,k2,k3,k4⟩:=hsrc;have hv':vx = .slice ao mm.length cap:=(List.cons.inj hv).1;subst hv';have src:(ao=none/\mm=[]/\cap=0)\/∃ad news,ao=some ad/\news.length=mm.length*T.size/\RepE w m T mm news/\(∀(j:Nat) u,news[j]? = some u->w.cell? (ad.add j)=some u)/\∀u∈news,u.oneCell'=true:=by
  cases ao with
  | none =>
   have hc:=k3 rfl;exact .inl ⟨rfl,List.eq_nil_of_length_eq_zero (by have:mm.length<=cap:=k1;omega),hc⟩
  | some ad =>
   right
   cases hmm:mm with
   | nil=>exact⟨ad,[],rfl,by simp,λj x h=>by simp at h,λj u h=>by simp at h,λu h=>by cases h⟩
   | cons x l =>
    obtain⟨b,q,us,e1,_⟩:=k4 0 x (by rw[hmm];rfl);cases e1;obtain⟨news,f1,f2,f3,f4⟩:=flat_aux (m:=m) (w:=w) (b:=b) (q:=q) mm 0 λj y hj=>by
     obtain⟨b',q',us,e1,e2,e3,_,_,e4⟩:=k4 j y hj;cases e1;exact⟨us,e2,e3,λi u hu=>by simpa using e4 i u hu⟩
    rw[<-hmm];exact⟨_,news,rfl,f1,f2,λj u hu=>by rw[lit_add];simpa using f3 j u hu,f4⟩
 rcases src with⟨rfl,rfl,rfl⟩|⟨ad,news,rfl,f1,f2,f3,f4⟩
 . have:=run_append_owned_none (P:=P) (w:=w) 0 t ty e info T.size hu i1 v n xs hown
   exact⟨v,w,[],this,by simpa using hown,by simp,λj x h=>by simp at h,⟨rfl,rfl,rfl,le_refl _,λ_ _ _=>rfl⟩,λb hb => .inl hb⟩
 . obtain⟨v',w',hr,r1,r2,r3⟩:=run_append_own (P:=P) w 0 t ty e info z T.size info.bytes hu i1 i4 hsi rfl (by rw[i5,hz0]) h0 v n xs hown ad mm.length cap news f1 f3 f4 (by simp only[maxLen];omega) hbytes (zero_le _)
   refine⟨v',w',news,hr,r1,f1,f2,r2,λb hb => ?_⟩;rcases hown.2 with⟨rfl,rfl⟩|⟨gb,cp,cur,rfl,_,g1,g2,g3,g4,g5⟩
   . rcases Nat.eq_zero_or_pos mm.length with hm|hm
     . have:=(r3.2 ⟨rfl,hm⟩)
       rw[this]at hb;simp[Value.ownBlock]at hb
     . have h2:=run_append_nil (P:=P) w t ty e info z hu i1 i4 ad mm.length cap news (by rw[hsi];exact f1) f3 hm (by omega) (by simp only[zero_add]at hbytes;omega)
       rw[hr]at h2;cases h2
       right;simpa[Value.ownBlock]using hb.symm
   . by_cases hroom:n+mm.length<=cp
     . have h2:=run_append_room (P:=P) w t ty e info hu i1 gb n cp cur g1 ad mm.length cap news (by rw[hsi];exact f1) f3 f4 hroom (by rw[f1,hsi,g4,<-add_mul];exact Nat.mul_le_mul_right _ hroom)
       rw[hr]at h2;cases h2;exact .inl hb
     . have holds:∀(j:Nat) u,xs[j]? = some u->w.cell? ((⟨gb,0,none⟩:Addr).add j)=some u:=hown.cells (g:=gb) rfl
       have h2:=run_append_grow (P:=P) w t ty e info z hu i1 i4 ⟨gb,0,none⟩ n cp xs (by rw[hsi];exact hown.1) holds ad mm.length cap news (by rw[hsi];exact f1) f3 (by omega) (by omega) (growslice_fits (by omega) hbytes);rw[hr]at h2;cases h2
       right;simpa[Value.ownBlock]using hb.symm
theorem strCells_rep(c:List UInt8):RepE w m .byte c (strCells ⟨⟨c⟩⟩):=by
 intro j x hj;show _=_;have hj':c[j]? = some x:=hj;have hlt:j<c.length:=(List.getElem?_eq_some_iff.1 hj').1;simp only[strCells,Ty.size,mul_one];have hx:c[j]=x:=(List.getElem?_eq_some_iff.1 hj').2;rw[List.drop_eq_getElem_cons (by simpa using hlt)];simp[hx]
theorem run_append_str(hΓ:GOk P Γ){t u e ty:TypeId}{ei:TI}{v:Value}{n:Nat}{xs:List Value}{c:List UInt8}(ht:tdOf Γ t = .slice e)(hus:tdOf Γ u = .str)(he:Γ e=some ei)(hd:ei.d = .int .u8)(hz:ei.zero=[.int .u8 0])(hs:ei.size=1)(hb1:ei.bytes=1)(hown:w.ownsRow 0 e 1 v n xs)(hlim:n+c.length<=140737488355328/ei.bytes) :
 ∃v' w',(Builtin.append_ #[t,u] ty #[v,.string ⟨⟨c⟩⟩]).run P w = .ok v' w'/\w'.ownsRow 0 e 1 v' (n+c.length) (xs++strCells ⟨⟨c⟩⟩)/\w.grownBy w' v.ownBlock /\
  ∀b,v'.ownBlock=some b->v.ownBlock=some b\/b=w.heap.size:=by
 obtain⟨info,i1,i2,i3,i4⟩:=byte_zero hΓ he hz hs hb1 hd;have hll:=lim_len hlim;have hu:=hΓ.slice ht;have hsz:(⟨⟨c⟩⟩:ByteArray).size=c.length:=rfl;obtain⟨v',w',hr,r1,r2,r3⟩:=run_append_own_string (P:=P) (w:=w) 0 t u ty e info hu (hΓ.strT hus) i1 i2 i3 i4 v n xs hown ⟨⟨c⟩⟩ (by rw[hsz];simp only[maxLen];omega) (by rw[hsz];omega) (zero_le _);rw[hsz]at r1 r3;refine⟨v',w',hr,r1,r2,λb hb => ?_⟩;rcases hown.2 with⟨rfl,rfl⟩|⟨gb,cp,cur,rfl,_,g1,g2,g3,g4,g5⟩
 . rcases Nat.eq_zero_or_pos c.length with hm|hm
   . have:=(r3.2 ⟨rfl,hm⟩)
     rw[this]at hb;simp[Value.ownBlock]at hb
   . have h2:=run_append_nil_string (P:=P) w t u ty e info _ hu (hΓ.strT hus) i1 i2 ⟨⟨c⟩⟩ (by rw[hsz];omega) (by rw[hsz];omega) (by rw[hsz,i4];omega)
     rw[hr]at h2;cases h2
     right;simpa[Value.ownBlock]using hb.symm
 . by_cases hroom:n+c.length<=cp
   . have h2:=run_append_room_string (P:=P) (w:=w) t u ty e info hu (hΓ.strT hus) i1 i3 gb n cp cur g1 ⟨⟨c⟩⟩ (by rw[hsz];exact hroom) (by rw[hsz,g4];omega)
     rw[hr]at h2;cases h2;exact .inl hb
   . have holds:∀(j:Nat) u,xs[j]? = some u->w.cell? ((⟨gb,0,none⟩:Addr).add j)=some u:=hown.cells (g:=gb) rfl
     have h2:=run_append_grow_string (P:=P) (w:=w) t u ty e info _ hu (hΓ.strT hus) i1 i2 ⟨gb,0,none⟩ n cp xs (by rw[i3];exact hown.1) holds ⟨⟨c⟩⟩ (by rw[hsz];omega) (by rw[hsz];omega) (growslice_fits (by rw[hsz];omega) (by rw[hsz,i4];omega));rw[hr]at h2;cases h2
     right;simpa[Value.ownBlock]using hb.symm
theorem append_store{w':World}(hob:RepOb w m g ob){e:TypeId}{T:Ty}{v v':Value}{l mm:List T.den}{xs news:List Value}(hE:RepE w m T l xs)(hE':RepE w m T mm news)(hown:w.ownsRow 0 e T.size v l.length xs)(hown':w'.ownsRow 0 e T.size v' (l.length+mm.length) (xs++news))(hg:w.grownBy w' v.ownBlock)(hb:∀b,v'.ownBlock=some b->v.ownBlock=some b\/b=w.heap.size){kill:List Wr}(hk:(kill=[]/\v.ownBlock=none)\/∃q,kill=[.obj q []]/\g[q]? = some v/\ob[q]? = some [.rowc e T l]) :
 ∃m',RepOb w' m' (g++[v']) (wr ob (kill++[.new [.rowc e T (l++mm)]]))/\Stp w m w' m'/\(∀(o:Nat) u,g[o]? = some u->(g++[v'])[o]? = some u)/\(wr ob (kill++[.new [.rowc e T (l++mm)]])).length=ob.length+1:=by
 have h1:RepOb w m g (wr ob kill):=by
  rcases hk with⟨rfl,_⟩|⟨q,rfl,_⟩
  . exact hob
  . exact hob.kill q
 have hlen:(wr ob kill).length=ob.length:=by rcases hk with⟨rfl,_⟩|⟨q,rfl,_⟩<;>simp[wr]
 have hno:∀b,v.ownBlock=some b->m.n b/\¬Mu g (wr ob kill) b:=by
  intro b hvb;rcases hk with⟨_,hn⟩|⟨q,rfl,hq,ho⟩
  . rw[hn]at hvb;cases hvb
  . refine⟨hob.sub b ⟨q,v,_,hq,ho,hvb⟩,?_⟩
    rintro⟨i,gi,cs,k1,k2,k3⟩;simp only[wr]at k2;rcases set_get k2 with⟨rfl,rfl,_⟩|⟨hne,h4⟩
    . simp[blk]at k3
    . exact hob.sep q i v gi _ cs b (Ne.symm hne) hq ho k1 h4 hvb k3
 have hblk:∀b,blk v' [.rowc e T (l++mm)]=some b->v'.ownBlock=some b:=λb h=>h;obtain⟨r1,r2,r3⟩:=h1.add (w':=w') v' [.rowc e T (l++mm)] hg.os hg.tape hg.output hg.size
  (λb hlt hmm=>hg.block b hlt λe1=>by
   obtain⟨n1,n2⟩:=hno b e1.symm;rcases hmm with h|h
   . exact h n1
   . exact n2 h)
  (λb hbb hlt=>by
   rcases hb b (hblk b hbb)with h|h
   . exact hno b h
   . omega)
  (λhs=>⟨λe' T' l' he=>by
   cases he;exact⟨xs++news,by rw[List.length_append];exact hown',(hE.append hE' hown.1).mono hs⟩,(λT' l' he=>by cases he),(λh=>by simp[isBox]at h),(λ_ _ he=>by cases he),trivial⟩)
 exact⟨_,by rw[wr_append];simpa[wr]using r1,r2,r3,by rw[wr_append];simp[wr,hlen]⟩
end Go.Ae
namespace Go.Ae
open Go.RowKit
variable {w:World} {m:Md} {g:List Value} {ob:Store}
def gOf(g:List Value)(ms:MS):List Value:=ms.m.map λx=>match x with|some o=>g.getD o (.slice none 0 0)|none => .slice none 0 0
def Ext(ms msf:MS):Prop:=(∃e,msf.m=ms.m++e)/\∀o∈ms.fz,o∈msf.fz
theorem Ext.refl(ms:MS):Ext ms ms:=⟨⟨[],by simp⟩,λ_ h=>h⟩
theorem Ext.trans{a b c:MS}(h:Ext a b)(k:Ext b c):Ext a c:=by
 obtain⟨⟨e1,h1⟩,h2⟩:=h;obtain⟨⟨e2,k1⟩,k2⟩:=k;exact⟨⟨e1++e2,by rw[k1,h1,append_assoc]⟩,λo ho=>k2 o (h2 o ho)⟩
theorem Ext.get{a b:MS}(h:Ext a b){i:Nat}{x:Option Nat}(hi:a.m[i]? = some x):b.m[i]? = some x:=by
 obtain⟨⟨e,h1⟩,_⟩:=h;rw[h1,getElem?_append_left (List.getElem?_eq_some_iff.1 hi).1];exact hi
theorem see_spec{ms ms':MS}{i:Nat}{o:Option Nat}(h:see ms i o=some ms'):Ext ms ms'/\ms'.m[i]? = some o:=by
 unfold see at h;split at h
 . split at h
   . rename_i a b hm
     split at h
     . rename_i e;cases h;subst e
       exact⟨Ext.refl _,hm⟩
     . cases h
   . cases h
 . split at h
   . rename_i hi
     have key:∀q:MS,q=⟨ms.m++[o],ms.fz⟩->Ext ms q/\q.m[i]? = some o:=by
      rintro q rfl;exact⟨⟨⟨[o],rfl⟩,λ_ h=>h⟩,by rw[hi];simp⟩
     split at h
     . split at h
       . cases h
       . cases h;exact key _ rfl
     . cases h;exact key _ rfl
   . cases h
theorem froze_ext(a:AV)(ms:MS):Ext ms (froze ob a ms):=by
 unfold froze;split
 . split
   . exact⟨⟨[],by simp⟩,λo h=>mem_cons_of_mem _ h⟩
   . exact Ext.refl _
 . exact Ext.refl _
theorem gOf_some{ms:MS}{i o:Nat}{v:Value}(h:ms.m[i]? = some (some o))(hg:g[o]? = some v):(gOf g ms)[i]? = some v:=by
 unfold gOf;rw[getElem?_map,h];simp[getD_eq_getElem?_getD,hg]
theorem gOf_none{ms:MS}{i:Nat}(h:ms.m[i]? = some none):(gOf g ms)[i]? = some (.slice none 0 0):=by
 unfold gOf;rw[getElem?_map,h];rfl
theorem hs_cons{l:List Sh}{α:Type}{x:Option (HS l×MS)}{f:HS l×MS->α}{y:α}(h:x.map f=some y):∃v msf,x=some (v,msf)/\f (v,msf)=y:=by
 obtain⟨⟨v,msf⟩,h1,h2⟩:=map_eq_some_iff.1 h;exact⟨v,msf,h1,h2⟩
def MtOk(w:World)(m m1:Md)(g:List Value)(avs:List AV)(i:Nat)(ms msf:MS)(x:List AV×Store):Prop :=
 Ext ms msf/\i+x.2.length=msf.m.length/\(∀o∈msf.fz,some o ∉ msf.m) /\
 ((∀o∈msf.fz,∀v b,g[o]? = some v->v.ownBlock=some b->¬m1 b) ->
   (∀vs,RepL w m g avs vs->RepL w m1 (gOf g msf) x.1 vs) /\
   ∀(j:Nat) gi cs,(gOf g msf)[i+j]? = some gi->x.2[j]? = some cs->RepO w m1 (gOf g msf) gi cs)
theorem MtOk.leaf{m1:Md}{avs:List AV}{i:Nat}{ms ms1 msf:MS}{x:List AV×Store}{a b:AV}(h:MtOk w m m1 g avs i ms1 msf x)(he:Ext ms ms1)(hab:(∀o∈msf.fz,∀v b,g[o]? = some v->v.ownBlock=some b->¬m1 b)->∀v,RepV w m g a v->RepV w m1 (gOf g msf) b v):MtOk w m m1 g (a::avs) i ms msf (b::x.1,x.2):=by
 obtain⟨h1,h2,h3,h4⟩:=h;refine⟨he.trans h1,h2,h3,λhz=>⟨?_,(h4 hz).2⟩⟩;rintro vs ⟨v,r,rfl,k1,k2⟩;exact⟨v,r,rfl,hab hz v k1,(h4 hz).1 r k2⟩
section
variable (ob:Store) (r:List Sh) (avs:List AV) (i:Nat) (ms:MS)
theorem mt_nil  : mt ob ([]) avs i ms=(match avs with
 | []=>if i=ms.m.length/\ms.fz.all (λo => !ms.m.contains (some o))then some ((),ms)else none
 | _=>none):=rfl
theorem mt_top{v:HS r}{msf:MS}:mt ob (.top::r) avs i ms=some (v,msf)->(match avs with
 | _::avs=>mt ob r avs i ms
 | _=>none:Option (HS r×MS))=some (v,msf):=λh=>h
theorem mt_int(k:IntKind):mt ob (.int k::r) avs i ms=(match avs with
 | .int k' n::avs=>if k=k' then(mt ob r avs i ms).map λx=>((n,x.1),x.2)else none
 | _=>none):=rfl
theorem mt_cint(k:IntKind)(c:Int){v:HS r}{msf:MS}:mt ob (.cint k c::r) avs i ms=some (v,msf)->(match avs with
 | .int k' n::avs=>if k=k'/\c=n then mt ob r avs i ms else none
 | _=>none:Option (HS r×MS))=some (v,msf):=λh=>h
theorem mt_bool  : mt ob (.bool::r) avs i ms=(match avs with
 | .bool b::avs=>(mt ob r avs i ms).map λx=>((b,x.1),x.2)
 | _=>none):=rfl
theorem mt_cbool(c:Bool){v:HS r}{msf:MS}:mt ob (.cbool c::r) avs i ms=some (v,msf)->(match avs with
 | .bool b::avs=>if c=b then mt ob r avs i ms else none
 | _=>none:Option (HS r×MS))=some (v,msf):=λh=>h
theorem mt_str  : mt ob (.str::r) avs i ms=(match avs with
 | .str s::avs=>(mt ob r avs i ms).map λx=>((s,x.1),x.2)
 | _=>none):=rfl
theorem mt_lst(T:Ty):mt ob (.lst T::r) avs i ms=(match avs with
 | .nils::avs=>(mt ob r avs i ms).map λx=>((([]:List T.den),x.1),x.2)
 | a::avs=>match asRow ob a with
  | some ⟨T',l⟩=>match castL T' T l with
   | some y=>(mt ob r avs i (froze ob a ms)).map λx=>((y,x.1),x.2)
   | none=>none
  | none=>none
 | []=>none):=rfl
theorem mt_row(j:Nat){v:HS r}{msf:MS}:mt ob (.row j::r) avs i ms=some (v,msf)->(match avs with
 | .row o::avs=>match see ms j (some o)with|some ms=>mt ob r avs i ms|none=>none
 | .nils::avs=>match see ms j none with|some ms=>mt ob r avs i ms|none=>none
 | _=>none:Option (HS r×MS))=some (v,msf):=λh=>h
theorem mt_win(j sz:Nat):mt ob (.win j sz::r) avs i ms=(match avs with
 | .win o sz' off n::avs=>if sz=sz' then(match see ms j (some o)with|some ms=>(mt ob r avs i ms).map λx=>((((off:Int),(n:Int)),x.1),x.2)|none=>none)else none
 | _=>none):=rfl
theorem mt_ptr(j:Nat)(off:Nat){v:HS r}{msf:MS}:mt ob (.ptr j off::r) avs i ms=some (v,msf)->(match avs with
 | .ptr o off'::avs=>if off=off' then(match see ms j (some o)with|some ms=>mt ob r avs i ms|none=>none)else none
 | _=>none:Option (HS r×MS))=some (v,msf):=λh=>h
theorem mt_nilp{v:HS r}{msf:MS}:mt ob (.nilp::r) avs i ms=some (v,msf)->(match avs with | .nilp::avs=>mt ob r avs i ms|_=>none:Option (HS r×MS))=some (v,msf):=λh=>h
theorem mt_nilm{v:HS r}{msf:MS}:mt ob (.nilm::r) avs i ms=some (v,msf)->(match avs with | .nilm::avs=>mt ob r avs i ms|_=>none:Option (HS r×MS))=some (v,msf):=λh=>h
theorem mt_opq(j:Nat){v:HS r}{msf:MS}:mt ob (.opq j::r) avs i ms=some (v,msf)->(match avs with | .opq j'::avs=>if j=j' then mt ob r avs i ms else none|_=>none:Option (HS r×MS))=some (v,msf):=λh=>h
theorem mt_nils{v:HS r}{msf:MS}:mt ob (.nils::r) avs i ms=some (v,msf)->(match avs with | .nils::avs=>mt ob r avs i ms|_=>none:Option (HS r×MS))=some (v,msf):=λh=>h
theorem mt_nilf{v:HS r}{msf:MS}:mt ob (.nilf::r) avs i ms=some (v,msf)->(match avs with | .nilf::avs=>mt ob r avs i ms|_=>none:Option (HS r×MS))=some (v,msf):=λh=>h
theorem mt_nili{v:HS r}{msf:MS}:mt ob (.nili::r) avs i ms=some (v,msf)->(match avs with | .nili::avs=>mt ob r avs i ms|_=>none:Option (HS r×MS))=some (v,msf):=λh=>h
theorem mt_agg(n:Nat){v:HS r}{msf:MS}:mt ob (.agg n::r) avs i ms=some (v,msf)->(match avs with
 | .agg cs::avs=>if cs.length=n then mt ob r (cs++avs) i ms else none
 | _=>none:Option (HS r×MS))=some (v,msf):=λh=>h
theorem mt_tuple(n:Nat){v:HS r}{msf:MS}:mt ob (.tuple n::r) avs i ms=some (v,msf)->(match avs with
 | .tuple cs::avs=>if cs.length=n then mt ob r (cs++avs) i ms else none
 | _=>none:Option (HS r×MS))=some (v,msf):=λh=>h
theorem mt_func(fn:Fn)(nf:Nat)(nc:Nat){v:HS r}{msf:MS}:mt ob (.func fn nf nc::r) avs i ms=some (v,msf)->(match avs with
 | .func fn' f c::avs=>if fn=fn'/\f.length=nf/\c.length=nc then mt ob r (f++(c++avs)) i ms else none
 | _=>none:Option (HS r×MS))=some (v,msf):=λh=>h
theorem mt_iface(t:TypeId){v:HS r}{msf:MS}:mt ob (.iface t::r) avs i ms=some (v,msf)->(match avs with
 | .iface t' v::avs=>if t=t' then mt ob r (v::avs) i ms else none
 | _=>none:Option (HS r×MS))=some (v,msf):=λh=>h
theorem mt_obox(n:Nat){v:HS r}{msf:MS}:mt ob (.obox n::r) avs i ms=some (v,msf)->(match avs,ms.m[i]? with
 | [],some (some o)=>match ob[o]? with
  | some cs=>if cs.length=n/\n≠0/\cs.all AV.cell then mt ob r cs (i+1) ms else none
  | none=>none
 | _,_=>none:Option (HS r×MS))=some (v,msf):=λh=>h
theorem mt_orow(e:TypeId)(T:Ty):mt ob (.orow e T::r) avs i ms=(match avs,ms.m[i]? with
 | [],some (some o)=>match ob[o]? with
  | some [.rowc e' T' l]=>if e'≠e then none else match castL T' T l with
   | some y=>(mt ob r [] (i+1) ms).map λx=>((y,x.1),x.2)
   | none=>none
  | _=>none
 | [],some none=>(mt ob r [] (i+1) ms).map λx=>((([]:List T.den),x.1),x.2)
 | _,_=>none):=rfl
theorem mt_oiter:mt ob (.oiter::r) avs i ms=(match avs,ms.m[i]? with
 | [],some (some o)=>match ob[o]? with
  | some [.siter s p]=>(mt ob r [] (i+1) ms).map λx=>(((s,(p:Int)),x.1),x.2)
  | _=>none
 | _,_=>none):=rfl
theorem mt_oarr(e:TypeId)(T:Ty):mt ob (.oarr e T::r) avs i ms=(match avs,ms.m[i]? with
 | [],some (some o)=>match ob[o]? with
  | some [.arrc e' T' l]=>if e'≠e then none else match castL T' T l with
   | some y=>(mt ob r [] (i+1) ms).map λx=>((y,x.1),x.2)
   | none=>none
  | _=>none
 | _,_=>none):=rfl
theorem mt_ovals(e:TypeId)(n k:Nat){v:HS r}{msf:MS}:mt ob (.ovals e n k::r) avs i ms=some (v,msf)->(match avs,ms.m[i]? with
 | [],some (some o)=>match ob[o]? with
  | some [.vals e' n' cs]=>if e'=e/\n'=n/\cs.length=k/\cs.all AV.cell then mt ob r cs (i+1) ms else none
  | _=>none
 | _,_=>none:Option (HS r×MS))=some (v,msf):=λh=>h
theorem mt_obld(t:TypeId)(j:Nat){v:HS r}{msf:MS}:mt ob (.obld t j::r) avs i ms=some (v,msf)->(match avs,ms.m[i]? with
 | [],some (some o)=>match ob[o]? with
  | some [.bldr t' o']=>if t'=t then(match see ms j (some o')with|some ms=>mt ob r [] (i+1) ms|none=>none)else none
  | _=>none
 | _,_=>none:Option (HS r×MS))=some (v,msf):=λh=>h
theorem mt_odead{v:HS r}{msf:MS}:mt ob (.odead::r) avs i ms=some (v,msf)->(match avs with
 | []=>if i<ms.m.length then mt ob r [] (i+1) ms else none
 | _=>none:Option (HS r×MS))=some (v,msf):=λh=>h
end
set_option maxHeartbeats 4000000 in
theorem mt_sound(hob:RepOb w m g ob){m1:Md}(hs:Stp w m w m1):∀(l:List Sh) (avs:List AV) (i:Nat) (ms:MS) (v:HS l) (msf:MS),mt ob l avs i ms=some (v,msf)->MtOk w m m1 g avs i ms msf (em id l v):=by
 intro l
 induction l with
 | nil =>
  intro avs i ms v msf h;rw[mt_nil]at h;split at h
  . split at h
    . rename_i hi
      simp only[Option.some.injEq,Prod.mk.injEq]at h;obtain⟨_,rfl⟩:=h;refine⟨Ext.refl _,by simpa[em]using hi.1,λo ho hm => ?_,λ_=>⟨λvs h=>h,λj gi cs _ h=>by simp[em]at h⟩⟩;have:=List.all_eq_true.1 hi.2 o ho;simp at this;exact this hm
    . cases h
  . cases h
 | cons s r ih =>
  intro avs i ms v msf h;cases s with
  | top =>
   change HS r at v
   replace h:=mt_top _ _ _ _ _ h;split at h
   . rename_i a avs
     exact(ih _ _ _ _ _ h).leaf (Ext.refl _) λ_ _ _=>trivial
   . cases h
  | int k =>
   rw[mt_int]at h;split at h
   . rename_i k' n avs
     split at h
     . rename_i e;subst e
       obtain⟨v',ms',h1,h2⟩:=hs_cons h;cases h2;exact(ih _ _ _ _ _ h1).leaf (Ext.refl _) λ_ v hv=>hv
     . cases h
   . cases h
  | cint k c =>
   change HS r at v
   replace h:=mt_cint _ _ _ _ _ _ _ h;split at h
   . rename_i k' n avs
     split at h
     . rename_i e;obtain⟨rfl,rfl⟩:=e
       exact(ih _ _ _ _ _ h).leaf (Ext.refl _) λ_ v hv=>hv
     . cases h
   . cases h
  | bool =>
   rw[mt_bool]at h;split at h
   . rename_i b avs
     obtain⟨v',ms',h1,h2⟩:=hs_cons h;cases h2;exact(ih _ _ _ _ _ h1).leaf (Ext.refl _) λ_ v hv=>hv
   . cases h
  | cbool c =>
   change HS r at v
   replace h:=mt_cbool _ _ _ _ _ _ h;split at h
   . rename_i b avs
     split at h
     . rename_i e;subst e
       exact(ih _ _ _ _ _ h).leaf (Ext.refl _) λ_ v hv=>hv
     . cases h
   . cases h
  | str =>
   rw[mt_str]at h;split at h
   . rename_i q avs
     obtain⟨v',ms',h1,h2⟩:=hs_cons h;cases h2;exact(ih _ _ _ _ _ h1).leaf (Ext.refl _) λ_ v hv=>hv
   . cases h
  | lst T =>
   rw[mt_lst]at h;split at h
   . obtain⟨v',ms',h1,h2⟩:=hs_cons h
     cases h2;refine(ih _ _ _ _ _ h1).leaf (Ext.refl _) λ_ v hv => ?_;rw[show v=_ from hv];exact⟨none,0,rfl,le_refl _,by omega,λ_=>rfl,λj x hx=>absurd (show ([]:List T.den)[j]? = some x from hx) (by simp)⟩
   . rename_i a avs _
     split at h
     . rename_i T' l' hrow
       split at h
       . rename_i y hy
         obtain⟨rfl,rfl⟩:=castL_some hy;obtain⟨v',ms',h1,h2⟩:=hs_cons h;cases h2;have hk:=ih _ _ _ _ _ h1;refine hk.leaf (froze_ext a ms) λhz v hv => ?_;have hext:=hk.1;unfold asRow at hrow;split at hrow
         . cases hrow;exact RepT.mono (T := .lst _) hs hv
         . rename_i o _
           split at hrow
           . rename_i e T' l' ho
             cases hrow;obtain⟨xs,k1,k2⟩:=(hob.obj o v _ hv.1 ho).rowc _ _ _ rfl;refine own_repT k1 (k2.mono hs) λb hb=>hz o (hext.2 o ?_) v b hv.1 hb;simp[froze,ho]
           . rename_i T' l' ho
             cases hrow;exact((hob.obj o v _ hv.1 ho).frow _ _ rfl).mono hs
           . cases hrow
         . cases hrow
       . cases h
     . cases h
   . cases h
  | row j =>
   change HS r at v
   replace h:=mt_row _ _ _ _ _ _ h;split at h
   . rename_i o avs
     split at h
     . rename_i ms' hsee
       obtain⟨e1,e2⟩:=see_spec hsee;have hk:=ih _ _ _ _ _ h;exact hk.leaf e1 λ_ v hv=>⟨gOf_some (hk.1.get e2) hv.1,hv.2⟩
     . cases h
   . rename_i avs
     split at h
     . rename_i ms' hsee
       obtain⟨e1,e2⟩:=see_spec hsee;have hk:=ih _ _ _ _ _ h;exact hk.leaf e1 λ_ v hv=>by rw[show v=_ from hv];exact⟨gOf_none (hk.1.get e2),_,_,_,rfl⟩
     . cases h
   . cases h
  | win j sz =>
   rw[mt_win]at h;split at h
   . rename_i o sz' off n avs
     split at h
     . rename_i e;subst e
       split at h
       . rename_i ms' hsee
         obtain⟨e1,e2⟩:=see_spec hsee;obtain⟨v',ms2,h1,h2⟩:=hs_cons h;cases h2;have hk:=ih _ _ _ _ _ h1;exact hk.leaf e1 λ_ v ⟨a0,n0,c0,ao,cap,k1,k2⟩=>⟨a0,n0,c0,ao,cap,gOf_some (hk.1.get e2) k1,k2⟩
       . cases h
     . cases h
   . cases h
  | ptr j off =>
   change HS r at v
   replace h:=mt_ptr _ _ _ _ _ _ _ h;split at h
   . rename_i o off' avs
     split at h
     . rename_i e;subst e
       split at h
       . rename_i ms' hsee
         obtain⟨e1,e2⟩:=see_spec hsee;have hk:=ih _ _ _ _ _ h;exact hk.leaf e1 λ_ v ⟨b,k1,k2⟩=>⟨b,gOf_some (hk.1.get e2) k1,k2⟩
       . cases h
     . cases h
   . cases h
  | nilp =>
   change HS r at v
   replace h:=mt_nilp _ _ _ _ _ h;split at h
   . rename_i avs
     exact(ih _ _ _ _ _ h).leaf (Ext.refl _) λ_ v hv=>hv
   . cases h
  | nilm =>
   change HS r at v
   replace h:=mt_nilm _ _ _ _ _ h;split at h
   . rename_i avs
     exact(ih _ _ _ _ _ h).leaf (Ext.refl _) λ_ v hv=>hv
   . cases h
  | opq jj =>
   change HS r at v
   replace h:=mt_opq _ _ _ _ _ jj h;split at h
   . rename_i j' avs
     split at h
     . rename_i hj
       subst hj;exact(ih _ _ _ _ _ h).leaf (Ext.refl _) λ_ v ⟨b,o,p1,p2,p3,p4,p5⟩=>⟨b,o,p1,p2,λh'=>p3 (hs.mutb b p2 h'),p4,p5⟩
     . cases h
   . cases h
  | nils =>
   change HS r at v
   replace h:=mt_nils _ _ _ _ _ h;split at h
   . rename_i avs
     exact(ih _ _ _ _ _ h).leaf (Ext.refl _) λ_ v hv=>hv
   . cases h
  | nilf =>
   change HS r at v
   replace h:=mt_nilf _ _ _ _ _ h;split at h
   . rename_i avs
     exact(ih _ _ _ _ _ h).leaf (Ext.refl _) λ_ v hv=>hv
   . cases h
  | nili =>
   change HS r at v
   replace h:=mt_nili _ _ _ _ _ h;split at h
   . rename_i avs
     exact(ih _ _ _ _ _ h).leaf (Ext.refl _) λ_ v hv=>hv
   . cases h
  | agg n =>
   change HS r at v
   replace h:=mt_agg _ _ _ _ _ _ h;split at h
   . rename_i cs avs
     split at h
     . rename_i e;subst e
       obtain⟨h1,h2,h3,h4⟩:=ih _ _ _ _ _ h;refine⟨h1,h2,h3,λhz=>⟨?_,(h4 hz).2⟩⟩;rintro vs ⟨u,us,rfl,⟨arr,rfl,k1⟩,k2⟩;have hk:=(h4 hz).1 _ (k1.append k2);have hl:arr.toList.length=cs.length:=k1.length;have t1:=hk.take cs.length;have t2:=hk.drop cs.length;rw[<-hl,take_left]at t1;rw[<-hl,drop_left]at t2;exact⟨_,us,rfl,⟨arr,rfl,by rw[<-hl];exact t1⟩,by rw[<-hl];exact t2⟩
     . cases h
   . cases h
  | tuple n =>
   change HS r at v
   replace h:=mt_tuple _ _ _ _ _ _ h;split at h
   . rename_i cs avs
     split at h
     . rename_i e;subst e
       obtain⟨h1,h2,h3,h4⟩:=ih _ _ _ _ _ h;refine⟨h1,h2,h3,λhz=>⟨?_,(h4 hz).2⟩⟩;rintro vs ⟨u,us,rfl,⟨arr,rfl,k1⟩,k2⟩;have hk:=(h4 hz).1 _ (k1.append k2);have hl:arr.toList.length=cs.length:=k1.length;have t1:=hk.take cs.length;have t2:=hk.drop cs.length;rw[<-hl,take_left]at t1;rw[<-hl,drop_left]at t2;exact⟨_,us,rfl,⟨arr,rfl,by rw[<-hl];exact t1⟩,by rw[<-hl];exact t2⟩
     . cases h
   . cases h
  | func fn nf nc =>
   change HS r at v
   replace h:=mt_func _ _ _ _ _ _ _ _ h;split at h
   . rename_i fn' f c avs
     split at h
     . rename_i e;obtain⟨rfl,rfl,rfl⟩:=e
       obtain⟨h1,h2,h3,h4⟩:=ih _ _ _ _ _ h;refine⟨h1,h2,h3,λhz=>⟨?_,(h4 hz).2⟩⟩;rintro vs ⟨u,us,rfl,⟨fs,cs,rfl,k1,k1'⟩,k2⟩;have hk:=(h4 hz).1 _ (k1.append (k1'.append k2));have hl:fs.toList.length=f.length:=k1.length;have hl':cs.toList.length=c.length:=k1'.length;have t1:=hk.take f.length;have t2:=(hk.drop f.length).take c.length;have t3:=(hk.drop f.length).drop c.length;have e1:(fs.toList++(cs.toList++us)).take f.length=fs.toList:=by rw[<-hl,take_left]
       have e2:(fs.toList++(cs.toList++us)).drop f.length=cs.toList++us:=by rw[<-hl,drop_left]
       rw[e1]at t1;rw[e2,<-hl',take_left,hl']at t2;rw[e2,<-hl',drop_left,hl',drop_drop]at t3;exact⟨_,us,rfl,⟨fs,cs,rfl,t1,t2⟩,t3⟩
     . cases h
   . cases h
  | iface t =>
   change HS r at v
   replace h:=mt_iface _ _ _ _ _ _ h;split at h
   . rename_i t' q0 avs
     split at h
     . rename_i e;subst e
       obtain⟨h1,h2,h3,h4⟩:=ih _ _ _ _ _ h;refine⟨h1,h2,h3,λhz=>⟨?_,(h4 hz).2⟩⟩;rintro vs ⟨u,us,rfl,⟨q,rfl,k1⟩,k2⟩;obtain⟨a',as',e1,e2,e3⟩:∃a' as',(em id r v).1=a'::as'/\RepV w m1 (gOf g msf) a' q/\RepL w m1 (gOf g msf) as' us:=by
        have hk:=(h4 hz).1 _ (RepL.cons k1 k2);cases hq:(em id r v).1 with
        | nil=>rw[hq]at hk;cases hk
        | cons a' as' =>
         rw[hq]at hk;obtain⟨v',r',e,k3,k4⟩:=hk;cases e;exact⟨a',as',rfl,k3,k4⟩
       simp only[em,e1];exact⟨_,us,rfl,⟨q,rfl,e2⟩,e3⟩
     . cases h
   . cases h
  | obox n =>
   change HS r at v
   replace h:=mt_obox _ _ _ _ _ _ h;split at h
   . rename_i o hm
     split at h
     . rename_i cs ho
       split at h
       . rename_i hcond
         obtain⟨hl,hn0,hcell⟩:=hcond;obtain⟨h1,h2,h3,h4⟩:=ih _ _ _ _ _ h;refine⟨h1,by simp only[em,length_cons];omega,h3,λhz=>⟨λvs hv=>hv,λj gi cs' k1 k2 => ?_⟩⟩;cases j with
         | succ j=>exact(h4 hz).2 j gi cs' (by rwa[add_right_comm,add_assoc]) (by simpa[em]using k2)
         | zero =>
          simp only[em,getElem?_cons_zero,Option.some.injEq]at k2;subst k2;have hlt:o<g.length:=by rw[hob.len];exact(List.getElem?_eq_some_iff.1 ho).1
          have hgo:g[o]? = some g[o]:=getElem?_eq_getElem hlt;have hgi:=gOf_some (h1.get hm) hgo;rw[add_zero,hgi]at k1;cases k1;have hro:=hob.obj o _ cs hgo ho;have hbx:isBox cs=true:=by
           by_cases hx:isBox cs=true
           . exact hx
           . exfalso
             unfold isBox at hx;split at hx
             . simp[AV.cell]at hcell
             . simp[AV.cell]at hcell
             . simp[AV.cell]at hcell
             . simp[AV.cell]at hcell
             . simp[AV.cell]at hcell
             . simp[AV.cell]at hcell
             . simp at hl;omega
             . exact hx rfl
          obtain⟨b,ty,arr,q1,q2,q3⟩:=hro.box hbx;have hrep:=(h4 hz).1 _ q3;have hne:(em id r v).1≠[]:=by
           intro e0;have:=hrep.length;rw[e0,q3.length]at this;simp at this;subst this;simp at hl;omega
          exact⟨(λe T l he=>by rw[he]at hrep;exact(not_rowc hrep).elim),(λT l he=>by rw[he]at hrep;exact(not_frow hrep).elim),(λ_=>⟨b,ty,arr,q1,q2,hrep⟩),(λs p he=>by rw[he]at hrep;exact(not_siter hrep).elim),.of_rep hrep⟩
       . cases h
     . cases h
   . cases h
  | orow e T =>
   rw[mt_orow]at h;split at h
   . rename_i o hm
     split at h
     . rename_i e' T' l' ho
       split at h
       . cases h
       . rename_i hee
         have hee':e'=e:=by simpa using hee
         subst hee';split at h
         . rename_i y hy
           obtain⟨rfl,rfl⟩:=castL_some hy;obtain⟨v',ms',q1,q2⟩:=hs_cons h;cases q2;obtain⟨h1,h2,h3,h4⟩:=ih _ _ _ _ _ q1;refine⟨h1,by simp only[em,length_cons];omega,h3,λhz=>⟨λvs hv=>hv,λj gi cs' k1 k2 => ?_⟩⟩;cases j with
           | succ j=>exact(h4 hz).2 j gi cs' (by rwa[add_right_comm,add_assoc]) (by simpa[em]using k2)
           | zero =>
            simp only[em,getElem?_cons_zero,Option.some.injEq]at k2;subst k2;have hlt:o<g.length:=by rw[hob.len];exact(List.getElem?_eq_some_iff.1 ho).1
            have hgo:g[o]? = some g[o]:=getElem?_eq_getElem hlt;have hgi:=gOf_some (h1.get hm) hgo;rw[add_zero,hgi]at k1;cases k1;refine⟨λe T l he => ?_,(λT l he=>by cases he),(λhb=>by simp[isBox]at hb),(λ_ _ he=>by cases he),trivial⟩;cases he;obtain⟨xs,p1,p2⟩:=(hob.obj o _ _ hgo ho).rowc _ _ _ rfl;exact⟨xs,p1,p2.mono hs⟩
         . cases h
     . cases h
   . rename_i hm
     obtain⟨v',ms',q1,q2⟩:=hs_cons h;cases q2;obtain⟨h1,h2,h3,h4⟩:=ih _ _ _ _ _ q1;refine⟨h1,by simp only[em,length_cons];omega,h3,λhz=>⟨λvs hv=>hv,λj gi cs' k1 k2 => ?_⟩⟩;cases j with
     | succ j=>exact(h4 hz).2 j gi cs' (by rwa[add_right_comm,add_assoc]) (by simpa[em]using k2)
     | zero =>
      simp only[em,getElem?_cons_zero,Option.some.injEq]at k2;subst k2;have hgi:=gOf_none (g:=g) (h1.get hm);rw[add_zero,hgi]at k1;cases k1;refine⟨λe T l he => ?_,(λT l he=>by cases he),(λhb=>by simp[isBox]at hb),(λ_ _ he=>by cases he),trivial⟩;cases he;exact⟨[],⟨by simp,.inl ⟨rfl,rfl⟩⟩,λj x hx=>by simp at hx⟩
   . cases h
  | oiter =>
   rw[mt_oiter]at h;split at h
   . rename_i o hm
     split at h
     . rename_i s p ho
       obtain⟨v',ms',q1,q2⟩:=hs_cons h;cases q2;obtain⟨h1,h2,h3,h4⟩:=ih _ _ _ _ _ q1;refine⟨h1,by simp only[em,length_cons];omega,h3,λhz=>⟨λvs hv=>hv,λj gi cs' k1 k2 => ?_⟩⟩;cases j with
       | succ j=>exact(h4 hz).2 j gi cs' (by rwa[add_right_comm,add_assoc]) (by simpa[em]using k2)
       | zero =>
        simp only[em,getElem?_cons_zero,Option.some.injEq,Int.toNat_natCast]at k2;subst k2;have hlt:o<g.length:=by rw[hob.len];exact(List.getElem?_eq_some_iff.1 ho).1
        have hgo:g[o]? = some g[o]:=getElem?_eq_getElem hlt;have hgi:=gOf_some (h1.get hm) hgo;rw[add_zero,hgi]at k1;cases k1;refine⟨(λ_ _ _ he=>by cases he),(λ_ _ he=>by cases he),(λhb=>by simp[isBox]at hb),λs' p' he => ?_,trivial⟩;cases he;exact(hob.obj o _ _ hgo ho).iter _ _ rfl
     . cases h
   . cases h
  | oarr e T =>
   rw[mt_oarr]at h;split at h
   . rename_i o hm
     split at h
     . rename_i e' T' l' ho
       split at h
       . cases h
       . rename_i hee
         have hee':e'=e:=by simpa using hee
         subst hee';split at h
         . rename_i y hy
           obtain⟨rfl,rfl⟩:=castL_some hy;obtain⟨v',ms',q1,q2⟩:=hs_cons h;cases q2;obtain⟨h1,h2,h3,h4⟩:=ih _ _ _ _ _ q1;refine⟨h1,by simp only[em,length_cons];omega,h3,λhz=>⟨λvs hv=>hv,λj gi cs' k1 k2 => ?_⟩⟩;cases j with
           | succ j=>exact(h4 hz).2 j gi cs' (by rwa[add_right_comm,add_assoc]) (by simpa[em]using k2)
           | zero =>
            simp only[em,getElem?_cons_zero,Option.some.injEq]at k2;subst k2;have hlt:o<g.length:=by rw[hob.len];exact(List.getElem?_eq_some_iff.1 ho).1
            have hgo:g[o]? = some g[o]:=getElem?_eq_getElem hlt;have hgi:=gOf_some (h1.get hm) hgo;rw[add_zero,hgi]at k1;cases k1;refine⟨(λ_ _ _ he=>by cases he),(λ_ _ he=>by cases he),(λhb=>by simp[isBox]at hb),(λ_ _ he=>by cases he),?_⟩;obtain⟨b,ty,arr,p1,p2,p3,p4⟩:=(hob.obj o _ _ hgo ho).more;exact⟨b,ty,arr,p1,p2,p3,p4.mono hs⟩
         . cases h
     . cases h
   . cases h
  | obld t jj =>
   change HS r at v
   replace h:=mt_obld _ _ _ _ _ t jj h;split at h
   . rename_i o hm
     split at h
     . rename_i t' o' ho
       split at h
       . rename_i hc
         subst hc;split at h
         . rename_i ms' hsee
           obtain⟨s1,s2⟩:=see_spec hsee;obtain⟨h1,h2,h3,h4⟩:=ih _ _ _ _ _ h;refine⟨s1.trans h1,by simp only[em,length_cons];omega,h3,λhz=>⟨λvs hv=>hv,λj gi cs' k1 k2 => ?_⟩⟩;cases j with
           | succ j=>exact(h4 hz).2 j gi cs' (by rwa[add_right_comm,add_assoc]) (by simpa[em]using k2)
           | zero =>
            simp only[em,getElem?_cons_zero,Option.some.injEq]at k2;subst k2;have hlt:o<g.length:=by rw[hob.len];exact(List.getElem?_eq_some_iff.1 ho).1
            have hgo:g[o]? = some g[o]:=getElem?_eq_getElem hlt;have hgi:=gOf_some ((s1.trans h1).get hm) hgo;rw[add_zero,hgi]at k1;cases k1;refine⟨(λ_ _ _ he=>by cases he),(λ_ _ he=>by cases he),(λhb=>by simp[isBox]at hb),(λ_ _ he=>by cases he),?_⟩;obtain⟨b,p,u,p1,p2,p3,p4⟩:=(hob.obj o _ _ hgo ho).more;exact⟨b,p,u,p1,p2,p3,gOf_some (h1.get s2) p4.1,p4.2⟩
         . cases h
       . cases h
     . cases h
   . cases h
  | ovals e n k =>
   change HS r at v
   replace h:=mt_ovals _ _ _ _ _ e n k h;split at h
   . rename_i o hm
     split at h
     . rename_i e' n' cs ho
       split at h
       . rename_i hc
         obtain⟨rfl,rfl,hl,hcell⟩:=hc;obtain⟨h1,h2,h3,h4⟩:=ih _ _ _ _ _ h;refine⟨h1,by simp only[em,length_cons];omega,h3,λhz=>⟨λvs hv=>hv,λj gi cs' k1 k2 => ?_⟩⟩;cases j with
         | succ j=>exact(h4 hz).2 j gi cs' (by rwa[add_right_comm,add_assoc]) (by simpa[em]using k2)
         | zero =>
          simp only[em,getElem?_cons_zero,Option.some.injEq]at k2;subst k2;have hlt:o<g.length:=by rw[hob.len];exact(List.getElem?_eq_some_iff.1 ho).1
          have hgo:g[o]? = some g[o]:=getElem?_eq_getElem hlt;have hgi:=gOf_some (h1.get hm) hgo;rw[add_zero,hgi]at k1;cases k1;refine⟨(λ_ _ _ he=>by cases he),(λ_ _ he=>by cases he),(λhb=>by simp[isBox]at hb),(λ_ _ he=>by cases he),?_⟩;obtain⟨b,ty,arr,c,p1,p2,p3,p4,p5⟩:=(hob.obj o _ _ hgo ho).more;exact⟨b,ty,arr,c,p1,p2,p3,p4,(h4 hz).1 _ p5⟩
       . cases h
     . cases h
   . cases h
  | odead =>
   change HS r at v
   replace h:=mt_odead _ _ _ _ _ h;split at h
   . skip
     split at h
     . obtain⟨h1,h2,h3,h4⟩:=ih _ _ _ _ _ h
       refine⟨h1,by simp only[em,length_cons];omega,h3,λhz=>⟨λvs hv=>hv,λj gi cs' k1 k2 => ?_⟩⟩;cases j with
       | succ j=>exact(h4 hz).2 j gi cs' (by rwa[add_right_comm,add_assoc]) (by simpa[em]using k2)
       | zero =>
        simp only[em,getElem?_cons_zero,Option.some.injEq]at k2;subst k2;exact RepO.dead ..
     . cases h
   . cases h
end Go.Ae
