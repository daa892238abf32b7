/- The texts of the proof, one behind the other: WK, PCC, PCD, PCE, PCF, PCG, WL, PCommandBack, PGlob. -/
import Derived.Test.YtiacnhhmkdkpmaaGreatDoorCCb5
import Derived.Test.YtiacnhhmkdkpmaaGreatDoorCCb6
import Derived.Test.YtiacnhhmkdkpmaaGreatDoorRows
import Derived.Test.YtiacnhhmkdkpmaaGreatDoorProg
import Derived.Test.YtiacnhhmkdkpmaaGreatDoorCCb2
import Derived.MakeChecks
open Go.Proofs.Tryz
open Bool (and_eq_true)
open Int (toNat_natCast)
open List (all_cons all_eq_true all_nil append_nil foldl_cons foldl_nil getElem_mem length_append length_cons length_drop length_nil length_set length_take mem_cons take_left)
open Nat (le_refl mul_assoc pow_succ zero_le)
open Sum (elim_inl elim_inr)
set_option maxRecDepth 100000
set_option linter.unusedVariables false
namespace Go.Proofs.YtiacnhhmkdkpmaaGreatDoorC.W
open Go Go.Ae
def w9g:List Sh:=(List.cons (.str) (tp 6 (List.cons (.agg 8) (List.cons (.str) (List.cons (.str) (List.cons (.str) (List.cons (.str) (List.cons (.str) (List.cons (.str) (List.cons (.str) (List.cons (.str) (List.cons (.int .i64) (tp 20 [])))))))))))))
def g2x:qb:=[((.exit 0),(tp 29 [])),(.ret,(List.cons (.top) (List.cons (.top) (List.cons (.int .i64) (tp 26 [])))))]
def g2y:qb:=[(.ret,[.agg 8,.func (.func 98) 0 0,.func (.func 98) 0 0,.func (.func 99) 0 0,.func (.func 100) 0 0,.func (.func 101) 0 0,.func (.func 101) 0 0,.func (.func 102) 0 0,.func (.func 101) 0 0])]
def w9h:List Sh:=[.str,.func (.func 104) 0 0,.bool]
def w9i:List Sh:=(List.cons (.top) (List.cons (.func (.func 104) 0 0) (List.cons (.bool) (tp 7 (List.cons (.ptr 0 0) (tp 10 (List.cons (.oiter) [])))))))
def g2z:qb:=[(.ret,(tp 6 (List.cons (.int .i64) (tp 14 [])))),((.exit 0),(tp 21 []))]
def x3i:List Sh:=[.str,.func (.func 104) 0 0]
def q7m:List Sh:=[.agg 5,.lst zm,.lst zn,.lst zo,.opq 0,.opq 1,.ptr 0 0,.str,.obox 8,.int .i64,.str,.bool,.str,.str,.int .i64,.bool,.bool]
def q3e:qb:=[(.ret,[.int .i64,.obox 8,.int .i64,.str,.bool,.str,.str,.int .i64,.bool,.bool])]
def w9j:List Sh:=(List.cons (.str) (List.cons (.top) (List.cons (.top) (List.cons (.bool) (List.cons (.bool) (List.cons (.int .i64) (List.cons (.int .u8) (tp 18 (List.cons (.bool) (tp 17 []))))))))))
def g3a:qb:=[(.normal,(List.cons (.str) (List.cons (.top) (List.cons (.top) (List.cons (.bool) (List.cons (.bool) (List.cons (.int .i64) (tp 37 [])))))))),(.ret,(List.cons (.top) (List.cons (.top) (List.cons (.int .i64) (tp 40 [])))))]
def w9k:List Sh:=(List.cons (.str) (List.cons (.top) (List.cons (.top) (List.cons (.bool) (List.cons (.bool) (List.cons (.int .i64) (tp 37 [])))))))
def g3b:qb:=[((.exit 0),(tp 43 [])),(.ret,(List.cons (.top) (List.cons (.top) (List.cons (.int .i64) (tp 40 [])))))]
def w9l:List Sh:=[.agg 5,.lst zm,.lst zn,.lst zo,.opq 0,.opq 1,.ptr 0 0,.str,.str,.obox 8,.int .i64,.str,.bool,.str,.str,.int .i64,.bool,.bool]
def g3c:qb:=[(.ret,[.tuple 3,.str,.str,.int .i64,.obox 8,.int .i64,.str,.bool,.str,.str,.int .i64,.bool,.bool])]
def g3d:qb:=[(.ret,[.tuple 2,.int .i64,.int .i64])]
def w9m:List Sh:=(List.cons (.str) (tp 3 (List.cons (.int .i64) (tp 3 (List.cons (.ptr 0 0) (tp 27 (List.cons (.oiter) [])))))))
def g3e:qb:=[(.ret,(List.cons (.top) (List.cons (.top) (List.cons (.int .i64) (List.cons (.int .i64) (tp 32 [])))))),((.exit 0),(List.cons (.str) (tp 3 (List.cons (.int .i64) (tp 31 [])))))]
def x3j:List Sh:=[.ptr 0 0,.str,.obox 8,.int .i64,.str,.bool,.str,.str,.int .i64,.bool,.bool]
def g3f:qb:=[(.ret,[.tuple 2,.str,.int .i64,.obox 8,.int .i64,.str,.bool,.str,.str,.int .i64,.bool,.bool])]
def w9n:List Sh:=(List.cons (.ptr 0 0) (List.cons (.str) (List.cons (.top) (List.cons (.top) (List.cons (.str) (List.cons (.top) (List.cons (.str) (tp 21 (List.cons (.bool) (tp 32 (List.cons (.obox 8) (List.cons (.int .i64) (List.cons (.str) (List.cons (.bool) (List.cons (.str) (List.cons (.str) (List.cons (.int .i64) (List.cons (.bool) (List.cons (.bool) [])))))))))))))))))))
def x3y:qb:=[(.ret,(tp 4 (List.cons (.str) (List.cons (.int .i64) (tp 55 (List.cons (.obox 8) (List.cons (.int .i64) (List.cons (.str) (List.cons (.bool) (List.cons (.str) (List.cons (.str) (List.cons (.int .i64) (List.cons (.bool) (List.cons (.bool) [])))))))))))))),(.normal,(tp 4 (List.cons (.str) (tp 56 (List.cons (.obox 8) (List.cons (.int .i64) (List.cons (.str) (List.cons (.bool) (List.cons (.str) (List.cons (.str) (List.cons (.int .i64) (List.cons (.bool) (List.cons (.bool) [])))))))))))))]
def w9o:List Sh:=(List.cons (.ptr 0 0) (List.cons (.str) (List.cons (.top) (List.cons (.top) (List.cons (.str) (List.cons (.top) (List.cons (.str) (List.cons (.bool) (tp 8 (List.cons (.bool) (tp 44 (List.cons (.obox 8) (List.cons (.int .i64) (List.cons (.str) (List.cons (.bool) (List.cons (.str) (List.cons (.str) (List.cons (.int .i64) (List.cons (.bool) (List.cons (.bool) []))))))))))))))))))))
def w9p:List Sh:=(List.cons (.lst .str) (List.cons (.str) (tp 5 (List.cons (.int .i64) (List.cons (.int .i64) (tp 10 []))))))
def g3g:qb:=[((.exit 0),(tp 19 [])),(.ret,(tp 4 (List.cons (.int .i64) (tp 14 []))))]
def w9q:List Sh:=(List.cons (.ptr 0 0) (tp 6 (List.cons (.row 1) (tp 13 (List.cons (.lst .str) (List.cons (.int .i64) (List.cons (.int .i64) (tp 27 (List.cons (.obox 8) (List.cons (.int .i64) (List.cons (.str) (List.cons (.bool) (List.cons (.str) (List.cons (.str) (List.cons (.int .i64) (List.cons (.bool) (List.cons (.bool) (List.cons (.orow 9 .str) []))))))))))))))))))
def g3h:qb:=[((.exit 0),(tp 51 (List.cons (.obox 8) (List.cons (.int .i64) (List.cons (.str) (List.cons (.bool) (List.cons (.str) (List.cons (.str) (List.cons (.int .i64) (List.cons (.bool) (List.cons (.bool) []))))))))))),(.ret,(tp 4 (List.cons (.int .i64) (tp 46 (List.cons (.obox 8) (List.cons (.int .i64) (List.cons (.str) (List.cons (.bool) (List.cons (.str) (List.cons (.str) (List.cons (.int .i64) (List.cons (.bool) (List.cons (.bool) [])))))))))))))]
def w9r:List Sh:=(List.cons (.top) (List.cons (.ptr 0 0) (tp 5 (List.cons (.str) (List.cons (.top) (List.cons (.int .i64) (tp 32 (List.cons (.obox 8) (List.cons (.int .i64) (List.cons (.str) (List.cons (.bool) (List.cons (.str) (List.cons (.str) (List.cons (.int .i64) (List.cons (.bool) (List.cons (.bool) []))))))))))))))))
def g3i:qb:=[(.ret,(tp 6 (List.cons (.int .i64) (tp 35 (List.cons (.obox 8) (List.cons (.int .i64) (List.cons (.str) (List.cons (.bool) (List.cons (.str) (List.cons (.str) (List.cons (.int .i64) (List.cons (.bool) (List.cons (.bool) [])))))))))))))]
def g3j:qb:=[(.ret,[.tuple 2,.agg 8,.int .i64,.str,.bool,.str,.str,.int .i64,.bool,.bool,.int .i64])]
def x3k:List Sh:=[.agg 8,.int .i64,.str,.bool,.str,.str,.int .i64,.bool,.bool]
def w9s:List Sh:=(List.cons (.top) (List.cons (.ptr 0 0) (List.cons (.top) (List.cons (.str) (tp 47 (List.cons (.obox 8) (List.cons (.int .i64) (List.cons (.str) (List.cons (.bool) (List.cons (.str) (List.cons (.str) (List.cons (.int .i64) (List.cons (.bool) (List.cons (.bool) []))))))))))))))
def g3k:qb:=[(.normal,(tp 3 (List.cons (.str) (tp 47 []))))]
def w9t:List Sh:=(List.cons (.top) (List.cons (.ptr 0 0) (List.cons (.top) (List.cons (.str) (tp 4 (List.cons (.int .i64) (List.cons (.bool) (tp 41 (List.cons (.obox 8) (List.cons (.int .i64) (List.cons (.str) (List.cons (.bool) (List.cons (.str) (List.cons (.str) (List.cons (.int .i64) (List.cons (.bool) (List.cons (.bool) [])))))))))))))))))
def g3l:qb:=[(.ret,(List.cons (.top) (List.cons (.top) (List.cons (.str) (tp 48 []))))),(.normal,(tp 3 (List.cons (.str) (tp 47 []))))]
def w9u:List Sh:=[.agg 5,.lst zm,.lst zn,.lst zo,.opq 0,.opq 1,.agg 8,.int .i64,.str,.bool,.str,.str,.int .i64,.bool,.bool]
def w9v:List Sh:=(List.cons (.top) (List.cons (.top) (List.cons (.ptr 0 0) (List.cons (.ptr 1 0) (List.cons (.top) (List.cons (.bool) (tp 6 (List.cons (.int .i64) (List.cons (.bool) (tp 64 (List.cons (.obox 5) (List.cons (.lst zm) (List.cons (.lst zn) (List.cons (.lst zo) (List.cons (.opq 0) (List.cons (.opq 1) (List.cons (.obox 8) (List.cons (.int .i64) (List.cons (.str) (List.cons (.bool) (List.cons (.str) (List.cons (.str) (List.cons (.int .i64) (List.cons (.bool) (List.cons (.bool) [])))))))))))))))))))))))))
def g3m:qb:=[(.ret,(tp 4 (List.cons (.bool) (tp 73 [])))),(.normal,(tp 78 []))]
abbrev T97:=qa×qa×Unit->Option (qa×Bool×Unit)
def E97(f:T97):FEnt:=⟨zw,q4a,f⟩
def K97(f25:T25):=lk [(25,E25 f25)]
def F97(f25:T25):T97:=λ(x0,x1,_)=>bif decide ((↑x0.length:Int)<(↑x1.length:Int))then some ([],false,())else bif decide (0<=(↑x1.length:Int))&&decide ((↑x1.length:Int)<=(↑x0.length:Int))then(f25 (List.take (↑x1.length:Int).toNat x0,())).bind λv=>(f25 (x1,())).bind λv1=>bif !v.1==v1.1 then some ([],false,())else bif decide (0<=(↑x1.length:Int))&&decide ((↑x1.length:Int)<=(↑x0.length:Int))then some (List.drop (↑x1.length:Int).toNat x0,true,())else none else none
def C97:T97:=F97 C25
theorem b9x:FO 97 (E97 C97):=kb zw q4a K97 F97 C25 (kc f3z kn) func97
abbrev z8i:=qa×qa×qa×qa×qa×qa×qa×qa×qa×Int×Unit->Option (Unit⊕(Int×Unit))
def v3h(f:z8i):LEnt:=⟨w9g,g2x,f⟩
abbrev T61:=qa×Unit->Option (Int×Unit)
def E61(f:T61):FEnt:=⟨yh,jd,f⟩
def K61(f96:T96)(f97:T97):=lk [(96,E96 f96),(97,E97 f97)]
theorem g4c:zh prog (K61 C96 C97):=(kc f4e (kc b9x kn))
def z0a(f96:T96)(f97:T97):ym (qa×qa×qa×qa×qa×qa×qa×qa×qa×Int×Unit) (Unit⊕(Int×Unit)):=λ(x0,x1,x2,x3,x4,x5,x6,x7,x8,x9,_)=>bif decide (x9<8)then bif decide (x9=(↑0:Int))then(f97 (x0,x1,())).bind λv=>bif v.2.1 then bif v.1==[]then some (Sum.inr (Sum.inr (x9,())))else(f96 (v.1,[32],())).bind λv=>bif v.1 then some (Sum.inr (Sum.inr (x9,())))else some (Sum.inl (x0,x1,x2,x3,x4,x5,x6,x7,x8,IntKind.i64.wrap (x9+1),()))else some (Sum.inl (x0,x1,x2,x3,x4,x5,x6,x7,x8,IntKind.i64.wrap (x9+1),()))else bif decide (x9=(↑1:Int))then(f97 (x0,x2,())).bind λv=>bif v.2.1 then bif v.1==[]then some (Sum.inr (Sum.inr (x9,())))else(f96 (v.1,[32],())).bind λv=>bif v.1 then some (Sum.inr (Sum.inr (x9,())))else some (Sum.inl (x0,x1,x2,x3,x4,x5,x6,x7,x8,IntKind.i64.wrap (x9+1),()))else some (Sum.inl (x0,x1,x2,x3,x4,x5,x6,x7,x8,IntKind.i64.wrap (x9+1),()))else bif decide (x9=(↑2:Int))then(f97 (x0,x3,())).bind λv=>bif v.2.1 then bif v.1==[]then some (Sum.inr (Sum.inr (x9,())))else(f96 (v.1,[32],())).bind λv=>bif v.1 then some (Sum.inr (Sum.inr (x9,())))else some (Sum.inl (x0,x1,x2,x3,x4,x5,x6,x7,x8,IntKind.i64.wrap (x9+1),()))else some (Sum.inl (x0,x1,x2,x3,x4,x5,x6,x7,x8,IntKind.i64.wrap (x9+1),()))else bif decide (x9=(↑3:Int))then(f97 (x0,x4,())).bind λv=>bif v.2.1 then bif v.1==[]then some (Sum.inr (Sum.inr (x9,())))else(f96 (v.1,[32],())).bind λv=>bif v.1 then some (Sum.inr (Sum.inr (x9,())))else some (Sum.inl (x0,x1,x2,x3,x4,x5,x6,x7,x8,IntKind.i64.wrap (x9+1),()))else some (Sum.inl (x0,x1,x2,x3,x4,x5,x6,x7,x8,IntKind.i64.wrap (x9+1),()))else bif decide (x9=(↑4:Int))then(f97 (x0,x5,())).bind λv=>bif v.2.1 then bif v.1==[]then some (Sum.inr (Sum.inr (x9,())))else(f96 (v.1,[32],())).bind λv=>bif v.1 then some (Sum.inr (Sum.inr (x9,())))else some (Sum.inl (x0,x1,x2,x3,x4,x5,x6,x7,x8,IntKind.i64.wrap (x9+1),()))else some (Sum.inl (x0,x1,x2,x3,x4,x5,x6,x7,x8,IntKind.i64.wrap (x9+1),()))else bif decide (x9=(↑5:Int))then(f97 (x0,x6,())).bind λv=>bif v.2.1 then bif v.1==[]then some (Sum.inr (Sum.inr (x9,())))else(f96 (v.1,[32],())).bind λv=>bif v.1 then some (Sum.inr (Sum.inr (x9,())))else some (Sum.inl (x0,x1,x2,x3,x4,x5,x6,x7,x8,IntKind.i64.wrap (x9+1),()))else some (Sum.inl (x0,x1,x2,x3,x4,x5,x6,x7,x8,IntKind.i64.wrap (x9+1),()))else bif decide (x9=(↑6:Int))then(f97 (x0,x7,())).bind λv=>bif v.2.1 then bif v.1==[]then some (Sum.inr (Sum.inr (x9,())))else(f96 (v.1,[32],())).bind λv=>bif v.1 then some (Sum.inr (Sum.inr (x9,())))else some (Sum.inl (x0,x1,x2,x3,x4,x5,x6,x7,x8,IntKind.i64.wrap (x9+1),()))else some (Sum.inl (x0,x1,x2,x3,x4,x5,x6,x7,x8,IntKind.i64.wrap (x9+1),()))else bif decide (x9=(↑7:Int))then(f97 (x0,x8,())).bind λv=>bif v.2.1 then bif v.1==[]then some (Sum.inr (Sum.inr (x9,())))else(f96 (v.1,[32],())).bind λv=>bif v.1 then some (Sum.inr (Sum.inr (x9,())))else some (Sum.inl (x0,x1,x2,x3,x4,x5,x6,x7,x8,IntKind.i64.wrap (x9+1),()))else some (Sum.inl (x0,x1,x2,x3,x4,x5,x6,x7,x8,IntKind.i64.wrap (x9+1),()))else none else some (Sum.inr (Sum.inl ()))
def j9w:z8i:=qc (z0a C96 C97) qz
theorem f2w:jg 0 (qd (code Tryz.f61) [1,0,1,0,0]) (v3h j9w):=zl2 w9g g2x K61 z0a C96 C97 g4c
def N61(f61_l0:z8i):Ann:=(.seq .nil (.seq (.seq .nil (.blk (.loop (v3h f61_l0)))) .nil))
def F61(f96:T96)(f97:T97)(f61_l0:z8i):T61:=λ(x0,_)=>(f61_l0 (x0,zy.1,zy.2.1,zy.2.2.1,zy.2.2.2.1,zy.2.2.2.2.1,zy.2.2.2.2.2.1,zy.2.2.2.2.2.2.1,zy.2.2.2.2.2.2.2,0,())).bind λv=>Sum.elim (λv=>some (-1,())) (λv=>some (v.1,())) v
def C61:T61:=F61 C96 C97 j9w
theorem m1w:FO 61 (E61 C61):=q7w yh jd K61 N61 F61 C96 C97 j9w g4c func61 (And.intro f2w trivial)
abbrev T62:=Unit->Option (Unit)
def E62(f:T62):FEnt:=⟨Li7,g2y,f⟩
def F62:T62:=λ(_)=>some ()
def C62:T62:=F62
theorem m1x:FO 62 (E62 C62):=zq0 Li7 g2y yu F62 kn func62
abbrev x8d:=Int×Unit->Option (Bool×Unit)
def f5x(f:x8d):FEnt:=⟨q3n,qv,f⟩
def g6w:x8d:=λ(x0,_)=>bif decide (x0<=32)then some (true,())else some (decide (x0>126),())
def y0i:x8d:=g6w
theorem b5k:FO 104 (f5x y0i):=zq0 q3n qv yu g6w kn func104
abbrev q6g:=Bool×(qa×Int)×Unit->Option ((Int×Unit)⊕Unit)
def z3n(f:q6g):LEnt:=⟨w9i,g2z,f⟩
abbrev z0l:=qa×Bool×Unit->Option (Int×Unit)
def v2n(f:z0l):FEnt:=⟨w9h,jd,f⟩
def y5w(f104:x8d):=lk [(104,f5x f104)]
theorem y3d:zh prog (y5w y0i):=(kc b5k kn)
def j4k(f104:x8d):ym (Bool×(qa×Int)×Unit) ((Int×Unit)⊕Unit):=λ(x0,x1,_)=>bif decide (Int.toNat x1.2<List.length x1.1)then(f104 ((↑(yw x1.1 (Int.toNat x1.2)).1:Int),())).bind λv=>bif v.1==x0 then some (Sum.inr (Sum.inl ((↑(Int.toNat x1.2):Int),())))else some (Sum.inl (x0,(x1.1,(↑(Int.toNat x1.2+(yw x1.1 (Int.toNat x1.2)).2):Int)),()))else some (Sum.inr (Sum.inr ()))
def j4c:q6g:=qc (j4k y0i) qz
theorem v0t:jg 0 (qd (code f156) [1,0,1,0,0]) (z3n j4c):=zl1 w9i g2z y5w j4k y0i y3d
def g8v(f156v3_l0:q6g):Ann:=(.seq .nil (.seq (.seq .nil (.blk (.loop (z3n f156v3_l0)))) .nil))
def y5s(f104:x8d)(f156v3_l0:q6g):z0l:=λ(x0,x1,_)=>(f156v3_l0 (x1,(x0,(↑0:Int)),())).bind λv=>Sum.elim (λv=>some (v.1,())) (λv=>some (-1,())) v
def z5m:z0l:=y5s y0i j4c
theorem w4w:FO 156 (v2n z5m):=ke w9h jd y5w g8v y5s y0i j4c y3d func156 (And.intro v0t trivial)
abbrev z0h:=qa×Unit->Option (Int×Unit)
def v2k(f:z0h):FEnt:=⟨x3i,jd,f⟩
def g7q(f156v3:z0l):=lk [(156,v2n f156v3)]
def y5r(f156v3:z0l):z0h:=λ(x0,_)=>(f156v3 (x0,true,())).bind λv=>some (v.1,())
def z5j:z0h:=y5r z5m
theorem w4u:FO 123 (v2k z5j):=kb x3i jd g7q y5r z5m (kc w4w kn) func123
abbrev y1w:=qa×Unit->Option (Bool×Unit)
def w6d(f:y1w):FEnt:=⟨x3i,qv,f⟩
def b0k(f123v3:z0h):=lk [(123,v2k f123v3)]
def v4j(f123v3:z0h):y1w:=λ(x0,_)=>(f123v3 (x0,())).bind λv=>some (decide (v.1>=0),())
def y0z:y1w:=v4j z5j
theorem f4c:FO 84 (w6d y0z):=kb x3i qv b0k v4j z5j (kc w4u kn) func84
abbrev T66:=qa×Unit->Option (Bool×Unit)
def E66(f:T66):FEnt:=⟨yh,qv,f⟩
def K66(f84v3:y1w):=lk [(84,w6d f84v3)]
def F66(f84v3:y1w):T66:=λ(x0,_)=>bif !x0==[]then bif decide ((↑x0.length:Int)<=255)then(f84v3 (x0,())).bind λv=>some (bif v.1 then false else true,())else some (false,())else some (false,())
def C66:T66:=F66 y0z
theorem b9u:FO 66 (E66 C66):=kb yh qv K66 F66 y0z (kc f4c kn) func66
abbrev T98:=qu×qw×qx×qa×Int×qa×Bool×qa×qa×Int×Bool×Bool×Unit->Option (Int×Int×qa×Bool×qa×qa×Int×Bool×Bool×Unit)
def E98(f:T98):FEnt:=⟨q7m,q3e,f⟩
def K98(f132:j1a)(f66:T66):=lk [(132,k2m f132),(66,E66 f66)]
def F98(f132:j1a)(f66:T66):T98:=λ(x0,x1,x2,x3,x4,x5,x6,x7,x8,x9,x10,x11,_)=>(f132 (x3,[32],())).bind λv=>bif !v.2.1 then some (501,x4,x5,x6,x7,x8,x9,x10,x11,())else(f66 (v.1,())).bind λv1=>bif !v1.1 then some (501,x4,x5,x6,x7,x8,x9,x10,x11,())else some (0,x4,v.1,x6,x7,x8,x9,x10,x11,())
theorem h98(f132:j1a)(f66:T66):zz (K98 f132 f66) 1 f98 .nil q7m q3e (F98 f132 f66):=λv=>by kernel_rfl
def C98:T98:=F98 q3m C66
theorem m2n:FO 98 (E98 C98) :=
 q0 (kc k0e (kc b9u kn)) func98 (h98 q3m C66)
abbrev q6i:=qa×Bool×Bool×Int×Int×Bool×Unit->Option ((qa×Bool×Bool×Int×Unit)⊕(Int×Unit))
def y9u(f:q6i):LEnt:=⟨w9j,g3a,f⟩
abbrev j8q:=qa×Bool×Bool×Int×Unit->Option (Unit⊕(Int×Unit))
def y9v(f:j8q):LEnt:=⟨w9k,g3b,f⟩
abbrev x8k:=qa×Unit->Option (Int×Unit)
def f6v(f:x8k):FEnt:=⟨yh,jd,f⟩
def z6s:q6i:=λ(x0,x1,x2,x3,x4,x5,_)=>bif x5 then some (Sum.inl (x0,x1,x2,IntKind.i64.wrap (x3+1),()))else bif x1 then some (Sum.inl (x0,x1,x2,x3,()))else bif x4==91 then some (Sum.inl (x0,x1,true,x3,()))else bif x4==62 then some (Sum.inr (IntKind.i64.wrap (x3+1),()))else some (Sum.inl (x0,x1,x2,x3,()))
def kq:q6i:=z6s
theorem w1v:zc 0 (qd (code f167) [1,1,0,1,0,0,1,0,0,1,0,1,1,1,1,1]) (y9u kq):=zc0 w9j g3a yu z6s kn
def k7c(f167_c0:q6i):Ann:=(.seq .nil (.seq (.blk (.seq .nil (.blk (.seq .nil (.cond .nil (.seq .nil (.cond .nil (.cut .nil (y9u f167_c0))))))))) .nil))
def vr(f167_c0:q6i):ym (qa×Bool×Bool×Int×Unit) (Unit⊕(Int×Unit)):=λ(x0,x1,x2,x3,_)=>bif decide (x3<(↑x0.length:Int))then bif decide (0<=x3)&&decide (x3<(↑x0.length:Int))then bif x2 then some (Sum.inl (x0,x1,bif(↑(x0.getD x3.toNat 0).toNat:Int)==93 then false else true,IntKind.i64.wrap (x3+1),()))else bif(↑(x0.getD x3.toNat 0).toNat:Int)==34 then some (Sum.inl (x0,bif x1 then false else true,x2,IntKind.i64.wrap (x3+1),()))else bif x1 then(f167_c0 (x0,x1,x2,x3,(↑(x0.getD x3.toNat 0).toNat:Int),(↑(x0.getD x3.toNat 0).toNat:Int)==92,())).bind λv=>Sum.elim (λv=>some (Sum.inl (v.1,v.2.1,v.2.2.1,IntKind.i64.wrap (v.2.2.2.1+1),()))) (λv=>some (Sum.inr (Sum.inr (v.1,())))) v else(f167_c0 (x0,x1,x2,x3,(↑(x0.getD x3.toNat 0).toNat:Int),false,())).bind λv=>Sum.elim (λv=>some (Sum.inl (v.1,v.2.1,v.2.2.1,IntKind.i64.wrap (v.2.2.2.1+1),()))) (λv=>some (Sum.inr (Sum.inr (v.1,())))) v else none else some (Sum.inr (Sum.inl ()))
theorem k9n(f167_c0:q6i):AqL yu 0 (qd (code f167) [1,1,0,1,0,0]) (k7c f167_c0) w9k g3b (vr f167_c0):=λv=>by kernel_rfl
def q9o:j8q:=qc (vr kq) qz
theorem w1w:jg 0 (qd (code f167) [1,1,0,1,0,0]) (y9v q9o) :=
 frm kn (And.intro w1v trivial) (k9n kq)
def d4e(f167_l0:j8q):Ann:=(.seq .nil (.seq .nil (.seq (.seq .nil (.blk (.loop (y9v f167_l0)))) .nil)))
def k3e(f167_l0:j8q):x8k:=λ(x0,_)=>(f167_l0 (x0,false,false,0,())).bind λv=>Sum.elim (λv=>some (0,())) (λv=>some (v.1,())) v
def v1s:x8k:=k3e q9o
theorem b6i:FO 167 (f6v v1s):=q1x yh jd yu d4e k3e q9o kn func167 (And.intro w1w trivial)
abbrev z2v:=qu×qw×qx×qa×qa×Int×qa×Bool×qa×qa×Int×Bool×Bool×Unit->Option (qa×qa×Int×Int×qa×Bool×qa×qa×Int×Bool×Bool×Unit)
def g5x(f:z2v):FEnt:=⟨w9l,g3c,f⟩
def d1f(f167:x8k)(f40:T40)(f97:T97):=lk [(167,f6v f167),(40,E40 f40),(97,E97 f97)]
def v3v(f167:x8k)(f40:T40)(f97:T97):z2v:=λ(x0,x1,x2,x3,x4,x5,x6,x7,x8,x9,x10,x11,x12,_)=>(f97 (x3,x4,())).bind λv=>(f167 (v.1,())).bind λv1=>bif !v.2.1 then some ([],[],501,x5,x6,x7,x8,x9,x10,x11,x12,())else bif v1.1==0 then some ([],[],501,x5,x6,x7,x8,x9,x10,x11,x12,())else bif decide (0<=v1.1)&&decide (v1.1<=(↑(List.length v.1):Int))then(f40 (x0,x1,x2,List.take (Int.toNat v1.1) v.1,())).bind λv2=>bif v2.2.2.2.1 != 0 then some ([],[],553,x5,x6,x7,x8,x9,x10,x11,x12,())else bif v2.1 then bif x5==3 then some ([],[],553,x5,x6,x7,x8,x9,x10,x11,x12,())else bif decide (0<=v1.1)&&decide (v1.1<=(↑(List.length v.1):Int))then bif decide (0<=v1.1)&&decide (v1.1<=(↑(List.length v.1):Int))then some (List.take (Int.toNat v1.1) v.1,List.drop (Int.toNat v1.1) v.1,0,x5,x6,v2.1,v2.2.1,v2.2.2.1,x10,x11,x12,())else none else none else bif decide (0<=v1.1)&&decide (v1.1<=(↑(List.length v.1):Int))then bif decide (0<=v1.1)&&decide (v1.1<=(↑(List.length v.1):Int))then some (List.take (Int.toNat v1.1) v.1,List.drop (Int.toNat v1.1) v.1,0,x5,x6,v2.1,v2.2.1,v2.2.2.1,x10,x11,x12,())else none else none else none
theorem y2x(f167:x8k)(f40:T40)(f97:T97):zz (d1f f167 f40 f97) 1 f133 .nil w9l g3c (v3v f167 f40 f97):=λv=>by kernel_rfl
def q9d:z2v:=v3v v1s C40 C97
theorem g4q:FO 133 (g5x q9d) :=
 q0 (kc b6i (kc m1p (kc b9x kn))) func133 (y2x v1s C40 C97)
abbrev j8t:=qa×Int×(qa×Int)×Unit->Option ((Int×Int×Unit)⊕(qa×Int×Unit))
def x0e(f:j8t):LEnt:=⟨w9m,g3e,f⟩
abbrev z7y:=qa×Unit->Option (Int×Int×Unit)
def f7f(f:z7y):FEnt:=⟨yh,g3d,f⟩
def q5m:ym (qa×Int×(qa×Int)×Unit) ((Int×Int×Unit)⊕(qa×Int×Unit)):=λ(x0,x1,x2,_)=>bif decide (Int.toNat x2.2<List.length x2.1)then bif decide ((↑(yw x2.1 (Int.toNat x2.2)).1:Int)<48)then some (Sum.inr (Sum.inl (0,501,())))else bif decide ((↑(yw x2.1 (Int.toNat x2.2)).1:Int)>57)then some (Sum.inr (Sum.inl (0,501,())))else some (Sum.inl (x0,IntKind.i64.wrap (IntKind.i64.wrap (10*x1)+IntKind.i64.wrap (IntKind.i32.wrap ((↑(yw x2.1 (Int.toNat x2.2)).1:Int)-48))),(x2.1,(↑(Int.toNat x2.2+(yw x2.1 (Int.toNat x2.2)).2):Int)),()))else some (Sum.inr (Sum.inr (x0,x1,())))
def q5b:j8t:=qc (q5m) qz
theorem w2f:jg 0 (qd (code f204) [1,1,0,1,0,0]) (x0e q5b):=zl0 w9m g3e yu q5m kn
def d4l(f204_l0:j8t):Ann:=(.seq .nil (.seq .nil (.seq (.seq .nil (.blk (.loop (x0e f204_l0)))) .nil)))
def v4e(f204_l0:j8t):z7y:=λ(x0,_)=>(f204_l0 (x0,0,(x0,(↑0:Int)),())).bind λv=>Sum.elim (λv=>some (v.1,v.2.1,())) (λv=>bif v.1==[]then some (0,501,())else bif decide ((↑(List.length v.1):Int)>8)then some (0,501,())else bif decide (v.2.1>16777216)then some (0,552,())else some (v.2.1,0,())) v
def q7j:z7y:=v4e q5b
theorem b6t:FO 204 (f7f q7j):=q1x yh g3d yu d4l v4e q5b kn func204 (And.intro w2f trivial)
abbrev q6j:=qa×qa×qa×Bool×Int×qa×Bool×qa×qa×Int×Bool×Bool×Unit->Option ((qa×Int×Int×qa×Bool×qa×qa×Int×Bool×Bool×Unit)⊕(qa×Int×qa×Bool×qa×qa×Int×Bool×Bool×Unit))
def y9w(f:q6j):LEnt:=⟨w9n,x3y,f⟩
abbrev q6k:=qa×qa×qa×Bool×Bool×Int×qa×Bool×qa×qa×Int×Bool×Bool×Unit->Option ((qa×Int×Int×qa×Bool×qa×qa×Int×Bool×Bool×Unit)⊕(qa×Int×qa×Bool×qa×qa×Int×Bool×Bool×Unit))
def y9x(f:q6k):LEnt:=⟨w9o,x3y,f⟩
abbrev y1l:=qa×Int×qa×Bool×qa×qa×Int×Bool×Bool×Unit->Option (qa×Int×Int×qa×Bool×qa×qa×Int×Bool×Bool×Unit)
def f6w(f:y1l):FEnt:=⟨x3j,g3f,f⟩
def k5u(f129:z7w)(f204:z7y)(f25:T25):=lk [(129,f6i f129),(204,f7f f204),(25,E25 f25)]
theorem y7j:zh prog (k5u q1c q7j C25):=(kc g4o (kc b6t (kc f3z kn)))
def j0o(f129:z7w)(f204:z7y)(f25:T25):q6j:=λ(x0,x1,x2,x3,x4,x5,x6,x7,x8,x9,x10,x11,_)=>bif x3 then(f204 (x2,())).bind λv=>some (Sum.inl (x1,v.2.1,x4,x5,x6,x7,x8,v.1,x10,x11,()))else bif x0==[98,111,100,121,61,56,98,105,116,109,105,109,101]then some (Sum.inr (x1,x4,x5,x6,x7,x8,x9,true,x11,()))else bif x0==[115,109,116,112,117,116,102,56]then some (Sum.inr (x1,x4,x5,x6,x7,x8,x9,x10,true,()))else bif !x0==[98,111,100,121,61,55,98,105,116]then some (Sum.inl (x1,501,x4,x5,x6,x7,x8,x9,x10,x11,()))else some (Sum.inr (x1,x4,x5,x6,x7,x8,x9,x10,x11,()))
def q2c:q6j:=j0o q1c q7j C25
theorem w1x:zc 1 (qd (code f168) [1,1,1,0,0,1,1,1]) (y9w q2c):=zc3 w9n x3y k5u j0o q1c q7j C25 y7j
def k7d(f168_c0:q6j):Ann:=(.cond .nil (.cut .nil (y9w f168_c0)))
def j0p(f129:z7w)(f204:z7y)(f25:T25)(f168_c0:q6j):q6k:=λ(x0,x1,x2,x3,x4,x5,x6,x7,x8,x9,x10,x11,x12,_)=>bif x4 then some (Sum.inl (x1,555,x5,x6,x7,x8,x9,x10,x11,x12,()))else bif x1==[115,105,122,101]then(f168_c0 (x0,x1,x2,x3,x5,x6,x7,x8,x9,x10,x11,x12,())).bind λv=>Sum.elim (λv=>some (Sum.inl (v.1,v.2.1,v.2.2.1,v.2.2.2.1,v.2.2.2.2.1,v.2.2.2.2.2.1,v.2.2.2.2.2.2.1,v.2.2.2.2.2.2.2.1,v.2.2.2.2.2.2.2.2.1,v.2.2.2.2.2.2.2.2.2.1,()))) (λv=>some (Sum.inr (v.1,v.2.1,v.2.2.1,v.2.2.2.1,v.2.2.2.2.1,v.2.2.2.2.2.1,v.2.2.2.2.2.2.1,v.2.2.2.2.2.2.2.1,v.2.2.2.2.2.2.2.2.1,()))) v else(f168_c0 (x0,x1,x2,false,x5,x6,x7,x8,x9,x10,x11,x12,())).bind λv=>Sum.elim (λv=>some (Sum.inl (v.1,v.2.1,v.2.2.1,v.2.2.2.1,v.2.2.2.2.1,v.2.2.2.2.2.1,v.2.2.2.2.2.2.1,v.2.2.2.2.2.2.2.1,v.2.2.2.2.2.2.2.2.1,v.2.2.2.2.2.2.2.2.2.1,()))) (λv=>some (Sum.inr (v.1,v.2.1,v.2.2.1,v.2.2.2.1,v.2.2.2.2.1,v.2.2.2.2.2.1,v.2.2.2.2.2.2.1,v.2.2.2.2.2.2.2.1,v.2.2.2.2.2.2.2.2.1,()))) v
theorem k9o(f129:z7w)(f204:z7y)(f25:T25)(f168_c0:q6j):AqC (k5u f129 f204 f25) 1 (qd (code f168) [1,1,1,0,0,1]) (k7d f168_c0) w9o x3y (j0p f129 f204 f25 f168_c0):=λv=>by kernel_rfl
def kr:q6k:=j0p q1c q7j C25 q2c
theorem w1y:zc 1 (qd (code f168) [1,1,1,0,0,1]) (y9x kr) :=
 frd y7j (And.intro w1x trivial) (k9o q1c q7j C25 q2c)
def d4f(f168_c1:q6k):Ann:=(.seq .nil (.seq .nil (.seq .nil (.seq (.blk (.cut .nil (y9x f168_c1))) .nil))))
def z6t(f129:z7w)(f204:z7y)(f25:T25)(f168_c1:q6k):y1l:=λ(x0,x1,x2,x3,x4,x5,x6,x7,x8,_)=>(f25 (x0,())).bind λv=>(f129 (v.1,[61],())).bind λv1=>bif !v1.1==[115,105,122,101]then bif !v1.1==[98,111,100,121]then(f168_c1 (v.1,v1.1,v1.2.1,v1.2.2.1,!v1.1==[115,109,116,112,117,116,102,56],x1,x2,x3,x4,x5,x6,x7,x8,())).bind λv=>Sum.elim (λv=>some (v.1,v.2.1,v.2.2.1,v.2.2.2.1,v.2.2.2.2.1,v.2.2.2.2.2.1,v.2.2.2.2.2.2.1,v.2.2.2.2.2.2.2.1,v.2.2.2.2.2.2.2.2.1,v.2.2.2.2.2.2.2.2.2.1,())) (λv=>some (v.1,0,v.2.1,v.2.2.1,v.2.2.2.1,v.2.2.2.2.1,v.2.2.2.2.2.1,v.2.2.2.2.2.2.1,v.2.2.2.2.2.2.2.1,v.2.2.2.2.2.2.2.2.1,())) v else(f168_c1 (v.1,v1.1,v1.2.1,v1.2.2.1,false,x1,x2,x3,x4,x5,x6,x7,x8,())).bind λv=>Sum.elim (λv=>some (v.1,v.2.1,v.2.2.1,v.2.2.2.1,v.2.2.2.2.1,v.2.2.2.2.2.1,v.2.2.2.2.2.2.1,v.2.2.2.2.2.2.2.1,v.2.2.2.2.2.2.2.2.1,v.2.2.2.2.2.2.2.2.2.1,())) (λv=>some (v.1,0,v.2.1,v.2.2.1,v.2.2.2.1,v.2.2.2.2.1,v.2.2.2.2.2.1,v.2.2.2.2.2.2.1,v.2.2.2.2.2.2.2.1,v.2.2.2.2.2.2.2.2.1,())) v else(f168_c1 (v.1,v1.1,v1.2.1,v1.2.2.1,false,x1,x2,x3,x4,x5,x6,x7,x8,())).bind λv=>Sum.elim (λv=>some (v.1,v.2.1,v.2.2.1,v.2.2.2.1,v.2.2.2.2.1,v.2.2.2.2.2.1,v.2.2.2.2.2.2.1,v.2.2.2.2.2.2.2.1,v.2.2.2.2.2.2.2.2.1,v.2.2.2.2.2.2.2.2.2.1,())) (λv=>some (v.1,0,v.2.1,v.2.2.1,v.2.2.2.1,v.2.2.2.2.1,v.2.2.2.2.2.1,v.2.2.2.2.2.2.1,v.2.2.2.2.2.2.2.1,v.2.2.2.2.2.2.2.2.1,())) v
theorem d9q(f129:z7w)(f204:z7y)(f25:T25)(f168_c1:q6k):zz (k5u f129 f204 f25) 1 f168 (d4f f168_c1) x3j g3f (z6t f129 f204 f25 f168_c1):=λv=>by kernel_rfl
def q8a:y1l:=z6t q1c q7j C25 kr
theorem b6j:FO 168 (f6w q8a) :=
 qo y7j func168 (And.intro w1y trivial) (d9q q1c q7j C25 kr)
abbrev z8m:=List (qa)×qa×Int×Int×Unit->Option (Unit⊕(Int×Unit))
def v3q(f:z8m):LEnt:=⟨w9p,g3g,f⟩
abbrev T94:=List (qa)×qa×Unit->Option (Int×Unit)
def E94(f:T94):FEnt:=⟨v4o,jd,f⟩
def z7u:ym (List (qa)×qa×Int×Int×Unit) (Unit⊕(Int×Unit)):=λ(x0,x1,x2,x3,_)=>bif decide (x3<x2)then bif decide (0<=x3)&&decide (x3<(↑x0.length:Int))then bif x1==x0.getD x3.toNat []then some (Sum.inr (Sum.inr (x3,())))else some (Sum.inl (x0,x1,x2,IntKind.i64.wrap (x3+1),()))else none else some (Sum.inr (Sum.inl ()))
def y5q:z8m:=qc (z7u) qz
theorem f3f:jg 0 (qd (code f94) [1,0,1,0,0]) (v3q y5q):=zl0 w9p g3g yu z7u kn
def N94(f94_l0:z8m):Ann:=(.seq .nil (.seq (.seq .nil (.blk (.loop (v3q f94_l0)))) .nil))
def F94(f94_l0:z8m):T94:=λ(x0,x1,_)=>(f94_l0 (x0,x1,(↑x0.length:Int),0,())).bind λv=>Sum.elim (λv=>some (-1,())) (λv=>some (v.1,())) v
def C94:T94:=F94 y5q
theorem m2m:FO 94 (E94 C94):=q1x v4o jd yu N94 F94 y5q kn func94 (And.intro f3f trivial)
abbrev T93:=List (qa)×qa×Unit->Option (Bool×Unit)
def E93(f:T93):FEnt:=⟨v4o,qv,f⟩
def K93(f94:T94):=lk [(94,E94 f94)]
def F93(f94:T94):T93:=λ(x0,x1,_)=>(f94 (x0,x1,())).bind λv=>some (decide (v.1>=0),())
def C93:T93:=F93 C94
theorem m2l:FO 93 (E93 C93):=kb v4o qv K93 F93 C94 (kc m2m kn) func93
abbrev j1b:=List (qa)×Int×Int×Int×qa×Bool×qa×qa×Int×Bool×Bool×List (qa)×Unit->Option ((Int×qa×Bool×qa×qa×Int×Bool×Bool×Unit)⊕(Int×Int×qa×Bool×qa×qa×Int×Bool×Bool×Unit))
def y9b(f:j1b):LEnt:=⟨w9q,g3h,f⟩
abbrev y6c:=qa×Int×qa×Bool×qa×qa×Int×Bool×Bool×Unit->Option (Int×Int×qa×Bool×qa×qa×Int×Bool×Bool×Unit)
def f6j(f:y6c):FEnt:=⟨x3j,q3e,f⟩
def g7r(f125:z0i)(f132:j1a)(f168:y1l)(f93:T93):=lk [(125,g5v f125),(132,k2m f132),(168,f6w f168),(93,E93 f93)]
theorem v8g:zh prog (g7r q7i q3m q8a C93):=(kc g4n (kc k0e (kc b6j (kc m2l kn))))
def q5h(f125:z0i)(f132:j1a)(f168:y1l)(f93:T93):ym (List (qa)×Int×Int×Int×qa×Bool×qa×qa×Int×Bool×Bool×List (qa)×Unit) ((Int×qa×Bool×qa×qa×Int×Bool×Bool×Unit)⊕(Int×Int×qa×Bool×qa×qa×Int×Bool×Bool×Unit)):=λ(x0,x1,x2,x3,x4,x5,x6,x7,x8,x9,x10,x11,_)=>bif decide (x2<x1)then bif decide (0<=x2)&&decide (x2<(↑x0.length:Int))then(f168 (x0.getD x2.toNat [],x3,x4,x5,x6,x7,x8,x9,x10,())).bind λv=>(f93 (x11,v.1,())).bind λv1=>bif v1.1 then some (Sum.inr (Sum.inr (501,x3,x4,x5,x6,x7,x8,x9,x10,())))else bif v.2.1 != 0 then some (Sum.inr (Sum.inr (v.2.1,x3,x4,x5,x6,x7,x8,x9,x10,())))else bif decide (x11.length+[v.1].length<=140737488355328/16)then some (Sum.inl (x0,x1,IntKind.i64.wrap (x2+1),v.2.2.1,v.2.2.2.1,v.2.2.2.2.1,v.2.2.2.2.2.1,v.2.2.2.2.2.2.1,v.2.2.2.2.2.2.2.1,v.2.2.2.2.2.2.2.2.1,v.2.2.2.2.2.2.2.2.2.1,x11++[v.1],()))else none else none else some (Sum.inr (Sum.inl (x3,x4,x5,x6,x7,x8,x9,x10,())))
theorem k9c(f125:z0i)(f132:j1a)(f168:y1l)(f93:T93):AqL (g7r f125 f132 f168 f93) 1 (qd (code f134) [1,1,1,1,0,1,0,0]) .nil w9q g3h (q5h f125 f132 f168 f93):=λv=>by kernel_rfl
def q9e:j1b:=qc (q5h q7i q3m q8a C93) qz
theorem w1c:jg 1 (qd (code f134) [1,1,1,1,0,1,0,0]) (y9b q9e) :=
 frl v8g (k9c q7i q3m q8a C93)
def d3t(f134_l0:j1b):Ann:=(.seq .nil (.seq .nil (.seq .nil (.seq .nil (.seq (.seq .nil (.blk (.loop (y9b f134_l0)))) .nil)))))
def v3w(f125:z0i)(f132:j1a)(f168:y1l)(f93:T93)(f134_l0:j1b):y6c:=λ(x0,x1,x2,x3,x4,x5,x6,x7,x8,_)=>(f132 (x0,[32],())).bind λv=>bif !v.2.1 then some (501,x1,x2,x3,x4,x5,x6,x7,x8,())else(f125 (v.1,[32],())).bind λv=>(f134_l0 (v.1,(↑(List.length v.1):Int),0,x1,x2,x3,x4,x5,x6,x7,x8,[],())).bind λv=>Sum.elim (λv=>some (0,v.1,v.2.1,v.2.2.1,v.2.2.2.1,v.2.2.2.2.1,v.2.2.2.2.2.1,v.2.2.2.2.2.2.1,v.2.2.2.2.2.2.2.1,())) (λv=>some (v.1,v.2.1,v.2.2.1,v.2.2.2.1,v.2.2.2.2.1,v.2.2.2.2.2.1,v.2.2.2.2.2.2.1,v.2.2.2.2.2.2.2.1,v.2.2.2.2.2.2.2.2.1,())) v
theorem d9d(f125:z0i)(f132:j1a)(f168:y1l)(f93:T93)(f134_l0:j1b):zz (g7r f125 f132 f168 f93) 1 f134 (d3t f134_l0) x3j q3e (v3w f125 f132 f168 f93 f134_l0):=λv=>by kernel_rfl
def j3z:y6c:=v3w q7i q3m q8a C93 q9e
theorem b5v:FO 134 (f6j j3z) :=
 qo v8g func134 (And.intro w1c trivial) (d9d q7i q3m q8a C93 q9e)
abbrev j5a:=qa×Int×Int×qa×Bool×qa×qa×Int×Bool×Bool×Unit->Option (Int×Int×qa×Bool×qa×qa×Int×Bool×Bool×Unit)
def v3r(f:j5a):LEnt:=⟨w9r,g3i,f⟩
abbrev T99:=qu×qw×qx×qa×Int×qa×Bool×qa×qa×Int×Bool×Bool×Unit->Option (Int×Int×qa×Bool×qa×qa×Int×Bool×Bool×Unit)
def E99(f:T99):FEnt:=⟨q7m,q3e,f⟩
def K99(f133:z2v)(f134:y6c)(f21:T21):=lk [(133,g5x f133),(134,f6j f134),(21,E21 f21)]
theorem g4g:zh prog (K99 q9d j3z C21):=(kc g4q (kc b5v (kc k0j kn)))
def z0c(f133:z2v)(f134:y6c)(f21:T21):j5a:=λ(x0,x1,x2,x3,x4,x5,x6,x7,x8,x9,_)=>bif x1==0 then bif !x9 then(f21 (x0,())).bind λv=>bif decide (v.1>=0)then some (553,x2,x3,x4,x5,x6,x7,x8,x9,())else some (x1,x2,x3,x4,x5,x6,x7,x8,x9,())else some (x1,x2,x3,x4,x5,x6,x7,x8,x9,())else some (x1,x2,x3,x4,x5,x6,x7,x8,x9,())
def q8f:j5a:=z0c q9d j3z C21
theorem f3g:zc 1 (qd (code f99) [1,1,1]) (v3r q8f):=zc3 w9r g3i K99 z0c q9d j3z C21 g4g
def N99(f99_c0:j5a):Ann:=(.seq .nil (.seq .nil (.cut .nil (v3r f99_c0))))
def F99(f133:z2v)(f134:y6c)(f21:T21)(f99_c0:j5a):T99:=λ(x0,x1,x2,x3,x4,x5,x6,x7,x8,x9,x10,x11,_)=>(f133 (x0,x1,x2,x3,[32,70,82,79,77,58],x4,x5,x6,x7,x8,x9,x10,x11,())).bind λv=>bif v.2.2.1==0 then bif !v.2.1==[]then(f134 (v.2.1,v.2.2.2.1,v.2.2.2.2.1,v.2.2.2.2.2.1,v.2.2.2.2.2.2.1,v.2.2.2.2.2.2.2.1,v.2.2.2.2.2.2.2.2.1,v.2.2.2.2.2.2.2.2.2.1,v.2.2.2.2.2.2.2.2.2.2.1,())).bind λv1=>(f99_c0 (v.1,v1.1,v1.2.1,v1.2.2.1,v1.2.2.2.1,v1.2.2.2.2.1,v1.2.2.2.2.2.1,v1.2.2.2.2.2.2.1,v1.2.2.2.2.2.2.2.1,v1.2.2.2.2.2.2.2.2.1,())).bind λv=>some (v.1,v.2.1,v.2.2.1,v.2.2.2.1,v.2.2.2.2.1,v.2.2.2.2.2.1,v.2.2.2.2.2.2.1,v.2.2.2.2.2.2.2.1,v.2.2.2.2.2.2.2.2.1,())else(f99_c0 (v.1,v.2.2.1,v.2.2.2.1,v.2.2.2.2.1,v.2.2.2.2.2.1,v.2.2.2.2.2.2.1,v.2.2.2.2.2.2.2.1,v.2.2.2.2.2.2.2.2.1,v.2.2.2.2.2.2.2.2.2.1,v.2.2.2.2.2.2.2.2.2.2.1,())).bind λv=>some (v.1,v.2.1,v.2.2.1,v.2.2.2.1,v.2.2.2.2.1,v.2.2.2.2.2.1,v.2.2.2.2.2.2.1,v.2.2.2.2.2.2.2.1,v.2.2.2.2.2.2.2.2.1,())else(f99_c0 (v.1,v.2.2.1,v.2.2.2.1,v.2.2.2.2.1,v.2.2.2.2.2.1,v.2.2.2.2.2.2.1,v.2.2.2.2.2.2.2.1,v.2.2.2.2.2.2.2.2.1,v.2.2.2.2.2.2.2.2.2.1,v.2.2.2.2.2.2.2.2.2.2.1,())).bind λv=>some (v.1,v.2.1,v.2.2.1,v.2.2.2.1,v.2.2.2.2.1,v.2.2.2.2.2.1,v.2.2.2.2.2.2.1,v.2.2.2.2.2.2.2.1,v.2.2.2.2.2.2.2.2.1,())
theorem h99(f133:z2v)(f134:y6c)(f21:T21)(f99_c0:j5a):zz (K99 f133 f134 f21) 1 f99 (N99 f99_c0) q7m q3e (F99 f133 f134 f21 f99_c0):=λv=>by kernel_rfl
def C99:T99:=F99 q9d j3z C21 q8f
theorem m2o:FO 99 (E99 C99) :=
 qo g4g func99 (And.intro f3g trivial) (h99 q9d j3z C21 q8f)
abbrev x8a:=qu×qw×qx×qa×Int×qa×Bool×qa×qa×Int×Bool×Bool×Unit->Option (Int×Int×qa×Bool×qa×qa×Int×Bool×Bool×Unit)
def f5u(f:x8a):FEnt:=⟨q7m,q3e,f⟩
def d0x(f133:z2v):=lk [(133,g5x f133)]
def v3s(f133:z2v):x8a:=λ(x0,x1,x2,x3,x4,x5,x6,x7,x8,x9,x10,x11,_)=>(f133 (x0,x1,x2,x3,[32,84,79,58],x4,x5,x6,x7,x8,x9,x10,x11,())).bind λv=>bif v.2.2.1==0 then bif !v.2.1==[]then some (555,v.2.2.2.1,v.2.2.2.2.1,v.2.2.2.2.2.1,v.2.2.2.2.2.2.1,v.2.2.2.2.2.2.2.1,v.2.2.2.2.2.2.2.2.1,v.2.2.2.2.2.2.2.2.2.1,v.2.2.2.2.2.2.2.2.2.2.1,())else some (v.2.2.1,v.2.2.2.1,v.2.2.2.2.1,v.2.2.2.2.2.1,v.2.2.2.2.2.2.1,v.2.2.2.2.2.2.2.1,v.2.2.2.2.2.2.2.2.1,v.2.2.2.2.2.2.2.2.2.1,v.2.2.2.2.2.2.2.2.2.2.1,())else some (v.2.2.1,v.2.2.2.1,v.2.2.2.2.1,v.2.2.2.2.2.1,v.2.2.2.2.2.2.1,v.2.2.2.2.2.2.2.1,v.2.2.2.2.2.2.2.2.1,v.2.2.2.2.2.2.2.2.2.1,v.2.2.2.2.2.2.2.2.2.2.1,())
theorem d8v(f133:z2v):zz (d0x f133) 1 f100 .nil q7m q3e (v3s f133):=λv=>by kernel_rfl
def y0h:x8a:=v3s q9d
theorem b5h:FO 100 (f5u y0h) :=
 q0 (kc g4q kn) func100 (d8v q9d)
abbrev x8b:=qu×qw×qx×qa×Int×qa×Bool×qa×qa×Int×Bool×Bool×Unit->Option (Int×Int×qa×Bool×qa×qa×Int×Bool×Bool×Unit)
def f5v(f:x8b):FEnt:=⟨q7m,q3e,f⟩
def g6u:x8b:=λ(x0,x1,x2,x3,x4,x5,x6,x7,x8,x9,x10,x11,_)=>bif !x3==[]then some (501,x4,x5,x6,x7,x8,x9,x10,x11,())else some (0,x4,x5,x6,x7,x8,x9,x10,x11,())
theorem d8w:zz yu 1 f101 .nil q7m q3e (g6u):=λv=>by kernel_rfl
def z5g:x8b:=g6u
theorem b5i:FO 101 (f5v z5g) :=
 q0 kn func101 (d8w)
abbrev x8c:=qu×qw×qx×qa×Int×qa×Bool×qa×qa×Int×Bool×Bool×Unit->Option (Int×Int×qa×Bool×qa×qa×Int×Bool×Bool×Unit)
def f5w(f:x8c):FEnt:=⟨q7m,q3e,f⟩
def g6v:x8c:=λ(x0,x1,x2,x3,x4,x5,x6,x7,x8,x9,x10,x11,_)=>some (0,x4,x5,x6,x7,x8,x9,x10,x11,())
theorem d8x:zz yu 1 f102 .nil q7m q3e (g6v):=λv=>by kernel_rfl
def y5a:x8c:=g6v
theorem b5j:FO 102 (f5w y5a) :=
 q0 kn func102 (d8x)
abbrev T24:=qu×qw×qx×qa×Unit->Option (Int×qa×Bool×qa×qa×Int×Bool×Bool×Int×Unit)
def E24(f:T24):FEnt:=⟨ww,g3j,f⟩
def K24(f100:x8a)(f101:x8b)(f102:x8c)(f61:T61)(f62:T62)(f98:T98)(f99:T99):=lk [(100,f5u f100),(101,f5v f101),(102,f5w f102),(61,E61 f61),(62,E62 f62),(98,E98 f98),(99,E99 f99)]
def F24(f100:x8a)(f101:x8b)(f102:x8c)(f61:T61)(f62:T62)(f98:T98)(f99:T99):T24:=λ(x0,x1,x2,x3,_)=>(f61 (x3,())).bind λv=>bif decide ((↑x3.length:Int)>510)then some (0,[],false,[],[],-1,false,false,500,())else bif decide (v.1<0)then some (0,[],false,[],[],-1,false,false,500,())else(f62 ()).bind λv1=>bif decide (v.1=(↑0:Int))then bif decide (4<=(↑x3.length:Int))then(f98 (x0,x1,x2,List.drop 4 x3,v.1,[],false,[],[],-1,false,false,())).bind λv=>bif v.1 != 0 then some (0,[],false,[],[],-1,false,false,v.1,())else some (v.2.1,v.2.2.1,v.2.2.2.1,v.2.2.2.2.1,v.2.2.2.2.2.1,v.2.2.2.2.2.2.1,v.2.2.2.2.2.2.2.1,v.2.2.2.2.2.2.2.2.1,0,())else none else bif decide (v.1=(↑1:Int))then bif decide (4<=(↑x3.length:Int))then(f98 (x0,x1,x2,List.drop 4 x3,v.1,[],false,[],[],-1,false,false,())).bind λv=>bif v.1 != 0 then some (0,[],false,[],[],-1,false,false,v.1,())else some (v.2.1,v.2.2.1,v.2.2.2.1,v.2.2.2.2.1,v.2.2.2.2.2.1,v.2.2.2.2.2.2.1,v.2.2.2.2.2.2.2.1,v.2.2.2.2.2.2.2.2.1,0,())else none else bif decide (v.1=(↑2:Int))then bif decide (4<=(↑x3.length:Int))then(f99 (x0,x1,x2,List.drop 4 x3,v.1,[],false,[],[],-1,false,false,())).bind λv=>bif v.1 != 0 then some (0,[],false,[],[],-1,false,false,v.1,())else some (v.2.1,v.2.2.1,v.2.2.2.1,v.2.2.2.2.1,v.2.2.2.2.2.1,v.2.2.2.2.2.2.1,v.2.2.2.2.2.2.2.1,v.2.2.2.2.2.2.2.2.1,0,())else none else bif decide (v.1=(↑3:Int))then bif decide (4<=(↑x3.length:Int))then(f100 (x0,x1,x2,List.drop 4 x3,v.1,[],false,[],[],-1,false,false,())).bind λv=>bif v.1 != 0 then some (0,[],false,[],[],-1,false,false,v.1,())else some (v.2.1,v.2.2.1,v.2.2.2.1,v.2.2.2.2.1,v.2.2.2.2.2.1,v.2.2.2.2.2.2.1,v.2.2.2.2.2.2.2.1,v.2.2.2.2.2.2.2.2.1,0,())else none else bif decide (v.1=(↑4:Int))then bif decide (4<=(↑x3.length:Int))then(f101 (x0,x1,x2,List.drop 4 x3,v.1,[],false,[],[],-1,false,false,())).bind λv=>bif v.1 != 0 then some (0,[],false,[],[],-1,false,false,v.1,())else some (v.2.1,v.2.2.1,v.2.2.2.1,v.2.2.2.2.1,v.2.2.2.2.2.1,v.2.2.2.2.2.2.1,v.2.2.2.2.2.2.2.1,v.2.2.2.2.2.2.2.2.1,0,())else none else bif decide (v.1=(↑5:Int))then bif decide (4<=(↑x3.length:Int))then(f101 (x0,x1,x2,List.drop 4 x3,v.1,[],false,[],[],-1,false,false,())).bind λv=>bif v.1 != 0 then some (0,[],false,[],[],-1,false,false,v.1,())else some (v.2.1,v.2.2.1,v.2.2.2.1,v.2.2.2.2.1,v.2.2.2.2.2.1,v.2.2.2.2.2.2.1,v.2.2.2.2.2.2.2.1,v.2.2.2.2.2.2.2.2.1,0,())else none else bif decide (v.1=(↑6:Int))then bif decide (4<=(↑x3.length:Int))then(f102 (x0,x1,x2,List.drop 4 x3,v.1,[],false,[],[],-1,false,false,())).bind λv=>bif v.1 != 0 then some (0,[],false,[],[],-1,false,false,v.1,())else some (v.2.1,v.2.2.1,v.2.2.2.1,v.2.2.2.2.1,v.2.2.2.2.2.1,v.2.2.2.2.2.2.1,v.2.2.2.2.2.2.2.1,v.2.2.2.2.2.2.2.2.1,0,())else none else bif decide (v.1=(↑7:Int))then bif decide (4<=(↑x3.length:Int))then(f101 (x0,x1,x2,List.drop 4 x3,v.1,[],false,[],[],-1,false,false,())).bind λv=>bif v.1 != 0 then some (0,[],false,[],[],-1,false,false,v.1,())else some (v.2.1,v.2.2.1,v.2.2.2.1,v.2.2.2.2.1,v.2.2.2.2.2.1,v.2.2.2.2.2.2.1,v.2.2.2.2.2.2.2.1,v.2.2.2.2.2.2.2.2.1,0,())else none else none
theorem h24(f100:x8a)(f101:x8b)(f102:x8c)(f61:T61)(f62:T62)(f98:T98)(f99:T99):zz (K24 f100 f101 f102 f61 f62 f98 f99) 0 f24 .nil ww g3j (F24 f100 f101 f102 f61 f62 f98 f99):=λv=>by kernel_rfl
def C24:T24:=F24 y0h z5g y5a C61 C62 C98 C99
theorem b7i:FO 24 (E24 C24) :=
 q0 (kc b5h (kc b5i (kc b5j (kc m1w (kc m1x (kc m2n (kc m2o kn))))))) func24 (h24 y0h z5g y5a C61 C62 C98 C99)
abbrev T60:=Int×Unit->Option (qa×Unit)
def E60(f:T60):FEnt:=⟨x2o,q8i,f⟩
def F60:T60:=λ(x0,_)=>bif decide (x0<0)then some ([],())else bif decide (x0>=8)then some ([],())else bif decide (x0=(↑0:Int))then some (zy.1,())else bif decide (x0=(↑1:Int))then some (zy.2.1,())else bif decide (x0=(↑2:Int))then some (zy.2.2.1,())else bif decide (x0=(↑3:Int))then some (zy.2.2.2.1,())else bif decide (x0=(↑4:Int))then some (zy.2.2.2.2.1,())else bif decide (x0=(↑5:Int))then some (zy.2.2.2.2.2.1,())else bif decide (x0=(↑6:Int))then some (zy.2.2.2.2.2.2.1,())else bif decide (x0=(↑7:Int))then some (zy.2.2.2.2.2.2.2,())else none
def C60:T60:=F60
theorem b9t:FO 60 (E60 C60):=zq0 x2o q8i yu F60 kn func60
abbrev j4t:=qa×Int×qa×Bool×qa×qa×Int×Bool×Bool×Unit->Option (qa×Unit)
def v2x(f:j4t):LEnt:=⟨w9s,g3k,f⟩
abbrev j4u:=qa×Int×Bool×Int×qa×Bool×qa×qa×Int×Bool×Bool×Unit->Option ((qa×Unit)⊕(qa×Unit))
def v2y(f:j4u):LEnt:=⟨w9t,g3l,f⟩
abbrev T27:=Int×qa×Bool×qa×qa×Int×Bool×Bool×Unit->Option (qa×Unit)
def E27(f:T27):FEnt:=⟨x3k,q8i,f⟩
def K27(f22:T22)(f60:T60)(f65:T65):=lk [(22,E22 f22),(60,E60 f60),(65,E65 f65)]
theorem v8s:zh prog (K27 C22 C60 C65):=(kc m1l (kc b9t (kc m2a kn)))
def z7h(f22:T22)(f60:T60)(f65:T65):j4t:=λ(x0,x1,x2,x3,x4,x5,x6,x7,x8,_)=>bif x7 then bif decide (x0.length+[32,66,79,68,89,61,56,66,73,84,77,73,77,69].length<=9223372036854775807)then bif x8 then bif decide ((x0++[32,66,79,68,89,61,56,66,73,84,77,73,77,69]).length+[32,83,77,84,80,85,84,70,56].length<=9223372036854775807)then some (x0++[32,66,79,68,89,61,56,66,73,84,77,73,77,69]++[32,83,77,84,80,85,84,70,56],())else none else some (x0++[32,66,79,68,89,61,56,66,73,84,77,73,77,69],())else none else bif x8 then bif decide (x0.length+[32,83,77,84,80,85,84,70,56].length<=9223372036854775807)then some (x0++[32,83,77,84,80,85,84,70,56],())else none else some (x0,())
def q3p:j4t:=z7h C22 C60 C65
theorem f2o:zc 0 (qd (code f27) [1,1,0,1,0,1,1,1,1,1,0,1,1]) (v2x q3p):=zc3 w9s g3k K27 z7h C22 C60 C65 v8s
def g8y(f27_c0:j4t):Ann:=(.cond .nil (.seq .nil (.cond .nil (.seq .nil (.cond (.seq .nil (.cut .nil (v2x f27_c0))) .nil)))))
def q1e(f22:T22)(f60:T60)(f65:T65)(f27_c0:j4t):j4u:=λ(x0,x1,x2,x3,x4,x5,x6,x7,x8,x9,x10,_)=>bif x2 then bif decide (x0.length+[32].length<=9223372036854775807)then bif decide ((x0++[32]).length+x4.length<=9223372036854775807)then some (Sum.inl (x0++[32]++x4,()))else none else none else bif x1==3 then bif decide (x0.length+[32,84,79,58].length<=9223372036854775807)then(f22 (x5,x6,x7,())).bind λv=>bif decide ((x0++[32,84,79,58]).length+List.length v.1<=9223372036854775807)then some (Sum.inl (x0++[32,84,79,58]++v.1,()))else none else none else bif x1==2 then(f22 (x5,x6,x7,())).bind λv=>bif decide ([32,70,82,79,77,58].length+List.length v.1<=9223372036854775807)then bif decide (x0.length+([32,70,82,79,77,58]++v.1).length<=9223372036854775807)then bif decide (x8>=0)then(f65 (x8,())).bind λv1=>bif decide ([32,83,73,90,69,61].length+List.length v1.1<=9223372036854775807)then bif decide ((x0++([32,70,82,79,77,58]++v.1)).length+([32,83,73,90,69,61]++v1.1).length<=9223372036854775807)then(f27_c0 (x0++([32,70,82,79,77,58]++v.1)++([32,83,73,90,69,61]++v1.1),x3,x4,x5,x6,x7,x8,x9,x10,())).bind λv=>some (Sum.inr (v.1,()))else none else none else(f27_c0 (x0++([32,70,82,79,77,58]++v.1),x3,x4,x5,x6,x7,x8,x9,x10,())).bind λv=>some (Sum.inr (v.1,()))else none else none else some (Sum.inr (x0,()))
theorem f2b(f22:T22)(f60:T60)(f65:T65)(f27_c0:j4t):AqC (K27 f22 f60 f65) 0 (qd (code f27) [1,1,0,1,0,1]) (g8y f27_c0) w9t g3l (q1e f22 f60 f65 f27_c0):=λv=>by kernel_rfl
def q3q:j4u:=q1e C22 C60 C65 q3p
theorem f2p:zc 0 (qd (code f27) [1,1,0,1,0,1]) (v2y q3q) :=
 frd v8s (And.intro f2o trivial) (f2b C22 C60 C65 q3p)
def N27(f27_c1:j4u):Ann:=(.seq .nil (.seq .nil (.seq (.seq .nil (.blk (.cut .nil (v2y f27_c1)))) .nil)))
def F27(f22:T22)(f60:T60)(f65:T65)(f27_c1:j4u):T27:=λ(x0,x1,x2,x3,x4,x5,x6,x7,_)=>(f60 (x0,())).bind λv=>bif x0==0 then(f27_c1 (v.1,x0,true,x0,x1,x2,x3,x4,x5,x6,x7,())).bind λv=>Sum.elim (λv=>some (v.1,())) (λv=>some (v.1,())) v else(f27_c1 (v.1,x0,x0==1,x0,x1,x2,x3,x4,x5,x6,x7,())).bind λv=>Sum.elim (λv=>some (v.1,())) (λv=>some (v.1,())) v
theorem h27(f22:T22)(f60:T60)(f65:T65)(f27_c1:j4u):zz (K27 f22 f60 f65) 0 f27 (N27 f27_c1) x3k q8i (F27 f22 f60 f65 f27_c1):=λv=>by kernel_rfl
def C27:T27:=F27 C22 C60 C65 q3q
theorem b8h:FO 27 (E27 C27) :=
 qo v8s func27 (And.intro f2p trivial) (h27 C22 C60 C65 q3q)
abbrev z0u:=Bool×Int×Bool×qu×qw×qx×Int×qa×Bool×qa×qa×Int×Bool×Bool×Unit->Option ((Bool×Unit)⊕Unit)
def v3b(f:z0u):LEnt:=⟨w9v,g3m,f⟩
abbrev T28:=qu×qw×qx×Int×qa×Bool×qa×qa×Int×Bool×Bool×Unit->Option (Bool×Unit)
def E28(f:T28):FEnt:=⟨w9u,qv,f⟩
def K28(f20:T20)(f66:T66):=lk [(20,E20 f20),(66,E66 f66)]
theorem g4a:zh prog (K28 C20 C66):=(kc m1k (kc b9u kn))
def q2j(f20:T20)(f66:T66):z0u:=λ(x0,x1,x2,x3,x4,x5,x6,x7,x8,x9,x10,x11,x12,x13,_)=>bif x2 then(f66 (x7,())).bind λv=>bif v.1 then some (Sum.inl (bif x6==x6 then bif x7==x7 then bif x8==false&&(x9==[]&&(x10==[]&&true)&&true)then bif x11 == -1 then bif x12==false then bif x13==false then true else false else false else false else false else false else false,()))else some (Sum.inl (false,()))else bif x1==2 then bif x7==[]then bif decide (x11 >= -1)then bif decide (x11<=16777216)then(f20 (x3,x4,x5,x8,x9,x10,())).bind λv=>some (Sum.inl (v.1==0,()))else some (Sum.inl (false,()))else some (Sum.inl (false,()))else some (Sum.inl (false,()))else bif x1==3 then bif x6==x6&&(x7==[]&&(x8==x8&&(x9==x9&&(x10==x10&&true)&&true)&&(x11 == -1&&(x12==false&&(x13==false&&true)))))then bif !x8 then(f20 (x3,x4,x5,x8,x9,x10,())).bind λv=>some (Sum.inl (v.1==0,()))else some (Sum.inl (false,()))else some (Sum.inl (false,()))else bif x1==4 then some (Sum.inl (x0,()))else bif x1==5 then some (Sum.inl (x0,()))else bif x1==6 then some (Sum.inl (x0,()))else bif x1==7 then some (Sum.inl (x0,()))else some (Sum.inr ())
def wv:z0u:=q2j C20 C66
theorem f2q:zc 0 (qd (code f28) [1,1,0,1,0,1]) (v3b wv):=zc2 w9v g3m K28 q2j C20 C66 g4a
def N28(f28_c0:z0u):Ann:=(.seq .nil (.seq .nil (.seq (.seq .nil (.blk (.cut .nil (v3b f28_c0)))) .nil)))
def F28(f20:T20)(f66:T66)(f28_c0:z0u):T28:=λ(x0,x1,x2,x3,x4,x5,x6,x7,x8,x9,x10,_)=>bif x3==0 then(f28_c0 (x3==x3&&(x4==[]&&(x5==false&&(x6==[]&&(x7==[]&&true)&&true)&&(x8 == -1&&(x9==false&&(x10==false&&true))))),x3,true,x0,x1,x2,x3,x4,x5,x6,x7,x8,x9,x10,())).bind λv=>Sum.elim (λv=>some (v.1,())) (λv=>some (false,())) v else(f28_c0 (x3==x3&&(x4==[]&&(x5==false&&(x6==[]&&(x7==[]&&true)&&true)&&(x8 == -1&&(x9==false&&(x10==false&&true))))),x3,x3==1,x0,x1,x2,x3,x4,x5,x6,x7,x8,x9,x10,())).bind λv=>Sum.elim (λv=>some (v.1,())) (λv=>some (false,())) v
def C28:T28:=F28 C20 C66 wv
theorem b8p:FO 28 (E28 C28):=q7w w9u qv K28 N28 F28 C20 C66 wv g4a func28 (And.intro f2q trivial)
abbrev T23:=Unit->Option (Bool×Unit)
def E23(f:T23):FEnt:=⟨Li7,qv,f⟩
def K23(f18:T18)(f24:T24)(f27:T27)(f28:T28)(f60:T60):=lk [(18,E18 f18),(24,E24 f24),(27,E27 f27),(28,E28 f28),(60,E60 f60)]
def C23:T23:=λ_=>some (true,())
theorem h23:y6l Γ (K23 C18 C24 C27 C28 C60) 0 f23.ntmps f23.results.toList (code f23) .nil (em id Li7 ()).1 (em id Li7 ()).2 (z1x 0 qv)=some (true,()):=by kernel_rfl
theorem m1m:FO 23 (E23 C23) :=
 q0 (kc b6l (kc b7i (kc b8h (kc b8p (kc b9t kn))))) func23 (λv=>h23)
end Go.Proofs.YtiacnhhmkdkpmaaGreatDoorC.W
set_option linter.unusedSimpArgs false
namespace Go.Proofs.YtiacnhhmkdkpmaaGreatDoorC.W
open Go Go.Ae
def ix(s:List UInt8)(k:UInt8):Int:=Lib.indexByte s k
theorem x4t(s:List UInt8)(k:UInt8) : -1<=ix s k/\ix s k<s.length:=⟨Lib.indexByte_ge s k,q2p k s⟩
theorem toB(k:UInt8):((k.toNat:Int)).toNat.toUInt8=k:=by
 rw[toNat_natCast];exact UInt8.ofNat_toNat
theorem d5x(s:List UInt8)(k:UInt8):q7z (s,(k.toNat:Int),())=some (ix s k,()):=by
 show x7k k2h _=_;simp only[x7k];show (some (Lib.indexByte s ((k.toNat:Int)).toNat.toUInt8,())).bind _=_;rw[toB];rfl
theorem b2r(s:List UInt8)(k:UInt8):j6i (s,[k],())=some (ix s k,()):=by
 have h0:∀b,(b=true->ix s k=0)->q0q (s,[k],1,b,())=some (ix s k,()):=by
  intro b hb;show q5l q7z _=_;simp only[q5l];cases b with
  | true=>rw[hb rfl];rfl
  | false =>
   simp only[cond_false,List.getD_cons_zero,d5x,Option.bind_some];rfl
 show y5t q7z q0q _=_;simp only[y5t,length_cons,length_nil];rw[show ((((0+1:Nat):Int))==0)=false from rfl];simp only[cond_false];rw[show (((0+1:Nat):Int))=1 from rfl,h0 _ (λh => ?_)]
 . rfl
 . have:=eq_of_beq h
   rw[<-this];simp[ix,Lib.indexByte]
theorem d5y(s:List UInt8)(k:UInt8):q1d (s,[k],())=some (ix s k,()):=by
 show x7p j6i _=_;simp only[x7p,b2r,Option.bind_some]
theorem x4s(c:UInt8)(s:List UInt8)(k:UInt8):ix (c::s) k=if c==k then 0 else if ix s k == -1 then -1 else ix s k+1:=rfl
def sel(s:List UInt8)(k:UInt8):List UInt8×List UInt8×Bool:=if 0<=ix s k then(s.take (ix s k).toNat,s.drop ((ix s k).toNat+1),true)else(s,[],false)
theorem k8f(s:List UInt8)(k:UInt8)(hs:s.length<=1000000):q1c (s,[k],())=some ((sel s k).1,(sel s k).2.1,(sel s k).2.2,()):=by
 have hl:=x4t s k;have h:y5d (s,[k],())=some ((sel s k).1,(sel s k).2.1,(sel s k).2.2,()):=by
  show x7l j6i _=_;simp only[x7l,b2r,Option.bind_some,length_cons,length_nil];unfold sel;by_cases h0:0<=ix s k
  . have hw:=qg (n:=ix s k+((0+1:Nat):Int)) (by omega)
    simp only[hw];rw[decide_eq_true (show ix s k>=0 by omega),if_pos h0,decide_eq_true (by omega),decide_eq_true (by omega),decide_eq_true (by omega)];simp only[Bool.and_self,cond_true];rw[show (ix s k+((0+1:Nat):Int)).toNat=(ix s k).toNat+1 by omega]
  . rw[decide_eq_false (by omega),if_neg h0]
    rfl
 show x7f y5d _=_;simp only[x7f,h,Option.bind_some]
def spl(k:UInt8):List UInt8->List (List UInt8)
 | []=>[[]]
 | c::r=>bif c==k then []::spl k r else match spl k r with
  | []=>[[c]]
  | p::q=>(c::p)::q
theorem y8k(k:UInt8)(s:List UInt8):∃p q,spl k s=p::q:=by
 cases s with
 | nil=>exact⟨_,_,rfl⟩
 | cons c r =>
  unfold spl;cases c==k
  . cases spl k r<;>exact⟨_,_,rfl⟩
  . exact⟨_,_,rfl⟩
theorem y4q{k:UInt8}:∀{s:List UInt8},ix s k<0->spl k s=[s]
 | [],_=>rfl
 | c::r,h=>by
  rw[x4s]at h;cases hc:c==k
  . rw[hc]at h
    by_cases hr:ix r k = -1
    . have ih:=y4q (s:=r) (k:=k) (by omega)
      unfold spl;rw[hc,ih];rfl
    . have:=x4t r k
      rw[if_neg (by decide),if_neg (by simpa using hr)]at h;omega
  . rw[hc,if_pos rfl]at h;omega
theorem y4r{k:UInt8}:∀{s:List UInt8},0<=ix s k->spl k s=s.take (ix s k).toNat::spl k (s.drop ((ix s k).toNat+1))
 | [],h=>by exact absurd h (show ¬(0:Int) <= -1 by decide)
 | c::r,h=>by
  rw[x4s]at h ⊢;cases hc:c==k
  . rw[hc]at h
    have hl:=x4t r k;by_cases hr:ix r k = -1
    . rw[if_neg (by decide),if_pos (by simpa using hr)]at h
      omega
    . rw[if_neg (by decide),if_neg (by simpa using hr)]
      have ih:=y4r (s:=r) (k:=k) (by omega);rw[show (ix r k+1).toNat=(ix r k).toNat+1 by omega];conv=>lhs;unfold spl
      rw[hc,ih];rfl
  . rw[if_pos rfl]
    conv=>lhs;unfold spl
    rw[hc];rfl
theorem j9j(k:UInt8):∀s:List UInt8,(spl k s).length=s.count k+1
 | []=>rfl
 | c::r=>by
  have ih:=j9j k r;obtain⟨p,q,e⟩:=y8k k r;rw[List.count_cons];unfold spl;cases hc:c==k
  . rw[e]at ih ⊢
    simpa using ih
  . simp only[cond_true,length_cons,ih,if_pos]
theorem j6g{α:Type}(l:List α)(i:Nat)(x:α):(l.set i x).take i=l.take i:=by
 induction l generalizing i with
 | nil=>rfl
 | cons a l ih=>cases i with
  | zero=>rfl
  | succ i=>simp[ih]
theorem b5a(k:UInt8)(m:Nat)(hm:m<=1000000):∀(j:Nat) (s:List UInt8) (i n:Nat) (rows:List (List UInt8)),(spl k s).length=j+1->i+j=m->j<n->rows.length=m+1->s.length<=1000000 ->
 ∃s' rows',qc (q2i j9o q9r q1d) n (s,[k],0,(m:Int),(i:Int),rows,())=some (s',(m:Int),rows',())/\rows'.length=m+1/\rows'.take m++[s']=rows.take i++spl k s
 | j,s,i,n+1,rows,hj,hi,hn,hr,hs=>by
  have hl:=x4t s k;by_cases h0:0<=ix s k
  . have e:=y4r h0
    obtain⟨p,q,e2⟩:=y8k k (s.drop ((ix s k).toNat+1));have hj1:1<=j:=by
     rw[e,e2]at hj;simp only[length_cons]at hj;omega
    obtain⟨j,rfl⟩:∃j',j=j'+1:=⟨j-1,by omega⟩
    rw[e,length_cons]at hj;obtain⟨s',rows',e3,e4,e5⟩:=b5a k m hm j (s.drop ((ix s k).toNat+1)) (i+1) n (rows.set i (s.take (ix s k).toNat)) (by omega) (by omega) (by omega) (by rw[length_set];exact hr) (by simp only[length_drop];omega);refine⟨s',rows',?_,e4,?_⟩
    . rw[qm (v':=(s.drop ((ix s k).toNat+1),[k],0,(m:Int),((i+1:Nat):Int),rows.set i (s.take (ix s k).toNat),())) ?_]
      . exact e3
      . simp only[q2i,d5y,Option.bind_some,length_cons,length_nil]
        have hw:=qg (n:=ix s k+((0+1:Nat):Int)) (by omega);have hw':=qg (n:=ix s k+0) (by omega);simp only[hw,hw'];rw[decide_eq_true (show (i:Int)<(m:Int) by omega),decide_eq_false (show ¬ix s k<0 by omega)];rw[decide_eq_true (by omega),decide_eq_true (by omega),decide_eq_true (by omega),decide_eq_true (by omega),decide_eq_true (by omega),decide_eq_true (by omega),wrN i (by omega)];rw[show (ix s k+((0+1:Nat):Int)).toNat=(ix s k).toNat+1 by omega,show (ix s k+0).toNat=(ix s k).toNat by omega];rfl
    . rw[e5,e,qk (by rw[length_set];omega),j6g]
      simp
  . have e:=y4q (s:=s) (k:=k) (by omega)
    rw[e]at hj;simp only[length_cons,length_nil]at hj;have:j=0:=by omega
    subst this;have:i=m:=by omega
    subst this;refine⟨s,rows,qe ?_,hr,by rw[e]⟩;simp only[q2i];rw[decide_eq_false (by omega)];rfl
theorem d5w(k:UInt8)(s:List UInt8)(hs:s.length<=1000000):z5o (s,[k],0,-1,())=some (spl k s,()):=by
 have hc:q9r (s,[k],())=some (((Lib.countByte s ((k.toNat:Int)).toNat.toUInt8:Nat):Int),()):=rfl;rw[toB]at hc;have hle:s.count k<=s.length:=List.count_le_length;have hlen:=j9j k s;generalize hm:s.count k=m at hle hlen;have hc':q9r (s,[k],())=some ((m:Int),()):=by rw[hc];unfold Lib.countByte;rw[hm]
 obtain⟨s',rows',e1,e2,e3⟩:=b5a k m (by omega) m s 0 qz (List.replicate (m+1) []) hlen (by omega) (by unfold qz;omega) (by simp) hs;have hc0:q2b (s,[k],0,((m:Int)+1),())=some (spl k s,()):=by
  show q5k j9o q9r q1d q5a _=_;unfold q5k;dsimp only;rw[qg (n:=(s.length:Int)+1) (by omega)];have hif:(if(s.length:Int)+1<(m:Int)+1 then(s.length:Int)+1 else(m:Int)+1)=((m+1:Nat):Int):=by rw[if_neg (by omega)];omega
  simp only[hif];have hc:(decide (0<=((m+1:Nat):Int))&&(decide True&&(decide ((16:Int)*((m+1:Nat):Int)<=281474976710656)&&decide (((m+1:Nat):Int)<=140737488355328))))=true:=by
   simp only[and_eq_true,decide_eq_true_eq];exact⟨by omega,trivial,by omega,by omega⟩
  have hc':(decide (0<=((m+1:Nat):Int))&&(decide True&&(decide (((16:Nat):Int)*((m+1:Nat):Int)<=281474976710656)&&decide (((m+1:Nat):Int)<=140737488355328))))=true:=hc;first|rw[hc]|rw[hc']
  simp only[cond_true,toNat_natCast];rw[qg (n:=((m+1:Nat):Int)-1) (by omega),show ((m+1:Nat):Int)-1=(m:Int) by omega];have e1':q5a (s,[k],0,(m:Int),0,List.replicate (m+1) [],())=some (s',(m:Int),rows',()):=e1;rw[e1'];simp only[Option.bind_some,toNat_natCast,length_set,e2];rw[qg (n:=(m:Int)+1) (by omega),decide_eq_true (by omega),decide_eq_true (by omega),decide_eq_true (by omega),decide_eq_true (by omega),show ((m:Int)+1).toNat=m+1 by omega];rw[qk (by rw[length_set];omega),j6g];rw[List.getElem_set_self,e3];rfl
 show x7j j9o q9r q1d q2b _=_;simp only[x7j,hc',Option.bind_some];rw[qg (n:=(m:Int)+1) (by omega),hc0];rfl
theorem b2l(k:UInt8)(s:List UInt8)(hs:s.length<=1000000):q7i (s,[k],())=some (spl k s,()):=by
 show x7e z5o _=_;simp only[x7e,d5w k s hs,Option.bind_some]
theorem k1p(k:UInt8):∀s:List UInt8,∀p∈spl k s,p.length<=s.length
 | [],p,hp=>by simp[spl]at hp;simp[hp]
 | c::r,p,hp=>by
  have ih:=k1p k r;obtain⟨p',q,e⟩:=y8k k r;unfold spl at hp;rw[e]at hp ih;cases hc:c==k
  . rw[hc]at hp
    simp only[cond_false,mem_cons]at hp;rcases hp with rfl|hp
    . have:=ih p' List.mem_cons_self
      simp only[length_cons];omega
    . have:=ih p (List.mem_cons_of_mem _ hp)
      simp only[length_cons];omega
  . rw[hc]at hp
    rw[cond_true]at hp;rcases mem_cons.1 hp with rfl|hp
    . simp
    . have:=ih p hp
      simp only[length_cons];omega
theorem k8g(s:List UInt8)(k:UInt8):q3m (s,[k],())=some (if s.take 1=[k]then(s.drop 1,true,())else(s,false,())):=by
 have h1:q3l (s,[k],())=some (decide (s.take 1=[k]),()):=by
  show j4j _=_;simp only[j4j,length_cons,length_nil];cases s with
  | nil=>rfl
  | cons c s =>
   have hl:(((c::s:List UInt8).length:Int))=(s.length:Int)+1:=by simp
   rw[hl,decide_eq_true (show (s.length:Int)+1>=((0+1:Nat):Int) by omega),decide_eq_true (show (0:Int)<=((0+1:Nat):Int) by omega)];show some (((c::s).take 1==[k]),())=_;by_cases h:(c::s).take 1=[k]
   . rw[decide_eq_true h,h,beq_self_eq_true]
   . rw[decide_eq_false h,beq_eq_false_iff_ne.2 h]
 have h2:y0o (s,[k],())=some (if s.take 1=[k]then(s.drop 1,true,())else(s,false,())):=by
  show x7m q3l _=_;simp only[x7m,h1,Option.bind_some];by_cases h:s.take 1=[k]
  . rw[decide_eq_true h,if_pos h]
    cases s with
    | nil=>cases h
    | cons c s =>
     simp only[Bool.not_true,cond_false,length_cons,length_nil];rw[decide_eq_true (by omega),decide_eq_true (by omega)];rfl
  . rw[decide_eq_false h,if_neg h];rfl
 show x7g y0o _=_;simp only[x7g,h2,Option.bind_some]
def q8p(s w:List UInt8):Bool:=decide (w.length<=s.length)&&(lw (s.take w.length)==lw w)
theorem c97(s w:List UInt8)(hs:s.length<=1000000)(hw:w.length<=1000000):C97 (s,w,())=some (bif q8p s w then s.drop w.length else [],q8p s w,()):=by
 show F97 C25 _=_;simp only[F97];unfold q8p;by_cases h:w.length<=s.length
 . rw[decide_eq_false (by omega),decide_eq_true (show w.length<=s.length from h),decide_eq_true (by omega),decide_eq_true (by omega)]
   simp only[cond_false,Bool.and_self,cond_true,toNat_natCast];rw[p25 _ (by simp only[length_take];omega),p25 _ hw];simp only[Option.bind_some,Bool.true_and];show (bif !(lw (s.take w.length)==lw w)then _ else _)=_;cases lw (s.take w.length)==lw w<;>rfl
 . rw[decide_eq_true (by omega),decide_eq_false h]
   rfl
theorem f3t(s w:List UInt8):q8p (lw s) w=q8p s w:=by
 unfold q8p;rw[z9l,x4y,b5e]
def ep:List UInt8->Bool->Bool->Nat->Nat
 | [],_,_,_=>0
 | c::r,q,sq,p=>bif sq then ep r q (!((c.toNat:Int)==93)) (p+1)else bif(c.toNat:Int)==34 then ep r (!q) sq (p+1)
  else bif q then(bif(c.toNat:Int)==92 then(match r with | []=>0|_::r'=>ep r' q sq (p+2))else ep r q sq (p+1))
  else bif(c.toNat:Int)==91 then ep r q true (p+1)else bif(c.toNat:Int)==62 then p+1 else ep r q sq (p+1)
def rep(n:Nat):Unit⊕(Int×Unit):=if n=0 then .inl ()else .inr ((n:Int),())
theorem g9o(b:Bool):(bif b then false else true) = !b:=by cases b<;>rfl
theorem f3j:∀(m:Nat) (r pre:List UInt8) (q sq:Bool) (p n:Nat),r.length<=m->pre.length=p->r.length<n->p+r.length<=1000000 ->
 qc (vr kq) n (pre++r,q,sq,(p:Int),())=some (rep (ep r q sq p))
 | m,[],pre,q,sq,p,n+1,hm,hp,hn,hb=>by
  refine qe ?_;simp only[vr,append_nil];rw[decide_eq_false (by omega)];rfl
 | 0,c::r,pre,q,sq,p,n,hm,hp,hn,hb=>by simp at hm
 | m+1,c::r,pre,q,sq,p,n+1,hm,hp,hn,hb=>by
  simp only[length_cons]at hm hn hb;have hlen:(pre++c::r).length=p+r.length+1:=by simp[hp];omega
  have hg:(pre++c::r).getD p 0=c:=by subst hp;simp
  have go:∀q' sq',qc (vr kq) n (pre++c::r,q',sq',((p+1:Nat):Int),())=some (rep (ep r q' sq' (p+1))):=by
   intro q' sq';rw[show pre++c::r=(pre++[c])++r by simp];exact f3j m r (pre++[c]) q' sq' (p+1) n (by omega) (by simp[hp]) (by omega) (by omega)
  have st:∀y,vr kq (pre++c::r,q,sq,(p:Int),())=y->vr kq (pre++c::r,q,sq,(p:Int),())=y:=λ_ h=>h;have hF:vr kq (pre++c::r,q,sq,(p:Int),())=(bif sq then some (.inl (pre++c::r,q,!((c.toNat:Int)==93),((p+1:Nat):Int),()))else bif(c.toNat:Int)==34 then some (.inl (pre++c::r,!q,sq,((p+1:Nat):Int),()))
   else bif q then(bif(c.toNat:Int)==92 then some (.inl (pre++c::r,q,sq,((p+2:Nat):Int),()))else some (.inl (pre++c::r,q,sq,((p+1:Nat):Int),())))
   else bif(c.toNat:Int)==91 then some (.inl (pre++c::r,q,true,((p+1:Nat):Int),()))else bif(c.toNat:Int)==62 then some (.inr (.inr (((p+1:Nat):Int),())))else some (.inl (pre++c::r,q,sq,((p+1:Nat):Int),()))):=by
   unfold kq;simp only[vr,z6s,hlen,toNat_natCast,hg,wrN p (show p<=9223372036854775806 by omega),g9o];rw[decide_eq_true (by omega),decide_eq_true (by omega)];simp only[Bool.and_self,cond_true];cases sq<;>cases ((c.toNat:Int)==34)<;>cases q<;>cases ((c.toNat:Int)==92)<;>cases ((c.toNat:Int)==91)<;>cases ((c.toNat:Int)==62)<;>try rfl
   all_goals
    simp only[cond_true,cond_false,Option.bind_some,elim_inl,elim_inr,wrN p (show p<=9223372036854775806 by omega),wrN (p+1) (show p+1<=9223372036854775806 by omega)]
  unfold ep;cases sq with
  | true =>
   simp only[cond_true]at hF ⊢;rw[qm hF,go]
  | false =>
   simp only[cond_false]at hF ⊢;cases h34:(c.toNat:Int)==34 with
   | true =>
    rw[h34]at hF;simp only[cond_true]at hF ⊢;rw[qm hF,go]
   | false =>
    rw[h34]at hF;simp only[cond_false]at hF ⊢;cases q with
    | true =>
     simp only[cond_true]at hF ⊢;cases h92:(c.toNat:Int)==92 with
     | true =>
      rw[h92]at hF;simp only[cond_true]at hF ⊢;rw[qm hF];cases r with
      | nil =>
       obtain⟨n,rfl⟩:∃n',n=n'+1:=⟨n-1,by simp only[length_nil]at hn;omega⟩
       refine qe ?_;simp only[vr,hlen,length_nil];rw[decide_eq_false (by omega)];rfl
      | cons d r =>
       simp only[length_cons]at hm hn hb;rw[show pre++c::d::r=(pre++[c,d])++r by simp];exact f3j m r (pre++[c,d]) true false (p+2) n (by omega) (by simp[hp]) (by omega) (by omega)
     | false =>
      rw[h92]at hF;simp only[cond_false]at hF ⊢;rw[qm hF,go]
    | false =>
     simp only[cond_false]at hF ⊢;cases h91:(c.toNat:Int)==91 with
     | true =>
      rw[h91]at hF;simp only[cond_true]at hF ⊢;rw[qm hF,go]
     | false =>
      rw[h91]at hF;simp only[cond_false]at hF ⊢;cases h62:(c.toNat:Int)==62 with
      | true =>
       rw[h62]at hF;simp only[cond_true]at hF ⊢;rw[qe hF];rfl
      | false =>
       rw[h62]at hF;simp only[cond_false]at hF ⊢;rw[qm hF,go]
theorem b2p(s:List UInt8)(hs:s.length<=1000000):v1s (s,())=some (((ep s false false 0:Nat):Int),()):=by
 have h:=f3j _ s [] false false 0 qz (le_refl _) rfl (by unfold qz;omega) (by omega);have h1:q9o (s,false,false,0,())=some (rep (ep s false false 0)):=h;show k3e q9o _=_;simp only[k3e,h1,Option.bind_some];unfold rep;by_cases h0:ep s false false 0=0
 . rw[if_pos h0,h0];rfl
 . rw[if_neg h0];rfl
theorem v7j:∀(m:Nat) (r:List UInt8) (q sq:Bool) (p:Nat),r.length<=m->ep r q sq p<=p+r.length
 | m,[],q,sq,p,h=>zero_le _
 | 0,c::r,q,sq,p,h=>by simp at h
 | m+1,c::r,q,sq,p,h=>by
  simp only[length_cons]at h ⊢;have ih:=λq' sq'=>v7j m r q' sq' (p+1) (by omega);have k:∀q' sq',ep r q' sq' (p+1)<=p+(r.length+1):=λq' sq'=>by have:=ih q' sq';omega
  unfold ep;cases sq with
  | true=>exact k _ _
  | false =>
   simp only[cond_false];cases (c.toNat:Int)==34
   . cases q
     . cases (c.toNat:Int)==91
       . cases (c.toNat:Int)==62
         . exact k _ _
         . simp only[cond_true,cond_false];omega
       . exact k _ _
     . cases (c.toNat:Int)==92
       . exact k _ _
       . cases r with
         | nil=>exact zero_le _
         | cons d r =>
          have:=v7j m r true false (p+2) (by simp only[length_cons]at h;omega);simp only[cond_true,cond_false,length_cons];omega
   . exact k _ _
theorem d94(l:List (List UInt8))(k:List UInt8)(hl:l.length<=1000000):Df (C94 (l,k,())) (λ_=>True):=by
 unfold C94 F94;dsimp only;refine dZ (P:=λ_=>True) ?_ (λz _=>by cases z<;>exact dP trivial);refine dL ?I ?m ?h _ ?hv ?hn
 case I=>exact(λv=>v.1=l/\v.2.2.1=l.length/\0<=v.2.2.2.1)
 case m=>exact(λv=>(l.length-v.2.2.2.1).toNat)
 case hv=>exact⟨rfl,rfl,Int.le_refl _⟩
 case hn=>exact(by(try dsimp only);omega)
 rintro⟨a,b,n,k',u⟩ ⟨h1,h2,h3⟩;dsimp only at h1 h2 h3;subst h1;subst h2;unfold z7u;dsimp only;with_reducible repeat' (first|apply dP|apply dX<;>intro _)
 . trivial
 . rw[qg (by omega)]
   exact⟨⟨rfl,rfl,by(try dsimp only);omega⟩,by(try dsimp only);omega⟩
 . refine dO ?_;omega
 . trivial
theorem d93(l:List (List UInt8))(k:List UInt8)(hl:l.length<=1000000):Df (C93 (l,k,())) (λ_=>True):=by
 unfold C93 F93;dsimp only;exact dZ (d94 l k hl) λ_ _=>dP trivial
theorem d6h(x:Int):Df (y0i (x,())) (λ_=>True):=by
 unfold y0i g6w;dsimp only;with_reducible repeat' (first|apply dP|apply dX<;>intro _)
 all_goals trivial
theorem g9s(s:List UInt8)(hs:s.length<=1000000):Df (C21 (s,())) (λy=>(y.1<0->Asc s)/\(Asc s->y.1 = -1)):=by
 unfold C21 F21;dsimp only;refine dZ (P:=Sum.elim (λ_=>Asc s) (λy=>0<=y.1/\¬Asc s)) ?_ ?_
 . refine dL ?I ?m ?h _ ?hv ?hn
   case I=>exact(λv=>v.1=s/\v.2.1=s.length/\0<=v.2.2.1/\∀i:Nat,(i:Int)<v.2.2.1->∀h:i<s.length,s[i].toNat<128)
   case m=>exact(λv=>(s.length-v.2.2.1).toNat)
   case hv=>exact⟨rfl,rfl,Int.le_refl _,λi h=>by dsimp only at h;omega⟩
   case hn=>exact(by(try dsimp only);omega)
   rintro⟨s',n,k,u⟩ ⟨h1,h2,h3,h4⟩;dsimp only at h1 h2 h3 h4;subst h1;subst h2;unfold z6v;dsimp only;with_reducible repeat' (first|apply dP|apply dX<;>intro _)
   . rename_i hk _ hc
     refine⟨h3,λha => ?_⟩;rw[getD_lt (by omega)]at hc;have:=ha _ (getElem_mem (show k.toNat<s'.length by omega));omega
   . rename_i hk _ hc
     rw[qg (by omega)];refine⟨⟨rfl,rfl,by(try dsimp only);omega,λi hi hl => ?_⟩,by(try dsimp only);omega⟩;dsimp only at hi;by_cases hik:(i:Int)<k
     . exact h4 i hik hl
     . have:i=k.toNat:=by omega
       subst this;rw[getD_lt hl]at hc;omega
   . refine dO ?_;omega
   . rename_i hk
     intro c hc;obtain⟨i,hi,rfl⟩:=List.mem_iff_getElem.1 hc;exact h4 i (by omega) hi
 . rintro z hz
   cases z with
   | inl z=>exact dP ⟨λ_=>hz,λ_=>rfl⟩
   | inr z=>exact dP ⟨λh=>by have:=hz.1;dsimp only at h;omega,λh=>(hz.2 h).elim⟩
theorem b2v(s:List UInt8)(hs:s.length<=1000000)(ha:Asc s):C21 (s,())=some (-1,()):=by
 obtain⟨⟨y,u⟩,e,-,h⟩:=g9s s hs;rw[e];have:=h ha;dsimp only at this;rw[this]
abbrev Cmd:=Int×List UInt8×Bool×List UInt8×List UInt8×Int×Bool×Bool×Unit
section
variable {T:List R6} {A:List R4} {B:List R3}
def c0(v:Int):Cmd:=(v,[],false,[],[],-1,false,false,())
end
abbrev W10:=List UInt8×List UInt8×List UInt8×List UInt8×List UInt8×List UInt8×List UInt8×List UInt8×List UInt8×Int×Unit
abbrev stW(s:List UInt8)(k:Int):W10:=(s,[69,72,76,79],[72,69,76,79],[77,65,73,76],[82,67,80,84],[68,65,84,65],[82,83,69,84],[78,79,79,80],[81,85,73,84],k,())
abbrev QW(s:List UInt8)(k:Nat):W10⊕(Unit⊕(Int×Unit))->W10⊕(Unit⊕(Int×Unit))->Prop:=Rs (λv' w'=>(∃k:Nat,v'=stW s (k:Int)/\w'=stW (lw s) (k:Int))/\(8-v'.2.2.2.2.2.2.2.2.2.1).toNat<(8-(k:Int)).toNat) (Rs (λ_ _=>True) (λy y'=>y'.1=y.1/\0<=y.1/\y.1<8/\4<=s.length))
theorem r61(s:List UInt8)(hs:s.length<=1000):Re (λy y'=>y'.1=y.1 /\ -1<=y.1/\y.1<8/\(0<=y.1->4<=s.length)) (C61 (s,())) (C61 (lw s,())):=by
 unfold C61 F61;dsimp only;unfold zy;dsimp only;refine rZ (P:=Rs (λ_ _=>True) (λy y'=>y'.1=y.1/\0<=y.1/\y.1<8/\4<=s.length)) ?_ (λz z' hz=>rS hz (λa b h=>rP ⟨rfl,by omega,by omega,λh=>by omega⟩) (λa b h=>rP ⟨h.1,(by have:=h.2.1;omega : -1<=a.1),h.2.2.1,λ_=>h.2.2.2⟩));refine rL (λv w=>∃k:Nat,v=(stW s (k:Int))/\w=(stW (lw s) (k:Int))) (λv=>(8-v.2.2.2.2.2.2.2.2.2.1).toNat) ?_ _ _ ⟨0,rfl,rfl⟩ (by(try dsimp only);omega);rintro _ _ ⟨k,rfl,rfl⟩;have key:∀w:List UInt8,w.length=4->k<8->Re (α:=W10⊕(Unit⊕(Int×Unit))) (α':=W10⊕(Unit⊕(Int×Unit))) (QW s k)
  ((C97 (s,w,())).bind λval=>bif val.2.1 then bif val.1==[]then some (Sum.inr (Sum.inr ((k:Int),())))else(C96 (val.1,[32],())).bind λval=>bif val.1 then some (Sum.inr (Sum.inr ((k:Int),())))else some (Sum.inl (stW s (IntKind.i64.wrap ((k:Int)+1))))else some (Sum.inl (stW s (IntKind.i64.wrap ((k:Int)+1)))))
  ((C97 (lw s,w,())).bind λval=>bif val.2.1 then bif val.1==[]then some (Sum.inr (Sum.inr ((k:Int),())))else(C96 (val.1,[32],())).bind λval=>bif val.1 then some (Sum.inr (Sum.inr ((k:Int),())))else some (Sum.inl (stW (lw s) (IntKind.i64.wrap ((k:Int)+1))))else some (Sum.inl (stW (lw s) (IntKind.i64.wrap ((k:Int)+1))))):=by
  intro w hw hk;rw[c97 s w (by omega) (by omega),c97 (lw s) w (by rw[z9l];omega) (by omega),f3t,w4j,wrN k (by omega)];have nxt:∀(z:Unit),Re (α:=W10⊕(Unit⊕(Int×Unit))) (α':=W10⊕(Unit⊕(Int×Unit))) (QW s k)
   (some (Sum.inl (stW s ((k+1:Nat):Int)))) (some (Sum.inl (stW (lw s) ((k+1:Nat):Int)))):=λ_=>rP ⟨⟨k+1,rfl,rfl⟩,by(try dsimp only);omega⟩
  cases hc:q8p s w with
  | false=>exact nxt ()
  | true =>
   have h4:4<=s.length:=by
    unfold q8p at hc;simp only[and_eq_true,decide_eq_true_eq]at hc;omega
   have yes:Re (α:=W10⊕(Unit⊕(Int×Unit))) (α':=W10⊕(Unit⊕(Int×Unit))) (QW s k) (some (Sum.inr (Sum.inr ((k:Int),())))) (some (Sum.inr (Sum.inr ((k:Int),())))):=rP ⟨rfl,by(try dsimp only);omega,by(try dsimp only);omega,h4⟩;simp only[Option.bind_some,cond_true,v0z];refine rC rfl (λ_=>yes) (λ_ => ?_);rw[b5d _ (by decide)];have hd:∀t:List UInt8,∃b,C96 (t,[32],())=some (b,()):=by
    intro t;show ∃b,F96 q3l _=_;have h1:∃b,q3l (t,[32],())=some (b,()):=by
     show ∃b,j4j _=_;simp only[j4j,length_cons,length_nil];by_cases hl:(t.length:Int)>=((0+1:Nat):Int)
     . rw[decide_eq_true hl,decide_eq_true (show (0:Int)<=((0+1:Nat):Int) by omega)]
       exact⟨_,rfl⟩
     . rw[decide_eq_false hl]
       exact⟨_,rfl⟩
    obtain⟨b,hb⟩:=h1;exact⟨b,by simp only[F96,hb,Option.bind_some]⟩
   obtain⟨b,hb⟩:=hd (s.drop w.length);rw[hb];simp only[Option.bind_some];exact rC rfl (λ_=>yes) (λ_=>nxt ())
 unfold z0a;dsimp only;refine rX rfl (λhk => ?_) (λ_=>rP trivial);refine rX rfl (λ_=>key _ rfl (by omega)) (λn0 => ?_);refine rX rfl (λ_=>key _ rfl (by omega)) (λn1 => ?_);refine rX rfl (λ_=>key _ rfl (by omega)) (λn2 => ?_);refine rX rfl (λ_=>key _ rfl (by omega)) (λn3 => ?_);refine rX rfl (λ_=>key _ rfl (by omega)) (λn4 => ?_);refine rX rfl (λ_=>key _ rfl (by omega)) (λn5 => ?_);refine rX rfl (λ_=>key _ rfl (by omega)) (λn6 => ?_);refine rX rfl (λ_=>key _ rfl (by omega)) (λn7 => ?_);omega
section
variable {T:List R6} {A:List R4} {B:List R3}
end
def Epp(w:List UInt8):Prop:=∀X p,ep (w++X) false false p=ep X false false (p+w.length)
theorem Epp.app{a b:List UInt8}(ha:Epp a)(hb:Epp b):Epp (a++b):=λX p=>by
 rw[List.append_assoc,ha,hb,length_append,Nat.add_assoc]
def f5j(c:UInt8):Bool := !jk c || !(decide (c.toNat=34)||(decide (c.toNat=91)||decide (c.toNat=62)))
theorem d0k:((List.range 256).all λn=>f5j (UInt8.ofNat n))=true:=by kernel_rfl
theorem k8v{c:UInt8}(h1:c.toNat≠34)(h2:c.toNat≠91)(h3:c.toNat≠62):Epp [c]:=λX p=>by
 show ep (c::X) false false p=_;conv=>lhs;unfold ep
 rw[ibF (show (c.toNat:Int)≠34 by omega),ibF (show (c.toNat:Int)≠91 by omega),ibF (show (c.toNat:Int)≠62 by omega)];rfl
theorem j9f:∀s:List UInt8,s.all jk=true->Epp s
 | [],_=>λX p=>rfl
 | c::s,h=>by
  simp only[all_cons,and_eq_true]at h;have hk:=xp f5j d0k c;simp only[f5j,h.1,Bool.not_true,Bool.false_or,Bool.not_eq_true',Bool.or_eq_false_iff,decide_eq_false_iff_not]at hk;exact(k8v hk.1 hk.2.1 hk.2.2).app (j9f s h.2)
theorem v7k{w:List UInt8}(h:Wd w):Epp w:=by
 obtain⟨q,r,rfl,hq,hr⟩:=h
 induction q with
 | nil=>exact j9f r hr.2
 | cons x q ih =>
  rw[q0x,show x++46::jn q r=x++([46]++jn q r) by simp];exact(j9f x (hq x (by simp)).2).app ((k8v (by decide) (by decide) (by decide)).app (ih λp hp=>hq p (by simp[hp])))
theorem y6s:∀(a X:List UInt8) (p:Nat),ep (vv a++34::X) true false p=ep X false false (p+(vv a).length+1)
 | [],X,p=>by
  show ep (34::X) true false p=ep X false false (p+1);conv=>lhs;unfold ep
  rfl
 | c::a,X,p=>by
  have e:vv (c::a)=xt c++vv a:=by simp[vv]
  rw[e];by_cases h:c.toNat=34\/c.toNat=92
  . have e1:xt c=[92,c]:=by unfold xt;rw[if_pos h]
    rw[e1];have ih:=y6s a X (p+2);show ep (92::c::(vv a++34::X)) true false p=_;conv=>lhs;unfold ep
    show ep (vv a++34::X) true false (p+2)=_;rw[ih];simp only[jf];congr 1;omega
  . have e1:xt c=[c]:=by unfold xt;rw[if_neg h]
    rw[e1];have ih:=y6s a X (p+1);show ep (c::(vv a++34::X)) true false p=_;conv=>lhs;unfold ep
    rw[ibF (show (c.toNat:Int)≠34 by omega),ibF (show (c.toNat:Int)≠92 by omega)];show ep (vv a++34::X) true false (p+1)=_;rw[ih];simp only[jf];congr 1;omega
theorem b4m(a:List UInt8):Epp (src 1 a):=λX p=>by
 have e:src 1 a++X=34::(vv a++34::X):=by simp[src]
 rw[e];conv=>lhs;unfold ep
 show ep (vv a++34::X) true false (p+1)=_;rw[y6s];congr 1;simp[src];omega
theorem v9i:∀{r t:List UInt8} {u:Nat},ltk r = .ok t u->∀c∈t,c.toNat≠93
 | [],t,u,h=>by cases h
 | c::r,t,u,h=>by
  unfold ltk at h;split at h
  . cases h;intro c hc;cases hc
  . rename_i h93
    split at h
    . cases h
    split at h
    . cases h
    cases hb:jy c with
    | true=>rw[hb]at h;cases h
    | false =>
     cases hm:jz c with
     | false=>rw[hb,hm]at h;cases h
     | true =>
      rw[hb,hm]at h;obtain⟨t',u',h',rfl,-⟩:=wj h;intro d hd;rcases mem_cons.1 hd with rfl|hd
      . exact h93
      . exact v9i h' d hd
theorem g3w:∀(t X:List UInt8) (p:Nat),(∀c∈t,c.toNat≠93)->ep (t++93::X) false true p=ep X false false (p+t.length+1)
 | [],X,p,h=>by
  show ep (93::X) false true p=ep X false false (p+1);conv=>lhs;unfold ep
  rfl
 | c::t,X,p,h=>by
  have ih:=g3w t X (p+1) λd hd=>h d (by simp[hd]);have h1:=h c (by simp);show ep (c::(t++93::X)) false true p=_;conv=>lhs;unfold ep
  rw[ibF (show (c.toNat:Int)≠93 by omega)];show ep (t++93::X) false true (p+1)=_;rw[ih,length_cons];congr 1;omega
theorem m2p{c:UInt8}{r t:List UInt8}{u:Nat}(h:one c r=(5,.ok t u)):∃u',ltk r = .ok t u':=by
 unfold one at h;split at h
 . injection h with h _;cases h
 split at h
 . injection h with h _;cases h
 split at h
 . injection h with h _;cases h
 split at h
 . simp only[Prod.mk.injEq]at h
   obtain⟨u',h',-⟩:=j3x h.2;exact⟨u',h'⟩
 split at h
 . injection h with h _;cases h
 split at h
 . injection h with h _;cases h
 . injection h with h _;cases h
theorem k8w{b t:List UInt8}{n:Int}(h:yi b 0 = .inl [(5,t,n)]):Epp b:=by
 rw[<-z9j h,w5s];cases b with
 | nil=>cases h
 | cons c r =>
  obtain⟨k,t',u,l',ho,hl,he⟩:=q4o h;simp only[List.cons.injEq,Prod.mk.injEq]at he;obtain⟨⟨rfl,rfl,-⟩,-⟩:=he;obtain⟨u',hk⟩:=m2p ho;intro X p;have e:[91]++t++[93]++X=91::(t++93::X):=by simp
  first|rw[e]|rw[show 91::(t++[93])++X=91::(t++93::X) by simp]
  conv=>lhs;unfold ep
  show ep (t++93::X) false true (p+1)=_;rw[g3w t X _ (v9i hk)];congr 1;simp;omega
theorem x4d:∀s:List UInt8,Asc s->Asc (vv s)
 | [],_=>λc hc=>by cases hc
 | c::s,h=>by
  have e:vv (c::s)=xt c++vv s:=by simp[vv]
  rw[e];refine Asc.app ?_ (x4d s λd hd=>h d (by simp[hd]));unfold xt;have:=h c (by simp);split
  . intro d hd
    simp only[mem_cons,List.not_mem_nil,or_false]at hd;rcases hd with rfl|rfl
    . decide
    . exact this
  . exact j5b this
theorem f3k(a:List UInt8)(ha:a.length<=1100):Epp (lcl a)/\(Asc a->Asc (lcl a)):=by
 obtain⟨⟨w,u⟩,hw,-⟩:=d88 a (by omega);cases w with
 | true =>
  have e:lcl a=a:=by unfold lcl;rw[hw]
  rw[e];exact⟨v7k (p88 a (by omega) _ hw rfl),id⟩
 | false =>
  have e:lcl a=src 1 a:=by unfold lcl;rw[hw]
  rw[e];exact⟨b4m a,λh=>by rw[show src 1 a=[34]++vv a++[34] from rfl];exact((j5b (by decide)).app (x4d a h)).app (j5b (by decide))⟩
theorem psh{T A B}(h:TK T A B)(hK:KT T A B)(n:Bool)(a b:List UInt8)(ha:a.length<=1100)(hb:b.length<=1100)(h20:C20 (T,A,B,n,a,b,())=some (0,())) :
 ∃w,C22 (n,a,b,())=some (w,())/\(∀X,ep (w++X) false false 0=w.length)/\(Asc a->Asc b->Asc w)/\1<=w.length/\w.length<=4000:=by
 have jh:∀w:List UInt8,Epp w->∀X,ep ([60]++w++[62]++X) false false 0=([60]++w++[62]).length:=by
  intro w hw X;have e:[60]++w++[62]++X=([60]++w)++(62::X):=by simp
  rw[e,(Epp.app (k8v (by decide) (by decide) (by decide)) hw) (62::X) 0];conv=>lhs;unfold ep
  show 0+([60]++w).length+1=_;simp
 rcases p20 n a b ha _ h20 rfl with⟨rfl,rfl,rfl⟩|⟨rfl,h59⟩|⟨rfl,h59,h44⟩
 . exact⟨[60,62],rfl,λX=>jh [] (λX p=>rfl) X,λ_ _=>j5b (k:=60) (by decide) |>.app (j5b (k:=62) (by decide)),by decide,by decide⟩
 . have h59':=h59
   rw[g3s false a b ha]at h59;simp only[Bool.not_false,Bool.true_and,Option.some.injEq,Prod.mk.injEq,and_eq_true,beq_iff_eq,and_true]at h59;obtain⟨rfl,hl⟩:=h59;have hall:∀c∈a,jk c=true/\c.toNat<128:=λc hc=>x5w (by rw[<-hl];exact List.mem_map_of_mem hc);refine⟨[60]++a++[62],?_,jh a (j9f a (all_eq_true.2 λc hc=>(hall c hc).1)),λh1 _=>((j5b (by decide)).app h1).app (j5b (by decide)),by simp,by simp only[jf];omega⟩;show F22 C45 wm _=_;simp only[F22,cond_false,h59',Option.bind_some,cond_true];rw[decide_eq_true (by simp only[length_cons,length_nil];omega),decide_eq_true (by simp only[jf];omega)];rfl
 . have hR:=p44 h hK a b (by omega) (by omega) _ h44 rfl
   have hM:=g4k hR (by omega);obtain⟨k1,k2⟩:=f3k a ha;have hln:=hM.ln;have hE:Epp b:=by
    obtain⟨-,-,-,-,-,h6⟩:=hR;rcases h6 with⟨t,n,h6⟩|h6
    . exact k8w h6
    . exact v7k h6
   refine⟨[60]++(lcl a++[64]++b)++[62],?_,jh _ ((k1.app (k8v (by decide) (by decide) (by decide))).app hE),λh1 h2=>((j5b (by decide)).app (((k2 h1).app (j5b (by decide))).app h2)).app (j5b (by decide)),by simp,by simp only[jf];omega⟩;show F22 C45 wm _=_;simp only[F22,cond_false,h59,Option.bind_some,hM.pr];rw[decide_eq_true (by simp only[jf];omega),decide_eq_true (by simp only[jf];omega)];rfl
def dgB(c:UInt8):Bool:=decide (48<=c.toNat)&&decide (c.toNat<=57)
def k2b(a:Nat)(l:List UInt8):Nat:=l.foldl (λa c=>10*a+(c.toNat-48)) a
theorem v6x{n:Nat}(h:n<10):dgB (UInt8.ofNat (48+n))=true/\(UInt8.ofNat (48+n)).toNat=48+n:=by
 have e:(UInt8.ofNat (48+n)).toNat=48+n:=by
  rw[UInt8.toNat_ofNat'];exact Nat.mod_eq_of_lt (by omega)
 exact⟨by unfold dgB;rw[e,decide_eq_true (by omega),decide_eq_true (by omega)];rfl,e⟩
theorem x4l:∀(f n:Nat),n<10^(f+1)->(q3o (f+1) n).all dgB=true/\(∀a,k2b a (q3o (f+1) n)=a*10^(q3o (f+1) n).length+n)/\q3o (f+1) n≠[]
 | 0,n,h=>by
  have h10:n<10:=by simpa using h
  obtain⟨k1,k2⟩:=v6x h10;rw[q3o,if_pos h10];refine⟨by simp only[all_cons,all_nil,k1,Bool.and_self],λa => ?_,by simp⟩;simp only[k2b,foldl_cons,foldl_nil,k2,length_cons,length_nil];omega
 | f+1,n,h=>by
  rw[q3o];split
  . rename_i h10
    obtain⟨k1,k2⟩:=v6x h10;refine⟨by simp only[all_cons,all_nil,k1,Bool.and_self],λa => ?_,by simp⟩;simp only[k2b,foldl_cons,foldl_nil,k2,length_cons,length_nil];omega
  . obtain⟨k1,k2,k3⟩:=x4l f (n/10) (by rw[pow_succ]at h;omega)
    obtain⟨k4,k5⟩:=v6x (n:=n%10) (by omega);refine⟨by simp only[List.all_append,all_cons,all_nil,k1,k4,Bool.and_self],λa => ?_,by simp⟩;have:=k2 a;unfold k2b at this ⊢;rw[List.foldl_append,this];simp only[foldl_cons,foldl_nil,k5,jf,pow_succ];rw[Nat.mul_add,<-mul_assoc,Nat.mul_comm 10,mul_assoc,Nat.mul_comm 10];omega
theorem y2q:∀(f n k:Nat),1<=k->n<10^k->(q3o f n).length<=k
 | 0,n,k,hk,h=>zero_le _
 | f+1,n,k,hk,h=>by
  rw[q3o];split
  . simpa using hk
  . rename_i h10
    obtain⟨k,rfl⟩:∃k',k=k'+1:=⟨k-1,by omega⟩
    have hk1:1<=k:=by
     rcases Nat.eq_zero_or_pos k with rfl|h'
     . exfalso;rw[show 10^(0+1)=10 from rfl]at h;omega
     . exact h'
    have:=y2q f (n/10) k hk1 (by rw[pow_succ]at h;omega);simp only[jf];omega
theorem v6v{c:UInt8}(h:dgB c=true):c.toNat<128/\48<=c.toNat/\c.toNat<=57:=by
 unfold dgB at h;simp only[and_eq_true,decide_eq_true_eq]at h;omega
theorem b5b(s:List UInt8):∀(r pre:List UInt8) (p n a:Nat),r.all dgB=true->pre.length=p->r.length<n->(a+1)*10^r.length<=1000000000 ->
 qc q5m n (s,(a:Int),(pre++r,(p:Int)),())=some (.inr (s,((k2b a r:Nat):Int),()))
 | [],pre,p,n+1,a,hd,hp,hn,hb=>by
  refine qe ?_;simp only[q5m,append_nil,toNat_natCast];rw[decide_eq_false (by omega)];rfl
 | c::r,pre,p,n+1,a,hd,hp,hn,hb=>by
  simp only[all_cons,and_eq_true]at hd;simp only[length_cons]at hn hb;obtain⟨h1,h2,h3⟩:=v6v hd.1;have hlt:p<(pre++c::r).length:=by simp[hp]
  have hg:(pre++c::r)[p]=c:=by subst hp;simp
  have h10:1<=10^r.length:=Nat.pow_pos (by decide);have ha:(a+1)*10<=1000000000:=by
   rw[pow_succ,<-mul_assoc]at hb;have:=Nat.mul_le_mul_left (a+1) h10;omega
  rw[qm (v':=(s,((10*a+(c.toNat-48):Nat):Int),(pre++c::r,((p+1:Nat):Int)),())) ?_]
  . rw[show pre++c::r=(pre++[c])++r by simp,b5b s r (pre++[c]) (p+1) n (10*a+(c.toNat-48)) hd.2 (by simp[hp]) (by omega) ?_]
    . rfl
    . rw[pow_succ,<-mul_assoc]at hb
      have:(10*a+(c.toNat-48)+1)<=(a+1)*10:=by omega
      have:=Nat.mul_le_mul_right (10^r.length) this;rw[Nat.mul_right_comm]at this;omega
  . have e0:yw (pre++c::r) p=(c.toNat,1):=by rw[v6u hlt (by rw[hg];exact h1),hg]
    clear hb hg h10 hn;generalize c.toNat=m at e0 h1 h2 h3;simp only[q5m,toNat_natCast,e0];have e1:=qg (n:=10*(a:Int)) (by omega);have e2:=k2c (n:=(m:Int)-48) (by omega);have e3:=qg (n:=(m:Int)-48) (by omega);have e4:=qg (n:=10*(a:Int)+((m:Int)-48)) (by omega);simp only[e1,e2,e3,e4];rw[decide_eq_true hlt,decide_eq_false (by omega),decide_eq_false (by omega)];simp only[cond_true,cond_false];rw[show (10*(a:Int)+((m:Int)-48))=((10*a+(m-48):Nat):Int) by omega]
theorem z9d(n:Nat)(hn:n<=16777216):C65 ((n:Int),())=some (xw (n:Int),())/\(xw (n:Int)).all dgB=true/\xw (n:Int)≠[]/\(xw (n:Int)).length<=8/\q7j (xw (n:Int),())=some ((n:Int),0,()):=by
 have e:xw (n:Int)=q3o (19+1) n:=by unfold xw;rw[if_neg (by omega),toNat_natCast]
 obtain⟨h1,h2,h3⟩:=x4l 19 n (by omega);have h4:=y2q (19+1) n 8 (by decide) (by omega);have h5:=h2 0;have hC:C65 ((n:Int),())=some (xw (n:Int),()):=if_pos ⟨by(try dsimp only);omega,by(try dsimp only);omega⟩;refine⟨hC,?_⟩;clear hC;rw[e];generalize q3o (19+1) n=l at h1 h3 h4 h5;rw[Nat.zero_mul,Nat.zero_add]at h5;refine⟨h1,h3,h4,?_⟩
 . have hl:q5b (l,0,(l,0),())=some (.inr (l,(n:Int),())):=by
    have:=b5b l l [] 0 qz 0 h1 rfl (by unfold qz;omega) (by
     have:10^l.length<=10^8:=Nat.pow_le_pow_right (by decide) h4;omega)
    rw[h5]at this;exact this
   show v4e q5b _=_;simp only[v4e];have hl':q5b (l,0,(l,((0:Nat):Int)),())=some (.inr (l,(n:Int),())):=hl;first|rw[hl']|rw[hl]
   simp only[Option.bind_some,elim_inr];rw[beq_eq_false_iff_ne.2 h3,decide_eq_false (by omega),decide_eq_false (by omega)];rfl
def Cd(e:Int):Prop:=e=0\/e=501\/e=552\/e=553\/e=555
theorem m4l(s:List UInt8)(hs:s.length<=1000000):Df (q7j (s,())) (λy=>(y.2.1=0->0<=y.1/\y.1<=16777216)/\Cd y.2.1):=by
 unfold q7j v4e;dsimp only;refine dZ (P:=Sum.elim (λy=>y.2.1=501) (λy=>y.1=s/\(s.length<=8->0<=y.2.1))) ?_ ?_
 . refine dL ?I ?m ?h _ ?hv ?hn
   case I=>exact(λv=>v.1=s/\v.2.2.1.1=s/\0<=v.2.2.1.2/\∃m:Nat,(m:Int)<=v.2.2.1.2/\m<=s.length/\(m<=8->0<=v.2.1/\v.2.1<(10^m:Nat)))
   case m=>exact(λv=>s.length-v.2.2.1.2.toNat)
   case hv=>exact⟨rfl,rfl,Int.le_refl _,0,Int.le_refl _,zero_le _,λ_=>⟨Int.le_refl _,(show (0:Int)<((10^0:Nat):Int) by decide)⟩⟩
   case hn=>exact(by(try dsimp only);omega)
   rintro⟨a,n,⟨t,k⟩,u⟩ ⟨h1,h2,h3,m,h4,h5,h6⟩;dsimp only at h1 h2 h3 h4 h5 h6;subst h1;subst h2;unfold q5m;dsimp only;with_reducible repeat' (first|apply dP|apply dX<;>intro _)
   . rfl
   . rfl
   . rename_i hk h7 h8
     have:=j3c t k.toNat
     generalize hd:(yw t k.toNat).1=d at h7 h8;refine⟨⟨rfl,rfl,by(try dsimp only);omega,m+1,by(try dsimp only);omega,by omega,λhm => ?_⟩,by(try dsimp only);omega⟩;obtain⟨g1,g2⟩:=h6 (by omega);have h10:10^m<=10^7:=Nat.pow_le_pow_right (by decide) (by omega);have e:10^(m+1)=10^m*10:=pow_succ ..;rw[e];generalize 10^m=P at g2 h10;have f1:=qg (n:=10*n) (by omega);have f2:=k2c (n:=(d:Int)-48) (by omega);have f3:=qg (n:=(d:Int)-48) (by omega);have f4:=qg (n:=10*n+((d:Int)-48)) (by omega);dsimp only;rw[f1,f2,f3,f4];omega
   . exact⟨rfl,λhl=>(h6 (by omega)).1⟩
 . rintro z hz
   cases z with
   | inl z =>
    refine dP ⟨λh => ?_,.inr (.inl hz)⟩;have h':z.2.1=501:=hz;have h0:z.2.1=0:=h;omega
   | inr z =>
    obtain⟨t,n,u⟩:=z;obtain⟨hts,h⟩:=hz;dsimp only at hts h;subst hts;dsimp only[elim_inr];with_reducible repeat' (first|apply dP|apply dX<;>intro _)
    . exact⟨λh=>(by cases h),.inr (.inl rfl)⟩
    . exact⟨λh=>(by cases h),.inr (.inl rfl)⟩
    . exact⟨λh=>(by cases h),.inr (.inr (.inl rfl))⟩
    . rename_i h1 h2 h3
      exact⟨λ_=>⟨h (by omega),by(try dsimp only);omega⟩,.inl rfl⟩
theorem b4h(s:List UInt8)(hs:s.length<=1000000):Df (y0z (s,())) (λ_=>True):=by
 unfold y0z v4j;dsimp only;refine dZ (P:=λ_=>True) ?_ (λ_ _=>dP trivial);unfold z5j y5r;dsimp only;refine dZ (P:=λ_=>True) ?_ (λ_ _=>dP trivial);unfold z5m y5s;dsimp only;refine dZ (P:=λ_=>True) ?_ (λz _=>by cases z<;>exact dP trivial);refine dL ?I ?m ?h _ ?hv ?hn
 case I=>exact(λv=>v.2.1.1=s/\0<=v.2.1.2)
 case m=>exact(λv=>s.length-v.2.1.2.toNat)
 case hv=>exact⟨rfl,Int.le_refl _⟩
 case hn=>exact(by(try dsimp only);omega)
 rintro⟨b,⟨t,k⟩,u⟩ ⟨h1,h2⟩;dsimp only at h1 h2;subst h1;unfold j4k;dsimp only;with_reducible repeat' (first|apply dP|apply dX<;>intro _)
 . refine dZ (d6h _) ?_
   rintro⟨c,u⟩ -
   dsimp only;with_reducible repeat' (first|apply dP|apply dX<;>intro _)
   . trivial
   . have:=j3c t k.toNat
     exact⟨⟨rfl,by(try dsimp only);omega⟩,by(try dsimp only);omega⟩
 . trivial
theorem d66(s:List UInt8)(hs:s.length<=1000000):Df (C66 (s,())) (λy=>y.1=true->s.length<=255):=by
 unfold C66 F66;dsimp only;with_reducible repeat' (first|apply dP|apply dX<;>intro _)
 . refine dZ (b4h s hs) ?_
   rintro⟨b,u⟩ -
   exact dP λ_=>by omega
 . intro h;cases h
 . intro h;cases h
section
variable {T:List R6} {A:List R4} {B:List R3}
def Mc(v:Int)(n:List UInt8)(nl:Bool)(x y:List UInt8)(c:Cmd):Prop:=∃sz e8 u8,c=(v,n,nl,x,y,sz,e8,u8,()) /\ -1<=sz/\sz<=16777216
theorem f5l(s k w:List UInt8)(b:Bool)(v:Int)(n:List UInt8)(nl:Bool)(x y:List UInt8)(sz:Int)(e8 u8:Bool)(hw:w.length<=1000000)(hz : -1<=sz/\sz<=16777216) :
 Df (q2c (s,k,w,b,v,n,nl,x,y,sz,e8,u8,())) (Sum.elim (λz=>(z.2.1=0->Mc v n nl x y z.2.2)/\Cd z.2.1) (λz=>Mc v n nl x y z.2)):=by
 unfold q2c j0o;dsimp only;with_reducible repeat' (first|apply dP|apply dX<;>intro _)
 . refine dZ (m4l w hw) ?_
   rintro⟨m,e,u⟩ ⟨h1,h2⟩;refine dP ⟨λh=>⟨m,e8,u8,rfl,?_⟩,h2⟩;have:=h1 h;dsimp only at this;omega
 . exact⟨sz,true,u8,rfl,hz⟩
 . exact⟨sz,e8,true,rfl,hz⟩
 . exact⟨λh=>(by cases h),.inr (.inl rfl)⟩
 . exact⟨sz,e8,u8,rfl,hz⟩
theorem f5m(s k w:List UInt8)(b b2:Bool)(v:Int)(n:List UInt8)(nl:Bool)(x y:List UInt8)(sz:Int)(e8 u8:Bool)(hw:w.length<=1000000)(hz : -1<=sz/\sz<=16777216) :
 Df (kr (s,k,w,b,b2,v,n,nl,x,y,sz,e8,u8,())) (Sum.elim (λz=>(z.2.1=0->Mc v n nl x y z.2.2)/\Cd z.2.1) (λz=>Mc v n nl x y z.2)):=by
 unfold kr j0p;dsimp only;with_reducible repeat' (first|apply dP|apply dX<;>intro _)
 . exact⟨λh=>(by cases h),.inr (.inr (.inr (.inr rfl)))⟩
 all_goals
  refine dZ (f5l s k w _ v n nl x y sz e8 u8 hw hz) ?_;intro z hz';cases z with
  | inl z=>exact dP hz'
  | inr z=>exact dP hz'
theorem m4k(p:List UInt8)(hp:p.length<=100000)(v:Int)(n:List UInt8)(nl:Bool)(x y:List UInt8)(sz:Int)(e8 u8:Bool)(hz : -1<=sz/\sz<=16777216) :
 Df (q8a (p,v,n,nl,x,y,sz,e8,u8,())) (λz=>(z.2.1=0->Mc v n nl x y z.2.2)/\Cd z.2.1):=by
 unfold q8a z6t;dsimp only;rw[p25 p (by omega),show p.map yc=lw p from rfl];have hl:(lw p).length<=100000:=by rw[z9l];exact hp
 generalize lw p=q at hl;simp only[Option.bind_some];rw[k8f q 61 (by omega)];simp only[Option.bind_some];have hw:(sel q 61).2.1.length<=1000000:=by
  unfold sel;split
  . simp only[length_drop];omega
  . exact zero_le _
 with_reducible repeat' (first|apply dP|apply dX<;>intro _)
 all_goals
  refine dZ (f5m q _ _ _ _ v n nl x y sz e8 u8 hw hz) ?_;intro z hz';cases z with
  | inl z=>exact dP hz'
  | inr z=>exact dP ⟨λ_=>hz',.inl rfl⟩
theorem m4j(s:List UInt8)(hs:s.length<=1000)(v:Int)(n:List UInt8)(nl:Bool)(x y:List UInt8)(c:Cmd)(hc:Mc v n nl x y c):Df (j3z (s,c)) (λz=>(z.1=0->Mc v n nl x y z.2)/\Cd z.1):=by
 obtain⟨sz,e8,u8,rfl,hz⟩:=hc;unfold j3z v3w;dsimp only;rw[k8g];by_cases h:s.take 1=[32]
 . simp only[if_pos h,Option.bind_some,Bool.not_true,cond_false]
   rw[b2l 32 (s.drop 1) (by simp only[length_drop];omega)];have hl:=j9j 32 (s.drop 1);have hle:(s.drop 1).count 32<=(s.drop 1).length:=List.count_le_length;have hpl:=k1p 32 (s.drop 1);have hd:(s.drop 1).length<=1000:=by simp only[length_drop];omega
   generalize spl 32 (s.drop 1)=ps at hl hpl;simp only[Option.bind_some];refine dZ (P:=Sum.elim (λz=>Mc v n nl x y z) (λz=>(z.1=0->Mc v n nl x y z.2)/\Cd z.1)) ?_ ?_
   . refine dL ?I ?m ?h _ ?hv ?hn
     case I=>exact(λv'=>∃(k:Nat) (c:Cmd) (had:List (List UInt8)),had.length=k/\Mc v n nl x y c/\v'=(ps,(ps.length:Int),(k:Int),c.1,c.2.1,c.2.2.1,c.2.2.2.1,c.2.2.2.2.1,c.2.2.2.2.2.1,c.2.2.2.2.2.2.1,c.2.2.2.2.2.2.2.1,had,()))
     case m=>exact(λv'=>(ps.length-v'.2.2.1).toNat)
     case hv=>exact⟨0,(v,n,nl,x,y,sz,e8,u8,()),[],rfl,⟨sz,e8,u8,rfl,hz⟩,rfl⟩
     case hn=>exact(by(try dsimp only);omega)
     rintro _ ⟨k,_,had,hh,⟨sz,e8,u8,rfl,hz⟩,rfl⟩;unfold q5h;dsimp only;with_reducible repeat' (first|apply dP|apply dX<;>intro _)
     . rename_i hk _
       have hq:(ps.getD ((k:Int)).toNat []).length<=1000:=by
        rw[getD_lt (by omega)];have:=hpl _ (getElem_mem (show ((k:Int)).toNat<ps.length by omega));omega
       refine dZ (m4k _ (by omega) v n nl x y sz e8 u8 hz) ?_;rintro⟨key,e,c⟩ ⟨g1,g2⟩;dsimp only at g1 g2 ⊢;refine dZ (d93 had key (by omega)) ?_;rintro⟨b,u⟩ -
       dsimp only;with_reducible repeat' (first|apply dP|apply dX<;>intro _)
       . exact⟨λh=>(by cases h),.inr (.inl rfl)⟩
       . rename_i _ h0
         exact⟨λh=>((by simpa using h0:e≠0) h).elim,g2⟩
       . rename_i _ h0 _
         rw[wrN k (by omega)];exact⟨⟨k+1,c,had++[key],by simp[hh],g1 (by simpa using h0),rfl⟩,by(try dsimp only);omega⟩
       . refine dO ?_;rename_i hn;simp only[length_cons,length_nil]at hn;omega
     . refine dO ?_;omega
     . exact⟨sz,e8,u8,rfl,hz⟩
   . intro z hz'
     cases z with
     | inl z=>exact dP ⟨λ_=>hz',.inl rfl⟩
     | inr z=>exact dP hz'
 . simp only[if_neg h,Option.bind_some,Bool.not_false,cond_true]
   exact dP ⟨λh=>(by cases h),.inr (.inl rfl)⟩
def Pa(z:Int×Bool×List UInt8×List UInt8×Unit):Prop:=Asc z.2.2.1/\Asc z.2.2.2.1
theorem b2f(l:List Tok)(hA:q7x l)(hz:szT l+l.length<=1030)(k:Int)(y b:List UInt8) :
 Pf (xm (k,l,4,T,A,B,false,[],[],false,y,b,())) (Sum.elim (λz=>z=(4,false,[],[],())) Pa):=by
 unfold xm q8h;dsimp only;refine pX (λ_ => ?_) (λ_=>pN);refine pX (λ_ => ?_) (λ_=>pN);have z1:=q4u k.toNat l;have z2:=xv 1 (l.take k.toNat);have z3:((l.take k.toNat).drop 1).length<=l.length:=by simp only[length_drop,length_take];omega
 have hA':=(hA.take k.toNat).drop 1;generalize (l.take k.toNat).drop 1=m at z2 z3 hA';rw[c71 m (by omega)];cases hm:mt m with
 | none=>exact pP rfl
 | some r =>
  dsimp only;simp only[Option.bind_some,Bool.not_true,cond_false];refine pX (λ_=>pP rfl) (λ_ => ?_);refine pZ (P:=Pa) ?_ (λz hz=>pP hz);unfold q3t q8g;dsimp only;refine pZ pT ?_;rintro⟨e,u⟩ -
  dsimp only;exact pX (λ_=>pP (g9j hA' hm)) (λ_=>pP ⟨yf,yf⟩)
theorem b2g(l:List Tok)(hA:q7x l)(hz:szT l+l.length<=1030)(k:Int) :
 Pf (xn (k,l,4,T,A,B,false,[],[],false,[],[],())) (Sum.elim Pa (λz=>z=(4,false,[],[],()))):=by
 unfold xn q2k;dsimp only;refine pX (λ_=>pP ⟨yf,yf⟩) (λ_ => ?_);refine pX (λh1 => ?_) (λ_=>pN);have jh:∀y b,Pf ((xm (k,l,4,T,A,B,false,[],[],false,y,b,())).bind λval=>Sum.elim (λval=>some (Sum.inr (val.fst,val.snd.fst,val.snd.snd.fst,val.snd.snd.snd.fst,()))) (λval=>some (Sum.inl (val.fst,val.snd.fst,val.snd.snd.fst,val.snd.snd.snd.fst,()))) val) (Sum.elim Pa (λz=>z=(4,false,[],[],()))):=by
  intro y b;refine pZ (b2f l hA hz k y b) ?_;intro z hz;refine pS hz ?_ ?_
  . rintro z h
    exact pP h
  . rintro⟨z0,z1,z2,z3,u⟩ h
    exact pP h
 have ha1:Asc (l.getD 1 (0,([],0))).2.1:=by
  rw[getD_lt (by omega)];exact hA _ (getElem_mem _)
 refine pX (λ_ => ?_) (λ_=>jh _ _);refine pX (λ_ => ?_) (λ_=>pN);refine pX (λ_ => ?_) (λ_=>jh _ _);refine pZ pT ?_;rintro⟨w,u⟩ -
 dsimp only;exact pX (λ_=>pP ⟨ha1,yf⟩) (λ_=>jh _ _)
theorem a40(s:List UInt8)(ha:Asc s)(hs:s.length<=512):Pf (C40 (T,A,B,s,())) (λy=>Asc y.2.1/\Asc y.2.2.1):=by
 unfold C40 F40;dsimp only;rw[c11 s];have hz:=z9g s;have hA:=v5q ha;generalize q1o s=R at hz hA;obtain⟨l,o,e⟩:=R;dsimp only at hz hA ⊢;simp only[Option.bind_some,m4f];have bad:Asc ([]:List UInt8)/\Asc ([]:List UInt8):=⟨yf,yf⟩
 have jh:∀k,Pf ((xn (k,l,4,T,A,B,false,[],[],false,[],[],())).bind λval=>Sum.elim (λval=>some (val.snd.fst,val.snd.snd.fst,val.snd.snd.snd.fst,val.fst,())) (λval=>some (false,[],[],val.fst,())) val) (λy=>Asc y.2.1/\Asc y.2.2.1):=by
  intro k;refine pZ (b2g l hA (by omega) k) ?_;intro z hz;refine pS hz ?_ ?_
  . rintro⟨z0,z1,z2,z3,u⟩ h
    exact pP h
  . rintro⟨z0,z1,z2,z3,u⟩ h
    exact pP bad
 refine pX (λhe=>pP bad) (λ_ => ?_);refine pX (λ_=>pP bad) (λ_ => ?_);refine pX (λ_ => ?_) (λ_=>pN);refine pZ pT ?_;rintro⟨w,u⟩ -
 dsimp only;refine pX (λ_=>pP bad) (λ_ => ?_);refine pX (λ_ => ?_) (λ_=>pN);refine pZ pT ?_;rintro⟨w,u⟩ -
 dsimp only;refine pX (λ_=>pP bad) (λ_ => ?_);refine pX (λ_ => ?_) (λ_=>pN);refine pX (λ_ => ?_) (λ_=>pN);refine pZ pT ?_;rintro⟨w,u⟩ -
 dsimp only;exact pX (λ_=>pP bad) (λ_=>jh _)
def PR(T:List R6)(A:List R4)(B:List R3)(n:Bool)(a b:List UInt8):Prop:=C20 (T,A,B,n,a,b,())=some (0,())/\a.length<=1100/\b.length<=1100
theorem d0n(h:TK T A B){s:List UInt8}(hs:s.length<=512)(w:List UInt8)(hw:w.length<=1000)(v:Int) :
 Df (q9d (T,A,B,s,w,c0 v)) (λz=>Cd z.2.2.1/\z.1.length<=512/\z.2.1.length<=512/\(z.2.2.1=0->∃n a b,z.2.2.2=(v,[],n,a,b,-1,false,false,())/\PR T A B n a b/\(Asc z.1->Asc a/\Asc b)/\(v=3->n=false))):=by
 unfold c0;unfold q9d v3v;dsimp only;rw[c97 s w (by omega) (by omega)];have hl:(bif q8p s w then s.drop w.length else []).length<=s.length:=by
  cases q8p s w
  . exact zero_le _
  . simp only[cond_true,length_drop];omega
 generalize (bif q8p s w then s.drop w.length else [])=t at hl;simp only[Option.bind_some];rw[b2p t (by omega)];have hp:=v7j _ t false false 0 (le_refl _);generalize ep t false false 0=p at hp;simp only[Option.bind_some,toNat_natCast];have bad:∀e:Int,Cd e->e≠0->Df (some (([]:List UInt8),([]:List UInt8),e,v,([]:List UInt8),false,([]:List UInt8),([]:List UInt8),(-1:Int),false,false,())) (λz=>Cd z.2.2.1/\z.1.length<=512/\z.2.1.length<=512/\(z.2.2.1=0->∃n a b,z.2.2.2=(v,[],n,a,b,-1,false,false,())/\PR T A B n a b/\(Asc z.1->Asc a/\Asc b)/\(v=3->n=false))):=λe he h0=>dP ⟨he,zero_le _,zero_le _,λh=>(h0 h).elim⟩;refine dX (λ_=>bad 501 (.inr (.inl rfl)) (by decide)) (λ_ => ?_);refine dX (λ_=>bad 501 (.inr (.inl rfl)) (by decide)) (λ_ => ?_);refine dX (λ_ => ?_) (λhn=>by omega);obtain⟨y,e40,-⟩:=d40 h (t.take p) (by simp only[length_take];omega);have hq:=p40 (t.take p) (by simp only[length_take];omega) _ e40;have hqa:=λha=>a40 (t.take p) ha (by simp only[length_take];omega) _ e40;rw[e40];obtain⟨n,a,b,e,u⟩:=y;obtain⟨k1,-⟩:=hq;dsimp only at k1 hqa;simp only[Option.bind_some];refine dX (λ_=>bad 553 (.inr (.inr (.inr (.inl rfl)))) (by decide)) (λhe => ?_);have he0:e=0:=by simpa using he
 obtain⟨g1,g2,g3⟩:=k1 he0;have jh:∀n',(v=3->n'=false)->n=n'->Df (some (t.take p,t.drop p,(0:Int),v,([]:List UInt8),n',a,b,(-1:Int),false,false,())) (λz=>Cd z.2.2.1/\z.1.length<=512/\z.2.1.length<=512/\(z.2.2.1=0->∃n a b,z.2.2.2=(v,[],n,a,b,-1,false,false,())/\PR T A B n a b/\(Asc z.1->Asc a/\Asc b)/\(v=3->n=false))):=by
  intro n' hn e;subst e;exact dP ⟨.inl rfl,(show (t.take p).length<=512 by simp only[length_take];omega),(show (t.drop p).length<=512 by simp only[length_drop];omega),λ_=>⟨n,a,b,rfl,⟨g1,g2,g3⟩,hqa,hn⟩⟩
 refine dB (λhn => ?_) (λhn => ?_)
 . refine dX (λ_=>bad 553 (.inr (.inr (.inr (.inl rfl)))) (by decide)) (λh3 => ?_)
   refine dX (λ_ => ?_) (λhn=>by omega);exact dX (λ_=>jh n (λh=>by omega) rfl) (λhn=>by omega)
 . refine dX (λ_ => ?_) (λhn=>by omega)
   exact dX (λ_=>jh n (λ_=>hn) rfl) (λhn=>by omega)
def Cok(T:List R6)(A:List R4)(B:List R3)(c:Cmd):Prop :=
 (∃v n,(v=0\/v=1)/\c=(v,n,false,[],[],-1,false,false,())/\C66 (n,())=some (true,())) \/
 (∃n a b sz e8 u8,c=(2,[],n,a,b,sz,e8,u8,())/\(-1<=sz/\sz<=16777216)/\PR T A B n a b) \/
 (∃a b,c=(3,[],false,a,b,-1,false,false,())/\PR T A B false a b)\/(∃v,(4<=v/\v<=7)/\c=c0 v)
def Lq(T:List R6)(A:List R4)(B:List R3)(z:Int×Cmd):Prop :=
 Cd z.1/\(z.1=0->Cok T A B z.2/\(z.2.1=2->z.2.2.2.2.2.2.2.2.1=false->Asc z.2.2.2.2.1/\Asc z.2.2.2.2.2.1))
theorem q98{s:List UInt8}(hs:s.length<=512)(v:Int)(hv:v=0\/v=1):Df (C98 (T,A,B,s,c0 v)) (Lq T A B):=by
 unfold c0;unfold C98 F98;dsimp only;rw[k8g];by_cases h:s.take 1=[32]
 . simp only[if_pos h,Option.bind_some,Bool.not_true,cond_false]
   obtain⟨⟨b,u⟩,e66,-⟩:=d66 (s.drop 1) (by simp only[length_drop];omega);rw[e66];simp only[Option.bind_some];cases b with
   | false=>exact dP ⟨.inr (.inl rfl),λh=>by cases h⟩
   | true=>exact dP ⟨.inl rfl,λ_=>⟨.inl ⟨v,s.drop 1,hv,rfl,e66⟩,λh2=>by dsimp only at h2;omega⟩⟩
 . simp only[if_neg h,Option.bind_some,Bool.not_false,cond_true]
   exact dP ⟨.inr (.inl rfl),λh=>by cases h⟩
theorem q99(h:TK T A B){s:List UInt8}(hs:s.length<=512):Df (C99 (T,A,B,s,c0 2)) (Lq T A B):=by
 unfold c0;unfold C99 F99;dsimp only;refine dZ (d0n h hs [32,70,82,79,77,58] (by simp) 2) ?_;rintro⟨t,r,e,c⟩ ⟨k1,k2,k3,k4⟩;dsimp only at k1 k2 k3 k4 ⊢;have jh:∀z:Int×Cmd,Cd z.1->(z.1=0->∃n a b,Mc 2 [] n a b z.2/\PR T A B n a b/\(Asc t->Asc a/\Asc b))->Df ((q8f (t,z)).bind λval=>some (val.1,val.2.1,val.2.2.1,val.2.2.2.1,val.2.2.2.2.1,val.2.2.2.2.2.1,val.2.2.2.2.2.2.1,val.2.2.2.2.2.2.2.1,val.2.2.2.2.2.2.2.2.1,())) (Lq T A B):=by
  rintro⟨e,v,n,nl,a,b,sz,e8,u8,u⟩ hd hz;dsimp only at hd hz;refine dZ (P:=Lq T A B) ?_ (λz hz=>dP hz);unfold q8f z0c;dsimp only;have good:e=0->(u8=false->Asc t)->Lq T A B (e,v,n,nl,a,b,sz,e8,u8,()):=by
   intro h0 hA;refine⟨.inl h0,λ_ => ?_⟩;obtain⟨n',a',b',⟨sz',e8',u8',hc,hs⟩,hp,ha⟩:=hz h0;simp only[Prod.mk.injEq,and_true]at hc;obtain⟨rfl,rfl,rfl,rfl,rfl,rfl,rfl,rfl⟩:=hc;exact⟨.inr (.inl ⟨_,_,_,_,_,_,rfl,hs,hp⟩),λ_ h8=>ha (hA h8)⟩
  refine dX (λh0 => ?_) (λh0=>dP ⟨hd,λh=>((by simpa using h0:e≠0) h).elim⟩);have h0':e=0:=by simpa using h0
  refine dX (λh8 => ?_) (λh8=>dP (good h0' (λh=>by rw[h8]at h;cases h)));refine dZ (g9s t (by omega)) ?_;rintro⟨i,u⟩ ⟨g1,g2⟩;dsimp only at g1 g2 ⊢;exact dX (λ_=>dP ⟨.inr (.inr (.inr (.inl rfl))),λh=>by cases h⟩) (λhi=>dP (good h0' (λ_=>g1 (by omega))))
 refine dX (λh0 => ?_) (λh0=>jh (e,c) k1 (λh=>((by simpa using h0:e≠0) h).elim));obtain⟨n,a,b,rfl,hp,ha,-⟩:=k4 (by simpa using h0);refine dX (λ_ => ?_) (λ_=>jh (e,2,[],n,a,b,-1,false,false,()) k1 (λ_=>⟨n,a,b,⟨_,_,_,rfl,by omega,by omega⟩,hp,ha⟩));refine dZ (m4j r (by omega) 2 [] n a b _ ⟨-1,false,false,rfl,by decide,by decide⟩) ?_;rintro z ⟨g1,g2⟩;exact jh z g2 (λh=>⟨n,a,b,g1 h,hp,ha⟩)
theorem m4h(h:TK T A B){s:List UInt8}(hs:s.length<=512):Df (y0h (T,A,B,s,c0 3)) (Lq T A B):=by
 unfold c0;unfold y0h v3s;dsimp only;refine dZ (d0n h hs [32,84,79,58] (by simp) 3) ?_;rintro⟨t,r,e,c⟩ ⟨k1,k2,k3,k4⟩;dsimp only at k1 k2 k3 k4 ⊢;have good:Lq T A B (e,c):=by
  refine⟨k1,λh0 => ?_⟩;obtain⟨n,a,b,rfl,hp,ha,hn⟩:=k4 h0;have hn:=hn rfl;subst hn;exact⟨.inr (.inr (.inl ⟨a,b,rfl,hp⟩)),λh=>by cases h⟩
 refine dX (λh0 => ?_) (λh0=>dP good);exact dX (λ_=>dP ⟨.inr (.inr (.inr (.inr rfl))),λh=>by cases h⟩) (λ_=>dP good)
theorem ok0(v:Int)(hv:4<=v/\v<=7):Lq T A B (0,c0 v):=⟨.inl rfl,λ_=>⟨.inr (.inr (.inr ⟨v,hv,rfl⟩)),λh=>by have h':v=2:=h;omega⟩⟩
theorem f5k(s:List UInt8)(v:Int)(hv:4<=v/\v<=7):Df (z5g (T,A,B,s,c0 v)) (Lq T A B):=by
 unfold c0;unfold z5g g6u;dsimp only;exact dX (λ_=>dP ⟨.inr (.inl rfl),λh=>by cases h⟩) (λ_=>dP (ok0 v hv))
theorem m4i(s:List UInt8)(v:Int)(hv:4<=v/\v<=7):Df (y5a (T,A,B,s,c0 v)) (Lq T A B):=by
 unfold c0;unfold y5a g6v;dsimp only;exact dP (ok0 v hv)
def Lz(T:List R6)(A:List R4)(B:List R3)(y:Int×List UInt8×Bool×List UInt8×List UInt8×Int×Bool×Bool×Int×Unit):Prop :=
 (y.2.2.2.2.2.2.2.2.1≠0->500<=y.2.2.2.2.2.2.2.2.1/\y.2.2.2.2.2.2.2.2.1<556/\y=(0,[],false,[],[],-1,false,false,y.2.2.2.2.2.2.2.2.1,())) /\
 (y.2.2.2.2.2.2.2.2.1=0->Lq T A B (0,y.1,y.2.1,y.2.2.1,y.2.2.2.1,y.2.2.2.2.1,y.2.2.2.2.2.1,y.2.2.2.2.2.2.1,y.2.2.2.2.2.2.2.1,()))
theorem q24(h:TK T A B){s:List UInt8}(hs:s.length<=1000):Df (C24 (T,A,B,s,())) (Lz T A B):=by
 unfold C24 F24;dsimp only;obtain⟨y,y',e61,-,-,g2,g3,g4⟩:=r61 s hs;rw[e61];obtain⟨v,u⟩:=y;dsimp only at g2 g3 g4;simp only[Option.bind_some];have bad:∀e:Int,500<=e->e<556->Df (some (0,[],false,[],[],-1,false,false,e,())) (Lz T A B):=λe h1 h2=>dP ⟨λ_=>⟨h1,h2,rfl⟩,λh=>by have h':e=0:=h;omega⟩;refine dX (λ_=>bad 500 (by omega) (by omega)) (λhl => ?_);refine dX (λ_=>bad 500 (by omega) (by omega)) (λhv => ?_);have h62:C62 ()=some ():=rfl;rw[h62];simp only[Option.bind_some];have h4:=g4 (by omega);have hs':(s.drop 4).length<=512:=by simp only[length_drop];omega
 have jh:∀{x:Option (Int×Cmd)},Df x (Lq T A B)->Df (x.bind λval=>bif val.1 != 0 then some (0,[],false,[],[],-1,false,false,val.1,())else some (val.2.1,val.2.2.1,val.2.2.2.1,val.2.2.2.2.1,val.2.2.2.2.2.1,val.2.2.2.2.2.2.1,val.2.2.2.2.2.2.2.1,val.2.2.2.2.2.2.2.2.1,0,())) (Lz T A B):=by
  intro x h;refine dZ h ?_;rintro⟨e,c⟩ hz;refine dX (λh0 => ?_) (λh0=>dP ⟨λh=>(h rfl).elim,λ_ => ?_⟩)
  . obtain⟨k1,-⟩:=hz
    have h0':e≠0:=by simpa using h0
    have k1':Cd e:=k1;refine bad e ?_ ?_
    . rcases k1' with h|h|h|h|h<;>omega
    . rcases k1' with h|h|h|h|h<;>omega
  . have h0':e=0:=by simpa using h0
    subst h0';exact hz
 refine dX (λe=>dX (λ_=>jh (q98 hs' v (.inl e))) (λhn=>by omega)) (λn0 => ?_);refine dX (λe=>dX (λ_=>jh (q98 hs' v (.inr e))) (λhn=>by omega)) (λn1 => ?_);refine dX (λe=>dX (λ_=>jh (by have e':v=2:=e;subst e';exact q99 h hs')) (λhn=>by omega)) (λn2 => ?_);refine dX (λe=>dX (λ_=>jh (by have e':v=3:=e;subst e';exact m4h h hs')) (λhn=>by omega)) (λn3 => ?_);refine dX (λ_=>dX (λ_=>jh (f5k _ v (by omega))) (λhn=>by omega)) (λn4 => ?_);refine dX (λ_=>dX (λ_=>jh (f5k _ v (by omega))) (λhn=>by omega)) (λn5 => ?_);refine dX (λ_=>dX (λ_=>jh (m4i _ v (by omega))) (λhn=>by omega)) (λn6 => ?_);refine dX (λ_=>dX (λ_=>jh (f5k _ v (by omega))) (λhn=>by omega)) (λn7 => ?_);omega
end
def wd:Nat->List UInt8
 | 0=>[69,72,76,79]|1=>[72,69,76,79]|2=>[77,65,73,76]|3=>[82,67,80,84]|4=>[68,65,84,65]|5=>[82,83,69,84]|6=>[78,79,79,80]|_=>[81,85,73,84]
theorem m4o:((List.range 8).all λu=>(List.range 8).all λv=>(lw (wd v)==lw (wd u))==decide (u=v))=true:=by kernel_rfl
theorem d0r{u v:Nat}(hu:u<8)(hv:v<8):(lw (wd v)==lw (wd u))=decide (u=v):=by
 have h:=all_eq_true.1 (all_eq_true.1 m4o u (List.mem_range.2 hu)) v (List.mem_range.2 hv);exact eq_of_beq h
theorem wd4{v:Nat}(hv:v<8):(wd v).length=4:=by
 rcases v with _|_|_|_|_|_|_|_|v<;>first|rfl|omega
theorem v6k{u v:Nat}(hu:u<8)(hv:v<8)(r:List UInt8):q8p (wd v++r) (wd u)=decide (u=v):=by
 unfold q8p;rw[wd4 hu,<-wd4 hv,take_left,d0r hu hv,decide_eq_true (by simp),Bool.true_and]
theorem v6j(w x:List UInt8):q8p (w++x) w=true:=by
 unfold q8p;rw[take_left,beq_self_eq_true,decide_eq_true (by simp)];rfl
def stG(s:List UInt8)(u:Nat):Option (W10⊕(Unit⊕(Int×Unit))):=(C97 (s,wd u,())).bind λval=>bif val.2.1 then bif val.1==[]then some (Sum.inr (Sum.inr ((u:Int),())))else(C96 (val.1,[32],())).bind λval=>bif val.1 then some (Sum.inr (Sum.inr ((u:Int),())))else some (Sum.inl (stW s (IntKind.i64.wrap ((u:Int)+1))))else some (Sum.inl (stW s (IntKind.i64.wrap ((u:Int)+1))))
theorem f61(s:List UInt8){u:Nat}(hu:u<8):z0a C96 C97 (stW s (u:Int))=stG s u:=by
 rcases u with _|_|_|_|_|_|_|_|u<;>first|rfl|omega
theorem d6f(r:List UInt8):C96 (32::r,[32],())=some (true,()):=by
 have h:q3l (32::r,[32],())=some (true,()):=by
  show j4j _=_;simp only[j4j,length_cons,length_nil];rw[decide_eq_true (by omega),decide_eq_true (by omega)];rfl
 show F96 q3l _=_;simp only[F96,h,Option.bind_some]
theorem d6c{v:Nat}(hv:v<8)(r:List UInt8)(hr:r=[]\/∃x,r=32::x)(hl:r.length<=1000):C61 (wd v++r,())=some ((v:Int),()):=by
 have h4:=wd4 hv;have hs:(wd v++r).length<=1000000:=by rw[length_append,h4];omega
 have go:∀j u n,u+j=v->j<n->qc (z0a C96 C97) n (stW (wd v++r) (u:Int))=some (.inr ((v:Int),())):=by
  intro j
  induction j with
  | zero =>
   intro u n hj hn;obtain⟨n,rfl⟩:∃n',n=n'+1:=⟨n-1,by omega⟩
   have hu:u=v:=by omega
   subst hu;refine qe ?_;rw[f61 _ hv];unfold stG;rw[c97 _ _ hs (by omega),v6k hv hv,decide_eq_true rfl,List.drop_left];simp only[Option.bind_some,cond_true];rcases hr with rfl|⟨x,rfl⟩
   . rfl
   . rw[d6f]
     rfl
  | succ j ih =>
   intro u n hj hn;obtain⟨n,rfl⟩:∃n',n=n'+1:=⟨n-1,by omega⟩
   rw[qm (v':=stW (wd v++r) ((u+1:Nat):Int)) ?_]
   . exact ih (u+1) n (by omega) (by omega)
   . rw[f61 _ (by omega)]
     unfold stG;have h4':(wd u).length=4:=wd4 (by omega);rw[c97 _ _ hs (by omega),v6k (by omega) hv,decide_eq_false (by omega),wrN u (by omega)];rfl
 have h:=go v 0 qz (by omega) (by unfold qz;omega);show F61 C96 C97 j9w _=_;simp only[F61,zy];rw[show j9w (wd v++r,[69,72,76,79],[72,69,76,79],[77,65,73,76],[82,67,80,84],[68,65,84,65],[82,83,69,84],[78,79,79,80],[81,85,73,84],0,())=some (.inr ((v:Int),())) from h];rfl
section
variable {T:List R6} {A:List R4} {B:List R3}
def rd(T:List R6)(A:List R4)(B:List R3)(v:Nat)(r:List UInt8):Option (Int×Cmd):=match v with
 | 0=>C98 (T,A,B,r,c0 (0:Nat))|1=>C98 (T,A,B,r,c0 (1:Nat))|2=>C99 (T,A,B,r,c0 (2:Nat))|3=>y0h (T,A,B,r,c0 (3:Nat))|4=>z5g (T,A,B,r,c0 (4:Nat))|5=>z5g (T,A,B,r,c0 (5:Nat))|6=>y5a (T,A,B,r,c0 (6:Nat))|_=>z5g (T,A,B,r,c0 (7:Nat))
theorem y2g{v:Nat}(hv:v<8)(r:List UInt8)(hr:r=[]\/∃x,r=32::x)(hl:(wd v++r).length<=510)(c:Cmd)(h:rd T A B v r=some (0,c)):C24 (T,A,B,wd v++r,())=some (c.1,c.2.1,c.2.2.1,c.2.2.2.1,c.2.2.2.2.1,c.2.2.2.2.2.1,c.2.2.2.2.2.2.1,c.2.2.2.2.2.2.2.1,0,()):=by
 have hl':=hl;rw[length_append,wd4 hv]at hl';have h61:=d6c hv r hr (by omega);have h4:(4:Int)<=((wd v++r).length:Int):=by rw[length_append,wd4 hv];omega
 have h62:C62 ()=some ():=rfl;show F24 y0h z5g y5a C61 C62 C98 C99 _=_;simp only[F24,h61,Option.bind_some,h62];rw[decide_eq_false (show ¬((wd v++r).length:Int)>510 by omega),decide_eq_false (show ¬((v:Nat):Int)<0 by omega),decide_eq_true h4];have go:∀x:Option (Int×Cmd),x=some (0,c)->(x.bind λval=>bif val.1 != 0 then some (0,[],false,[],[],-1,false,false,val.1,())else some (val.2.1,val.2.2.1,val.2.2.2.1,val.2.2.2.2.1,val.2.2.2.2.2.1,val.2.2.2.2.2.2.1,val.2.2.2.2.2.2.2.1,val.2.2.2.2.2.2.2.2.1,0,()))=some (c.1,c.2.1,c.2.2.1,c.2.2.2.1,c.2.2.2.2.1,c.2.2.2.2.2.1,c.2.2.2.2.2.2.1,c.2.2.2.2.2.2.2.1,0,()):=by rintro _ rfl;rfl
 rcases v with _|_|_|_|_|_|_|_|v;all_goals first|exact go _ h|omega
theorem b3c(n:List UInt8)(v:Int)(h66:C66 (n,())=some (true,())):C98 (T,A,B,32::n,c0 v)=some (0,v,n,false,[],[],-1,false,false,()):=by
 unfold c0;show F98 q3m C66 _=_;simp only[F98,k8g,show (32::n:List UInt8).take 1=[32] from rfl,show (32::n:List UInt8).drop 1=n from rfl,if_pos,Option.bind_some,h66,Bool.not_true,cond_false]
theorem g3p(W w ps:List UInt8)(v:Int)(n:Bool)(a b:List UInt8)(hW:W.length<=1000)(hl:(w++ps).length<=1000)(h40:C40 (T,A,B,w,())=some (n,a,b,0,()))(hep:ep (w++ps) false false 0=w.length)(h1:1<=w.length)(hn:v=3->n=false) :
 q9d (T,A,B,W++(w++ps),W,c0 v)=some (w,ps,0,v,[],n,a,b,-1,false,false,()):=by
 unfold c0;have hlen:(W++(w++ps)).length<=1000000:=by rw[length_append];omega
 show v3v v1s C40 C97 _=_;simp only[v3v,c97 _ W hlen (by omega),v6j,cond_true,List.drop_left,Option.bind_some,b2p (w++ps) (by omega),hep,toNat_natCast,take_left,h40,Bool.not_true,cond_false];rw[ibF (show ((w.length:Nat):Int)≠0 by omega),inF (rfl:(0:Int)=0),decide_eq_true (by omega),decide_eq_true (by rw[length_append];omega)];cases n with
 | false=>rfl
 | true =>
  have h3:v≠3:=λh=>by have:=hn h;cases this
  rw[ibF h3];rfl
theorem q4t{k:UInt8}:∀{p:List UInt8},k ∉ p->spl k p=[p]
 | [],_=>rfl
 | c::p,h=>by
  have ih:=q4t (k:=k) (p:=p) λhk=>h (by simp[hk]);have hc:(c==k)=false:=beq_eq_false_iff_ne.2 λe=>h (by simp[e]);unfold spl;rw[hc,ih];rfl
theorem j5s{k:UInt8}(x:List UInt8):∀{p:List UInt8},k ∉ p->spl k (p++k::x)=p::spl k x
 | [],_=>by
  show spl k (k::x)=_;conv=>lhs;unfold spl
  rw[beq_self_eq_true];rfl
 | c::p,h=>by
  have ih:=j5s x (k:=k) (p:=p) λhk=>h (by simp[hk]);have hc:(c==k)=false:=beq_eq_false_iff_ne.2 λe=>h (by simp[e]);show spl k (c::(p++k::x))=_;conv=>lhs;unfold spl
  rw[hc,ih];rfl
inductive Ch:List (List UInt8)->List (List UInt8)->Cmd->Cmd->Prop
 | nil (c:Cmd):Ch [] [] c c
 | cons {p k:List UInt8} {ps ks:List (List UInt8)} {c c' c'':Cmd}:q8a (p,c)=some (k,0,c')->Ch ps ks c' c''->Ch (p::ps) (k::ks) c c''
theorem d6e(l:List (List UInt8))(k:List UInt8)(hk:k ∉ l)(hl:l.length<=1000000):C93 (l,k,())=some (false,()):=by
 suffices h:Df (C93 (l,k,())) (λy=>y.1=false) by
  obtain⟨⟨b,u⟩,e,h⟩:=h;dsimp only at h;rw[e,h]
 unfold C93 F93;dsimp only;refine dZ (P:=λy=>y.1 = -1) ?_ ?_
 . unfold C94 F94
   dsimp only;refine dZ (P:=Sum.elim (λ_=>True) (λ_=>False)) ?_ ?_
   . refine dL ?I ?m ?h _ ?hv ?hn
     case I=>exact(λv=>v.1=l/\v.2.1=k/\v.2.2.1=l.length/\0<=v.2.2.2.1)
     case m=>exact(λv=>(l.length-v.2.2.2.1).toNat)
     case hv=>exact⟨rfl,rfl,rfl,Int.le_refl _⟩
     case hn=>exact(by(try dsimp only);omega)
     rintro⟨a,b,n,k',u⟩ ⟨h1,h2,h3,h4⟩;dsimp only at h1 h2 h3 h4;subst h1 h2 h3;unfold z7u;dsimp only;with_reducible repeat' (first|apply dP|apply dX<;>intro _)
     . rename_i he
       have he':b=a.getD k'.toNat []:=eq_of_beq he;rw[getD_lt (by omega)]at he';exact hk (he'▸getElem_mem _)
     . rw[qg (by omega)]
       exact⟨⟨rfl,rfl,rfl,by(try dsimp only);omega⟩,by(try dsimp only);omega⟩
     . refine dO ?_;omega
     . trivial
   . intro z hz
     cases z with
     | inl z=>exact dP rfl
     | inr z=>exact hz.elim
 . rintro⟨x,u⟩ h
   dsimp only at h;subst h;exact dP rfl
theorem b4w:∀(r pre:List (List UInt8)) (ks had:List (List UInt8)) (c c':Cmd) (n:Nat),Ch r ks c c'->(had++ks).Nodup->had.length=pre.length->r.length<n->(pre++r).length<=1000 ->
 qc (q5h q7i q3m q8a C93) n (pre++r,((pre++r).length:Int),(pre.length:Int),c.1,c.2.1,c.2.2.1,c.2.2.2.1,c.2.2.2.2.1,c.2.2.2.2.2.1,c.2.2.2.2.2.2.1,c.2.2.2.2.2.2.2.1,had,())=some (.inl c')
 | _,pre,_,had,c,_,n+1,.nil _,hd,hh,hn,hb=>by
  refine qe ?_;simp only[q5h,append_nil];rw[decide_eq_false (by omega)];rfl
 | _,pre,_,had,c,c'',n+1,.cons (p:=p) (k:=k) (ps:=ps) (ks:=ks) (c':=c') h1 h2,hd,hh,hn,hb=>by
  simp only[length_cons]at hn;have hlen:(pre++p::ps).length=pre.length+ps.length+1:=by simp;omega
  have hk:k ∉ had:=by
   intro hk;have:=(List.nodup_append.1 hd).2.2;exact absurd rfl (this k hk k (by simp))
  have h93:=d6e had k hk (by omega);have ih:=b4w ps (pre++[p]) ks (had++[k]) c' c'' n h2 (by simpa using hd) (by simp[hh]) (by omega) (by simpa using hb);have h1':q8a (p,c.1,c.2.1,c.2.2.1,c.2.2.2.1,c.2.2.2.2.1,c.2.2.2.2.2.1,c.2.2.2.2.2.2.1,c.2.2.2.2.2.2.2.1,())=some (k,0,c'):=h1;rw[qm (v':=(pre++p::ps,((pre++p::ps).length:Int),((pre.length+1:Nat):Int),c'.1,c'.2.1,c'.2.2.1,c'.2.2.2.1,c'.2.2.2.2.1,c'.2.2.2.2.2.1,c'.2.2.2.2.2.2.1,c'.2.2.2.2.2.2.2.1,had++[k],())) ?_]
  . rw[show pre++p::ps=(pre++[p])++ps by simp,show pre.length+1=(pre++[p]).length by simp]
    exact ih
  . simp only[q5h]
    rw[decide_eq_true (show (pre.length:Int)<((pre++p::ps).length:Int) by omega),decide_eq_true (by omega),toNat_natCast,show (pre++p::ps).getD pre.length []=p by simp];simp only[Bool.and_self,cond_true,h1',Option.bind_some,h93,cond_false,inF (rfl:(0:Int)=0)];rw[decide_eq_true (by simp only[length_cons,length_nil];omega),wrN pre.length (by omega)];rfl
theorem b2m(x:List UInt8)(ks:List (List UInt8))(c c':Cmd)(hx:x.length<=900)(hc:Ch (spl 32 x) ks c c')(hk:ks.Nodup):j3z (32::x,c)=some (0,c'):=by
 have hl:=j9j 32 x;have hle:x.count 32<=x.length:=List.count_le_length;have h:=b4w (spl 32 x) [] ks [] c c' qz hc hk rfl (by unfold qz;omega) (by rw[List.nil_append];omega);have h':q9e (spl 32 x,((spl 32 x).length:Int),0,c.1,c.2.1,c.2.2.1,c.2.2.2.1,c.2.2.2.2.1,c.2.2.2.2.2.1,c.2.2.2.2.2.2.1,c.2.2.2.2.2.2.2.1,[],())=some (.inl c'):=h;show v3w q7i q3m q8a C93 q9e _=_;simp only[v3w,k8g,show (32::x:List UInt8).take 1=[32] from rfl,show (32::x:List UInt8).drop 1=x from rfl,if_pos,Option.bind_some,Bool.not_true,cond_false,b2l 32 x (by omega),h'];rfl
theorem b4j:((List.range 256).all λn=>(λc:UInt8 => !dgB c||((yc c==c)&&(!(c==32) && !(c==61)))) (UInt8.ofNat n))=true:=by kernel_rfl
theorem b4i{c:UInt8}(h:dgB c=true):yc c=c/\c≠32/\c≠61:=by
 have:=xp (λc:UInt8 => !dgB c||((yc c==c)&&(!(c==32) && !(c==61)))) b4j c;simp only[h,Bool.not_true,Bool.false_or,and_eq_true,beq_iff_eq,Bool.not_eq_true',beq_eq_false_iff_ne]at this;exact this
theorem v6w:∀{l:List UInt8},l.all dgB=true->lw l=l
 | [],_=>rfl
 | c::l,h=>by
  simp only[all_cons,and_eq_true]at h;rw[j9g,(b4i h.1).1,v6w h.2]
theorem y8j:lw [83,73,90,69,61]=[115,105,122,101,61]/\lw [66,79,68,89,61,56,66,73,84,77,73,77,69]=[98,111,100,121,61,56,98,105,116,109,105,109,101]/\lw [83,77,84,80,85,84,70,56]=[115,109,116,112,117,116,102,56]:=by decide +kernel
theorem b2q(m:Nat)(hm:m<=16777216)(v:Int)(n:List UInt8)(nl:Bool)(a b:List UInt8)(sz:Int)(e8 u8:Bool):q8a ([83,73,90,69,61]++xw (m:Int),v,n,nl,a,b,sz,e8,u8,())=some ([115,105,122,101],0,v,n,nl,a,b,(m:Int),e8,u8,()):=by
 obtain⟨-,h1,h2,h3,h4⟩:=z9d m hm;generalize xw (m:Int)=l at h1 h2 h3 h4;have e:([83,73,90,69,61]++l).map yc=[115,105,122,101,61]++l:=by
  show lw _=_;rw[f3s,y8j.1,v6w h1]
 have hs:sel ([115,105,122,101,61]++l) 61=([115,105,122,101],l,true):=rfl;have hc0:q2c ([115,105,122,101,61]++l,[115,105,122,101],l,true,v,n,nl,a,b,sz,e8,u8,())=some (.inl ([115,105,122,101],0,v,n,nl,a,b,(m:Int),e8,u8,())):=by
  show j0o q1c q7j C25 _=_;simp only[j0o,cond_true,h4,Option.bind_some]
 have hc1:kr ([115,105,122,101,61]++l,[115,105,122,101],l,true,false,v,n,nl,a,b,sz,e8,u8,())=some (.inl ([115,105,122,101],0,v,n,nl,a,b,(m:Int),e8,u8,())):=by
  show j0p q1c q7j C25 q2c _=_;simp only[j0p,cond_false,beq_self_eq_true,cond_true,hc0,Option.bind_some,elim_inl]
 show z6t q1c q7j C25 kr _=_;simp only[z6t,p25 ([83,73,90,69,61]++l) (by simp only[jf];omega),e,Option.bind_some,k8f ([115,105,122,101,61]++l) 61 (by simp only[jf];omega),hs,beq_self_eq_true,Bool.not_true,cond_false,hc1,elim_inl]
theorem x4g(v:Int)(n:List UInt8)(nl:Bool)(a b:List UInt8)(sz:Int)(e8 u8:Bool):q8a ([66,79,68,89,61,56,66,73,84,77,73,77,69],v,n,nl,a,b,sz,e8,u8,())=some ([98,111,100,121],0,v,n,nl,a,b,sz,true,u8,()):=by
 have e:([66,79,68,89,61,56,66,73,84,77,73,77,69]:List UInt8).map yc=[98,111,100,121,61,56,98,105,116,109,105,109,101]:=y8j.2.1;show z6t q1c q7j C25 kr _=_;simp only[z6t,p25 [66,79,68,89,61,56,66,73,84,77,73,77,69] (by decide),e,Option.bind_some,k8f [98,111,100,121,61,56,98,105,116,109,105,109,101] 61 (by decide)];rfl
theorem x4h(v:Int)(n:List UInt8)(nl:Bool)(a b:List UInt8)(sz:Int)(e8 u8:Bool):q8a ([83,77,84,80,85,84,70,56],v,n,nl,a,b,sz,e8,u8,())=some ([115,109,116,112,117,116,102,56],0,v,n,nl,a,b,sz,e8,true,()):=by
 have e:([83,77,84,80,85,84,70,56]:List UInt8).map yc=[115,109,116,112,117,116,102,56]:=y8j.2.2;show z6t q1c q7j C25 kr _=_;simp only[z6t,p25 [83,77,84,80,85,84,70,56] (by decide),e,Option.bind_some,k8f [115,109,116,112,117,116,102,56] 61 (by decide)];rfl
def par(sz:Int)(e8 u8:Bool):List UInt8:=(if 0<=sz then [32,83,73,90,69,61]++xw sz else [])++((bif e8 then [32,66,79,68,89,61,56,66,73,84,77,73,77,69]else [])++(bif u8 then [32,83,77,84,80,85,84,70,56]else []))
theorem m1f{l:List UInt8}(h:l.all dgB=true):(32:UInt8) ∉ [83,73,90,69,61]++l:=by
 intro hm;rcases List.mem_append.1 hm with hm|hm
 . exact absurd hm (by decide)
 . exact(b4i (all_eq_true.1 h _ hm)).2.1 rfl
theorem y8b(sz:Int)(e8 u8:Bool)(v:Int)(n:List UInt8)(nl:Bool)(a b x:List UInt8)(ks:List (List UInt8))(e:par sz e8 u8=32::x)(hx:x.length<=59)(hc:Ch (spl 32 x) ks (v,n,nl,a,b,-1,false,false,()) (v,n,nl,a,b,sz,e8,u8,()))(hk:ks.Nodup) :
 (∃x,par sz e8 u8=32::x)/\(par sz e8 u8).length<=60/\j3z (par sz e8 u8,v,n,nl,a,b,-1,false,false,())=some (0,v,n,nl,a,b,sz,e8,u8,()):=by
 rw[e];exact⟨⟨x,rfl⟩,by simp only[length_cons];omega,b2m x ks (v,n,nl,a,b,-1,false,false,()) (v,n,nl,a,b,sz,e8,u8,()) (by omega) hc hk⟩
theorem k1c(sz:Int)(e8 u8:Bool)(hz : -1<=sz/\sz<=16777216)(v:Int)(n:List UInt8)(nl:Bool)(a b:List UInt8):(sz = -1/\e8=false/\u8=false/\par sz e8 u8=[])\/((∃x,par sz e8 u8=32::x)/\(par sz e8 u8).length<=60/\j3z (par sz e8 u8,v,n,nl,a,b,-1,false,false,())=some (0,v,n,nl,a,b,sz,e8,u8,())):=by
 by_cases h0:0<=sz
 . obtain⟨m,rfl⟩:∃m:Nat,sz=(m:Int):=⟨sz.toNat,by omega⟩
   obtain⟨-,h1,h2,h3,-⟩:=z9d m (by omega);have hs:=b2q m (by omega) v n nl a b (-1) false false;have hn:=m1f h1;have hp:∀e8 u8,par (m:Int) e8 u8=([32,83,73,90,69,61]++xw (m:Int))++((bif e8 then [32,66,79,68,89,61,56,66,73,84,77,73,77,69]else [])++(bif u8 then [32,83,77,84,80,85,84,70,56]else [])):=λe8 u8=>by unfold par;rw[if_pos h0]
   generalize xw (m:Int)=l at h1 h2 h3 hs hn hp
   right
   cases e8<;>cases u8
   . refine y8b _ _ _ v n nl a b ([83,73,90,69,61]++l) [[115,105,122,101]] (by rw[hp];simp) (by simp only[jf];omega) ?_ (by decide)
     rw[q4t hn];exact .cons hs (.nil _)
   . refine y8b _ _ _ v n nl a b ([83,73,90,69,61]++l++32::[83,77,84,80,85,84,70,56]) [[115,105,122,101],[115,109,116,112,117,116,102,56]] (by rw[hp];simp) (by simp only[jf];omega) ?_ (by decide)
     rw[j5s _ hn,q4t (by decide)];exact .cons hs (.cons (x4h ..) (.nil _))
   . refine y8b _ _ _ v n nl a b ([83,73,90,69,61]++l++32::[66,79,68,89,61,56,66,73,84,77,73,77,69]) [[115,105,122,101],[98,111,100,121]] (by rw[hp];simp) (by simp only[jf];omega) ?_ (by decide)
     rw[j5s _ hn,q4t (by decide)];exact .cons hs (.cons (x4g ..) (.nil _))
   . refine y8b _ _ _ v n nl a b ([83,73,90,69,61]++l++32::([66,79,68,89,61,56,66,73,84,77,73,77,69]++32::[83,77,84,80,85,84,70,56])) [[115,105,122,101],[98,111,100,121],[115,109,116,112,117,116,102,56]] (by rw[hp];simp) (by simp only[jf];omega) ?_ (by decide)
     rw[j5s _ hn,j5s _ (by decide),q4t (by decide)];exact .cons hs (.cons (x4g ..) (.cons (x4h ..) (.nil _)))
 . have:sz = -1:=by omega
   subst this;cases e8<;>cases u8
   . exact .inl ⟨rfl,rfl,rfl,rfl⟩
   . right
     refine y8b _ _ _ v n nl a b [83,77,84,80,85,84,70,56] [[115,109,116,112,117,116,102,56]] rfl (by decide) ?_ (by decide);rw[q4t (by decide)];exact .cons (x4h ..) (.nil _)
   . right
     refine y8b _ _ _ v n nl a b [66,79,68,89,61,56,66,73,84,77,73,77,69] [[98,111,100,121]] rfl (by decide) ?_ (by decide);rw[q4t (by decide)];exact .cons (x4g ..) (.nil _)
   . right
     refine y8b _ _ _ v n nl a b ([66,79,68,89,61,56,66,73,84,77,73,77,69]++32::[83,77,84,80,85,84,70,56]) [[98,111,100,121],[115,109,116,112,117,116,102,56]] rfl (by decide) ?_ (by decide);rw[j5s _ (by decide),q4t (by decide)];exact .cons (x4g ..) (.cons (x4h ..) (.nil _))
theorem d6g(w:List UInt8)(n:Bool)(a b:List UInt8)(sz:Int)(e8 u8:Bool)(hz : -1<=sz/\sz<=16777216)(hl:w.length<=510)(h40:C40 (T,A,B,w,())=some (n,a,b,0,()))(hep:∀X,ep (w++X) false false 0=w.length)(h1:1<=w.length)(hA:u8=false->Asc w) :
 C99 (T,A,B,[32,70,82,79,77,58]++(w++par sz e8 u8),c0 2)=some (0,2,[],n,a,b,sz,e8,u8,()):=by
 have c99_0:q8f (w,0,2,[],n,a,b,sz,e8,u8,())=some (0,2,[],n,a,b,sz,e8,u8,()):=by
  show z0c q9d j3z C21 _=_;cases u8 with
  | true=>rfl
  | false =>
   simp only[z0c,ibT (rfl:(0:Int)=0),cond_true,Bool.not_false,b2v w (by omega) (hA rfl),Option.bind_some];rfl
 have hp:=k1c sz e8 u8 hz 2 [] n a b;have hlen:(w++par sz e8 u8).length<=1000:=by
  rw[length_append];rcases hp with⟨-,-,-,h⟩|⟨-,h,-⟩
  . rw[h];simp only[length_nil];omega
  . omega
 have y2x:=g3p (T:=T) (A:=A) (B:=B) [32,70,82,79,77,58] w (par sz e8 u8) 2 n a b (by decide) hlen h40 (hep _) h1 (λh=>by cases h);unfold c0 at y2x ⊢;show F99 q9d j3z C21 q8f _=_;simp only[F99,y2x,Option.bind_some,ibT (rfl:(0:Int)=0),cond_true];rcases hp with⟨rfl,rfl,rfl,h⟩|⟨⟨x,hx⟩,-,h⟩
 . rw[h]
   simp only[c99_0,Option.bind_some];rfl
 . rw[hx]at h ⊢
   rw[show (!(32::x:List UInt8)==[])=true from rfl];simp only[cond_true,h,Option.bind_some,c99_0]
theorem b2k(w:List UInt8)(a b:List UInt8)(hl:w.length<=510)(h40:C40 (T,A,B,w,())=some (false,a,b,0,()))(hep:∀X,ep (w++X) false false 0=w.length)(h1:1<=w.length) :
 y0h (T,A,B,[32,84,79,58]++w,c0 3)=some (0,3,[],false,a,b,-1,false,false,()):=by
 have y2x:=g3p (T:=T) (A:=A) (B:=B) [32,84,79,58] w [] 3 false a b (by decide) (by rw[append_nil];omega) h40 (hep _) h1 (λ_=>rfl);rw[append_nil]at y2x;unfold c0 at y2x ⊢;show v3s q9d _=_;simp only[v3s,y2x,Option.bind_some,ibT (rfl:(0:Int)=0),cond_true];rfl
end
def w9w:List Sh:=[.agg 8,.int .i64,.str,.bool,.str,.str,.int .i64,.bool,.bool,.str]
def w9x:List Sh:=(List.cons (.top) (List.cons (.str) (List.cons (.ptr 0 0) (List.cons (.top) (List.cons (.top) (List.cons (.bool) (List.cons (.top) (List.cons (.ptr 1 0) (List.cons (.str) (tp 39 (List.cons (.bool) (tp 56 (List.cons (.obox 8) (List.cons (.int .i64) (List.cons (.str) (List.cons (.bool) (List.cons (.str) (List.cons (.str) (List.cons (.int .i64) (List.cons (.bool) (List.cons (.bool) (List.cons (.obox 5) (List.cons (.lst zm) (List.cons (.lst zn) (List.cons (.lst zo) (List.cons (.opq 0) (List.cons (.opq 1) [])))))))))))))))))))))))))))
def g3n:qb:=[(.ret,(tp 4 (List.cons (.bool) (tp 100 [])))),(.normal,(List.cons (.top) (List.cons (.str) (tp 3 (List.cons (.bool) (List.cons (.top) (List.cons (.ptr 0 0) (tp 97 (List.cons (.obox 5) (List.cons (.lst zm) (List.cons (.lst zn) (List.cons (.lst zo) (List.cons (.opq 0) (List.cons (.opq 1) []))))))))))))))]
def w9y:List Sh:=(List.cons (.top) (List.cons (.str) (tp 3 (List.cons (.bool) (List.cons (.top) (List.cons (.ptr 0 0) (tp 97 (List.cons (.obox 5) (List.cons (.lst zm) (List.cons (.lst zn) (List.cons (.lst zo) (List.cons (.opq 0) (List.cons (.opq 1) [])))))))))))))
def g3o:qb:=[(.ret,(tp 4 (List.cons (.bool) (tp 100 []))))]
abbrev T26:=Int×qa×Bool×qa×qa×Int×Bool×Bool×Unit->Option (Bool×Unit)
def E26(f:T26):FEnt:=⟨x3k,qv,f⟩
def K26(f38:T38):=lk [(38,E38 f38)]
def F26(f38:T38):T26:=λ(x0,x1,x2,x3,x4,x5,x6,x7,_)=>(f38 (x3,x4,())).bind λv=>bif v.1 then some (decide ((↑x1.length:Int)<=400),())else some (false,())
def C26:T26:=F26 C38
theorem m1n:FO 26 (E26 C26):=kb x3k qv K26 F26 C38 (kc m1o kn) func26
abbrev z3y:=qa×Bool×qa×Bool×Int×qa×Bool×qa×qa×Int×Bool×Bool×qu×qw×qx×Unit->Option ((Bool×Unit)⊕(qa×Bool×qu×qw×qx×Unit))
def w6a(f:z3y):LEnt:=⟨w9x,g3n,f⟩
abbrev z3z:=qa×Bool×qu×qw×qx×Unit->Option (Bool×Unit)
def w6b(f:z3z):LEnt:=⟨w9y,g3o,f⟩
abbrev T7:=Int×qa×Bool×qa×qa×Int×Bool×Bool×qa×Unit->Option (Bool×Unit)
def E7(f:T7):FEnt:=⟨w9w,qv,f⟩
def K7(f18:T18)(f21:T21)(f23:T23)(f24:T24)(f26:T26)(f27:T27)(f28:T28):=lk [(18,E18 f18),(21,E21 f21),(23,E23 f23),(24,E24 f24),(26,E26 f26),(27,E27 f27),(28,E28 f28)]
theorem f3h:zh prog (K7 C18 C21 C23 C24 C26 C27 C28):=(kc b6l (kc k0j (kc m1m (kc b7i (kc m1n (kc b8h (kc b8p kn)))))))
def x2k(f18:T18)(f21:T21)(f23:T23)(f24:T24)(f26:T26)(f27:T27)(f28:T28):z3y:=λ(x0,x1,x2,x3,x4,x5,x6,x7,x8,x9,x10,x11,x12,x13,x14,_)=>bif x3 then(f24 (x12,x13,x14,x2,())).bind λv=>bif v.2.2.2.2.2.2.2.2.1 != 0 then some (Sum.inl (false,()))else bif !(v.1==x4&&(v.2.1==x5&&(v.2.2.1==x6&&(v.2.2.2.1==x7&&(v.2.2.2.2.1==x8&&true)&&true)&&(v.2.2.2.2.2.1==x9&&(v.2.2.2.2.2.2.1==x10&&(v.2.2.2.2.2.2.2.1==x11&&true))))))then some (Sum.inl (false,()))else some (Sum.inr (x0,x1,x12,x13,x14,()))else some (Sum.inr (x0,x1,x12,x13,x14,()))
theorem b4o(f18:T18)(f21:T21)(f23:T23)(f24:T24)(f26:T26)(f27:T27)(f28:T28):AqC (K7 f18 f21 f23 f24 f26 f27 f28) 0 (qd (code f7) [1,1,1,1,1,1,0,1]) .nil w9x g3n (x2k f18 f21 f23 f24 f26 f27 f28):=λv=>by kernel_rfl
def z3l:z3y:=x2k C18 C21 C23 C24 C26 C27 C28
theorem b4t:zc 0 (qd (code f7) [1,1,1,1,1,1,0,1]) (w6a z3l) :=
 frc f3h (b4o C18 C21 C23 C24 C26 C27 C28)
def x2l(f18:T18)(f21:T21)(f23:T23)(f24:T24)(f26:T26)(f27:T27)(f28:T28):z3z:=λ(x0,x1,x2,x3,x4,_)=>(f24 (x2,x3,x4,x0,())).bind λv=>bif v.2.2.2.2.2.2.2.2.1 != 0 then bif x1 then bif v.1==0&&(v.2.1==[]&&(v.2.2.1==false&&(v.2.2.2.1==[]&&(v.2.2.2.2.1==[]&&true)&&true)&&(v.2.2.2.2.2.1 == -1&&(v.2.2.2.2.2.2.1==false&&(v.2.2.2.2.2.2.2.1==false&&true)))))then bif decide (v.2.2.2.2.2.2.2.2.1>=500)then some (decide (v.2.2.2.2.2.2.2.2.1<556),())else some (false,())else some (false,())else some (false,())else bif x1 then(f28 (x2,x3,x4,v.1,v.2.1,v.2.2.1,v.2.2.2.1,v.2.2.2.2.1,v.2.2.2.2.2.1,v.2.2.2.2.2.2.1,v.2.2.2.2.2.2.2.1,())).bind λv1=>bif v1.1 then bif v.1 != 2 then some (true,())else bif v.2.2.2.2.2.2.2.1 then some (true,())else(f27 (v.1,v.2.1,v.2.2.1,v.2.2.2.1,v.2.2.2.2.1,v.2.2.2.2.2.1,v.2.2.2.2.2.2.1,v.2.2.2.2.2.2.2.1,())).bind λv=>(f21 (v.1,())).bind λv=>some (decide (v.1<0),())else some (false,())else some (false,())
theorem b4p(f18:T18)(f21:T21)(f23:T23)(f24:T24)(f26:T26)(f27:T27)(f28:T28):AqC (K7 f18 f21 f23 f24 f26 f27 f28) 0 (qd (code f7) [1,1,1,1,1,1,1]) .nil w9y g3o (x2l f18 f21 f23 f24 f26 f27 f28):=λv=>by kernel_rfl
def y0y:z3z:=x2l C18 C21 C23 C24 C26 C27 C28
theorem b4u:zc 0 (qd (code f7) [1,1,1,1,1,1,1]) (w6b y0y) :=
 frc f3h (b4p C18 C21 C23 C24 C26 C27 C28)
def N7(f7_c0:z3y)(f7_c1:z3z):Ann:=(.seq .nil (.seq .nil (.seq .nil (.seq .nil (.seq .nil (.seq .nil (.cut (.cut .nil (w6a f7_c0)) (w6b f7_c1))))))))
def F7(f18:T18)(f21:T21)(f23:T23)(f24:T24)(f26:T26)(f27:T27)(f28:T28)(f7_c0:z3y)(f7_c1:z3z):T7:=λ(x0,x1,x2,x3,x4,x5,x6,x7,x8,_)=>(f23 ()).bind λv=>(f26 (x0,x1,x2,x3,x4,x5,x6,x7,())).bind λv1=>bif !v1.1 then some (v.1,())else bif decide ((↑x8.length:Int)>700)then some (v.1,())else(f18 ()).bind λv2=>(f27 (x0,x1,x2,x3,x4,x5,x6,x7,())).bind λv3=>(f28 (v2.1,v2.2.1,v2.2.2.1,x0,x1,x2,x3,x4,x5,x6,x7,())).bind λv4=>bif v4.1 then bif decide ((↑(List.length v3.1):Int)<=510)then bif x0 != 2 then(f7_c0 (x8,v.1,v3.1,true,x0,x1,x2,x3,x4,x5,x6,x7,v2.1,v2.2.1,v2.2.2.1,())).bind λv=>Sum.elim (λv=>some (v.1,())) (λv=>(f7_c1 (v.1,v.2.1,v.2.2.1,v.2.2.2.1,v.2.2.2.2.1,())).bind λv=>some (v.1,())) v else bif x7 then(f7_c0 (x8,v.1,v3.1,true,x0,x1,x2,x3,x4,x5,x6,x7,v2.1,v2.2.1,v2.2.2.1,())).bind λv=>Sum.elim (λv=>some (v.1,())) (λv=>(f7_c1 (v.1,v.2.1,v.2.2.1,v.2.2.2.1,v.2.2.2.2.1,())).bind λv=>some (v.1,())) v else(f21 (v3.1,())).bind λv5=>(f7_c0 (x8,v.1,v3.1,decide (v5.1<0),x0,x1,x2,x3,x4,x5,x6,x7,v2.1,v2.2.1,v2.2.2.1,())).bind λv=>Sum.elim (λv=>some (v.1,())) (λv=>(f7_c1 (v.1,v.2.1,v.2.2.1,v.2.2.2.1,v.2.2.2.2.1,())).bind λv=>some (v.1,())) v else(f7_c0 (x8,v.1,v3.1,false,x0,x1,x2,x3,x4,x5,x6,x7,v2.1,v2.2.1,v2.2.2.1,())).bind λv=>Sum.elim (λv=>some (v.1,())) (λv=>(f7_c1 (v.1,v.2.1,v.2.2.1,v.2.2.2.1,v.2.2.2.2.1,())).bind λv=>some (v.1,())) v else(f7_c0 (x8,v.1,v3.1,false,x0,x1,x2,x3,x4,x5,x6,x7,v2.1,v2.2.1,v2.2.2.1,())).bind λv=>Sum.elim (λv=>some (v.1,())) (λv=>(f7_c1 (v.1,v.2.1,v.2.2.1,v.2.2.2.1,v.2.2.2.2.1,())).bind λv=>some (v.1,())) v
theorem h7(f18:T18)(f21:T21)(f23:T23)(f24:T24)(f26:T26)(f27:T27)(f28:T28)(f7_c0:z3y)(f7_c1:z3z):zz (K7 f18 f21 f23 f24 f26 f27 f28) 0 f7 (N7 f7_c0 f7_c1) w9w qv (F7 f18 f21 f23 f24 f26 f27 f28 f7_c0 f7_c1):=λv=>by kernel_rfl
def C7:T7:=F7 C18 C21 C23 C24 C26 C27 C28 z3l y0y
theorem ok7:FO 7 (E7 C7) :=
 qo f3h func7 (And.intro b4t (And.intro b4u trivial)) (h7 C18 C21 C23 C24 C26 C27 C28 z3l y0y)
theorem b4r:C23 ()=some (true,()):=by kernel_rfl
def wdi(v:Int):List UInt8:=if 0<=v/\v<8 then wd v.toNat else []
theorem d6b(v:Int):C60 (v,())=some (wdi v,()):=by
 show F60 _=_;unfold F60 wdi;dsimp only;by_cases h0:v<0
 . rw[decide_eq_true h0,if_neg (by omega)];rfl
 rw[decide_eq_false h0];by_cases h8:v>=8
 . rw[decide_eq_true h8,if_neg (by omega)];rfl
 rw[decide_eq_false h8,if_pos (by omega)];obtain⟨m,rfl⟩:∃m:Nat,v=(m:Int):=⟨v.toNat,by omega⟩
 rcases m with _|_|_|_|_|_|_|_|m<;>first|rfl|omega
theorem w5x(v:Int):(wdi v).length<=4:=by
 unfold wdi;split
 . rw[wd4 (by omega)];omega
 . exact zero_le _
theorem v7y(sz:Int)(h0:0<=sz):(xw sz).length<=20:=by
 have:∀f n,(q3o f n).length<=f:=by
  intro f
  induction f with
  | zero=>intro n;exact le_refl _
  | succ f ih =>
   intro n;rw[q3o];split
   . simp
   . have:=ih (n/10)
     simp only[jf];omega
 unfold xw;rw[if_neg (by omega)];exact this 20 _
theorem g3q(o:List UInt8)(v:Int)(n:List UInt8)(nl:Bool)(a b:List UInt8)(sz:Int)(e8 u8:Bool)(ho:o.length<=100000):q3p (o,v,n,nl,a,b,sz,e8,u8,())=some (o++((bif e8 then [32,66,79,68,89,61,56,66,73,84,77,73,77,69]else [])++(bif u8 then [32,83,77,84,80,85,84,70,56]else [])),()):=by
 show z7h C22 C60 C65 _=_;simp only[z7h];cases e8<;>cases u8<;>simp only[cond_true,cond_false]
 . simp
 . rw[decide_eq_true (by simp only[length_cons,length_nil];omega)];simp
 . rw[decide_eq_true (by simp only[length_cons,length_nil];omega)];simp
 . rw[decide_eq_true (by simp only[length_cons,length_nil];omega),decide_eq_true (by simp only[jf];omega)];simp
def prt(v:Int)(n w:List UInt8)(sz:Int)(e8 u8:Bool):List UInt8:=if v=0\/v=1 then wdi v++[32]++n else if v=3 then wdi v++[32,84,79,58]++w else if v=2 then wdi v++([32,70,82,79,77,58]++w)++par sz e8 u8 else wdi v
theorem b2y(v:Int)(n:List UInt8)(nl:Bool)(a b w:List UInt8)(sz:Int)(e8 u8:Bool)(hn:n.length<=1000)(hw:w.length<=10000)(h22:C22 (nl,a,b,())=some (w,()))(hz:sz<=9223372036854775807):C27 (v,n,nl,a,b,sz,e8,u8,())=some (prt v n w sz e8 u8,()):=by
 have hl:=w5x v;have h1:q3q (wdi v,v,true,v,n,nl,a,b,sz,e8,u8,())=some (.inl (wdi v++[32]++n,())):=by
  show q1e C22 C60 C65 q3p _=_;simp only[q1e,cond_true];rw[decide_eq_true (by simp only[length_cons,length_nil];omega),decide_eq_true (by simp only[jf];omega)];rfl
 show F27 C22 C60 C65 q3q _=_;simp only[F27,d6b,Option.bind_some];unfold prt;by_cases h0:v=0
 . rw[ibT h0,if_pos (.inl h0)]
   simp only[cond_true,h1,Option.bind_some,elim_inl]
 rw[ibF h0];by_cases hv1:v=1
 . rw[ibT hv1,if_pos (.inr hv1)]
   simp only[cond_false,h1,Option.bind_some,elim_inl]
 rw[ibF hv1,if_neg (by omega)];simp only[cond_false];by_cases h3:v=3
 . have h2:q3q (wdi v,v,false,v,n,nl,a,b,sz,e8,u8,())=some (.inl (wdi v++[32,84,79,58]++w,())):=by
    show q1e C22 C60 C65 q3p _=_;simp only[q1e,cond_false,ibT h3,cond_true,h22,Option.bind_some];rw[decide_eq_true (by simp only[length_cons,length_nil];omega),decide_eq_true (by simp only[jf];omega)];rfl
   rw[if_pos h3,h2];rfl
 rw[if_neg h3];by_cases hv2:v=2
 . have h2:q3q (wdi v,v,false,v,n,nl,a,b,sz,e8,u8,())=some (.inr (wdi v++([32,70,82,79,77,58]++w)++par sz e8 u8,())):=by
    show q1e C22 C60 C65 q3p _=_;simp only[q1e,cond_false,ibF h3,ibT hv2,cond_true,h22,Option.bind_some];rw[decide_eq_true (by simp only[length_cons,length_nil];omega),decide_eq_true (by simp only[jf];omega)];unfold par;by_cases hz0:sz>=0
    . have hil:=v7y sz hz0
      have h65:C65 (sz,())=some (xw sz,()):=if_pos ⟨by(try dsimp only);omega,hz⟩;rw[decide_eq_true hz0,if_pos hz0];simp only[cond_true,h65,Option.bind_some];rw[decide_eq_true (by simp only[length_cons,length_nil];omega),decide_eq_true (by simp only[jf];omega)];simp only[cond_true];rw[g3q _ _ _ _ _ _ _ _ _ (by simp only[jf];omega)];simp
    . rw[decide_eq_false hz0,if_neg hz0]
      simp only[cond_true,cond_false];rw[g3q _ _ _ _ _ _ _ _ _ (by simp only[jf];omega)];simp
   rw[if_pos hv2,h2];rfl
 . have h2:q3q (wdi v,v,false,v,n,nl,a,b,sz,e8,u8,())=some (.inr (wdi v,())):=by
    show q1e C22 C60 C65 q3p _=_;simp only[q1e,cond_false,ibF h3,ibF hv2]
   rw[if_neg hv2,h2];rfl
section
variable {T:List R6} {A:List R4} {B:List R3}
theorem b2z{c:Cmd}(h:Cok T A B c):C28 (T,A,B,c)=some (true,()):=by
 rcases h with⟨v,n,hv,rfl,h66⟩|⟨n,a,b,sz,e8,u8,rfl,hz,h20,-,-⟩|⟨a,b,rfl,h20,-,-⟩|⟨v,hv,rfl⟩
 . have hc:∀f,wv (f,v,true,T,A,B,v,n,false,[],[],-1,false,false,())=some (.inl (true,())):=by
    intro f;show q2j C20 C66 _=_;simp only[q2j,cond_true,h66,Option.bind_some,beq_self_eq_true];rfl
   show F28 C20 C66 wv _=_;rcases hv with rfl|rfl
   . simp only[F28,ibT (rfl:(0:Int)=0),cond_true,hc,Option.bind_some,elim_inl]
   . simp only[F28,ibF (show (1:Int)≠0 by decide),ibT (rfl:(1:Int)=1),cond_false,hc,Option.bind_some,elim_inl]
 . have hc:∀f,wv (f,2,false,T,A,B,2,[],n,a,b,sz,e8,u8,())=some (.inl (true,())):=by
    intro f;show q2j C20 C66 _=_;simp only[q2j,cond_false,ibT (rfl:(2:Int)=2),cond_true,h20,Option.bind_some];rw[decide_eq_true (show sz >= -1 from hz.1),decide_eq_true hz.2];rfl
   show F28 C20 C66 wv _=_;simp only[F28,ibF (show (2:Int)≠0 by decide),ibF (show (2:Int)≠1 by decide),cond_false,hc,Option.bind_some,elim_inl]
 . have hc:∀f,wv (f,3,false,T,A,B,3,[],false,a,b,-1,false,false,())=some (.inl (true,())):=by
    intro f;show q2j C20 C66 _=_;simp only[q2j,cond_false,ibF (show (3:Int)≠2 by decide),ibT (rfl:(3:Int)=3),cond_true,h20,Option.bind_some,beq_self_eq_true];rfl
   show F28 C20 C66 wv _=_;simp only[F28,ibF (show (3:Int)≠0 by decide),ibF (show (3:Int)≠1 by decide),cond_false,hc,Option.bind_some,elim_inl]
 . unfold c0
   have:v=4\/v=5\/v=6\/v=7:=by omega
   rcases this with rfl|rfl|rfl|rfl<;>rfl
theorem q28(h:TK T A B)(v:Int)(n:List UInt8)(nl:Bool)(a b:List UInt8)(sz:Int)(e8 u8:Bool)(hn:n.length<=1000)(ha:a.length<=1000)(hb:b.length<=1000):Df (C28 (T,A,B,v,n,nl,a,b,sz,e8,u8,())) (λy=>y.1=true->Cok T A B (v,n,nl,a,b,sz,e8,u8,())):=by
 have hc:∀(f g:Bool),(g=true->v=0\/v=1)->(g=false->v≠0/\v≠1)->(f=true->n=[]/\nl=false/\a=[]/\b=[]/\sz = -1/\e8=false/\u8=false)->Df (wv (f,v,g,T,A,B,v,n,nl,a,b,sz,e8,u8,())) (Sum.elim (λy=>y.1=true->Cok T A B (v,n,nl,a,b,sz,e8,u8,())) (λ_=>True)):=by
  intro f g hg hg' hf;unfold wv q2j;dsimp only;refine dB (λh1 => ?_) (λh1 => ?_)
  . obtain⟨⟨r,u⟩,e66,-⟩:=d66 n (by omega)
    rw[e66];simp only[Option.bind_some];cases r with
    | false=>exact dP λh=>by cases h
    | true =>
     refine dP λh => ?_;simp[Bool.cond_eq_ite]at h;obtain⟨⟨rfl,rfl,rfl⟩,rfl,rfl,rfl⟩:=h;exact .inl ⟨v,n,hg h1,rfl,e66⟩
  obtain⟨e,h20⟩:=d6v h nl a b (by omega) (by omega);have hv:=hg' h1;refine dX (λh2 => ?_) (λh2 => ?_)
  . have h2':v=2:=by simpa using h2
    refine dX (λh3 => ?_) (λ_=>dP λh=>by cases h);refine dX (λh4 => ?_) (λ_=>dP λh=>by cases h);refine dX (λh5 => ?_) (λ_=>dP λh=>by cases h);rw[h20];refine dP λh => ?_;have he:e=0:=by simpa using h
    have h3':n=[]:=by simpa using h3
    subst he h2' h3';exact .inr (.inl ⟨nl,a,b,sz,e8,u8,rfl,⟨by omega,by omega⟩,h20,by omega,by omega⟩)
  refine dX (λh2 => ?_) (λh3 => ?_)
  . have h2':v=3:=by simpa using h2
    refine dX (λh3 => ?_) (λ_=>dP λh=>by cases h);refine dX (λh4 => ?_) (λ_=>dP λh=>by cases h);rw[h20];refine dP λh => ?_;have he:e=0:=by simpa using h
    simp at h3;obtain⟨h5,h6,h7,h8⟩:=h3;have h4':nl=false:=by simpa using h4
    subst he h2' h5 h6 h7 h8 h4';exact .inr (.inr (.inl ⟨a,b,rfl,h20,by omega,by omega⟩))
  have bare:∀k:Int,4<=k/\k<=7->v=k->Df (some (Sum.inl (f,()):(Bool×Unit)⊕Unit)) (Sum.elim (λy=>y.1=true->Cok T A B (v,n,nl,a,b,sz,e8,u8,())) (λ_=>True)):=by
   intro k hk e;refine dP λhft => ?_;obtain⟨rfl,rfl,rfl,rfl,rfl,rfl,rfl⟩:=hf hft;exact .inr (.inr (.inr ⟨v,by omega,rfl⟩))
  refine dX (λh4=>bare 4 (by omega) (by simpa using h4)) (λ_ => ?_);refine dX (λh4=>bare 5 (by omega) (by simpa using h4)) (λ_ => ?_);refine dX (λh4=>bare 6 (by omega) (by simpa using h4)) (λ_ => ?_);exact dX (λh4=>bare 7 (by omega) (by simpa using h4)) (λ_=>dP trivial)
 have hf:(v==v&&(n==[]&&(nl==false&&(a==[]&&(b==[]&&true)&&true)&&(sz == -1&&(e8==false&&(u8==false&&true))))))=true->n=[]/\nl=false/\a=[]/\b=[]/\sz = -1/\e8=false/\u8=false:=by
  intro h;simp at h;obtain⟨h1,⟨h2,h3,h4⟩,h5,h6,h7⟩:=h;exact⟨h1,h2,h3,h4,h5,h6,h7⟩
 have jh:∀z:(Bool×Unit)⊕Unit,Sum.elim (λy=>y.1=true->Cok T A B (v,n,nl,a,b,sz,e8,u8,())) (λ_=>True) z->Df (Sum.elim (λval=>some (val.1,())) (λval=>some (false,())) z) (λy=>y.1=true->Cok T A B (v,n,nl,a,b,sz,e8,u8,())):=by
  intro z hz;cases z with
  | inl z=>exact dP hz
  | inr z=>exact dP λh=>by cases h
 unfold C28 F28;dsimp only;refine dX (λh0 => ?_) (λh0 => ?_)
 . exact dZ (hc _ true (λ_ => .inl (by simpa using h0)) (λh=>by cases h) hf) jh
 . have h0':v≠0:=by simpa using h0
   exact dZ (hc _ (v==1) (λh => .inr (by simpa using h)) (λh=>⟨h0',by simpa using h⟩) hf) jh
theorem z1e(s:List UInt8)(h:(s.all λc=>decide (c.toNat<128))=true):Asc s:=λc hc=>of_decide_eq_true (all_eq_true.1 h c hc)
theorem k7z(sz:Int)(e8 u8:Bool)(hz : -1<=sz/\sz<=16777216):Asc (par sz e8 u8):=by
 unfold par;refine Asc.app ?_ (Asc.app ?_ ?_)
 . split
   . obtain⟨m,rfl⟩:∃m:Nat,sz=(m:Int):=⟨sz.toNat,by omega⟩
     obtain⟨-,h1,-⟩:=z9d m (by omega);exact(z1e _ (by decide)).app λc hc=>(v6v (all_eq_true.1 h1 c hc)).1
   . exact yf
 . cases e8
   . exact yf
   . exact z1e _ (by decide)
 . cases u8
   . exact yf
   . exact z1e _ (by decide)
theorem back(h:TK T A B)(hK:KT T A B)(c:Cmd)(hc:Cok T A B c)(ha:c.2.2.2.1.length<=1000)(hb:c.2.2.2.2.1.length<=1000)(w:List UInt8)(h22:C22 (c.2.2.1,c.2.2.2.1,c.2.2.2.2.1,())=some (w,()))(p:List UInt8)(hp:p=prt c.1 c.2.1 w c.2.2.2.2.2.1 c.2.2.2.2.2.2.1 c.2.2.2.2.2.2.2.1)(hl:p.length<=510)(hA:c.1=2->c.2.2.2.2.2.2.2.1=false->Asc p) :
 C24 (T,A,B,p,())=some (c.1,c.2.1,c.2.2.1,c.2.2.2.1,c.2.2.2.2.1,c.2.2.2.2.2.1,c.2.2.2.2.2.2.1,c.2.2.2.2.2.2.2.1,0,()):=by
 rcases hc with⟨v,n,hv,rfl,h66⟩|⟨n,a,b,sz,e8,u8,rfl,hz,h20,-,-⟩|⟨a,b,rfl,h20,-,-⟩|⟨v,hv,rfl⟩
 . rcases hv with rfl|rfl
   . have e:p=wd 0++(32::n):=hp
     rw[e]at hl ⊢;exact y2g (by decide) _ (.inr ⟨n,rfl⟩) hl (0,n,false,[],[],-1,false,false,()) (b3c n _ h66)
   . have e:p=wd 1++(32::n):=hp
     rw[e]at hl ⊢;exact y2g (by decide) _ (.inr ⟨n,rfl⟩) hl (1,n,false,[],[],-1,false,false,()) (b3c n _ h66)
 . obtain⟨pr,k1,k2⟩:=d0l h hK n a b ha hb h20
   obtain⟨w',k3,k4,-,k5,-⟩:=psh h hK n a b (by dsimp only at ha;omega) (by dsimp only at hb;omega) h20;dsimp only at h22 hA;rw[h22]at k1 k3;cases k1;cases k3;have e:p=wd 2++([32,70,82,79,77,58]++(w++par sz e8 u8)):=by
    rw[hp];show wd 2++([32,70,82,79,77,58]++w)++par sz e8 u8=_;simp
   rw[e]at hl ⊢;have hw:w.length<=510:=by simp only[jf]at hl;omega
   have hAw:u8=false->Asc w:=by
    intro h8 c hc;refine hA rfl h8 c ?_;rw[e];simp[hc]
   exact y2g (by decide) _ (.inr ⟨_,rfl⟩) hl (2,[],n,a,b,sz,e8,u8,()) (d6g w n a b sz e8 u8 hz hw k2 k4 k5 hAw)
 . obtain⟨pr,k1,k2⟩:=d0l h hK false a b ha hb h20
   obtain⟨w',k3,k4,-,k5,-⟩:=psh h hK false a b (by dsimp only at ha;omega) (by dsimp only at hb;omega) h20;dsimp only at h22;rw[h22]at k1 k3;cases k1;cases k3;have e:p=wd 3++([32,84,79,58]++w):=by
    rw[hp];show wd 3++[32,84,79,58]++w=_;simp
   rw[e]at hl ⊢;have hw:w.length<=510:=by simp only[jf]at hl;omega
   exact y2g (by decide) _ (.inr ⟨_,rfl⟩) hl (3,[],false,a,b,-1,false,false,()) (b2k w a b hw k2 k4 k5)
 . have:v=4\/v=5\/v=6\/v=7:=by omega
   rcases this with rfl|rfl|rfl|rfl
   . have e:p=wd 4++[]:=hp
     rw[e]at hl ⊢;exact y2g (by decide) [] (.inl rfl) hl (c0 4) rfl
   . have e:p=wd 5++[]:=hp
     rw[e]at hl ⊢;exact y2g (by decide) [] (.inl rfl) hl (c0 5) rfl
   . have e:p=wd 6++[]:=hp
     rw[e]at hl ⊢;exact y2g (by decide) [] (.inl rfl) hl (c0 6) rfl
   . have e:p=wd 7++[]:=hp
     rw[e]at hl ⊢;exact y2g (by decide) [] (.inl rfl) hl (c0 7) rfl
theorem d6d(h:TK T A B)(hK:KT T A B)(s:List UInt8)(hs:s.length<=700):y0y (s,true,T,A,B,())=some (true,()):=by
 obtain⟨y,e24,h1,h2⟩:=q24 h (show s.length<=1000 by omega);obtain⟨v,n,nl,a,b,sz,e8,u8,e,u⟩:=y;dsimp only at h1 h2;show x2l C18 C21 C23 C24 C26 C27 C28 _=_;simp only[x2l,e24,Option.bind_some];by_cases he:e=0
 . subst he
   obtain⟨-,hq⟩:=h2 rfl;obtain⟨hok,hA⟩:=hq rfl;dsimp only at hok hA;rw[inF (rfl:(0:Int)=0)];simp only[cond_false,cond_true,b2z hok,Option.bind_some];by_cases hv:v=2
   . rw[inF hv]
     cases u8 with
     | true=>rfl
     | false =>
      simp only[cond_false];obtain⟨a1,a2⟩:=hA hv rfl;have:n=[]/\(-1<=sz/\sz<=16777216)/\PR T A B nl a b:=by
       rcases hok with⟨v',n',hv',e,-⟩|⟨n',a',b',sz',e8',u8',e,hz,hp⟩|⟨a',b',e,-⟩|⟨v',hv',e⟩
       . simp only[Prod.mk.injEq]at e;omega
       . simp only[Prod.mk.injEq,and_true]at e
         obtain⟨-,rfl,rfl,rfl,rfl,rfl,-⟩:=e;exact⟨rfl,hz,hp⟩
       . simp only[Prod.mk.injEq]at e;omega
       . unfold c0 at e;simp only[Prod.mk.injEq]at e;omega
      obtain⟨rfl,hz,h20,la,lb⟩:=this;obtain⟨w,k3,-,k6,-,k7⟩:=psh h hK nl a b la lb h20;have h27:=b2y v [] nl a b w sz e8 false (zero_le _) (by omega) k3 (by omega);rw[h27];simp only[Option.bind_some];have hp:Asc (prt v [] w sz e8 false):=by
       subst hv;show Asc (wd 2++([32,70,82,79,77,58]++w)++par sz e8 false);exact((z1e _ (by decide)).app ((z1e _ (by decide)).app (k6 a1 a2))).app (k7z sz e8 false hz)
      have hpl:(prt v [] w sz e8 false).length<=1000000:=by
       subst hv;show (wd 2++([32,70,82,79,77,58]++w)++par sz e8 false).length<=1000000;have hpar:=k1c sz e8 false hz 0 [] false [] [];have:(par sz e8 false).length<=60:=by
        rcases hpar with⟨-,-,-,h⟩|⟨-,h,-⟩
        . rw[h];simp
        . exact h
       simp only[jf,wd4 (show 2<8 by decide)];omega
      rw[b2v _ hpl hp];rfl
   . rw[inT hv];rfl
 . obtain⟨g1,g2,g3⟩:=h1 he
   simp only[Prod.mk.injEq,and_true,true_and]at g3;obtain⟨rfl,rfl,rfl,rfl,rfl,rfl,rfl,rfl⟩:=g3;rw[inT he,decide_eq_true (show e>=500 from g1),decide_eq_true g2];rfl
end
theorem b3b(v:Int)(n:List UInt8)(nl:Bool)(a b:List UInt8)(sz:Int)(e8 u8:Bool)(s:List UInt8)(hz:sz<=9223372036854775807):C7 (v,n,nl,a,b,sz,e8,u8,s,())=some (true,()):=by
 obtain⟨T,A,B,h18,hT⟩:=tk;have hK:=kt h18;have h38:C38 (a,b,())=some (decide ((a.length:Int)<=150/\(b.length:Int)<=200),()):=by
  show F38 _=_;simp only[F38];by_cases h1:(a.length:Int)<=150
  . rw[decide_eq_true h1]
    simp[h1]
  . rw[decide_eq_false h1]
    simp[h1]
 have h26:C26 (v,n,nl,a,b,sz,e8,u8,())=some (decide (((a.length:Int)<=150/\(b.length:Int)<=200)/\(n.length:Int)<=400),()):=by
  show F26 C38 _=_;simp only[F26,h38,Option.bind_some];by_cases hf:(a.length:Int)<=150/\(b.length:Int)<=200
  . rw[decide_eq_true hf]
    simp[hf]
  . rw[decide_eq_false hf]
    simp[hf]
 show F7 C18 C21 C23 C24 C26 C27 C28 z3l y0y _=_;simp only[F7,b4r,h26,Option.bind_some];by_cases hf:((a.length:Int)<=150/\(b.length:Int)<=200)/\(n.length:Int)<=400
 . rw[decide_eq_true hf]
   simp only[Bool.not_true,cond_false];by_cases hs:(s.length:Int)>700
   . rw[decide_eq_true hs];rfl
   rw[decide_eq_false hs];obtain⟨⟨w,u⟩,h22,-,-,hwl⟩:=d22 nl a b (by omega) (by omega);dsimp only at hwl;obtain⟨⟨r,u'⟩,h28,hr⟩:=q28 hT v n nl a b sz e8 u8 (by omega) (by omega) (by omega);dsimp only at hr;simp only[cond_false,h18,Option.bind_some,b2y v n nl a b w sz e8 u8 (by omega) (by omega) h22 hz,h28];have h71:=d6d hT hK s (by omega);generalize hp:prt v n w sz e8 u8=p;have no:z3l (s,true,p,false,v,n,nl,a,b,sz,e8,u8,T,A,B,())=some (.inr (s,true,T,A,B,())):=rfl;have yes:r=true->p.length<=510->(v=2->u8=false->Asc p)->z3l (s,true,p,true,v,n,nl,a,b,sz,e8,u8,T,A,B,())=some (.inr (s,true,T,A,B,())):=by
    intro hrt hl hA;have h24:=back hT hK (v,n,nl,a,b,sz,e8,u8,()) (hr hrt) (show a.length<=1000 by omega) (show b.length<=1000 by omega) w h22 p hp.symm hl hA;show x2k C18 C21 C23 C24 C26 C27 C28 _=_;simp only[x2k,cond_true,h24,Option.bind_some,inF (rfl:(0:Int)=0),cond_false,beq_self_eq_true,Bool.and_self,Bool.and_true,Bool.not_true]
   cases r with
   | false=>simp only[cond_false,no,Option.bind_some,elim_inr,h71]
   | true =>
    simp only[cond_true];by_cases hl:(p.length:Int)<=510
    . rw[decide_eq_true hl]
      simp only[cond_true];by_cases hv:v=2
      . rw[inF hv]
        cases u8 with
        | true=>simp only[cond_false,cond_true,yes rfl (by omega) (λ_ h=>by cases h),Option.bind_some,elim_inr,h71]
        | false =>
         obtain⟨⟨i,u''⟩,h21,hi,-⟩:=g9s p (by omega);dsimp only at hi;simp only[cond_false,h21,Option.bind_some];by_cases hi0:i<0
         . rw[decide_eq_true hi0,yes rfl (by omega) (λ_ _=>hi hi0)]
           simp only[Option.bind_some,elim_inr,h71]
         . rw[decide_eq_false hi0,no]
           simp only[Option.bind_some,elim_inr,h71]
      . rw[inT hv]
        simp only[cond_true,yes rfl (by omega) (λh=>(hv h).elim),Option.bind_some,elim_inr,h71]
    . rw[decide_eq_false hl]
      simp only[cond_false,no,Option.bind_some,elim_inr,h71]
 . rw[decide_eq_false hf]
   rfl
end Go.Proofs.YtiacnhhmkdkpmaaGreatDoorC.W
namespace Go.Proofs.YtiacnhhmkdkpmaaGreatDoorC.PCommandBack
open Go Go.Ae Go.Proofs.YtiacnhhmkdkpmaaGreatDoorC.W
theorem f2l{n:Int}(h:(Lit.int .i64 n).wf=true):n<=9223372036854775807:=by
 simp[Lit.wf,IntKind.min,IntKind.max,IntKind.bits,IntKind.signed]at h;omega
theorem pure(x0:(Ty.pair (.int .i64) (.pair .str (.pair (.pair .bool (.pair .str .str)) (.pair (.int .i64) (.pair .bool .bool))))).den)(b0:Bd (Ty.pair (.int .i64) (.pair .str (.pair (.pair .bool (.pair .str .str)) (.pair (.int .i64) (.pair .bool .bool))))) x0)(x1:Ty.str.den)(b1:Bd Ty.str x1):C7 (x0.1,x0.2.1,x0.2.2.1.1,x0.2.2.1.2.1,x0.2.2.1.2.2,x0.2.2.2.1,x0.2.2.2.2.1,x0.2.2.2.2.2,x1,())=some (true,()):=by
 refine b3b _ _ _ _ _ _ _ _ _ ?_;exact f2l b0.2.2.2.1
end Go.Proofs.YtiacnhhmkdkpmaaGreatDoorC.PCommandBack
namespace Go.Proofs.YtiacnhhmkdkpmaaGreatDoor
open Go Go.Ae Go.RowKit Go.ChangeShapes
theorem z3d{H:Type}{enc:TypeId×Value->H}{P:Program}{w:World}{base:Nat}{sp:Nat->Bool}{held:Bool}{fuel:Nat}{t e:TypeId}{n:Nat}{cs:List Value}{zs:List (List UInt8)}{p:List MemPlace}(ht:P.underlying t=some (.array n e))(he:P.underlying e=some .string)(hce:P.cellsOf e=1)(hct:P.cellsOf t=n)(h:DataW.trod enc P w base sp held fuel t cs=some (.agg (zs.map λz => .lit (.string z)),p)):cs=zs.map λz=>Value.string ⟨⟨z⟩⟩:=by
 cases fuel with
 | zero=>simp[DataW.trod]at h
 | succ fuel =>
  simp only[DataW.trod,ht,hce,hct,Nat.mul_one]at h;split at h
  . rename_i hl
    obtain⟨xs,hm,hx⟩:=Option.map_eq_some_iff.1 h;have hxs:xs.map (·.1)=zs.map λz=>(DataW.lit (.string z):DataW H):=by
     have:=congrArg Prod.fst hx;simpa using this
    have hxl:xs.length=n:=by simpa using Lib.mapM_length hm
    have hzl:zs.length=n:=by
     have:=congrArg List.length hxs;simp at this;omega
    apply List.ext_getElem?;intro i;by_cases hi:i<n
    . obtain⟨b,hb,hf⟩:=Lib.mapM_at hm i i (by simp[hi])
      obtain⟨z,hc,rfl,_⟩:=DataW.trod_string he hf;have h1:cs[i]? = some (.string z):=by
       have:=congrArg (·[0]?) hc;simpa[List.getElem?_take,List.getElem?_drop]using this
      have h2:(xs.map (·.1))[i]? = some (DataW.lit (.string z.data.toList):DataW H):=by simp[hb]
      rw[hxs]at h2;simp only[List.getElem?_map,Option.map_eq_some_iff,DataW.lit.injEq,Lit.string.injEq]at h2;obtain⟨z',hz',rfl⟩:=h2;simp[h1,hz']
    . rw[List.getElem?_eq_none (by omega),List.getElem?_eq_none (by simp;omega)]
  . cases h
theorem y0e{P:Program}{W:World}{name:String}{zs:List (List UInt8)}{rest:List (String×DataW Unit)}{g:Nat}{t e:TypeId}{n:Nat}(hg:P.globalNamed name=some g)(hty:(P.globals[g]?).map (·.type)=some t)(ht:P.underlying t=some (.array n e))(he:P.underlying e=some .string)(hce:P.cellsOf e=1)(hct:P.cellsOf t=n)(h:laidMet P ((name,.agg (zs.map λz => .lit (.string z)))::rest) W):W.var? P name=some (zs.map λz=>Value.string ⟨⟨z⟩⟩).toArray:=by
 obtain⟨ps,⟨g',t',cs,fuel,p,q,hg',ht',hvar,hd,_,_⟩,_⟩:=h;obtain rfl:=Option.some.inj (hg.symm.trans hg');obtain rfl:=Option.some.inj (hty.symm.trans ht');rw[hvar,<-z3d ht he hce hct hd]
theorem glob{W:World}(hL:laidMetH prog Rows.commandLongRow.laid W)(hsh:W.ShapedOpen prog):GI W m0:=by
 rw[MakeChecks.laidMetH_plain _ _ _ (by kernel_rfl)]at hL;obtain⟨m,hm⟩:=Go.Proofs.cell_of_shapedOpen_int (g:=2) (k := .i64) (t:=3) (zero := #[.int .i64 0]) hsh (of_decide_eq_true (by kernel_rfl)) (by kernel_rfl) (by kernel_rfl) (by kernel_rfl) (by kernel_rfl) (by kernel_rfl);have g1:prog.globalNamed "internal/strconv.uint64pow10" = some 1:=by kernel_rfl
 have g0:prog.globalNamed "pillarbox/command.words" = some 0:=by kernel_rfl
 have h1:Lib.TabIs prog W "internal/strconv.uint64pow10" .u64 w5v:=Lib.tabIs_of_head (zs:=w5v) (t:=245) (e:=189) (n:=20) g1 (by kernel_rfl) (by kernel_rfl) (by kernel_rfl) (by kernel_rfl) (by kernel_rfl) hL.tail.tail;have h0:W.var? prog "pillarbox/command.words" = some (y0g.map λz=>Value.string ⟨⟨z⟩⟩).toArray:=y0e (zs:=y0g) (t:=153) (e:=9) (n:=8) g0 (by kernel_rfl) (by kernel_rfl) (by kernel_rfl) (by kernel_rfl) (by kernel_rfl) hL.tail.tail.tail.tail;obtain⟨ty1,fz1,k1⟩:=y4y g1 h1;obtain⟨ty0,fz0,k0⟩:=y4y g0 h0;refine⟨⟨⟨m,hm⟩,⟨ty1,fz1,k1⟩,⟨ty0,fz0,k0⟩⟩,λb hb=>⟨?_,λh=>h⟩⟩;simp only[q0s,mem_cons,List.not_mem_nil,or_false]at hb;rcases hb with rfl|rfl|rfl
 . exact lt_of_heap k0
 . exact lt_of_heap k1
 . exact lt_of_cell hm
end Go.Proofs.YtiacnhhmkdkpmaaGreatDoor
