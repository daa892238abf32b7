/- The texts of the proof, one behind the other: W4, W5, W6, W7, W8, XDom, W9. -/
import Derived.Test.YtiacnhhmkdkpmaaGreatDoorAMv3
import Derived.RangeFuncBox
import Derived.OwnWalkIn
import Derived.TacticsInMore
import Derived.LoopNIn
import Derived.LoopIn
import Derived.Sort.LoopGhostIn
import Derived.Maps.AppendAt
set_option maxRecDepth 100000
set_option linter.unusedVariables false
namespace Go.Proofs.YtiacnhhmkdkpmaaGreatDoorA.W
open Go Go.Ae
abbrev j2j:=(Int×Int)×Int×Int×Int×List (Int)×qu×qw×qx×Unit→Option ((Int×Int)×Int×Int×List (Int)×qu×qw×qx×Unit)
def x3d (f:j2j):LEnt:=⟨b2l,b3e,f⟩
abbrev q0r:=(Int×Int)×Int×Int×Int×List (Int)×qu×qw×qx×Unit→Option (List (Int)×qu×qw×qx×Unit)
def b0v (f:q0r):FEnt:=⟨y6v,j4f,f⟩
def g9o (f316:y7e):=lk [(316,b0w f316)]
theorem v9r:zd Tryz.prog (g9o z2z):=(kc b9z kn)
def j8i (f316:y7e):ye ((Int×Int)×Int×Int×Int×List (Int)×qu×qw×qx×Unit) ((Int×Int)×Int×Int×List (Int)×qu×qw×qx×Unit):=fun (x0,x1,x2,x3,x4,x5,x6,x7,_)=>bif x2 != x3 then bif decide (x2>x3) then (f316 (((↑(Int.toNat x0.1):Int),(↑(Int.toNat x0.2):Int)),IntKind.i64.wrap (x1-x2),x1,x3,x4,x5,x6,x7,())).bind fun v=>some (Sum.inl (((↑(Int.toNat x0.1):Int),(↑(Int.toNat x0.2):Int)),x1,IntKind.i64.wrap (x2-x3),x3,v.1,v.2.1,v.2.2.1,v.2.2.2.1,())) else (f316 (((↑(Int.toNat x0.1):Int),(↑(Int.toNat x0.2):Int)),IntKind.i64.wrap (x1-x2),IntKind.i64.wrap (IntKind.i64.wrap (x1+x3)-x2),x2,x4,x5,x6,x7,())).bind fun v=>some (Sum.inl (((↑(Int.toNat x0.1):Int),(↑(Int.toNat x0.2):Int)),x1,x2,IntKind.i64.wrap (x3-x2),v.1,v.2.1,v.2.2.1,v.2.2.2.1,())) else some (Sum.inr (((↑(Int.toNat x0.1):Int),(↑(Int.toNat x0.2):Int)),x1,x2,x4,x5,x6,x7,()))
def z6v:j2j:=qb (j8i z2z) je
theorem w5e:jf 2 (qd (code Tryz.f315) [1,1,0,0,0]) (x3d z6v):=zl1 b2l b3e g9o j8i z2z v9r
def d5x (f315_l0:j2j):Ann:=(.seq .nil (.seq .nil (.seq (.blk (.loop (x3d f315_l0))) .nil)))
def k6m (f316:y7e) (f315_l0:j2j):q0r:=fun (x0,x1,x2,x3,x4,x5,x6,x7,_)=>(f315_l0 (((↑(Int.toNat x0.1):Int),(↑(Int.toNat x0.2):Int)),x2,IntKind.i64.wrap (x2-x1),IntKind.i64.wrap (x3-x2),x4,x5,x6,x7,())).bind fun v=>(f316 (((↑(Int.toNat v.1.1):Int),(↑(Int.toNat v.1.2):Int)),IntKind.i64.wrap (v.2.1-v.2.2.1),v.2.1,v.2.2.1,v.2.2.2.1,v.2.2.2.2.1,v.2.2.2.2.2.1,v.2.2.2.2.2.2.1,())).bind fun v=>some (v.1,v.2.1,v.2.2.1,v.2.2.2.1,())
theorem m0x (f316:y7e) (f315_l0:j2j):yd (g9o f316) 2 Tryz.f315 (d5x f315_l0) y6v j4f (k6m f316 f315_l0):=fun v=>by kernel_rfl
def yc:q0r:=k6m z2z z6v
theorem b9y:FO 315 (b0v yc) :=
 qo v9r Tryz.func315 (And.intro w5e trivial) (m0x z2z z6v)
abbrev j2e:=(Int×Int)×Int×Int×Int×List (Int)×qu×qw×qx×Unit→Option ((Int×Int)×Int×Int×List (Int)×qu×qw×qx×Unit)
def x2y (f:j2e):LEnt:=⟨k7f,k7r,f⟩
abbrev j2f:=(Int×Int)×Int×Int×List (Int)×qu×qw×qx×Unit→Option (List (Int)×qu×qw×qx×Unit)
def x2z (f:j2f):LEnt:=⟨k7g,k7s,f⟩
abbrev j2g:=(Int×Int)×Int×Int×Int×List (Int)×qu×qw×qx×Unit→Option ((Int×Int)×Int×Int×List (Int)×qu×qw×qx×Unit)
def x3a (f:j2g):LEnt:=⟨k7h,k7t,f⟩
abbrev j2h:=(Int×Int)×Int×Int×List (Int)×qu×qw×qx×Unit→Option (List (Int)×qu×qw×qx×Unit)
def x3b (f:j2h):LEnt:=⟨k7i,k7u,f⟩
abbrev j2i:=(Int×Int)×Int×Int×Int×Int×Int×Int×Int×Int×List (Int)×qu×qw×qx×Unit→Option ((Int×Int)×Int×Int×Int×Int×Int×Int×List (Int)×qu×qw×qx×Unit)
def x3c (f:j2i):LEnt:=⟨k7j,k7v,f⟩
abbrev q6m:=(Int×Int)×Int×Int×Int×List (Int)×qu×qw×qx×Unit→Option (List (Int)×qu×qw×qx×Unit)
def x2v (f:q6m):LEnt:=⟨g9r,z8j,f⟩
abbrev q6n:=(Int×Int)×Int×Int×Int×Int×Int×List (Int)×qu×qw×qx×Unit→Option (List (Int)×qu×qw×qx×Unit)
def x2w (f:q6n):LEnt:=⟨g9s,z8j,f⟩
abbrev q6o:=(Int×Int)×Int×Int×Int×Int×Int×Int×Int×List (Int)×qu×qw×qx×Unit→Option (List (Int)×qu×qw×qx×Unit)
def x2x (f:q6o):LEnt:=⟨g9t,z8j,f⟩
abbrev jk:=(Int×Int)×Int×Int×Int×List (Int)×qu×qw×qx×Unit→Option (List (Int)×qu×qw×qx×Unit)
def j6g (f:jk):FEnt:=⟨y6v,j4f,f⟩
def z3c (f278:xz) (f311:jk) (f315:q0r):=lk [(278,g7s f278),(311,j6g f311),(315,b0v f315)]
theorem q2r (G:jk) (hG:zj Tryz.prog 311 (j6g G)):zd Tryz.prog (z3c zm G yc):=(kc g6f (kc hG (kc b9y kn)))
def j0a (f278:xz) (f311:jk) (f315:q0r):ye ((Int×Int)×Int×Int×Int×List (Int)×qu×qw×qx×Unit) ((Int×Int)×Int×Int×List (Int)×qu×qw×qx×Unit):=fun (x0,x1,x2,x3,x4,x5,x6,x7,_)=>bif decide (x2<x3) then bif decide (0≤IntKind.i64.wrap ((IntKind.u64.wrap (IntKind.i64.wrap (x2+x3))).fdiv (2^min 1 IntKind.u64.bits)))&&decide (IntKind.i64.wrap ((IntKind.u64.wrap (IntKind.i64.wrap (x2+x3))).fdiv (2^min 1 IntKind.u64.bits))<(↑(Int.toNat x0.2):Int)) then bif decide (0≤x1)&&decide (x1<(↑(Int.toNat x0.2):Int)) then (f278 (x4.getD (Int.toNat x0.1+(IntKind.i64.wrap ((IntKind.u64.wrap (IntKind.i64.wrap (x2+x3))).fdiv (2^min 1 IntKind.u64.bits))).toNat) 0,x4.getD (Int.toNat x0.1+x1.toNat) 0,x5,x6,x7,())).bind fun v=>bif decide (v.1<0) then some (Sum.inl (((↑(Int.toNat x0.1):Int),(↑(Int.toNat x0.2):Int)),x1,IntKind.i64.wrap (IntKind.i64.wrap ((IntKind.u64.wrap (IntKind.i64.wrap (x2+x3))).fdiv (2^min 1 IntKind.u64.bits))+1),x3,x4,v.2.1,v.2.2.1,v.2.2.2.1,())) else some (Sum.inl (((↑(Int.toNat x0.1):Int),(↑(Int.toNat x0.2):Int)),x1,x2,IntKind.i64.wrap ((IntKind.u64.wrap (IntKind.i64.wrap (x2+x3))).fdiv (2^min 1 IntKind.u64.bits)),x4,v.2.1,v.2.2.1,v.2.2.2.1,())) else none else none else some (Sum.inr (((↑(Int.toNat x0.1):Int),(↑(Int.toNat x0.2):Int)),x1,x2,x4,x5,x6,x7,()))
theorem w1k (f278:xz) (f311:jk) (f315:q0r):AqL (z3c f278 f311 f315) 2 (qd (code Tryz.f311) [0,1,0,1,1,0,0,0]) .nil k7f k7r (j0a f278 f311 f315):=fun v=>by kernel_rfl
def vt (G:jk):j2e:=qb (j0a zm G yc) je
theorem w4z (G:jk) (hG:zj Tryz.prog 311 (j6g G)):jf 2 (qd (code Tryz.f311) [0,1,0,1,1,0,0,0]) (x2y (vt G)) :=
 ym (ins:=k7f) (os:=k7r) (C:=(vt G)) (vk (ins:=k7f) (os:=k7r) (n := .nil) (F:=j0a zm G yc) hm hΓ (q2r G hG) (fun _=>je) (jt _) (w1k zm G yc)) rfl
def j0b (f278:xz) (f311:jk) (f315:q0r):ye ((Int×Int)×Int×Int×List (Int)×qu×qw×qx×Unit) (List (Int)×qu×qw×qx×Unit):=fun (x0,x1,x2,x3,x4,x5,x6,_)=>bif decide (x2<IntKind.i64.wrap (x1-1)) then bif decide (0≤IntKind.i64.wrap (x2+1))&&decide (IntKind.i64.wrap (x2+1)<(↑(Int.toNat x0.2):Int)) then bif decide (0≤x2)&&decide (x2<(↑(Int.toNat x0.2):Int)) then bif decide (0≤x2)&&decide (x2<(↑(Int.toNat x0.2):Int)) then bif decide (0≤IntKind.i64.wrap (x2+1))&&decide (IntKind.i64.wrap (x2+1)<(↑(Int.toNat x0.2):Int)) then some (Sum.inl (((↑(Int.toNat x0.1):Int),(↑(Int.toNat x0.2):Int)),x1,IntKind.i64.wrap (x2+1),(x3.set (Int.toNat x0.1+x2.toNat) (x3.getD (Int.toNat x0.1+(IntKind.i64.wrap (x2+1)).toNat) 0)).set (Int.toNat x0.1+(IntKind.i64.wrap (x2+1)).toNat) (x3.getD (Int.toNat x0.1+x2.toNat) 0),x4,x5,x6,())) else none else none else none else none else some (Sum.inr (x3,x4,x5,x6,()))
theorem w1l (f278:xz) (f311:jk) (f315:q0r):AqL (z3c f278 f311 f315) 2 (qd (code Tryz.f311) [0,1,0,1,1,1,0,1,0,0]) .nil k7g k7s (j0b f278 f311 f315):=fun v=>by kernel_rfl
def vv (G:jk):j2f:=qb (j0b zm G yc) je
theorem w5a (G:jk) (hG:zj Tryz.prog 311 (j6g G)):jf 2 (qd (code Tryz.f311) [0,1,0,1,1,1,0,1,0,0]) (x2z (vv G)) :=
 ym (ins:=k7g) (os:=k7s) (C:=(vv G)) (vk (ins:=k7g) (os:=k7s) (n := .nil) (F:=j0b zm G yc) hm hΓ (q2r G hG) (fun _=>je) (jt _) (w1l zm G yc)) rfl
def j0c (f278:xz) (f311:jk) (f315:q0r):ye ((Int×Int)×Int×Int×Int×List (Int)×qu×qw×qx×Unit) ((Int×Int)×Int×Int×List (Int)×qu×qw×qx×Unit):=fun (x0,x1,x2,x3,x4,x5,x6,x7,_)=>bif decide (x2<x3) then bif decide (0≤x1)&&decide (x1<(↑(Int.toNat x0.2):Int)) then bif decide (0≤IntKind.i64.wrap ((IntKind.u64.wrap (IntKind.i64.wrap (x2+x3))).fdiv (2^min 1 IntKind.u64.bits)))&&decide (IntKind.i64.wrap ((IntKind.u64.wrap (IntKind.i64.wrap (x2+x3))).fdiv (2^min 1 IntKind.u64.bits))<(↑(Int.toNat x0.2):Int)) then (f278 (x4.getD (Int.toNat x0.1+x1.toNat) 0,x4.getD (Int.toNat x0.1+(IntKind.i64.wrap ((IntKind.u64.wrap (IntKind.i64.wrap (x2+x3))).fdiv (2^min 1 IntKind.u64.bits))).toNat) 0,x5,x6,x7,())).bind fun v=>bif !decide (v.1<0) then some (Sum.inl (((↑(Int.toNat x0.1):Int),(↑(Int.toNat x0.2):Int)),x1,IntKind.i64.wrap (IntKind.i64.wrap ((IntKind.u64.wrap (IntKind.i64.wrap (x2+x3))).fdiv (2^min 1 IntKind.u64.bits))+1),x3,x4,v.2.1,v.2.2.1,v.2.2.2.1,())) else some (Sum.inl (((↑(Int.toNat x0.1):Int),(↑(Int.toNat x0.2):Int)),x1,x2,IntKind.i64.wrap ((IntKind.u64.wrap (IntKind.i64.wrap (x2+x3))).fdiv (2^min 1 IntKind.u64.bits)),x4,v.2.1,v.2.2.1,v.2.2.2.1,())) else none else none else some (Sum.inr (((↑(Int.toNat x0.1):Int),(↑(Int.toNat x0.2):Int)),x1,x2,x4,x5,x6,x7,()))
theorem w1m (f278:xz) (f311:jk) (f315:q0r):AqL (z3c f278 f311 f315) 2 (qd (code Tryz.f311) [1,0,1,0,1,1,0,0,0]) .nil k7h k7t (j0c f278 f311 f315):=fun v=>by kernel_rfl
def vw (G:jk):j2g:=qb (j0c zm G yc) je
theorem w5b (G:jk) (hG:zj Tryz.prog 311 (j6g G)):jf 2 (qd (code Tryz.f311) [1,0,1,0,1,1,0,0,0]) (x3a (vw G)) :=
 ym (ins:=k7h) (os:=k7t) (C:=(vw G)) (vk (ins:=k7h) (os:=k7t) (n := .nil) (F:=j0c zm G yc) hm hΓ (q2r G hG) (fun _=>je) (jt _) (w1m zm G yc)) rfl
def j0d (f278:xz) (f311:jk) (f315:q0r):ye ((Int×Int)×Int×Int×List (Int)×qu×qw×qx×Unit) (List (Int)×qu×qw×qx×Unit):=fun (x0,x1,x2,x3,x4,x5,x6,_)=>bif decide (x2>x1) then bif decide (0≤IntKind.i64.wrap (x2-1))&&decide (IntKind.i64.wrap (x2-1)<(↑(Int.toNat x0.2):Int)) then bif decide (0≤x2)&&decide (x2<(↑(Int.toNat x0.2):Int)) then bif decide (0≤x2)&&decide (x2<(↑(Int.toNat x0.2):Int)) then bif decide (0≤IntKind.i64.wrap (x2-1))&&decide (IntKind.i64.wrap (x2-1)<(↑(Int.toNat x0.2):Int)) then some (Sum.inl (((↑(Int.toNat x0.1):Int),(↑(Int.toNat x0.2):Int)),x1,IntKind.i64.wrap (x2-1),(x3.set (Int.toNat x0.1+x2.toNat) (x3.getD (Int.toNat x0.1+(IntKind.i64.wrap (x2-1)).toNat) 0)).set (Int.toNat x0.1+(IntKind.i64.wrap (x2-1)).toNat) (x3.getD (Int.toNat x0.1+x2.toNat) 0),x4,x5,x6,())) else none else none else none else none else some (Sum.inr (x3,x4,x5,x6,()))
theorem w1n (f278:xz) (f311:jk) (f315:q0r):AqL (z3c f278 f311 f315) 2 (qd (code Tryz.f311) [1,0,1,0,1,1,1,0,1,0,0]) .nil k7i k7u (j0d f278 f311 f315):=fun v=>by kernel_rfl
def vy (G:jk):j2h:=qb (j0d zm G yc) je
theorem w5c (G:jk) (hG:zj Tryz.prog 311 (j6g G)):jf 2 (qd (code Tryz.f311) [1,0,1,0,1,1,1,0,1,0,0]) (x3b (vy G)) :=
 ym (ins:=k7i) (os:=k7u) (C:=(vy G)) (vk (ins:=k7i) (os:=k7u) (n := .nil) (F:=j0d zm G yc) hm hΓ (q2r G hG) (fun _=>je) (jt _) (w1n zm G yc)) rfl
def j0e (f278:xz) (f311:jk) (f315:q0r):ye ((Int×Int)×Int×Int×Int×Int×Int×Int×Int×Int×List (Int)×qu×qw×qx×Unit) ((Int×Int)×Int×Int×Int×Int×Int×Int×List (Int)×qu×qw×qx×Unit):=fun (x0,x1,x2,x3,x4,x5,x6,x7,x8,x9,x10,x11,x12,_)=>bif decide (x6<x7) then bif decide (0≤IntKind.i64.wrap (x8-IntKind.i64.wrap ((IntKind.u64.wrap (IntKind.i64.wrap (x6+x7))).fdiv (2^min 1 IntKind.u64.bits))))&&decide (IntKind.i64.wrap (x8-IntKind.i64.wrap ((IntKind.u64.wrap (IntKind.i64.wrap (x6+x7))).fdiv (2^min 1 IntKind.u64.bits)))<(↑(Int.toNat x0.2):Int)) then bif decide (0≤IntKind.i64.wrap ((IntKind.u64.wrap (IntKind.i64.wrap (x6+x7))).fdiv (2^min 1 IntKind.u64.bits)))&&decide (IntKind.i64.wrap ((IntKind.u64.wrap (IntKind.i64.wrap (x6+x7))).fdiv (2^min 1 IntKind.u64.bits))<(↑(Int.toNat x0.2):Int)) then (f278 (x9.getD (Int.toNat x0.1+(IntKind.i64.wrap (x8-IntKind.i64.wrap ((IntKind.u64.wrap (IntKind.i64.wrap (x6+x7))).fdiv (2^min 1 IntKind.u64.bits)))).toNat) 0,x9.getD (Int.toNat x0.1+(IntKind.i64.wrap ((IntKind.u64.wrap (IntKind.i64.wrap (x6+x7))).fdiv (2^min 1 IntKind.u64.bits))).toNat) 0,x10,x11,x12,())).bind fun v=>bif !decide (v.1<0) then some (Sum.inl (((↑(Int.toNat x0.1):Int),(↑(Int.toNat x0.2):Int)),x1,x2,x3,x4,x5,IntKind.i64.wrap (IntKind.i64.wrap ((IntKind.u64.wrap (IntKind.i64.wrap (x6+x7))).fdiv (2^min 1 IntKind.u64.bits))+1),x7,x8,x9,v.2.1,v.2.2.1,v.2.2.2.1,())) else some (Sum.inl (((↑(Int.toNat x0.1):Int),(↑(Int.toNat x0.2):Int)),x1,x2,x3,x4,x5,x6,IntKind.i64.wrap ((IntKind.u64.wrap (IntKind.i64.wrap (x6+x7))).fdiv (2^min 1 IntKind.u64.bits)),x8,x9,v.2.1,v.2.2.1,v.2.2.2.1,())) else none else none else some (Sum.inr (((↑(Int.toNat x0.1):Int),(↑(Int.toNat x0.2):Int)),x1,x2,x3,x4,x5,x6,x9,x10,x11,x12,()))
theorem w1o (f278:xz) (f311:jk) (f315:q0r):AqL (z3c f278 f311 f315) 2 (qd (code Tryz.f311) [1,1,1,1,1,1,1,0,0,0]) .nil k7j k7v (j0e f278 f311 f315):=fun v=>by kernel_rfl
def wc (G:jk):j2i:=qb (j0e zm G yc) je
theorem w5d (G:jk) (hG:zj Tryz.prog 311 (j6g G)):jf 2 (qd (code Tryz.f311) [1,1,1,1,1,1,1,0,0,0]) (x3c (wc G)) :=
 ym (ins:=k7j) (os:=k7v) (C:=(wc G)) (vk (ins:=k7j) (os:=k7v) (n := .nil) (F:=j0e zm G yc) hm hΓ (q2r G hG) (fun _=>je) (jt _) (w1o zm G yc)) rfl
def q5l (f278:xz) (f311:jk) (f315:q0r):q6m:=fun (x0,x1,x2,x3,x4,x5,x6,x7,_)=>bif decide (x2<x3) then bif decide (x3<x1) then (f311 (((↑(Int.toNat x0.1):Int),(↑(Int.toNat x0.2):Int)),x2,x3,x1,x4,x5,x6,x7,())).bind fun v=>some (v.1,v.2.1,v.2.2.1,v.2.2.2.1,()) else some (x4,x5,x6,x7,()) else some (x4,x5,x6,x7,())
theorem w1h (f278:xz) (f311:jk) (f315:q0r):AqC (z3c f278 f311 f315) 2 (qd (code Tryz.f311) [1,1,1,1,1,1,1,1,1,1,1]) .nil g9r z8j (q5l f278 f311 f315):=fun v=>by kernel_rfl
def xr (G:jk):q6m:=q5l zm G yc
theorem w4w (G:jk) (hG:zj Tryz.prog 311 (j6g G)):zo 2 (qd (code Tryz.f311) [1,1,1,1,1,1,1,1,1,1,1]) (x2v (xr G)) :=
 wn (ins:=g9r) (os:=z8j) (n := .nil) (F:=(xr G)) hm hΓ (q2r G hG) (jt _) (w1h zm G yc)
def x4y (f311_c0:q6m):Ann:=(.cut .nil (x2v f311_c0))
def q5m (f278:xz) (f311:jk) (f315:q0r) (f311_c0:q6m):q6n:=fun (x0,x1,x2,x3,x4,x5,x6,x7,x8,x9,_)=>bif decide (x1<x4) then bif decide (x4<x3) then (f311 (((↑(Int.toNat x0.1):Int),(↑(Int.toNat x0.2):Int)),x1,x4,x3,x6,x7,x8,x9,())).bind fun v=>(f311_c0 (((↑(Int.toNat x0.1):Int),(↑(Int.toNat x0.2):Int)),x2,x3,x5,v.1,v.2.1,v.2.2.1,v.2.2.2.1,())).bind fun v=>some (v.1,v.2.1,v.2.2.1,v.2.2.2.1,()) else (f311_c0 (((↑(Int.toNat x0.1):Int),(↑(Int.toNat x0.2):Int)),x2,x3,x5,x6,x7,x8,x9,())).bind fun v=>some (v.1,v.2.1,v.2.2.1,v.2.2.2.1,()) else (f311_c0 (((↑(Int.toNat x0.1):Int),(↑(Int.toNat x0.2):Int)),x2,x3,x5,x6,x7,x8,x9,())).bind fun v=>some (v.1,v.2.1,v.2.2.1,v.2.2.2.1,())
theorem w1i (f278:xz) (f311:jk) (f315:q0r) (f311_c0:q6m):AqC (z3c f278 f311 f315) 2 (qd (code Tryz.f311) [1,1,1,1,1,1,1,1,1,1]) (x4y f311_c0) g9s z8j (q5m f278 f311 f315 f311_c0):=fun v=>by kernel_rfl
def xt (G:jk):q6n:=q5m zm G yc (xr G)
theorem w4x (G:jk) (hG:zj Tryz.prog 311 (j6g G)):zo 2 (qd (code Tryz.f311) [1,1,1,1,1,1,1,1,1,1]) (x2w (xt G)) :=
 wn (ins:=g9s) (os:=z8j) (n:=(x4y (xr G))) (F:=(xt G)) hm hΓ (q2r G hG) (q0x (And.intro (w4w G hG) trivial) (by kernel_rfl)) (w1i zm G yc (xr G))
def x4z (f311_c1:q6n) (f311_l4:j2i):Ann:=(.seq .nil (.seq (.blk (.loop (x3c f311_l4))) (.seq .nil (.cut .nil (x2w f311_c1)))))
def q5n (f278:xz) (f311:jk) (f315:q0r) (f311_c1:q6n) (f311_l4:j2i):q6o:=fun (x0,x1,x2,x3,x4,x5,x6,x7,x8,x9,x10,x11,_)=>(f311_l4 (((↑(Int.toNat x0.1):Int),(↑(Int.toNat x0.2):Int)),x1,x2,x3,x4,x5,x6,x7,IntKind.i64.wrap (x5-1),x8,x9,x10,x11,())).bind fun v=>bif decide (v.2.2.2.2.2.2.1<v.2.2.1) then bif decide (v.2.2.1<IntKind.i64.wrap (v.2.2.2.2.2.1-v.2.2.2.2.2.2.1)) then (f315 (((↑(Int.toNat v.1.1):Int),(↑(Int.toNat v.1.2):Int)),v.2.2.2.2.2.2.1,v.2.2.1,IntKind.i64.wrap (v.2.2.2.2.2.1-v.2.2.2.2.2.2.1),v.2.2.2.2.2.2.2.1,v.2.2.2.2.2.2.2.2.1,v.2.2.2.2.2.2.2.2.2.1,v.2.2.2.2.2.2.2.2.2.2.1,())).bind fun v1=>(f311_c1 (((↑(Int.toNat v.1.1):Int),(↑(Int.toNat v.1.2):Int)),v.2.1,v.2.2.2.1,v.2.2.2.2.1,v.2.2.2.2.2.2.1,IntKind.i64.wrap (v.2.2.2.2.2.1-v.2.2.2.2.2.2.1),v1.1,v1.2.1,v1.2.2.1,v1.2.2.2.1,())).bind fun v=>some (v.1,v.2.1,v.2.2.1,v.2.2.2.1,()) else (f311_c1 (((↑(Int.toNat v.1.1):Int),(↑(Int.toNat v.1.2):Int)),v.2.1,v.2.2.2.1,v.2.2.2.2.1,v.2.2.2.2.2.2.1,IntKind.i64.wrap (v.2.2.2.2.2.1-v.2.2.2.2.2.2.1),v.2.2.2.2.2.2.2.1,v.2.2.2.2.2.2.2.2.1,v.2.2.2.2.2.2.2.2.2.1,v.2.2.2.2.2.2.2.2.2.2.1,())).bind fun v=>some (v.1,v.2.1,v.2.2.1,v.2.2.2.1,()) else (f311_c1 (((↑(Int.toNat v.1.1):Int),(↑(Int.toNat v.1.2):Int)),v.2.1,v.2.2.2.1,v.2.2.2.2.1,v.2.2.2.2.2.2.1,IntKind.i64.wrap (v.2.2.2.2.2.1-v.2.2.2.2.2.2.1),v.2.2.2.2.2.2.2.1,v.2.2.2.2.2.2.2.2.1,v.2.2.2.2.2.2.2.2.2.1,v.2.2.2.2.2.2.2.2.2.2.1,())).bind fun v=>some (v.1,v.2.1,v.2.2.1,v.2.2.2.1,())
theorem w1j (f278:xz) (f311:jk) (f315:q0r) (f311_c1:q6n) (f311_l4:j2i):AqC (z3c f278 f311 f315) 2 (qd (code Tryz.f311) [1,1,1,1,1,1]) (x4z f311_c1 f311_l4) g9t z8j (q5n f278 f311 f315 f311_c1 f311_l4):=fun v=>by kernel_rfl
def vr (G:jk):q6o:=q5n zm G yc (xt G) (wc G)
theorem w4y (G:jk) (hG:zj Tryz.prog 311 (j6g G)):zo 2 (qd (code Tryz.f311) [1,1,1,1,1,1]) (x2x (vr G)) :=
 wn (ins:=g9t) (os:=z8j) (n:=(x4z (xt G) (wc G))) (F:=(vr G)) hm hΓ (q2r G hG) (q0x (And.intro (w5d G hG) (And.intro (w4x G hG) trivial)) (by kernel_rfl)) (w1j zm G yc (xt G) (wc G))
def d5w (f311_c2:q6o) (f311_l0:j2e) (f311_l1:j2f) (f311_l2:j2g) (f311_l3:j2h):Ann:=(.seq (.seq .nil (.cond (.seq .nil (.seq .nil (.seq (.blk (.loop (x2y f311_l0))) (.seq (.seq .nil (.blk (.loop (x2z f311_l1)))) .nil)))) .nil)) (.seq (.seq .nil (.cond (.seq .nil (.seq .nil (.seq (.blk (.loop (x3a f311_l2))) (.seq (.seq .nil (.blk (.loop (x3b f311_l3)))) .nil)))) .nil)) (.seq .nil (.seq .nil (.seq .nil (.cut .nil (x2x f311_c2)))))))
def y1r (f278:xz) (f311:jk) (f315:q0r) (f311_c2:q6o) (f311_l0:j2e) (f311_l1:j2f) (f311_l2:j2g) (f311_l3:j2h):jk:=fun (x0,x1,x2,x3,x4,x5,x6,x7,_)=>bif IntKind.i64.wrap (x2-x1)==1 then (f311_l0 (((↑(Int.toNat x0.1):Int),(↑(Int.toNat x0.2):Int)),x1,x2,x3,x4,x5,x6,x7,())).bind fun v=>(f311_l1 (((↑(Int.toNat v.1.1):Int),(↑(Int.toNat v.1.2):Int)),v.2.2.1,v.2.1,v.2.2.2.1,v.2.2.2.2.1,v.2.2.2.2.2.1,v.2.2.2.2.2.2.1,())).bind fun v=>some (v.1,v.2.1,v.2.2.1,v.2.2.2.1,()) else bif IntKind.i64.wrap (x3-x2)==1 then (f311_l2 (((↑(Int.toNat x0.1):Int),(↑(Int.toNat x0.2):Int)),x2,x1,x2,x4,x5,x6,x7,())).bind fun v=>(f311_l3 (((↑(Int.toNat v.1.1):Int),(↑(Int.toNat v.1.2):Int)),v.2.2.1,v.2.1,v.2.2.2.1,v.2.2.2.2.1,v.2.2.2.2.2.1,v.2.2.2.2.2.2.1,())).bind fun v=>some (v.1,v.2.1,v.2.2.1,v.2.2.2.1,()) else bif decide (x2>IntKind.i64.wrap ((IntKind.u64.wrap (IntKind.i64.wrap (x1+x3))).fdiv (2^min 1 IntKind.u64.bits))) then (f311_c2 (((↑(Int.toNat x0.1):Int),(↑(Int.toNat x0.2):Int)),x1,x2,x3,IntKind.i64.wrap ((IntKind.u64.wrap (IntKind.i64.wrap (x1+x3))).fdiv (2^min 1 IntKind.u64.bits)),IntKind.i64.wrap (IntKind.i64.wrap ((IntKind.u64.wrap (IntKind.i64.wrap (x1+x3))).fdiv (2^min 1 IntKind.u64.bits))+x2),IntKind.i64.wrap (IntKind.i64.wrap (IntKind.i64.wrap ((IntKind.u64.wrap (IntKind.i64.wrap (x1+x3))).fdiv (2^min 1 IntKind.u64.bits))+x2)-x3),IntKind.i64.wrap ((IntKind.u64.wrap (IntKind.i64.wrap (x1+x3))).fdiv (2^min 1 IntKind.u64.bits)),x4,x5,x6,x7,())).bind fun v=>some (v.1,v.2.1,v.2.2.1,v.2.2.2.1,()) else (f311_c2 (((↑(Int.toNat x0.1):Int),(↑(Int.toNat x0.2):Int)),x1,x2,x3,IntKind.i64.wrap ((IntKind.u64.wrap (IntKind.i64.wrap (x1+x3))).fdiv (2^min 1 IntKind.u64.bits)),IntKind.i64.wrap (IntKind.i64.wrap ((IntKind.u64.wrap (IntKind.i64.wrap (x1+x3))).fdiv (2^min 1 IntKind.u64.bits))+x2),x1,x2,x4,x5,x6,x7,())).bind fun v=>some (v.1,v.2.1,v.2.2.1,v.2.2.2.1,())
theorem m0w (f278:xz) (f311:jk) (f315:q0r) (f311_c2:q6o) (f311_l0:j2e) (f311_l1:j2f) (f311_l2:j2g) (f311_l3:j2h):yd (z3c f278 f311 f315) 2 Tryz.f311 (d5w f311_c2 f311_l0 f311_l1 f311_l2 f311_l3) y6v j4f (y1r f278 f311 f315 f311_c2 f311_l0 f311_l1 f311_l2 f311_l3):=fun v=>by kernel_rfl
def j6f:jk:=q1x (fun G=>y1r zm G yc (vr G) (vt G) (vv G) (vw G) (vy G)) je
theorem b9v:FO 311 (j6g j6f) :=
 y7t (ins:=y6v) (os:=j4f) (F:=fun G=>y1r zm G yc (vr G) (vt G) (vv G) (vw G) (vy G)) (fun G hG=>qo (q2r G hG) Tryz.func311 (And.intro (w4z G hG) (And.intro (w5a G hG) (And.intro (w5b G hG) (And.intro (w5c G hG) (And.intro (w4y G hG) trivial))))) (m0w zm G yc (vr G) (vt G) (vv G) (vw G) (vy G))) je
abbrev j1w:=(Int×Int)×Int×Int×Int×Int×List (Int)×qu×qw×qx×Unit→Option ((Int×Int)×Int×Int×Int×List (Int)×qu×qw×qx×Unit)
def x2m (f:j1w):LEnt:=⟨k7k,b3f,f⟩
abbrev j1x:=(Int×Int)×Int×Int×Int×Int×List (Int)×qu×qw×qx×Unit→Option ((Int×Int)×Int×Int×Int×List (Int)×qu×qw×qx×Unit)
def x2n (f:j1x):LEnt:=⟨k7k,g1b,f⟩
abbrev j1y:=(Int×Int)×Int×Int×List (Int)×qu×qw×qx×Unit→Option (List (Int)×qu×qw×qx×Unit)
def x2o (f:j1y):LEnt:=⟨w7d,g1c,f⟩
abbrev v0m:=(Int×Int)×Int×List (Int)×qu×qw×qx×Unit→Option (List (Int)×qu×qw×qx×Unit)
def b0l (f:v0m):FEnt:=⟨b2m,j4f,f⟩
def v5f (f310:z3m) (f311:jk):=lk [(310,b0s f310),(311,j6g f311)]
theorem z9y:zd Tryz.prog (v5f q9w j6f):=(kc b9u (kc b9v kn))
def j8c (f310:z3m) (f311:jk):ye ((Int×Int)×Int×Int×Int×Int×List (Int)×qu×qw×qx×Unit) ((Int×Int)×Int×Int×Int×List (Int)×qu×qw×qx×Unit):=fun (x0,x1,x2,x3,x4,x5,x6,x7,x8,_)=>bif decide (x4≤x1) then (f310 (((↑(Int.toNat x0.1):Int),(↑(Int.toNat x0.2):Int)),x3,x4,x5,x6,x7,x8,())).bind fun v=>some (Sum.inl (((↑(Int.toNat x0.1):Int),(↑(Int.toNat x0.2):Int)),x1,x2,x4,IntKind.i64.wrap (x4+x2),v.1,v.2.1,v.2.2.1,v.2.2.2.1,())) else some (Sum.inr (((↑(Int.toNat x0.1):Int),(↑(Int.toNat x0.2):Int)),x1,x2,x3,x5,x6,x7,x8,()))
def q9u:j1w:=qb (j8c q9w j6f) je
theorem w4n:jf 2 (qd (code Tryz.f299) [1,1,0,0,0]) (x2m q9u):=zl2 k7k b3f v5f j8c q9w j6f z9y
def j8d (f310:z3m) (f311:jk):ye ((Int×Int)×Int×Int×Int×Int×List (Int)×qu×qw×qx×Unit) ((Int×Int)×Int×Int×Int×List (Int)×qu×qw×qx×Unit):=fun (x0,x1,x2,x3,x4,x5,x6,x7,x8,_)=>bif decide (x4≤x1) then (f311 (((↑(Int.toNat x0.1):Int),(↑(Int.toNat x0.2):Int)),x3,IntKind.i64.wrap (x3+x2),x4,x5,x6,x7,x8,())).bind fun v=>some (Sum.inl (((↑(Int.toNat x0.1):Int),(↑(Int.toNat x0.2):Int)),x1,x2,x4,IntKind.i64.wrap (x4+IntKind.i64.wrap (2*x2)),v.1,v.2.1,v.2.2.1,v.2.2.2.1,())) else some (Sum.inr (((↑(Int.toNat x0.1):Int),(↑(Int.toNat x0.2):Int)),x1,x2,x3,x5,x6,x7,x8,()))
def q9v:j1x:=qb (j8d q9w j6f) je
theorem w4o:jf 2 (qd (code Tryz.f299) [1,1,1,1,0,0,1,0,1,0,0,0]) (x2n q9v):=zl2 k7k g1b v5f j8d q9w j6f z9y
def k8p (f299_l1:j1x):Ann:=(.seq .nil (.blk (.seq .nil (.seq (.blk (.loop (x2n f299_l1))) .nil))))
def j8e (f310:z3m) (f311:jk) (f299_l1:j1x):ye ((Int×Int)×Int×Int×List (Int)×qu×qw×qx×Unit) (List (Int)×qu×qw×qx×Unit):=fun (x0,x1,x2,x3,x4,x5,x6,_)=>bif decide (x2<x1) then (f299_l1 (((↑(Int.toNat x0.1):Int),(↑(Int.toNat x0.2):Int)),x1,x2,0,IntKind.i64.wrap (2*x2),x3,x4,x5,x6,())).bind fun v=>bif decide (IntKind.i64.wrap (v.2.2.2.1+v.2.2.1)<v.2.1) then (f311 (((↑(Int.toNat v.1.1):Int),(↑(Int.toNat v.1.2):Int)),v.2.2.2.1,IntKind.i64.wrap (v.2.2.2.1+v.2.2.1),v.2.1,v.2.2.2.2.1,v.2.2.2.2.2.1,v.2.2.2.2.2.2.1,v.2.2.2.2.2.2.2.1,())).bind fun v1=>some (Sum.inl (((↑(Int.toNat v.1.1):Int),(↑(Int.toNat v.1.2):Int)),v.2.1,IntKind.i64.wrap (v.2.2.1*2),v1.1,v1.2.1,v1.2.2.1,v1.2.2.2.1,())) else some (Sum.inl (((↑(Int.toNat v.1.1):Int),(↑(Int.toNat v.1.2):Int)),v.2.1,IntKind.i64.wrap (v.2.2.1*2),v.2.2.2.2.1,v.2.2.2.2.2.1,v.2.2.2.2.2.2.1,v.2.2.2.2.2.2.2.1,())) else some (Sum.inr (x3,x4,x5,x6,()))
theorem w1g (f310:z3m) (f311:jk) (f299_l1:j1x):AqL (v5f f310 f311) 2 (qd (code Tryz.f299) [1,1,1,1,0,0]) (k8p f299_l1) w7d g1c (j8e f310 f311 f299_l1):=fun v=>by kernel_rfl
def z6t:j1y:=qb (j8e q9w j6f q9v) je
theorem w4p:jf 2 (qd (code Tryz.f299) [1,1,1,1,0,0]) (x2o z6t) :=
 frm z9y (And.intro w4o trivial) (w1g q9w j6f q9v)
def d5s (f299_l0:j1w) (f299_l2:j1y):Ann:=(.seq .nil (.seq .nil (.seq (.blk (.loop (x2m f299_l0))) (.seq .nil (.blk (.loop (x2o f299_l2)))))))
def k6d (f310:z3m) (f311:jk) (f299_l0:j1w) (f299_l2:j1y):v0m:=fun (x0,x1,x2,x3,x4,x5,_)=>(f299_l0 (((↑(Int.toNat x0.1):Int),(↑(Int.toNat x0.2):Int)),x1,20,0,20,x2,x3,x4,x5,())).bind fun v=>(f310 (((↑(Int.toNat v.1.1):Int),(↑(Int.toNat v.1.2):Int)),v.2.2.2.1,v.2.1,v.2.2.2.2.1,v.2.2.2.2.2.1,v.2.2.2.2.2.2.1,v.2.2.2.2.2.2.2.1,())).bind fun v1=>(f299_l2 (((↑(Int.toNat v.1.1):Int),(↑(Int.toNat v.1.2):Int)),v.2.1,v.2.2.1,v1.1,v1.2.1,v1.2.2.1,v1.2.2.2.1,())).bind fun v=>some (v.1,v.2.1,v.2.2.1,v.2.2.2.1,())
theorem m0s (f310:z3m) (f311:jk) (f299_l0:j1w) (f299_l2:j1y):yd (v5f f310 f311) 2 Tryz.f299 (d5s f299_l0 f299_l2) b2m j4f (k6d f310 f311 f299_l0 f299_l2):=fun v=>by kernel_rfl
def y5x:v0m:=k6d q9w j6f q9u z6t
theorem b9m:FO 299 (b0l y5x) :=
 qo z9y Tryz.func299 (And.intro w4n (And.intro w4p trivial)) (m0s q9w j6f q9u z6t)
abbrev z3k:=(Int×Int)×List (Int)×qu×qw×qx×Unit→Option (List (Int)×qu×qw×qx×Unit)
def f9v (f:z3k):FEnt:=⟨w7e,j4f,f⟩
def d3c (f299:v0m):=lk [(299,b0l f299)]
def k5n (f299:v0m):z3k:=fun (x0,x1,x2,x3,x4,_)=>(f299 (((↑(Int.toNat x0.1):Int),(↑(Int.toNat x0.2):Int)),(↑(Int.toNat x0.2):Int),x1,x2,x3,x4,())).bind fun v=>some (v.1,v.2.1,v.2.2.1,v.2.2.2.1,())
theorem m0n (f299:v0m):yd (d3c f299) 2 Tryz.f277 .nil w7e j4f (k5n f299):=fun v=>by kernel_rfl
def j6e:z3k:=k5n y5x
theorem b8v:FO 277 (f9v j6e) :=
 q0 (kc b9m kn) Tryz.func277 (m0n y5x)
abbrev q6i:=Int×Int×qu×qw×qx×List (Int)×Unit→Option (Int×Int×qu×qw×qx×List (Int)×Unit)
def x1p (f:q6i):LEnt:=⟨x3n,g1d,f⟩
abbrev j1h:=Int×Int×qu×qw×qx×List (Int)×Unit→Option (List (Int)×Unit)
def x1q (f:j1h):LEnt:=⟨x3n,g1e,f⟩
abbrev x9l:=qu×qw×qx×List (Int)×Unit→Option (List (Int)×Unit)
def f8s (f:x9l):FEnt:=⟨Li9,q1i,f⟩
def k7a (f275:z8r) (f276:q1k) (f277:z3k):=lk [(275,f9u f275),(276,v3q f276),(277,f9v f277)]
theorem y8j:zd Tryz.prog (k7a z2w xq j6e):=(kc b8u (kc x6o (kc b8v kn)))
def j7s (f275:z8r) (f276:q1k) (f277:z3k):q6i:=fun (x0,x1,x2,x3,x4,x5,_)=>bif decide (0≤x1)&&decide (x1≤(↑x5.length:Int)) then bif decide (0≤x0)&&decide (x0≤x1) then (f277 (((↑x0.toNat:Int),(↑(x1.toNat-x0.toNat):Int)),x5,x2,x3,x4,())).bind fun v=>some (IntKind.i64.wrap (x1+1),x1,v.2.1,v.2.2.1,v.2.2.2.1,v.1,()) else none else none
theorem w0x (f275:z8r) (f276:q1k) (f277:z3k):AqC (k7a f275 f276 f277) 0 (qd (code Tryz.f239) [1,1,1,0,1,0,0,1,0,0,1]) .nil x3n g1d (j7s f275 f276 f277):=fun v=>by kernel_rfl
def wa:q6i:=j7s z2w xq j6e
theorem w3q:zo 0 (qd (code Tryz.f239) [1,1,1,0,1,0,0,1,0,0,1]) (x1p wa) :=
 frc y8j (w0x z2w xq j6e)
def k8k (f239_c0:q6i):Ann:=(.seq .nil (.seq (.blk (.cut .nil (x1p f239_c0))) .nil))
def j7t (f275:z8r) (f276:q1k) (f277:z3k) (f239_c0:q6i):ye (Int×Int×qu×qw×qx×List (Int)×Unit) (List (Int)×Unit):=fun (x0,x1,x2,x3,x4,x5,_)=>bif decide (x1≤(↑x5.length:Int)) then bif decide (x1<(↑x5.length:Int)) then bif decide (0≤x1)&&decide (x1<(↑x5.length:Int)) then (f276 (x2,x3,x4,x5.getD x1.toNat 0,())).bind fun v=>bif decide (v.1>0) then some (Sum.inl (x0,IntKind.i64.wrap (x1+1),x2,x3,x4,x5,())) else (f239_c0 (x0,x1,x2,x3,x4,x5,())).bind fun v=>some (Sum.inl (v.1,IntKind.i64.wrap (v.2.1+1),v.2.2.1,v.2.2.2.1,v.2.2.2.2.1,v.2.2.2.2.2.1,())) else none else (f239_c0 (x0,x1,x2,x3,x4,x5,())).bind fun v=>some (Sum.inl (v.1,IntKind.i64.wrap (v.2.1+1),v.2.2.1,v.2.2.2.1,v.2.2.2.2.1,v.2.2.2.2.2.1,())) else some (Sum.inr (x5,()))
theorem w0y (f275:z8r) (f276:q1k) (f277:z3k) (f239_c0:q6i):AqL (k7a f275 f276 f277) 0 (qd (code Tryz.f239) [1,1,1,0,1,0,0]) (k8k f239_c0) x3n g1e (j7t f275 f276 f277 f239_c0):=fun v=>by kernel_rfl
def z6n:j1h:=qb (j7t z2w xq j6e wa) je
theorem w3r:jf 0 (qd (code Tryz.f239) [1,1,1,0,1,0,0]) (x1q z6n) :=
 frm y8j (And.intro w3q trivial) (w0y z2w xq j6e wa)
def d5a (f239_l0:j1h):Ann:=(.seq .nil (.seq .nil (.seq .nil (.seq (.seq .nil (.blk (.loop (x1q f239_l0)))) .nil))))
def k4x (f275:z8r) (f276:q1k) (f277:z3k) (f239_l0:j1h):x9l:=fun (x0,x1,x2,x3,_)=>(f275 (x3,())).bind fun v=>(f239_l0 (0,0,x0,x1,x2,v.1,())).bind fun v=>some (v.1,())
theorem d9y (f275:z8r) (f276:q1k) (f277:z3k) (f239_l0:j1h):yd (k7a f275 f276 f277) 0 Tryz.f239 (d5a f239_l0) Li9 q1i (k4x f275 f276 f277 f239_l0):=fun v=>by kernel_rfl
def y5t:x9l:=k4x z2w xq j6e z6n
theorem b7r:FO 239 (f8s y5t) :=
 qo y8j Tryz.func239 (And.intro w3r trivial) (d9y z2w xq j6e z6n)
abbrev j6k:=Int×Int×Int×Unit→Option (Bool×Unit)
def g7v (f:j6k):FEnt:=⟨b1y,qq,f⟩
def y1q:j6k:=fun (x0,x1,x2,_)=>bif decide (x0≥x1) then some (decide (x0<IntKind.i32.wrap (x1+IntKind.i32.wrap x2)),()) else some (false,())
def yk:j6k:=y1q
theorem g6i:FO 300 (g7v yk):=zq0 b1y qq xc y1q kn Tryz.func300
abbrev y2j:=Int×Unit→Option (List (Int)×Unit)
def b0m (f:y2j):FEnt:=⟨q3l,q1i,f⟩
def k6e:y2j:=fun (x0,_)=>bif decide ((IntKind.i32.wrap (x0-44032)).tmod 28>0) then some ([IntKind.i32.wrap (4352+IntKind.i32.wrap ((IntKind.i32.wrap (x0-44032)).tdiv 588)),IntKind.i32.wrap (4449+(IntKind.i32.wrap ((IntKind.i32.wrap (x0-44032)).tdiv 28)).tmod 21)]++[IntKind.i32.wrap (4519+(IntKind.i32.wrap (x0-44032)).tmod 28)],()) else some ([IntKind.i32.wrap (4352+IntKind.i32.wrap ((IntKind.i32.wrap (x0-44032)).tdiv 588)),IntKind.i32.wrap (4449+(IntKind.i32.wrap ((IntKind.i32.wrap (x0-44032)).tdiv 28)).tmod 21)],())
def km:y2j:=k6e
theorem b9o:FO 301 (b0m km):=zq0 q3l q1i xc k6e kn Tryz.func301
abbrev j1z:=List (List (Int))×Int×List (List (Int))×Int×Int×Unit→Option (List (List (Int))×Int×Unit)
def x2p (f:j1z):LEnt:=⟨b2a,b2w,f⟩
abbrev j2a:=List (List (Int))×Int×Int×List (Int)×Unit→Option (List (Int)×Unit)
def x2q (f:j2a):LEnt:=⟨b2b,b2x,f⟩
abbrev y2k:=List (List (Int))×Unit→Option (List (Int)×Unit)
def b0n (f:y2k):FEnt:=⟨b1z,q1i,f⟩
def k7d (f312:y7d):=lk [(312,b0t f312)]
theorem y8m:zd Tryz.prog (k7d z2y):=(kc b9w kn)
def z8c (f312:y7d):ye (List (List (Int))×Int×List (List (Int))×Int×Int×Unit) (List (List (Int))×Int×Unit):=fun (x0,x1,x2,x3,x4,_)=>bif decide (x4<x3) then bif decide (0≤x4)&&decide (x4<(↑x2.length:Int)) then bif decide (IntKind.i64.wrap (x1+(↑(List.length (x2.getD x4.toNat [])):Int))<0) then none else some (Sum.inl (x0,IntKind.i64.wrap (x1+(↑(List.length (x2.getD x4.toNat [])):Int)),x2,x3,IntKind.i64.wrap (x4+1),())) else none else some (Sum.inr (x0,x1,()))
def j7c:j1z:=qb (z8c z2y) je
theorem w4q:jf 0 (qd (code Tryz.f302) [1,1,0,1,0,0]) (x2p j7c):=zl1 b2a b2w k7d z8c z2y y8m
def z8d (f312:y7d):ye (List (List (Int))×Int×Int×List (Int)×Unit) (List (Int)×Unit):=fun (x0,x1,x2,x3,_)=>bif decide (x2<x1) then bif decide (0≤x2)&&decide (x2<(↑x0.length:Int)) then bif decide (x3.length+List.length (x0.getD x2.toNat [])≤140737488355328/4) then some (Sum.inl (x0,x1,IntKind.i64.wrap (x2+1),x3++x0.getD x2.toNat [],())) else none else none else some (Sum.inr (x3,()))
def j7d:j2a:=qb (z8d z2y) je
theorem w4r:jf 0 (qd (code Tryz.f302) [1,1,1,1,0,1,0,0]) (x2q j7d):=zl1 b2b b2x k7d z8d z2y y8m
def d5t (f302_l0:j1z) (f302_l1:j2a):Ann:=(.seq .nil (.seq .nil (.seq (.seq .nil (.blk (.loop (x2p f302_l0)))) (.seq .nil (.seq (.seq .nil (.blk (.loop (x2q f302_l1)))) .nil)))))
def k6f (f312:y7d) (f302_l0:j1z) (f302_l1:j2a):y2k:=fun (x0,_)=>(f302_l0 (x0,0,x0,(↑x0.length:Int),0,())).bind fun v=>(f312 (v.2.1,())).bind fun v1=>(f302_l1 (v.1,(↑(List.length v.1):Int),0,v1.1,())).bind fun v=>some (v.1,())
theorem m0t (f312:y7d) (f302_l0:j1z) (f302_l1:j2a):yd (k7d f312) 0 Tryz.f302 (d5t f302_l0 f302_l1) b1z q1i (k6f f312 f302_l0 f302_l1):=fun v=>by kernel_rfl
def ke:y2k:=k6f z2y j7c j7d
theorem b9p:FO 302 (b0n ke) :=
 qo y8m Tryz.func302 (And.intro w4q (And.intro w4r trivial)) (m0t z2y j7c j7d)
abbrev q6k:=Int×Bool×Bool×qu×qw×qx×Int×Int×Int×Bool×Bool×Unit→Option ((List (Int)×Unit)⊕(Bool×qu×qw×qx×Int×Int×Int×Bool×Bool×Unit))
def x2d (f:q6k):LEnt:=⟨g9q,g9v,f⟩
abbrev q7w:=qu×qw×qx×Int×Bool×Unit→Option (List (Int)×Unit)
def v3r (f:q7w):FEnt:=⟨g9p,q1i,f⟩
def g9i (f216:z0v) (f279:q7w) (f300:j6k) (f301:y2j) (f302:y2k):=lk [(216,k3g f216),(279,v3r f279),(300,g7v f300),(301,b0m f301),(302,b0n f302)]
theorem v9l (G:q7w) (hG:zj Tryz.prog 279 (v3r G)):zd Tryz.prog (g9i zz G yk km ke):=(kc k1d (kc hG (kc g6i (kc b9o (kc b9p kn)))))
def yt (f216:z0v) (f279:q7w) (f300:j6k) (f301:y2j) (f302:y2k):q6k:=fun (x0,x1,x2,x3,x4,x5,x6,x7,x8,x9,x10,_)=>bif x2 then some (Sum.inl ([x0],())) else bif x8==0 then (f279 (x3,x4,x5,x7,x1,())).bind fun v=>some (Sum.inl (v.1,())) else some (Sum.inr (x1,x3,x4,x5,x6,x7,x8,x9,x10,()))
theorem w1e (f216:z0v) (f279:q7w) (f300:j6k) (f301:y2j) (f302:y2k):AqC (g9i f216 f279 f300 f301 f302) 0 (qd (code Tryz.f279) [1,1,0,0,1,1,1]) .nil g9q g9v (yt f216 f279 f300 f301 f302):=fun v=>by kernel_rfl
def q9p (G:q7w):q6k:=yt zz G yk km ke
theorem w4e (G:q7w) (hG:zj Tryz.prog 279 (v3r G)):zo 0 (qd (code Tryz.f279) [1,1,0,0,1,1,1]) (x2d (q9p G)) :=
 wn (ins:=g9q) (os:=g9v) (n := .nil) (F:=(q9p G)) hm hΓ (v9l G hG) (jt _) (w1e zz G yk km ke)
def d5k (f279_c0:q6k):Ann:=(.seq .nil (.seq .nil (.seq (.blk (.seq .nil (.cond .nil (.cut .nil (x2d f279_c0))))) .nil)))
def j4c (f216:z0v) (f279:q7w) (f300:j6k) (f301:y2j) (f302:y2k) (f279_c0:q6k):q7w:=fun (x0,x1,x2,x3,x4,_)=>(f216 (x0,x1,x2,x3,())).bind fun v=>(f300 (x3,44032,11172,())).bind fun v1=>bif v1.1 then (f301 (x3,())).bind fun v=>some (v.1,()) else bif !v.2.2.2.2.2.1 then (f279_c0 (x3,x4,true,x0,x1,x2,v.1,v.2.1,v.2.2.1,v.2.2.2.1,v.2.2.2.2.1,())).bind fun v=>Sum.elim (fun v=>some (v.1,())) (fun v=>(f279 (v.2.1,v.2.2.1,v.2.2.2.1,v.2.2.2.2.2.1,v.1,())).bind fun v2=>(f279 (v.2.1,v.2.2.1,v.2.2.2.1,v.2.2.2.2.2.2.1,v.1,())).bind fun v=>(f302 ([v2.1,v.1],())).bind fun v=>some (v.1,())) v else bif v.2.2.2.1 then (f279_c0 (x3,x4,!x4,x0,x1,x2,v.1,v.2.1,v.2.2.1,v.2.2.2.1,v.2.2.2.2.1,())).bind fun v=>Sum.elim (fun v=>some (v.1,())) (fun v=>(f279 (v.2.1,v.2.2.1,v.2.2.2.1,v.2.2.2.2.2.1,v.1,())).bind fun v2=>(f279 (v.2.1,v.2.2.1,v.2.2.2.1,v.2.2.2.2.2.2.1,v.1,())).bind fun v=>(f302 ([v2.1,v.1],())).bind fun v=>some (v.1,())) v else (f279_c0 (x3,x4,false,x0,x1,x2,v.1,v.2.1,v.2.2.1,v.2.2.2.1,v.2.2.2.2.1,())).bind fun v=>Sum.elim (fun v=>some (v.1,())) (fun v=>(f279 (v.2.1,v.2.2.1,v.2.2.2.1,v.2.2.2.2.2.1,v.1,())).bind fun v2=>(f279 (v.2.1,v.2.2.1,v.2.2.2.1,v.2.2.2.2.2.2.1,v.1,())).bind fun v=>(f302 ([v2.1,v.1],())).bind fun v=>some (v.1,())) v
theorem m0p (f216:z0v) (f279:q7w) (f300:j6k) (f301:y2j) (f302:y2k) (f279_c0:q6k):yd (g9i f216 f279 f300 f301 f302) 0 Tryz.f279 (d5k f279_c0) g9p q1i (j4c f216 f279 f300 f301 f302 f279_c0):=fun v=>by kernel_rfl
def z2x:q7w:=q1x (fun G=>j4c zz G yk km ke (q9p G)) je
theorem b8w:FO 279 (v3r z2x) :=
 y7t (ins:=g9p) (os:=q1i) (F:=fun G=>j4c zz G yk km ke (q9p G)) (fun G hG=>qo (v9l G hG) Tryz.func279 (And.intro (w4e G hG) trivial) (m0p zz G yk km ke (q9p G))) je
abbrev j8s:=Bool×List (Int)×Int×Int×qu×qw×qx×List (Int)×Unit→Option (List (Int)×Unit)
def x1r (f:j8s):LEnt:=⟨b2d,b2y,f⟩
abbrev x9m:=qu×qw×qx×List (Int)×Bool×Unit→Option (List (Int)×Unit)
def f8t (f:x9m):FEnt:=⟨b2c,q1i,f⟩
def g9c (f279:q7w):=lk [(279,v3r f279)]
theorem v9i:zd Tryz.prog (g9c z2x):=(kc b8w kn)
def j7u (f279:q7w):ye (Bool×List (Int)×Int×Int×qu×qw×qx×List (Int)×Unit) (List (Int)×Unit):=fun (x0,x1,x2,x3,x4,x5,x6,x7,_)=>bif decide (x3<x2) then bif decide (0≤x3)&&decide (x3<(↑x1.length:Int)) then (f279 (x4,x5,x6,x1.getD x3.toNat 0,x0,())).bind fun v=>bif decide (x7.length+List.length v.1≤140737488355328/4) then some (Sum.inl (x0,x1,x2,IntKind.i64.wrap (x3+1),x4,x5,x6,x7++v.1,())) else none else none else some (Sum.inr (x7,()))
def q9h:j8s:=qb (j7u z2x) je
theorem w3s:jf 0 (qd (code Tryz.f240) [1,1,0,1,0,0]) (x1r q9h):=zl1 b2d b2y g9c j7u z2x v9i
def d5b (f240_l0:j8s):Ann:=(.seq .nil (.seq .nil (.seq (.seq .nil (.blk (.loop (x1r f240_l0)))) .nil)))
def x8h (f279:q7w) (f240_l0:j8s):x9m:=fun (x0,x1,x2,x3,x4,_)=>(f240_l0 (x4,x3,(↑x3.length:Int),0,x0,x1,x2,[],())).bind fun v=>some (v.1,())
def v2n:x9m:=x8h z2x q9h
theorem b7s:FO 240 (f8t v2n):=xi b2c q1i g9c d5b x8h z2x q9h v9i Tryz.func240 (And.intro w3s trivial)
abbrev j1q:=Int×Int×Bool×qu×qw×qx×Unit→Option ((Int×Bool×Unit)⊕(Int×Int×qu×qw×qx×Unit))
def x2e (f:j1q):LEnt:=⟨w7f,g1f,f⟩
abbrev z8s:=qu×qw×qx×Int×Int×Unit→Option (Int×Bool×Unit)
def f9w (f:z8s):FEnt:=⟨Li5,Lo6,f⟩
def g9j (f300:j6k) (f303:v0n):=lk [(300,g7v f300),(303,b0o f303)]
theorem v9m:zd Tryz.prog (g9j yk q3p):=(kc g6i (kc b9q kn))
def q5k (f300:j6k) (f303:v0n):j1q:=fun (x0,x1,x2,x3,x4,x5,_)=>bif x2 then some (Sum.inl (IntKind.i32.wrap (44032+IntKind.i32.wrap (IntKind.i32.wrap (IntKind.i32.wrap (IntKind.i32.wrap (IntKind.i32.wrap (x0-4352)*21)+x1)-4449)*28)),true,())) else (f300 (x0,44032,11172,())).bind fun v=>bif v.1 then bif (IntKind.i32.wrap (x0-44032)).tmod 28==0 then (f300 (x1,4520,27,())).bind fun v=>bif v.1 then some (Sum.inl (IntKind.i32.wrap (IntKind.i32.wrap (x0+x1)-4519),true,())) else some (Sum.inr (x0,x1,x3,x4,x5,())) else some (Sum.inr (x0,x1,x3,x4,x5,())) else some (Sum.inr (x0,x1,x3,x4,x5,()))
theorem w1f (f300:j6k) (f303:v0n):AqC (g9j f300 f303) 0 (qd (code Tryz.f280) [1,0,0,1]) .nil w7f g1f (q5k f300 f303):=fun v=>by kernel_rfl
def wb:j1q:=q5k yk q3p
theorem w4f:zo 0 (qd (code Tryz.f280) [1,0,0,1]) (x2e wb) :=
 frc v9m (w1f yk q3p)
def d5l (f280_c0:j1q):Ann:=(.seq .nil (.seq (.blk (.cut .nil (x2e f280_c0))) .nil))
def x8k (f300:j6k) (f303:v0n) (f280_c0:j1q):z8s:=fun (x0,x1,x2,x3,x4,_)=>(f300 (x3,4352,19,())).bind fun v=>bif v.1 then (f300 (x4,4449,21,())).bind fun v=>(f280_c0 (x3,x4,v.1,x0,x1,x2,())).bind fun v=>Sum.elim (fun v=>some (v.1,v.2.1,())) (fun v=>(f303 (v.2.2.1,v.2.2.2.1,v.2.2.2.2.1,v.1,v.2.1,())).bind fun v=>some (v.1,v.2.1,())) v else (f280_c0 (x3,x4,false,x0,x1,x2,())).bind fun v=>Sum.elim (fun v=>some (v.1,v.2.1,())) (fun v=>(f303 (v.2.2.1,v.2.2.2.1,v.2.2.2.2.1,v.1,v.2.1,())).bind fun v=>some (v.1,v.2.1,())) v
def q9q:z8s:=x8k yk q3p wb
theorem b8x:FO 280 (f9w q9q):=j5x Li5 Lo6 g9j d5l x8k yk q3p wb v9m Tryz.func280 (And.intro w4f trivial)
abbrev q6j:=Int×Int×Int×Int×List (Int)×Int×Int×Bool×qu×qw×qx×List (Int)×Unit→Option ((Int×Int×List (Int)×Int×Int×qu×qw×qx×List (Int)×Unit)⊕(Int×Int×Int×Int×List (Int)×Int×Int×qu×qw×qx×List (Int)×Unit))
def x1s (f:q6j):LEnt:=⟨w7g,g1g,f⟩
abbrev j8t:=Int×Int×List (Int)×Int×Int×qu×qw×qx×List (Int)×Unit→Option (List (Int)×Unit)
def x1t (f:j8t):LEnt:=⟨w7h,g1h,f⟩
abbrev x9n:=qu×qw×qx×List (Int)×Unit→Option (List (Int)×Unit)
def f8u (f:x9n):FEnt:=⟨Li9,q1i,f⟩
def k7b (f276:q1k) (f280:z8s):=lk [(276,v3q f276),(280,f9w f280)]
theorem y8k:zd Tryz.prog (k7b xq q9q):=(kc x6o (kc b8x kn))
def q5j (f276:q1k) (f280:z8s):q6j:=fun (x0,x1,x2,x3,x4,x5,x6,x7,x8,x9,x10,x11,_)=>bif x7 then bif decide (0≤x0)&&decide (x0<(↑x11.length:Int)) then (f280 (x8,x9,x10,x11.getD x0.toNat 0,x2,())).bind fun v=>bif v.2.1 then bif decide (0≤x0)&&decide (x0<(↑x11.length:Int)) then some (Sum.inl (x0,x1,x4,x5,x6,x8,x9,x10,x11.set x0.toNat v.1,())) else none else some (Sum.inr (x0,x1,x2,x3,x4,x5,x6,x8,x9,x10,x11,())) else none else some (Sum.inr (x0,x1,x2,x3,x4,x5,x6,x8,x9,x10,x11,()))
theorem w0z (f276:q1k) (f280:z8s):AqC (k7b f276 f280) 0 (qd (code Tryz.f241) [1,1,1,0,1,0,0,1,1,0,0,1,1,0,1]) .nil w7g g1g (q5j f276 f280):=fun v=>by kernel_rfl
def q2j:q6j:=q5j xq q9q
theorem w3t:zo 0 (qd (code Tryz.f241) [1,1,1,0,1,0,0,1,1,0,0,1,1,0,1]) (x1s q2j) :=
 frc y8k (w0z xq q9q)
def k8l (f241_c0:q6j):Ann:=(.seq .nil (.seq .nil (.seq (.blk (.seq .nil (.seq .nil (.seq (.cut .nil (x1s f241_c0)) .nil)))) .nil)))
def j7v (f276:q1k) (f280:z8s) (f241_c0:q6j):ye (Int×Int×List (Int)×Int×Int×qu×qw×qx×List (Int)×Unit) (List (Int)×Unit):=fun (x0,x1,x2,x3,x4,x5,x6,x7,x8,_)=>bif decide (x4<x3) then bif decide (0≤x4)&&decide (x4<(↑x2.length:Int)) then (f276 (x5,x6,x7,x2.getD x4.toNat 0,())).bind fun v=>bif decide (x0≥0) then bif decide (x1<v.1) then (f241_c0 (x0,x1,x2.getD x4.toNat 0,v.1,x2,x3,x4,true,x5,x6,x7,x8,())).bind fun v=>Sum.elim (fun v=>some (Sum.inl (v.1,v.2.1,v.2.2.1,v.2.2.2.1,IntKind.i64.wrap (v.2.2.2.2.1+1),v.2.2.2.2.2.1,v.2.2.2.2.2.2.1,v.2.2.2.2.2.2.2.1,v.2.2.2.2.2.2.2.2.1,()))) (fun v=>bif decide (List.length v.2.2.2.2.2.2.2.2.2.2.1+[v.2.2.1].length≤140737488355328/4) then bif v.2.2.2.1==0 then some (Sum.inl (IntKind.i64.wrap ((↑(v.2.2.2.2.2.2.2.2.2.2.1++[v.2.2.1]).length:Int)-1),0,v.2.2.2.2.1,v.2.2.2.2.2.1,IntKind.i64.wrap (v.2.2.2.2.2.2.1+1),v.2.2.2.2.2.2.2.1,v.2.2.2.2.2.2.2.2.1,v.2.2.2.2.2.2.2.2.2.1,v.2.2.2.2.2.2.2.2.2.2.1++[v.2.2.1],())) else some (Sum.inl (v.1,if v.2.2.2.1>v.2.1 then v.2.2.2.1 else v.2.1,v.2.2.2.2.1,v.2.2.2.2.2.1,IntKind.i64.wrap (v.2.2.2.2.2.2.1+1),v.2.2.2.2.2.2.2.1,v.2.2.2.2.2.2.2.2.1,v.2.2.2.2.2.2.2.2.2.1,v.2.2.2.2.2.2.2.2.2.2.1++[v.2.2.1],())) else none) v else (f241_c0 (x0,x1,x2.getD x4.toNat 0,v.1,x2,x3,x4,x0==IntKind.i64.wrap ((↑x8.length:Int)-1),x5,x6,x7,x8,())).bind fun v=>Sum.elim (fun v=>some (Sum.inl (v.1,v.2.1,v.2.2.1,v.2.2.2.1,IntKind.i64.wrap (v.2.2.2.2.1+1),v.2.2.2.2.2.1,v.2.2.2.2.2.2.1,v.2.2.2.2.2.2.2.1,v.2.2.2.2.2.2.2.2.1,()))) (fun v=>bif decide (List.length v.2.2.2.2.2.2.2.2.2.2.1+[v.2.2.1].length≤140737488355328/4) then bif v.2.2.2.1==0 then some (Sum.inl (IntKind.i64.wrap ((↑(v.2.2.2.2.2.2.2.2.2.2.1++[v.2.2.1]).length:Int)-1),0,v.2.2.2.2.1,v.2.2.2.2.2.1,IntKind.i64.wrap (v.2.2.2.2.2.2.1+1),v.2.2.2.2.2.2.2.1,v.2.2.2.2.2.2.2.2.1,v.2.2.2.2.2.2.2.2.2.1,v.2.2.2.2.2.2.2.2.2.2.1++[v.2.2.1],())) else some (Sum.inl (v.1,if v.2.2.2.1>v.2.1 then v.2.2.2.1 else v.2.1,v.2.2.2.2.1,v.2.2.2.2.2.1,IntKind.i64.wrap (v.2.2.2.2.2.2.1+1),v.2.2.2.2.2.2.2.1,v.2.2.2.2.2.2.2.2.1,v.2.2.2.2.2.2.2.2.2.1,v.2.2.2.2.2.2.2.2.2.2.1++[v.2.2.1],())) else none) v else (f241_c0 (x0,x1,x2.getD x4.toNat 0,v.1,x2,x3,x4,false,x5,x6,x7,x8,())).bind fun v=>Sum.elim (fun v=>some (Sum.inl (v.1,v.2.1,v.2.2.1,v.2.2.2.1,IntKind.i64.wrap (v.2.2.2.2.1+1),v.2.2.2.2.2.1,v.2.2.2.2.2.2.1,v.2.2.2.2.2.2.2.1,v.2.2.2.2.2.2.2.2.1,()))) (fun v=>bif decide (List.length v.2.2.2.2.2.2.2.2.2.2.1+[v.2.2.1].length≤140737488355328/4) then bif v.2.2.2.1==0 then some (Sum.inl (IntKind.i64.wrap ((↑(v.2.2.2.2.2.2.2.2.2.2.1++[v.2.2.1]).length:Int)-1),0,v.2.2.2.2.1,v.2.2.2.2.2.1,IntKind.i64.wrap (v.2.2.2.2.2.2.1+1),v.2.2.2.2.2.2.2.1,v.2.2.2.2.2.2.2.2.1,v.2.2.2.2.2.2.2.2.2.1,v.2.2.2.2.2.2.2.2.2.2.1++[v.2.2.1],())) else some (Sum.inl (v.1,if v.2.2.2.1>v.2.1 then v.2.2.2.1 else v.2.1,v.2.2.2.2.1,v.2.2.2.2.2.1,IntKind.i64.wrap (v.2.2.2.2.2.2.1+1),v.2.2.2.2.2.2.2.1,v.2.2.2.2.2.2.2.2.1,v.2.2.2.2.2.2.2.2.2.1,v.2.2.2.2.2.2.2.2.2.2.1++[v.2.2.1],())) else none) v else none else some (Sum.inr (x8,()))
theorem w1a (f276:q1k) (f280:z8s) (f241_c0:q6j):AqL (k7b f276 f280) 0 (qd (code Tryz.f241) [1,1,1,0,1,0,0]) (k8l f241_c0) w7h g1h (j7v f276 f280 f241_c0):=fun v=>by kernel_rfl
def q9i:j8t:=qb (j7v xq q9q q2j) je
theorem w3u:jf 0 (qd (code Tryz.f241) [1,1,1,0,1,0,0]) (x1t q9i) :=
 frm y8k (And.intro w3t trivial) (w1a xq q9q q2j)
def d5c (f241_l0:j8t):Ann:=(.seq .nil (.seq .nil (.seq .nil (.seq (.seq .nil (.blk (.loop (x1t f241_l0)))) .nil))))
def x8i (f276:q1k) (f280:z8s) (f241_l0:j8t):x9n:=fun (x0,x1,x2,x3,_)=>(f241_l0 (-1,0,x3,(↑x3.length:Int),0,x0,x1,x2,[],())).bind fun v=>some (v.1,())
def v2o:x9n:=x8i xq q9q q9i
theorem b7t:FO 241 (f8u v2o):=j5x Li9 q1i k7b d5c x8i xq q9q q9i y8k Tryz.func241 (And.intro w3u trivial)
abbrev j0i:=Int×Bool×Unit→Option ((Int×Int×Unit)⊕Unit)
def y9z (f:j0i):LEnt:=⟨b1m,k7l,f⟩
abbrev j0j:=Int×Bool×Unit→Option ((Int×Int×Unit)⊕Unit)
def x0a (f:j0j):LEnt:=⟨b1n,k7l,f⟩
abbrev z0p:=Int×Unit→Option (Int×Int×Unit)
def f7d (f:z0p):FEnt:=⟨z3e,b2r,f⟩
def q5c:j0i:=fun (x0,x1,_)=>bif x1 then some (Sum.inl (2,IntKind.i32.wrap (intBits BinOp.and IntKind.u8 x0 15),())) else bif decide (x0≥240) then bif decide (x0<245) then some (Sum.inl (3,IntKind.i32.wrap (intBits BinOp.and IntKind.u8 x0 7),())) else some (Sum.inr ()) else some (Sum.inr ())
def q2e:j0i:=q5c
theorem w2a:zo 0 (qd (code Tryz.f121) [1,0,0,1,1,1,1,1]) (y9z q2e):=zc0 b1m k7l xc q5c kn
def k7x (f121_c0:j0i):Ann:=(.cond .nil (.cut .nil (y9z f121_c0)))
def q5d (f121_c0:j0i):j0j:=fun (x0,x1,_)=>bif x1 then some (Sum.inl (1,IntKind.i32.wrap (intBits BinOp.and IntKind.u8 x0 31),())) else bif decide (x0≥224) then (f121_c0 (x0,decide (x0<240),())).bind fun v=>Sum.elim (fun v=>some (Sum.inl (v.1,v.2.1,()))) (fun v=>some (Sum.inr ())) v else (f121_c0 (x0,false,())).bind fun v=>Sum.elim (fun v=>some (Sum.inl (v.1,v.2.1,()))) (fun v=>some (Sum.inr ())) v
def q2f:j0j:=q5d q2e
theorem w2b:zo 0 (qd (code Tryz.f121) [1,0,0,1,1,1]) (x0a q2f):=y5k b1n k7l xc k7x q5d q2e kn (And.intro w2a trivial)
def d3z (f121_c1:j0j):Ann:=(.seq .nil (.seq (.blk (.seq .nil (.cond .nil (.cut .nil (x0a f121_c1))))) .nil))
def x8a (f121_c1:j0j):z0p:=fun (x0,_)=>bif decide (x0<128) then some (0,IntKind.i32.wrap x0,()) else bif decide (x0≥194) then (f121_c1 (x0,decide (x0<224),())).bind fun v=>Sum.elim (fun v=>some (v.1,v.2.1,())) (fun v=>some (-1,0,())) v else (f121_c1 (x0,false,())).bind fun v=>Sum.elim (fun v=>some (v.1,v.2.1,())) (fun v=>some (-1,0,())) v
def kz:z0p:=x8a q2f
theorem b5z:FO 121 (f7d kz):=q2c z3e b2r xc d3z x8a q2f kn Tryz.func121 (And.intro w2b trivial)
abbrev z1e:=qa×Int×Int×Int×Int×List (Int)×Unit→Option ((qa×Int×Int×Int×List (Int)×Unit)⊕(Int×List (Int)×Unit))
def v4j (f:z1e):LEnt:=⟨b1o,b2t,f⟩
abbrev z1f:=qa×Int×List (Int)×Unit→Option ((List (Int)×Unit)⊕(Int×List (Int)×Unit))
def v4k (f:z1f):LEnt:=⟨b1p,b2u,f⟩
abbrev z1d:=Int×List (Int)×Unit→Option (Int×List (Int)×Unit)
def v4i (f:z1d):LEnt:=⟨x8m,k7m,f⟩
abbrev T83:=qa×Unit→Option (List (Int)×Int×Unit)
def E83 (f:T83):FEnt:=⟨kf,b2s,f⟩
def K83 (f121:z0p) (f122:j0k):=lk [(121,f7d f121),(122,g6x f122)]
theorem x5m:zd Tryz.prog (K83 kz xm):=(kc b5z (kc g5l kn))
def q3v (f121:z0p) (f122:j0k):ye (qa×Int×Int×Int×Int×List (Int)×Unit) ((qa×Int×Int×Int×List (Int)×Unit)⊕(Int×List (Int)×Unit)):=fun (x0,x1,x2,x3,x4,x5,_)=>bif decide (x4≤IntKind.i64.wrap (x3+x1)) then bif decide (0≤x4)&&decide (x4<(↑x0.length:Int)) then bif intBits BinOp.andNot IntKind.u8 (↑(x0.getD x4.toNat 0).toNat:Int) 63 != 128 then some (Sum.inr (Sum.inr (x3,x5,()))) else bif decide (0≤x4)&&decide (x4<(↑x0.length:Int)) then some (Sum.inl (x0,x1,intBits BinOp.or IntKind.i32 (IntKind.i32.wrap (x2*2^min 6 IntKind.i32.bits)) (IntKind.i32.wrap (intBits BinOp.and IntKind.u8 (↑(x0.getD x4.toNat 0).toNat:Int) 63)),x3,IntKind.i64.wrap (x4+1),x5,())) else none else none else some (Sum.inr (Sum.inl (x0,x1,x2,x3,x5,())))
def q3s:z1e:=qb (q3v kz xm) je
theorem f4j:jf 0 (qd (code Tryz.f83) [1,0,1,1,1,1,0,0,0,1,0,1,1,0,1,0,0]) (v4j q3s):=zl2 b1o b2t K83 q3v kz xm x5m
def f0h (f83_l0:z1e):Ann:=(.seq .nil (.blk (.seq .nil (.seq .nil (.seq (.seq .nil (.blk (.loop (v4j f83_l0)))) .nil)))))
def kp (f121:z0p) (f122:j0k) (f83_l0:z1e):ye (qa×Int×List (Int)×Unit) ((List (Int)×Unit)⊕(Int×List (Int)×Unit)):=fun (x0,x1,x2,_)=>bif decide (x1<(↑x0.length:Int)) then bif decide (0≤x1)&&decide (x1<(↑x0.length:Int)) then (f121 ((↑(x0.getD x1.toNat 0).toNat:Int),())).bind fun v=>bif decide (v.1<0) then some (Sum.inr (Sum.inr (x1,x2,()))) else bif decide (IntKind.i64.wrap ((↑x0.length:Int)-x1)≤v.1) then some (Sum.inr (Sum.inr (x1,x2,()))) else (f83_l0 (x0,v.1,v.2.1,x1,IntKind.i64.wrap (x1+1),x2,())).bind fun v=>Sum.elim (fun v=>(f122 (v.2.2.1,())).bind fun v1=>bif v1.1 != IntKind.i64.wrap (v.2.1+1) then some (Sum.inr (Sum.inr (v.2.2.2.1,v.2.2.2.2.1,()))) else bif decide (List.length v.2.2.2.2.1+[v.2.2.1].length≤140737488355328/4) then some (Sum.inl (v.1,IntKind.i64.wrap (v.2.2.2.1+IntKind.i64.wrap (v.2.1+1)),v.2.2.2.2.1++[v.2.2.1],())) else none) (fun v=>some (Sum.inr (Sum.inr (v.1,v.2.1,())))) v else none else some (Sum.inr (Sum.inl (x2,())))
theorem f3n (f121:z0p) (f122:j0k) (f83_l0:z1e):AqL (K83 f121 f122) 0 (qd (code Tryz.f83) [1,0,1,1,1,1,0,0,0]) (f0h f83_l0) b1p b2u (kp f121 f122 f83_l0):=fun v=>by kernel_rfl
def q7r:z1f:=qb (kp kz xm q3s) je
theorem f4k:jf 0 (qd (code Tryz.f83) [1,0,1,1,1,1,0,0,0]) (v4k q7r) :=
 frm x5m (And.intro f4j trivial) (f3n kz xm q3s)
def y6n (f121:z0p) (f122:j0k):ye (Int×List (Int)×Unit) (Int×List (Int)×Unit):=fun (x0,x1,_)=>some (Sum.inr (x0,x1,()))
theorem f3m (f121:z0p) (f122:j0k) (v:HS x8m):aev Γ (K83 f121 f122) 0 ((findLabel (qd (code Tryz.f83) [1,0]) 0).getD .skip) .nil (k2h x8m v) (q0y 0 0 [] x8m k7m)=y6n f121 f122 v:=by kernel_rfl
def q3r:z1d:=qb (y6n kz xm) je
theorem f4i:za Tryz.prog 0 (jy Tryz.prog (qd (code Tryz.f83) [1,0]) 0) (v4i q3r) :=
 ym (ins:=x8m) (os:=k7m) (C:=q3r) (q7z (ins:=x8m) (os:=k7m) (n := .nil) (ls:=[]) (F:=y6n kz xm) (rest:=((findLabel (qd (code Tryz.f83) [1,0]) 0).getD .skip)) hm hΓ x5m (fun _=>je) (by kernel_rfl) (jt _) j2r (f3m kz xm)) rfl
def N83 (f83_g0:z1d) (f83_l1:z1f):Ann:=(.seq .nil (.scope (.seq .nil (.seq .nil (.seq .nil (.seq .nil (.seq (.blk (.loop (v4k f83_l1))) .nil))))) [(0,(v4i f83_g0))]))
def F83 (f121:z0p) (f122:j0k) (f83_g0:z1d) (f83_l1:z1f):T83:=fun (x0,_)=>(f83_l1 (x0,0,[],())).bind fun v=>Sum.elim (fun v=>some (v.1,-1,())) (fun v=>(f83_g0 (v.1,v.2.1,())).bind fun v=>some (v.2.1,v.1,())) v
theorem h83 (f121:z0p) (f122:j0k) (f83_g0:z1d) (f83_l1:z1f):yd (K83 f121 f122) 0 Tryz.f83 (N83 f83_g0 f83_l1) kf b2s (F83 f121 f122 f83_g0 f83_l1):=fun v=>by kernel_rfl
def C83:T83:=F83 kz xm q3r q7r
theorem y8s:FO 83 (E83 C83) :=
 qo x5m Tryz.func83 (And.intro f4k (And.intro f4i trivial)) (h83 kz xm q3r q7r)
abbrev v5q:=qu×qw×qx×qa×Bool×Bool×Unit→Option (qa×Bool×Unit)
def f8i (f:v5q):FEnt:=⟨w7i,q7s,f⟩
def d2e (f178:j6i) (f239:x9l) (f240:x9m) (f241:x9n) (f83:T83):=lk [(178,k3f f178),(239,f8s f239),(240,f8t f240),(241,f8u f241),(83,E83 f83)]
def k4n (f178:j6i) (f239:x9l) (f240:x9m) (f241:x9n) (f83:T83):v5q:=fun (x0,x1,x2,x3,x4,x5,_)=>(f83 (x3,())).bind fun v=>bif decide (v.2.1≥0) then some ([],false,()) else (f240 (x0,x1,x2,v.1,x4,())).bind fun v=>(f239 (x0,x1,x2,v.1,())).bind fun v=>bif x5 then (f241 (x0,x1,x2,v.1,())).bind fun v=>(f178 (v.1,())).bind fun v=>some (v.1,v.2.1,()) else (f178 (v.1,())).bind fun v=>some (v.1,v.2.1,())
theorem d9s (f178:j6i) (f239:x9l) (f240:x9m) (f241:x9n) (f83:T83):yd (d2e f178 f239 f240 f241 f83) 0 Tryz.f213 .nil w7i q7s (k4n f178 f239 f240 f241 f83):=fun v=>by kernel_rfl
def y5q:v5q:=k4n z6a y5t v2n v2o C83
theorem b7h:FO 213 (f8i y5q) :=
 q0 (kc k1c (kc b7r (kc b7s (kc b7t (kc y8s kn))))) Tryz.func213 (d9s z6a y5t v2n v2o C83)
abbrev y2d:=qu×qw×qx×qa×Unit→Option (qa×Bool×Unit)
def g7e (f:y2d):FEnt:=⟨q1h,q7s,f⟩
def d1x (f213:v5q):=lk [(213,f8i f213)]
def k4h (f213:v5q):y2d:=fun (x0,x1,x2,x3,_)=>(f213 (x0,x1,x2,x3,false,true,())).bind fun v=>some (v.1,v.2.1,())
def z6b:y2d:=k4h y5q
theorem g5t:FO 181 (g7e z6b):=kl q1h q7s d1x k4h y5q (kc b7h kn) Tryz.func181
abbrev y6x:=qu×qw×qx×qa×Unit→Option (qa×Bool×Unit)
def f7q (f:y6x):FEnt:=⟨q1h,q7s,f⟩
def d1m (f178:j6i) (f179:x9a) (f180:x9b) (f181:y2d) (f83:T83):=lk [(178,k3f f178),(179,f7x f179),(180,f7y f180),(181,g7e f181),(83,E83 f83)]
def v4u (f178:j6i) (f179:x9a) (f180:x9b) (f181:y2d) (f83:T83):y6x:=fun (x0,x1,x2,x3,_)=>(f83 (x3,())).bind fun v=>bif decide (v.2.1≥0) then some ([],false,()) else (f180 (x0,x1,x2,v.1,())).bind fun v=>(f179 (x0,x1,x2,v.1,())).bind fun v=>(f178 (v.1,())).bind fun v=>(f181 (x0,x1,x2,v.1,())).bind fun v=>some (v.1,v.2.1,())
theorem d9m (f178:j6i) (f179:x9a) (f180:x9b) (f181:y2d) (f83:T83):yd (d1m f178 f179 f180 f181 f83) 0 Tryz.f151 .nil q1h q7s (v4u f178 f179 f180 f181 f83):=fun v=>by kernel_rfl
def j9n:y6x:=v4u z6a x7h x7i z6b C83
theorem g5q:FO 151 (f7q j9n) :=
 q0 (kc k1c (kc b6v (kc b6x (kc g5t (kc y8s kn))))) Tryz.func151 (d9m z6a x7h x7i z6b C83)
abbrev z8l:=qa×Int×Int×Unit→Option (Unit⊕(Int×Unit))
def v3l (f:z8l):LEnt:=⟨w7j,g1i,f⟩
abbrev T21:=qa×Unit→Option (Int×Unit)
def E21 (f:T21):FEnt:=⟨kf,jh,f⟩
def y6f:ye (qa×Int×Int×Unit) (Unit⊕(Int×Unit)):=fun (x0,x1,x2,_)=>bif decide (x2<x1) then bif decide (0≤x2)&&decide (x2<(↑x0.length:Int)) then bif decide ((↑(x0.getD x2.toNat 0).toNat:Int)≥128) then some (Sum.inr (Sum.inr (x2,()))) else some (Sum.inl (x0,x1,IntKind.i64.wrap (x2+1),())) else none else some (Sum.inr (Sum.inl ()))
def z6j:z8l:=qb (y6f) je
theorem f3t:jf 0 (qd (code Tryz.f21) [1,0,1,0,0]) (v3l z6j):=zl0 w7j g1i xc y6f kn
def N21 (f21_l0:z8l):Ann:=(.seq .nil (.seq (.seq .nil (.blk (.loop (v3l f21_l0)))) .nil))
def F21 (f21_l0:z8l):T21:=fun (x0,_)=>(f21_l0 (x0,(↑x0.length:Int),0,())).bind fun v=>Sum.elim (fun v=>some (-1,())) (fun v=>some (v.1,())) v
def C21:T21:=F21 z6j
theorem f4v:FO 21 (E21 C21):=q2c kf jh xc N21 F21 z6j kn Tryz.func21 (And.intro f3t trivial)
abbrev j8u:=Int×Int×List (Int)×Int×Int×Unit→Option (Int×Unit)
def x1u (f:j8u):LEnt:=⟨w7l,g1j,f⟩
abbrev j1i:=List (Int)×Int×Unit→Option (Int×Unit)
def f8z (f:j1i):FEnt:=⟨w7k,y1v,f⟩
def z7q:ye (Int×Int×List (Int)×Int×Int×Unit) (Int×Unit):=fun (x0,x1,x2,x3,x4,_)=>bif decide (x4<x3) then bif decide (0≤x4)&&decide (x4<(↑x2.length:Int)) then bif decide (x2.getD x4.toNat 0≥x0) then bif decide (x1<0) then some (Sum.inl (x0,x2.getD (x4.toNat) 0,x2,x3,IntKind.i64.wrap (x4+1),())) else bif decide (x2.getD x4.toNat 0<x1) then some (Sum.inl (x0,x2.getD (x4.toNat) 0,x2,x3,IntKind.i64.wrap (x4+1),())) else some (Sum.inl (x0,x1,x2,x3,IntKind.i64.wrap (x4+1),())) else some (Sum.inl (x0,x1,x2,x3,IntKind.i64.wrap (x4+1),())) else none else some (Sum.inr (x1,()))
def j6w:j8u:=qb (z7q) je
theorem w3v:jf 0 (qd (code Tryz.f250) [1,1,0,1,0,0]) (x1u j6w):=zl0 w7l g1j xc z7q kn
def d5d (f250_l0:j8u):Ann:=(.seq .nil (.seq .nil (.seq (.seq .nil (.blk (.loop (x1u f250_l0)))) .nil)))
def k5e (f250_l0:j8u):j1i:=fun (x0,x1,_)=>(f250_l0 (x1,-1,x0,(↑x0.length:Int),0,())).bind fun v=>some (v.1,())
def q7o:j1i:=k5e j6w
theorem b7y:FO 250 (f8z q7o):=q2c w7k y1v xc d5d k5e j6w kn Tryz.func250 (And.intro w3v trivial)
abbrev j1r:=Int×Int×Unit→Option (Int×Unit)
def g7u (f:j1r):FEnt:=⟨w7m,jh,f⟩
def k5y:j1r:=fun (x0,x1,_)=>some (if (if 26<IntKind.i64.wrap (x0-x1) then 26 else IntKind.i64.wrap (x0-x1))>1 then if 26<IntKind.i64.wrap (x0-x1) then 26 else IntKind.i64.wrap (x0-x1) else 1,())
def q3o:j1r:=k5y
theorem g6h:FO 290 (g7u q3o):=zq0 w7m jh xc k5y kn Tryz.func290
abbrev j1s:=Int×Bool×Unit→Option ((Int×Bool×Unit)⊕Unit)
def x2h (f:j1s):LEnt:=⟨w7o,g1l,f⟩
abbrev y2i:=Int×Unit→Option (Int×Bool×Unit)
def b0f (f:y2i):FEnt:=⟨w7n,g1k,f⟩
def j8a:j1s:=fun (x0,x1,_)=>bif x1 then some (Sum.inl (IntKind.u8.wrap (97+IntKind.u8.wrap x0),true,())) else bif decide (x0≥26) then bif decide (x0<36) then some (Sum.inl (IntKind.u8.wrap (48+IntKind.u8.wrap (IntKind.i64.wrap (x0-26))),true,())) else some (Sum.inr ()) else some (Sum.inr ())
def q9r:j1s:=j8a
theorem w4i:zo 0 (qd (code Tryz.f291) [1,0,0,1]) (x2h q9r):=zc0 w7o g1l xc j8a kn
def d5o (f291_c0:j1s):Ann:=(.seq .nil (.seq (.blk (.cut .nil (x2h f291_c0))) .nil))
def k5z (f291_c0:j1s):y2i:=fun (x0,_)=>bif decide (x0≥0) then (f291_c0 (x0,decide (x0<26),())).bind fun v=>Sum.elim (fun v=>some (v.1,v.2.1,())) (fun v=>some (0,false,())) v else (f291_c0 (x0,false,())).bind fun v=>Sum.elim (fun v=>some (v.1,v.2.1,())) (fun v=>some (0,false,())) v
def z6r:y2i:=k5z q9r
theorem b9g:FO 291 (b0f z6r):=q2c w7n g1k xc d5o k5z q9r kn Tryz.func291 (And.intro w4i trivial)
abbrev j1k:=Int×Int×Int×qa×Unit→Option (qa×Unit)
def x1v (f:j1k):LEnt:=⟨x3o,x4k,f⟩
abbrev j1j:=Int×Int×qa×Unit→Option (qa×Unit)
def f9a (f:j1j):FEnt:=⟨w7p,g1m,f⟩
def g9f (f290:j1r) (f291:y2i):=lk [(290,g7u f290),(291,b0f f291)]
theorem v9j:zd Tryz.prog (g9f q3o z6r):=(kc g6h (kc b9g kn))
def j7w (f290:j1r) (f291:y2i):ye (Int×Int×Int×qa×Unit) (qa×Unit):=fun (x0,x1,x2,x3,_)=>(f290 (x2,x1,())).bind fun v=>bif decide (x0<v.1) then (f291 (x0,())).bind fun v=>bif decide (x3.length+[UInt8.ofNat (Int.toNat v.1)].length≤140737488355328/1) then some (Sum.inr (x3++[UInt8.ofNat (Int.toNat v.1)],())) else none else bif IntKind.i64.wrap (36-v.1) != 0 then (f291 (IntKind.i64.wrap (v.1+(IntKind.i64.wrap (x0-v.1)).tmod (IntKind.i64.wrap (36-v.1))),())).bind fun v1=>bif decide (x3.length+[UInt8.ofNat (Int.toNat v1.1)].length≤140737488355328/1) then bif IntKind.i64.wrap (36-v.1) != 0 then some (Sum.inl (IntKind.i64.wrap ((IntKind.i64.wrap (x0-v.1)).tdiv (IntKind.i64.wrap (36-v.1))),x1,IntKind.i64.wrap (x2+36),x3++[UInt8.ofNat (Int.toNat v1.1)],())) else none else none else none
theorem w1b (f290:j1r) (f291:y2i):AqL (g9f f290 f291) 1 (qd (code Tryz.f251) [1,1,0,0]) .nil x3o x4k (j7w f290 f291):=fun v=>by kernel_rfl
def q4y:j1k:=qb (j7w q3o z6r) je
theorem w3w:za Tryz.prog 1 (q3x Tryz.prog (qd (code Tryz.f251) [1,1,0,0])) (x1v q4y) :=
 ym (ins:=x3o) (os:=x4k) (C:=q4y) (y3j (ins:=x3o) (os:=x4k) (n := .nil) (F:=j7w q3o z6r) hm hΓ v9j (fun _=>je) (jt _) (w1b q3o z6r)) rfl
def d5e (f251_l0:j1k):Ann:=(.seq .nil (.seq .nil (.blk (.peel .nil (x1v f251_l0)))))
def k5f (f290:j1r) (f291:y2i) (f251_l0:j1k):j1j:=fun (x0,x1,x2,_)=>(f290 (36,x1,())).bind fun v=>bif decide (x0<v.1) then (f291 (x0,())).bind fun v=>bif decide (x2.length+[UInt8.ofNat (Int.toNat v.1)].length≤140737488355328/1) then some (x2++[UInt8.ofNat (Int.toNat v.1)],()) else none else bif IntKind.i64.wrap (36-v.1) != 0 then (f291 (IntKind.i64.wrap (v.1+(IntKind.i64.wrap (x0-v.1)).tmod (IntKind.i64.wrap (36-v.1))),())).bind fun v1=>bif decide (x2.length+[UInt8.ofNat (Int.toNat v1.1)].length≤140737488355328/1) then bif IntKind.i64.wrap (36-v.1) != 0 then (f251_l0 (IntKind.i64.wrap ((IntKind.i64.wrap (x0-v.1)).tdiv (IntKind.i64.wrap (36-v.1))),x1,IntKind.i64.wrap (36+36),x2++[UInt8.ofNat (Int.toNat v1.1)],())).bind fun v=>some (v.1,()) else none else none else none
theorem d9z (f290:j1r) (f291:y2i) (f251_l0:j1k):yd (g9f f290 f291) 1 Tryz.f251 (d5e f251_l0) w7p g1m (k5f f290 f291 f251_l0):=fun v=>by kernel_rfl
def q7p:j1j:=k5f q3o z6r q4y
theorem b7z:FO 251 (f9a q7p) :=
 qo v9j Tryz.func251 (And.intro w3w trivial) (d9z q3o z6r q4y)
abbrev j8v:=Int×Int×Unit→Option (Int×Int×Unit)
def x1x (f:j8v):LEnt:=⟨w7r,g1n,f⟩
abbrev j1l:=Int×Int×Unit→Option (Int×Unit)
def x1w (f:j1l):LEnt:=⟨w7s,g1o,f⟩
abbrev q1j:=Int×Int×Bool×Unit→Option (Int×Unit)
def g7p (f:q1j):FEnt:=⟨w7q,jh,f⟩
def z7r:ye (Int×Int×Unit) (Int×Int×Unit):=fun (x0,x1,_)=>bif decide (x0>455) then some (Sum.inl (IntKind.i64.wrap (x0.tdiv 35),IntKind.i64.wrap (x1+36),())) else some (Sum.inr (x0,x1,()))
def q9l:j8v:=qb (z7r) je
theorem w3y:jf 0 (qd (code Tryz.f252) [1,1,1,1,0,0,0]) (x1x q9l):=zl0 w7r g1n xc z7r kn
def k8m (f252_l0:j8v):Ann:=(.seq .nil (.seq .nil (.seq (.blk (.loop (x1x f252_l0))) .nil)))
def j7x (f252_l0:j8v):j1l:=fun (x0,x1,_)=>bif (if x1>1 then x1 else 1) != 0 then (f252_l0 (IntKind.i64.wrap (x0+IntKind.i64.wrap (x0.tdiv (if x1>1 then x1 else 1))),0,())).bind fun v=>bif IntKind.i64.wrap (v.1+38) != 0 then some (IntKind.i64.wrap (v.2.1+IntKind.i64.wrap ((IntKind.i64.wrap (36*v.1)).tdiv (IntKind.i64.wrap (v.1+38)))),()) else none else none
def q9k:j1l:=j7x q9l
theorem w3x:zo 0 (qd (code Tryz.f252) [1,1]) (x1w q9k):=y5k w7s g1o xc k8m j7x q9l kn (And.intro w3y trivial)
def d5f (f252_c0:j1l):Ann:=(.seq .nil (.cut .nil (x1w f252_c0)))
def k5g (f252_c0:j1l):q1j:=fun (x0,x1,x2,_)=>bif x2 then (f252_c0 (IntKind.i64.wrap (x0.tdiv 700),x1,())).bind fun v=>some (v.1,()) else (f252_c0 (IntKind.i64.wrap (x0.tdiv 2),x1,())).bind fun v=>some (v.1,())
def q0q:q1j:=k5g q9k
theorem g6d:FO 252 (g7p q0q):=q2c w7q jh xc d5f k5g q9k kn Tryz.func252 (And.intro w3x trivial)
abbrev j1b:=List (Int)×List (Int)×Int×Int×qa×Unit→Option ((List (Int)×qa×Unit)⊕(qa×Bool×Unit))
def x1h (f:j1b):LEnt:=⟨w7t,g1p,f⟩
abbrev j1c:=List (Int)×Int×Int×Int×Int×Int×List (Int)×Int×Int×qa×Unit→Option (List (Int)×Int×Int×Int×Int×Int×qa×Unit)
def x1i (f:j1c):LEnt:=⟨w7u,g1q,f⟩
abbrev j1d:=List (Int)×Int×Int×Int×Int×Int×qa×Unit→Option ((qa×Unit)⊕(qa×Bool×Unit))
def x1j (f:j1d):LEnt:=⟨w7v,g1r,f⟩
abbrev q6g:=List (Int)×Int×qa×Unit→Option (qa×Bool×Unit)
def x1g (f:q6g):LEnt:=⟨w7w,g1s,f⟩
abbrev z8m:=List (Int)×Unit→Option (qa×Bool×Unit)
def g7l (f:z8m):FEnt:=⟨Li4,q7s,f⟩
def x8l (f155:wx) (f250:j1i) (f251:j1j) (f252:q1j):=lk [(155,k3c f155),(250,f8z f250),(251,f9a f251),(252,g7p f252)]
theorem z2b:zd Tryz.prog (x8l xp q7o q7p q0q):=(kc k0z (kc b7y (kc b7z (kc g6d kn))))
def z7k (f155:wx) (f250:j1i) (f251:j1j) (f252:q1j):ye (List (Int)×List (Int)×Int×Int×qa×Unit) ((List (Int)×qa×Unit)⊕(qa×Bool×Unit)):=fun (x0,x1,x2,x3,x4,_)=>bif decide (x3<x2) then bif decide (0≤x3)&&decide (x3<(↑x1.length:Int)) then (f155 (x1.getD x3.toNat 0,())).bind fun v=>bif !v.1 then some (Sum.inr (Sum.inr ([],false,()))) else bif decide (x1.getD x3.toNat 0<128) then bif decide (x4.length+[UInt8.ofNat (IntKind.u8.wrap (x1.getD x3.toNat 0)).toNat].length≤140737488355328/1) then some (Sum.inl (x0,x1,x2,IntKind.i64.wrap (x3+1),x4++[UInt8.ofNat (IntKind.u8.wrap (x1.getD x3.toNat 0)).toNat],())) else none else some (Sum.inl (x0,x1,x2,IntKind.i64.wrap (x3+1),x4,())) else none else some (Sum.inr (Sum.inl (x0,x4,())))
theorem w0s (f155:wx) (f250:j1i) (f251:j1j) (f252:q1j):AqL (x8l f155 f250 f251 f252) 0 (qd (code Tryz.f223) [1,1,0,1,0,0]) .nil w7t g1p (z7k f155 f250 f251 f252):=fun v=>by kernel_rfl
def q9f:j1b:=qb (z7k xp q7o q7p q0q) je
theorem w3i:jf 0 (qd (code Tryz.f223) [1,1,0,1,0,0]) (x1h q9f) :=
 frl z2b (w0s xp q7o q7p q0q)
def z7l (f155:wx) (f250:j1i) (f251:j1j) (f252:q1j):ye (List (Int)×Int×Int×Int×Int×Int×List (Int)×Int×Int×qa×Unit) (List (Int)×Int×Int×Int×Int×Int×qa×Unit):=fun (x0,x1,x2,x3,x4,x5,x6,x7,x8,x9,_)=>bif decide (x8<x7) then bif decide (0≤x8)&&decide (x8<(↑x6.length:Int)) then bif decide (x6.getD x8.toNat 0<x2) then some (Sum.inl (x0,x1,x2,IntKind.i64.wrap (x3+1),x4,x5,x6,x7,IntKind.i64.wrap (x8+1),x9,())) else bif x6.getD x8.toNat 0==x2 then (f251 (x3,x4,x9,())).bind fun v=>(f252 (x3,IntKind.i64.wrap (x5+1),x5==x1,())).bind fun v1=>some (Sum.inl (x0,x1,x2,0,v1.1,IntKind.i64.wrap (x5+1),x6,x7,IntKind.i64.wrap (x8+1),v.1,())) else some (Sum.inl (x0,x1,x2,x3,x4,x5,x6,x7,IntKind.i64.wrap (x8+1),x9,())) else none else some (Sum.inr (x0,x1,x2,x3,x4,x5,x9,()))
theorem w0t (f155:wx) (f250:j1i) (f251:j1j) (f252:q1j):AqL (x8l f155 f250 f251 f252) 0 (qd (code Tryz.f223) [1,1,1,1,1,1,0,1,0,0,1,0,1,1,1,1,0,1,0,0]) .nil w7u g1q (z7l f155 f250 f251 f252):=fun v=>by kernel_rfl
def j6t:j1c:=qb (z7l xp q7o q7p q0q) je
theorem w3j:jf 0 (qd (code Tryz.f223) [1,1,1,1,1,1,0,1,0,0,1,0,1,1,1,1,0,1,0,0]) (x1i j6t) :=
 frl z2b (w0t xp q7o q7p q0q)
def k8i (f223_l1:j1c):Ann:=(.seq .nil (.blk (.seq .nil (.seq .nil (.seq .nil (.seq .nil (.seq (.seq .nil (.blk (.loop (x1i f223_l1)))) .nil)))))))
def z7m (f155:wx) (f250:j1i) (f251:j1j) (f252:q1j) (f223_l1:j1c):ye (List (Int)×Int×Int×Int×Int×Int×qa×Unit) ((qa×Unit)⊕(qa×Bool×Unit)):=fun (x0,x1,x2,x3,x4,x5,x6,_)=>bif decide (x5<(↑x0.length:Int)) then (f250 (x0,x2,())).bind fun v=>bif decide (IntKind.i64.wrap (x3+IntKind.i64.wrap (IntKind.i64.wrap (IntKind.i32.wrap (v.1-x2))*IntKind.i64.wrap (x5+1)))>2147483647) then some (Sum.inr (Sum.inr ([],false,()))) else (f223_l1 (x0,x1,v.1,IntKind.i64.wrap (x3+IntKind.i64.wrap (IntKind.i64.wrap (IntKind.i32.wrap (v.1-x2))*IntKind.i64.wrap (x5+1))),x4,x5,x0,(↑x0.length:Int),0,x6,())).bind fun v=>some (Sum.inl (v.1,v.2.1,IntKind.i32.wrap (v.2.2.1+1),IntKind.i64.wrap (v.2.2.2.1+1),v.2.2.2.2.1,v.2.2.2.2.2.1,v.2.2.2.2.2.2.1,())) else some (Sum.inr (Sum.inl (x6,())))
theorem w0u (f155:wx) (f250:j1i) (f251:j1j) (f252:q1j) (f223_l1:j1c):AqL (x8l f155 f250 f251 f252) 0 (qd (code Tryz.f223) [1,1,1,1,1,1,0,1,0,0]) (k8i f223_l1) w7v g1r (z7m f155 f250 f251 f252 f223_l1):=fun v=>by kernel_rfl
def q9g:j1d:=qb (z7m xp q7o q7p q0q j6t) je
theorem w3k:jf 0 (qd (code Tryz.f223) [1,1,1,1,1,1,0,1,0,0]) (x1j q9g) :=
 frm z2b (And.intro w3j trivial) (w0u xp q7o q7p q0q j6t)
def k8h (f223_l2:j1d):Ann:=(.seq .nil (.seq (.seq .nil (.blk (.loop (x1j f223_l2)))) .nil))
def j7p (f155:wx) (f250:j1i) (f251:j1j) (f252:q1j) (f223_l2:j1d):q6g:=fun (x0,x1,x2,_)=>(f223_l2 (x0,x1,128,0,72,x1,x2,())).bind fun v=>Sum.elim (fun v=>some (v.1,true,())) (fun v=>some (v.1,v.2.1,())) v
theorem w0r (f155:wx) (f250:j1i) (f251:j1j) (f252:q1j) (f223_l2:j1d):AqC (x8l f155 f250 f251 f252) 0 (qd (code Tryz.f223) [1,1,1,1,1]) (k8h f223_l2) w7w g1s (j7p f155 f250 f251 f252 f223_l2):=fun v=>by kernel_rfl
def q9e:q6g:=j7p xp q7o q7p q0q q9g
theorem w3h:zo 0 (qd (code Tryz.f223) [1,1,1,1,1]) (x1g q9e) :=
 frd z2b (And.intro w3k trivial) (w0r xp q7o q7p q0q q9g)
def d4v (f223_c0:q6g) (f223_l0:j1b):Ann:=(.seq .nil (.seq .nil (.seq (.seq .nil (.blk (.loop (x1h f223_l0)))) (.seq .nil (.cut .nil (x1g f223_c0))))))
def k4s (f155:wx) (f250:j1i) (f251:j1j) (f252:q1j) (f223_c0:q6g) (f223_l0:j1b):z8m:=fun (x0,_)=>(f223_l0 (x0,x0,(↑x0.length:Int),0,[],())).bind fun v=>Sum.elim (fun v=>bif decide ((↑(List.length v.2.1):Int)>0) then bif decide (List.length v.2.1+[45].length≤140737488355328/1) then (f223_c0 (v.1,(↑(List.length v.2.1):Int),v.2.1++[45],())).bind fun v=>some (v.1,v.2.1,()) else none else (f223_c0 (v.1,(↑(List.length v.2.1):Int),v.2.1,())).bind fun v=>some (v.1,v.2.1,())) (fun v=>some (v.1,v.2.1,())) v
theorem d9u (f155:wx) (f250:j1i) (f251:j1j) (f252:q1j) (f223_c0:q6g) (f223_l0:j1b):yd (x8l f155 f250 f251 f252) 0 Tryz.f223 (d4v f223_c0 f223_l0) Li4 q7s (k4s f155 f250 f251 f252 f223_c0 f223_l0):=fun v=>by kernel_rfl
def x7k:z8m:=k4s xp q7o q7p q0q q9e q9f
theorem g5z:FO 223 (g7l x7k) :=
 qo z2b Tryz.func223 (And.intro w3i (And.intro w3h trivial)) (d9u xp q7o q7p q0q q9e q9f)
abbrev x9q:=Int×Unit→Option (Bool×Int×Unit)
def f9c (f:x9q):FEnt:=⟨w7x,g1t,f⟩
def g7y:x9q:=fun (x0,_)=>some (decide (x0≥0),x0,())
theorem m0a:yd xc 1 Tryz.f254 .nil w7x g1t (g7y):=fun v=>by kernel_rfl
def v2p:x9q:=g7y
theorem b8b:FO 254 (f9c v2p) :=
 q0 kn Tryz.func254 (m0a)
abbrev x9s:=qu×qw×qx×qa×Unit→Option (Bool×Unit)
def f9e (f:x9s):FEnt:=⟨q1h,qq,f⟩
def d2r (f181:y2d):=lk [(181,g7e f181)]
def g7z (f181:y2d):x9s:=fun (x0,x1,x2,x3,_)=>(f181 (x0,x1,x2,x3,())).bind fun v=>bif v.2.1 then some (v.1==x3,()) else some (false,())
def v2q:x9s:=g7z z6b
theorem b8d:FO 256 (f9e v2q):=kl q1h qq d2r g7z z6b (kc g5t kn) Tryz.func256
abbrev x9r:=qa×qu×qw×qx×Unit→Option (Bool×qa×qu×qw×qx×Unit)
def f9d (f:x9r):FEnt:=⟨w7y,g1u,f⟩
def d2q (f21:T21) (f256:x9s):=lk [(21,E21 f21),(256,f9e f256)]
def v5b (f21:T21) (f256:x9s):x9r:=fun (x0,x1,x2,x3,_)=>(f21 (x0,())).bind fun v=>bif decide (v.1<0) then some (true,x0,x1,x2,x3,()) else (f256 (x1,x2,x3,x0,())).bind fun v=>some (bif v.1 then false else true,x0,x1,x2,x3,())
theorem m0b (f21:T21) (f256:x9s):yd (d2q f21 f256) 2 Tryz.f255 .nil w7y g1u (v5b f21 f256):=fun v=>by kernel_rfl
def y1k:x9r:=v5b C21 v2q
theorem b8c:FO 255 (f9d y1k) :=
 q0 (kc f4v (kc b8d kn)) Tryz.func255 (m0b C21 v2q)
abbrev v6b:=qa×qa×Unit→Option (Bool×Unit)
def b0r (f:v6b):FEnt:=⟨yh,qq,f⟩
def g8i:v6b:=fun (x0,x1,_)=>bif decide ((↑x0.length:Int)≥(↑x1.length:Int)) then bif decide (0≤IntKind.i64.wrap ((↑x0.length:Int)-(↑x1.length:Int)))&&decide (IntKind.i64.wrap ((↑x0.length:Int)-(↑x1.length:Int))≤(↑x0.length:Int)) then some (List.drop (IntKind.i64.wrap ((↑x0.length:Int)-(↑x1.length:Int))).toNat x0==x1,()) else none else some (false,())
def v3b:v6b:=g8i
theorem b9t:FO 308 (b0r v3b):=zq0 yh qq xc g8i kn Tryz.func308
abbrev v5x:=qa×qa×Unit→Option (Bool×Unit)
def b0g (f:v5x):FEnt:=⟨yh,qq,f⟩
def d3k (f308:v6b):=lk [(308,b0r f308)]
def g8g (f308:v6b):v5x:=fun (x0,x1,_)=>(f308 (x0,x1,())).bind fun v=>some (v.1,())
def v2x:v5x:=g8g v3b
theorem b9h:FO 292 (b0g v2x):=kl yh qq d3k g8g v3b (kc b9t kn) Tryz.func292
abbrev T96:=qa×qa×Unit→Option (Bool×Unit)
def E96 (f:T96):FEnt:=⟨yh,qq,f⟩
def K96 (f131:y6w):=lk [(131,g6y f131)]
def F96 (f131:y6w):T96:=fun (x0,x1,_)=>(f131 (x0,x1,())).bind fun v=>some (v.1,())
def C96:T96:=F96 y0z
theorem d0e:FO 96 (E96 C96):=kl yh qq K96 F96 y0z (kc g5m kn) Tryz.func96
abbrev z8p:=qa×Unit→Option (Bool×Unit)
def g7q (f:z8p):FEnt:=⟨kf,qq,f⟩
def d2t (f292:v5x) (f96:T96):=lk [(292,b0g f292),(96,E96 f96)]
def g8a (f292:v5x) (f96:T96):z8p:=fun (x0,_)=>(f96 (x0,[45],())).bind fun v=>bif v.1 then some (true,()) else (f292 (x0,[45],())).bind fun v=>bif v.1 then some (true,()) else bif decide ((↑x0.length:Int)>3) then bif decide (4≤(↑x0.length:Int)) then some (List.drop 2 (List.take 4 x0)==[45,45],()) else none else some (false,())
def y5v:z8p:=g8a v2x C96
theorem g6e:FO 258 (g7q y5v):=zq2 kf qq d2t g8a v2x C96 (kc b9h (kc d0e kn)) Tryz.func258
abbrev x9t:=qa×Unit→Option (Bool×qa×Unit)
def f9f (f:x9t):FEnt:=⟨q3c,q3f,f⟩
def d2s (f258:z8p):=lk [(258,g7q f258)]
def k5h (f258:z8p):x9t:=fun (x0,_)=>(f258 (x0,())).bind fun v=>some (v.1,x0,())
theorem m0c (f258:z8p):yd (d2s f258) 1 Tryz.f257 .nil q3c q3f (k5h f258):=fun v=>by kernel_rfl
def y5u:x9t:=k5h y5v
theorem b8e:FO 257 (f9f y5u) :=
 q0 (kc g6e kn) Tryz.func257 (m0c y5v)
abbrev y2e:=qu×qw×qx×Int×Unit→Option (Int×Unit)
def g7j (f:y2e):FEnt:=⟨Li0,jh,f⟩
def d2g (f248:z0y):=lk [(248,v3o f248)]
def k4p (f248:z0y):y2e:=fun (x0,x1,x2,x3,_)=>(f248 (x0,x1,x2,x3,())).bind fun v=>some (v.2.2.1,())
def y5r:y2e:=k4p q9j
theorem g5y:FO 215 (g7j y5r):=kl Li0 jh d2g k4p q9j (kc x6n kn) Tryz.func215
abbrev x9u:=qu×qw×qx×List (Int)×Unit→Option (Bool×qu×qw×qx×List (Int)×Unit)
def f9g (f:x9u):FEnt:=⟨z4e,z4i,f⟩
def d2u (f215:y2e):=lk [(215,g7j f215)]
def k5i (f215:y2e):x9u:=fun (x0,x1,x2,x3,_)=>bif decide (0<(↑x3.length:Int)) then (f215 (x0,x1,x2,x3.getD 0 0,())).bind fun v=>some (v.1==4,x0,x1,x2,x3,()) else none
theorem m0d (f215:y2e):yd (d2u f215) 2 Tryz.f259 .nil z4e z4i (k5i f215):=fun v=>by kernel_rfl
def y5w:x9u:=k5i y5r
theorem b8f:FO 259 (f9g y5w) :=
 q0 (kc g5y kn) Tryz.func259 (m0d y5r)
abbrev z8n:=Int×Unit→Option (Bool×Unit)
def g7n (f:z8n):FEnt:=⟨q3l,qq,f⟩
def k4y:z8n:=fun (x0,_)=>bif decide (x0≥1632) then some (decide (x0≤1641),()) else some (false,())
def j9p:z8n:=k4y
theorem g6b:FO 242 (g7n j9p):=zq0 q3l qq xc k4y kn Tryz.func242
abbrev z8o:=Int×Unit→Option (Bool×Unit)
def g7o (f:z8o):FEnt:=⟨q3l,qq,f⟩
def k5b:z8o:=fun (x0,_)=>bif decide (x0≥1776) then some (decide (x0≤1785),()) else some (false,())
def j9q:z8o:=k5b
theorem g6c:FO 245 (g7o j9q):=zq0 q3l qq xc k5b kn Tryz.func245
abbrev x9f:=Int×Unit→Option (Unit⊕Unit⊕Unit⊕Unit⊕Unit⊕Unit⊕Unit⊕Unit⊕Unit)
def f8j (f:x9f):FEnt:=⟨q3l,g1x,f⟩
def d2f (f242:z8n) (f245:z8o) (f247:v5t):=lk [(242,g7n f242),(245,g7o f245),(247,f8y f247)]
def k4o (f242:z8n) (f245:z8o) (f247:v5t):x9f:=fun (x0,_)=>(f242 (x0,())).bind fun v=>bif v.1 then some (Sum.inl ()) else (f245 (x0,())).bind fun v=>bif v.1 then some (Sum.inr (Sum.inl ())) else (f247 ()).bind fun v=>bif decide (x0=8205) then some (Sum.inr (Sum.inr (Sum.inl ()))) else bif decide (x0=8204) then some (Sum.inr (Sum.inr (Sum.inr (Sum.inl ())))) else bif decide (x0=183) then some (Sum.inr (Sum.inr (Sum.inr (Sum.inr (Sum.inl ()))))) else bif decide (x0=885) then some (Sum.inr (Sum.inr (Sum.inr (Sum.inr (Sum.inr (Sum.inl ())))))) else bif decide (x0=1523) then some (Sum.inr (Sum.inr (Sum.inr (Sum.inr (Sum.inr (Sum.inr (Sum.inl ()))))))) else bif decide (x0=1524) then some (Sum.inr (Sum.inr (Sum.inr (Sum.inr (Sum.inr (Sum.inr (Sum.inl ()))))))) else bif decide (x0=12539) then some (Sum.inr (Sum.inr (Sum.inr (Sum.inr (Sum.inr (Sum.inr (Sum.inr (Sum.inl ())))))))) else some (Sum.inr (Sum.inr (Sum.inr (Sum.inr (Sum.inr (Sum.inr (Sum.inr (Sum.inr ()))))))))
theorem d9t (f242:z8n) (f245:z8o) (f247:v5t):yd (d2f f242 f245 f247) 0 Tryz.f214 .nil q3l g1x (k4o f242 f245 f247):=fun v=>by kernel_rfl
def z6i:x9f:=k4o j9p j9q k2x
theorem b7i:FO 214 (f8j z6i) :=
 q0 (kc g6b (kc g6c (kc b7x kn))) Tryz.func214 (d9t j9p j9q k2x)
abbrev j8x:=List (Int)×Int×Int×Unit→Option (Unit⊕(Int×Unit))
def x2f (f:j8x):LEnt:=⟨w8c,q0w,f⟩
abbrev v5v:=List (Int)×Unit→Option (Int×Unit)
def f9x (f:v5v):FEnt:=⟨x3p,jh,f⟩
def g9k (f245:z8o):=lk [(245,g7o f245)]
theorem v9n:zd Tryz.prog (g9k j9q):=(kc g6c kn)
def z7v (f245:z8o):ye (List (Int)×Int×Int×Unit) (Unit⊕(Int×Unit)):=fun (x0,x1,x2,_)=>bif decide (x2<x1) then bif decide (0≤x2)&&decide (x2<(↑x0.length:Int)) then (f245 (x0.getD x2.toNat 0,())).bind fun v=>bif v.1 then some (Sum.inr (Sum.inr (x2,()))) else some (Sum.inl (x0,x1,IntKind.i64.wrap (x2+1),())) else none else some (Sum.inr (Sum.inl ()))
def j6z:j8x:=qb (z7v j9q) je
theorem w4g:jf 0 (qd (code Tryz.f281) [1,0,1,0,0]) (x2f j6z):=zl1 w8c q0w g9k z7v j9q v9n
def d5m (f281_l0:j8x):Ann:=(.seq .nil (.seq (.seq .nil (.blk (.loop (x2f f281_l0)))) .nil))
def k5p (f245:z8o) (f281_l0:j8x):v5v:=fun (x0,_)=>(f281_l0 (x0,(↑x0.length:Int),0,())).bind fun v=>Sum.elim (fun v=>some (-1,())) (fun v=>some (v.1,())) v
def v2v:v5v:=k5p j9q j6z
theorem b8y:FO 281 (f9x v2v):=xi x3p jh g9k d5m k5p j9q j6z v9n Tryz.func281 (And.intro w4g trivial)
abbrev v5s:=List (Int)×Unit→Option (Bool×Unit)
def f8w (f:v5s):FEnt:=⟨x3p,qq,f⟩
def d2m (f281:v5v):=lk [(281,f9x f281)]
def k5a (f281:v5v):v5s:=fun (x0,_)=>(f281 (x0,())).bind fun v=>some (decide (v.1≥0),())
def k2w:v5s:=k5a v2v
theorem b7v:FO 244 (f8w k2w):=kl x3p qq d2m k5a v2v (kc b8y kn) Tryz.func244
abbrev x9o:=qu×qw×qx×List (Int)×Int×Unit→Option (Bool×Unit)
def f8v (f:x9o):FEnt:=⟨kw,qq,f⟩
def d2l (f244:v5s):=lk [(244,f8w f244)]
def k4z (f244:v5s):x9o:=fun (x0,x1,x2,x3,x4,_)=>(f244 (x3,())).bind fun v=>some (bif v.1 then false else true,())
def x7m:x9o:=k4z k2w
theorem b7u:FO 243 (f8v x7m):=kl kw qq d2l k4z k2w (kc b7v kn) Tryz.func243
abbrev q6l:=List (Int)×Int×Int×Unit→Option (Unit⊕(Int×Unit))
def z4a (f:q6l):LEnt:=⟨w8d,q0w,f⟩
abbrev z1a:=List (Int)×Unit→Option (Int×Unit)
def v3s (f:z1a):FEnt:=⟨x3q,jh,f⟩
def y6t (f242:z8n):=lk [(242,g7n f242)]
theorem y3v:zd Tryz.prog (y6t j9p):=(kc g6b kn)
def j4d (f242:z8n):ye (List (Int)×Int×Int×Unit) (Unit⊕(Int×Unit)):=fun (x0,x1,x2,_)=>bif decide (x2<x1) then bif decide (0≤x2)&&decide (x2<(↑x0.length:Int)) then (f242 (x0.getD x2.toNat 0,())).bind fun v=>bif v.1 then some (Sum.inr (Sum.inr (x2,()))) else some (Sum.inl (x0,x1,IntKind.i64.wrap (x2+1),())) else none else some (Sum.inr (Sum.inl ()))
def q4z:q6l:=qb (j4d j9p) je
theorem v1o:jf 0 (qd (code Tryz.f281) [1,0,1,0,0]) (z4a q4z):=zl1 w8d q0w y6t j4d j9p y3v
def f0c (f281v1_l0:q6l):Ann:=(.seq .nil (.seq (.seq .nil (.blk (.loop (z4a f281v1_l0)))) .nil))
def z7w (f242:z8n) (f281v1_l0:q6l):z1a:=fun (x0,_)=>(f281v1_l0 (x0,(↑x0.length:Int),0,())).bind fun v=>Sum.elim (fun v=>some (-1,())) (fun v=>some (v.1,())) v
def j9t:z1a:=z7w j9p q4z
theorem w6c:FO 281 (v3s j9t):=xi x3q jh y6t f0c z7w j9p q4z y3v Tryz.func281 (And.intro v1o trivial)
abbrev z0w:=List (Int)×Unit→Option (Bool×Unit)
def v3m (f:z0w):FEnt:=⟨x3q,qq,f⟩
def g9d (f281v1:z1a):=lk [(281,v3s f281v1)]
def z7o (f281v1:z1a):z0w:=fun (x0,_)=>(f281v1 (x0,())).bind fun v=>some (decide (v.1≥0),())
def z6o:z0w:=z7o j9t
theorem w5z:FO 244 (v3m z6o):=kl x3q qq g9d z7o j9t (kc w6c kn) Tryz.func244
abbrev x9p:=qu×qw×qx×List (Int)×Int×Unit→Option (Bool×Unit)
def f8x (f:x9p):FEnt:=⟨kw,qq,f⟩
def d2n (f244v1:z0w):=lk [(244,v3m f244v1)]
def k5c (f244v1:z0w):x9p:=fun (x0,x1,x2,x3,x4,_)=>(f244v1 (x3,())).bind fun v=>some (bif v.1 then false else true,())
def x7n:x9p:=k5c z6o
theorem b7w:FO 246 (f8x x7n):=kl kw qq d2n k5c z6o (kc w5z kn) Tryz.func246
abbrev j2b:=qu×qw×qx×List (Int)×Int×Int×Unit→Option (Int×Unit)
def x7x (f:j2b):FEnt:=⟨x3r,y1v,f⟩
def k6g:j2b:=fun (x0,x1,x2,x3,x4,x5,_)=>bif decide (IntKind.i64.wrap (x4+x5)<0) then some (-1,()) else bif decide (IntKind.i64.wrap (x4+x5)≥(↑x3.length:Int)) then some (-1,()) else bif decide (0≤IntKind.i64.wrap (x4+x5))&&decide (IntKind.i64.wrap (x4+x5)<(↑x3.length:Int)) then some (x3.getD ((IntKind.i64.wrap (x4+x5)).toNat) 0,()) else none
def q1o:j2b:=k6g
theorem y4l:FO 304 (x7x q1o):=zq0 x3r y1v xc k6g kn Tryz.func304
abbrev y2h:=qu×qw×qx×List (Int)×Int×Unit→Option (Bool×Unit)
def g7t (f:y2h):FEnt:=⟨kw,qq,f⟩
def d3e (f276:q1k) (f304:j2b):=lk [(276,v3q f276),(304,x7x f304)]
def k5q (f276:q1k) (f304:j2b):y2h:=fun (x0,x1,x2,x3,x4,_)=>(f304 (x0,x1,x2,x3,x4,-1,())).bind fun v=>(f276 (x0,x1,x2,v.1,())).bind fun v=>some (v.1==9,())
def z6q:y2h:=k5q xq q1o
theorem g6g:FO 282 (g7t z6q):=zq2 kw qq d3e k5q xq q1o (kc x6o (kc y4l kn)) Tryz.func282
abbrev v0o:=qu×qw×qx×Int×Unit→Option (Int×Unit)
def b0u (f:v0o):FEnt:=⟨Li0,jh,f⟩
def d3n (f248:z0y):=lk [(248,v3o f248)]
def k6l (f248:z0y):v0o:=fun (x0,x1,x2,x3,_)=>(f248 (x0,x1,x2,x3,())).bind fun v=>some (v.2.2.2.2.1,())
def y1o:v0o:=k6l q9j
theorem b9x:FO 313 (b0u y1o):=kl Li0 jh d3n k6l q9j (kc x6n kn) Tryz.func313
abbrev j9a:=Int×Int×qu×qw×qx×List (Int)×Int×Unit→Option (Unit⊕(Int×Unit))
def x2r (f:j9a):LEnt:=⟨w8e,x4m,f⟩
abbrev v6a:=qu×qw×qx×List (Int)×Int×Int×Unit→Option (Int×Unit)
def b0p (f:v6a):FEnt:=⟨x3r,jh,f⟩
def g9n (f304:j2b) (f313:v0o):=lk [(304,x7x f304),(313,b0u f313)]
theorem v9q:zd Tryz.prog (g9n q1o y1o):=(kc y4l (kc b9x kn))
def z8e (f304:j2b) (f313:v0o):ye (Int×Int×qu×qw×qx×List (Int)×Int×Unit) (Unit⊕(Int×Unit)):=fun (x0,x1,x2,x3,x4,x5,x6,_)=>(f304 (x2,x3,x4,x5,x6,x1,())).bind fun v=>bif decide (v.1≥0) then (f304 (x2,x3,x4,x5,x6,x1,())).bind fun v=>(f313 (x2,x3,x4,v.1,())).bind fun v=>bif v.1 != 3 then some (Sum.inr (Sum.inr (v.1,()))) else some (Sum.inl (x0,IntKind.i64.wrap (x1+x0),x2,x3,x4,x5,x6,())) else some (Sum.inr (Sum.inl ()))
def j7e:j9a:=qb (z8e q1o y1o) je
theorem w4s:jf 0 (qd (code Tryz.f305) [1,0,1,0,0]) (x2r j7e):=zl2 w8e x4m g9n z8e q1o y1o v9q
def d5u (f305_l0:j9a):Ann:=(.seq .nil (.seq (.seq .nil (.blk (.loop (x2r f305_l0)))) .nil))
def k6h (f304:j2b) (f313:v0o) (f305_l0:j9a):v6a:=fun (x0,x1,x2,x3,x4,x5,_)=>(f305_l0 (x5,x5,x0,x1,x2,x3,x4,())).bind fun v=>Sum.elim (fun v=>some (0,())) (fun v=>some (v.1,())) v
def v3a:v6a:=k6h q1o y1o j7e
theorem b9r:FO 305 (b0p v3a):=j5x x3r jh g9n d5u k6h q1o y1o j7e v9q Tryz.func305 (And.intro w4s trivial)
abbrev v0g:=qu×qw×qx×List (Int)×Int×Unit→Option (Bool×Unit)
def f9y (f:v0g):FEnt:=⟨kw,qq,f⟩
def d3f (f282:y2h) (f305:v6a):=lk [(282,g7t f282),(305,b0p f305)]
def k5r (f282:y2h) (f305:v6a):v0g:=fun (x0,x1,x2,x3,x4,_)=>(f305 (x0,x1,x2,x3,x4,1,())).bind fun v=>(f282 (x0,x1,x2,x3,x4,())).bind fun v1=>bif v1.1 then some (true,()) else (f305 (x0,x1,x2,x3,x4,-1,())).bind fun v2=>bif v2.1==1 then bif v.1==1 then some (true,()) else some (v.1==2,()) else some (false,())
def x7r:v0g:=k5r z6q v3a
theorem b8z:FO 283 (f9y x7r):=zq2 kw qq d3f k5r z6q v3a (kc g6g (kc b9r kn)) Tryz.func283
abbrev v0h:=qu×qw×qx×List (Int)×Int×Unit→Option (Bool×Unit)
def f9z (f:v0h):FEnt:=⟨kw,qq,f⟩
def d3g (f304:j2b):=lk [(304,x7x f304)]
def k5s (f304:j2b):v0h:=fun (x0,x1,x2,x3,x4,_)=>(f304 (x0,x1,x2,x3,x4,-1,())).bind fun v=>bif v.1==108 then (f304 (x0,x1,x2,x3,x4,1,())).bind fun v=>some (v.1==108,()) else some (false,())
def x7s:v0h:=k5s q1o
theorem b9a:FO 284 (f9z x7s):=kl kw qq d3g k5s q1o (kc y4l kn) Tryz.func284
abbrev z3l:=qu×qw×qx×Int×Unit→Option (Int×Unit)
def k3h (f:z3l):FEnt:=⟨Li0,jh,f⟩
def d3l (f248:z0y):=lk [(248,v3o f248)]
def k6i (f248:z0y):z3l:=fun (x0,x1,x2,x3,_)=>(f248 (x0,x1,x2,x3,())).bind fun v=>some (v.2.2.2.2.2.1,())
def j9v:z3l:=k6i q9j
theorem k1g:FO 306 (k3h j9v):=kl Li0 jh d3l k6i q9j (kc x6n kn) Tryz.func306
abbrev v0i:=qu×qw×qx×List (Int)×Int×Unit→Option (Bool×Unit)
def b0a (f:v0i):FEnt:=⟨kw,qq,f⟩
def d3h (f304:j2b) (f306:z3l):=lk [(304,x7x f304),(306,k3h f306)]
def k5t (f304:j2b) (f306:z3l):v0i:=fun (x0,x1,x2,x3,x4,_)=>(f304 (x0,x1,x2,x3,x4,1,())).bind fun v=>(f306 (x0,x1,x2,v.1,())).bind fun v=>some (v.1==2,())
def x7t:v0i:=k5t q1o j9v
theorem b9b:FO 285 (b0a x7t):=zq2 kw qq d3h k5t q1o j9v (kc y4l (kc k1g kn)) Tryz.func285
abbrev v0j:=qu×qw×qx×List (Int)×Int×Unit→Option (Bool×Unit)
def b0b (f:v0j):FEnt:=⟨kw,qq,f⟩
def d3i (f304:j2b) (f306:z3l):=lk [(304,x7x f304),(306,k3h f306)]
def k5u (f304:j2b) (f306:z3l):v0j:=fun (x0,x1,x2,x3,x4,_)=>(f304 (x0,x1,x2,x3,x4,-1,())).bind fun v=>(f306 (x0,x1,x2,v.1,())).bind fun v=>some (v.1==4,())
def x7u:v0j:=k5u q1o j9v
theorem b9c:FO 286 (b0b x7u):=zq2 kw qq d3i k5u q1o j9v (kc y4l (kc k1g kn)) Tryz.func286
abbrev y7c:=Int×qu×qw×qx×List (Int)×Int×Unit→Option (Bool×qu×qw×qx×List (Int)×Int×Unit)
def b0q (f:y7c):FEnt:=⟨w8f,x4n,f⟩
def d3m (f306:z3l):=lk [(306,k3h f306)]
def k6j (f306:z3l):y7c:=fun (x0,x1,x2,x3,x4,x5,_)=>(f306 (x1,x2,x3,x0,())).bind fun v=>bif v.1==7 then some (true,x1,x2,x3,x4,x5,()) else some (v.1==8,x1,x2,x3,x4,x5,())
theorem m0u (f306:z3l):yd (d3m f306) 1 Tryz.f307 .nil w8f x4n (k6j f306):=fun v=>by kernel_rfl
def y1n:y7c:=k6j j9v
theorem b9s:FO 307 (b0q y1n) :=
 q0 (kc k1g kn) Tryz.func307 (m0u j9v)
abbrev q1r:=List (Int)×Int×Int×qu×qw×qx×List (Int)×Int×Unit→Option ((qu×qw×qx×List (Int)×Int×Unit)⊕(Int×qu×qw×qx×List (Int)×Int×Unit))
def z4b (f:q1r):LEnt:=⟨w8g,g1z,f⟩
abbrev j4l:=List (Int)×qu×qw×qx×List (Int)×Int×Unit→Option (Int×qu×qw×qx×List (Int)×Int×Unit)
def v3t (f:j4l):FEnt:=⟨x3s,g1y,f⟩
def y6u (f307:y7c):=lk [(307,b0q f307)]
theorem y3w:zd Tryz.prog (y6u y1n):=(kc b9s kn)
def j4e (f307:y7c):ye (List (Int)×Int×Int×qu×qw×qx×List (Int)×Int×Unit) ((qu×qw×qx×List (Int)×Int×Unit)⊕(Int×qu×qw×qx×List (Int)×Int×Unit)):=fun (x0,x1,x2,x3,x4,x5,x6,x7,_)=>bif decide (x2<x1) then bif decide (0≤x2)&&decide (x2<(↑x0.length:Int)) then (f307 (x0.getD x2.toNat 0,x3,x4,x5,x6,x7,())).bind fun v=>bif v.1 then some (Sum.inr (Sum.inr (x2,v.2.1,v.2.2.1,v.2.2.2.1,v.2.2.2.2.1,v.2.2.2.2.2.1,()))) else some (Sum.inl (x0,x1,IntKind.i64.wrap (x2+1),v.2.1,v.2.2.1,v.2.2.2.1,v.2.2.2.2.1,v.2.2.2.2.2.1,())) else none else some (Sum.inr (Sum.inl (x3,x4,x5,x6,x7,())))
def q5a:q1r:=qb (j4e y1n) je
theorem v1p:jf 1 (qd (code Tryz.f281) [1,0,1,0,0]) (z4b q5a):=zl1 w8g g1z y6u j4e y1n y3w
def f0d (f281v2_l0:q1r):Ann:=(.seq .nil (.seq (.seq .nil (.blk (.loop (z4b f281v2_l0)))) .nil))
def z7x (f307:y7c) (f281v2_l0:q1r):j4l:=fun (x0,x1,x2,x3,x4,x5,_)=>(f281v2_l0 (x0,(↑x0.length:Int),0,x1,x2,x3,x4,x5,())).bind fun v=>Sum.elim (fun v=>some (-1,v.1,v.2.1,v.2.2.1,v.2.2.2.1,v.2.2.2.2.1,())) (fun v=>some (v.1,v.2.1,v.2.2.1,v.2.2.2.1,v.2.2.2.2.1,v.2.2.2.2.2.1,())) v
theorem f3h (f307:y7c) (f281v2_l0:q1r):yd (y6u f307) 1 Tryz.f281 (f0d f281v2_l0) x3s g1y (z7x f307 f281v2_l0):=fun v=>by kernel_rfl
def j9u:j4l:=z7x y1n q5a
theorem w6d:FO 281 (v3t j9u) :=
 qo y3w Tryz.func281 (And.intro v1p trivial) (f3h y1n q5a)
abbrev z0x:=List (Int)×qu×qw×qx×List (Int)×Int×Unit→Option (Bool×qu×qw×qx×List (Int)×Int×Unit)
def v3n (f:z0x):FEnt:=⟨x3s,x4n,f⟩
def g9e (f281v2:j4l):=lk [(281,v3t f281v2)]
def z7p (f281v2:j4l):z0x:=fun (x0,x1,x2,x3,x4,x5,_)=>(f281v2 (x0,x1,x2,x3,x4,x5,())).bind fun v=>some (decide (v.1≥0),v.2.1,v.2.2.1,v.2.2.2.1,v.2.2.2.2.1,v.2.2.2.2.2.1,())
theorem f3f (f281v2:j4l):yd (g9e f281v2) 1 Tryz.f244 .nil x3s x4n (z7p f281v2):=fun v=>by kernel_rfl
def z6p:z0x:=z7p j9u
theorem w6a:FO 244 (v3n z6p) :=
 q0 (kc w6d kn) Tryz.func244 (f3f j9u)
abbrev v0k:=qu×qw×qx×List (Int)×Int×Unit→Option (Bool×Unit)
def b0c (f:v0k):FEnt:=⟨kw,qq,f⟩
def d3j (f244v2:z0x):=lk [(244,v3n f244v2)]
def k5v (f244v2:z0x):v0k:=fun (x0,x1,x2,x3,x4,_)=>(f244v2 (x3,x0,x1,x2,x3,x4,())).bind fun v=>some (v.1,())
def x7v:v0k:=k5v z6p
theorem b9d:FO 287 (b0c x7v):=kl kw qq d3j k5v z6p (kc w6a kn) Tryz.func287
abbrev x9c:=qu×qw×qx×List (Int)×Int×Unit→Option (Int×Unit)
def f7z (f:x9c):FEnt:=⟨w8h,jh,f⟩
def d1y (f214:x9f) (f243:x9o) (f246:x9p) (f282:y2h) (f283:v0g) (f284:v0h) (f285:v0i) (f286:v0j) (f287:v0k):=lk [(214,f8j f214),(243,f8v f243),(246,f8x f246),(282,g7t f282),(283,f9y f283),(284,f9z f284),(285,b0a f285),(286,b0b f286),(287,b0c f287)]
def x8e (f214:x9f) (f243:x9o) (f246:x9p) (f282:y2h) (f283:v0g) (f284:v0h) (f285:v0i) (f286:v0j) (f287:v0k):x9c:=fun (x0,x1,x2,x3,x4,_)=>bif decide (x4<0) then some (0,()) else bif decide (x4≥(↑x3.length:Int)) then some (0,()) else bif decide (0≤x4)&&decide (x4<(↑x3.length:Int)) then (f214 (x3.getD x4.toNat 0,())).bind fun v=>Sum.elim (fun v=>(f243 (x0,x1,x2,x3,x4,())).bind fun v=>bif v.1 then some (1,()) else some (2,())) (fun v=>Sum.elim (fun v=>(f246 (x0,x1,x2,x3,x4,())).bind fun v=>bif v.1 then some (1,()) else some (2,())) (fun v=>Sum.elim (fun v=>(f282 (x0,x1,x2,x3,x4,())).bind fun v=>bif v.1 then some (1,()) else some (2,())) (fun v=>Sum.elim (fun v=>(f283 (x0,x1,x2,x3,x4,())).bind fun v=>bif v.1 then some (1,()) else some (2,())) (fun v=>Sum.elim (fun v=>(f284 (x0,x1,x2,x3,x4,())).bind fun v=>bif v.1 then some (1,()) else some (2,())) (fun v=>Sum.elim (fun v=>(f285 (x0,x1,x2,x3,x4,())).bind fun v=>bif v.1 then some (1,()) else some (2,())) (fun v=>Sum.elim (fun v=>(f286 (x0,x1,x2,x3,x4,())).bind fun v=>bif v.1 then some (1,()) else some (2,())) (fun v=>Sum.elim (fun v=>(f287 (x0,x1,x2,x3,x4,())).bind fun v=>bif v.1 then some (1,()) else some (2,())) (fun v=>some (0,())) v) v) v) v) v) v) v) v else none
theorem d9p (f214:x9f) (f243:x9o) (f246:x9p) (f282:y2h) (f283:v0g) (f284:v0h) (f285:v0i) (f286:v0j) (f287:v0k):yd (d1y f214 f243 f246 f282 f283 f284 f285 f286 f287) 0 Tryz.f183 .nil w8h jh (x8e f214 f243 f246 f282 f283 f284 f285 f286 f287):=fun v=>by kernel_rfl
def z2u:x9c:=x8e z6i x7m x7n z6q x7r x7s x7t x7u x7v
theorem b6y:FO 183 (f7z z2u) :=
 q0 (kc b7i (kc b7u (kc b7w (kc g6g (kc b8z (kc b9a (kc b9b (kc b9c (kc b9d kn))))))))) Tryz.func183 (d9p z6i x7m x7n z6q x7r x7s x7t x7u x7v)
abbrev x9g:=qu×qw×qx×Int×Unit→Option (Bool×Unit)
def f8k (f:x9g):FEnt:=⟨Li0,qq,f⟩
def d2h (f215:y2e) (f216:z0v):=lk [(215,g7j f215),(216,k3g f216)]
def k4q (f215:y2e) (f216:z0v):x9g:=fun (x0,x1,x2,x3,_)=>(f216 (x0,x1,x2,x3,())).bind fun v=>bif v.2.2.2.2.2.1 then bif v.2.2.2.1 then some (false,()) else bif v.2.2.2.2.1 then some (false,()) else (f215 (x0,x1,x2,x3,())).bind fun v=>bif v.1==2 then some (true,()) else bif v.1==3 then some (true,()) else bif v.1==4 then some (true,()) else bif v.1==5 then some (true,()) else some (x3==45,()) else (f215 (x0,x1,x2,x3,())).bind fun v=>bif v.1==2 then some (true,()) else bif v.1==3 then some (true,()) else bif v.1==4 then some (true,()) else bif v.1==5 then some (true,()) else some (x3==45,())
def j3x:x9g:=k4q y5r zz
theorem b7j:FO 217 (f8k j3x):=zq2 Li0 qq d2h k4q y5r zz (kc g5y (kc k1d kn)) Tryz.func217
abbrev j8w:=List (Int)×List (Int)×Int×Int×qu×qw×qx×Unit→Option (Unit⊕(Bool×Unit))
def x1y (f:j8w):LEnt:=⟨w8i,g2a,f⟩
abbrev x9w:=qu×qw×qx×List (Int)×Unit→Option (Bool×Unit)
def f9i (f:x9w):FEnt:=⟨Li9,qq,f⟩
def g9h (f183:x9c) (f217:x9g):=lk [(183,f7z f183),(217,f8k f217)]
theorem v9k:zd Tryz.prog (g9h z2u j3x):=(kc b6y (kc b7j kn))
def j7y (f183:x9c) (f217:x9g):ye (List (Int)×List (Int)×Int×Int×qu×qw×qx×Unit) (Unit⊕(Bool×Unit)):=fun (x0,x1,x2,x3,x4,x5,x6,_)=>bif decide (x3<x2) then bif decide (0≤x3)&&decide (x3<(↑x1.length:Int)) then (f183 (x4,x5,x6,x0,x3,())).bind fun v=>bif v.1==2 then some (Sum.inr (Sum.inr (true,()))) else bif v.1==0 then (f217 (x4,x5,x6,x1.getD x3.toNat 0,())).bind fun v=>bif !v.1 then some (Sum.inr (Sum.inr (true,()))) else some (Sum.inl (x0,x1,x2,IntKind.i64.wrap (x3+1),x4,x5,x6,())) else some (Sum.inl (x0,x1,x2,IntKind.i64.wrap (x3+1),x4,x5,x6,())) else none else some (Sum.inr (Sum.inl ()))
def q9m:j8w:=qb (j7y z2u j3x) je
theorem w3z:jf 0 (qd (code Tryz.f261) [1,0,1,0,0]) (x1y q9m):=zl2 w8i g2a g9h j7y z2u j3x v9k
def d5h (f261_l0:j8w):Ann:=(.seq .nil (.seq (.seq .nil (.blk (.loop (x1y f261_l0)))) .nil))
def x8j (f183:x9c) (f217:x9g) (f261_l0:j8w):x9w:=fun (x0,x1,x2,x3,_)=>(f261_l0 (x3,x3,(↑x3.length:Int),0,x0,x1,x2,())).bind fun v=>Sum.elim (fun v=>some (false,())) (fun v=>some (v.1,())) v
def x7p:x9w:=x8j z2u j3x q9m
theorem b8h:FO 261 (f9i x7p):=j5x Li9 qq g9h d5h x8j z2u j3x q9m v9k Tryz.func261 (And.intro w3z trivial)
abbrev x9v:=qu×qw×qx×List (Int)×Unit→Option (Bool×qu×qw×qx×List (Int)×Unit)
def f9h (f:x9v):FEnt:=⟨z4e,z4i,f⟩
def d2v (f261:x9w):=lk [(261,f9i f261)]
def v5c (f261:x9w):x9v:=fun (x0,x1,x2,x3,_)=>(f261 (x0,x1,x2,x3,())).bind fun v=>some (v.1,x0,x1,x2,x3,())
theorem m0e (f261:x9w):yd (d2v f261) 2 Tryz.f260 .nil z4e z4i (v5c f261):=fun v=>by kernel_rfl
def x7o:x9v:=v5c x7p
theorem b8g:FO 260 (f9h x7o) :=
 q0 (kc b8h kn) Tryz.func260 (m0e x7p)
abbrev j8p:=List (Int)×Int×Int×qu×qw×qx×List (Int)×List (Int)×Unit→Option (List (Int)×List (Int)×Unit)
def x1a (f:j8p):LEnt:=⟨w8j,g2c,f⟩
abbrev j6j:=qu×qw×qx×List (Int)×Unit→Option (Int×Int×Int×Int×Int×Int×Int×Int×Unit)
def g7f (f:j6j):FEnt:=⟨Li9,g2b,f⟩
def g8w (f218:y2f):=lk [(218,g7k f218)]
theorem v9c:zd Tryz.prog (g8w q7n):=(kc k1e kn)
def z7j (f218:y2f):ye (List (Int)×Int×Int×qu×qw×qx×List (Int)×List (Int)×Unit) (List (Int)×List (Int)×Unit):=fun (x0,x1,x2,x3,x4,x5,x6,x7,_)=>bif decide (x2<x1) then bif decide (0≤x2)&&decide (x2<(↑x0.length:Int)) then (f218 (x3,x4,x5,x0.getD x2.toNat 0,())).bind fun v=>bif decide (x7.length=8) then bif decide (0≤v.1)&&decide (v.1<(↑8:Int)) then bif decide (Int.toNat v.1<x7.length) then bif decide (x7.length=8) then bif decide (0≤v.1)&&decide (v.1<(↑8:Int)) then bif decide (Int.toNat v.1<x7.length) then some (Sum.inl (x0,x1,IntKind.i64.wrap (x2+1),x3,x4,x5,x6,x7.set (Int.toNat v.1) (IntKind.i64.wrap (x7.getD (Int.toNat v.1) 0+1)),())) else none else none else none else none else none else none else none else some (Sum.inr (x6,x7,()))
def j6s:j8p:=qb (z7j q7n) je
theorem w3b:jf 0 (qd (code Tryz.f185) [1,1,0,1,0,0]) (x1a j6s):=zl1 w8j g2c g8w z7j q7n v9c
def d4q (f185_l0:j8p):Ann:=(.seq .nil (.seq .nil (.seq (.seq .nil (.blk (.loop (x1a f185_l0)))) .nil)))
def k4i (f218:y2f) (f185_l0:j8p):j6j:=fun (x0,x1,x2,x3,_)=>(f185_l0 (x3,(↑x3.length:Int),0,x0,x1,x2,[0,0,0,0,0,0,0,0],[0,0,0,0,0,0,0,0],())).bind fun v=>bif decide (List.length v.2.1=8) then bif decide (List.length v.1=8) then some (v.2.1.getD 0 0,v.2.1.getD 1 0,v.2.1.getD 2 0,v.2.1.getD 3 0,v.2.1.getD 4 0,v.2.1.getD 5 0,v.2.1.getD 6 0,v.2.1.getD 7 0,()) else none else none
def q9c:j6j:=k4i q7n j6s
theorem g5u:FO 185 (g7f q9c):=xi Li9 g2b g8w d4q k4i q7n j6s v9c Tryz.func185 (And.intro w3b trivial)
abbrev j4j:=qu×qw×qx×List (Int)×Unit→Option (Bool×Unit)
def g7c (f:j4j):FEnt:=⟨Li9,qq,f⟩
def d1n (f185:j6j):=lk [(185,g7f f185)]
def k3z (f185:j6j):j4j:=fun (x0,x1,x2,x3,_)=>(f185 (x0,x1,x2,x3,())).bind fun v=>some (decide (IntKind.i64.wrap (IntKind.i64.wrap ([v.1,v.2.1,v.2.2.1,v.2.2.2.1,v.2.2.2.2.1,v.2.2.2.2.2.1,v.2.2.2.2.2.2.1,v.2.2.2.2.2.2.2.1].getD 2 0+[v.1,v.2.1,v.2.2.1,v.2.2.2.1,v.2.2.2.2.1,v.2.2.2.2.2.1,v.2.2.2.2.2.2.1,v.2.2.2.2.2.2.2.1].getD 3 0)+[v.1,v.2.1,v.2.2.1,v.2.2.2.1,v.2.2.2.2.1,v.2.2.2.2.2.1,v.2.2.2.2.2.2.1,v.2.2.2.2.2.2.2.1].getD 5 0)>0),())
def j3s:j4j:=k3z q9c
theorem g5r:FO 153 (g7c j3s):=kl Li9 qq d1n k3z q9c (kc g5u kn) Tryz.func153
abbrev z3f:=qu×qw×qx×List (Int)×Unit→Option (Int×Unit)
def f8b (f:z3f):FEnt:=⟨Li9,jh,f⟩
def d1z (f218:y2f):=lk [(218,g7k f218)]
def k4j (f218:y2f):z3f:=fun (x0,x1,x2,x3,_)=>bif (↑x3.length:Int)==0 then some (0,()) else bif decide (0<(↑x3.length:Int)) then (f218 (x0,x1,x2,x3.getD 0 0,())).bind fun v=>bif v.1==2 then some (2,()) else bif v.1==3 then some (2,()) else bif v.1==1 then some (v.1,()) else some (0,()) else none
def j9o:z3f:=k4j q7n
theorem b7a:FO 187 (f8b j9o):=kl Li9 jh d1z k4j q7n (kc k1e kn) Tryz.func187
abbrev q6a:=Bool×Bool×List (Int)×Unit→Option (Bool×Unit)
def x0t (f:q6a):LEnt:=⟨w8k,x4o,f⟩
abbrev q6b:=Int×Bool×List (Int)×Unit→Option (Bool×Unit)
def x0u (f:q6b):LEnt:=⟨w8l,x4o,f⟩
abbrev x8z:=qu×qw×qx×List (Int)×Unit→Option (Bool×Unit)
def f7r (f:x8z):FEnt:=⟨Li9,qq,f⟩
def k6w (f153:j4j) (f185:j6j) (f186:z8k) (f187:z3f):=lk [(153,g7c f153),(185,g7f f185),(186,f8a f186),(187,f8b f187)]
theorem y8f:zd Tryz.prog (k6w j3s q9c j6b j9o):=(kc g5r (kc g5u (kc b6z (kc b7a kn))))
def j7h (f153:j4j) (f185:j6j) (f186:z8k) (f187:z3f):q6a:=fun (x0,x1,x2,_)=>bif decide (x2.length=8) then bif decide (Int.toNat 1<x2.length) then bif x2.getD 1 0==0 then bif x1 then some (bif x0 then false else true,()) else some (false,()) else some (false,()) else none else none
theorem w0l (f153:j4j) (f185:j6j) (f186:z8k) (f187:z3f):AqC (k6w f153 f185 f186 f187) 0 (qd (code Tryz.f154) [1,1,0,1,0,1,0,1,1]) .nil w8k x4o (j7h f153 f185 f186 f187):=fun v=>by kernel_rfl
def q8y:q6a:=j7h j3s q9c j6b j9o
theorem w2u:zo 0 (qd (code Tryz.f154) [1,1,0,1,0,1,0,1,1]) (x0t q8y) :=
 frc y8f (w0l j3s q9c j6b j9o)
def k8e (f154_c0:q6a):Ann:=(.cut .nil (x0t f154_c0))
def j7i (f153:j4j) (f185:j6j) (f186:z8k) (f187:z3f) (f154_c0:q6a):q6b:=fun (x0,x1,x2,_)=>bif x0==2 then (f154_c0 (x1,true,x2,())).bind fun v=>some (v.1,()) else bif x0==3 then (f154_c0 (x1,true,x2,())).bind fun v=>some (v.1,()) else bif x0==4 then (f154_c0 (x1,true,x2,())).bind fun v=>some (v.1,()) else (f154_c0 (x1,x0==5,x2,())).bind fun v=>some (v.1,())
theorem w0m (f153:j4j) (f185:j6j) (f186:z8k) (f187:z3f) (f154_c0:q6a):AqC (k6w f153 f185 f186 f187) 0 (qd (code Tryz.f154) [1,1,0,1,0,1,0,1]) (k8e f154_c0) w8l x4o (j7i f153 f185 f186 f187 f154_c0):=fun v=>by kernel_rfl
def j6q:q6b:=j7i j3s q9c j6b j9o q8y
theorem w2v:zo 0 (qd (code Tryz.f154) [1,1,0,1,0,1,0,1]) (x0u j6q) :=
 frd y8f (And.intro w2u trivial) (w0m j3s q9c j6b j9o q8y)
def d4l (f154_c1:q6b):Ann:=(.seq .nil (.seq .nil (.seq (.seq .nil (.blk (.seq .nil (.cond (.cut .nil (x0u f154_c1)) .nil)))) .nil)))
def g7w (f153:j4j) (f185:j6j) (f186:z8k) (f187:z3f) (f154_c1:q6b):x8z:=fun (x0,x1,x2,x3,_)=>(f185 (x0,x1,x2,x3,())).bind fun v=>(f186 (x0,x1,x2,x3,())).bind fun v1=>(f187 (x0,x1,x2,x3,())).bind fun v2=>bif v2.1==2 then bif decide ([v.1,v.2.1,v.2.2.1,v.2.2.2.1,v.2.2.2.2.1,v.2.2.2.2.2.1,v.2.2.2.2.2.2.1,v.2.2.2.2.2.2.2.1].getD 4 0>0) then (f154_c1 (v1.1,decide ([v.1,v.2.1,v.2.2.1,v.2.2.2.1,v.2.2.2.2.1,v.2.2.2.2.2.1,v.2.2.2.2.2.2.1,v.2.2.2.2.2.2.2.1].getD 5 0>0),[v.1,v.2.1,v.2.2.1,v.2.2.2.1,v.2.2.2.2.1,v.2.2.2.2.2.1,v.2.2.2.2.2.2.1,v.2.2.2.2.2.2.2.1],())).bind fun v=>some (v.1,()) else (f154_c1 (v1.1,false,[v.1,v.2.1,v.2.2.1,v.2.2.2.1,v.2.2.2.2.1,v.2.2.2.2.2.1,v.2.2.2.2.2.2.1,v.2.2.2.2.2.2.2.1],())).bind fun v=>some (v.1,()) else bif v2.1==1 then (f153 (x0,x1,x2,x3,())).bind fun v=>bif !v.1 then bif v1.1==1 then some (true,()) else some (v1.1==4,()) else some (false,()) else some ((↑x3.length:Int)==0,())
theorem d9n (f153:j4j) (f185:j6j) (f186:z8k) (f187:z3f) (f154_c1:q6b):yd (k6w f153 f185 f186 f187) 0 Tryz.f154 (d4l f154_c1) Li9 qq (g7w f153 f185 f186 f187 f154_c1):=fun v=>by kernel_rfl
def v2j:x8z:=g7w j3s q9c j6b j9o j6q
theorem b6n:FO 154 (f7r v2j) :=
 qo y8f Tryz.func154 (And.intro w2v trivial) (d9n j3s q9c j6b j9o j6q)
abbrev x9x:=qu×qw×qx×List (Int)×Unit→Option (Bool×qu×qw×qx×List (Int)×Unit)
def f9j (f:x9x):FEnt:=⟨z4e,z4i,f⟩
def d2w (f153:j4j) (f154:x8z):=lk [(153,g7c f153),(154,f7r f154)]
def g8b (f153:j4j) (f154:x8z):x9x:=fun (x0,x1,x2,x3,_)=>(f153 (x0,x1,x2,x3,())).bind fun v=>bif v.1 then (f154 (x0,x1,x2,x3,())).bind fun v=>some (bif v.1 then false else true,x0,x1,x2,x3,()) else some (false,x0,x1,x2,x3,())
theorem m0f (f153:j4j) (f154:x8z):yd (d2w f153 f154) 2 Tryz.f262 .nil z4e z4i (g8b f153 f154):=fun v=>by kernel_rfl
def v2r:x9x:=g8b j3s v2j
theorem b8i:FO 262 (f9j v2r) :=
 q0 (kc g5r (kc b6n kn)) Tryz.func262 (m0f j3s v2j)
abbrev x9y:=List (Int)×qa×Bool×Unit→Option (Bool×List (Int)×qa×Bool×Unit)
def f9k (f:x9y):FEnt:=⟨w8m,g2d,f⟩
def d2x (f223:z8m):=lk [(223,g7l f223)]
def g8c (f223:z8m):x9y:=fun (x0,x1,x2,_)=>(f223 (x0,())).bind fun v=>some (bif v.2.1 then false else true,x0,v.1,v.2.1,())
theorem m0g (f223:z8m):yd (d2x f223) 3 Tryz.f263 .nil w8m g2d (g8c f223):=fun v=>by kernel_rfl
def v2s:x9y:=g8c x7k
theorem b8j:FO 263 (f9k v2s) :=
 q0 (kc g5z kn) Tryz.func263 (m0g x7k)
abbrev x9z:=qa×Unit→Option (Bool×qa×Unit)
def f9l (f:x9z):FEnt:=⟨q3c,q3f,f⟩
def g8d:x9z:=fun (x0,_)=>some (decide (IntKind.i64.wrap (4+(↑x0.length:Int))>63),x0,())
theorem m0h:yd xc 1 Tryz.f264 .nil q3c q3f (g8d):=fun v=>by kernel_rfl
def v2t:x9z:=g8d
theorem b8k:FO 264 (f9l v2t) :=
 q0 kn Tryz.func264 (m0h)
abbrev v5u:=Int×Int×Int×Int×Int×Int×Int×Int×Int×qa×qu×qw×qx×List (Int)×qa×Bool×Unit→Option (Int×Int×Int×Int×Int×Int×Int×Int×Int×Int×qa×qu×qw×qx×List (Int)×qa×Bool×Unit)
def f9b (f:v5u):FEnt:=⟨w8n,g2e,f⟩
def d2p (f254:x9q) (f255:x9r) (f257:x9t) (f259:x9u) (f260:x9v) (f262:x9x) (f263:x9y) (f264:x9z):=lk [(254,f9c f254),(255,f9d f255),(257,f9f f257),(259,f9g f259),(260,f9h f260),(262,f9j f262),(263,f9k f263),(264,f9l f264)]
def d5g:Ann:=(.seq .nil (.seq (.seq .nil (.blk (.unroll 10 .nil))) .nil))
def v5a (f254:x9q) (f255:x9r) (f257:x9t) (f259:x9u) (f260:x9v) (f262:x9x) (f263:x9y) (f264:x9z):v5u:=fun (x0,x1,x2,x3,x4,x5,x6,x7,x8,x9,x10,x11,x12,x13,x14,x15,_)=>(f254 (x8,())).bind fun v=>bif v.1 then some (x0,x0,x1,x2,x3,x4,x5,x6,x7,v.2.1,x9,x10,x11,x12,x13,x14,x15,()) else (f255 (x9,x10,x11,x12,())).bind fun v1=>bif v1.1 then some (x1,x0,x1,x2,x3,x4,x5,x6,x7,v.2.1,v1.2.1,v1.2.2.1,v1.2.2.2.1,v1.2.2.2.2.1,x13,x14,x15,()) else (f257 (v1.2.1,())).bind fun v2=>bif v2.1 then some (x2,x0,x1,x2,x3,x4,x5,x6,x7,v.2.1,v2.2.1,v1.2.2.1,v1.2.2.2.1,v1.2.2.2.2.1,x13,x14,x15,()) else (f259 (v1.2.2.1,v1.2.2.2.1,v1.2.2.2.2.1,x13,())).bind fun v3=>bif v3.1 then some (x3,x0,x1,x2,x3,x4,x5,x6,x7,v.2.1,v2.2.1,v3.2.1,v3.2.2.1,v3.2.2.2.1,v3.2.2.2.2.1,x14,x15,()) else (f260 (v3.2.1,v3.2.2.1,v3.2.2.2.1,v3.2.2.2.2.1,())).bind fun v4=>bif v4.1 then some (x4,x0,x1,x2,x3,x4,x5,x6,x7,v.2.1,v2.2.1,v4.2.1,v4.2.2.1,v4.2.2.2.1,v4.2.2.2.2.1,x14,x15,()) else (f262 (v4.2.1,v4.2.2.1,v4.2.2.2.1,v4.2.2.2.2.1,())).bind fun v5=>bif v5.1 then some (x5,x0,x1,x2,x3,x4,x5,x6,x7,v.2.1,v2.2.1,v5.2.1,v5.2.2.1,v5.2.2.2.1,v5.2.2.2.2.1,x14,x15,()) else (f263 (v5.2.2.2.2.1,x14,x15,())).bind fun v6=>bif v6.1 then some (x6,x0,x1,x2,x3,x4,x5,x6,x7,v.2.1,v2.2.1,v5.2.1,v5.2.2.1,v5.2.2.2.1,v6.2.1,v6.2.2.1,v6.2.2.2.1,()) else (f264 (v6.2.2.1,())).bind fun v7=>bif v7.1 then some (x7,x0,x1,x2,x3,x4,x5,x6,x7,v.2.1,v2.2.1,v5.2.1,v5.2.2.1,v5.2.2.2.1,v6.2.1,v7.2.1,v6.2.2.2.1,()) else some (0,x0,x1,x2,x3,x4,x5,x6,x7,v.2.1,v2.2.1,v5.2.1,v5.2.2.1,v5.2.2.2.1,v6.2.1,v7.2.1,v6.2.2.2.1,())
theorem w1c (f254:x9q) (f255:x9r) (f257:x9t) (f259:x9u) (f260:x9v) (f262:x9x) (f263:x9y) (f264:x9z):yd (d2p f254 f255 f257 f259 f260 f262 f263 f264) 7 Tryz.f253 d5g w8n g2e (v5a f254 f255 f257 f259 f260 f262 f263 f264):=fun v=>by kernel_rfl
def y1j:v5u:=v5a v2p y1k y5u y5w x7o v2r v2s v2t
theorem b8a:FO 253 (f9b y1j) :=
 qo (kc b8b (kc b8c (kc b8e (kc b8f (kc b8g (kc b8i (kc b8j (kc b8k kn)))))))) Tryz.func253 trivial (w1c v2p y1k y5u y5w x7o v2r v2s v2t)
abbrev x9h:=qu×qw×qx×qa×Unit→Option (Int×Unit)
def f8l (f:x9h):FEnt:=⟨q1h,jh,f⟩
def d2j (f253:v5u) (f83:T83):=lk [(253,f9b f253),(83,E83 f83)]
def v4z (f253:v5u) (f83:T83):x9h:=fun (x0,x1,x2,x3,_)=>(f83 (x3,())).bind fun v=>(f253 (7,4,11,10,8,9,12,5,v.2.1,x3,x0,x1,x2,v.1,[],false,())).bind fun v=>some (v.1,())
def z6k:x9h:=v4z y1j C83
theorem b7k:FO 224 (f8l z6k):=zq2 q1h jh d2j v4z y1j C83 (kc b8a (kc y8s kn)) Tryz.func224
abbrev v0a:=qa×Unit→Option (Bool×qa×Unit)
def f9m (f:v0a):FEnt:=⟨q3c,q3f,f⟩
def b1f:v0a:=fun (x0,_)=>some (x0==[],x0,())
theorem m0i:yd xc 1 Tryz.f265 .nil q3c q3f (b1f):=fun v=>by kernel_rfl
def g6t:v0a:=b1f
theorem b8l:FO 265 (f9m g6t) :=
 q0 kn Tryz.func265 (m0i)
abbrev v0b:=qa×Unit→Option (Bool×qa×Unit)
def f9n (f:v0b):FEnt:=⟨q3c,q3f,f⟩
def b1g:v0b:=fun (x0,_)=>some (decide ((↑x0.length:Int)>63),x0,())
theorem m0j:yd xc 1 Tryz.f266 .nil q3c q3f (b1g):=fun v=>by kernel_rfl
def g6u:v0b:=b1g
theorem b8m:FO 266 (f9n g6u) :=
 q0 kn Tryz.func266 (m0j)
abbrev j1m:=Int×Bool×Unit→Option (Bool×Unit)
def x1z (f:j1m):LEnt:=⟨x3t,x4p,f⟩
abbrev j1n:=Int×Bool×Unit→Option (Bool×Unit)
def x2a (f:j1n):LEnt:=⟨x3t,x4p,f⟩
abbrev v0d:=Int×Unit→Option (Bool×Unit)
def f9p (f:v0d):FEnt:=⟨q3l,qq,f⟩
def z7t:j1m:=fun (x0,x1,_)=>bif x1 then some (true,()) else bif decide (x0≥48) then bif decide (x0≤57) then some (true,()) else some (x0==45,()) else some (x0==45,())
def q9n:j1m:=z7t
theorem w4a:zo 0 (qd (code Tryz.f268) [1,0,0,0,1,1,1]) (x1z q9n):=zc0 x3t x4p xc z7t kn
def k8n (f268_c0:j1m):Ann:=(.cond .nil (.cut .nil (x1z f268_c0)))
def z7u (f268_c0:j1m):j1n:=fun (x0,x1,_)=>bif x1 then some (true,()) else bif decide (x0≥65) then (f268_c0 (x0,decide (x0≤90),())).bind fun v=>some (v.1,()) else (f268_c0 (x0,false,())).bind fun v=>some (v.1,())
def q9o:j1n:=z7u q9n
theorem w4b:zo 0 (qd (code Tryz.f268) [1,0,0,0,1]) (x2a q9o):=y5k x3t x4p xc k8n z7u q9n kn (And.intro w4a trivial)
def d5i (f268_c1:j1n):Ann:=(.seq .nil (.seq (.blk (.seq (.cut .nil (x2a f268_c1)) .nil)) .nil))
def g8e (f268_c1:j1n):v0d:=fun (x0,_)=>bif decide (x0≥97) then (f268_c1 (x0,decide (x0≤122),())).bind fun v=>bif v.1 then some (false,()) else some (true,()) else (f268_c1 (x0,false,())).bind fun v=>bif v.1 then some (false,()) else some (true,())
def j9s:v0d:=g8e q9o
theorem b8o:FO 268 (f9p j9s):=q2c q3l qq xc d5i g8e q9o kn Tryz.func268 (And.intro w4b trivial)
abbrev j8m:=Bool×(qa×Int)×Unit→Option ((Int×Unit)⊕Unit)
def x0v (f:j8m):LEnt:=⟨w8p,z4j,f⟩
abbrev v5k:=qa×Bool×Unit→Option (Int×Unit)
def f7s (f:v5k):FEnt:=⟨w8o,jh,f⟩
def g8u (f268:v0d):=lk [(268,f9p f268)]
theorem v9a:zd Tryz.prog (g8u j9s):=(kc b8o kn)
def j7j (f268:v0d):ye (Bool×(qa×Int)×Unit) ((Int×Unit)⊕Unit):=fun (x0,x1,_)=>bif decide (Int.toNat x1.2<List.length x1.1) then (f268 ((↑(vd x1.1 (Int.toNat x1.2)).1:Int),())).bind fun v=>bif v.1==x0 then some (Sum.inr (Sum.inl ((↑(Int.toNat x1.2):Int),()))) else some (Sum.inl (x0,(x1.1,(↑(Int.toNat x1.2+(vd x1.1 (Int.toNat x1.2)).2):Int)),())) else some (Sum.inr (Sum.inr ()))
def z5y:j8m:=qb (j7j j9s) je
theorem w2w:jf 0 (qd (code Tryz.f156) [1,0,1,0,0]) (x0v z5y):=zl1 w8p z4j g8u j7j j9s v9a
def d4m (f156_l0:j8m):Ann:=(.seq .nil (.seq (.seq .nil (.blk (.loop (x0v f156_l0)))) .nil))
def k4a (f268:v0d) (f156_l0:j8m):v5k:=fun (x0,x1,_)=>(f156_l0 (x1,(x0,(↑0:Int)),())).bind fun v=>Sum.elim (fun v=>some (v.1,())) (fun v=>some (-1,())) v
def y5n:v5k:=k4a j9s z5y
theorem b6o:FO 156 (f7s y5n):=xi w8o jh g8u d4m k4a j9s z5y v9a Tryz.func156 (And.intro w2w trivial)
abbrev v5i:=qa×Unit→Option (Int×Unit)
def f7e (f:v5i):FEnt:=⟨x3u,jh,f⟩
def d1f (f156:v5k):=lk [(156,f7s f156)]
def k3m (f156:v5k):v5i:=fun (x0,_)=>(f156 (x0,true,())).bind fun v=>some (v.1,())
def v2g:v5i:=k3m y5n
theorem b6a:FO 123 (f7e v2g):=kl x3u jh d1f k3m y5n (kc b6o kn) Tryz.func123
abbrev T84:=qa×Unit→Option (Bool×Unit)
def E84 (f:T84):FEnt:=⟨x3u,qq,f⟩
def K84 (f123:v5i):=lk [(123,f7e f123)]
def F84 (f123:v5i):T84:=fun (x0,_)=>(f123 (x0,())).bind fun v=>some (decide (v.1≥0),())
def C84:T84:=F84 v2g
theorem m1z:FO 84 (E84 C84):=kl x3u qq K84 F84 v2g (kc b6a kn) Tryz.func84
abbrev v0c:=qa×Unit→Option (Bool×qa×Unit)
def f9o (f:v0c):FEnt:=⟨q3c,q3f,f⟩
def d2y (f84:T84):=lk [(84,E84 f84)]
def k5j (f84:T84):v0c:=fun (x0,_)=>(f84 (x0,())).bind fun v=>some (v.1,x0,())
theorem m0k (f84:T84):yd (d2y f84) 1 Tryz.f267 .nil q3c q3f (k5j f84):=fun v=>by kernel_rfl
def v2u:v0c:=k5j C84
theorem b8n:FO 267 (f9o v2u) :=
 q0 (kc m1z kn) Tryz.func267 (m0k C84)
abbrev v0e:=qa×Unit→Option (Bool×qa×Unit)
def f9q (f:v0e):FEnt:=⟨q3c,q3f,f⟩
def d2z (f258:z8p):=lk [(258,g7q f258)]
def g8f (f258:z8p):v0e:=fun (x0,_)=>(f258 (x0,())).bind fun v=>some (v.1,x0,())
theorem m0l (f258:z8p):yd (d2z f258) 1 Tryz.f269 .nil q3c q3f (g8f f258):=fun v=>by kernel_rfl
def k2y:v0e:=g8f y5v
theorem b8p:FO 269 (f9q k2y) :=
 q0 (kc g6e kn) Tryz.func269 (m0l y5v)
abbrev z0z:=Int×Int×Int×Int×qa×Unit→Option (Int×Int×Int×Int×Int×qa×Unit)
def v3p (f:z0z):FEnt:=⟨w8q,g2f,f⟩
def g9g (f265:v0a) (f266:v0b) (f267:v0c) (f269:v0e):=lk [(265,f9m f265),(266,f9n f266),(267,f9o f267),(269,f9q f269)]
def f0b:Ann:=(.seq .nil (.seq (.seq .nil (.blk (.unroll 6 .nil))) .nil))
def z7s (f265:v0a) (f266:v0b) (f267:v0c) (f269:v0e):z0z:=fun (x0,x1,x2,x3,x4,_)=>(f265 (x4,())).bind fun v=>bif v.1 then some (x0,x0,x1,x2,x3,v.2.1,()) else (f266 (v.2.1,())).bind fun v=>bif v.1 then some (x1,x0,x1,x2,x3,v.2.1,()) else (f267 (v.2.1,())).bind fun v=>bif v.1 then some (x2,x0,x1,x2,x3,v.2.1,()) else (f269 (v.2.1,())).bind fun v=>bif v.1 then some (x3,x0,x1,x2,x3,v.2.1,()) else some (0,x0,x1,x2,x3,v.2.1,())
theorem f3g (f265:v0a) (f266:v0b) (f267:v0c) (f269:v0e):yd (g9g f265 f266 f267 f269) 2 Tryz.f253 f0b w8q g2f (z7s f265 f266 f267 f269):=fun v=>by kernel_rfl
def j9r:z0z:=z7s g6t g6u v2u k2y
theorem w6b:FO 253 (v3p j9r) :=
 qo (kc b8l (kc b8m (kc b8n (kc b8p kn)))) Tryz.func253 trivial (f3g g6t g6u v2u k2y)
abbrev x9i:=qa×Unit→Option (Int×Unit)
def f8m (f:x9i):FEnt:=⟨kf,jh,f⟩
def d2k (f253v1:z0z):=lk [(253,v3p f253v1)]
def k4t (f253v1:z0z):x9i:=fun (x0,_)=>(f253v1 (13,5,8,11,x0,())).bind fun v=>some (v.1,())
def y1g:x9i:=k4t j9r
theorem b7l:FO 225 (f8m y1g):=kl kf jh d2k k4t j9r (kc w6b kn) Tryz.func225
abbrev j8z:=qa×Int×Int×Unit→Option (Unit⊕(Int×Unit))
def x2i (f:j8z):LEnt:=⟨w8r,q0w,f⟩
abbrev v5y:=qa×Int×Unit→Option (Int×Unit)
def b0h (f:v5y):FEnt:=⟨z3d,jh,f⟩
def j8b:ye (qa×Int×Int×Unit) (Unit⊕(Int×Unit)):=fun (x0,x1,x2,_)=>bif decide (x2≥0) then bif decide (0≤x2)&&decide (x2<(↑x0.length:Int)) then bif (↑(x0.getD x2.toNat 0).toNat:Int)==x1 then some (Sum.inr (Sum.inr (x2,()))) else some (Sum.inl (x0,x1,IntKind.i64.wrap (x2-1),())) else none else some (Sum.inr (Sum.inl ()))
def z6s:j8z:=qb (j8b) je
theorem w4j:jf 0 (qd (code Tryz.f293) [1,0,1,0,0]) (x2i z6s):=zl0 w8r q0w xc j8b kn
def d5p (f293_l0:j8z):Ann:=(.seq .nil (.seq (.seq .nil (.blk (.loop (x2i f293_l0)))) .nil))
def k6a (f293_l0:j8z):v5y:=fun (x0,x1,_)=>(f293_l0 (x0,x1,IntKind.i64.wrap ((↑x0.length:Int)-1),())).bind fun v=>Sum.elim (fun v=>some (-1,())) (fun v=>some (v.1,())) v
def v2y:v5y:=k6a z6s
theorem b9i:FO 293 (b0h v2y):=q2c z3d jh xc d5p k6a z6s kn Tryz.func293 (And.intro w4j trivial)
abbrev z3i:=qa×Int×Unit→Option (Int×Unit)
def f9r (f:z3i):FEnt:=⟨z3d,jh,f⟩
def d3a (f293:v5y):=lk [(293,b0h f293)]
def k5k (f293:v5y):z3i:=fun (x0,x1,_)=>(f293 (x0,x1,())).bind fun v=>some (v.1,())
def j6c:z3i:=k5k v2y
theorem b8q:FO 270 (f9r j6c):=kl z3d jh d3a k5k v2y (kc b9i kn) Tryz.func270
abbrev j1t:=Int×Bool×Unit→Option ((Int×Bool×Unit)⊕Unit)
def x2j (f:j1t):LEnt:=⟨w8s,x4q,f⟩
abbrev j1u:=Int×Bool×Unit→Option ((Int×Bool×Unit)⊕Unit)
def x2k (f:j1u):LEnt:=⟨w8t,x4q,f⟩
abbrev z8t:=Int×Unit→Option (Int×Bool×Unit)
def b0i (f:z8t):FEnt:=⟨z3e,x4l,f⟩
def z7z:j1t:=fun (x0,x1,_)=>bif x1 then some (Sum.inl (IntKind.i64.wrap (IntKind.u8.wrap (x0-65)),true,())) else bif decide (x0≥97) then bif decide (x0≤122) then some (Sum.inl (IntKind.i64.wrap (IntKind.u8.wrap (x0-97)),true,())) else some (Sum.inr ()) else some (Sum.inr ())
def q9s:j1t:=z7z
theorem w4k:zo 0 (qd (code Tryz.f294) [1,0,0,1,1,1]) (x2j q9s):=zc0 w8s x4q xc z7z kn
def k8o (f294_c0:j1t):Ann:=(.cond .nil (.cut .nil (x2j f294_c0)))
def z8a (f294_c0:j1t):j1u:=fun (x0,x1,_)=>bif x1 then some (Sum.inl (IntKind.i64.wrap (IntKind.i64.wrap (IntKind.u8.wrap (x0-48))+26),true,())) else bif decide (x0≥65) then (f294_c0 (x0,decide (x0≤90),())).bind fun v=>Sum.elim (fun v=>some (Sum.inl (v.1,v.2.1,()))) (fun v=>some (Sum.inr ())) v else (f294_c0 (x0,false,())).bind fun v=>Sum.elim (fun v=>some (Sum.inl (v.1,v.2.1,()))) (fun v=>some (Sum.inr ())) v
def q9t:j1u:=z8a q9s
theorem w4l:zo 0 (qd (code Tryz.f294) [1,0,0,1]) (x2k q9t):=y5k w8t x4q xc k8o z8a q9s kn (And.intro w4k trivial)
def d5q (f294_c1:j1u):Ann:=(.seq .nil (.seq (.blk (.cut .nil (x2k f294_c1))) .nil))
def g8h (f294_c1:j1u):z8t:=fun (x0,_)=>bif decide (x0≥48) then (f294_c1 (x0,decide (x0≤57),())).bind fun v=>Sum.elim (fun v=>some (v.1,v.2.1,())) (fun v=>some (0,false,())) v else (f294_c1 (x0,false,())).bind fun v=>Sum.elim (fun v=>some (v.1,v.2.1,())) (fun v=>some (0,false,())) v
def j4a:z8t:=g8h q9t
theorem b9j:FO 294 (b0i j4a):=q2c z3e x4l xc d5q g8h q9t kn Tryz.func294 (And.intro w4l trivial)
abbrev j1p:=qa×Int×Int×Int×Int×Int×Unit→Option (Unit⊕Unit⊕(Int×qa×Unit))
def x2c (f:j1p):LEnt:=⟨w8u,g2h,f⟩
abbrev j1o:=Unit→Option (Int×qa×Unit)
def x2b (f:j1o):LEnt:=⟨z4f,x4r,f⟩
abbrev z3j:=qa×Int×Unit→Option (Int×qa×Unit)
def f9s (f:z3j):FEnt:=⟨x3v,g2g,f⟩
def k7c (f290:j1r) (f294:z8t):=lk [(290,g7u f290),(294,b0i f294)]
theorem y8l:zd Tryz.prog (k7c q3o j4a):=(kc g6h (kc b9j kn))
def j7z (f290:j1r) (f294:z8t):ye (qa×Int×Int×Int×Int×Int×Unit) (Unit⊕Unit⊕(Int×qa×Unit)):=fun (x0,x1,x2,x3,x4,x5,_)=>bif decide (x5<x4) then bif decide (0≤x5)&&decide (x5<(↑x0.length:Int)) then (f294 ((↑(x0.getD x5.toNat 0).toNat:Int),())).bind fun v=>bif !v.2.1 then some (Sum.inr (Sum.inr (Sum.inl ()))) else bif decide (x3>2147483647) then some (Sum.inr (Sum.inr (Sum.inl ()))) else bif decide (IntKind.i64.wrap (x2+IntKind.i64.wrap (v.1*x3))>2147483647) then some (Sum.inr (Sum.inr (Sum.inl ()))) else (f290 (IntKind.i64.wrap (36*IntKind.i64.wrap (x5+1)),x1,())).bind fun v1=>bif decide (v.1<v1.1) then bif decide (0≤IntKind.i64.wrap (x5+1))&&decide (IntKind.i64.wrap (x5+1)≤(↑x0.length:Int)) then some (Sum.inr (Sum.inr (Sum.inr (IntKind.i64.wrap (x2+IntKind.i64.wrap (v.1*x3)),List.drop (IntKind.i64.wrap (x5+1)).toNat x0,())))) else none else some (Sum.inl (x0,x1,IntKind.i64.wrap (x2+IntKind.i64.wrap (v.1*x3)),IntKind.i64.wrap (x3*IntKind.i64.wrap (36-v1.1)),x4,IntKind.i64.wrap (x5+1),())) else none else some (Sum.inr (Sum.inl ()))
def j6y:j1p:=qb (j7z q3o j4a) je
theorem w4d:jf 0 (qd (code Tryz.f271) [1,0,1,0,1,0,0]) (x2c j6y):=zl2 w8u g2h k7c j7z q3o j4a y8l
def q9z (f290:j1r) (f294:z8t):ye (Unit) (Int×qa×Unit):=fun (_)=>some (Sum.inr (-1,[],()))
theorem w1d (f290:j1r) (f294:z8t) (v:HS z4f):aev Γ (k7c f290 f294) 0 ((findLabel (qd (code Tryz.f271) [1,0]) 0).getD .skip) .nil (k2h z4f v) (q0y 0 0 [] z4f x4r)=q9z f290 f294 v:=by kernel_rfl
def j6x:j1o:=qb (q9z q3o j4a) je
theorem w4c:za Tryz.prog 0 (jy Tryz.prog (qd (code Tryz.f271) [1,0]) 0) (x2b j6x) :=
 ym (ins:=z4f) (os:=x4r) (C:=j6x) (q7z (ins:=z4f) (os:=x4r) (n := .nil) (ls:=[]) (F:=q9z q3o j4a) (rest:=((findLabel (qd (code Tryz.f271) [1,0]) 0).getD .skip)) hm hΓ y8l (fun _=>je) (by kernel_rfl) (jt _) j2r (w1d q3o j4a)) rfl
def d5j (f271_g0:j1o) (f271_l0:j1p):Ann:=(.seq .nil (.scope (.seq .nil (.seq (.seq .nil (.blk (.loop (x2c f271_l0)))) .nil)) [(0,(x2b f271_g0))]))
def k5l (f290:j1r) (f294:z8t) (f271_g0:j1o) (f271_l0:j1p):z3j:=fun (x0,x1,_)=>(f271_l0 (x0,x1,0,1,(↑x0.length:Int),0,())).bind fun v=>Sum.elim (fun v=>some (-1,[],())) (fun v=>Sum.elim (fun v=>(f271_g0 ()).bind fun v=>some (v.1,v.2.1,())) (fun v=>some (v.1,v.2.1,())) v) v
theorem m0m (f290:j1r) (f294:z8t) (f271_g0:j1o) (f271_l0:j1p):yd (k7c f290 f294) 0 Tryz.f271 (d5j f271_g0 f271_l0) x3v g2g (k5l f290 f294 f271_g0 f271_l0):=fun v=>by kernel_rfl
def j6d:z3j:=k5l q3o j4a j6x j6y
theorem b8r:FO 271 (f9s j6d) :=
 qo y8l Tryz.func271 (And.intro w4d (And.intro w4c trivial)) (m0m q3o j4a j6x j6y)
abbrev j1e:=qa×Int×Int×Int×Bool×List (Int)×Unit→Option ((List (Int)×Unit)⊕(Bool×Unit))
def x1l (f:j1e):LEnt:=⟨w8v,g2j,f⟩
abbrev q6h:=qa×List (Int)×Unit→Option (Bool×List (Int)×Unit)
def x1k (f:q6h):LEnt:=⟨w8w,g2k,f⟩
abbrev x9j:=qa×Unit→Option (List (Int)×Bool×Unit)
def f8n (f:x9j):FEnt:=⟨kf,g2i,f⟩
def k6z (f155:wx) (f21:T21) (f252:q1j) (f270:z3i) (f271:z3j) (f272:z8q):=lk [(155,k3c f155),(21,E21 f21),(252,g7p f252),(270,f9r f270),(271,f9s f271),(272,g7r f272)]
theorem y8i:zd Tryz.prog (k6z xp C21 q0q j6c j6d j3z):=(kc k0z (kc f4v (kc g6d (kc b8q (kc b8r (kc b8s kn))))))
def j7r (f155:wx) (f21:T21) (f252:q1j) (f270:z3i) (f271:z3j) (f272:z8q):ye (qa×Int×Int×Int×Bool×List (Int)×Unit) ((List (Int)×Unit)⊕(Bool×Unit)):=fun (x0,x1,x2,x3,x4,x5,_)=>bif !x0==[] then (f271 (x0,x3,())).bind fun v=>bif decide (v.1<0) then some (Sum.inr (Sum.inr (false,()))) else bif decide (IntKind.i64.wrap (x2+v.1)>2147483647) then some (Sum.inr (Sum.inr (false,()))) else (f252 (v.1,IntKind.i64.wrap ((↑x5.length:Int)+1),x4,())).bind fun v1=>bif IntKind.i64.wrap ((↑x5.length:Int)+1) != 0 then bif decide (IntKind.i64.wrap (x1+IntKind.i64.wrap ((IntKind.i64.wrap (x2+v.1)).tdiv (IntKind.i64.wrap ((↑x5.length:Int)+1))))>1114111) then some (Sum.inr (Sum.inr (false,()))) else (f155 (IntKind.i32.wrap (IntKind.i64.wrap (x1+IntKind.i64.wrap ((IntKind.i64.wrap (x2+v.1)).tdiv (IntKind.i64.wrap ((↑x5.length:Int)+1))))),())).bind fun v2=>bif !v2.1 then some (Sum.inr (Sum.inr (false,()))) else bif IntKind.i64.wrap ((↑x5.length:Int)+1) != 0 then (f272 ((IntKind.i64.wrap (x2+v.1)).tmod (IntKind.i64.wrap ((↑x5.length:Int)+1)),x5,[IntKind.i32.wrap (IntKind.i64.wrap (x1+IntKind.i64.wrap ((IntKind.i64.wrap (x2+v.1)).tdiv (IntKind.i64.wrap ((↑x5.length:Int)+1)))))],())).bind fun v3=>some (Sum.inl (v.2.1,IntKind.i64.wrap (x1+IntKind.i64.wrap ((IntKind.i64.wrap (x2+v.1)).tdiv (IntKind.i64.wrap ((↑x5.length:Int)+1)))),IntKind.i64.wrap ((IntKind.i64.wrap (x2+v.1)).tmod (IntKind.i64.wrap ((↑x5.length:Int)+1))+1),v1.1,false,v3.1,())) else none else none else some (Sum.inr (Sum.inl (x5,())))
theorem w0w (f155:wx) (f21:T21) (f252:q1j) (f270:z3i) (f271:z3j) (f272:z8q):AqL (k6z f155 f21 f252 f270 f271 f272) 0 (qd (code Tryz.f226) [1,1,1,1,1,0,1,0,0]) .nil w8v g2j (j7r f155 f21 f252 f270 f271 f272):=fun v=>by kernel_rfl
def j6u:j1e:=qb (j7r xp C21 q0q j6c j6d j3z) je
theorem w3m:jf 0 (qd (code Tryz.f226) [1,1,1,1,1,0,1,0,0]) (x1l j6u) :=
 frl y8i (w0w xp C21 q0q j6c j6d j3z)
def k8j (f226_l0:j1e):Ann:=(.seq .nil (.seq (.seq .nil (.blk (.loop (x1l f226_l0)))) .nil))
def j7q (f155:wx) (f21:T21) (f252:q1j) (f270:z3i) (f271:z3j) (f272:z8q) (f226_l0:j1e):q6h:=fun (x0,x1,_)=>(f226_l0 (x0,128,0,72,true,x1,())).bind fun v=>Sum.elim (fun v=>some (true,v.1,())) (fun v=>some (v.1,[],())) v
theorem w0v (f155:wx) (f21:T21) (f252:q1j) (f270:z3i) (f271:z3j) (f272:z8q) (f226_l0:j1e):AqC (k6z f155 f21 f252 f270 f271 f272) 0 (qd (code Tryz.f226) [1,1,1,1]) (k8j f226_l0) w8w g2k (j7q f155 f21 f252 f270 f271 f272 f226_l0):=fun v=>by kernel_rfl
def q2i:q6h:=j7q xp C21 q0q j6c j6d j3z j6u
theorem w3l:zo 0 (qd (code Tryz.f226) [1,1,1,1]) (x1k q2i) :=
 frd y8i (And.intro w3m trivial) (w0v xp C21 q0q j6c j6d j3z j6u)
def d4w (f226_c0:q6h):Ann:=(.seq .nil (.seq .nil (.seq .nil (.cut .nil (x1k f226_c0)))))
def k4u (f155:wx) (f21:T21) (f252:q1j) (f270:z3i) (f271:z3j) (f272:z8q) (f226_c0:q6h):x9j:=fun (x0,_)=>(f21 (x0,())).bind fun v=>bif decide (v.1≥0) then some ([],false,()) else (f270 (x0,45,())).bind fun v=>bif decide (v.1>0) then bif decide (0≤v.1)&&decide (v.1≤(↑x0.length:Int)) then bif decide ((List.take (Int.toNat v.1) x0).length≤70368744177664)&&(List.take (Int.toNat v.1) x0).all fun b=>decide (b.toNat<128) then bif decide (0≤IntKind.i64.wrap (v.1+1))&&decide (IntKind.i64.wrap (v.1+1)≤(↑x0.length:Int)) then (f226_c0 (List.drop (IntKind.i64.wrap (v.1+1)).toNat x0,List.map (fun b=>(↑b.toNat:Int)) (List.take (Int.toNat v.1) x0),())).bind fun v=>some (v.2.1,v.1,()) else none else none else none else (f226_c0 (x0,[],())).bind fun v=>some (v.2.1,v.1,())
theorem d9v (f155:wx) (f21:T21) (f252:q1j) (f270:z3i) (f271:z3j) (f272:z8q) (f226_c0:q6h):yd (k6z f155 f21 f252 f270 f271 f272) 0 Tryz.f226 (d4w f226_c0) kf g2i (k4u f155 f21 f252 f270 f271 f272 f226_c0):=fun v=>by kernel_rfl
def y5s:x9j:=k4u xp C21 q0q j6c j6d j3z q2i
theorem b7m:FO 226 (f8n y5s) :=
 qo y8i Tryz.func226 (And.intro w3l trivial) (d9v xp C21 q0q j6c j6d j3z q2i)
abbrev y6y:=qu×qw×qx×qa×Unit→Option (qa×qa×Int×Unit)
def g7g (f:y6y):FEnt:=⟨q1h,g9u,f⟩
def d2a (f132:x8x) (f151:y6x) (f178:j6i) (f21:T21) (f223:z8m) (f224:x9h) (f225:x9i) (f226:x9j) (f83:T83):=lk [(132,f7i f132),(151,f7q f151),(178,k3f f178),(21,E21 f21),(223,g7l f223),(224,f8l f224),(225,f8m f225),(226,f8n f226),(83,E83 f83)]
def k4k (f132:x8x) (f151:y6x) (f178:j6i) (f21:T21) (f223:z8m) (f224:x9h) (f225:x9i) (f226:x9j) (f83:T83):y6y:=fun (x0,x1,x2,x3,_)=>(f151 (x0,x1,x2,x3,())).bind fun v=>(f132 (v.1,[120,110,45,45],())).bind fun v1=>bif !v.2.1 then some ([],[],7,()) else (f21 (v.1,())).bind fun v2=>bif decide (v2.1≥0) then (f83 (v.1,())).bind fun v3=>(f223 (v3.1,())).bind fun v4=>bif decide ([120,110,45,45].length+List.length v4.1≤9223372036854775807) then (f224 (x0,x1,x2,v.1,())).bind fun v5=>some ([120,110,45,45]++v4.1,v.1,v5.1,()) else none else bif !v1.2.1 then (f225 (v.1,())).bind fun v3=>some (v.1,v.1,v3.1,()) else (f226 (v1.1,())).bind fun v3=>bif !v3.2.1 then some ([],[],12,()) else bif decide ((↑(List.length v.1):Int)>63) then some ([],[],5,()) else (f178 (v3.1,())).bind fun v4=>(f224 (x0,x1,x2,v4.1,())).bind fun v5=>bif v5.1 != 0 then some ([],[],v5.1,()) else (f223 (v3.1,())).bind fun v6=>bif !v6.1==v1.1 then some ([],[],12,()) else some (v.1,v4.1,0,())
theorem d9q (f132:x8x) (f151:y6x) (f178:j6i) (f21:T21) (f223:z8m) (f224:x9h) (f225:x9i) (f226:x9j) (f83:T83):yd (d2a f132 f151 f178 f21 f223 f224 f225 f226 f83) 0 Tryz.f192 .nil q1h g9u (k4k f132 f151 f178 f21 f223 f224 f225 f226 f83):=fun v=>by kernel_rfl
def z6c:y6y:=k4k y5m j9n z6a C21 x7k z6k y1g y5s C83
theorem g5v:FO 192 (g7g z6c) :=
 q0 (kc b6f (kc g5q (kc k1c (kc f4v (kc g5z (kc b7k (kc b7l (kc b7m (kc y8s kn))))))))) Tryz.func192 (d9q y5m j9n z6a C21 x7k z6k y1g y5s C83)
abbrev k8t:=qu×qw×qx×qa×Unit→Option (qa×Int×Unit)
def d1a (f:k8t):FEnt:=⟨q1h,z0k,f⟩
def d1o (f192:y6y):=lk [(192,g7g f192)]
def k4b (f192:y6y):k8t:=fun (x0,x1,x2,x3,_)=>(f192 (x0,x1,x2,x3,())).bind fun v=>bif v.2.2.1 != 0 then some ([],v.2.2.1,()) else some (v.1,0,())
def z5z:k8t:=k4b z6c
theorem b6p:FO 159 (d1a z5z):=kl q1h z0k d1o k4b z6c (kc g5v kn) Tryz.func159
abbrev f0k:=qu×qw×qx×qa×Unit→Option (qa×Int×Unit)
def d1b (f:f0k):FEnt:=⟨q1h,z0k,f⟩
def d1p (f192:y6y):=lk [(192,g7g f192)]
def g7x (f192:y6y):f0k:=fun (x0,x1,x2,x3,_)=>(f192 (x0,x1,x2,x3,())).bind fun v=>bif v.2.2.1 != 0 then some ([],v.2.2.1,()) else some (v.2.1,0,())
def y5o:f0k:=g7x z6c
theorem b6q:FO 160 (d1b y5o):=kl q1h z0k d1p g7x z6c (kc g5v kn) Tryz.func160
abbrev y2c:=qa×Int×Unit→Option (Int×Unit)
def g7d (f:y2c):FEnt:=⟨z3d,jh,f⟩
def d1q (f196:f0l):=lk [(196,f8e f196)]
def k4d (f196:f0l):y2c:=fun (x0,x1,_)=>(f196 (x0,x1,())).bind fun v=>some (v.1,())
def j6a:y2c:=k4d g6s
theorem g5s:FO 162 (g7d j6a):=kl z3d jh d1q k4d g6s (kc b7d kn) Tryz.func162
abbrev j1a:=qa×qa×Int×Bool×Unit→Option (Int×Unit)
def x1e (f:j1a):LEnt:=⟨w8x,g2l,f⟩
abbrev y6z:=qa×qa×Unit→Option (Int×Unit)
def g7i (f:y6z):FEnt:=⟨yh,jh,f⟩
def g8y (f162:y2c):=lk [(162,g7d f162)]
theorem v9e:zd Tryz.prog (g8y j6a):=(kc g5s kn)
def j7n (f162:y2c):j1a:=fun (x0,x1,x2,x3,_)=>bif x3 then some (0,()) else bif x2==1 then bif decide (0<(↑x1.length:Int)) then (f162 (x0,(↑(x1.getD 0 0).toNat:Int),())).bind fun v=>some (v.1,()) else none else bif decide (x2≥(↑x0.length:Int)) then some (-1,()) else none
def q4x:j1a:=j7n j6a
theorem w3f:zo 0 (qd (code Tryz.f197) [1,1,0,0,1]) (x1e q4x):=zc1 w8x g2l g8y j7n j6a v9e
def d4t (f197_c0:j1a):Ann:=(.seq .nil (.seq .nil (.seq (.blk (.cut .nil (x1e f197_c0))) .nil)))
def v4y (f162:y2c) (f197_c0:j1a):y6z:=fun (x0,x1,_)=>bif (↑x1.length:Int)==0 then (f197_c0 (x0,x1,(↑x1.length:Int),true,())).bind fun v=>some (v.1,()) else (f197_c0 (x0,x1,(↑x1.length:Int),x1==x0,())).bind fun v=>some (v.1,())
def z6h:y6z:=v4y j6a q4x
theorem g5x:FO 197 (g7i z6h):=xi yh jh g8y d4t v4y j6a q4x v9e Tryz.func197 (And.intro w3f trivial)
abbrev v5m:=qa×qa×Unit→Option (qa×qa×Bool×Unit)
def f7u (f:v5m):FEnt:=⟨yh,x4s,f⟩
def d1r (f197:y6z):=lk [(197,g7i f197)]
def k4e (f197:y6z):v5m:=fun (x0,x1,_)=>(f197 (x0,x1,())).bind fun v=>bif decide (v.1≥0) then bif decide (0≤v.1)&&decide (v.1≤(↑x0.length:Int)) then bif decide (0≤IntKind.i64.wrap (v.1+(↑x1.length:Int)))&&decide (IntKind.i64.wrap (v.1+(↑x1.length:Int))≤(↑x0.length:Int)) then some (List.take (Int.toNat v.1) x0,List.drop (IntKind.i64.wrap (v.1+(↑x1.length:Int))).toNat x0,true,()) else none else none else some (x0,[],false,())
def v2k:v5m:=k4e z6h
theorem b6s:FO 163 (f7u v2k):=kl yh x4s d1r k4e z6h (kc g5x kn) Tryz.func163
abbrev f0j:=qa×qa×Unit→Option (qa×qa×Bool×Unit)
def d0z (f:f0j):FEnt:=⟨yh,x4s,f⟩
def d1i (f163:v5m):=lk [(163,f7u f163)]
def k3p (f163:v5m):f0j:=fun (x0,x1,_)=>(f163 (x0,x1,())).bind fun v=>some (v.1,v.2.1,v.2.2.1,())
def y0y:f0j:=k3p v2k
theorem b6e:FO 129 (d0z y0y):=kl yh x4s d1i k3p v2k (kc b6s kn) Tryz.func129
end Go.Proofs.YtiacnhhmkdkpmaaGreatDoorA.W
namespace Go.Proofs.YtiacnhhmkdkpmaaGreatDoorA.W
open Go Go.Ae Go.RowKit
attribute [local go_sem] Oper.semAt_some
theorem v7d {s sep l r:List UInt8} {ok:Bool} (h:y0y (s,sep,())=some (l,r,ok,())) {w:World} (hg:GI w m0) :
 Calls Tryz.prog 129 #[.string ⟨⟨s⟩⟩,.string ⟨⟨sep⟩⟩] w fun e w'=>e = .returned (.tuple #[.string ⟨⟨l⟩⟩,.string ⟨⟨r⟩⟩,.bool ok])∧Below w.heap.size w w':=by
 refine (zj.call0 (v:=(s,sep,())) (y:=(l,r,ok,())) b6e Tryz.func129 (by kernel_rfl) (by kernel_rfl) hg (fun _ h=>h.elim) rfl ⟨_,_,rfl,rfl,_,_,rfl,rfl,rfl⟩ rfl h ?_).mono fun e w' ⟨rv,h1,h2,ax,l',u,h3,h4⟩ => ?_
 · intro ax l' u h3
   cases jo h3;rfl
 · cases jo h3
   obtain ⟨v,r',e1,⟨a,e2,e3⟩,e4⟩:=h4;have e4':r'=[]:=e4;subst e4';cases e1;subst h1 e2;refine ⟨?_,h2⟩;obtain ⟨v1,q1,f1,rfl,v2,q2,f2,rfl,v3,q3,f3,rfl,f4⟩:=e3;have f4':q3=[]:=f4;subst f4' f3 f2;cases a;cases f1;rfl
def ku:Nat→List UInt8→Option (List (List UInt8))
 | 0,_=>none
 | n+1,s=>(y0y (s,[46],())).bind fun a=>bif a.2.2.1 then (ku n a.2.1).map (a.1 :: ·) else some [a.1]
theorem z9i {W W':World} {b:Nat} {t:TypeId} {v:Value} (h:Boxed W b t v) (hk:W'.heap[b]? = W.heap[b]?):Boxed W' b t v:=hk.trans h
set_option maxHeartbeats 4000000 in
theorem v1x (n:Nat) (hn:1≤n) (Bs:Nat) (s:List UInt8) (xs:List (List UInt8)) (N:Nat) (hxs:ku N s=some xs) (w:World) (hb:Boxed w Bs 9 (.string ⟨⟨s⟩⟩)) (hg:GI w m0) (hnb:∀b∈q3w,b≠Bs) :
 x8o Fence.wide n Tryz.prog 222 #[.pointer (some ⟨Bs,0,none⟩)] (fun x:List UInt8 => #[.string ⟨⟨x⟩⟩]) (fun b=>b=Bs∨b∈q3w) Bs xs w:=by
 intro l J Jx W hW hJ hJx hY h0;have hb':Boxed W Bs 9 (.string ⟨⟨s⟩⟩):=(hW.block Bs hb.lt).trans hb;have hg':GI W m0:=zi hg hW;refine callsIn_of_wp Tryz.func222 rfl trivial ?_ rfl;simp only [Tryz.ntmps222,List.size_toArray,List.length_cons,List.length_nil,Nat.reduceAdd,Nat.reduceSub,Array.replicate_succ,Array.replicate_zero,List.push_toArray,List.append_toArray,List.nil_append,List.cons_append]
 gi_wp2
 gi_loopg [] N (fun k wr=>∃(pre t:List (List UInt8)) (rest:List UInt8),xs=pre++t∧ku k rest=some t∧J pre wr∧Boxed wr Bs 9 (.string ⟨⟨rest⟩⟩)∧GI wr m0)
 case atStart=>exact ⟨[],xs,s,rfl,hxs,h0,hb',hg'⟩
 case round =>
  rename_i JJ KK hJJ hKK;obtain ⟨pre,t,rest,hx,hp,hJs,hbx,hgr⟩:=hrel;cases gk with
  | zero=>cases hp
  | succ k =>
   simp only [ku] at hp;obtain ⟨⟨lf,rt,ok,u⟩,hc,hp2⟩:=Option.bind_eq_some_iff.1 hp;simp only at hp2;have hcell:=hbx.cell;have hpre:pre++[lf] <+: xs:=by
    rw [hx];cases ok with
    | true =>
     obtain ⟨t',h1,rfl⟩:=Option.map_eq_some_iff.1 hp2;exact ⟨t',by simp⟩
    | false =>
     have:t=[lf]:=(Option.some.inj hp2).symm;exact ⟨[],by simp [this]⟩
   gi_wp2_with (refine ⟨trivial,?_⟩;gi_at_call 129;refine (callsIn_wide.2 (v7d hc hgr)).mono ?_;rintro e w' ⟨rfl,hbel⟩;obtain ⟨fn,tmps,assign,body,hy,hR⟩:=hY pre lf w' hpre (hJ _ _ _ hJs (Oth.of_below hbel)))
   refine hR.mono ?_;rintro e W3 (⟨rfl,hJ3,hs3,hk3⟩|⟨rfl,hJx3⟩)
   · have hbx3:Boxed W3 Bs 9 (.string ⟨⟨rest⟩⟩):=(hk3 Bs (.inl rfl)).trans ((hbel.block Bs hbx.lt).trans hbx)
     have hg3:GI W3 m0:=z9s (zi hgr hbel) hs3 fun b hb=>hk3 b (.inr hb);have hc3:=hbx3.cell;have hf3:=hbx3.frozen;cases ok with
     | true =>
      obtain ⟨t',h1,rfl⟩:=Option.map_eq_some_iff.1 hp2
      gi_wp2
      gi_roundg k
      case rel=>exact ⟨pre++[lf],t',rt,by simp [hx],h1,hJ _ _ _ hJ3 (Oth.set Bs 0 W3 _),Boxed.set _ hbx3,z9s hg3 (by simp) fun b hb=>Below.heap_setCell _ _ _ _ (hnb b hb)⟩
      case measure=>omega
     | false =>
      have ht:t=[lf]:=(Option.some.inj hp2).symm;subst ht
      gi_wp2
      refine bodyPost_ret (results_none rfl _ _ _) rfl ?_;exact ⟨⟨_,rfl⟩,.inl (hx▸hJ3)⟩
   · gi_wp2
     refine bodyPost_ret (results_none rfl _ _ _) rfl ?_;exact ⟨⟨_,rfl⟩,.inr ⟨_,hpre,hJx3⟩⟩
def encS (x:List UInt8):Value := .string ⟨⟨x⟩⟩
theorem q1f {N Bs base:Nat} {A B:World} {e:TypeId} {size k:Nat} {v:Value} {xs:List Value} (hBs:Bs<base) (h:A.ownsRow base e size v k xs) (ho:OthR N Bs A B):B.ownsRow base e size v k xs:=by
 refine ⟨h.1,?_⟩;rcases h.2 with h|⟨g,cap,cur,e1,h2,h3,h4⟩
 · exact .inl h
 · exact .inr ⟨g,cap,cur,e1,h2,ho.keep g _ h3 (by omega) (.inr rfl),h4⟩
theorem k1r {N Bs:Nat} {W0 A B:World} (hN:W0.heap.size≤N) (h:Oth Bs W0 A) (ho:OthR N Bs A B):Oth Bs W0 B :=
 ⟨ho.os.trans h.os,ho.tape.trans h.tape,ho.output.trans h.output,Nat.le_trans h.size ho.size,fun b hb hne=>by
  have h1:=h.keep b hb hne;obtain ⟨o,h2⟩:∃o,W0.heap[b]? = some o:=⟨_,Array.getElem?_eq_getElem hb⟩
  rw [h2] at h1 ⊢;exact ho.keep b o h1 hne (.inl (by omega))⟩
theorem y3o:(Tryz.prog.info? 9).map (fun i=>(i.zero,i.size,i.bytes))=some (some (.string ⟨#[]⟩),1,16):=by kernel_rfl
set_option maxHeartbeats 4000000 in
theorem y3l (gf:Nat) (hgf:∀args w,(callFunc gf args).run Tryz.prog w = .ok (.enter gf args) w) (Bs:Nat) (xs:List (List UInt8)) (w:World) (hBs:Bs<w.heap.size) (hg:GI w m0) (hlen:xs.length≤1000000000000)
 (hseq:∀W,Below w.heap.size w W→x8o Fence.wide 2 Tryz.prog gf #[.pointer (some ⟨Bs,0,none⟩)] (fun x:List UInt8 => #[Value.string ⟨⟨x⟩⟩]) (fun b=>b=Bs∨b∈q3w) Bs xs W) :
 CallsIn Fence.wide 3 Tryz.prog 221 #[.slice none 0 0,.func (.func gf) #[] #[.pointer (some ⟨Bs,0,none⟩)]] w fun e W' =>
  ∃v,e = .returned v∧W'.ownsRow w.heap.size 9 1 v xs.length (xs.map encS)∧Oth Bs w W':=by
 obtain ⟨i0,hi,hz0,hz1,hz2⟩:=info_parts y3o;refine callsIn_of_wp_marks Tryz.func221 rfl trivial ?_ rfl;simp only [Tryz.ntmps221,List.size_toArray,List.length_cons,List.length_nil,Nat.reduceAdd,Nat.reduceSub,Array.replicate_succ,Array.replicate_zero,List.push_toArray,List.append_toArray,List.nil_append,List.cons_append]
 gi_wp2
 have hB0:Below w.heap.size w (w.alloc (.cells #[.slice none 0 0] 89)):=(Below.refl _ w).alloc (Nat.le_refl _) _;refine xe (F:=Fence.wide) rfl (by omega) (gf:=gf) (lb := #[.pointer (some ⟨Bs,0,none⟩)]) rfl trivial hgf (hseq _ hB0)
  (by rintro b (rfl|hb);· (rw [World.size_alloc];omega)
      · (have:=(hg.b b hb).1;rw [World.size_alloc];omega)) (by rw [World.size_alloc];omega) (fun _=>rfl)
  (fun pre W=>(∃v,Boxed W w.heap.size 89 v∧W.ownsRow w.heap.size 9 1 v pre.length (pre.map encS))∧Oth Bs w W)
  (fun _ _ _=>False)
  (fun s A B hs ho=>by
   obtain ⟨⟨v,h1,h2⟩,h3⟩:=hs;exact ⟨⟨v,vg h1 (by omega) ho,q1f hBs h2 ho⟩,k1r (by rw [World.size_alloc];omega) h3 ho⟩)
  (fun _ _ _ _ hs _=>hs)
  ⟨⟨_,Boxed.new _ _ _,World.ownsRow_nil _ _ _ _⟩,Oth.of_below hB0⟩
  (fun x=>{ tmps := #[.slice none 0 0,.func (.func gf) #[] #[.pointer (some ⟨Bs,0,none⟩)],.pointer (some ⟨w.heap.size,0,none⟩),undef,.slice none 0 0,.string ⟨⟨x⟩⟩,.func (.func gf) #[] #[.pointer (some ⟨Bs,0,none⟩)],.string ⟨⟨x⟩⟩,undef,undef,undef,undef,undef],defers:=[] }) ?assign ?body ?done ?stop
 case assign =>
  intro l x W K hK
  gi_wp2
  exact hK
 case body =>
  rintro l pre x W hsz hpre ⟨⟨v,hv,hrow⟩,hoth⟩;have hc:=hv.cell;have hpl:pre.length<xs.length:=by have:=hpre.length_le;simp at this;omega
  have hsz2:=hoth.size
  gi_wp2_with (gi_at_builtin;refine wpListIn_append_own _ rfl _ _ 89 rfl w.heap.size 9 i0 (.string ⟨#[]⟩) 1 16 Tryz.underlying89 hi hz0 hz1 hz2 rfl (by decide) _ _ _ rfl (hrow.alloc _) ⟨W.heap.size,0,none⟩ 1 1 [.string ⟨⟨x⟩⟩] rfl rfl (cell_one_new _ _ _) (by simp [Value.oneCell']) (by simp only [maxLen];omega) (by omega) (by simp;omega) ?_;intro v' w1 hown' hgrow _;obtain ⟨g',cap',rfl⟩:=ownsRow_succ hown';obtain ⟨hv1,hv2,hr2,hk2,hb2⟩:=hv.appended (by decide) hrow hsz2 (Nat.le_refl _) hown' hgrow;have hc1:=hv1.cell;have hf1:=hv1.frozen)
  exact ⟨hk2.from _,fun b hb=>hb2.block b (by
   rcases hb with rfl|hb
   · exact hBs
   · exact (hg.b b hb).1),⟨_,hv2,by simpa [encS] using hr2⟩,hb2.os.trans hoth.os,hb2.tape.trans hoth.tape,hb2.output.trans hoth.output,Nat.le_trans hoth.size hb2.size,fun b hb hne=>(hb2.block b hb).trans (hoth.keep b hb hne)⟩
 case done =>
  rintro D W hD ⟨⟨v,hv,hrow⟩,hoth⟩ hK;have hc:=hv.cell
  gi_wp2
  refine ⟨by simp,.inl ⟨_,_,rfl,run_takeDeferred hK,?_⟩⟩;have hD':w.heap.size+1≤D:=by rw [World.size_alloc] at hD;exact hD
  exact ⟨_,results_tmp rfl _ _ _,v,rfl,ownsRow_putObj hrow _ hK rfl,hoth.os,hoth.tape,hoth.output,by simpa [World.putObj] using hoth.size,fun b hb hne=>(World.putObj_heap_other (by omega)).trans (hoth.keep b hb hne)⟩
 case stop =>
  rintro D c pre W _ _ h _;exact h.elim
set_option maxHeartbeats 4000000 in
theorem y4x (s:List UInt8) (w:World):Calls Tryz.prog 190 #[.string ⟨⟨s⟩⟩] w fun e w'=>e = .returned (.func (.func 222) #[] #[.pointer (some ⟨w.heap.size,0,none⟩)])∧w'=w.alloc (.cells #[.string ⟨⟨s⟩⟩] 9):=by
 go_enter Tryz.func190,Tryz.ntmps190
 go_wp2
 go_returns
 exact ⟨rfl,rfl⟩
theorem z9n (gf Bs:Nat) (hgf:∀args w,(callFunc gf args).run Tryz.prog w = .ok (.enter gf args) w) (xs:List (List UInt8)) (w:World) (hBs:Bs<w.heap.size) (hg:GI w m0) (hlen:xs.length≤1000000000000)
 (hseq:∀W,Below w.heap.size w W→x8o Fence.wide 2 Tryz.prog gf #[.pointer (some ⟨Bs,0,none⟩)] (fun x:List UInt8 => #[Value.string ⟨⟨x⟩⟩]) (fun b=>b=Bs∨b∈q3w) Bs xs W) :
 Calls Tryz.prog 189 #[.func (.func gf) #[] #[.pointer (some ⟨Bs,0,none⟩)]] w fun e W' =>
  ∃v,e = .returned v∧W'.ownsRow w.heap.size 9 1 v xs.length (xs.map encS)∧Oth Bs w W':=by
 go_enter Tryz.func189,Tryz.ntmps189
 go_wp2_with (go_at_call 221;refine (callsIn_wide.1 (y3l gf hgf Bs xs w hBs hg hlen hseq)).mono ?_;rintro e W' ⟨v,rfl,h1,h2⟩)
 go_returns
 exact ⟨v,rfl,h1,h2⟩
def q1d (f:List UInt8) (ok:Bool):Option (List (List UInt8)×Int) :=
 bif !ok then some ([],7) else bif f.isEmpty then some ([],13) else
 bif decide (f.length≤1000000000) then
  (ku (f.length+2) (Lib.replaceAll f [227,128,130] [46])).bind fun ps=>bif decide (ps.length≤1000000000000) then (bif decide (32<ps.length) then some ([],2) else some (ps,0)) else none
 else none
theorem w5j {w:World} (hg:GI w m0):∃m,w.cell? ⟨2,0,none⟩=some (.int .i64 m):=by first|exact hg.i|exact hg.i.1
theorem y0r (f:List UInt8) (hf:f.length≤1000000000) (w:World) (hg:GI w m0) :
 Calls Tryz.prog 188 #[.string ⟨⟨f⟩⟩,.string ⟨#[227,128,130]⟩,.string ⟨#[46]⟩] w fun e w'=>e = .returned (.string ⟨⟨Lib.replaceAll f [227,128,130] [46]⟩⟩)∧Below w.heap.size w w':=by
 obtain ⟨m,hm⟩:=w5j hg;have hcnt:=Lib.count_le f [227,128,130];refine (Go.Proofs.Any.strings_ReplaceAll Tryz.lays155 Tryz.Builder_Extra_155 ⟨⟨f⟩⟩ ⟨#[227,128,130]⟩ ⟨#[46]⟩ m w ?_ hm ?_ ?_).mono ?_
 · show f.length<_
   omega
 · decide
 · show f.length+Lib.count f [227,128,130]*1≤_
   omega
 · rintro e w' ⟨h1,h2⟩
   exact ⟨h1,h2⟩
theorem v0r {Bs B:Nat} {A W W':World} (h:Below B A W) (hB:B≤W.heap.size) (hBs:B≤Bs) (ho:Oth Bs W W'):Below B A W' :=
 h.trans ⟨ho.os,ho.tape,ho.output,ho.size,fun k hk=>ho.keep k (by omega) (by omega)⟩
theorem q1y {W:World} {base:Nat} {e:TypeId} {v:Value} {n:Nat} {xs:List Value} (h:W.ownsRow base e 1 v n xs):∃a cap,v = .slice a n cap:=by
 rcases h.2 with ⟨h1,h2⟩|⟨g,cap,cur,h1,_⟩
 · subst h2;exact ⟨_,_,h1⟩
 · exact ⟨_,_,h1⟩
set_option maxHeartbeats 4000000 in
theorem y3x (v0 v1 v2 v3 v4:Value) (s f:List UInt8) (ok:Bool) (ls:List (List UInt8)) (c:Int) (w:World) (hg:GI w m0) (hC:q1d f ok=some (ls,c))
 (hfold:∀W,Below w.heap.size w W→Calls Tryz.prog 151 #[.agg #[v0,v1,v2,v3,v4],.string ⟨⟨s⟩⟩] W fun e W'=>e = .returned (.tuple #[.string ⟨⟨f⟩⟩,.bool ok])∧Below W.heap.size W W') :
 Calls Tryz.prog 157 #[.agg #[v0,v1,v2,v3,v4],.string ⟨⟨s⟩⟩] w fun e w'=>∃v,e = .returned (.tuple #[v,.int .i64 c])∧Below w.heap.size w w'∧w'.ownsRow w.heap.size 9 1 v ls.length (ls.map encS):=by
 have hW0:Below w.heap.size w (w.alloc (.cells #[v0,v1,v2,v3,v4] 39)):=(Below.refl _ w).alloc (Nat.le_refl _) _;have hF:=hfold _ hW0;clear hfold;cases ok with
 | false =>
  have hC':(([]:List (List UInt8)),(7:Int))=(ls,c):=Option.some.inj hC;cases hC'
  go_enter Tryz.func157,Tryz.ntmps157
  go_wp2_with (go_at_call 151;refine hF.mono ?_;rintro e w1 ⟨rfl,hb1⟩)
  go_returns
  exact ⟨_,rfl,hW0.trans (hb1.mono hW0.size),World.ownsRow_nil _ _ _ _⟩
 | true =>
  cases f with
  | nil =>
   have hC':(([]:List (List UInt8)),(13:Int))=(ls,c):=Option.some.inj hC;cases hC'
   go_enter Tryz.func157,Tryz.ntmps157
   go_wp2_with (go_at_call 151;refine hF.mono ?_;rintro e w1 ⟨rfl,hb1⟩)
   go_returns
   exact ⟨_,rfl,hW0.trans (hb1.mono hW0.size),World.ownsRow_nil _ _ _ _⟩
  | cons f0 f1 =>
   have hC1:(bif decide ((f0::f1).length≤1000000000) then
    (ku ((f0::f1).length+2) (Lib.replaceAll (f0::f1) [227,128,130] [46])).bind fun ps=>bif decide (ps.length≤1000000000000) then (bif decide (32<ps.length) then some (([]:List (List UInt8)),(2:Int)) else some (ps,0)) else none
    else none)=some (ls,c):=hC
   rcases ji hC1 with ⟨hlen,hC2⟩|⟨_,hC2⟩
   case inr=>cases hC2
   have hlen':=of_decide_eq_true hlen;obtain ⟨ps,hps,hC3⟩:=Option.bind_eq_some_iff.1 hC2;rcases ji hC3 with ⟨hl2,hC4⟩|⟨_,hC4⟩
   case inr=>cases hC4
   have hl2':=of_decide_eq_true hl2;have hcc:∀W:World,GI W m0→Calls Tryz.prog 189 #[.func (.func 222) #[] #[.pointer (some ⟨W.heap.size,0,none⟩)]] (W.alloc (.cells #[.string ⟨⟨Lib.replaceAll (f0::f1) [227,128,130] [46]⟩⟩] 9)) fun e W' =>
    ∃v,e = .returned v∧W'.ownsRow (W.alloc (.cells #[.string ⟨⟨Lib.replaceAll (f0::f1) [227,128,130] [46]⟩⟩] 9)).heap.size 9 1 v ps.length (ps.map encS)∧Oth W.heap.size (W.alloc (.cells #[.string ⟨⟨Lib.replaceAll (f0::f1) [227,128,130] [46]⟩⟩] 9)) W':=fun W hgW=>by
    have hbW:Below W.heap.size W (W.alloc (.cells #[.string ⟨⟨Lib.replaceAll (f0::f1) [227,128,130] [46]⟩⟩] 9)):=(Below.refl _ W).alloc (Nat.le_refl _) _;have hgW':=zi hgW hbW;refine z9n 222 W.heap.size (enters_of Tryz.func222 (by kernel_rfl) rfl) ps _ (by rw [World.size_alloc];omega) hgW' hl2' fun W2 hb2 => ?_;exact v1x 2 (by omega) W.heap.size _ ps _ hps W2 (z9i (Boxed.new _ _ _) (hb2.block _ (by rw [World.size_alloc];omega))) (zi hgW' hb2) fun b hb=>by have:=(hgW.b b hb).1;omega
   have hg1:=fun W hb=>y0r (f0::f1) hlen' W (zi hg hb);generalize Lib.replaceAll (f0::f1) [227,128,130] [46]=r at hps hcc hg1;have zg:∀{w1 w2 w4:World} {v:Value},Below (w.alloc (.cells #[v0,v1,v2,v3,v4] 39)).heap.size (w.alloc (.cells #[v0,v1,v2,v3,v4] 39)) w1→Below w1.heap.size w1 w2→w4.ownsRow (w2.alloc (.cells #[.string ⟨⟨r⟩⟩] 9)).heap.size 9 1 v ps.length (ps.map encS)→Oth w2.heap.size (w2.alloc (.cells #[.string ⟨⟨r⟩⟩] 9)) w4→Below w.heap.size w w4∧w4.ownsRow w.heap.size 9 1 v ps.length (ps.map encS):=by
    intro w1 w2 w4 v h1 h2 h3 h4;have b2:Below w.heap.size w w2:=(hW0.trans (h1.mono hW0.size)).trans (h2.mono (by have:=hW0.size;have:=h1.size;omega));have b3:Below w.heap.size w (w2.alloc (.cells #[.string ⟨⟨r⟩⟩] 9)):=b2.alloc b2.size _;refine ⟨v0r b3 b3.size b2.size h4,h3.1,?_⟩;rcases h3.2 with h|⟨g,cap,cur,e1,e2,e3⟩
    · exact .inl h
    · exact .inr ⟨g,cap,cur,e1,Nat.le_trans b3.size e2,e3⟩
   have Fin:Hid _ := @zg;clear zg;by_cases h32:32<ps.length
   · rw [decide_eq_true h32,cond_true] at hC4
     have hC':(([]:List (List UInt8)),(2:Int))=(ls,c):=Option.some.inj hC4;cases hC';clear hC hC1 hC2 hC3 hC4
     go_enter Tryz.func157,Tryz.ntmps157
     go_wp2_with (first
      | (go_at_call 151;refine hF.mono ?_;rintro e w1 ⟨rfl,hb1⟩)
      | (go_at_call 188;refine (hg1 _ (hW0.trans (hb1.mono hW0.size))).mono ?_;rintro e w2 ⟨rfl,hb2⟩)
      | (go_at_call 190;refine (y4x r _).mono ?_;rintro e w3 ⟨rfl,rfl⟩)
      | (go_at_call 189;have hgw2:GI w2 m0:=zi (zi (zi hg hW0) hb1) hb2;refine (hcc _ hgw2).mono ?_;rintro e w4 ⟨v,rfl,hrow,hoth⟩;obtain ⟨sa,sc,rfl⟩:=q1y hrow)
      | go_in)
     go_returns
     exact ⟨_,rfl,(Fin.out hb1 hb2 hrow hoth).1,World.ownsRow_nil _ _ _ _⟩
   · rw [decide_eq_false h32,cond_false] at hC4
     have hC':(ps,(0:Int))=(ls,c):=Option.some.inj hC4;cases hC';clear hC hC1 hC2 hC3 hC4
     go_enter Tryz.func157,Tryz.ntmps157
     go_wp2_with (first
      | (go_at_call 151;refine hF.mono ?_;rintro e w1 ⟨rfl,hb1⟩)
      | (go_at_call 188;refine (hg1 _ (hW0.trans (hb1.mono hW0.size))).mono ?_;rintro e w2 ⟨rfl,hb2⟩)
      | (go_at_call 190;refine (y4x r _).mono ?_;rintro e w3 ⟨rfl,rfl⟩)
      | (go_at_call 189;have hgw2:GI w2 m0:=zi (zi (zi hg hW0) hb1) hb2;refine (hcc _ hgw2).mono ?_;rintro e w4 ⟨v,rfl,hrow,hoth⟩;obtain ⟨sa,sc,rfl⟩:=q1y hrow)
      | go_in)
     go_returns
     exact ⟨_,rfl,(Fin.out hb1 hb2 hrow hoth).1,(Fin.out hb1 hb2 hrow hoth).2⟩
set_option maxHeartbeats 4000000 in
theorem y9q (n:Nat) (hn:1≤n) (Bs base:Nat) (v:Value) (xs:List (List UInt8)) (K:Nat→Prop) (w:World) (hb:Boxed w Bs 89 v) (hrow:w.ownsRow base 9 1 v xs.length (xs.map encS)) (hlen:xs.length≤1000000000000) (hKb:K Bs) (hKv:∀b,v.ownBlock=some b→K b) (Bd:Nat) :
 x8o Fence.wide n Tryz.prog 191 #[.pointer (some ⟨Bs,0,none⟩)] (fun x:List UInt8 => #[Value.string ⟨⟨x⟩⟩]) K Bd xs w:=by
 intro l J Jx W hW hJ hJx hY h0;have hb':Boxed W Bs 89 v:=(hW.block Bs hb.lt).trans hb;have hc:=hb'.cell;rcases hrow.2 with ⟨rfl,hn0⟩|⟨g,cap,cur,rfl,hg1,hg2,hg3,hg4,hg5,hg6⟩
 · have hx:xs=[]:=List.eq_nil_of_length_eq_zero hn0
   subst hx;refine callsIn_of_wp Tryz.func191 rfl trivial ?_ rfl;simp only [Tryz.ntmps191,List.size_toArray,List.length_cons,List.length_nil,Nat.reduceAdd,Nat.reduceSub,Array.replicate_succ,Array.replicate_zero,List.push_toArray,List.append_toArray,List.nil_append,List.cons_append]
   gi_wp2
   gi_loopw [7] (fun i wr=>i = .int .i64 0∧J [] wr) (fun _ _=>0)
   case atStart=>exact ⟨rfl,h0⟩
   case round =>
    obtain ⟨rfl,hJs⟩:=hrel
    gi_wp2
    go_end0
    exact ⟨⟨_,rfl⟩,.inl hJs⟩
 · have hKg:K g:=hKv g rfl
   have hgW:W.heap[g]? = some (.cells cur 9 (0,0)):=(hW.block g (lt_of_some hg2)).trans hg2;have hcur:∀(k:Nat) x,xs[k]? = some x→cur[k]? = some (.string ⟨⟨x⟩⟩):=fun k x hk=>by
    have hlt:k<xs.length:=(List.getElem?_eq_some_iff.1 hk).1;have h1:(cur.toList.take (xs.length*1))[k]? = some (encS x):=by rw [hg6,List.getElem?_map,hk];rfl
    rw [List.getElem?_take_of_lt (by omega),Array.getElem?_toList] at h1;exact h1
   refine callsIn_of_wp Tryz.func191 rfl trivial ?_ rfl;simp only [Tryz.ntmps191,List.size_toArray,List.length_cons,List.length_nil,Nat.reduceAdd,Nat.reduceSub,Array.replicate_succ,Array.replicate_zero,List.push_toArray,List.append_toArray,List.nil_append,List.cons_append];generalize hN:xs.length=N at *
   gi_wp2
   gi_loopw [7] (fun i wr=>∃k:Nat,i = .int .i64 k∧k≤N∧Hid (J (xs.take k) wr)∧Hid (wr.heap[g]? = some (.cells cur 9 (0,0)))) (fun i _=>N-(intOf i).toNat)
   case atStart=>exact ⟨0,rfl,Nat.zero_le _,h0,hgW⟩
   case round =>
    obtain ⟨k,rfl,hk,hJs,hgr⟩:=hrel;by_cases hlt:k<N
    · obtain ⟨x,hx⟩:∃x,xs[k]? = some x:=⟨_,List.getElem?_eq_getElem (by omega)⟩
      have htk:xs.take (k+1)=xs.take k++[x]:=by rw [List.take_add_one,hx];rfl
      have hpre:xs.take k++[x] <+: xs:=htk▸List.take_prefix _ _;have hcx:wr.cell? ⟨g,k,none⟩=some (.string ⟨⟨x⟩⟩):=by simp only [World.cell?,hgr.out];exact hcur k x hx
      obtain ⟨fn,tmps,assign,body,hy,hR⟩:=hY _ x wr hpre hJs.out;clear hcur
      gi_wp2
      refine hR.mono ?_;rintro e W3 (⟨rfl,hJ3,hs3,hk3⟩|⟨rfl,hJx3⟩)
      · have hg3:Hid (W3.heap[g]? = some (.cells cur 9 (0,0))):=(hk3 g hKg).trans hgr.out
        have hJ4:Hid (J (xs.take (k+1)) W3):=by rw [htk];exact hJ3
        gi_wp2
        go_roundw
        case rel=>exact ⟨k+1,by simp,by omega,hJ4,hg3⟩
        case measure=>simp [intOf];omega
      · gi_wp2
        refine bodyPost_ret (results_none rfl _ _ _) rfl ?_;exact ⟨⟨_,rfl⟩,.inr ⟨_,hpre,hJx3⟩⟩
    · obtain rfl:k=N:=by omega
      gi_wp2
      go_end0
      exact ⟨⟨_,rfl⟩,.inl (by have:=hJs.out;rwa [List.take_of_length_le (by omega)] at this)⟩
set_option maxHeartbeats 4000000 in
theorem v2d (a:Option Addr) (n cap:Nat) (w:World):Calls Tryz.prog 158 #[.slice a n cap] w fun e w'=>e = .returned (.func (.func 191) #[] #[.pointer (some ⟨w.heap.size,0,none⟩)])∧w'=w.alloc (.cells #[.slice a n cap] 89):=by
 go_enter Tryz.func158,Tryz.ntmps158
 go_wp2
 go_returns
 exact ⟨rfl,rfl⟩
def K0:qn:=fun f=>Ae.lookA f []
theorem m1b:zd Tryz.prog K0:=x5n _
noncomputable def k9d:Code:=match qd (code Tryz.f124) [1,1,1,1,0,1,0] with | .rangeFunc _ _ _ b=>b|c=>c
noncomputable def z5d:Array Oper:=match qd k9d [0,1,1,1] with | .region _ ops _=>ops|_ => #[]
def t11 (x y:List UInt8):List AV:=[.top,.top,.top,.top,.top,.top,.top,.top,.top,.ptr 2 0,.ptr 3 0,.top,.str x,.top,.str y]++List.replicate 45 .top
def o11 (ps qs:List (List UInt8)):ql:=[[.rowc 9 .str ps],[.rowc 9 .str qs],[.row 0],[.row 1]]
def w5r (ps qs:List (List UInt8)) (x y:List UInt8):ql:=[[],[],[.row 5],[.row 7],[.rowc 9 .str [x]],[.rowc 9 .str (ps++[x])],[.rowc 9 .str [y]],[.rowc 9 .str (qs++[y])]]
theorem r11 (ps qs:List (List UInt8)) (x y:List UInt8):q1a Γ K0 z5d ⟨t11 x y,o11 ps qs⟩ (fun s=>some s.o) =
 bif decide (ps.length+1≤140737488355328/16) then (bif decide (qs.length+1≤140737488355328/16) then some (w5r ps qs x y) else none) else none:=by kernel_rfl
theorem m1c:∀(i:Nat) o,z5d[i]? = some o→∀c,o.op ≠ .defer c:=by
 have h:(z5d.toList.all fun o=>match o.op with | .defer _=>false|_=>true)=true:=by kernel_rfl
 intro i o ho c hc;have:=List.all_eq_true.1 h o (Array.mem_toList_iff.2 (Array.mem_of_getElem? ho));rw [hc] at this;cases this
theorem x6t {w:World} {m:Md} {g:List Value}:∀(av:List AV) (vs:List Value),av.length=vs.length→(∀(i:Nat) v,vs[i]? = some v→qj w m g (av.getD i .top) v)→qf w m g av vs
 | [],[],_,_=>rfl
 | a::av,v::vs,hl,h=>⟨v,vs,rfl,h 0 v rfl,x6t av vs (by simpa using hl) fun i u hu=>h (i+1) u hu⟩
structure Two (base A9 A10:Nat) (W:World) (ps qs:List (List UInt8)):Prop where
 ex:∃va vu t9 t10,Boxed W A9 t9 va∧Boxed W A10 t10 vu∧W.ownsRow base 9 1 va ps.length (ps.map encS)∧W.ownsRow base 9 1 vu qs.length (qs.map encS) ∧
  (∀b,va.ownBlock=some b→b≠A9∧b≠A10∧vu.ownBlock≠some b)∧∀b,vu.ownBlock=some b→b≠A9∧b≠A10
def k8u (A9 A10:Nat) (va vu:Value) (b:Nat):Prop:=b=A9∨b=A10∨va.ownBlock=some b∨vu.ownBlock=some b
theorem y5a {w:World} {m:Md} {l:List (List UInt8)} {xs:List Value} (h:yu w m .str l xs) (hl:xs.length=l.length*1):xs=l.map encS:=by
 apply List.ext_getElem?;intro j;rw [List.getElem?_map];by_cases hj:j<l.length
 · have h1:((xs.drop (j*1)).take 1)=[.string ⟨⟨l[j]⟩⟩]:=h j l[j] (List.getElem?_eq_getElem hj)
   have h2:((xs.drop (j*1)).take 1)[0]? = some (.string ⟨⟨l[j]⟩⟩):=by rw [h1];rfl
   rw [List.getElem?_take_of_lt (by omega),List.getElem?_drop] at h2;simp only [Nat.mul_one,Nat.add_zero] at h2;rw [h2,List.getElem?_eq_getElem hj];rfl
 · rw [List.getElem?_eq_none (by omega),List.getElem?_eq_none (by omega)]
   rfl
theorem v8a {w:World} {m:Md} (l:List (List UInt8)):yu w m .str l (l.map encS):=by
 intro j x hj
 change List UInt8 at x
 change l[j]? = some x at hj
 show ((l.map encS).drop (j*1)).take 1=[.string ⟨⟨x⟩⟩]
 have hlt:=(List.getElem?_eq_some_iff.1 hj).1;have:((l.map encS).drop j)=encS x::(l.map encS).drop (j+1):=by
  rw [←List.map_drop,List.drop_eq_getElem_cons hlt,List.map_cons,List.map_drop];rw [(List.getElem?_eq_some_iff.1 hj).2]
 rw [Nat.mul_one,this];rfl
theorem row_zero {W:World} {base:Nat} {e:TypeId} {size n:Nat} {v:Value} {xs:List Value} (h:W.ownsRow base e size v n xs):W.ownsRow 0 e size v n xs:=by
 refine ⟨h.1,?_⟩;rcases h.2 with h|⟨g,cap,cur,e1,h2,h3⟩
 · exact .inl h
 · exact .inr ⟨g,cap,cur,e1,Nat.zero_le _,h3⟩
theorem y9f {W:World} {base:Nat} {e:TypeId} {size n:Nat} {v:Value} {xs:List Value} (h:W.ownsRow base e size v n xs):∀b,v.ownBlock=some b→base≤b∧b<W.heap.size∧∃o,W.heap[b]? = some o∧o.isCells=true:=by
 rcases h.2 with ⟨rfl,_⟩|⟨g,cap,cur,rfl,h2,h3,_⟩
 · intro b hb;cases hb
 · intro b hb;cases hb;exact ⟨h2,lt_of_some h3,_,h3,rfl⟩
theorem y2w {w:World} {m:Md} {g:List Value} {A:Nat} {t:TypeId} {v:Value} {i:Nat} (h:Boxed w A t v) (hi:g[i]? = some v) (hv:∃ao n c,v = .slice ao n c):RepO w m g (.pointer (some ⟨A,0,none⟩)) [.row i] :=
 ⟨fun _ _ _ e=>(by cases e),fun _ _ e=>(by cases e),fun _=>⟨A,t,_,rfl,h,v,[],rfl,⟨hi,hv⟩,rfl⟩,fun _ _ e=>(by cases e),trivial⟩
theorem y5d {w:World} {m:Md} {g:List Value} {base:Nat} {v:Value} {l:List (List UInt8)} (h:w.ownsRow base 9 1 v l.length (l.map encS)):RepO w m g v [.rowc 9 .str l] :=
 ⟨fun _ _ _ e=>(by cases e;exact ⟨_,row_zero h,v8a l⟩),fun _ _ e=>(by cases e),fun e=>(by cases e),fun _ _ e=>(by cases e),trivial⟩
theorem k1w (l n0:Nat) (ps qs:List (List UInt8)) (x y:List UInt8) (hp:ps.length≤1000000000000) (hq:qs.length≤1000000000000) (tm:List Value) (base R A9 A10:Nat) (hR:base≤R) (W:World) (hg:GI W m0) (hgb:∀b∈q3w,b<base)
 (hne:A9≠A10) (h9:base≤A9) (h10:base≤A10) (h:Two R A9 A10 W ps qs) (hlen:tm.length=60) (hbase:R≤W.heap.size)
 (e9:tm[9]? = some (.pointer (some ⟨A9,0,none⟩))) (e10:tm[10]? = some (.pointer (some ⟨A10,0,none⟩))) (e12:tm[12]? = some (.string ⟨⟨x⟩⟩)) (e14:tm[14]? = some (.string ⟨⟨y⟩⟩)) :
 (Code.region 11 z5d true).wpIn (Fence.wide.inRound l) n0 Tryz.prog (fun e a' w'=>e = .normal∧Two R A9 A10 w' (ps++[x]) (qs++[y])∧w'.os=W.os∧w'.tape=W.tape∧w'.output=W.output∧W.heap.size≤w'.heap.size ∧
  (∀b,b<R→b≠A9→b≠A10→w'.heap[b]? = W.heap[b]?)∧∀(b:Nat) (o:Obj),W.heap[b]? = some o→o.isCells=false→w'.heap[b]? = some o) { tmps:=tm.toArray,defers:=[] } W:=by
 obtain ⟨va,vu,t9,t10,b9,b10,r9,r10,s1,s2⟩:=h.ex;have g1:=y9f r9;have g2:=y9f r10;obtain ⟨sa1,sc1,es1⟩:=q1y r9;obtain ⟨sa2,sc2,es2⟩:=q1y r10;have hmu:∀b,k8u A9 A10 va vu b→base≤b∧b<W.heap.size∧∃o,W.heap[b]? = some o∧o.isCells=true:=by
  rintro b (rfl|rfl|hb|hb)
  · exact ⟨h9,b9.lt,_,b9,rfl⟩
  · exact ⟨h10,b10.lt,_,b10,rfl⟩
  · have:=g1 b hb;exact ⟨by omega,this.2⟩
  · have:=g2 b hb;exact ⟨by omega,this.2⟩
 have hrep:Rep W ⟨k8u A9 A10 va vu,k8u A9 A10 va vu⟩ [va,vu,.pointer (some ⟨A9,0,none⟩),.pointer (some ⟨A10,0,none⟩)] ⟨t11 x y,o11 ps qs⟩ { tmps:=tm.toArray,defers:=[] }:=by
  refine ⟨?_,rfl,?_⟩
  · refine x6t _ _ (by simp [t11,hlen]) fun i v hv => ?_
    have hv':tm[i]? = some v:=hv;have hi:i<60:=hlen▸(List.getElem?_eq_some_iff.1 hv').1;by_cases i9:i=9
    · subst i9;rw [e9] at hv';cases hv';exact ⟨A9,rfl,rfl⟩
    by_cases i10:i=10
    · subst i10;rw [e10] at hv';cases hv';exact ⟨A10,rfl,rfl⟩
    by_cases i12:i=12
    · subst i12;rw [e12] at hv';cases hv';rfl
    by_cases i14:i=14
    · subst i14;rw [e14] at hv';cases hv';rfl
    have ht:(t11 x y).getD i .top = .top:=by
     have hc:i=0∨i=1∨i=2∨i=3∨i=4∨i=5∨i=6∨i=7∨i=8∨i=11∨i=13∨15≤i:=by omega
     rcases hc with rfl|rfl|rfl|rfl|rfl|rfl|rfl|rfl|rfl|rfl|rfl|hc
     iterate 11 rfl
     unfold t11;rw [List.getD_eq_getElem?_getD,List.getElem?_append_right (by simpa using hc),List.getElem?_replicate];split<;>rfl
    rw [ht];trivial
  · refine ⟨⟨hg.i,fun b hb=>⟨(hg.b b hb).1,fun hc => ?_⟩⟩,rfl,?_,fun _ h=>h,fun b hb=>(hmu b hb).2.1,?_,?_⟩
    · have:=(hmu b hc).1;have:=hgb b hb;omega
    · rintro b ⟨i,gi,cs,k1,k2,k3⟩
      match i with
      | 0=>cases k1;cases k2;exact .inr (.inr (.inl k3))
      | 1=>cases k1;cases k2;exact .inr (.inr (.inr k3))
      | 2=>cases k1;cases k2;cases k3;exact .inl rfl
      | 3=>cases k1;cases k2;cases k3;exact .inr (.inl rfl)
      | i+4=>cases k1
    · intro i gi cs k1 k2
      match i with
      | 0=>cases k1;cases k2;exact y5d r9
      | 1=>cases k1;cases k2;exact y5d r10
      | 2=>cases k1;cases k2;exact y2w b9 rfl ⟨_,_,_,es1⟩
      | 3=>cases k1;cases k2;exact y2w b10 rfl ⟨_,_,_,es2⟩
      | i+4=>cases k1
    · intro i j gi gj ci cj b hij k1 k2 k3 k4 k5 k6
      match i,j with
      | 0,0|1,1|2,2|3,3=>exact hij rfl
      | 0,1=>cases k1;cases k2;cases k3;cases k4;exact (s1 b k5).2.2 k6
      | 1,0=>cases k1;cases k2;cases k3;cases k4;exact (s1 b k6).2.2 k5
      | 0,2=>cases k1;cases k2;cases k3;cases k4;cases k6;exact (s1 _ k5).1 rfl
      | 0,3=>cases k1;cases k2;cases k3;cases k4;cases k6;exact (s1 _ k5).2.1 rfl
      | 1,2=>cases k1;cases k2;cases k3;cases k4;cases k6;exact (s2 _ k5).1 rfl
      | 1,3=>cases k1;cases k2;cases k3;cases k4;cases k6;exact (s2 _ k5).2 rfl
      | 2,0=>cases k1;cases k2;cases k3;cases k4;cases k5;exact (s1 _ k6).1 rfl
      | 3,0=>cases k1;cases k2;cases k3;cases k4;cases k5;exact (s1 _ k6).2.1 rfl
      | 2,1=>cases k1;cases k2;cases k3;cases k4;cases k5;exact (s2 _ k6).1 rfl
      | 3,1=>cases k1;cases k2;cases k3;cases k4;cases k5;exact (s2 _ k6).2 rfl
      | 2,3=>cases k1;cases k2;cases k3;cases k4;cases k5;cases k6;exact hne rfl
      | 3,2=>cases k1;cases k2;cases k3;cases k4;cases k5;cases k6;exact hne rfl
      | i+4,_=>cases k1
      | _,j+4=>cases k3
 have hlim:(140737488355328:Nat)/16=8796093022208:=rfl;have hrun:q1a Γ K0 z5d ⟨t11 x y,o11 ps qs⟩ (fun s=>some s.o)=some (w5r ps qs x y):=by
  rw [r11,hlim,decide_eq_true (show ps.length+1≤8796093022208 by omega),decide_eq_true (show qs.length+1≤8796093022208 by omega)];rfl
 refine wpIn_mono (y7n l n0 m1c hm hΓ m1b hrep hrun (Q:=fun a' w'=>Two R A9 A10 w' (ps++[x]) (qs++[y])∧w'.os=W.os∧w'.tape=W.tape∧w'.output=W.output∧W.heap.size≤w'.heap.size ∧
  (∀b,b<R→b≠A9→b≠A10→w'.heap[b]? = W.heap[b]?)∧∀(b:Nat) (o:Obj),W.heap[b]? = some o→o.isCells=false→w'.heap[b]? = some o) ?_) fun e a' w' h=>h
 intro st' a' w' m' g' k1 k2 k3 k4;have ho:st'.o=w5r ps qs x y:=Option.some.inj k1;have hob:=k2.obj;rw [ho] at hob;have q2:g'[2]? = some (.pointer (some ⟨A9,0,none⟩)):=k4 2 _ rfl;have q3:g'[3]? = some (.pointer (some ⟨A10,0,none⟩)):=k4 3 _ rfl;have hlen8:g'.length=8:=hob.len;obtain ⟨v5,q5⟩:∃v,g'[5]? = some v:=⟨_,List.getElem?_eq_getElem (by omega)⟩
 obtain ⟨v7,q7⟩:∃v,g'[7]? = some v:=⟨_,List.getElem?_eq_getElem (by omega)⟩
 obtain ⟨b2,ty2,arr2,z1,z2,z3⟩:=(hob.obj 2 _ [.row 5] q2 rfl).box rfl;obtain ⟨b3,ty3,arr3,y1,y2,y3⟩:=(hob.obj 3 _ [.row 7] q3 rfl).box rfl;cases z1;cases y1;obtain ⟨u5,r5,z4,⟨z5,z6⟩,z7⟩:=z3;obtain ⟨u7,r7,y4,⟨y5,y6⟩,y7⟩:=y3;rw [q5] at z5;rw [q7] at y5;cases z5;cases y5;have z7':r5=[]:=z7;have y7':r7=[]:=y7;subst z7' y7';obtain ⟨xs5,o5,p5⟩:=(hob.obj 5 _ [.rowc 9 .str (ps++[x])] q5 rfl).rowc _ _ _ rfl;obtain ⟨xs7,o7,p7⟩:=(hob.obj 7 _ [.rowc 9 .str (qs++[y])] q7 rfl).rowc _ _ _ rfl;have hx5:=y5a p5 o5.1;have hx7:=y5a p7 o7.1;subst hx5 hx7;have hge:∀(i:Nat) gi cs b,i≠2→i≠3→g'[i]? = some gi→(w5r ps qs x y)[i]? = some cs→blk gi cs=some b→R≤b:=fun i gi cs b n2 n3 c1 c2 c3=>by
  by_cases hlt:b<W.heap.size
  · rcases k3.mutb b hlt (hob.nm b (hob.sub b ⟨i,gi,cs,c1,c2,c3⟩)) with h|h|h|h
    · exact (hob.sep i 2 _ _ _ _ _ n2 c1 c2 q2 rfl c3 (by rw [h];rfl)).elim
    · exact (hob.sep i 3 _ _ _ _ _ n3 c1 c2 q3 rfl c3 (by rw [h];rfl)).elim
    · exact (g1 b h).1
    · exact (g2 b h).1
  · omega
 have hkeep:∀(b:Nat) (o:Obj),W.heap[b]? = some o→¬k8u A9 A10 va vu b→w'.heap[b]? = some o:=fun b o hb hn=>(k3.keep b (lt_of_some hb) hn).trans hb;refine ⟨⟨v5,v7,ty2,ty3,?_,?_,?_,?_,?_,?_⟩,k3.os,k3.tape,k3.output,k3.size,?_,?_⟩
 · have:arr2 = #[v5]:=by cases arr2;simpa using z4
   subst this;exact z2
 · have:arr3 = #[v7]:=by cases arr3;simpa using y4
   subst this;exact y2
 · exact z2k o5 fun b hb=>hge 5 _ _ b (by decide) (by decide) q5 rfl hb
 · exact z2k o7 fun b hb=>hge 7 _ _ b (by decide) (by decide) q7 rfl hb
 · intro b hb
   refine ⟨?_,?_,fun hc => ?_⟩
   · rintro rfl;exact hob.sep 5 2 _ _ _ _ _ (by decide) q5 rfl q2 rfl hb rfl
   · rintro rfl;exact hob.sep 5 3 _ _ _ _ _ (by decide) q5 rfl q3 rfl hb rfl
   · exact hob.sep 5 7 _ _ _ _ _ (by decide) q5 rfl q7 rfl hb hc
 · intro b hb
   refine ⟨?_,?_⟩
   · rintro rfl;exact hob.sep 7 2 _ _ _ _ _ (by decide) q7 rfl q2 rfl hb rfl
   · rintro rfl;exact hob.sep 7 3 _ _ _ _ _ (by decide) q7 rfl q3 rfl hb rfl
 · intro b hb hn9 hn10
   refine k3.keep b (by omega) fun hc => ?_;rcases hc with h|h|h|h
   · exact hn9 h
   · exact hn10 h
   · have:=(g1 b h).1;omega
   · have:=(g2 b h).1;omega
 · intro b o hb hc
   refine hkeep b o hb fun hcc => ?_;obtain ⟨_,_,o',e1,e2⟩:=hmu b hcc;rw [hb] at e1;cases e1;rw [hc] at e2;cases e2
def q3g (A U:List UInt8→Option (List UInt8×Int)):List (List UInt8)→List (List UInt8)→List (List UInt8)→Option (Int×List (List UInt8)×List (List UInt8))
 | [],ps,qs=>some (0,ps,qs)
 | x::xs,ps,qs=>(A x).bind fun a=>bif a.2 != 0 then some (a.2,[],[]) else (U x).bind fun u=>q3g A U xs (ps++[a.1]) (qs++[u.1])
theorem y5h {N Bs R A9 A10:Nat} {W W':World} {ps qs:List (List UInt8)} (h:Two R A9 A10 W ps qs) (h9:A9≠Bs) (h10:A10≠Bs) (hR:Bs<R) (ho:OthR N Bs W W'):Two R A9 A10 W' ps qs:=by
 obtain ⟨va,vu,t9,t10,b9,b10,r9,r10,s1,s2⟩:=h.ex;exact ⟨va,vu,t9,t10,vg b9 h9 ho,vg b10 h10 ho,q1f hR r9 ho,q1f hR r10 ho,s1,s2⟩
theorem k2a {W:World} {base:Nat} {v:Value} {l:List (List UInt8)} (h:W.ownsRow base 9 1 v l.length (l.map encS)):jd W m0 (.lst .str) l [v]:=by
 rcases h.2 with ⟨rfl,h0⟩|⟨g,cap,cur,rfl,h2,h3,h4,h5,h6,h7⟩
 · have hl:l=[]:=List.eq_nil_of_length_eq_zero h0
   subst hl;exact ⟨none,0,rfl,Nat.le_refl _,by omega,fun _=>rfl,fun j x hj=>by
    have hj':([]:List (List UInt8))[j]? = some x:=hj;simp at hj'⟩
 · refine ⟨_,cap,rfl,h4,by simp only [maxLen] at h5;omega,fun e=>(by cases e),fun j x hj => ?_⟩
   change List UInt8 at x
   change l[j]? = some x at hj
   refine ⟨g,0,[.string ⟨⟨x⟩⟩],rfl,rfl,rfl,lt_of_some h3,fun hm=>hm,fun i u hu => ?_⟩;have hlt:=(List.getElem?_eq_some_iff.1 hj).1
   match i with
   | i+1=>cases hu
   | 0 =>
    cases hu;have h1:(cur.toList.take (l.length*1))[j]? = some (encS x):=by rw [h7,List.getElem?_map,hj];rfl
    rw [List.getElem?_take_of_lt (by omega),Array.getElem?_toList] at h1;simp only [World.cell?,h3];show cur[0+j*1+0]? = _;rw [show 0+j*1+0=j by omega];exact h1
theorem z4x {W:World} {base:Nat} {v:Value} {l:List (List UInt8)} {r:List UInt8} (h:W.ownsRow base 9 1 v l.length (l.map encS)) (hj:q1c (l,[46],())=some (r,())) (hg:GI W m0) :
 Calls Tryz.prog 73 #[v,.string ⟨#[46]⟩] W fun e W'=>e = .returned (.string ⟨⟨r⟩⟩)∧Below W.heap.size W W':=by
 have hj':C73 (l,[46],())=some (r,()):=hj;refine (zj.call0 (v:=(l,[46],())) (y:=(r,())) w6e Tryz.func73 (by kernel_rfl) (by kernel_rfl) hg (fun _ h=>h.elim) rfl ⟨v,_,rfl,k2a h,_,_,rfl,rfl,rfl⟩ rfl hj' ?_).mono fun e w' ⟨rv,h1,h2,ax,l',u,h3,h4⟩ => ?_
 · intro ax l' u h3
   cases jo h3;rfl
 · cases jo h3
   obtain ⟨v,r',e1,e2,e4⟩:=h4;have e4':r'=[]:=e4;subst e4';cases e1;subst h1 e2;exact ⟨rfl,h2⟩
def y4w (res:Int×List (List UInt8)×List (List UInt8)):Option (List UInt8×List UInt8×Int) :=
 bif res.1 != 0 then some ([],[],res.1) else (q1c (res.2.1,[46],())).bind fun ja=>bif decide (253<ja.1.length) then some ([],[],5) else (q1c (res.2.2,[46],())).bind fun ju=>some (ja.1,ju.1,0)
set_option maxHeartbeats 4000000 in
theorem v0t (v0 v1 v2 v3 v4:Value) (s:List UInt8) (ls:List (List UInt8)) (A U:List UInt8→Option (List UInt8×Int)) (res:Int×List (List UInt8)×List (List UInt8)) (w:World) (hg:GI w m0) (hll:ls.length≤32)
 (hres:q3g A U ls [] []=some res) (oa ou:List UInt8) (oc:Int) (hout:y4w res=some (oa,ou,oc))
 (hlab:∀W,Below w.heap.size w W→Calls Tryz.prog 157 #[.agg #[v0,v1,v2,v3,v4],.string ⟨⟨s⟩⟩] W fun e w'=>∃v,e = .returned (.tuple #[v,.int .i64 0])∧Below W.heap.size W w'∧w'.ownsRow W.heap.size 9 1 v ls.length (ls.map encS))
 (hA:∀x r,A x=some r→∀W,Below w.heap.size w W→Calls Tryz.prog 159 #[.agg #[v0,v1,v2,v3,v4],.string ⟨⟨x⟩⟩] W fun e W'=>e = .returned (.tuple #[.string ⟨⟨r.1⟩⟩,.int .i64 r.2])∧Below W.heap.size W W')
 (hU:∀x r,U x=some r→∀W,Below w.heap.size w W→Calls Tryz.prog 160 #[.agg #[v0,v1,v2,v3,v4],.string ⟨⟨x⟩⟩] W fun e W'=>e = .returned (.tuple #[.string ⟨⟨r.1⟩⟩,.int .i64 r.2])∧Below W.heap.size W W') :
 Calls Tryz.prog 124 #[.agg #[v0,v1,v2,v3,v4],.string ⟨⟨s⟩⟩] w fun e w'=>e = .returned (.tuple #[.string ⟨⟨oa⟩⟩,.string ⟨⟨ou⟩⟩,.int .i64 oc])∧Below w.heap.size w w':=by
 refine (callsIn_wide (n:=3)).1 ?_;refine callsIn_of_wp_marks Tryz.func124 rfl trivial ?_ rfl;simp only [Tryz.ntmps124,List.size_toArray,List.length_cons,List.length_nil,Nat.reduceAdd,Nat.reduceSub,Array.replicate_succ,Array.replicate_zero,List.push_toArray,List.append_toArray,List.nil_append,List.cons_append];have hW0:Below w.heap.size w ((((w.alloc (.cells #[v0,v1,v2,v3,v4] 39)).alloc (.cells #[.string ⟨#[]⟩] 9)).alloc (.cells #[.string ⟨#[]⟩] 9)).alloc (.cells #[.int .i64 0] 44)) :=
  ((((Below.refl _ w).alloc (Nat.le_refl _) _).alloc (by simp) _).alloc (by simp<;>omega) _).alloc (by simp<;>omega) _
 gi_wp2_with (first
  | (refine ⟨trivial,?_⟩;gi_at_call 157;refine (callsIn_wide.2 (hlab _ hW0)).mono ?_;rintro e w1 ⟨lv,rfl,hb1,hrow⟩;obtain ⟨la,lc,rfl⟩:=q1y hrow)
  | (refine ⟨trivial,?_⟩;gi_at_call 158;refine (callsIn_wide.2 (v2d _ _ _ _)).mono ?_;rintro e w2 ⟨rfl,rfl⟩))
 have hb0:Below w.heap.size w w1:=hW0.trans (hb1.mono hW0.size);have hsz1:w.heap.size+4≤w1.heap.size:=by have:=hb1.size;simp at this;omega
 have hT:∀X,Below w1.heap.size w1 X→X.cell? ⟨w.heap.size,0,none⟩=some v0∧X.cell? ⟨w.heap.size,1,none⟩=some v1∧X.cell? ⟨w.heap.size,2,none⟩=some v2∧X.cell? ⟨w.heap.size,3,none⟩=some v3∧X.cell? ⟨w.heap.size,4,none⟩=some v4:=fun X hX=>by
  have h1:X.heap[w.heap.size]? = some (.cells #[v0,v1,v2,v3,v4] 39):=by
   rw [hX.block _ (by omega),hb1.block _ (by simp<;>omega),Below.heap_alloc _ _ _ (by simp<;>omega),Below.heap_alloc _ _ _ (by simp<;>omega),Below.heap_alloc _ _ _ (by simp),heap_alloc_new]
  exact ⟨by rw [qi h1];rfl,by rw [qi h1];rfl,by rw [qi h1];rfl,by rw [qi h1];rfl,by rw [qi h1];rfl⟩
 have hR:∀X,Below w1.heap.size w1 X→Boxed X (w.heap.size+1) 9 (.string ⟨#[]⟩)∧Boxed X (w.heap.size+1+1) 9 (.string ⟨#[]⟩)∧Boxed X (w.heap.size+1+1+1) 44 (.int .i64 0):=fun X hX=>by
  refine ⟨?_,?_,?_⟩
  · show X.heap[_]? = _
    rw [hX.block _ (by omega),hb1.block _ (by simp<;>omega),Below.heap_alloc _ _ _ (by simp<;>omega),Below.heap_alloc _ _ _ (by simp)];have:=heap_alloc_new (w.alloc (.cells #[v0,v1,v2,v3,v4] 39)) (.cells #[.string ⟨#[]⟩] 9)
    rwa [World.size_alloc] at this
  · show X.heap[_]? = _
    rw [hX.block _ (by omega),hb1.block _ (by simp<;>omega),Below.heap_alloc _ _ _ (by simp)];have:=heap_alloc_new ((w.alloc (.cells #[v0,v1,v2,v3,v4] 39)).alloc (.cells #[.string ⟨#[]⟩] 9)) (.cells #[.string ⟨#[]⟩] 9)
    rwa [World.size_alloc,World.size_alloc] at this
  · show X.heap[_]? = _
    rw [hX.block _ (by omega),hb1.block _ (by simp)];have:=heap_alloc_new (((w.alloc (.cells #[v0,v1,v2,v3,v4] 39)).alloc (.cells #[.string ⟨#[]⟩] 9)).alloc (.cells #[.string ⟨#[]⟩] 9)) (.cells #[.int .i64 0] 44)
    rwa [World.size_alloc,World.size_alloc,World.size_alloc] at this
 have hg1:GI w1 m0:=zi hg hb0;have hW2:Below w1.heap.size w1 (((w1.alloc (.cells #[.slice none 0 0] 89)).alloc (.cells #[.slice none 0 0] 89)).alloc (.cells #[.slice la ls.length lc] 89)) :=
  (((Below.refl _ w1).alloc (Nat.le_refl _) _).alloc (by simp) _).alloc (by simp<;>omega) _
 have hszN:(((w1.alloc (.cells #[.slice none 0 0] 89)).alloc (.cells #[.slice none 0 0] 89)).alloc (.cells #[.slice la ls.length lc] 89)).heap.size=w1.heap.size+3:=by simp
 have hbv:Boxed (((w1.alloc (.cells #[.slice none 0 0] 89)).alloc (.cells #[.slice none 0 0] 89)).alloc (.cells #[.slice la ls.length lc] 89)) (w1.heap.size+1+1) 89 (.slice la ls.length lc):=by
  have:=Boxed.new ((w1.alloc (.cells #[.slice none 0 0] 89)).alloc (.cells #[.slice none 0 0] 89)) 89 (.slice la ls.length lc)
  rwa [World.size_alloc,World.size_alloc] at this
 have hb9:Boxed (((w1.alloc (.cells #[.slice none 0 0] 89)).alloc (.cells #[.slice none 0 0] 89)).alloc (.cells #[.slice la ls.length lc] 89)) w1.heap.size 89 (.slice none 0 0) :=
  ((Boxed.new w1 89 (.slice none 0 0)).alloc _).alloc _
 have hb10:Boxed (((w1.alloc (.cells #[.slice none 0 0] 89)).alloc (.cells #[.slice none 0 0] 89)).alloc (.cells #[.slice la ls.length lc] 89)) (w1.heap.size+1) 89 (.slice none 0 0):=by
  have:=(Boxed.new (w1.alloc (.cells #[.slice none 0 0] 89)) 89 (.slice none 0 0)).alloc (.cells #[.slice la ls.length lc] 89)
  rwa [World.size_alloc] at this
 have hrow2:(((w1.alloc (.cells #[.slice none 0 0] 89)).alloc (.cells #[.slice none 0 0] 89)).alloc (.cells #[.slice la ls.length lc] 89)).ownsRow 0 9 1 (.slice la ls.length lc) ls.length (ls.map encS):=by
  have:=row_zero hrow;exact ((this.alloc _).alloc _).alloc _
 have hown:∀b,(Value.slice la ls.length lc).ownBlock=some b→b<w1.heap.size:=fun b hb=>((y9f hrow) b hb).2.1;clear hlab;refine xe (F:=Fence.wide) (n:=3) rfl (by omega) (gf:=191) (lb := #[.pointer (some ⟨w1.heap.size+1+1,0,none⟩)]) rfl trivial (enters_of Tryz.func191 (by kernel_rfl) rfl)
  (K:=fun b=>b=w1.heap.size+1+1∨(Value.slice la ls.length lc).ownBlock=some b)
  (y9q 2 (by omega) (w1.heap.size+1+1) 0 _ ls _ _ hbv hrow2 (by omega) (.inl rfl) (fun b hb => .inr hb) (w1.heap.size+1+1))
  (by rintro b (rfl|hb)
      · rw [hszN];omega
      · have:=hown b hb;rw [hszN];omega) (by rw [hszN];omega) (fun _=>rfl)
  (fun pre W=>∃ps qs rest,ls=pre++rest∧q3g A U rest ps qs=some res∧ps.length=pre.length∧qs.length=pre.length∧Two (w1.heap.size+3) w1.heap.size (w1.heap.size+1) W ps qs∧Below w1.heap.size w1 W)
  (fun c pre W=>c = .ret∧res.1≠0∧Boxed W (w.heap.size+1) 9 (.string ⟨#[]⟩)∧Boxed W (w.heap.size+1+1) 9 (.string ⟨#[]⟩)∧Boxed W (w.heap.size+1+1+1) 44 (.int .i64 res.1)∧Below w.heap.size w W)
  (fun pre X Y hs ho=>by
   obtain ⟨ps,qs,rest,h1,h2,h3,h4,h5,h6⟩:=hs;exact ⟨ps,qs,rest,h1,h2,h3,h4,y5h h5 (by omega) (by omega) (by omega) ho,q2m h6 (Nat.le_refl _) (by rw [hszN];omega) (by omega) ho⟩)
  (fun c pre X Y hs ho=>by
   obtain ⟨h1,h2,h3,h4,h5,h6⟩:=hs;exact ⟨h1,h2,vg h3 (by omega) ho,vg h4 (by omega) ho,vg h5 (by omega) ho,q2m h6 (Nat.le_refl _) (by rw [hszN];omega) (by omega) ho⟩)
  ⟨[],[],ls,rfl,hres,rfl,rfl,⟨_,_,_,_,hb9,hb10,World.ownsRow_nil _ _ _ _,World.ownsRow_nil _ _ _ _,fun b hb=>(by cases hb),fun b hb=>(by cases hb)⟩,hW2⟩
  (fun x=>{ tmps := #[.agg #[v0,v1,v2,v3,v4],.string ⟨⟨s⟩⟩,.pointer (some ⟨w.heap.size,0,none⟩),undef,.pointer (some ⟨w.heap.size+1,0,none⟩),.pointer (some ⟨w.heap.size+1+1,0,none⟩),.pointer (some ⟨w.heap.size+1+1+1,0,none⟩),.slice la ls.length lc,.int .i64 0,
   .pointer (some ⟨w1.heap.size,0,none⟩),.pointer (some ⟨w1.heap.size+1,0,none⟩),.string ⟨⟨x⟩⟩,undef,undef,undef,undef,undef,.tuple #[.slice la ls.length lc,.int .i64 0],.agg #[v0,v1,v2,v3,v4],.string ⟨⟨s⟩⟩,.tuple #[.slice la ls.length lc,.int .i64 0],.slice la ls.length lc,.int .i64 0,.int .i64 0,.bool false,undef,.slice la ls.length lc,
   .func (.func 191) #[] #[.pointer (some ⟨w1.heap.size+1+1,0,none⟩)],.string ⟨⟨x⟩⟩,undef,undef,undef,undef,undef,undef,undef,undef,undef,undef,undef,undef,undef,undef,undef,undef,undef,undef,undef,undef,undef,undef,undef,undef,undef,undef,undef,undef,undef,undef,undef],defers:=[] }) ?assign ?body ?done ?stop
 case assign =>
  intro l x W K hK
  gi_wp2
  exact hK
 case body =>
  rintro l pre x W hsz hpre ⟨ps,qs,rest,hls,hbf,hlp,hlq,hTwo,hbel⟩;obtain ⟨rest',rfl⟩:∃r,rest=x::r:=by
   obtain ⟨t,ht⟩:=hpre;rw [hls,List.append_assoc] at ht;have:=List.append_cancel_left ht;exact ⟨t,by simpa using this.symm⟩
  simp only [q3g] at hbf;obtain ⟨⟨a1,a2⟩,ha,hbf2⟩:=Option.bind_eq_some_iff.1 hbf;simp only at hbf2;rw [hszN] at hsz;have hWw:Below w.heap.size w W:=hb0.trans (hbel.mono (by omega));have hcA:=hA x _ ha W hWw;obtain ⟨t0,t1,t2,t3,t4⟩:=hT W hbel;by_cases hz:a2=0
  · subst hz
    have hbf3:((U x).bind fun u=>q3g A U rest' (ps++[a1]) (qs++[u.1]))=some res:=hbf2;obtain ⟨⟨u1,u2⟩,hu,hbf4⟩:=Option.bind_eq_some_iff.1 hbf3;simp only at hbf4;have hcU:=hU x _ hu
    gi_wp2_with (first
     | (refine ⟨trivial,?_⟩;gi_at_call 159;refine (CallsIn.inRound l (callsIn_wide.2 hcA)).mono ?_;rintro e W3 ⟨rfl,hb3⟩;have hbel3:Below w1.heap.size w1 W3:=hbel.trans (hb3.mono (by omega));obtain ⟨t5,t6,t7,t8,t9⟩:=hT W3 hbel3)
     | (refine ⟨trivial,?_⟩;gi_at_call 160;refine (CallsIn.inRound l (callsIn_wide.2 (hcU W3 (hb0.trans (hbel3.mono (by omega)))))).mono ?_;rintro e W4 ⟨rfl,hb4⟩))
    have hb34:Below W.heap.size W W4:=hb3.trans (hb4.mono hb3.size);have hTwo4:Two (w1.heap.size+3) w1.heap.size (w1.heap.size+1) W4 ps qs:=y5h (N:=0) (Bs:=w1.heap.size+1+1) hTwo (by omega) (by omega) (by omega) (Oth.of_below hb34).toR;have hll2:pre.length≤32:=by have:=hpre.length_le;simp at this;omega
    refine wpIn_mono (c:=Code.region 11 z5d true) (k1w l _ ps qs a1 u1 (by omega) (by omega) _ w1.heap.size (w1.heap.size+3) w1.heap.size (w1.heap.size+1) (by omega) W4 (zi hg1 (hbel3.trans (hb4.mono (by have:=hbel3.size;omega)))) (fun b hb=>(hg1.b b hb).1) (by omega) (Nat.le_refl _) (by omega) hTwo4 rfl (by have:=hb34.size;omega) rfl rfl rfl rfl) ?_;rintro e a' w' ⟨rfl,hTwo',o1,o2,o3,o4,o5,o6⟩;refine ⟨⟨Nat.le_trans hb34.size o4,fun k o _ hk hc=>o6 k o ((hb34.block k (lt_of_some hk)).trans hk) hc⟩,?_,ps++[a1],qs++[u1],rest',by simp [hls],hbf4,by simp;omega,by simp;omega,hTwo',?_⟩
    · rintro b (rfl|hb)
      · rw [o5 _ (by omega) (by omega) (by omega),hb34.block _ (by omega)]
      · have:=hown b hb
        rw [o5 _ (by omega) (by omega) (by omega),hb34.block _ (by omega)]
    · exact (hbel.trans (hb34.mono (by omega))).trans ⟨o1,o2,o3,o4,fun k hk=>o5 k (by omega) (by omega) (by omega)⟩
  · have hbf3:some (a2,([]:List (List UInt8)),([]:List (List UInt8)))=some res:=by
     rw [←hbf2,show (a2 != 0)=true by simpa using hz];rfl
    cases hbf3
    gi_wp2_with (refine ⟨trivial,?_⟩;gi_at_call 159;refine (CallsIn.inRound l (callsIn_wide.2 hcA)).mono ?_;rintro e W3 ⟨rfl,hb3⟩;have hbel3:Below w1.heap.size w1 W3:=hbel.trans (hb3.mono (by omega));obtain ⟨q1,q2,q3⟩:=hR W3 hbel3;have q4:=q1.cell;have q5:=q1.frozen;have q6:=q2.cell;have q7:=q2.frozen;have q8:=q3.cell;have q9:=q3.frozen)
    refine ⟨KeepsFrom.trans ⟨hb3.size,fun k o _ h _=>(hb3.block k (lt_of_some h)).trans h⟩ ((((KeepsOthers.setCell _ _ _).trans (KeepsOthers.setCell _ _ _)).trans (KeepsOthers.setCell _ _ _)).from _),rfl,?_,?_,?_,?_⟩
    · exact zl (zl (Boxed.set _ q1) (by omega)) (by omega)
    · exact zl (Boxed.set _ (zl q2 (by omega))) (by omega)
    · exact Boxed.set _ (zl (zl q3 (by omega)) (by omega))
    · exact (((hb0.trans (hbel3.mono (by omega))).setCell (p:=⟨w.heap.size+1,0,none⟩) (show w.heap.size≤w.heap.size+1 by omega) _).setCell (p:=⟨w.heap.size+1+1,0,none⟩) (show w.heap.size≤w.heap.size+1+1 by omega) _).setCell (p:=⟨w.heap.size+1+1+1,0,none⟩) (show w.heap.size≤w.heap.size+1+1+1 by omega) _
 case done =>
  rintro D W hD ⟨ps,qs,rest,hls,hbf,hlp,hlq,hTwo,hbel⟩ hK;have hrest:rest=[]:=by
   have:=congrArg List.length hls;simp at this;exact this
  subst hrest;have hres':(0,ps,qs)=res:=Option.some.inj hbf;subst hres';have ho:((q1c (ps,[46],())).bind fun ja=>bif decide (253<ja.1.length) then some (([]:List UInt8),([]:List UInt8),(5:Int)) else (q1c (qs,[46],())).bind fun ju=>some (ja.1,ju.1,0))=some (oa,ou,oc):=hout;obtain ⟨⟨ja,ju0⟩,hja,ho2⟩:=Option.bind_eq_some_iff.1 ho;obtain ⟨va,vu,ta,tu,bx9,bx10,rw9,rw10,_,_⟩:=hTwo.ex;have hcj:=z4x rw9 hja (zi hg1 hbel);have c9:=bx9.cell;have c10:=bx10.cell;have hDW:D<W.heap.size:=lt_of_some hK;rw [hszN] at hD;have hs8:w1.heap.size≤W.heap.size:=hbel.size;clear hls hbf hout ho hres hll hlp hlq;by_cases w1c:253<ja.length
  · have ho3:some (([]:List UInt8),([]:List UInt8),(5:Int))=some (oa,ou,oc):=by rw [←ho2];simp only;rw [decide_eq_true w1c];rfl
    cases ho3
    gi_wp2_with (refine ⟨trivial,?_⟩;gi_at_call 73;refine (callsIn_wide.2 hcj).mono ?_;rintro e W5 ⟨rfl,hb5⟩;have hbel5:Below w1.heap.size w1 W5:=hbel.trans (hb5.mono (by have:=hbel.size;omega));obtain ⟨q1,q2,q3⟩:=hR W5 hbel5;have q4:=q1.cell;have q5:=q1.frozen;have q6:=q2.cell;have q7:=q2.frozen;have q8:=q3.cell;have q9:=q3.frozen)
    have hKX:((((W5.setCell ⟨w.heap.size+1,0,none⟩ (.string ⟨#[]⟩)).setCell ⟨w.heap.size+1+1,0,none⟩ (.string ⟨#[]⟩)).setCell ⟨w.heap.size+1+1+1,0,none⟩ (.int .i64 5))).heap[D]? = some (.deferred (some [])):=by
     rw [Below.heap_setCell _ _ _ _ (show D≠w.heap.size+1+1+1 by omega),Below.heap_setCell _ _ _ _ (show D≠w.heap.size+1+1 by omega),Below.heap_setCell _ _ _ _ (show D≠w.heap.size+1 by omega)];exact (hb5.block D hDW).trans hK
    refine ⟨by simp,.inl ⟨_,_,rfl,run_takeDeferred hKX,?_⟩⟩;have e1:=zl (b':=w.heap.size+1+1+1) (u:=(.int .i64 5)) (zl (b':=w.heap.size+1+1) (u:=(.string ⟨#[]⟩)) (Boxed.set (.string ⟨#[]⟩) q1) (by omega)) (by omega);have e2:=zl (b':=w.heap.size+1+1+1) (u:=(.int .i64 5)) (Boxed.set (.string ⟨#[]⟩) (zl (b':=w.heap.size+1) (u:=(.string ⟨#[]⟩)) q2 (by omega))) (by omega);have e3:=Boxed.set (.int .i64 5) (zl (b':=w.heap.size+1+1) (u:=(.string ⟨#[]⟩)) (zl (b':=w.heap.size+1) (u:=(.string ⟨#[]⟩)) q3 (by omega)) (by omega));have hc1:=cell_kept e1.cell (grownBy_putObj' _ D (.deferred none)) (fun r e=>by cases e;exact ⟨_,hKX,rfl⟩);have hc2:=cell_kept e2.cell (grownBy_putObj' _ D (.deferred none)) (fun r e=>by cases e;exact ⟨_,hKX,rfl⟩);have hc3:=cell_kept e3.cell (grownBy_putObj' _ D (.deferred none)) (fun r e=>by cases e;exact ⟨_,hKX,rfl⟩);have hbX:=(((hb0.trans (hbel5.mono (show w.heap.size≤w1.heap.size by omega))).setCell (p:=⟨w.heap.size+1,0,none⟩) (show w.heap.size≤w.heap.size+1 by omega) (.string ⟨#[]⟩)).setCell (p:=⟨w.heap.size+1+1,0,none⟩) (show w.heap.size≤w.heap.size+1+1 by omega) (.string ⟨#[]⟩)).setCell (p:=⟨w.heap.size+1+1+1,0,none⟩) (show w.heap.size≤w.heap.size+1+1+1 by omega) (.int .i64 5);refine ⟨.tuple #[(.string ⟨#[]⟩),(.string ⟨#[]⟩),(.int .i64 5)],?_,rfl,hbX.trans (belowK_b (w:=w) (Nat.le_refl _) _ D _ _ (by omega) hKX rfl rfl)⟩;simp [results,Tryz.f124,go_sem,hc1,hc2,hc3]
  · have ho3:((q1c (qs,[46],())).bind fun ju=>some (ja,ju.1,(0:Int)))=some (oa,ou,oc):=by rw [←ho2];simp only;rw [decide_eq_false w1c];rfl
    obtain ⟨⟨ju,ju1⟩,hju,ho4⟩:=Option.bind_eq_some_iff.1 ho3;cases ho4
    gi_wp2_with (first
     | (refine ⟨trivial,?_⟩;gi_at_call 73;refine (callsIn_wide.2 hcj).mono ?_;clear hcj;rintro e W5 ⟨rfl,hb5⟩;have hbel5:Below w1.heap.size w1 W5:=hbel.trans (hb5.mono (by have:=hbel.size;omega));have c11:W5.cell? ⟨w1.heap.size+1,0,none⟩=some vu:=(hb5.cell (p:=⟨w1.heap.size+1,0,none⟩) bx10.lt).trans c10;have hcj2:=z4x (q1f (N:=0) (Bs:=w1.heap.size+1+1) (by omega) rw10 (Oth.of_below hb5).toR) hju (zi hg1 hbel5))
     | (refine ⟨trivial,?_⟩;gi_at_call 73;refine (callsIn_wide.2 hcj2).mono ?_;clear hcj2;rintro e W6 ⟨rfl,hb6⟩;have hbel6:Below w1.heap.size w1 W6:=hbel5.trans (hb6.mono (by have:=hbel5.size;omega));obtain ⟨q1,q2,q3⟩:=hR W6 hbel6;have q4:=q1.cell;have q5:=q1.frozen;have q6:=q2.cell;have q7:=q2.frozen;have q8:=q3.cell;have q9:=q3.frozen))
    have hKX:((((W6.setCell ⟨w.heap.size+1,0,none⟩ (.string ⟨⟨oa⟩⟩)).setCell ⟨w.heap.size+1+1,0,none⟩ (.string ⟨⟨ju⟩⟩)).setCell ⟨w.heap.size+1+1+1,0,none⟩ (.int .i64 0))).heap[D]? = some (.deferred (some [])):=by
     rw [Below.heap_setCell _ _ _ _ (show D≠w.heap.size+1+1+1 by omega),Below.heap_setCell _ _ _ _ (show D≠w.heap.size+1+1 by omega),Below.heap_setCell _ _ _ _ (show D≠w.heap.size+1 by omega)];exact (hb6.block D (Nat.lt_of_lt_of_le hDW hb5.size)).trans ((hb5.block D hDW).trans hK)
    refine ⟨by simp,.inl ⟨_,_,rfl,run_takeDeferred hKX,?_⟩⟩;have e1:=zl (b':=w.heap.size+1+1+1) (u:=(.int .i64 0)) (zl (b':=w.heap.size+1+1) (u:=(.string ⟨⟨ju⟩⟩)) (Boxed.set (.string ⟨⟨oa⟩⟩) q1) (by omega)) (by omega);have e2:=zl (b':=w.heap.size+1+1+1) (u:=(.int .i64 0)) (Boxed.set (.string ⟨⟨ju⟩⟩) (zl (b':=w.heap.size+1) (u:=(.string ⟨⟨oa⟩⟩)) q2 (by omega))) (by omega);have e3:=Boxed.set (.int .i64 0) (zl (b':=w.heap.size+1+1) (u:=(.string ⟨⟨ju⟩⟩)) (zl (b':=w.heap.size+1) (u:=(.string ⟨⟨oa⟩⟩)) q3 (by omega)) (by omega));have hc1:=cell_kept e1.cell (grownBy_putObj' _ D (.deferred none)) (fun r e=>by cases e;exact ⟨_,hKX,rfl⟩);have hc2:=cell_kept e2.cell (grownBy_putObj' _ D (.deferred none)) (fun r e=>by cases e;exact ⟨_,hKX,rfl⟩);have hc3:=cell_kept e3.cell (grownBy_putObj' _ D (.deferred none)) (fun r e=>by cases e;exact ⟨_,hKX,rfl⟩);have hbX:=(((hb0.trans (hbel6.mono (show w.heap.size≤w1.heap.size by omega))).setCell (p:=⟨w.heap.size+1,0,none⟩) (show w.heap.size≤w.heap.size+1 by omega) (.string ⟨⟨oa⟩⟩)).setCell (p:=⟨w.heap.size+1+1,0,none⟩) (show w.heap.size≤w.heap.size+1+1 by omega) (.string ⟨⟨ju⟩⟩)).setCell (p:=⟨w.heap.size+1+1+1,0,none⟩) (show w.heap.size≤w.heap.size+1+1+1 by omega) (.int .i64 0);refine ⟨.tuple #[(.string ⟨⟨oa⟩⟩),(.string ⟨⟨ju⟩⟩),(.int .i64 0)],?_,rfl,hbX.trans (belowK_b (w:=w) (Nat.le_refl _) _ D _ _ (by omega) hKX rfl rfl)⟩;simp [results,Tryz.f124,go_sem,hc1,hc2,hc3]
 case stop =>
  rintro D c pre W hD hpre ⟨rfl,hne,h1,h2,h3,hbel⟩ hK;have ho:some (([]:List UInt8),([]:List UInt8),res.1)=some (oa,ou,oc):=by
   rw [←hout];unfold y4w;rw [show (res.1 != 0)=true by simpa using hne];rfl
  cases ho
  gi_wp2
  refine ⟨by simp,.inl ⟨_,_,rfl,run_takeDeferred hK,?_⟩⟩;have hc1:=cell_kept h1.cell (grownBy_putObj' _ D (.deferred none)) (fun r e=>by cases e;exact ⟨_,hK,rfl⟩);have hc2:=cell_kept h2.cell (grownBy_putObj' _ D (.deferred none)) (fun r e=>by cases e;exact ⟨_,hK,rfl⟩);have hc3:=cell_kept h3.cell (grownBy_putObj' _ D (.deferred none)) (fun r e=>by cases e;exact ⟨_,hK,rfl⟩);rw [hszN] at hD;refine ⟨.tuple #[.string ⟨#[]⟩,.string ⟨#[]⟩,.int .i64 res.1],?_,rfl,hbel.trans (belowK_b (w:=w) (Nat.le_refl _) W D _ _ (by omega) hK rfl rfl)⟩;simp [results,Tryz.f124,go_sem,hc1,hc2,hc3]
set_option maxHeartbeats 4000000 in
theorem v6n (v0 v1 v2 v3 v4:Value) (s:List UInt8) (c:Int) (hc:c≠0) (w:World)
 (hlab:∀W,Below w.heap.size w W→Calls Tryz.prog 157 #[.agg #[v0,v1,v2,v3,v4],.string ⟨⟨s⟩⟩] W fun e w'=>∃v,e = .returned (.tuple #[v,.int .i64 c])∧Below W.heap.size W w') :
 Calls Tryz.prog 124 #[.agg #[v0,v1,v2,v3,v4],.string ⟨⟨s⟩⟩] w fun e w'=>e = .returned (.tuple #[.string ⟨#[]⟩,.string ⟨#[]⟩,.int .i64 c])∧Below w.heap.size w w':=by
 have hW0:Below w.heap.size w ((((w.alloc (.cells #[v0,v1,v2,v3,v4] 39)).alloc (.cells #[.string ⟨#[]⟩] 9)).alloc (.cells #[.string ⟨#[]⟩] 9)).alloc (.cells #[.int .i64 0] 44)) :=
  ((((Below.refl _ w).alloc (Nat.le_refl _) _).alloc (by simp) _).alloc (by simp<;>omega) _).alloc (by simp<;>omega) _
 have hR:∀X,Below (w.heap.size+4) ((((w.alloc (.cells #[v0,v1,v2,v3,v4] 39)).alloc (.cells #[.string ⟨#[]⟩] 9)).alloc (.cells #[.string ⟨#[]⟩] 9)).alloc (.cells #[.int .i64 0] 44)) X→Boxed X (w.heap.size+1) 9 (.string ⟨#[]⟩)∧Boxed X (w.heap.size+1+1) 9 (.string ⟨#[]⟩)∧Boxed X (w.heap.size+1+1+1) 44 (.int .i64 0):=fun X hX=>by
  refine ⟨?_,?_,?_⟩
  · show X.heap[_]? = _
    rw [hX.block _ (by omega),Below.heap_alloc _ _ _ (by simp<;>omega),Below.heap_alloc _ _ _ (by simp)];have:=heap_alloc_new (w.alloc (.cells #[v0,v1,v2,v3,v4] 39)) (.cells #[.string ⟨#[]⟩] 9)
    rwa [World.size_alloc] at this
  · show X.heap[_]? = _
    rw [hX.block _ (by omega),Below.heap_alloc _ _ _ (by simp)];have:=heap_alloc_new ((w.alloc (.cells #[v0,v1,v2,v3,v4] 39)).alloc (.cells #[.string ⟨#[]⟩] 9)) (.cells #[.string ⟨#[]⟩] 9)
    rwa [World.size_alloc,World.size_alloc] at this
  · show X.heap[_]? = _
    rw [hX.block _ (by omega)];have:=heap_alloc_new (((w.alloc (.cells #[v0,v1,v2,v3,v4] 39)).alloc (.cells #[.string ⟨#[]⟩] 9)).alloc (.cells #[.string ⟨#[]⟩] 9)) (.cells #[.int .i64 0] 44)
    rwa [World.size_alloc,World.size_alloc,World.size_alloc] at this
 have hl:=hlab _ hW0;clear hlab
 go_enter Tryz.func124,Tryz.ntmps124
 go_wp2_with (go_at_call 157;refine hl.mono ?_;rintro e w1 ⟨lv,rfl,hb1⟩;obtain ⟨q1,q2,q3⟩:=hR w1 (hb1.mono (by simp));have q4:=q1.cell;have q5:=q1.frozen;have q6:=q2.cell;have q7:=q2.frozen;have q8:=q3.cell;have q9:=q3.frozen)
 have e1:=zl (b':=w.heap.size+1+1+1) (u:=(.int .i64 c)) (zl (b':=w.heap.size+1+1) (u:=(.string ⟨#[]⟩)) (Boxed.set (.string ⟨#[]⟩) q1) (by omega)) (by omega);have e2:=zl (b':=w.heap.size+1+1+1) (u:=(.int .i64 c)) (Boxed.set (.string ⟨#[]⟩) (zl (b':=w.heap.size+1) (u:=(.string ⟨#[]⟩)) q2 (by omega))) (by omega);have e3:=Boxed.set (.int .i64 c) (zl (b':=w.heap.size+1+1) (u:=(.string ⟨#[]⟩)) (zl (b':=w.heap.size+1) (u:=(.string ⟨#[]⟩)) q3 (by omega)) (by omega));have hc1:=e1.cell;have hc2:=e2.cell;have hc3:=e3.cell;have hbX:=(((hW0.trans (hb1.mono (by simp<;>omega))).setCell (p:=⟨w.heap.size+1,0,none⟩) (show w.heap.size≤w.heap.size+1 by omega) (.string ⟨#[]⟩)).setCell (p:=⟨w.heap.size+1+1,0,none⟩) (show w.heap.size≤w.heap.size+1+1 by omega) (.string ⟨#[]⟩)).setCell (p:=⟨w.heap.size+1+1+1,0,none⟩) (show w.heap.size≤w.heap.size+1+1+1 by omega) (.int .i64 c)
 (try simp only [Exit.inBlock,Exit.then])
 refine bodyPost_ret (by simp [results,Tryz.results124,go_sem,hc1,hc2,hc3];try rfl) rfl ?_;exact ⟨rfl,hbX⟩
theorem x6x {f:FuncId} {fn:Func} {F:k8t} (h:zj Tryz.prog f ⟨q1h,z0k,F⟩) (hf:Tryz.prog.funcs[f]? = some fn) (hb:fn.body.isSome=true) (hname:(fn.name == "runtime.NumGoroutine")=false) {t0 t1 t2} {x r:List UInt8} {c:Int} (hF:F (t0,t1,t2,x,())=some (r,c,()))
 {w:World} {m:Md} (gi:GI w m) (hlt:∀b,m.a b→b<w.heap.size) {a:Array Value} (ht:qf w m [] (y9m t0 t1 t2) a.toList) :
 Calls Tryz.prog f #[.agg a,.string ⟨⟨x⟩⟩] w fun e w'=>e = .returned (.tuple #[.string ⟨⟨r⟩⟩,.int .i64 c])∧Below w.heap.size w w':=by
 refine (zj.call0 (v:=(t0,t1,t2,x,())) (y:=(r,c,())) h hf hb hname gi hlt rfl ⟨_,_,rfl,⟨a,rfl,ht⟩,_,_,rfl,rfl,rfl⟩ rfl hF ?_).mono fun e w' ⟨rv,h1,h2,ax,l',u,h3,h4⟩ => ?_
 · intro ax l' u h3
   cases jo h3;rfl
 · cases jo h3
   obtain ⟨v,r',e1,⟨b,e2,e3⟩,e4⟩:=h4;have e4':r'=[]:=e4;subst e4';cases e1;subst h1 e2;refine ⟨?_,h2⟩;obtain ⟨v1,q1,f1,rfl,v2,q2,f2,⟨rfl,_⟩,f4⟩:=e3;have f4':q2=[]:=f4;subst f4' f2;cases b;cases f1;rfl
theorem k2l {f:FuncId} {fn:Func} {F:y6x} (h:zj Tryz.prog f ⟨q1h,q7s,F⟩) (hf:Tryz.prog.funcs[f]? = some fn) (hb:fn.body.isSome=true) (hname:(fn.name == "runtime.NumGoroutine")=false) {t0 t1 t2} {x r:List UInt8} {c:Bool} (hF:F (t0,t1,t2,x,())=some (r,c,()))
 {w:World} {m:Md} (gi:GI w m) (hlt:∀b,m.a b→b<w.heap.size) {a:Array Value} (ht:qf w m [] (y9m t0 t1 t2) a.toList) :
 Calls Tryz.prog f #[.agg a,.string ⟨⟨x⟩⟩] w fun e w'=>e = .returned (.tuple #[.string ⟨⟨r⟩⟩,.bool c])∧Below w.heap.size w w':=by
 refine (zj.call0 (v:=(t0,t1,t2,x,())) (y:=(r,c,())) h hf hb hname gi hlt rfl ⟨_,_,rfl,⟨a,rfl,ht⟩,_,_,rfl,rfl,rfl⟩ rfl hF ?_).mono fun e w' ⟨rv,h1,h2,ax,l',u,h3,h4⟩ => ?_
 · intro ax l' u h3
   cases jo h3;rfl
 · cases jo h3
   obtain ⟨v,r',e1,⟨b,e2,e3⟩,e4⟩:=h4;have e4':r'=[]:=e4;subst e4';cases e1;subst h1 e2;refine ⟨?_,h2⟩;obtain ⟨v1,q1,f1,rfl,v2,q2,f2,rfl,f4⟩:=e3;have f4':q2=[]:=f4;subst f4' f2;cases b;cases f1;rfl
def z5x:k8s:=fun (t0,t1,t2,s,_)=>(j9n (t0,t1,t2,s,())).bind fun f=>(q1d f.1 f.2.1).bind fun lc=>bif lc.2 != 0 then some ([],[],lc.2,()) else bif decide (lc.1.length≤32) then (q3g (fun x=>(z5z (t0,t1,t2,x,())).map fun r=>(r.1,r.2.1)) (fun x=>(y5o (t0,t1,t2,x,())).map fun r=>(r.1,r.2.1)) lc.1 [] []).bind fun res=>(y4w res).map fun o=>(o.1,o.2.1,o.2.2,()) else none
theorem b6b:zj Tryz.prog 124 (f7f z5x):=by
 refine v1h Tryz.func124 (by kernel_rfl) (by kernel_rfl) (fun _=>rfl) (fun _=>rfl) ?_;rintro ⟨t0,t1,t2,s,u⟩ y hy w m args gi hn hlt hargs;obtain ⟨va,r1,e1,⟨a,rfl,ht⟩,vs,r2,e2,e3,e4⟩:=hargs;have e4':r2=[]:=e4;have e3':vs = .string ⟨⟨s⟩⟩:=e3;subst e4' e3' e2;have ha:args = #[.agg a,.string ⟨⟨s⟩⟩]:=by cases args;simpa using e1
 subst ha;have ht0:qf w m [] (y9m t0 t1 t2) a.toList:=ht;have hst:∀W,Below w.heap.size w W→Stp w m W m:=fun W hb=>yw hb fun b hb=>(hn b hb).elim;have htW:∀W,Below w.heap.size w W→qf W m [] (y9m t0 t1 t2) a.toList:=fun W hb=>qf.mono (hst W hb) (fun _ _ h=>h) _ _ ht0;have hltW:∀W,Below w.heap.size w W→∀b,m.a b→b<W.heap.size:=fun W hb b h=>Nat.lt_of_lt_of_le (hlt b h) hb.size;have g0:GI w m0:=⟨gi.i,fun b hb=>⟨(gi.b b hb).1,fun h=>h⟩⟩
 obtain ⟨v0,v1,v2,v3,v4,rfl⟩:∃v0 v1 v2 v3 v4,a = #[v0,v1,v2,v3,v4]:=by
  obtain ⟨w0,q0,f0,_,w1,q1,f1,_,w2,q2,f2,_,w3,q3,f3,_,w4,q4,f4,_,f5⟩:=ht0;have f5':q4=[]:=f5;subst f5' f4 f3 f2 f1;exact ⟨w0,w1,w2,w3,w4,by cases a;simpa using f0⟩
 have hy1:((j9n (t0,t1,t2,s,())).bind fun f=>(q1d f.1 f.2.1).bind fun lc =>
  bif lc.2 != 0 then some ([],[],lc.2,()) else
  bif decide (lc.1.length≤32) then
   (q3g (fun x=>(z5z (t0,t1,t2,x,())).map fun r=>(r.1,r.2.1)) (fun x=>(y5o (t0,t1,t2,x,())).map fun r=>(r.1,r.2.1)) lc.1 [] []).bind fun res=>(y4w res).map fun o=>(o.1,o.2.1,o.2.2,())
  else none)=some y:=hy
 obtain ⟨⟨f,ok,u0⟩,hf,hy2⟩:=Option.bind_eq_some_iff.1 hy1;obtain ⟨⟨ls,c⟩,hls,hy3⟩:=Option.bind_eq_some_iff.1 hy2;simp only at hls hy3;have hfold:∀W,Below w.heap.size w W→Calls Tryz.prog 151 #[.agg #[v0,v1,v2,v3,v4],.string ⟨⟨s⟩⟩] W fun e W'=>e = .returned (.tuple #[.string ⟨⟨f⟩⟩,.bool ok])∧Below W.heap.size W W' :=
  fun W hb=>k2l g5q Tryz.func151 (by kernel_rfl) (by kernel_rfl) hf (gi.mono (hst W hb)) (hltW W hb) (htW W hb)
 have hlab:∀W,Below w.heap.size w W→Calls Tryz.prog 157 #[.agg #[v0,v1,v2,v3,v4],.string ⟨⟨s⟩⟩] W fun e w'=>∃v,e = .returned (.tuple #[v,.int .i64 c])∧Below W.heap.size W w'∧w'.ownsRow W.heap.size 9 1 v ls.length (ls.map encS) :=
  fun W hb=>y3x v0 v1 v2 v3 v4 s f ok ls c W (zi g0 hb) hls fun W2 hb2=>hfold W2 (hb.trans (hb2.mono hb.size))
 suffices hmain:∃oa ou oc,y=(oa,ou,oc,())∧Calls Tryz.prog 124 #[.agg #[v0,v1,v2,v3,v4],.string ⟨⟨s⟩⟩] w fun e w'=>e = .returned (.tuple #[.string ⟨⟨oa⟩⟩,.string ⟨⟨ou⟩⟩,.int .i64 oc])∧Below w.heap.size w w' by
  obtain ⟨oa,ou,oc,rfl,hc⟩:=hmain;refine hc.mono fun e w' ⟨k1,k2⟩=>⟨_,k1,k2,.ret,[.tuple 3,.str,.str,.int .i64],(oa,ou,oc,()),q0e [.tuple 3,.str,.str,.int .i64] (oa,ou,oc,()),rfl,rfl,?_⟩
  exact ⟨_,[],rfl,⟨_,rfl,_,_,rfl,rfl,_,_,rfl,rfl,_,_,rfl,⟨rfl,fun h=>(by cases h)⟩,rfl⟩,rfl⟩
 by_cases hc:c=0
 · subst hc
   have hy4:(bif decide (ls.length≤32) then
    (q3g (fun x=>(z5z (t0,t1,t2,x,())).map fun r=>(r.1,r.2.1)) (fun x=>(y5o (t0,t1,t2,x,())).map fun r=>(r.1,r.2.1)) ls [] []).bind fun res=>(y4w res).map fun o=>(o.1,o.2.1,o.2.2,())
    else none)=some y:=hy3
   rcases ji hy4 with ⟨h32,hy5⟩|⟨_,hy5⟩
   case inr=>cases hy5
   obtain ⟨res,hres,hy6⟩:=Option.bind_eq_some_iff.1 hy5;obtain ⟨⟨oa,ou,oc⟩,hout,hy7⟩:=Option.map_eq_some_iff.1 hy6;refine ⟨oa,ou,oc,hy7.symm,?_⟩;refine v0t v0 v1 v2 v3 v4 s ls _ _ res w g0 (of_decide_eq_true h32) hres oa ou oc hout (fun W hb=>hlab W hb) ?_ ?_
   · intro x r hr W hb
     obtain ⟨⟨r1,r2,r3⟩,hq,rfl⟩:=Option.map_eq_some_iff.1 hr;exact x6x b6p Tryz.func159 (by kernel_rfl) (by kernel_rfl) hq (gi.mono (hst W hb)) (hltW W hb) (htW W hb)
   · intro x r hr W hb
     obtain ⟨⟨r1,r2,r3⟩,hq,rfl⟩:=Option.map_eq_some_iff.1 hr;exact x6x b6q Tryz.func160 (by kernel_rfl) (by kernel_rfl) hq (gi.mono (hst W hb)) (hltW W hb) (htW W hb)
 · rcases ji hy3 with ⟨_,hy4⟩|⟨h0,_⟩
   case inr=>exact (hc (by simpa using h0)).elim
   cases hy4;exact ⟨[],[],c,rfl,v6n v0 v1 v2 v3 v4 s c hc w fun W hb=>(hlab W hb).mono fun e w' ⟨v,k1,k2,_⟩=>⟨v,k1,k2⟩⟩
end Go.Proofs.YtiacnhhmkdkpmaaGreatDoorA.W
namespace Go.Proofs.YtiacnhhmkdkpmaaGreatDoorA.W
open Go Go.Ae
abbrev q7u:=qa×Int×Unit→Option (Int×Unit)
def k3a (f:q7u):FEnt:=⟨z3d,jh,f⟩
def d1h (f162:y2c):=lk [(162,g7d f162)]
def b0x (f162:y2c):q7u:=fun (x0,x1,_)=>(f162 (x0,x1,())).bind fun v=>some (v.1,())
def q3k:q7u:=b0x j6a
theorem k0x:FO 127 (k3a q3k):=kl z3d jh d1h b0x j6a (kc g5s kn) Tryz.func127
abbrev j4p:=Int×Bool×Unit→Option (Int×Bool×Unit)
def v4m (f:j4p):LEnt:=⟨x3w,x4t,f⟩
abbrev z1g:=Int×Bool×Unit→Option (Int×Bool×Unit)
def v4n (f:z1g):LEnt:=⟨x3w,x4t,f⟩
abbrev T90:=Int×Unit→Option (Bool×Unit)
def E90 (f:T90):FEnt:=⟨z3e,qq,f⟩
def K90 (f127:q7u):=lk [(127,k3a f127)]
theorem v9t:zd Tryz.prog (K90 q3k):=(kc k0x kn)
def v5d (f127:q7u):j4p:=fun (x0,x1,_)=>bif x1 then some (x0,true,()) else bif decide (x0≥48) then bif decide (x0≤57) then some (x0,true,()) else some (x0,decide (x0≥128),()) else some (x0,decide (x0≥128),())
def y6d:j4p:=v5d q3k
theorem f4m:zo 0 (qd (code Tryz.f90) [1,0,0,0,1,1,1]) (v4m y6d):=zc1 x3w x4t K90 v5d q3k v9t
def f0i (f90_c0:j4p):Ann:=(.cond .nil (.cut .nil (v4m f90_c0)))
def v5e (f127:q7u) (f90_c0:j4p):z1g:=fun (x0,x1,_)=>bif x1 then some (x0,true,()) else bif decide (x0≥65) then (f90_c0 (x0,decide (x0≤90),())).bind fun v=>some (v.1,v.2.1,()) else (f90_c0 (x0,false,())).bind fun v=>some (v.1,v.2.1,())
theorem f3o (f127:q7u) (f90_c0:j4p):AqC (K90 f127) 0 (qd (code Tryz.f90) [1,0,0,0,1]) (f0i f90_c0) x3w x4t (v5e f127 f90_c0):=fun v=>by kernel_rfl
def y6e:z1g:=v5e q3k y6d
theorem f4n:zo 0 (qd (code Tryz.f90) [1,0,0,0,1]) (v4n y6e) :=
 frd v9t (And.intro f4m trivial) (f3o q3k y6d)
def N90 (f90_c1:z1g):Ann:=(.seq .nil (.seq (.blk (.seq (.cut .nil (v4n f90_c1)) .nil)) .nil))
def F90 (f127:q7u) (f90_c1:z1g):T90:=fun (x0,_)=>bif decide (x0≥97) then (f90_c1 (x0,decide (x0≤122),())).bind fun v=>bif v.2.1 then some (true,()) else (f127 ([33,35,36,37,38,39,42,43,45,47,61,63,94,95,96,123,124,125,126],v.1,())).bind fun v=>some (decide (v.1≥0),()) else (f90_c1 (x0,false,())).bind fun v=>bif v.2.1 then some (true,()) else (f127 ([33,35,36,37,38,39,42,43,45,47,61,63,94,95,96,123,124,125,126],v.1,())).bind fun v=>some (decide (v.1≥0),())
def C90:T90:=F90 q3k y6e
theorem f5d:FO 90 (E90 C90):=xi z3e qq K90 N90 F90 q3k y6e v9t Tryz.func90 (And.intro f4n trivial)
abbrev j0l:=Int×qa×Int×Int×Int×Unit→Option (Int×qa×Int×Int×Int×Unit)
def x0c (f:j0l):LEnt:=⟨x3x,g2m,f⟩
abbrev j0m:=Int×qa×Int×Int×Int×Unit→Option (Int×qa×Int×Int×Int×Unit)
def x0d (f:j0m):LEnt:=⟨x3x,g2n,f⟩
abbrev y1w:=qa×Int×Int×Int×Unit→Option (qa×qa×Int×Int×Int×Unit)
def f7j (f:y1w):FEnt:=⟨q3d,q7e,f⟩
def k6p (f90:T90):=lk [(90,E90 f90)]
theorem y7y:zd Tryz.prog (k6p C90):=(kc f5d kn)
def q9y (f90:T90):j0l:=fun (x0,x1,x2,x3,x4,_)=>some (x0,x1,IntKind.i64.wrap (x2+1),x3,x4,())
def q2g:j0l:=q9y C90
theorem w2d:zo 1 (qd (code Tryz.f136) [1,1,0,0,0,1]) (x0c q2g):=zc1 x3x g2m k6p q9y C90 y7y
def k7y (f136_c0:j0l):Ann:=(.cut .nil (x0c f136_c0))
def q5e (f90:T90) (f136_c0:j0l):ye (Int×qa×Int×Int×Int×Unit) (Int×qa×Int×Int×Int×Unit):=fun (x0,x1,x2,x3,x4,_)=>bif decide (x2<(↑x1.length:Int)) then bif decide (0≤x2)&&decide (x2<(↑x1.length:Int)) then (f90 ((↑(x1.getD x2.toNat 0).toNat:Int),())).bind fun v=>bif v.1 then (f136_c0 (x0,x1,x2,x3,x4,())).bind fun v=>some (Sum.inl (v.1,v.2.1,v.2.2.1,v.2.2.2.1,v.2.2.2.2.1,())) else some (Sum.inr (x0,x1,x2,x3,x4,())) else none else some (Sum.inr (x0,x1,x2,x3,x4,()))
def q8n:j0m:=qb (q5e C90 q2g) je
theorem w2e:jf 1 (qd (code Tryz.f136) [1,1,0,0,0]) (x0d q8n):=y5l x3x g2n k6p k7y q5e C90 q2g y7y (And.intro w2d trivial)
def d4b (f136_l0:j0m):Ann:=(.seq .nil (.seq .nil (.seq (.blk (.loop (x0d f136_l0))) .nil)))
def k3s (f90:T90) (f136_l0:j0m):y1w:=fun (x0,x1,x2,x3,_)=>(f136_l0 (x1,x0,x1,x2,x3,())).bind fun v=>bif decide (0≤v.2.2.1)&&decide (v.2.2.1≤(↑(List.length v.2.1):Int)) then bif decide (0≤v.1)&&decide (v.1≤v.2.2.1) then some (List.drop (Int.toNat v.1) (List.take (Int.toNat v.2.2.1) v.2.1),v.2.1,v.2.2.1,v.2.2.2.1,v.2.2.2.2.1,()) else none else none
theorem d9d (f90:T90) (f136_l0:j0m):yd (k6p f90) 1 Tryz.f136 (d4b f136_l0) q3d q7e (k3s f90 f136_l0):=fun v=>by kernel_rfl
def y1a:y1w:=k3s C90 q8n
theorem b6g:FO 136 (f7j y1a) :=
 qo y7y Tryz.func136 (And.intro w2e trivial) (d9d C90 q8n)
abbrev q3y:=Int×Unit→Option (Bool×Unit)
def k3e (f:q3y):FEnt:=⟨z3e,qq,f⟩
def d1u (f127:q7u):=lk [(127,k3a f127)]
def b1a (f127:q7u):q3y:=fun (x0,_)=>(f127 ([32,9],x0,())).bind fun v=>some (decide (v.1≥0),())
def ve:q3y:=b1a q3k
theorem k1b:FO 174 (k3e ve):=kl z3e qq d1u b1a q3k (kc k0x kn) Tryz.func174
abbrev wy:=Int×Unit→Option (Bool×Unit)
def k3d (f:wy):FEnt:=⟨z3e,qq,f⟩
def d1t (f174:q3y):=lk [(174,k3e f174)]
def b0z (f174:q3y):wy:=fun (x0,_)=>(f174 (x0,())).bind fun v=>bif v.1 then some (true,()) else bif decide (x0>32) then some (bif x0==127 then false else true,()) else some (false,())
def yq:wy:=b0z ve
theorem k1a:FO 173 (k3d yq):=kl z3e qq d1t b0z ve (kc k1b kn) Tryz.func173
abbrev xy:=Int×Int×qa×Int×Int×Int×Unit→Option (qa×Int×Int×Int×Unit)
def v3h (f:xy):FEnt:=⟨w8y,g2o,f⟩
def b0y:xy:=fun (x0,x1,x2,x3,x4,x5,_)=>some (x2,x3,x0,x1,())
theorem d9i:yd xc 1 Tryz.f141 .nil w8y g2o (b0y):=fun v=>by kernel_rfl
def yf:xy:=b0y
theorem x6m:FO 141 (v3h yf) :=
 q0 kn Tryz.func141 (d9i)
abbrev q5u:=Int×qa×Int×Int×Int×qa×Unit→Option ((qa×qa×Int×Int×Int×Unit)⊕(Int×qa×Int×Int×Int×qa×Unit))
def x0e (f:q5u):LEnt:=⟨x3y,g2p,f⟩
abbrev j0n:=Int×qa×Int×Int×Int×qa×Unit→Option ((qa×Int×Int×Int×Unit)⊕(qa×qa×Int×Int×Int×Unit))
def x0f (f:j0n):LEnt:=⟨x3y,g2q,f⟩
abbrev y1x:=qa×Int×Int×Int×Unit→Option (qa×qa×Int×Int×Int×Unit)
def f7k (f:y1x):FEnt:=⟨q3d,q7e,f⟩
def k6q (f141:xy) (f173:wy):=lk [(141,v3h f141),(173,k3d f173)]
theorem y7z:zd Tryz.prog (k6q yf yq):=(kc x6m (kc k1a kn))
def z7d (f141:xy) (f173:wy):q5u:=fun (x0,x1,x2,x3,x4,x5,_)=>bif decide (0≤x0)&&decide (x0<(↑x1.length:Int)) then (f173 ((↑(x1.getD x0.toNat 0).toNat:Int),())).bind fun v=>bif !v.1 then (f141 (x0,4,x1,x2,x3,x4,())).bind fun v=>some (Sum.inl ([],v.1,v.2.1,v.2.2.1,v.2.2.2.1,())) else bif decide (0≤x0)&&decide (x0<(↑x1.length:Int)) then bif decide (x5.length+[UInt8.ofNat (↑(x1.getD x0.toNat 0).toNat:Int).toNat].length≤140737488355328/1) then some (Sum.inr (x0,x1,x2,x3,x4,x5++[UInt8.ofNat (↑(x1.getD x0.toNat 0).toNat:Int).toNat],())) else none else none else none
theorem w0d (f141:xy) (f173:wy):AqC (k6q f141 f173) 1 (qd (code Tryz.f137) [1,1,0,1,0,0,1,0,0,1,1,1]) .nil x3y g2p (z7d f141 f173):=fun v=>by kernel_rfl
def q4t:q5u:=z7d yf yq
theorem w2f:zo 1 (qd (code Tryz.f137) [1,1,0,1,0,0,1,0,0,1,1,1]) (x0e q4t) :=
 frc y7z (w0d yf yq)
def k7z (f137_c0:q5u):Ann:=(.seq .nil (.seq (.blk (.seq .nil (.seq .nil (.cut .nil (x0e f137_c0))))) .nil))
def vz (f141:xy) (f173:wy) (f137_c0:q5u):ye (Int×qa×Int×Int×Int×qa×Unit) ((qa×Int×Int×Int×Unit)⊕(qa×qa×Int×Int×Int×Unit)):=fun (x0,x1,x2,x3,x4,x5,_)=>bif decide (x0<(↑x1.length:Int)) then bif decide (0≤x0)&&decide (x0<(↑x1.length:Int)) then bif (↑(x1.getD x0.toNat 0).toNat:Int)==34 then some (Sum.inr (Sum.inr (x5,x1,IntKind.i64.wrap (x0+1),x3,x4,()))) else bif (↑(x1.getD x0.toNat 0).toNat:Int)==92 then bif IntKind.i64.wrap (x0+1)==(↑x1.length:Int) then some (Sum.inr (Sum.inl (x1,x2,x3,x4,()))) else (f137_c0 (IntKind.i64.wrap (x0+1),x1,x2,x3,x4,x5,())).bind fun v=>Sum.elim (fun v=>some (Sum.inr (Sum.inr (v.1,v.2.1,v.2.2.1,v.2.2.2.1,v.2.2.2.2.1,())))) (fun v=>some (Sum.inl (IntKind.i64.wrap (v.1+1),v.2.1,v.2.2.1,v.2.2.2.1,v.2.2.2.2.1,v.2.2.2.2.2.1,()))) v else (f137_c0 (x0,x1,x2,x3,x4,x5,())).bind fun v=>Sum.elim (fun v=>some (Sum.inr (Sum.inr (v.1,v.2.1,v.2.2.1,v.2.2.2.1,v.2.2.2.2.1,())))) (fun v=>some (Sum.inl (IntKind.i64.wrap (v.1+1),v.2.1,v.2.2.1,v.2.2.2.1,v.2.2.2.2.1,v.2.2.2.2.2.1,()))) v else none else some (Sum.inr (Sum.inl (x1,x2,x3,x4,())))
theorem w0e (f141:xy) (f173:wy) (f137_c0:q5u):AqL (k6q f141 f173) 1 (qd (code Tryz.f137) [1,1,0,1,0,0]) (k7z f137_c0) x3y g2q (vz f141 f173 f137_c0):=fun v=>by kernel_rfl
def q8o:j0n:=qb (vz yf yq q4t) je
theorem w2g:jf 1 (qd (code Tryz.f137) [1,1,0,1,0,0]) (x0f q8o) :=
 frm y7z (And.intro w2f trivial) (w0e yf yq q4t)
def d4c (f137_l0:j0n):Ann:=(.seq .nil (.seq .nil (.seq (.seq .nil (.blk (.loop (x0f f137_l0)))) .nil)))
def k3t (f141:xy) (f173:wy) (f137_l0:j0n):y1x:=fun (x0,x1,x2,x3,_)=>(f137_l0 (IntKind.i64.wrap (x1+1),x0,x1,x2,x3,[],())).bind fun v=>Sum.elim (fun v=>(f141 (v.2.1,4,v.1,v.2.1,v.2.2.1,v.2.2.2.1,())).bind fun v=>some ([],v.1,v.2.1,v.2.2.1,v.2.2.2.1,())) (fun v=>some (v.1,v.2.1,v.2.2.1,v.2.2.2.1,v.2.2.2.2.1,())) v
theorem d9e (f141:xy) (f173:wy) (f137_l0:j0n):yd (k6q f141 f173) 1 Tryz.f137 (d4c f137_l0) q3d q7e (k3t f141 f173 f137_l0):=fun v=>by kernel_rfl
def y1b:y1x:=k3t yf yq q8o
theorem b6h:FO 137 (f7k y1b) :=
 qo y7z Tryz.func137 (And.intro w2g trivial) (d9e yf yq q8o)
abbrev q5v:=Int×qa×qa×Int×Int×Int×Unit→Option (qa×qa×Int×Int×Int×Unit)
def x0g (f:q5v):LEnt:=⟨w8z,g2r,f⟩
abbrev j0o:=Int×qa×Int×Int×Int×Unit→Option ((qa×Int×Int×Int×Unit)⊕(qa×qa×Int×Int×Int×Unit))
def x0h (f:j0o):LEnt:=⟨w9a,g2s,f⟩
abbrev y1y:=qa×Int×Int×Int×Unit→Option (qa×qa×Int×Int×Int×Unit)
def f7l (f:y1y):FEnt:=⟨q3d,q7e,f⟩
def k6r (f141:xy) (f173:wy) (f174:q3y):=lk [(141,v3h f141),(173,k3d f173),(174,k3e f174)]
theorem y8a:zd Tryz.prog (k6r yf yq ve):=(kc x6m (kc k1a (kc k1b kn)))
def wg (f141:xy) (f173:wy) (f174:q3y):q5v:=fun (x0,x1,x2,x3,x4,x5,_)=>some (x1,x2,IntKind.i64.wrap (x0+1),x4,x5,())
theorem w0f (f141:xy) (f173:wy) (f174:q3y):AqC (k6r f141 f173 f174) 1 (qd (code Tryz.f138) [1,0,1,0,0,1,0,0,1,0,1,0,1]) .nil w8z g2r (wg f141 f173 f174):=fun v=>by kernel_rfl
def xn:q5v:=wg yf yq ve
theorem w2h:zo 1 (qd (code Tryz.f138) [1,0,1,0,0,1,0,0,1,0,1,0,1]) (x0g xn) :=
 frc y8a (w0f yf yq ve)
def k8a (f138_c0:q5v):Ann:=(.seq .nil (.seq (.blk (.seq .nil (.blk (.seq .nil (.cond (.cut .nil (x0g f138_c0)) .nil))))) .nil))
def ka (f141:xy) (f173:wy) (f174:q3y) (f138_c0:q5v):ye (Int×qa×Int×Int×Int×Unit) ((qa×Int×Int×Int×Unit)⊕(qa×qa×Int×Int×Int×Unit)):=fun (x0,x1,x2,x3,x4,_)=>bif decide (x0<(↑x1.length:Int)) then bif decide (0≤x0)&&decide (x0<(↑x1.length:Int)) then bif (↑(x1.getD x0.toNat 0).toNat:Int)==93 then bif decide (0≤x0)&&decide (x0≤(↑x1.length:Int)) then bif decide (0≤IntKind.i64.wrap (x2+1))&&decide (IntKind.i64.wrap (x2+1)≤x0) then (f138_c0 (x0,List.drop (IntKind.i64.wrap (x2+1)).toNat (List.take x0.toNat x1),x1,x2,x3,x4,())).bind fun v=>some (Sum.inr (Sum.inr (v.1,v.2.1,v.2.2.1,v.2.2.2.1,v.2.2.2.2.1,()))) else none else none else bif (↑(x1.getD x0.toNat 0).toNat:Int)==91 then (f141 (x0,4,x1,x2,x3,x4,())).bind fun v=>some (Sum.inr (Sum.inr ([],v.1,v.2.1,v.2.2.1,v.2.2.2.1,()))) else bif (↑(x1.getD x0.toNat 0).toNat:Int)==92 then (f141 (x0,4,x1,x2,x3,x4,())).bind fun v=>some (Sum.inr (Sum.inr ([],v.1,v.2.1,v.2.2.1,v.2.2.2.1,()))) else (f174 ((↑(x1.getD x0.toNat 0).toNat:Int),())).bind fun v=>bif v.1 then (f141 (x0,4,x1,x2,x3,x4,())).bind fun v=>some (Sum.inr (Sum.inr ([],v.1,v.2.1,v.2.2.1,v.2.2.2.1,()))) else (f173 ((↑(x1.getD x0.toNat 0).toNat:Int),())).bind fun v=>bif !v.1 then (f141 (x0,4,x1,x2,x3,x4,())).bind fun v=>some (Sum.inr (Sum.inr ([],v.1,v.2.1,v.2.2.1,v.2.2.2.1,()))) else some (Sum.inl (IntKind.i64.wrap (x0+1),x1,x2,x3,x4,())) else none else some (Sum.inr (Sum.inl (x1,x2,x3,x4,())))
theorem w0g (f141:xy) (f173:wy) (f174:q3y) (f138_c0:q5v):AqL (k6r f141 f173 f174) 1 (qd (code Tryz.f138) [1,0,1,0,0]) (k8a f138_c0) w9a g2s (ka f141 f173 f174 f138_c0):=fun v=>by kernel_rfl
def q8p:j0o:=qb (ka yf yq ve xn) je
theorem w2i:jf 1 (qd (code Tryz.f138) [1,0,1,0,0]) (x0h q8p) :=
 frm y8a (And.intro w2h trivial) (w0g yf yq ve xn)
def d4d (f138_l0:j0o):Ann:=(.seq .nil (.seq (.seq .nil (.blk (.loop (x0h f138_l0)))) .nil))
def x8b (f141:xy) (f173:wy) (f174:q3y) (f138_l0:j0o):y1y:=fun (x0,x1,x2,x3,_)=>(f138_l0 (IntKind.i64.wrap (x1+1),x0,x1,x2,x3,())).bind fun v=>Sum.elim (fun v=>(f141 (v.2.1,4,v.1,v.2.1,v.2.2.1,v.2.2.2.1,())).bind fun v=>some ([],v.1,v.2.1,v.2.2.1,v.2.2.2.1,())) (fun v=>some (v.1,v.2.1,v.2.2.1,v.2.2.2.1,v.2.2.2.2.1,())) v
theorem d9f (f141:xy) (f173:wy) (f174:q3y) (f138_l0:j0o):yd (k6r f141 f173 f174) 1 Tryz.f138 (d4d f138_l0) q3d q7e (x8b f141 f173 f174 f138_l0):=fun v=>by kernel_rfl
def y1c:y1y:=x8b yf yq ve q8p
theorem b6i:FO 138 (f7l y1c) :=
 qo y8a Tryz.func138 (And.intro w2i trivial) (d9f yf yq ve q8p)
abbrev j0q:=Int×Int×Int×Int×qa×Int×Int×Int×Unit→Option ((Int×Int×qa×Int×Int×Int×Unit)⊕(Int×Int×qa×Int×Int×Int×Unit)⊕(qa×qa×Int×Int×Int×Unit))
def x0j (f:j0q):LEnt:=⟨w9b,g2t,f⟩
abbrev j0p:=Int×Int×qa×Int×Int×Int×Unit→Option (qa×qa×Int×Int×Int×Unit)
def x0i (f:j0p):LEnt:=⟨z4g,x4u,f⟩
abbrev y1z:=qa×Int×Int×Int×Unit→Option (qa×qa×Int×Int×Int×Unit)
def f7m (f:y1z):FEnt:=⟨q3d,q7e,f⟩
def k6s (f141:xy) (f173:wy):=lk [(141,v3h f141),(173,k3d f173)]
theorem y8b:zd Tryz.prog (k6s yf yq):=(kc x6m (kc k1a kn))
def zw (f141:xy) (f173:wy):ye (Int×Int×Int×Int×qa×Int×Int×Int×Unit) ((Int×Int×qa×Int×Int×Int×Unit)⊕(Int×Int×qa×Int×Int×Int×Unit)⊕(qa×qa×Int×Int×Int×Unit)):=fun (x0,x1,x2,x3,x4,x5,x6,x7,_)=>bif decide (x3<(↑x4.length:Int)) then bif decide (0≤x3)&&decide (x3<(↑x4.length:Int)) then bif (↑(x4.getD x3.toNat 0).toNat:Int)==40 then bif decide (IntKind.i64.wrap (x1+1)>32) then some (Sum.inr (Sum.inr (Sum.inl (6,x3,x4,x5,x6,x7,())))) else some (Sum.inl (x0,IntKind.i64.wrap (x1+1),x2,IntKind.i64.wrap (x3+1),x4,x5,x6,x7,())) else bif (↑(x4.getD x3.toNat 0).toNat:Int)==41 then bif IntKind.i64.wrap (x1-1)==0 then bif decide (0≤x3)&&decide (x3≤(↑x4.length:Int)) then bif decide (0≤IntKind.i64.wrap (x0+1))&&decide (IntKind.i64.wrap (x0+1)≤x3) then some (Sum.inr (Sum.inr (Sum.inr (List.drop (IntKind.i64.wrap (x0+1)).toNat (List.take x3.toNat x4),x4,IntKind.i64.wrap (x3+1),x6,x7,())))) else none else none else some (Sum.inl (x0,IntKind.i64.wrap (x1-1),x2,IntKind.i64.wrap (x3+1),x4,x5,x6,x7,())) else bif (↑(x4.getD x3.toNat 0).toNat:Int)==92 then bif IntKind.i64.wrap (x3+1)==(↑x4.length:Int) then some (Sum.inl (x0,x1,x2,IntKind.i64.wrap (IntKind.i64.wrap (x3+1)+1),x4,x5,x6,x7,())) else bif decide (0≤IntKind.i64.wrap (x3+1))&&decide (IntKind.i64.wrap (x3+1)<(↑x4.length:Int)) then (f173 ((↑(x4.getD (IntKind.i64.wrap (x3+1)).toNat 0).toNat:Int),())).bind fun v=>bif !v.1 then some (Sum.inr (Sum.inr (Sum.inl (x2,IntKind.i64.wrap (x3+1),x4,x5,x6,x7,())))) else some (Sum.inl (x0,x1,x2,IntKind.i64.wrap (IntKind.i64.wrap (x3+1)+1),x4,x5,x6,x7,())) else none else (f173 ((↑(x4.getD x3.toNat 0).toNat:Int),())).bind fun v=>bif !v.1 then some (Sum.inr (Sum.inr (Sum.inl (x2,x3,x4,x5,x6,x7,())))) else some (Sum.inl (x0,x1,x2,IntKind.i64.wrap (x3+1),x4,x5,x6,x7,())) else none else some (Sum.inr (Sum.inl (x0,x2,x4,x5,x6,x7,())))
def q8q:j0q:=qb (zw yf yq) je
theorem w2k:jf 1 (qd (code Tryz.f139) [1,0,1,1,0,1,0,0]) (x0j q8q):=zl2 w9b g2t k6s zw yf yq y8b
def z7e (f141:xy) (f173:wy):ye (Int×Int×qa×Int×Int×Int×Unit) (qa×qa×Int×Int×Int×Unit):=fun (x0,x1,x2,x3,x4,x5,_)=>(f141 (x1,x0,x2,x3,x4,x5,())).bind fun v=>some (Sum.inr ([],v.1,v.2.1,v.2.2.1,v.2.2.2.1,()))
theorem w0h (f141:xy) (f173:wy) (v:HS z4g):aev Γ (k6s f141 f173) 1 ((findLabel (qd (code Tryz.f139) [1,0]) 0).getD .skip) .nil (k2h z4g v) (q0y 1 0 [] z4g x4u)=z7e f141 f173 v:=by kernel_rfl
def q4u:j0p:=qb (z7e yf yq) je
theorem w2j:za Tryz.prog 1 (jy Tryz.prog (qd (code Tryz.f139) [1,0]) 0) (x0i q4u) :=
 ym (ins:=z4g) (os:=x4u) (C:=q4u) (q7z (ins:=z4g) (os:=x4u) (n := .nil) (ls:=[]) (F:=z7e yf yq) (rest:=((findLabel (qd (code Tryz.f139) [1,0]) 0).getD .skip)) hm hΓ y8b (fun _=>je) (by kernel_rfl) (jt _) j2r (w0h yf yq)) rfl
def d4e (f139_g0:j0p) (f139_l0:j0q):Ann:=(.seq .nil (.scope (.seq .nil (.seq .nil (.seq (.seq .nil (.blk (.loop (x0j f139_l0)))) .nil))) [(0,(x0i f139_g0))]))
def x8c (f141:xy) (f173:wy) (f139_g0:j0p) (f139_l0:j0q):y1z:=fun (x0,x1,x2,x3,_)=>(f139_l0 (x1,0,4,x1,x0,x1,x2,x3,())).bind fun v=>Sum.elim (fun v=>(f141 (v.1,v.2.1,v.2.2.1,v.2.2.2.1,v.2.2.2.2.1,v.2.2.2.2.2.1,())).bind fun v=>some ([],v.1,v.2.1,v.2.2.1,v.2.2.2.1,())) (fun v=>Sum.elim (fun v=>(f139_g0 (v.1,v.2.1,v.2.2.1,v.2.2.2.1,v.2.2.2.2.1,v.2.2.2.2.2.1,())).bind fun v=>some (v.1,v.2.1,v.2.2.1,v.2.2.2.1,v.2.2.2.2.1,())) (fun v=>some (v.1,v.2.1,v.2.2.1,v.2.2.2.1,v.2.2.2.2.1,())) v) v
theorem d9g (f141:xy) (f173:wy) (f139_g0:j0p) (f139_l0:j0q):yd (k6s f141 f173) 1 Tryz.f139 (d4e f139_g0 f139_l0) q3d q7e (x8c f141 f173 f139_g0 f139_l0):=fun v=>by kernel_rfl
def y1d:y1z:=x8c yf yq q4u q8q
theorem b6j:FO 139 (f7m y1d) :=
 qo y8b Tryz.func139 (And.intro w2k (And.intro w2j trivial)) (d9g yf yq q4u q8q)
abbrev j0r:=Int×Bool×qa×Int×Int×Int×Unit→Option ((Int×qa×Int×Int×Int×Unit)⊕(qa×qa×Int×Int×Int×Unit))
def x0k (f:j0r):LEnt:=⟨w9c,g2u,f⟩
abbrev j0s:=Int×qa×Int×Int×Int×Unit→Option ((Int×qa×Int×Int×Int×Unit)⊕(qa×qa×Int×Int×Int×Unit))
def x0l (f:j0s):LEnt:=⟨w9d,g2v,f⟩
abbrev y2a:=qa×Int×Int×Int×Unit→Option (qa×qa×Int×Int×Int×Unit)
def f7n (f:y2a):FEnt:=⟨q3d,q7e,f⟩
def k6t (f174:q3y):=lk [(174,k3e f174)]
theorem y8c:zd Tryz.prog (k6t ve):=(kc k1b kn)
def j7f (f174:q3y):j0r:=fun (x0,x1,x2,x3,x4,x5,_)=>bif x1 then some (Sum.inl (x0,x2,IntKind.i64.wrap (x3+3),x4,x5,())) else bif decide (0≤x3)&&decide (x3≤(↑x2.length:Int)) then bif decide (0≤x0)&&decide (x0≤x3) then some (Sum.inr (List.drop x0.toNat (List.take x3.toNat x2),x2,x3,x4,x5,())) else none else none
def vq:j0r:=j7f ve
theorem w2l:zo 1 (qd (code Tryz.f140) [1,1,0,0,0,1,0,1,0,1,1,1]) (x0k vq):=zc1 w9c g2u k6t j7f ve y8c
def k8b (f140_c0:j0r):Ann:=(.seq .nil (.blk (.seq .nil (.blk (.seq .nil (.cond .nil (.cut .nil (x0k f140_c0))))))))
def yr (f174:q3y) (f140_c0:j0r):ye (Int×qa×Int×Int×Int×Unit) ((Int×qa×Int×Int×Int×Unit)⊕(qa×qa×Int×Int×Int×Unit)):=fun (x0,x1,x2,x3,x4,_)=>bif decide (x2<(↑x1.length:Int)) then bif decide (0≤x2)&&decide (x2≤(↑x1.length:Int)) then bif decide (0<(↑(List.drop x2.toNat x1).length:Int)) then (f174 ((↑((List.drop x2.toNat x1).getD 0 0).toNat:Int),())).bind fun v=>bif v.1 then some (Sum.inl (x0,x1,IntKind.i64.wrap (x2+1),x3,x4,())) else bif decide ((↑(List.drop x2.toNat x1).length:Int)>2) then bif decide (2≤(↑(List.drop x2.toNat x1).length:Int)) then bif List.take 2 (List.drop x2.toNat x1)==[13,10] then bif decide (2<(↑(List.drop x2.toNat x1).length:Int)) then (f174 ((↑((List.drop x2.toNat x1).getD 2 0).toNat:Int),())).bind fun v=>(f140_c0 (x0,v.1,x1,x2,x3,x4,())).bind fun v=>Sum.elim (fun v=>some (Sum.inl (v.1,v.2.1,v.2.2.1,v.2.2.2.1,v.2.2.2.2.1,()))) (fun v=>some (Sum.inr (Sum.inr (v.1,v.2.1,v.2.2.1,v.2.2.2.1,v.2.2.2.2.1,())))) v else none else (f140_c0 (x0,false,x1,x2,x3,x4,())).bind fun v=>Sum.elim (fun v=>some (Sum.inl (v.1,v.2.1,v.2.2.1,v.2.2.2.1,v.2.2.2.2.1,()))) (fun v=>some (Sum.inr (Sum.inr (v.1,v.2.1,v.2.2.1,v.2.2.2.1,v.2.2.2.2.1,())))) v else none else (f140_c0 (x0,false,x1,x2,x3,x4,())).bind fun v=>Sum.elim (fun v=>some (Sum.inl (v.1,v.2.1,v.2.2.1,v.2.2.2.1,v.2.2.2.2.1,()))) (fun v=>some (Sum.inr (Sum.inr (v.1,v.2.1,v.2.2.1,v.2.2.2.1,v.2.2.2.2.1,())))) v else none else none else some (Sum.inr (Sum.inl (x0,x1,x2,x3,x4,())))
def q4v:j0s:=qb (yr ve vq) je
theorem w2m:jf 1 (qd (code Tryz.f140) [1,1,0,0,0]) (x0l q4v):=y5l w9d g2v k6t k8b yr ve vq y8c (And.intro w2l trivial)
def d4f (f140_l0:j0s):Ann:=(.seq .nil (.seq .nil (.seq (.blk (.loop (x0l f140_l0))) .nil)))
def v4r (f174:q3y) (f140_l0:j0s):y2a:=fun (x0,x1,x2,x3,_)=>(f140_l0 (x1,x0,x1,x2,x3,())).bind fun v=>Sum.elim (fun v=>bif decide (0≤v.2.2.1)&&decide (v.2.2.1≤(↑(List.length v.2.1):Int)) then bif decide (0≤v.1)&&decide (v.1≤v.2.2.1) then some (List.drop (Int.toNat v.1) (List.take (Int.toNat v.2.2.1) v.2.1),v.2.1,v.2.2.1,v.2.2.2.1,v.2.2.2.2.1,()) else none else none) (fun v=>some (v.1,v.2.1,v.2.2.1,v.2.2.2.1,v.2.2.2.2.1,())) v
theorem d9h (f174:q3y) (f140_l0:j0s):yd (k6t f174) 1 Tryz.f140 (d4f f140_l0) q3d q7e (v4r f174 f140_l0):=fun v=>by kernel_rfl
def y1e:y2a:=v4r ve q4v
theorem b6k:FO 140 (f7n y1e) :=
 qo y8c Tryz.func140 (And.intro w2m trivial) (d9h ve q4v)
abbrev q5o:=Int×Int×qa×Int×Int×Int×Int×qa×Int×Unit→Option (qa×Int×Int×Int×Int×qa×Int×Unit)
def y9s (f:q5o):LEnt:=⟨w9e,g2x,f⟩
abbrev x8p:=qa×Int×Int×Int×Unit→Option (Int×qa×Int×qa×Int×Int×Int×Unit)
def f6v (f:x8p):FEnt:=⟨q3d,g2w,f⟩
def g8j (f127:q7u) (f136:y1w) (f137:y1x) (f138:y1y) (f139:y1z) (f140:y2a) (f141:xy) (f90:T90):=lk [(127,k3a f127),(136,f7j f136),(137,f7k f137),(138,f7l f138),(139,f7m f139),(140,f7n f140),(141,v3h f141),(90,E90 f90)]
theorem v8r:zd Tryz.prog (g8j q3k y1a y1b y1c y1d y1e yf C90):=(kc k0x (kc b6g (kc b6h (kc b6i (kc b6j (kc b6k (kc x6m (kc f5d kn))))))))
def wd (f127:q7u) (f136:y1w) (f137:y1x) (f138:y1y) (f139:y1z) (f140:y2a) (f141:xy) (f90:T90):q5o:=fun (x0,x1,x2,x3,x4,x5,x6,x7,x8,_)=>(f90 (x1,())).bind fun v=>bif v.1 then (f136 (x2,x3,x4,x5,())).bind fun v=>some (v.2.1,v.2.2.1,v.2.2.2.1,v.2.2.2.2.1,0,v.1,x0,()) else (f127 ([60,62,58,59,64,44,46],x1,())).bind fun v=>bif decide (v.1≥0) then bif decide (0≤IntKind.i64.wrap (x3+1))&&decide (IntKind.i64.wrap (x3+1)≤(↑x2.length:Int)) then bif decide (0≤x0)&&decide (x0≤IntKind.i64.wrap (x3+1)) then some (x2,IntKind.i64.wrap (x3+1),x4,x5,2,List.drop x0.toNat (List.take (IntKind.i64.wrap (x3+1)).toNat x2),x0,()) else none else none else bif x1==34 then (f137 (x2,x3,x4,x5,())).bind fun v=>some (v.2.1,v.2.2.1,v.2.2.2.1,v.2.2.2.2.1,1,v.1,x0,()) else bif x1==91 then (f138 (x2,x3,x4,x5,())).bind fun v=>some (v.2.1,v.2.2.1,v.2.2.2.1,v.2.2.2.2.1,5,v.1,x0,()) else bif x1==40 then (f139 (x2,x3,x4,x5,())).bind fun v=>some (v.2.1,v.2.2.1,v.2.2.2.1,v.2.2.2.2.1,3,v.1,x0,()) else (f140 (x2,x3,x4,x5,())).bind fun v=>bif v.1==[] then (f141 (x0,4,v.2.1,v.2.2.1,v.2.2.2.1,v.2.2.2.2.1,())).bind fun v1=>some (v1.1,v1.2.1,v1.2.2.1,v1.2.2.2.1,4,v.1,x0,()) else some (v.2.1,v.2.2.1,v.2.2.2.1,v.2.2.2.2.1,4,v.1,x0,())
theorem k9y (f127:q7u) (f136:y1w) (f137:y1x) (f138:y1y) (f139:y1z) (f140:y2a) (f141:xy) (f90:T90):AqC (g8j f127 f136 f137 f138 f139 f140 f141 f90) 1 (qd (code Tryz.f105) [1,1]) .nil w9e g2x (wd f127 f136 f137 f138 f139 f140 f141 f90):=fun v=>by kernel_rfl
def xk:q5o:=wd q3k y1a y1b y1c y1d y1e yf C90
theorem w1t:zo 1 (qd (code Tryz.f105) [1,1]) (y9s xk) :=
 frc v8r (k9y q3k y1a y1b y1c y1d y1e yf C90)
def d3s (f105_c0:q5o):Ann:=(.seq .nil (.cut .nil (y9s f105_c0)))
def z3a (f127:q7u) (f136:y1w) (f137:y1x) (f138:y1y) (f139:y1z) (f140:y2a) (f141:xy) (f90:T90) (f105_c0:q5o):x8p:=fun (x0,x1,x2,x3,_)=>bif decide (0≤x1)&&decide (x1<(↑x0.length:Int)) then (f105_c0 (x1,(↑(x0.getD x1.toNat 0).toNat:Int),x0,x1,x2,x3,0,[],0,())).bind fun v=>some (v.2.2.2.2.1,v.2.2.2.2.2.1,v.2.2.2.2.2.2.1,v.1,v.2.1,v.2.2.1,v.2.2.2.1,()) else none
theorem d8x (f127:q7u) (f136:y1w) (f137:y1x) (f138:y1y) (f139:y1z) (f140:y2a) (f141:xy) (f90:T90) (f105_c0:q5o):yd (g8j f127 f136 f137 f138 f139 f140 f141 f90) 1 Tryz.f105 (d3s f105_c0) q3d g2w (z3a f127 f136 f137 f138 f139 f140 f141 f90 f105_c0):=fun v=>by kernel_rfl
def z5v:x8p:=z3a q3k y1a y1b y1c y1d y1e yf C90 xk
theorem b5r:FO 105 (f6v z5v) :=
 qo v8r Tryz.func105 (And.intro w1t trivial) (d8x q3k y1a y1b y1c y1d y1e yf C90 xk)
abbrev z9b:=qa×ya×qa×Int×Int×Int×Unit→Option ((ya×Unit)⊕(Int×Int×Unit))
def v4e (f:z9b):LEnt:=⟨w9f,g2z,f⟩
abbrev T67:=qa×Unit→Option (ya×Int×Int×Unit)
def E67 (f:T67):FEnt:=⟨kf,g2y,f⟩
def K67 (f105:x8p) (f83:T83):=lk [(105,f6v f105),(83,E83 f83)]
theorem g5b:zd Tryz.prog (K67 z5v C83):=(kc b5r (kc y8s kn))
def q3u (f105:x8p) (f83:T83):ye (qa×ya×qa×Int×Int×Int×Unit) ((ya×Unit)⊕(Int×Int×Unit)):=fun (x0,x1,x2,x3,x4,x5,_)=>bif decide (x3<(↑x0.length:Int)) then (f105 (x2,x3,x4,x5,())).bind fun v=>bif decide (x1.length+[(v.1,v.2.1,v.2.2.1)].length≤140737488355328/32) then bif v.2.2.2.2.2.2.1 != 0 then some (Sum.inr (Sum.inr (v.2.2.2.2.2.1,v.2.2.2.2.2.2.1,()))) else some (Sum.inl (x0,x1++[(v.1,v.2.1,v.2.2.1)],v.2.2.2.1,v.2.2.2.2.1,v.2.2.2.2.2.1,v.2.2.2.2.2.2.1,())) else none else some (Sum.inr (Sum.inl (x1,())))
def j9z:z9b:=qb (q3u z5v C83) je
theorem f4e:jf 0 (qd (code Tryz.f67) [1,1,1,1,1,0,0,0]) (v4e j9z):=zl2 w9f g2z K67 q3u z5v C83 g5b
def N67 (f67_l0:z9b):Ann:=(.seq .nil (.seq .nil (.seq .nil (.seq .nil (.seq .nil (.seq (.blk (.loop (v4e f67_l0))) .nil))))))
def F67 (f105:x8p) (f83:T83) (f67_l0:z9b):T67:=fun (x0,_)=>bif decide ((↑x0.length:Int)>2000) then some ([],0,5,()) else (f83 (x0,())).bind fun v=>bif decide (v.2.1≥0) then some ([],v.2.1,7,()) else (f67_l0 (x0,[],x0,0,0,0,())).bind fun v=>Sum.elim (fun v=>some (v.1,0,0,())) (fun v=>some ([],v.1,v.2.1,())) v
def C67:T67:=F67 z5v C83 j9z
theorem d0c:FO 67 (E67 C67):=j5x kf g2y K67 N67 F67 z5v C83 j9z g5b Tryz.func67 (And.intro f4e trivial)
abbrev q5y:=Int×ya×Int×qa×qa×Unit→Option (Int×ya×Int×qa×qa×Unit)
def x0q (f:q5y):LEnt:=⟨w9h,g3b,f⟩
abbrev kg:=Int×ya×Int×qa×qa×Unit→Option (Int×ya×Int×qa×qa×Unit)
def x7w (f:kg):FEnt:=⟨w9g,g3a,f⟩
def z7g:q5y:=fun (x0,x1,x2,x3,x4,_)=>bif decide (0≤IntKind.i64.wrap (x2+x0))&&decide (IntKind.i64.wrap (x2+x0)<(↑x1.length:Int)) then some ((x1.getD (IntKind.i64.wrap (x2+x0)).toNat (0,([],0))).1,x1,x2,x3,x4,()) else none
def q8u:q5y:=z7g
theorem w2r:zo 1 (qd (code Tryz.f146) [1,1]) (x0q q8u):=zc0 w9h g3b xc z7g kn
def d4j (f146_c0:q5y):Ann:=(.seq .nil (.cut .nil (x0q f146_c0)))
def k3y (f146_c0:q5y):kg:=fun (x0,x1,x2,x3,x4,_)=>bif decide (IntKind.i64.wrap (x2+x0)≥(↑x1.length:Int)) then some (-1,x1,x2,x3,x4,()) else (f146_c0 (x0,x1,x2,x3,x4,())).bind fun v=>some (v.1,v.2.1,v.2.2.1,v.2.2.2.1,v.2.2.2.2.1,())
theorem d9j (f146_c0:q5y):yd xc 1 Tryz.f146 (d4j f146_c0) w9g g3a (k3y f146_c0):=fun v=>by kernel_rfl
def yx:kg:=k3y q8u
theorem y4k:FO 146 (x7w yx) :=
 qo kn Tryz.func146 (And.intro w2r trivial) (d9j q8u)
end Go.Proofs.YtiacnhhmkdkpmaaGreatDoorA.W
