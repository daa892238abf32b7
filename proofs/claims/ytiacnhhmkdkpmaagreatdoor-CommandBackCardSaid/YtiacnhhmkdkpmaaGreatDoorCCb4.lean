/- The texts of the proof, one behind the other: W4, W5, W6, W7, W8, XDom, W9, W10. -/
import Derived.Test.YtiacnhhmkdkpmaaGreatDoorCCb3
import Derived.RangeFuncBox
import Derived.OwnWalkIn
import Derived.TacticsInMore
import Derived.LoopNIn
import Derived.LoopIn
import Derived.Sort.LoopGhostIn
import Derived.Maps.AppendAt
open Go.Proofs.Tryz
open Array (replicate_succ replicate_zero)
open List (append_toArray cons_append getElem?_eq_getElem getElem?_map length_cons length_nil nil_append push_toArray size_toArray)
open Nat (le_refl le_trans reduceAdd reduceSub)
open Option (bind_eq_some_iff map_eq_some_iff)
set_option maxRecDepth 100000
set_option linter.unusedVariables false
namespace Go.Proofs.YtiacnhhmkdkpmaaGreatDoorC.W
open Go Go.Ae
abbrev j2v:=(Int×Int)×Int×Int×Int×List (Int)×qu×qw×qx×Unit->Option ((Int×Int)×Int×Int×List (Int)×qu×qw×qx×Unit)
def x2d(f:j2v):LEnt:=⟨b1k,b2d,f⟩
abbrev q0p:=(Int×Int)×Int×Int×Int×List (Int)×qu×qw×qx×Unit->Option (List (Int)×qu×qw×qx×Unit)
def f9w(f:q0p):FEnt:=⟨y6a,j4q,f⟩
def g8m(f316:y6k):=lk [(316,f9x f316)]
theorem v8z:zh prog (g8m z2r):=(kc b9r kn)
def j8l(f316:y6k):ym ((Int×Int)×Int×Int×Int×List (Int)×qu×qw×qx×Unit) ((Int×Int)×Int×Int×List (Int)×qu×qw×qx×Unit):=λ(x0,x1,x2,x3,x4,x5,x6,x7,_)=>bif x2 != x3 then bif decide (x2>x3)then(f316 (((↑(Int.toNat x0.1):Int),(↑(Int.toNat x0.2):Int)),IntKind.i64.wrap (x1-x2),x1,x3,x4,x5,x6,x7,())).bind λv=>some (Sum.inl (((↑(Int.toNat x0.1):Int),(↑(Int.toNat x0.2):Int)),x1,IntKind.i64.wrap (x2-x3),x3,v.1,v.2.1,v.2.2.1,v.2.2.2.1,()))else(f316 (((↑(Int.toNat x0.1):Int),(↑(Int.toNat x0.2):Int)),IntKind.i64.wrap (x1-x2),IntKind.i64.wrap (IntKind.i64.wrap (x1+x3)-x2),x2,x4,x5,x6,x7,())).bind λv=>some (Sum.inl (((↑(Int.toNat x0.1):Int),(↑(Int.toNat x0.2):Int)),x1,x2,IntKind.i64.wrap (x3-x2),v.1,v.2.1,v.2.2.1,v.2.2.2.1,()))else some (Sum.inr (((↑(Int.toNat x0.1):Int),(↑(Int.toNat x0.2):Int)),x1,x2,x4,x5,x6,x7,()))
def z6i:j2v:=qc (j8l z2r) qz
theorem w4e:jg 2 (qd (code f315) [1,1,0,0,0]) (x2d z6i):=zl1 b1k b2d g8m j8l z2r v8z
def d5p(f315_l0:j2v):Ann:=(.seq .nil (.seq .nil (.seq (.blk (.loop (x2d f315_l0))) .nil)))
def k5j(f316:y6k)(f315_l0:j2v):q0p:=λ(x0,x1,x2,x3,x4,x5,x6,x7,_)=>(f315_l0 (((↑(Int.toNat x0.1):Int),(↑(Int.toNat x0.2):Int)),x2,IntKind.i64.wrap (x2-x1),IntKind.i64.wrap (x3-x2),x4,x5,x6,x7,())).bind λv=>(f316 (((↑(Int.toNat v.1.1):Int),(↑(Int.toNat v.1.2):Int)),IntKind.i64.wrap (v.2.1-v.2.2.1),v.2.1,v.2.2.1,v.2.2.2.1,v.2.2.2.2.1,v.2.2.2.2.2.1,v.2.2.2.2.2.2.1,())).bind λv=>some (v.1,v.2.1,v.2.2.1,v.2.2.2.1,())
theorem m0z(f316:y6k)(f315_l0:j2v):zz (g8m f316) 2 f315 (d5p f315_l0) y6a j4q (k5j f316 f315_l0):=λv=>by kernel_rfl
def zx:q0p:=k5j z2r z6i
theorem b9q:FO 315 (f9w zx) :=
 qo v8z func315 (And.intro w4e trivial) (m0z z2r z6i)
abbrev j2q:=(Int×Int)×Int×Int×Int×List (Int)×qu×qw×qx×Unit->Option ((Int×Int)×Int×Int×List (Int)×qu×qw×qx×Unit)
def x1y(f:j2q):LEnt:=⟨k6c,k6o,f⟩
abbrev j2r:=(Int×Int)×Int×Int×List (Int)×qu×qw×qx×Unit->Option (List (Int)×qu×qw×qx×Unit)
def x1z(f:j2r):LEnt:=⟨k6d,k6p,f⟩
abbrev j2s:=(Int×Int)×Int×Int×Int×List (Int)×qu×qw×qx×Unit->Option ((Int×Int)×Int×Int×List (Int)×qu×qw×qx×Unit)
def x2a(f:j2s):LEnt:=⟨k6e,k6q,f⟩
abbrev j2t:=(Int×Int)×Int×Int×List (Int)×qu×qw×qx×Unit->Option (List (Int)×qu×qw×qx×Unit)
def x2b(f:j2t):LEnt:=⟨k6f,k6r,f⟩
abbrev j2u:=(Int×Int)×Int×Int×Int×Int×Int×Int×Int×Int×List (Int)×qu×qw×qx×Unit->Option ((Int×Int)×Int×Int×Int×Int×Int×Int×List (Int)×qu×qw×qx×Unit)
def x2c(f:j2u):LEnt:=⟨k6g,k6s,f⟩
abbrev q6v:=(Int×Int)×Int×Int×Int×List (Int)×qu×qw×qx×Unit->Option (List (Int)×qu×qw×qx×Unit)
def x1v(f:q6v):LEnt:=⟨g8p,z7v,f⟩
abbrev q6w:=(Int×Int)×Int×Int×Int×Int×Int×List (Int)×qu×qw×qx×Unit->Option (List (Int)×qu×qw×qx×Unit)
def x1w(f:q6w):LEnt:=⟨g8q,z7v,f⟩
abbrev q6x:=(Int×Int)×Int×Int×Int×Int×Int×Int×Int×List (Int)×qu×qw×qx×Unit->Option (List (Int)×qu×qw×qx×Unit)
def x1x(f:q6x):LEnt:=⟨g8r,z7v,f⟩
abbrev ji:=(Int×Int)×Int×Int×Int×List (Int)×qu×qw×qx×Unit->Option (List (Int)×qu×qw×qx×Unit)
def j6n(f:ji):FEnt:=⟨y6a,j4q,f⟩
def z2t(f278:xe)(f311:ji)(f315:q0p):=lk [(278,g6q f278),(311,j6n f311),(315,f9w f315)]
theorem q2r(G:ji)(hG:zg prog 311 (j6n G)):zh prog (z2t zl G zx):=(kc g5i (kc hG (kc b9q kn)))
def j0r(f278:xe)(f311:ji)(f315:q0p):ym ((Int×Int)×Int×Int×Int×List (Int)×qu×qw×qx×Unit) ((Int×Int)×Int×Int×List (Int)×qu×qw×qx×Unit):=λ(x0,x1,x2,x3,x4,x5,x6,x7,_)=>bif decide (x2<x3)then bif decide (0<=IntKind.i64.wrap ((IntKind.u64.wrap (IntKind.i64.wrap (x2+x3))).fdiv (2^min 1 IntKind.u64.bits)))&&decide (IntKind.i64.wrap ((IntKind.u64.wrap (IntKind.i64.wrap (x2+x3))).fdiv (2^min 1 IntKind.u64.bits))<(↑(Int.toNat x0.2):Int))then bif decide (0<=x1)&&decide (x1<(↑(Int.toNat x0.2):Int))then(f278 (x4.getD (Int.toNat x0.1+(IntKind.i64.wrap ((IntKind.u64.wrap (IntKind.i64.wrap (x2+x3))).fdiv (2^min 1 IntKind.u64.bits))).toNat) 0,x4.getD (Int.toNat x0.1+x1.toNat) 0,x5,x6,x7,())).bind λv=>bif decide (v.1<0)then some (Sum.inl (((↑(Int.toNat x0.1):Int),(↑(Int.toNat x0.2):Int)),x1,IntKind.i64.wrap (IntKind.i64.wrap ((IntKind.u64.wrap (IntKind.i64.wrap (x2+x3))).fdiv (2^min 1 IntKind.u64.bits))+1),x3,x4,v.2.1,v.2.2.1,v.2.2.2.1,()))else some (Sum.inl (((↑(Int.toNat x0.1):Int),(↑(Int.toNat x0.2):Int)),x1,x2,IntKind.i64.wrap ((IntKind.u64.wrap (IntKind.i64.wrap (x2+x3))).fdiv (2^min 1 IntKind.u64.bits)),x4,v.2.1,v.2.2.1,v.2.2.2.1,()))else none else none else some (Sum.inr (((↑(Int.toNat x0.1):Int),(↑(Int.toNat x0.2):Int)),x1,x2,x4,x5,x6,x7,()))
theorem w0m(f278:xe)(f311:ji)(f315:q0p):AqL (z2t f278 f311 f315) 2 (qd (code Tryz.f311) [0,1,0,1,1,0,0,0]) .nil k6c k6o (j0r f278 f311 f315):=λv=>by kernel_rfl
def vk(G:ji):j2q:=qc (j0r zl G zx) qz
theorem w3z(G:ji)(hG:zg prog 311 (j6n G)):jg 2 (qd (code f311) [0,1,0,1,1,0,0,0]) (x1y (vk G)) :=
 yb (ins:=k6c) (os:=k6o) (C:=(vk G)) (ve (ins:=k6c) (os:=k6o) (n := .nil) (F:=j0r zl G zx) hm hΓ (q2r G hG) (λ_=>qz) (jm _) (w0m zl G zx)) rfl
def j0s(f278:xe)(f311:ji)(f315:q0p):ym ((Int×Int)×Int×Int×List (Int)×qu×qw×qx×Unit) (List (Int)×qu×qw×qx×Unit):=λ(x0,x1,x2,x3,x4,x5,x6,_)=>bif decide (x2<IntKind.i64.wrap (x1-1))then bif decide (0<=IntKind.i64.wrap (x2+1))&&decide (IntKind.i64.wrap (x2+1)<(↑(Int.toNat x0.2):Int))then bif decide (0<=x2)&&decide (x2<(↑(Int.toNat x0.2):Int))then bif decide (0<=x2)&&decide (x2<(↑(Int.toNat x0.2):Int))then bif decide (0<=IntKind.i64.wrap (x2+1))&&decide (IntKind.i64.wrap (x2+1)<(↑(Int.toNat x0.2):Int))then some (Sum.inl (((↑(Int.toNat x0.1):Int),(↑(Int.toNat x0.2):Int)),x1,IntKind.i64.wrap (x2+1),(x3.set (Int.toNat x0.1+x2.toNat) (x3.getD (Int.toNat x0.1+(IntKind.i64.wrap (x2+1)).toNat) 0)).set (Int.toNat x0.1+(IntKind.i64.wrap (x2+1)).toNat) (x3.getD (Int.toNat x0.1+x2.toNat) 0),x4,x5,x6,()))else none else none else none else none else some (Sum.inr (x3,x4,x5,x6,()))
theorem w0n(f278:xe)(f311:ji)(f315:q0p):AqL (z2t f278 f311 f315) 2 (qd (code Tryz.f311) [0,1,0,1,1,1,0,1,0,0]) .nil k6d k6p (j0s f278 f311 f315):=λv=>by kernel_rfl
def vm(G:ji):j2r:=qc (j0s zl G zx) qz
theorem w4a(G:ji)(hG:zg prog 311 (j6n G)):jg 2 (qd (code f311) [0,1,0,1,1,1,0,1,0,0]) (x1z (vm G)) :=
 yb (ins:=k6d) (os:=k6p) (C:=(vm G)) (ve (ins:=k6d) (os:=k6p) (n := .nil) (F:=j0s zl G zx) hm hΓ (q2r G hG) (λ_=>qz) (jm _) (w0n zl G zx)) rfl
def j0t(f278:xe)(f311:ji)(f315:q0p):ym ((Int×Int)×Int×Int×Int×List (Int)×qu×qw×qx×Unit) ((Int×Int)×Int×Int×List (Int)×qu×qw×qx×Unit):=λ(x0,x1,x2,x3,x4,x5,x6,x7,_)=>bif decide (x2<x3)then bif decide (0<=x1)&&decide (x1<(↑(Int.toNat x0.2):Int))then bif decide (0<=IntKind.i64.wrap ((IntKind.u64.wrap (IntKind.i64.wrap (x2+x3))).fdiv (2^min 1 IntKind.u64.bits)))&&decide (IntKind.i64.wrap ((IntKind.u64.wrap (IntKind.i64.wrap (x2+x3))).fdiv (2^min 1 IntKind.u64.bits))<(↑(Int.toNat x0.2):Int))then(f278 (x4.getD (Int.toNat x0.1+x1.toNat) 0,x4.getD (Int.toNat x0.1+(IntKind.i64.wrap ((IntKind.u64.wrap (IntKind.i64.wrap (x2+x3))).fdiv (2^min 1 IntKind.u64.bits))).toNat) 0,x5,x6,x7,())).bind λv=>bif !decide (v.1<0)then some (Sum.inl (((↑(Int.toNat x0.1):Int),(↑(Int.toNat x0.2):Int)),x1,IntKind.i64.wrap (IntKind.i64.wrap ((IntKind.u64.wrap (IntKind.i64.wrap (x2+x3))).fdiv (2^min 1 IntKind.u64.bits))+1),x3,x4,v.2.1,v.2.2.1,v.2.2.2.1,()))else some (Sum.inl (((↑(Int.toNat x0.1):Int),(↑(Int.toNat x0.2):Int)),x1,x2,IntKind.i64.wrap ((IntKind.u64.wrap (IntKind.i64.wrap (x2+x3))).fdiv (2^min 1 IntKind.u64.bits)),x4,v.2.1,v.2.2.1,v.2.2.2.1,()))else none else none else some (Sum.inr (((↑(Int.toNat x0.1):Int),(↑(Int.toNat x0.2):Int)),x1,x2,x4,x5,x6,x7,()))
theorem w0o(f278:xe)(f311:ji)(f315:q0p):AqL (z2t f278 f311 f315) 2 (qd (code Tryz.f311) [1,0,1,0,1,1,0,0,0]) .nil k6e k6q (j0t f278 f311 f315):=λv=>by kernel_rfl
def vn(G:ji):j2s:=qc (j0t zl G zx) qz
theorem w4b(G:ji)(hG:zg prog 311 (j6n G)):jg 2 (qd (code f311) [1,0,1,0,1,1,0,0,0]) (x2a (vn G)) :=
 yb (ins:=k6e) (os:=k6q) (C:=(vn G)) (ve (ins:=k6e) (os:=k6q) (n := .nil) (F:=j0t zl G zx) hm hΓ (q2r G hG) (λ_=>qz) (jm _) (w0o zl G zx)) rfl
def j0u(f278:xe)(f311:ji)(f315:q0p):ym ((Int×Int)×Int×Int×List (Int)×qu×qw×qx×Unit) (List (Int)×qu×qw×qx×Unit):=λ(x0,x1,x2,x3,x4,x5,x6,_)=>bif decide (x2>x1)then bif decide (0<=IntKind.i64.wrap (x2-1))&&decide (IntKind.i64.wrap (x2-1)<(↑(Int.toNat x0.2):Int))then bif decide (0<=x2)&&decide (x2<(↑(Int.toNat x0.2):Int))then bif decide (0<=x2)&&decide (x2<(↑(Int.toNat x0.2):Int))then bif decide (0<=IntKind.i64.wrap (x2-1))&&decide (IntKind.i64.wrap (x2-1)<(↑(Int.toNat x0.2):Int))then some (Sum.inl (((↑(Int.toNat x0.1):Int),(↑(Int.toNat x0.2):Int)),x1,IntKind.i64.wrap (x2-1),(x3.set (Int.toNat x0.1+x2.toNat) (x3.getD (Int.toNat x0.1+(IntKind.i64.wrap (x2-1)).toNat) 0)).set (Int.toNat x0.1+(IntKind.i64.wrap (x2-1)).toNat) (x3.getD (Int.toNat x0.1+x2.toNat) 0),x4,x5,x6,()))else none else none else none else none else some (Sum.inr (x3,x4,x5,x6,()))
theorem w0p(f278:xe)(f311:ji)(f315:q0p):AqL (z2t f278 f311 f315) 2 (qd (code Tryz.f311) [1,0,1,0,1,1,1,0,1,0,0]) .nil k6f k6r (j0u f278 f311 f315):=λv=>by kernel_rfl
def vo(G:ji):j2t:=qc (j0u zl G zx) qz
theorem w4c(G:ji)(hG:zg prog 311 (j6n G)):jg 2 (qd (code f311) [1,0,1,0,1,1,1,0,1,0,0]) (x2b (vo G)) :=
 yb (ins:=k6f) (os:=k6r) (C:=(vo G)) (ve (ins:=k6f) (os:=k6r) (n := .nil) (F:=j0u zl G zx) hm hΓ (q2r G hG) (λ_=>qz) (jm _) (w0p zl G zx)) rfl
def j0v(f278:xe)(f311:ji)(f315:q0p):ym ((Int×Int)×Int×Int×Int×Int×Int×Int×Int×Int×List (Int)×qu×qw×qx×Unit) ((Int×Int)×Int×Int×Int×Int×Int×Int×List (Int)×qu×qw×qx×Unit):=λ(x0,x1,x2,x3,x4,x5,x6,x7,x8,x9,x10,x11,x12,_)=>bif decide (x6<x7)then bif decide (0<=IntKind.i64.wrap (x8-IntKind.i64.wrap ((IntKind.u64.wrap (IntKind.i64.wrap (x6+x7))).fdiv (2^min 1 IntKind.u64.bits))))&&decide (IntKind.i64.wrap (x8-IntKind.i64.wrap ((IntKind.u64.wrap (IntKind.i64.wrap (x6+x7))).fdiv (2^min 1 IntKind.u64.bits)))<(↑(Int.toNat x0.2):Int))then bif decide (0<=IntKind.i64.wrap ((IntKind.u64.wrap (IntKind.i64.wrap (x6+x7))).fdiv (2^min 1 IntKind.u64.bits)))&&decide (IntKind.i64.wrap ((IntKind.u64.wrap (IntKind.i64.wrap (x6+x7))).fdiv (2^min 1 IntKind.u64.bits))<(↑(Int.toNat x0.2):Int))then(f278 (x9.getD (Int.toNat x0.1+(IntKind.i64.wrap (x8-IntKind.i64.wrap ((IntKind.u64.wrap (IntKind.i64.wrap (x6+x7))).fdiv (2^min 1 IntKind.u64.bits)))).toNat) 0,x9.getD (Int.toNat x0.1+(IntKind.i64.wrap ((IntKind.u64.wrap (IntKind.i64.wrap (x6+x7))).fdiv (2^min 1 IntKind.u64.bits))).toNat) 0,x10,x11,x12,())).bind λv=>bif !decide (v.1<0)then some (Sum.inl (((↑(Int.toNat x0.1):Int),(↑(Int.toNat x0.2):Int)),x1,x2,x3,x4,x5,IntKind.i64.wrap (IntKind.i64.wrap ((IntKind.u64.wrap (IntKind.i64.wrap (x6+x7))).fdiv (2^min 1 IntKind.u64.bits))+1),x7,x8,x9,v.2.1,v.2.2.1,v.2.2.2.1,()))else some (Sum.inl (((↑(Int.toNat x0.1):Int),(↑(Int.toNat x0.2):Int)),x1,x2,x3,x4,x5,x6,IntKind.i64.wrap ((IntKind.u64.wrap (IntKind.i64.wrap (x6+x7))).fdiv (2^min 1 IntKind.u64.bits)),x8,x9,v.2.1,v.2.2.1,v.2.2.2.1,()))else none else none else some (Sum.inr (((↑(Int.toNat x0.1):Int),(↑(Int.toNat x0.2):Int)),x1,x2,x3,x4,x5,x6,x9,x10,x11,x12,()))
theorem w0q(f278:xe)(f311:ji)(f315:q0p):AqL (z2t f278 f311 f315) 2 (qd (code Tryz.f311) [1,1,1,1,1,1,1,0,0,0]) .nil k6g k6s (j0v f278 f311 f315):=λv=>by kernel_rfl
def kx(G:ji):j2u:=qc (j0v zl G zx) qz
theorem w4d(G:ji)(hG:zg prog 311 (j6n G)):jg 2 (qd (code f311) [1,1,1,1,1,1,1,0,0,0]) (x2c (kx G)) :=
 yb (ins:=k6g) (os:=k6s) (C:=(kx G)) (ve (ins:=k6g) (os:=k6s) (n := .nil) (F:=j0v zl G zx) hm hΓ (q2r G hG) (λ_=>qz) (jm _) (w0q zl G zx)) rfl
def q5q(f278:xe)(f311:ji)(f315:q0p):q6v:=λ(x0,x1,x2,x3,x4,x5,x6,x7,_)=>bif decide (x2<x3)then bif decide (x3<x1)then(f311 (((↑(Int.toNat x0.1):Int),(↑(Int.toNat x0.2):Int)),x2,x3,x1,x4,x5,x6,x7,())).bind λv=>some (v.1,v.2.1,v.2.2.1,v.2.2.2.1,())else some (x4,x5,x6,x7,())else some (x4,x5,x6,x7,())
theorem w0j(f278:xe)(f311:ji)(f315:q0p):AqC (z2t f278 f311 f315) 2 (qd (code Tryz.f311) [1,1,1,1,1,1,1,1,1,1,1]) .nil g8p z7v (q5q f278 f311 f315):=λv=>by kernel_rfl
def xk(G:ji):q6v:=q5q zl G zx
theorem w3w(G:ji)(hG:zg prog 311 (j6n G)):zc 2 (qd (code f311) [1,1,1,1,1,1,1,1,1,1,1]) (x1v (xk G)) :=
 wn (ins:=g8p) (os:=z7v) (n := .nil) (F:=(xk G)) hm hΓ (q2r G hG) (jm _) (w0j zl G zx)
def x3z(f311_c0:q6v):Ann:=(.cut .nil (x1v f311_c0))
def q5r(f278:xe)(f311:ji)(f315:q0p)(f311_c0:q6v):q6w:=λ(x0,x1,x2,x3,x4,x5,x6,x7,x8,x9,_)=>bif decide (x1<x4)then bif decide (x4<x3)then(f311 (((↑(Int.toNat x0.1):Int),(↑(Int.toNat x0.2):Int)),x1,x4,x3,x6,x7,x8,x9,())).bind λv=>(f311_c0 (((↑(Int.toNat x0.1):Int),(↑(Int.toNat x0.2):Int)),x2,x3,x5,v.1,v.2.1,v.2.2.1,v.2.2.2.1,())).bind λv=>some (v.1,v.2.1,v.2.2.1,v.2.2.2.1,())else(f311_c0 (((↑(Int.toNat x0.1):Int),(↑(Int.toNat x0.2):Int)),x2,x3,x5,x6,x7,x8,x9,())).bind λv=>some (v.1,v.2.1,v.2.2.1,v.2.2.2.1,())else(f311_c0 (((↑(Int.toNat x0.1):Int),(↑(Int.toNat x0.2):Int)),x2,x3,x5,x6,x7,x8,x9,())).bind λv=>some (v.1,v.2.1,v.2.2.1,v.2.2.2.1,())
theorem w0k(f278:xe)(f311:ji)(f315:q0p)(f311_c0:q6v):AqC (z2t f278 f311 f315) 2 (qd (code Tryz.f311) [1,1,1,1,1,1,1,1,1,1]) (x3z f311_c0) g8q z7v (q5r f278 f311 f315 f311_c0):=λv=>by kernel_rfl
def xl(G:ji):q6w:=q5r zl G zx (xk G)
theorem w3x(G:ji)(hG:zg prog 311 (j6n G)):zc 2 (qd (code f311) [1,1,1,1,1,1,1,1,1,1]) (x1w (xl G)) :=
 wn (ins:=g8q) (os:=z7v) (n:=(x3z (xk G))) (F:=(xl G)) hm hΓ (q2r G hG) (q0t (And.intro (w3w G hG) trivial) (by kernel_rfl)) (w0k zl G zx (xk G))
def x4a(f311_c1:q6w)(f311_l4:j2u):Ann:=(.seq .nil (.seq (.blk (.loop (x2c f311_l4))) (.seq .nil (.cut .nil (x1w f311_c1)))))
def q5s(f278:xe)(f311:ji)(f315:q0p)(f311_c1:q6w)(f311_l4:j2u):q6x:=λ(x0,x1,x2,x3,x4,x5,x6,x7,x8,x9,x10,x11,_)=>(f311_l4 (((↑(Int.toNat x0.1):Int),(↑(Int.toNat x0.2):Int)),x1,x2,x3,x4,x5,x6,x7,IntKind.i64.wrap (x5-1),x8,x9,x10,x11,())).bind λv=>bif decide (v.2.2.2.2.2.2.1<v.2.2.1)then bif decide (v.2.2.1<IntKind.i64.wrap (v.2.2.2.2.2.1-v.2.2.2.2.2.2.1))then(f315 (((↑(Int.toNat v.1.1):Int),(↑(Int.toNat v.1.2):Int)),v.2.2.2.2.2.2.1,v.2.2.1,IntKind.i64.wrap (v.2.2.2.2.2.1-v.2.2.2.2.2.2.1),v.2.2.2.2.2.2.2.1,v.2.2.2.2.2.2.2.2.1,v.2.2.2.2.2.2.2.2.2.1,v.2.2.2.2.2.2.2.2.2.2.1,())).bind λv1=>(f311_c1 (((↑(Int.toNat v.1.1):Int),(↑(Int.toNat v.1.2):Int)),v.2.1,v.2.2.2.1,v.2.2.2.2.1,v.2.2.2.2.2.2.1,IntKind.i64.wrap (v.2.2.2.2.2.1-v.2.2.2.2.2.2.1),v1.1,v1.2.1,v1.2.2.1,v1.2.2.2.1,())).bind λv=>some (v.1,v.2.1,v.2.2.1,v.2.2.2.1,())else(f311_c1 (((↑(Int.toNat v.1.1):Int),(↑(Int.toNat v.1.2):Int)),v.2.1,v.2.2.2.1,v.2.2.2.2.1,v.2.2.2.2.2.2.1,IntKind.i64.wrap (v.2.2.2.2.2.1-v.2.2.2.2.2.2.1),v.2.2.2.2.2.2.2.1,v.2.2.2.2.2.2.2.2.1,v.2.2.2.2.2.2.2.2.2.1,v.2.2.2.2.2.2.2.2.2.2.1,())).bind λv=>some (v.1,v.2.1,v.2.2.1,v.2.2.2.1,())else(f311_c1 (((↑(Int.toNat v.1.1):Int),(↑(Int.toNat v.1.2):Int)),v.2.1,v.2.2.2.1,v.2.2.2.2.1,v.2.2.2.2.2.2.1,IntKind.i64.wrap (v.2.2.2.2.2.1-v.2.2.2.2.2.2.1),v.2.2.2.2.2.2.2.1,v.2.2.2.2.2.2.2.2.1,v.2.2.2.2.2.2.2.2.2.1,v.2.2.2.2.2.2.2.2.2.2.1,())).bind λv=>some (v.1,v.2.1,v.2.2.1,v.2.2.2.1,())
theorem w0l(f278:xe)(f311:ji)(f315:q0p)(f311_c1:q6w)(f311_l4:j2u):AqC (z2t f278 f311 f315) 2 (qd (code Tryz.f311) [1,1,1,1,1,1]) (x4a f311_c1 f311_l4) g8r z7v (q5s f278 f311 f315 f311_c1 f311_l4):=λv=>by kernel_rfl
def vj(G:ji):q6x:=q5s zl G zx (xl G) (kx G)
theorem w3y(G:ji)(hG:zg prog 311 (j6n G)):zc 2 (qd (code f311) [1,1,1,1,1,1]) (x1x (vj G)) :=
 wn (ins:=g8r) (os:=z7v) (n:=(x4a (xl G) (kx G))) (F:=(vj G)) hm hΓ (q2r G hG) (q0t (And.intro (w4d G hG) (And.intro (w3x G hG) trivial)) (by kernel_rfl)) (w0l zl G zx (xl G) (kx G))
def d5o(f311_c2:q6x)(f311_l0:j2q)(f311_l1:j2r)(f311_l2:j2s)(f311_l3:j2t):Ann:=(.seq (.seq .nil (.cond (.seq .nil (.seq .nil (.seq (.blk (.loop (x1y f311_l0))) (.seq (.seq .nil (.blk (.loop (x1z f311_l1)))) .nil)))) .nil)) (.seq (.seq .nil (.cond (.seq .nil (.seq .nil (.seq (.blk (.loop (x2a f311_l2))) (.seq (.seq .nil (.blk (.loop (x2b f311_l3)))) .nil)))) .nil)) (.seq .nil (.seq .nil (.seq .nil (.cut .nil (x1x f311_c2)))))))
def y1c(f278:xe)(f311:ji)(f315:q0p)(f311_c2:q6x)(f311_l0:j2q)(f311_l1:j2r)(f311_l2:j2s)(f311_l3:j2t):ji:=λ(x0,x1,x2,x3,x4,x5,x6,x7,_)=>bif IntKind.i64.wrap (x2-x1)==1 then(f311_l0 (((↑(Int.toNat x0.1):Int),(↑(Int.toNat x0.2):Int)),x1,x2,x3,x4,x5,x6,x7,())).bind λv=>(f311_l1 (((↑(Int.toNat v.1.1):Int),(↑(Int.toNat v.1.2):Int)),v.2.2.1,v.2.1,v.2.2.2.1,v.2.2.2.2.1,v.2.2.2.2.2.1,v.2.2.2.2.2.2.1,())).bind λv=>some (v.1,v.2.1,v.2.2.1,v.2.2.2.1,())else bif IntKind.i64.wrap (x3-x2)==1 then(f311_l2 (((↑(Int.toNat x0.1):Int),(↑(Int.toNat x0.2):Int)),x2,x1,x2,x4,x5,x6,x7,())).bind λv=>(f311_l3 (((↑(Int.toNat v.1.1):Int),(↑(Int.toNat v.1.2):Int)),v.2.2.1,v.2.1,v.2.2.2.1,v.2.2.2.2.1,v.2.2.2.2.2.1,v.2.2.2.2.2.2.1,())).bind λv=>some (v.1,v.2.1,v.2.2.1,v.2.2.2.1,())else bif decide (x2>IntKind.i64.wrap ((IntKind.u64.wrap (IntKind.i64.wrap (x1+x3))).fdiv (2^min 1 IntKind.u64.bits)))then(f311_c2 (((↑(Int.toNat x0.1):Int),(↑(Int.toNat x0.2):Int)),x1,x2,x3,IntKind.i64.wrap ((IntKind.u64.wrap (IntKind.i64.wrap (x1+x3))).fdiv (2^min 1 IntKind.u64.bits)),IntKind.i64.wrap (IntKind.i64.wrap ((IntKind.u64.wrap (IntKind.i64.wrap (x1+x3))).fdiv (2^min 1 IntKind.u64.bits))+x2),IntKind.i64.wrap (IntKind.i64.wrap (IntKind.i64.wrap ((IntKind.u64.wrap (IntKind.i64.wrap (x1+x3))).fdiv (2^min 1 IntKind.u64.bits))+x2)-x3),IntKind.i64.wrap ((IntKind.u64.wrap (IntKind.i64.wrap (x1+x3))).fdiv (2^min 1 IntKind.u64.bits)),x4,x5,x6,x7,())).bind λv=>some (v.1,v.2.1,v.2.2.1,v.2.2.2.1,())else(f311_c2 (((↑(Int.toNat x0.1):Int),(↑(Int.toNat x0.2):Int)),x1,x2,x3,IntKind.i64.wrap ((IntKind.u64.wrap (IntKind.i64.wrap (x1+x3))).fdiv (2^min 1 IntKind.u64.bits)),IntKind.i64.wrap (IntKind.i64.wrap ((IntKind.u64.wrap (IntKind.i64.wrap (x1+x3))).fdiv (2^min 1 IntKind.u64.bits))+x2),x1,x2,x4,x5,x6,x7,())).bind λv=>some (v.1,v.2.1,v.2.2.1,v.2.2.2.1,())
theorem m0y(f278:xe)(f311:ji)(f315:q0p)(f311_c2:q6x)(f311_l0:j2q)(f311_l1:j2r)(f311_l2:j2s)(f311_l3:j2t):zz (z2t f278 f311 f315) 2 Tryz.f311 (d5o f311_c2 f311_l0 f311_l1 f311_l2 f311_l3) y6a j4q (y1c f278 f311 f315 f311_c2 f311_l0 f311_l1 f311_l2 f311_l3):=λv=>by kernel_rfl
def j6m:ji:=q1s (λG=>y1c zl G zx (vj G) (vk G) (vm G) (vn G) (vo G)) qz
theorem b9n:FO 311 (j6n j6m) :=
 y6x (ins:=y6a) (os:=j4q) (F:=λG=>y1c zl G zx (vj G) (vk G) (vm G) (vn G) (vo G)) (λG hG=>qo (q2r G hG) func311 (And.intro (w3z G hG) (And.intro (w4a G hG) (And.intro (w4b G hG) (And.intro (w4c G hG) (And.intro (w3y G hG) trivial))))) (m0y zl G zx (vj G) (vk G) (vm G) (vn G) (vo G))) qz
abbrev j2i:=(Int×Int)×Int×Int×Int×Int×List (Int)×qu×qw×qx×Unit->Option ((Int×Int)×Int×Int×Int×List (Int)×qu×qw×qx×Unit)
def x1m(f:j2i):LEnt:=⟨k6h,b2e,f⟩
abbrev j2j:=(Int×Int)×Int×Int×Int×Int×List (Int)×qu×qw×qx×Unit->Option ((Int×Int)×Int×Int×Int×List (Int)×qu×qw×qx×Unit)
def x1n(f:j2j):LEnt:=⟨k6h,w9z,f⟩
abbrev j2k:=(Int×Int)×Int×Int×List (Int)×qu×qw×qx×Unit->Option (List (Int)×qu×qw×qx×Unit)
def x1o(f:j2k):LEnt:=⟨w6e,g0a,f⟩
abbrev x9x:=(Int×Int)×Int×List (Int)×qu×qw×qx×Unit->Option (List (Int)×qu×qw×qx×Unit)
def f9m(f:x9x):FEnt:=⟨b1l,j4q,f⟩
def v4m(f310:z3c)(f311:ji):=lk [(310,f9t f310),(311,j6n f311)]
theorem z9e:zh prog (v4m j0l j6m):=(kc b9m (kc b9n kn))
def j8f(f310:z3c)(f311:ji):ym ((Int×Int)×Int×Int×Int×Int×List (Int)×qu×qw×qx×Unit) ((Int×Int)×Int×Int×Int×List (Int)×qu×qw×qx×Unit):=λ(x0,x1,x2,x3,x4,x5,x6,x7,x8,_)=>bif decide (x4<=x1)then(f310 (((↑(Int.toNat x0.1):Int),(↑(Int.toNat x0.2):Int)),x3,x4,x5,x6,x7,x8,())).bind λv=>some (Sum.inl (((↑(Int.toNat x0.1):Int),(↑(Int.toNat x0.2):Int)),x1,x2,x4,IntKind.i64.wrap (x4+x2),v.1,v.2.1,v.2.2.1,v.2.2.2.1,()))else some (Sum.inr (((↑(Int.toNat x0.1):Int),(↑(Int.toNat x0.2):Int)),x1,x2,x3,x5,x6,x7,x8,()))
def j0j:j2i:=qc (j8f j0l j6m) qz
theorem w3n:jg 2 (qd (code f299) [1,1,0,0,0]) (x1m j0j):=zl2 k6h b2e v4m j8f j0l j6m z9e
def j8g(f310:z3c)(f311:ji):ym ((Int×Int)×Int×Int×Int×Int×List (Int)×qu×qw×qx×Unit) ((Int×Int)×Int×Int×Int×List (Int)×qu×qw×qx×Unit):=λ(x0,x1,x2,x3,x4,x5,x6,x7,x8,_)=>bif decide (x4<=x1)then(f311 (((↑(Int.toNat x0.1):Int),(↑(Int.toNat x0.2):Int)),x3,IntKind.i64.wrap (x3+x2),x4,x5,x6,x7,x8,())).bind λv=>some (Sum.inl (((↑(Int.toNat x0.1):Int),(↑(Int.toNat x0.2):Int)),x1,x2,x4,IntKind.i64.wrap (x4+IntKind.i64.wrap (2*x2)),v.1,v.2.1,v.2.2.1,v.2.2.2.1,()))else some (Sum.inr (((↑(Int.toNat x0.1):Int),(↑(Int.toNat x0.2):Int)),x1,x2,x3,x5,x6,x7,x8,()))
def j0k:j2j:=qc (j8g j0l j6m) qz
theorem w3o:jg 2 (qd (code f299) [1,1,1,1,0,0,1,0,1,0,0,0]) (x1n j0k):=zl2 k6h w9z v4m j8g j0l j6m z9e
def k7n(f299_l1:j2j):Ann:=(.seq .nil (.blk (.seq .nil (.seq (.blk (.loop (x1n f299_l1))) .nil))))
def j8h(f310:z3c)(f311:ji)(f299_l1:j2j):ym ((Int×Int)×Int×Int×List (Int)×qu×qw×qx×Unit) (List (Int)×qu×qw×qx×Unit):=λ(x0,x1,x2,x3,x4,x5,x6,_)=>bif decide (x2<x1)then(f299_l1 (((↑(Int.toNat x0.1):Int),(↑(Int.toNat x0.2):Int)),x1,x2,0,IntKind.i64.wrap (2*x2),x3,x4,x5,x6,())).bind λv=>bif decide (IntKind.i64.wrap (v.2.2.2.1+v.2.2.1)<v.2.1)then(f311 (((↑(Int.toNat v.1.1):Int),(↑(Int.toNat v.1.2):Int)),v.2.2.2.1,IntKind.i64.wrap (v.2.2.2.1+v.2.2.1),v.2.1,v.2.2.2.2.1,v.2.2.2.2.2.1,v.2.2.2.2.2.2.1,v.2.2.2.2.2.2.2.1,())).bind λv1=>some (Sum.inl (((↑(Int.toNat v.1.1):Int),(↑(Int.toNat v.1.2):Int)),v.2.1,IntKind.i64.wrap (v.2.2.1*2),v1.1,v1.2.1,v1.2.2.1,v1.2.2.2.1,()))else some (Sum.inl (((↑(Int.toNat v.1.1):Int),(↑(Int.toNat v.1.2):Int)),v.2.1,IntKind.i64.wrap (v.2.2.1*2),v.2.2.2.2.1,v.2.2.2.2.2.1,v.2.2.2.2.2.2.1,v.2.2.2.2.2.2.2.1,()))else some (Sum.inr (x3,x4,x5,x6,()))
theorem w0g(f310:z3c)(f311:ji)(f299_l1:j2j):AqL (v4m f310 f311) 2 (qd (code f299) [1,1,1,1,0,0]) (k7n f299_l1) w6e g0a (j8h f310 f311 f299_l1):=λv=>by kernel_rfl
def z6g:j2k:=qc (j8h j0l j6m j0k) qz
theorem w3p:jg 2 (qd (code f299) [1,1,1,1,0,0]) (x1o z6g) :=
 frm z9e (And.intro w3o trivial) (w0g j0l j6m j0k)
def d5k(f299_l0:j2i)(f299_l2:j2k):Ann:=(.seq .nil (.seq .nil (.seq (.blk (.loop (x1m f299_l0))) (.seq .nil (.blk (.loop (x1o f299_l2)))))))
def k5a(f310:z3c)(f311:ji)(f299_l0:j2i)(f299_l2:j2k):x9x:=λ(x0,x1,x2,x3,x4,x5,_)=>(f299_l0 (((↑(Int.toNat x0.1):Int),(↑(Int.toNat x0.2):Int)),x1,20,0,20,x2,x3,x4,x5,())).bind λv=>(f310 (((↑(Int.toNat v.1.1):Int),(↑(Int.toNat v.1.2):Int)),v.2.2.2.1,v.2.1,v.2.2.2.2.1,v.2.2.2.2.2.1,v.2.2.2.2.2.2.1,v.2.2.2.2.2.2.2.1,())).bind λv1=>(f299_l2 (((↑(Int.toNat v.1.1):Int),(↑(Int.toNat v.1.2):Int)),v.2.1,v.2.2.1,v1.1,v1.2.1,v1.2.2.1,v1.2.2.2.1,())).bind λv=>some (v.1,v.2.1,v.2.2.1,v.2.2.2.1,())
theorem m0u(f310:z3c)(f311:ji)(f299_l0:j2i)(f299_l2:j2k):zz (v4m f310 f311) 2 f299 (d5k f299_l0 f299_l2) b1l j4q (k5a f310 f311 f299_l0 f299_l2):=λv=>by kernel_rfl
def y5l:x9x:=k5a j0l j6m j0j z6g
theorem b9f:FO 299 (f9m y5l) :=
 qo z9e func299 (And.intro w3n (And.intro w3p trivial)) (m0u j0l j6m j0j z6g)
abbrev z8f:=(Int×Int)×List (Int)×qu×qw×qx×Unit->Option (List (Int)×qu×qw×qx×Unit)
def f8w(f:z8f):FEnt:=⟨w6f,j4q,f⟩
def d2x(f299:x9x):=lk [(299,f9m f299)]
def k4k(f299:x9x):z8f:=λ(x0,x1,x2,x3,x4,_)=>(f299 (((↑(Int.toNat x0.1):Int),(↑(Int.toNat x0.2):Int)),(↑(Int.toNat x0.2):Int),x1,x2,x3,x4,())).bind λv=>some (v.1,v.2.1,v.2.2.1,v.2.2.2.1,())
theorem m0p(f299:x9x):zz (d2x f299) 2 f277 .nil w6f j4q (k4k f299):=λv=>by kernel_rfl
def j6l:z8f:=k4k y5l
theorem b8n:FO 277 (f8w j6l) :=
 q0 (kc b9f kn) func277 (m0p y5l)
abbrev q6o:=Int×Int×qu×qw×qx×List (Int)×Unit->Option (Int×Int×qu×qw×qx×List (Int)×Unit)
def x0p(f:q6o):LEnt:=⟨x2n,g0b,f⟩
abbrev j1u:=Int×Int×qu×qw×qx×List (Int)×Unit->Option (List (Int)×Unit)
def x0q(f:j1u):LEnt:=⟨x2n,g0c,f⟩
abbrev x8w:=qu×qw×qx×List (Int)×Unit->Option (List (Int)×Unit)
def f7t(f:x8w):FEnt:=⟨Li9,q1f,f⟩
def k5x(f275:y1q)(f276:q2l)(f277:z8f):=lk [(275,f8v f275),(276,v2v f276),(277,f8w f277)]
theorem y7m:zh prog (k5x z2o xj j6l):=(kc b8m (kc x5s (kc b8n kn)))
def j7v(f275:y1q)(f276:q2l)(f277:z8f):q6o:=λ(x0,x1,x2,x3,x4,x5,_)=>bif decide (0<=x1)&&decide (x1<=(↑x5.length:Int))then bif decide (0<=x0)&&decide (x0<=x1)then(f277 (((↑x0.toNat:Int),(↑(x1.toNat-x0.toNat):Int)),x5,x2,x3,x4,())).bind λv=>some (IntKind.i64.wrap (x1+1),x1,v.2.1,v.2.2.1,v.2.2.2.1,v.1,())else none else none
def ku:q6o:=j7v z2o xj j6l
theorem w2q:zc 0 (qd (code f239) [1,1,1,0,1,0,0,1,0,0,1]) (x0p ku):=zc3 x2n g0b k5x j7v z2o xj j6l y7m
def k7i(f239_c0:q6o):Ann:=(.seq .nil (.seq (.blk (.cut .nil (x0p f239_c0))) .nil))
def j7w(f275:y1q)(f276:q2l)(f277:z8f)(f239_c0:q6o):ym (Int×Int×qu×qw×qx×List (Int)×Unit) (List (Int)×Unit):=λ(x0,x1,x2,x3,x4,x5,_)=>bif decide (x1<=(↑x5.length:Int))then bif decide (x1<(↑x5.length:Int))then bif decide (0<=x1)&&decide (x1<(↑x5.length:Int))then(f276 (x2,x3,x4,x5.getD x1.toNat 0,())).bind λv=>bif decide (v.1>0)then some (Sum.inl (x0,IntKind.i64.wrap (x1+1),x2,x3,x4,x5,()))else(f239_c0 (x0,x1,x2,x3,x4,x5,())).bind λv=>some (Sum.inl (v.1,IntKind.i64.wrap (v.2.1+1),v.2.2.1,v.2.2.2.1,v.2.2.2.2.1,v.2.2.2.2.2.1,()))else none else(f239_c0 (x0,x1,x2,x3,x4,x5,())).bind λv=>some (Sum.inl (v.1,IntKind.i64.wrap (v.2.1+1),v.2.2.1,v.2.2.2.1,v.2.2.2.2.1,v.2.2.2.2.2.1,()))else some (Sum.inr (x5,()))
theorem k9x(f275:y1q)(f276:q2l)(f277:z8f)(f239_c0:q6o):AqL (k5x f275 f276 f277) 0 (qd (code f239) [1,1,1,0,1,0,0]) (k7i f239_c0) x2n g0c (j7w f275 f276 f277 f239_c0):=λv=>by kernel_rfl
def z6a:j1u:=qc (j7w z2o xj j6l ku) qz
theorem w2r:jg 0 (qd (code f239) [1,1,1,0,1,0,0]) (x0q z6a) :=
 frm y7m (And.intro w2q trivial) (k9x z2o xj j6l ku)
def d4s(f239_l0:j1u):Ann:=(.seq .nil (.seq .nil (.seq .nil (.seq (.seq .nil (.blk (.loop (x0q f239_l0)))) .nil))))
def k3u(f275:y1q)(f276:q2l)(f277:z8f)(f239_l0:j1u):x8w:=λ(x0,x1,x2,x3,_)=>(f275 (x3,())).bind λv=>(f239_l0 (0,0,x0,x1,x2,v.1,())).bind λv=>some (v.1,())
theorem m0a(f275:y1q)(f276:q2l)(f277:z8f)(f239_l0:j1u):zz (k5x f275 f276 f277) 0 f239 (d4s f239_l0) Li9 q1f (k3u f275 f276 f277 f239_l0):=λv=>by kernel_rfl
def y5h:x8w:=k3u z2o xj j6l z6a
theorem b7h:FO 239 (f7t y5h) :=
 qo y7m func239 (And.intro w2r trivial) (m0a z2o xj j6l z6a)
abbrev z0v:=Int×Int×Int×Unit->Option (Bool×Unit)
def g6t(f:z0v):FEnt:=⟨b0x,qv,f⟩
def y1b:z0v:=λ(x0,x1,x2,_)=>bif decide (x0>=x1)then some (decide (x0<IntKind.i32.wrap (x1+IntKind.i32.wrap x2)),())else some (false,())
def yg:z0v:=y1b
theorem g5l:FO 300 (g6t yg):=zq0 b0x qv yu y1b kn func300
abbrev y1u:=Int×Unit->Option (List (Int)×Unit)
def f9n(f:y1u):FEnt:=⟨q3n,q1f,f⟩
def k5b:y1u:=λ(x0,_)=>bif decide ((IntKind.i32.wrap (x0-44032)).tmod 28>0)then some ([IntKind.i32.wrap (4352+IntKind.i32.wrap ((IntKind.i32.wrap (x0-44032)).tdiv 588)),IntKind.i32.wrap (4449+(IntKind.i32.wrap ((IntKind.i32.wrap (x0-44032)).tdiv 28)).tmod 21)]++[IntKind.i32.wrap (4519+(IntKind.i32.wrap (x0-44032)).tmod 28)],())else some ([IntKind.i32.wrap (4352+IntKind.i32.wrap ((IntKind.i32.wrap (x0-44032)).tdiv 588)),IntKind.i32.wrap (4449+(IntKind.i32.wrap ((IntKind.i32.wrap (x0-44032)).tdiv 28)).tmod 21)],())
def kf:y1u:=k5b
theorem b9g:FO 301 (f9n kf):=zq0 q3n q1f yu k5b kn func301
abbrev j2l:=List (List (Int))×Int×List (List (Int))×Int×Int×Unit->Option (List (List (Int))×Int×Unit)
def x1p(f:j2l):LEnt:=⟨b0z,b1v,f⟩
abbrev j2m:=List (List (Int))×Int×Int×List (Int)×Unit->Option (List (Int)×Unit)
def x1q(f:j2m):LEnt:=⟨b1a,b1w,f⟩
abbrev y1v:=List (List (Int))×Unit->Option (List (Int)×Unit)
def f9o(f:y1v):FEnt:=⟨b0y,q1f,f⟩
def k6a(f312:y6j):=lk [(312,f9u f312)]
theorem y7p:zh prog (k6a z2q):=(kc b9o kn)
def z7p(f312:y6j):ym (List (List (Int))×Int×List (List (Int))×Int×Int×Unit) (List (List (Int))×Int×Unit):=λ(x0,x1,x2,x3,x4,_)=>bif decide (x4<x3)then bif decide (0<=x4)&&decide (x4<(↑x2.length:Int))then bif decide (IntKind.i64.wrap (x1+(↑(List.length (x2.getD x4.toNat [])):Int))<0)then none else some (Sum.inl (x0,IntKind.i64.wrap (x1+(↑(List.length (x2.getD x4.toNat [])):Int)),x2,x3,IntKind.i64.wrap (x4+1),()))else none else some (Sum.inr (x0,x1,()))
def j7i:j2l:=qc (z7p z2q) qz
theorem w3q:jg 0 (qd (code f302) [1,1,0,1,0,0]) (x1p j7i):=zl1 b0z b1v k6a z7p z2q y7p
def z7q(f312:y6j):ym (List (List (Int))×Int×Int×List (Int)×Unit) (List (Int)×Unit):=λ(x0,x1,x2,x3,_)=>bif decide (x2<x1)then bif decide (0<=x2)&&decide (x2<(↑x0.length:Int))then bif decide (x3.length+List.length (x0.getD x2.toNat [])<=140737488355328/4)then some (Sum.inl (x0,x1,IntKind.i64.wrap (x2+1),x3++x0.getD x2.toNat [],()))else none else none else some (Sum.inr (x3,()))
def j7j:j2m:=qc (z7q z2q) qz
theorem w3r:jg 0 (qd (code f302) [1,1,1,1,0,1,0,0]) (x1q j7j):=zl1 b1a b1w k6a z7q z2q y7p
def d5l(f302_l0:j2l)(f302_l1:j2m):Ann:=(.seq .nil (.seq .nil (.seq (.seq .nil (.blk (.loop (x1p f302_l0)))) (.seq .nil (.seq (.seq .nil (.blk (.loop (x1q f302_l1)))) .nil)))))
def k5c(f312:y6j)(f302_l0:j2l)(f302_l1:j2m):y1v:=λ(x0,_)=>(f302_l0 (x0,0,x0,(↑x0.length:Int),0,())).bind λv=>(f312 (v.2.1,())).bind λv1=>(f302_l1 (v.1,(↑(List.length v.1):Int),0,v1.1,())).bind λv=>some (v.1,())
theorem m0v(f312:y6j)(f302_l0:j2l)(f302_l1:j2m):zz (k6a f312) 0 f302 (d5l f302_l0 f302_l1) b0y q1f (k5c f312 f302_l0 f302_l1):=λv=>by kernel_rfl
def vw:y1v:=k5c z2q j7i j7j
theorem b9h:FO 302 (f9o vw) :=
 qo y7p func302 (And.intro w3q (And.intro w3r trivial)) (m0v z2q j7i j7j)
abbrev q6r:=Int×Bool×Bool×qu×qw×qx×Int×Int×Int×Bool×Bool×Unit->Option ((List (Int)×Unit)⊕(Bool×qu×qw×qx×Int×Int×Int×Bool×Bool×Unit))
def x1d(f:q6r):LEnt:=⟨g8o,g8t,f⟩
abbrev q8m:=qu×qw×qx×Int×Bool×Unit->Option (List (Int)×Unit)
def v2w(f:q8m):FEnt:=⟨g8n,q1f,f⟩
def g8g(f216:z0o)(f279:q8m)(f300:z0v)(f301:y1u)(f302:y1v):=lk [(216,k2r f216),(279,v2w f279),(300,g6t f300),(301,f9n f301),(302,f9o f302)]
theorem v8t(G:q8m)(hG:zg prog 279 (v2w G)):zh prog (g8g zu G yg kf vw):=(kc k0k (kc hG (kc g5l (kc b9g (kc b9h kn)))))
def yq(f216:z0o)(f279:q8m)(f300:z0v)(f301:y1u)(f302:y1v):q6r:=λ(x0,x1,x2,x3,x4,x5,x6,x7,x8,x9,x10,_)=>bif x2 then some (Sum.inl ([x0],()))else bif x8==0 then(f279 (x3,x4,x5,x7,x1,())).bind λv=>some (Sum.inl (v.1,()))else some (Sum.inr (x1,x3,x4,x5,x6,x7,x8,x9,x10,()))
theorem w0e(f216:z0o)(f279:q8m)(f300:z0v)(f301:y1u)(f302:y1v):AqC (g8g f216 f279 f300 f301 f302) 0 (qd (code Tryz.f279) [1,1,0,0,1,1,1]) .nil g8o g8t (yq f216 f279 f300 f301 f302):=λv=>by kernel_rfl
def j0e(G:q8m):q6r:=yq zu G yg kf vw
theorem w3e(G:q8m)(hG:zg prog 279 (v2w G)):zc 0 (qd (code f279) [1,1,0,0,1,1,1]) (x1d (j0e G)) :=
 wn (ins:=g8o) (os:=g8t) (n := .nil) (F:=(j0e G)) hm hΓ (v8t G hG) (jm _) (w0e zu G yg kf vw)
def d5c(f279_c0:q6r):Ann:=(.seq .nil (.seq .nil (.seq (.blk (.seq .nil (.cond .nil (.cut .nil (x1d f279_c0))))) .nil)))
def j4m(f216:z0o)(f279:q8m)(f300:z0v)(f301:y1u)(f302:y1v)(f279_c0:q6r):q8m:=λ(x0,x1,x2,x3,x4,_)=>(f216 (x0,x1,x2,x3,())).bind λv=>(f300 (x3,44032,11172,())).bind λv1=>bif v1.1 then(f301 (x3,())).bind λv=>some (v.1,())else bif !v.2.2.2.2.2.1 then(f279_c0 (x3,x4,true,x0,x1,x2,v.1,v.2.1,v.2.2.1,v.2.2.2.1,v.2.2.2.2.1,())).bind λv=>Sum.elim (λv=>some (v.1,())) (λv=>(f279 (v.2.1,v.2.2.1,v.2.2.2.1,v.2.2.2.2.2.1,v.1,())).bind λv2=>(f279 (v.2.1,v.2.2.1,v.2.2.2.1,v.2.2.2.2.2.2.1,v.1,())).bind λv=>(f302 ([v2.1,v.1],())).bind λv=>some (v.1,())) v else bif v.2.2.2.1 then(f279_c0 (x3,x4,!x4,x0,x1,x2,v.1,v.2.1,v.2.2.1,v.2.2.2.1,v.2.2.2.2.1,())).bind λv=>Sum.elim (λv=>some (v.1,())) (λv=>(f279 (v.2.1,v.2.2.1,v.2.2.2.1,v.2.2.2.2.2.1,v.1,())).bind λv2=>(f279 (v.2.1,v.2.2.1,v.2.2.2.1,v.2.2.2.2.2.2.1,v.1,())).bind λv=>(f302 ([v2.1,v.1],())).bind λv=>some (v.1,())) v else(f279_c0 (x3,x4,false,x0,x1,x2,v.1,v.2.1,v.2.2.1,v.2.2.2.1,v.2.2.2.2.1,())).bind λv=>Sum.elim (λv=>some (v.1,())) (λv=>(f279 (v.2.1,v.2.2.1,v.2.2.2.1,v.2.2.2.2.2.1,v.1,())).bind λv2=>(f279 (v.2.1,v.2.2.1,v.2.2.2.1,v.2.2.2.2.2.2.1,v.1,())).bind λv=>(f302 ([v2.1,v.1],())).bind λv=>some (v.1,())) v
theorem m0r(f216:z0o)(f279:q8m)(f300:z0v)(f301:y1u)(f302:y1v)(f279_c0:q6r):zz (g8g f216 f279 f300 f301 f302) 0 Tryz.f279 (d5c f279_c0) g8n q1f (j4m f216 f279 f300 f301 f302 f279_c0):=λv=>by kernel_rfl
def z2p:q8m:=q1s (λG=>j4m zu G yg kf vw (j0e G)) qz
theorem b8o:FO 279 (v2w z2p) :=
 y6x (ins:=g8n) (os:=q1f) (F:=λG=>j4m zu G yg kf vw (j0e G)) (λG hG=>qo (v8t G hG) func279 (And.intro (w3e G hG) trivial) (m0r zu G yg kf vw (j0e G))) qz
abbrev j8w:=Bool×List (Int)×Int×Int×qu×qw×qx×List (Int)×Unit->Option (List (Int)×Unit)
def x0r(f:j8w):LEnt:=⟨b1c,b1x,f⟩
abbrev x8x:=qu×qw×qx×List (Int)×Bool×Unit->Option (List (Int)×Unit)
def f7u(f:x8x):FEnt:=⟨b1b,q1f,f⟩
def g8a(f279:q8m):=lk [(279,v2w f279)]
theorem v8p:zh prog (g8a z2p):=(kc b8o kn)
def j7x(f279:q8m):ym (Bool×List (Int)×Int×Int×qu×qw×qx×List (Int)×Unit) (List (Int)×Unit):=λ(x0,x1,x2,x3,x4,x5,x6,x7,_)=>bif decide (x3<x2)then bif decide (0<=x3)&&decide (x3<(↑x1.length:Int))then(f279 (x4,x5,x6,x1.getD x3.toNat 0,x0,())).bind λv=>bif decide (x7.length+List.length v.1<=140737488355328/4)then some (Sum.inl (x0,x1,x2,IntKind.i64.wrap (x3+1),x4,x5,x6,x7++v.1,()))else none else none else some (Sum.inr (x7,()))
def q9w:j8w:=qc (j7x z2p) qz
theorem w2s:jg 0 (qd (code f240) [1,1,0,1,0,0]) (x0r q9w):=zl1 b1c b1x g8a j7x z2p v8p
def d4t(f240_l0:j8w):Ann:=(.seq .nil (.seq .nil (.seq (.seq .nil (.blk (.loop (x0r f240_l0)))) .nil)))
def x7s(f279:q8m)(f240_l0:j8w):x8x:=λ(x0,x1,x2,x3,x4,_)=>(f240_l0 (x4,x3,(↑x3.length:Int),0,x0,x1,x2,[],())).bind λv=>some (v.1,())
def v1u:x8x:=x7s z2p q9w
theorem b7j:FO 240 (f7u v1u):=ke b1b q1f g8a d4t x7s z2p q9w v8p func240 (And.intro w2s trivial)
abbrev j2d:=Int×Int×Bool×qu×qw×qx×Unit->Option ((Int×Bool×Unit)⊕(Int×Int×qu×qw×qx×Unit))
def x1e(f:j2d):LEnt:=⟨w6g,g0d,f⟩
abbrev y1r:=qu×qw×qx×Int×Int×Unit->Option (Int×Bool×Unit)
def f8x(f:y1r):FEnt:=⟨Li5,Lo6,f⟩
def g8h(f300:z0v)(f303:v5h):=lk [(300,g6t f300),(303,f9p f303)]
theorem v8u:zh prog (g8h yg q3s):=(kc g5l (kc b9i kn))
def q5p(f300:z0v)(f303:v5h):j2d:=λ(x0,x1,x2,x3,x4,x5,_)=>bif x2 then some (Sum.inl (IntKind.i32.wrap (44032+IntKind.i32.wrap (IntKind.i32.wrap (IntKind.i32.wrap (IntKind.i32.wrap (IntKind.i32.wrap (x0-4352)*21)+x1)-4449)*28)),true,()))else(f300 (x0,44032,11172,())).bind λv=>bif v.1 then bif(IntKind.i32.wrap (x0-44032)).tmod 28==0 then(f300 (x1,4520,27,())).bind λv=>bif v.1 then some (Sum.inl (IntKind.i32.wrap (IntKind.i32.wrap (x0+x1)-4519),true,()))else some (Sum.inr (x0,x1,x3,x4,x5,()))else some (Sum.inr (x0,x1,x3,x4,x5,()))else some (Sum.inr (x0,x1,x3,x4,x5,()))
def kw:j2d:=q5p yg q3s
theorem w3f:zc 0 (qd (code f280) [1,0,0,1]) (x1e kw):=zc2 w6g g0d g8h q5p yg q3s v8u
def d5d(f280_c0:j2d):Ann:=(.seq .nil (.seq (.blk (.cut .nil (x1e f280_c0))) .nil))
def x7v(f300:z0v)(f303:v5h)(f280_c0:j2d):y1r:=λ(x0,x1,x2,x3,x4,_)=>(f300 (x3,4352,19,())).bind λv=>bif v.1 then(f300 (x4,4449,21,())).bind λv=>(f280_c0 (x3,x4,v.1,x0,x1,x2,())).bind λv=>Sum.elim (λv=>some (v.1,v.2.1,())) (λv=>(f303 (v.2.2.1,v.2.2.2.1,v.2.2.2.2.1,v.1,v.2.1,())).bind λv=>some (v.1,v.2.1,())) v else(f280_c0 (x3,x4,false,x0,x1,x2,())).bind λv=>Sum.elim (λv=>some (v.1,v.2.1,())) (λv=>(f303 (v.2.2.1,v.2.2.2.1,v.2.2.2.2.1,v.1,v.2.1,())).bind λv=>some (v.1,v.2.1,())) v
def j0f:y1r:=x7v yg q3s kw
theorem b8q:FO 280 (f8x j0f):=q7w Li5 Lo6 g8h d5d x7v yg q3s kw v8u func280 (And.intro w3f trivial)
abbrev q6p:=Int×Int×Int×Int×List (Int)×Int×Int×Bool×qu×qw×qx×List (Int)×Unit->Option ((Int×Int×List (Int)×Int×Int×qu×qw×qx×List (Int)×Unit)⊕(Int×Int×Int×Int×List (Int)×Int×Int×qu×qw×qx×List (Int)×Unit))
def x0s(f:q6p):LEnt:=⟨w6h,g0e,f⟩
abbrev j8x:=Int×Int×List (Int)×Int×Int×qu×qw×qx×List (Int)×Unit->Option (List (Int)×Unit)
def x0t(f:j8x):LEnt:=⟨w6i,g0f,f⟩
abbrev x8y:=qu×qw×qx×List (Int)×Unit->Option (List (Int)×Unit)
def f7v(f:x8y):FEnt:=⟨Li9,q1f,f⟩
def k5y(f276:q2l)(f280:y1r):=lk [(276,v2v f276),(280,f8x f280)]
theorem y7n:zh prog (k5y xj j0f):=(kc x5s (kc b8q kn))
def q5o(f276:q2l)(f280:y1r):q6p:=λ(x0,x1,x2,x3,x4,x5,x6,x7,x8,x9,x10,x11,_)=>bif x7 then bif decide (0<=x0)&&decide (x0<(↑x11.length:Int))then(f280 (x8,x9,x10,x11.getD x0.toNat 0,x2,())).bind λv=>bif v.2.1 then bif decide (0<=x0)&&decide (x0<(↑x11.length:Int))then some (Sum.inl (x0,x1,x4,x5,x6,x8,x9,x10,x11.set x0.toNat v.1,()))else none else some (Sum.inr (x0,x1,x2,x3,x4,x5,x6,x8,x9,x10,x11,()))else none else some (Sum.inr (x0,x1,x2,x3,x4,x5,x6,x8,x9,x10,x11,()))
def q2e:q6p:=q5o xj j0f
theorem w2t:zc 0 (qd (code f241) [1,1,1,0,1,0,0,1,1,0,0,1,1,0,1]) (x0s q2e):=zc2 w6h g0e k5y q5o xj j0f y7n
def k7j(f241_c0:q6p):Ann:=(.seq .nil (.seq .nil (.seq (.blk (.seq .nil (.seq .nil (.seq (.cut .nil (x0s f241_c0)) .nil)))) .nil)))
def j7y(f276:q2l)(f280:y1r)(f241_c0:q6p):ym (Int×Int×List (Int)×Int×Int×qu×qw×qx×List (Int)×Unit) (List (Int)×Unit):=λ(x0,x1,x2,x3,x4,x5,x6,x7,x8,_)=>bif decide (x4<x3)then bif decide (0<=x4)&&decide (x4<(↑x2.length:Int))then(f276 (x5,x6,x7,x2.getD x4.toNat 0,())).bind λv=>bif decide (x0>=0)then bif decide (x1<v.1)then(f241_c0 (x0,x1,x2.getD x4.toNat 0,v.1,x2,x3,x4,true,x5,x6,x7,x8,())).bind λv=>Sum.elim (λv=>some (Sum.inl (v.1,v.2.1,v.2.2.1,v.2.2.2.1,IntKind.i64.wrap (v.2.2.2.2.1+1),v.2.2.2.2.2.1,v.2.2.2.2.2.2.1,v.2.2.2.2.2.2.2.1,v.2.2.2.2.2.2.2.2.1,()))) (λv=>bif decide (List.length v.2.2.2.2.2.2.2.2.2.2.1+[v.2.2.1].length<=140737488355328/4)then bif v.2.2.2.1==0 then some (Sum.inl (IntKind.i64.wrap ((↑(v.2.2.2.2.2.2.2.2.2.2.1++[v.2.2.1]).length:Int)-1),0,v.2.2.2.2.1,v.2.2.2.2.2.1,IntKind.i64.wrap (v.2.2.2.2.2.2.1+1),v.2.2.2.2.2.2.2.1,v.2.2.2.2.2.2.2.2.1,v.2.2.2.2.2.2.2.2.2.1,v.2.2.2.2.2.2.2.2.2.2.1++[v.2.2.1],()))else some (Sum.inl (v.1,if v.2.2.2.1>v.2.1 then v.2.2.2.1 else v.2.1,v.2.2.2.2.1,v.2.2.2.2.2.1,IntKind.i64.wrap (v.2.2.2.2.2.2.1+1),v.2.2.2.2.2.2.2.1,v.2.2.2.2.2.2.2.2.1,v.2.2.2.2.2.2.2.2.2.1,v.2.2.2.2.2.2.2.2.2.2.1++[v.2.2.1],()))else none) v else(f241_c0 (x0,x1,x2.getD x4.toNat 0,v.1,x2,x3,x4,x0==IntKind.i64.wrap ((↑x8.length:Int)-1),x5,x6,x7,x8,())).bind λv=>Sum.elim (λv=>some (Sum.inl (v.1,v.2.1,v.2.2.1,v.2.2.2.1,IntKind.i64.wrap (v.2.2.2.2.1+1),v.2.2.2.2.2.1,v.2.2.2.2.2.2.1,v.2.2.2.2.2.2.2.1,v.2.2.2.2.2.2.2.2.1,()))) (λv=>bif decide (List.length v.2.2.2.2.2.2.2.2.2.2.1+[v.2.2.1].length<=140737488355328/4)then bif v.2.2.2.1==0 then some (Sum.inl (IntKind.i64.wrap ((↑(v.2.2.2.2.2.2.2.2.2.2.1++[v.2.2.1]).length:Int)-1),0,v.2.2.2.2.1,v.2.2.2.2.2.1,IntKind.i64.wrap (v.2.2.2.2.2.2.1+1),v.2.2.2.2.2.2.2.1,v.2.2.2.2.2.2.2.2.1,v.2.2.2.2.2.2.2.2.2.1,v.2.2.2.2.2.2.2.2.2.2.1++[v.2.2.1],()))else some (Sum.inl (v.1,if v.2.2.2.1>v.2.1 then v.2.2.2.1 else v.2.1,v.2.2.2.2.1,v.2.2.2.2.2.1,IntKind.i64.wrap (v.2.2.2.2.2.2.1+1),v.2.2.2.2.2.2.2.1,v.2.2.2.2.2.2.2.2.1,v.2.2.2.2.2.2.2.2.2.1,v.2.2.2.2.2.2.2.2.2.2.1++[v.2.2.1],()))else none) v else(f241_c0 (x0,x1,x2.getD x4.toNat 0,v.1,x2,x3,x4,false,x5,x6,x7,x8,())).bind λv=>Sum.elim (λv=>some (Sum.inl (v.1,v.2.1,v.2.2.1,v.2.2.2.1,IntKind.i64.wrap (v.2.2.2.2.1+1),v.2.2.2.2.2.1,v.2.2.2.2.2.2.1,v.2.2.2.2.2.2.2.1,v.2.2.2.2.2.2.2.2.1,()))) (λv=>bif decide (List.length v.2.2.2.2.2.2.2.2.2.2.1+[v.2.2.1].length<=140737488355328/4)then bif v.2.2.2.1==0 then some (Sum.inl (IntKind.i64.wrap ((↑(v.2.2.2.2.2.2.2.2.2.2.1++[v.2.2.1]).length:Int)-1),0,v.2.2.2.2.1,v.2.2.2.2.2.1,IntKind.i64.wrap (v.2.2.2.2.2.2.1+1),v.2.2.2.2.2.2.2.1,v.2.2.2.2.2.2.2.2.1,v.2.2.2.2.2.2.2.2.2.1,v.2.2.2.2.2.2.2.2.2.2.1++[v.2.2.1],()))else some (Sum.inl (v.1,if v.2.2.2.1>v.2.1 then v.2.2.2.1 else v.2.1,v.2.2.2.2.1,v.2.2.2.2.2.1,IntKind.i64.wrap (v.2.2.2.2.2.2.1+1),v.2.2.2.2.2.2.2.1,v.2.2.2.2.2.2.2.2.1,v.2.2.2.2.2.2.2.2.2.1,v.2.2.2.2.2.2.2.2.2.2.1++[v.2.2.1],()))else none) v else none else some (Sum.inr (x8,()))
theorem k9y(f276:q2l)(f280:y1r)(f241_c0:q6p):AqL (k5y f276 f280) 0 (qd (code f241) [1,1,1,0,1,0,0]) (k7j f241_c0) w6i g0f (j7y f276 f280 f241_c0):=λv=>by kernel_rfl
def q9x:j8x:=qc (j7y xj j0f q2e) qz
theorem w2u:jg 0 (qd (code f241) [1,1,1,0,1,0,0]) (x0t q9x) :=
 frm y7n (And.intro w2t trivial) (k9y xj j0f q2e)
def d4u(f241_l0:j8x):Ann:=(.seq .nil (.seq .nil (.seq .nil (.seq (.seq .nil (.blk (.loop (x0t f241_l0)))) .nil))))
def x7t(f276:q2l)(f280:y1r)(f241_l0:j8x):x8y:=λ(x0,x1,x2,x3,_)=>(f241_l0 (-1,0,x3,(↑x3.length:Int),0,x0,x1,x2,[],())).bind λv=>some (v.1,())
def v1v:x8y:=x7t xj j0f q9x
theorem b7k:FO 241 (f7v v1v):=q7w Li9 q1f k5y d4u x7t xj j0f q9x y7n func241 (And.intro w2u trivial)
abbrev q5w:=Int×Bool×Unit->Option ((Int×Int×Unit)⊕Unit)
def y8y(f:q5w):LEnt:=⟨b0l,k6i,f⟩
abbrev j0y:=Int×Bool×Unit->Option ((Int×Int×Unit)⊕Unit)
def y8z(f:j0y):LEnt:=⟨b0m,k6i,f⟩
abbrev z0f:=Int×Unit->Option (Int×Int×Unit)
def f6e(f:z0f):FEnt:=⟨j6o,b1q,f⟩
def q5f:q5w:=λ(x0,x1,_)=>bif x1 then some (Sum.inl (2,IntKind.i32.wrap (intBits BinOp.and IntKind.u8 x0 15),()))else bif decide (x0>=240)then bif decide (x0<245)then some (Sum.inl (3,IntKind.i32.wrap (intBits BinOp.and IntKind.u8 x0 7),()))else some (Sum.inr ())else some (Sum.inr ())
def q1y:q5w:=q5f
theorem w0z:zc 0 (qd (code f121) [1,0,0,1,1,1,1,1]) (y8y q1y):=zc0 b0l k6i yu q5f kn
def k6u(f121_c0:q5w):Ann:=(.cond .nil (.cut .nil (y8y f121_c0)))
def q5g(f121_c0:q5w):j0y:=λ(x0,x1,_)=>bif x1 then some (Sum.inl (1,IntKind.i32.wrap (intBits BinOp.and IntKind.u8 x0 31),()))else bif decide (x0>=224)then(f121_c0 (x0,decide (x0<240),())).bind λv=>Sum.elim (λv=>some (Sum.inl (v.1,v.2.1,()))) (λv=>some (Sum.inr ())) v else(f121_c0 (x0,false,())).bind λv=>Sum.elim (λv=>some (Sum.inl (v.1,v.2.1,()))) (λv=>some (Sum.inr ())) v
theorem k9b(f121_c0:q5w):AqC yu 0 (qd (code f121) [1,0,0,1,1,1]) (k6u f121_c0) b0m k6i (q5g f121_c0):=λv=>by kernel_rfl
def q1z:j0y:=q5g q1y
theorem w1a:zc 0 (qd (code f121) [1,0,0,1,1,1]) (y8z q1z) :=
 frd kn (And.intro w0z trivial) (k9b q1y)
def d3r(f121_c1:j0y):Ann:=(.seq .nil (.seq (.blk (.seq .nil (.cond .nil (.cut .nil (y8z f121_c1))))) .nil))
def x7d(f121_c1:j0y):z0f:=λ(x0,_)=>bif decide (x0<128)then some (0,IntKind.i32.wrap x0,())else bif decide (x0>=194)then(f121_c1 (x0,decide (x0<224),())).bind λv=>Sum.elim (λv=>some (v.1,v.2.1,())) (λv=>some (-1,0,())) v else(f121_c1 (x0,false,())).bind λv=>Sum.elim (λv=>some (v.1,v.2.1,())) (λv=>some (-1,0,())) v
def kp:z0f:=x7d q1z
theorem b5r:FO 121 (f6e kp):=q1x j6o b1q yu d3r x7d q1z kn func121 (And.intro w1a trivial)
abbrev z0y:=qa×Int×Int×Int×Int×List (Int)×Unit->Option ((qa×Int×Int×Int×List (Int)×Unit)⊕(Int×List (Int)×Unit))
def v3l(f:z0y):LEnt:=⟨b0n,b1s,f⟩
abbrev z0z:=qa×Int×List (Int)×Unit->Option ((List (Int)×Unit)⊕(Int×List (Int)×Unit))
def v3m(f:z0z):LEnt:=⟨b0o,b1t,f⟩
abbrev z0x:=Int×List (Int)×Unit->Option (Int×List (Int)×Unit)
def v3k(f:z0x):LEnt:=⟨x7x,k6j,f⟩
abbrev T83:=qa×Unit->Option (List (Int)×Int×Unit)
def E83(f:T83):FEnt:=⟨yh,b1r,f⟩
def K83(f121:z0f)(f122:j0z):=lk [(121,f6e f121),(122,g5u f122)]
theorem x4u:zh prog (K83 kp xg):=(kc b5r (kc g4m kn))
def q3y(f121:z0f)(f122:j0z):ym (qa×Int×Int×Int×Int×List (Int)×Unit) ((qa×Int×Int×Int×List (Int)×Unit)⊕(Int×List (Int)×Unit)):=λ(x0,x1,x2,x3,x4,x5,_)=>bif decide (x4<=IntKind.i64.wrap (x3+x1))then bif decide (0<=x4)&&decide (x4<(↑x0.length:Int))then bif intBits BinOp.andNot IntKind.u8 (↑(x0.getD x4.toNat 0).toNat:Int) 63 != 128 then some (Sum.inr (Sum.inr (x3,x5,())))else bif decide (0<=x4)&&decide (x4<(↑x0.length:Int))then some (Sum.inl (x0,x1,intBits BinOp.or IntKind.i32 (IntKind.i32.wrap (x2*2^min 6 IntKind.i32.bits)) (IntKind.i32.wrap (intBits BinOp.and IntKind.u8 (↑(x0.getD x4.toNat 0).toNat:Int) 63)),x3,IntKind.i64.wrap (x4+1),x5,()))else none else none else some (Sum.inr (Sum.inl (x0,x1,x2,x3,x5,())))
def q3v:z0y:=qc (q3y kp xg) qz
theorem f3a:jg 0 (qd (code f83) [1,0,1,1,1,1,0,0,0,1,0,1,1,0,1,0,0]) (v3l q3v):=zl2 b0n b1s K83 q3y kp xg x4u
def g9d(f83_l0:z0y):Ann:=(.seq .nil (.blk (.seq .nil (.seq .nil (.seq (.seq .nil (.blk (.loop (v3l f83_l0)))) .nil)))))
def kh(f121:z0f)(f122:j0z)(f83_l0:z0y):ym (qa×Int×List (Int)×Unit) ((List (Int)×Unit)⊕(Int×List (Int)×Unit)):=λ(x0,x1,x2,_)=>bif decide (x1<(↑x0.length:Int))then bif decide (0<=x1)&&decide (x1<(↑x0.length:Int))then(f121 ((↑(x0.getD x1.toNat 0).toNat:Int),())).bind λv=>bif decide (v.1<0)then some (Sum.inr (Sum.inr (x1,x2,())))else bif decide (IntKind.i64.wrap ((↑x0.length:Int)-x1)<=v.1)then some (Sum.inr (Sum.inr (x1,x2,())))else(f83_l0 (x0,v.1,v.2.1,x1,IntKind.i64.wrap (x1+1),x2,())).bind λv=>Sum.elim (λv=>(f122 (v.2.2.1,())).bind λv1=>bif v1.1 != IntKind.i64.wrap (v.2.1+1)then some (Sum.inr (Sum.inr (v.2.2.2.1,v.2.2.2.2.1,())))else bif decide (List.length v.2.2.2.2.1+[v.2.2.1].length<=140737488355328/4)then some (Sum.inl (v.1,IntKind.i64.wrap (v.2.2.2.1+IntKind.i64.wrap (v.2.1+1)),v.2.2.2.2.1++[v.2.2.1],()))else none) (λv=>some (Sum.inr (Sum.inr (v.1,v.2.1,())))) v else none else some (Sum.inr (Sum.inl (x2,())))
theorem f2i(f121:z0f)(f122:j0z)(f83_l0:z0y):AqL (K83 f121 f122) 0 (qd (code f83) [1,0,1,1,1,1,0,0,0]) (g9d f83_l0) b0o b1t (kh f121 f122 f83_l0):=λv=>by kernel_rfl
def q8e:z0z:=qc (kh kp xg q3v) qz
theorem f3b:jg 0 (qd (code f83) [1,0,1,1,1,1,0,0,0]) (v3m q8e) :=
 frm x4u (And.intro f3a trivial) (f2i kp xg q3v)
def y5u(f121:z0f)(f122:j0z):ym (Int×List (Int)×Unit) (Int×List (Int)×Unit):=λ(x0,x1,_)=>some (Sum.inr (x0,x1,()))
theorem f2h(f121:z0f)(f122:j0z)(v:HS x7x):aev Γ (K83 f121 f122) 0 ((findLabel (qd (code f83) [1,0]) 0).getD .skip) .nil (v1j x7x v) (we 0 0 [] x7x k6j)=y5u f121 f122 v:=by kernel_rfl
def q3u:z0x:=qc (y5u kp xg) qz
theorem f2z:jt prog 0 (js prog (qd (code f83) [1,0]) 0) (v3k q3u) :=
 yb (ins:=x7x) (os:=k6j) (C:=q3u) (q2o (ins:=x7x) (os:=k6j) (n := .nil) (ls:=[]) (F:=y5u kp xg) (rest:=((findLabel (qd (code f83) [1,0]) 0).getD .skip)) hm hΓ x4u (λ_=>qz) (by kernel_rfl) (jm _) q4h (f2h kp xg)) rfl
def N83(f83_g0:z0x)(f83_l1:z0z):Ann:=(.seq .nil (.scope (.seq .nil (.seq .nil (.seq .nil (.seq .nil (.seq (.blk (.loop (v3m f83_l1))) .nil))))) [(0,(v3k f83_g0))]))
def F83(f121:z0f)(f122:j0z)(f83_g0:z0x)(f83_l1:z0z):T83:=λ(x0,_)=>(f83_l1 (x0,0,[],())).bind λv=>Sum.elim (λv=>some (v.1,-1,())) (λv=>(f83_g0 (v.1,v.2.1,())).bind λv=>some (v.2.1,v.1,())) v
theorem h83(f121:z0f)(f122:j0z)(f83_g0:z0x)(f83_l1:z0z):zz (K83 f121 f122) 0 f83 (N83 f83_g0 f83_l1) yh b1r (F83 f121 f122 f83_g0 f83_l1):=λv=>by kernel_rfl
def C83:T83:=F83 kp xg q3u q8e
theorem v1b:FO 83 (E83 C83) :=
 qo x4u func83 (And.intro f3b (And.intro f2z trivial)) (h83 kp xg q3u q8e)
abbrev v4x:=qu×qw×qx×qa×Bool×Bool×Unit->Option (qa×Bool×Unit)
def f7j(f:v4x):FEnt:=⟨w6j,q4a,f⟩
def d1z(f178:j6q)(f239:x8w)(f240:x8x)(f241:x8y)(f83:T83):=lk [(178,k2q f178),(239,f7t f239),(240,f7u f240),(241,f7v f241),(83,E83 f83)]
def k3k(f178:j6q)(f239:x8w)(f240:x8x)(f241:x8y)(f83:T83):v4x:=λ(x0,x1,x2,x3,x4,x5,_)=>(f83 (x3,())).bind λv=>bif decide (v.2.1>=0)then some ([],false,())else(f240 (x0,x1,x2,v.1,x4,())).bind λv=>(f239 (x0,x1,x2,v.1,())).bind λv=>bif x5 then(f241 (x0,x1,x2,v.1,())).bind λv=>(f178 (v.1,())).bind λv=>some (v.1,v.2.1,())else(f178 (v.1,())).bind λv=>some (v.1,v.2.1,())
theorem d9u(f178:j6q)(f239:x8w)(f240:x8x)(f241:x8y)(f83:T83):zz (d1z f178 f239 f240 f241 f83) 0 f213 .nil w6j q4a (k3k f178 f239 f240 f241 f83):=λv=>by kernel_rfl
def y5e:v4x:=k3k z5p y5h v1u v1v C83
theorem b6x:FO 213 (f7j y5e) :=
 q0 (kc k0i (kc b7h (kc b7j (kc b7k (kc v1b kn))))) func213 (d9u z5p y5h v1u v1v C83)
abbrev y1m:=qu×qw×qx×qa×Unit->Option (qa×Bool×Unit)
def g6c(f:y1m):FEnt:=⟨ww,q4a,f⟩
def d1s(f213:v4x):=lk [(213,f7j f213)]
def k3f(f213:v4x):y1m:=λ(x0,x1,x2,x3,_)=>(f213 (x0,x1,x2,x3,false,true,())).bind λv=>some (v.1,v.2.1,())
def z5q:y1m:=k3f y5e
theorem g4w:FO 181 (g6c z5q):=kb ww q4a d1s k3f y5e (kc b6x kn) func181
abbrev y6d:=qu×qw×qx×qa×Unit->Option (qa×Bool×Unit)
def f6p(f:y6d):FEnt:=⟨ww,q4a,f⟩
def d1h(f178:j6q)(f179:x8l)(f180:x8m)(f181:y1m)(f83:T83):=lk [(178,k2q f178),(179,f6x f179),(180,f6y f180),(181,g6c f181),(83,E83 f83)]
def v4a(f178:j6q)(f179:x8l)(f180:x8m)(f181:y1m)(f83:T83):y6d:=λ(x0,x1,x2,x3,_)=>(f83 (x3,())).bind λv=>bif decide (v.2.1>=0)then some ([],false,())else(f180 (x0,x1,x2,v.1,())).bind λv=>(f179 (x0,x1,x2,v.1,())).bind λv=>(f178 (v.1,())).bind λv=>(f181 (x0,x1,x2,v.1,())).bind λv=>some (v.1,v.2.1,())
theorem d9n(f178:j6q)(f179:x8l)(f180:x8m)(f181:y1m)(f83:T83):zz (d1h f178 f179 f180 f181 f83) 0 f151 .nil ww q4a (v4a f178 f179 f180 f181 f83):=λv=>by kernel_rfl
def j9m:y6d:=v4a z5p x6m x6n z5q C83
theorem g4t:FO 151 (f6p j9m) :=
 q0 (kc k0i (kc b6k (kc b6m (kc g4w (kc v1b kn))))) func151 (d9n z5p x6m x6n z5q C83)
abbrev z7z:=qa×Int×Int×Unit->Option (Unit⊕(Int×Unit))
def v2q(f:z7z):LEnt:=⟨w6k,g0g,f⟩
abbrev T21:=qa×Unit->Option (Int×Unit)
def E21(f:T21):FEnt:=⟨yh,jd,f⟩
def z6v:ym (qa×Int×Int×Unit) (Unit⊕(Int×Unit)):=λ(x0,x1,x2,_)=>bif decide (x2<x1)then bif decide (0<=x2)&&decide (x2<(↑x0.length:Int))then bif decide ((↑(x0.getD x2.toNat 0).toNat:Int)>=128)then some (Sum.inr (Sum.inr (x2,())))else some (Sum.inl (x0,x1,IntKind.i64.wrap (x2+1),()))else none else some (Sum.inr (Sum.inl ()))
def z5w:z7z:=qc (z6v) qz
theorem f2n:jg 0 (qd (code f21) [1,0,1,0,0]) (v2q z5w):=zl0 w6k g0g yu z6v kn
def N21(f21_l0:z7z):Ann:=(.seq .nil (.seq (.seq .nil (.blk (.loop (v2q f21_l0)))) .nil))
def F21(f21_l0:z7z):T21:=λ(x0,_)=>(f21_l0 (x0,(↑x0.length:Int),0,())).bind λv=>Sum.elim (λv=>some (-1,())) (λv=>some (v.1,())) v
def C21:T21:=F21 z5w
theorem k0j:FO 21 (E21 C21):=q1x yh jd yu N21 F21 z5w kn func21 (And.intro f2n trivial)
abbrev j8y:=Int×Int×List (Int)×Int×Int×Unit->Option (Int×Unit)
def x0u(f:j8y):LEnt:=⟨w6m,g0h,f⟩
abbrev j1v:=List (Int)×Int×Unit->Option (Int×Unit)
def f8a(f:j1v):FEnt:=⟨w6l,y1e,f⟩
def z7c:ym (Int×Int×List (Int)×Int×Int×Unit) (Int×Unit):=λ(x0,x1,x2,x3,x4,_)=>bif decide (x4<x3)then bif decide (0<=x4)&&decide (x4<(↑x2.length:Int))then bif decide (x2.getD x4.toNat 0>=x0)then bif decide (x1<0)then some (Sum.inl (x0,x2.getD (x4.toNat) 0,x2,x3,IntKind.i64.wrap (x4+1),()))else bif decide (x2.getD x4.toNat 0<x1)then some (Sum.inl (x0,x2.getD (x4.toNat) 0,x2,x3,IntKind.i64.wrap (x4+1),()))else some (Sum.inl (x0,x1,x2,x3,IntKind.i64.wrap (x4+1),()))else some (Sum.inl (x0,x1,x2,x3,IntKind.i64.wrap (x4+1),()))else none else some (Sum.inr (x1,()))
def j7c:j8y:=qc (z7c) qz
theorem w2v:jg 0 (qd (code f250) [1,1,0,1,0,0]) (x0u j7c):=zl0 w6m g0h yu z7c kn
def d4v(f250_l0:j8y):Ann:=(.seq .nil (.seq .nil (.seq (.seq .nil (.blk (.loop (x0u f250_l0)))) .nil)))
def k4b(f250_l0:j8y):j1v:=λ(x0,x1,_)=>(f250_l0 (x1,-1,x0,(↑x0.length:Int),0,())).bind λv=>some (v.1,())
def q8c:j1v:=k4b j7c
theorem b7p:FO 250 (f8a q8c):=q1x w6l y1e yu d4v k4b j7c kn func250 (And.intro w2v trivial)
abbrev j2e:=Int×Int×Unit->Option (Int×Unit)
def g6s(f:j2e):FEnt:=⟨w6n,jd,f⟩
def k4v:j2e:=λ(x0,x1,_)=>some (if(if 26<IntKind.i64.wrap (x0-x1)then 26 else IntKind.i64.wrap (x0-x1))>1 then if 26<IntKind.i64.wrap (x0-x1)then 26 else IntKind.i64.wrap (x0-x1)else 1,())
def q3r:j2e:=k4v
theorem g5k:FO 290 (g6s q3r):=zq0 w6n jd yu k4v kn func290
abbrev j2f:=Int×Bool×Unit->Option ((Int×Bool×Unit)⊕Unit)
def x1h(f:j2f):LEnt:=⟨w6o,g0j,f⟩
abbrev y1t:=Int×Unit->Option (Int×Bool×Unit)
def f9g(f:y1t):FEnt:=⟨x2o,g0i,f⟩
def j8d:j2f:=λ(x0,x1,_)=>bif x1 then some (Sum.inl (IntKind.u8.wrap (97+IntKind.u8.wrap x0),true,()))else bif decide (x0>=26)then bif decide (x0<36)then some (Sum.inl (IntKind.u8.wrap (48+IntKind.u8.wrap (IntKind.i64.wrap (x0-26))),true,()))else some (Sum.inr ())else some (Sum.inr ())
def j0g:j2f:=j8d
theorem w3i:zc 0 (qd (code f291) [1,0,0,1]) (x1h j0g):=zc0 w6o g0j yu j8d kn
def d5g(f291_c0:j2f):Ann:=(.seq .nil (.seq (.blk (.cut .nil (x1h f291_c0))) .nil))
def k4w(f291_c0:j2f):y1t:=λ(x0,_)=>bif decide (x0>=0)then(f291_c0 (x0,decide (x0<26),())).bind λv=>Sum.elim (λv=>some (v.1,v.2.1,())) (λv=>some (0,false,())) v else(f291_c0 (x0,false,())).bind λv=>Sum.elim (λv=>some (v.1,v.2.1,())) (λv=>some (0,false,())) v
def z6e:y1t:=k4w j0g
theorem b8z:FO 291 (f9g z6e):=q1x x2o g0i yu d5g k4w j0g kn func291 (And.intro w3i trivial)
abbrev j1x:=Int×Int×Int×qa×Unit->Option (qa×Unit)
def x0v(f:j1x):LEnt:=⟨x2p,x3l,f⟩
abbrev j1w:=Int×Int×qa×Unit->Option (qa×Unit)
def f8b(f:j1w):FEnt:=⟨w6p,g0k,f⟩
def g8d(f290:j2e)(f291:y1t):=lk [(290,g6s f290),(291,f9g f291)]
theorem v8q:zh prog (g8d q3r z6e):=(kc g5k (kc b8z kn))
def j7z(f290:j2e)(f291:y1t):ym (Int×Int×Int×qa×Unit) (qa×Unit):=λ(x0,x1,x2,x3,_)=>(f290 (x2,x1,())).bind λv=>bif decide (x0<v.1)then(f291 (x0,())).bind λv=>bif decide (x3.length+[UInt8.ofNat (Int.toNat v.1)].length<=140737488355328/1)then some (Sum.inr (x3++[UInt8.ofNat (Int.toNat v.1)],()))else none else bif IntKind.i64.wrap (36-v.1) != 0 then(f291 (IntKind.i64.wrap (v.1+(IntKind.i64.wrap (x0-v.1)).tmod (IntKind.i64.wrap (36-v.1))),())).bind λv1=>bif decide (x3.length+[UInt8.ofNat (Int.toNat v1.1)].length<=140737488355328/1)then bif IntKind.i64.wrap (36-v.1) != 0 then some (Sum.inl (IntKind.i64.wrap ((IntKind.i64.wrap (x0-v.1)).tdiv (IntKind.i64.wrap (36-v.1))),x1,IntKind.i64.wrap (x2+36),x3++[UInt8.ofNat (Int.toNat v1.1)],()))else none else none else none
theorem k9z(f290:j2e)(f291:y1t):AqL (g8d f290 f291) 1 (qd (code f251) [1,1,0,0]) .nil x2p x3l (j7z f290 f291):=λv=>by kernel_rfl
def q5c:j1x:=qc (j7z q3r z6e) qz
theorem w2w:jt prog 1 (q3z prog (qd (code f251) [1,1,0,0])) (x0v q5c) :=
 yb (ins:=x2p) (os:=x3l) (C:=q5c) (y2u (ins:=x2p) (os:=x3l) (n := .nil) (F:=j7z q3r z6e) hm hΓ v8q (λ_=>qz) (jm _) (k9z q3r z6e)) rfl
def d4w(f251_l0:j1x):Ann:=(.seq .nil (.seq .nil (.blk (.peel .nil (x0v f251_l0)))))
def k4c(f290:j2e)(f291:y1t)(f251_l0:j1x):j1w:=λ(x0,x1,x2,_)=>(f290 (36,x1,())).bind λv=>bif decide (x0<v.1)then(f291 (x0,())).bind λv=>bif decide (x2.length+[UInt8.ofNat (Int.toNat v.1)].length<=140737488355328/1)then some (x2++[UInt8.ofNat (Int.toNat v.1)],())else none else bif IntKind.i64.wrap (36-v.1) != 0 then(f291 (IntKind.i64.wrap (v.1+(IntKind.i64.wrap (x0-v.1)).tmod (IntKind.i64.wrap (36-v.1))),())).bind λv1=>bif decide (x2.length+[UInt8.ofNat (Int.toNat v1.1)].length<=140737488355328/1)then bif IntKind.i64.wrap (36-v.1) != 0 then(f251_l0 (IntKind.i64.wrap ((IntKind.i64.wrap (x0-v.1)).tdiv (IntKind.i64.wrap (36-v.1))),x1,IntKind.i64.wrap (36+36),x2++[UInt8.ofNat (Int.toNat v1.1)],())).bind λv=>some (v.1,())else none else none else none
theorem m0b(f290:j2e)(f291:y1t)(f251_l0:j1x):zz (g8d f290 f291) 1 f251 (d4w f251_l0) w6p g0k (k4c f290 f291 f251_l0):=λv=>by kernel_rfl
def q8d:j1w:=k4c q3r z6e q5c
theorem b7q:FO 251 (f8b q8d) :=
 qo v8q func251 (And.intro w2w trivial) (m0b q3r z6e q5c)
abbrev j1z:=Int×Int×Unit->Option (Int×Int×Unit)
def x0x(f:j1z):LEnt:=⟨w6r,g0l,f⟩
abbrev j1y:=Int×Int×Unit->Option (Int×Unit)
def x0w(f:j1y):LEnt:=⟨w6s,g0m,f⟩
abbrev q1h:=Int×Int×Bool×Unit->Option (Int×Unit)
def g6n(f:q1h):FEnt:=⟨w6q,jd,f⟩
def z7d:ym (Int×Int×Unit) (Int×Int×Unit):=λ(x0,x1,_)=>bif decide (x0>455)then some (Sum.inl (IntKind.i64.wrap (x0.tdiv 35),IntKind.i64.wrap (x1+36),()))else some (Sum.inr (x0,x1,()))
def j0a:j1z:=qc (z7d) qz
theorem w2y:jg 0 (qd (code f252) [1,1,1,1,0,0,0]) (x0x j0a):=zl0 w6r g0l yu z7d kn
def k7k(f252_l0:j1z):Ann:=(.seq .nil (.seq .nil (.seq (.blk (.loop (x0x f252_l0))) .nil)))
def j8a(f252_l0:j1z):j1y:=λ(x0,x1,_)=>bif(if x1>1 then x1 else 1) != 0 then(f252_l0 (IntKind.i64.wrap (x0+IntKind.i64.wrap (x0.tdiv (if x1>1 then x1 else 1))),0,())).bind λv=>bif IntKind.i64.wrap (v.1+38) != 0 then some (IntKind.i64.wrap (v.2.1+IntKind.i64.wrap ((IntKind.i64.wrap (36*v.1)).tdiv (IntKind.i64.wrap (v.1+38)))),())else none else none
theorem w0a(f252_l0:j1z):AqC yu 0 (qd (code f252) [1,1]) (k7k f252_l0) w6s g0m (j8a f252_l0):=λv=>by kernel_rfl
def q9z:j1y:=j8a j0a
theorem w2x:zc 0 (qd (code f252) [1,1]) (x0w q9z) :=
 frd kn (And.intro w2y trivial) (w0a j0a)
def d4x(f252_c0:j1y):Ann:=(.seq .nil (.cut .nil (x0w f252_c0)))
def k4d(f252_c0:j1y):q1h:=λ(x0,x1,x2,_)=>bif x2 then(f252_c0 (IntKind.i64.wrap (x0.tdiv 700),x1,())).bind λv=>some (v.1,())else(f252_c0 (IntKind.i64.wrap (x0.tdiv 2),x1,())).bind λv=>some (v.1,())
def q0o:q1h:=k4d q9z
theorem g5g:FO 252 (g6n q0o):=q1x w6q jd yu d4x k4d q9z kn func252 (And.intro w2x trivial)
abbrev j1o:=List (Int)×List (Int)×Int×Int×qa×Unit->Option ((List (Int)×qa×Unit)⊕(qa×Bool×Unit))
def x0h(f:j1o):LEnt:=⟨w6t,g0n,f⟩
abbrev j1p:=List (Int)×Int×Int×Int×Int×Int×List (Int)×Int×Int×qa×Unit->Option (List (Int)×Int×Int×Int×Int×Int×qa×Unit)
def x0i(f:j1p):LEnt:=⟨w6u,g0o,f⟩
abbrev j1q:=List (Int)×Int×Int×Int×Int×Int×qa×Unit->Option ((qa×Unit)⊕(qa×Bool×Unit))
def x0j(f:j1q):LEnt:=⟨w6v,g0p,f⟩
abbrev q6m:=List (Int)×Int×qa×Unit->Option (qa×Bool×Unit)
def x0g(f:q6m):LEnt:=⟨w6w,g0q,f⟩
abbrev z8a:=List (Int)×Unit->Option (qa×Bool×Unit)
def g6j(f:z8a):FEnt:=⟨Li4,q4a,f⟩
def x7w(f155:wx)(f250:j1v)(f251:j1w)(f252:q1h):=lk [(155,k2n f155),(250,f8a f250),(251,f8b f251),(252,g6n f252)]
theorem z1t:zh prog (x7w xi q8c q8d q0o):=(kc k0f (kc b7p (kc b7q (kc g5g kn))))
def z6w(f155:wx)(f250:j1v)(f251:j1w)(f252:q1h):ym (List (Int)×List (Int)×Int×Int×qa×Unit) ((List (Int)×qa×Unit)⊕(qa×Bool×Unit)):=λ(x0,x1,x2,x3,x4,_)=>bif decide (x3<x2)then bif decide (0<=x3)&&decide (x3<(↑x1.length:Int))then(f155 (x1.getD x3.toNat 0,())).bind λv=>bif !v.1 then some (Sum.inr (Sum.inr ([],false,())))else bif decide (x1.getD x3.toNat 0<128)then bif decide (x4.length+[UInt8.ofNat (IntKind.u8.wrap (x1.getD x3.toNat 0)).toNat].length<=140737488355328/1)then some (Sum.inl (x0,x1,x2,IntKind.i64.wrap (x3+1),x4++[UInt8.ofNat (IntKind.u8.wrap (x1.getD x3.toNat 0)).toNat],()))else none else some (Sum.inl (x0,x1,x2,IntKind.i64.wrap (x3+1),x4,()))else none else some (Sum.inr (Sum.inl (x0,x4,())))
theorem k9s(f155:wx)(f250:j1v)(f251:j1w)(f252:q1h):AqL (x7w f155 f250 f251 f252) 0 (qd (code f223) [1,1,0,1,0,0]) .nil w6t g0n (z6w f155 f250 f251 f252):=λv=>by kernel_rfl
def q9u:j1o:=qc (z6w xi q8c q8d q0o) qz
theorem w2i:jg 0 (qd (code f223) [1,1,0,1,0,0]) (x0h q9u) :=
 frl z1t (k9s xi q8c q8d q0o)
def z6x(f155:wx)(f250:j1v)(f251:j1w)(f252:q1h):ym (List (Int)×Int×Int×Int×Int×Int×List (Int)×Int×Int×qa×Unit) (List (Int)×Int×Int×Int×Int×Int×qa×Unit):=λ(x0,x1,x2,x3,x4,x5,x6,x7,x8,x9,_)=>bif decide (x8<x7)then bif decide (0<=x8)&&decide (x8<(↑x6.length:Int))then bif decide (x6.getD x8.toNat 0<x2)then some (Sum.inl (x0,x1,x2,IntKind.i64.wrap (x3+1),x4,x5,x6,x7,IntKind.i64.wrap (x8+1),x9,()))else bif x6.getD x8.toNat 0==x2 then(f251 (x3,x4,x9,())).bind λv=>(f252 (x3,IntKind.i64.wrap (x5+1),x5==x1,())).bind λv1=>some (Sum.inl (x0,x1,x2,0,v1.1,IntKind.i64.wrap (x5+1),x6,x7,IntKind.i64.wrap (x8+1),v.1,()))else some (Sum.inl (x0,x1,x2,x3,x4,x5,x6,x7,IntKind.i64.wrap (x8+1),x9,()))else none else some (Sum.inr (x0,x1,x2,x3,x4,x5,x9,()))
theorem k9t(f155:wx)(f250:j1v)(f251:j1w)(f252:q1h):AqL (x7w f155 f250 f251 f252) 0 (qd (code f223) [1,1,1,1,1,1,0,1,0,0,1,0,1,1,1,1,0,1,0,0]) .nil w6u g0o (z6x f155 f250 f251 f252):=λv=>by kernel_rfl
def j6z:j1p:=qc (z6x xi q8c q8d q0o) qz
theorem w2j:jg 0 (qd (code f223) [1,1,1,1,1,1,0,1,0,0,1,0,1,1,1,1,0,1,0,0]) (x0i j6z) :=
 frl z1t (k9t xi q8c q8d q0o)
def k7g(f223_l1:j1p):Ann:=(.seq .nil (.blk (.seq .nil (.seq .nil (.seq .nil (.seq .nil (.seq (.seq .nil (.blk (.loop (x0i f223_l1)))) .nil)))))))
def z6y(f155:wx)(f250:j1v)(f251:j1w)(f252:q1h)(f223_l1:j1p):ym (List (Int)×Int×Int×Int×Int×Int×qa×Unit) ((qa×Unit)⊕(qa×Bool×Unit)):=λ(x0,x1,x2,x3,x4,x5,x6,_)=>bif decide (x5<(↑x0.length:Int))then(f250 (x0,x2,())).bind λv=>bif decide (IntKind.i64.wrap (x3+IntKind.i64.wrap (IntKind.i64.wrap (IntKind.i32.wrap (v.1-x2))*IntKind.i64.wrap (x5+1)))>2147483647)then some (Sum.inr (Sum.inr ([],false,())))else(f223_l1 (x0,x1,v.1,IntKind.i64.wrap (x3+IntKind.i64.wrap (IntKind.i64.wrap (IntKind.i32.wrap (v.1-x2))*IntKind.i64.wrap (x5+1))),x4,x5,x0,(↑x0.length:Int),0,x6,())).bind λv=>some (Sum.inl (v.1,v.2.1,IntKind.i32.wrap (v.2.2.1+1),IntKind.i64.wrap (v.2.2.2.1+1),v.2.2.2.2.1,v.2.2.2.2.2.1,v.2.2.2.2.2.2.1,()))else some (Sum.inr (Sum.inl (x6,())))
theorem k9u(f155:wx)(f250:j1v)(f251:j1w)(f252:q1h)(f223_l1:j1p):AqL (x7w f155 f250 f251 f252) 0 (qd (code f223) [1,1,1,1,1,1,0,1,0,0]) (k7g f223_l1) w6v g0p (z6y f155 f250 f251 f252 f223_l1):=λv=>by kernel_rfl
def q9v:j1q:=qc (z6y xi q8c q8d q0o j6z) qz
theorem w2k:jg 0 (qd (code f223) [1,1,1,1,1,1,0,1,0,0]) (x0j q9v) :=
 frm z1t (And.intro w2j trivial) (k9u xi q8c q8d q0o j6z)
def k7f(f223_l2:j1q):Ann:=(.seq .nil (.seq (.seq .nil (.blk (.loop (x0j f223_l2)))) .nil))
def j7s(f155:wx)(f250:j1v)(f251:j1w)(f252:q1h)(f223_l2:j1q):q6m:=λ(x0,x1,x2,_)=>(f223_l2 (x0,x1,128,0,72,x1,x2,())).bind λv=>Sum.elim (λv=>some (v.1,true,())) (λv=>some (v.1,v.2.1,())) v
theorem k9r(f155:wx)(f250:j1v)(f251:j1w)(f252:q1h)(f223_l2:j1q):AqC (x7w f155 f250 f251 f252) 0 (qd (code f223) [1,1,1,1,1]) (k7f f223_l2) w6w g0q (j7s f155 f250 f251 f252 f223_l2):=λv=>by kernel_rfl
def q9t:q6m:=j7s xi q8c q8d q0o q9v
theorem w2h:zc 0 (qd (code f223) [1,1,1,1,1]) (x0g q9t) :=
 frd z1t (And.intro w2k trivial) (k9r xi q8c q8d q0o q9v)
def d4n(f223_c0:q6m)(f223_l0:j1o):Ann:=(.seq .nil (.seq .nil (.seq (.seq .nil (.blk (.loop (x0h f223_l0)))) (.seq .nil (.cut .nil (x0g f223_c0))))))
def k3p(f155:wx)(f250:j1v)(f251:j1w)(f252:q1h)(f223_c0:q6m)(f223_l0:j1o):z8a:=λ(x0,_)=>(f223_l0 (x0,x0,(↑x0.length:Int),0,[],())).bind λv=>Sum.elim (λv=>bif decide ((↑(List.length v.2.1):Int)>0)then bif decide (List.length v.2.1+[45].length<=140737488355328/1)then(f223_c0 (v.1,(↑(List.length v.2.1):Int),v.2.1++[45],())).bind λv=>some (v.1,v.2.1,())else none else(f223_c0 (v.1,(↑(List.length v.2.1):Int),v.2.1,())).bind λv=>some (v.1,v.2.1,())) (λv=>some (v.1,v.2.1,())) v
theorem d9w(f155:wx)(f250:j1v)(f251:j1w)(f252:q1h)(f223_c0:q6m)(f223_l0:j1o):zz (x7w f155 f250 f251 f252) 0 f223 (d4n f223_c0 f223_l0) Li4 q4a (k3p f155 f250 f251 f252 f223_c0 f223_l0):=λv=>by kernel_rfl
def x6p:z8a:=k3p xi q8c q8d q0o q9t q9u
theorem g5c:FO 223 (g6j x6p) :=
 qo z1t func223 (And.intro w2i (And.intro w2h trivial)) (d9w xi q8c q8d q0o q9t q9u)
abbrev x9b:=Int×Unit->Option (Bool×Int×Unit)
def f8d(f:x9b):FEnt:=⟨w6x,g0r,f⟩
def g6z:x9b:=λ(x0,_)=>some (decide (x0>=0),x0,())
theorem m0c:zz yu 1 f254 .nil w6x g0r (g6z):=λv=>by kernel_rfl
def v1w:x9b:=g6z
theorem b7s:FO 254 (f8d v1w) :=
 q0 kn func254 (m0c)
abbrev x9d:=qu×qw×qx×qa×Unit->Option (Bool×Unit)
def f8f(f:x9d):FEnt:=⟨ww,qv,f⟩
def d2m(f181:y1m):=lk [(181,g6c f181)]
def g7a(f181:y1m):x9d:=λ(x0,x1,x2,x3,_)=>(f181 (x0,x1,x2,x3,())).bind λv=>bif v.2.1 then some (v.1==x3,())else some (false,())
def v1x:x9d:=g7a z5q
theorem b7u:FO 256 (f8f v1x):=kb ww qv d2m g7a z5q (kc g4w kn) func256
abbrev x9c:=qa×qu×qw×qx×Unit->Option (Bool×qa×qu×qw×qx×Unit)
def f8e(f:x9c):FEnt:=⟨w6y,g0s,f⟩
def d2l(f21:T21)(f256:x9d):=lk [(21,E21 f21),(256,f8f f256)]
def v4h(f21:T21)(f256:x9d):x9c:=λ(x0,x1,x2,x3,_)=>(f21 (x0,())).bind λv=>bif decide (v.1<0)then some (true,x0,x1,x2,x3,())else(f256 (x1,x2,x3,x0,())).bind λv=>some (bif v.1 then false else true,x0,x1,x2,x3,())
theorem m0d(f21:T21)(f256:x9d):zz (d2l f21 f256) 2 f255 .nil w6y g0s (v4h f21 f256):=λv=>by kernel_rfl
def y0t:x9c:=v4h C21 v1x
theorem b7t:FO 255 (f8e y0t) :=
 q0 (kc k0j (kc b7u kn)) func255 (m0d C21 v1x)
abbrev v5j:=qa×qa×Unit->Option (Bool×Unit)
def f9s(f:v5j):FEnt:=⟨zw,qv,f⟩
def g7j:v5j:=λ(x0,x1,_)=>bif decide ((↑x0.length:Int)>=(↑x1.length:Int))then bif decide (0<=IntKind.i64.wrap ((↑x0.length:Int)-(↑x1.length:Int)))&&decide (IntKind.i64.wrap ((↑x0.length:Int)-(↑x1.length:Int))<=(↑x0.length:Int))then some (List.drop (IntKind.i64.wrap ((↑x0.length:Int)-(↑x1.length:Int))).toNat x0==x1,())else none else some (false,())
def v2i:v5j:=g7j
theorem b9l:FO 308 (f9s v2i):=zq0 zw qv yu g7j kn func308
abbrev v5e:=qa×qa×Unit->Option (Bool×Unit)
def f9h(f:v5e):FEnt:=⟨zw,qv,f⟩
def d3f(f308:v5j):=lk [(308,f9s f308)]
def g7h(f308:v5j):v5e:=λ(x0,x1,_)=>(f308 (x0,x1,())).bind λv=>some (v.1,())
def v2e:v5e:=g7h v2i
theorem b9a:FO 292 (f9h v2e):=kb zw qv d3f g7h v2i (kc b9l kn) func292
abbrev T96:=qa×qa×Unit->Option (Bool×Unit)
def E96(f:T96):FEnt:=⟨zw,qv,f⟩
def K96(f131:y6b):=lk [(131,g5w f131)]
def F96(f131:y6b):T96:=λ(x0,x1,_)=>(f131 (x0,x1,())).bind λv=>some (v.1,())
def C96:T96:=F96 q3l
theorem f4e:FO 96 (E96 C96):=kb zw qv K96 F96 q3l (kc g4p kn) func96
abbrev z8d:=qa×Unit->Option (Bool×Unit)
def g6o(f:z8d):FEnt:=⟨yh,qv,f⟩
def d2o(f292:v5e)(f96:T96):=lk [(292,f9h f292),(96,E96 f96)]
def g7b(f292:v5e)(f96:T96):z8d:=λ(x0,_)=>(f96 (x0,[45],())).bind λv=>bif v.1 then some (true,())else(f292 (x0,[45],())).bind λv=>bif v.1 then some (true,())else bif decide ((↑x0.length:Int)>3)then bif decide (4<=(↑x0.length:Int))then some (List.drop 2 (List.take 4 x0)==[45,45],())else none else some (false,())
def y5j:z8d:=g7b v2e C96
theorem g5h:FO 258 (g6o y5j):=zq2 yh qv d2o g7b v2e C96 (kc b9a (kc f4e kn)) func258
abbrev x9e:=qa×Unit->Option (Bool×qa×Unit)
def f8g(f:x9e):FEnt:=⟨q3b,q3d,f⟩
def d2n(f258:z8d):=lk [(258,g6o f258)]
def k4e(f258:z8d):x9e:=λ(x0,_)=>(f258 (x0,())).bind λv=>some (v.1,x0,())
theorem m0e(f258:z8d):zz (d2n f258) 1 f257 .nil q3b q3d (k4e f258):=λv=>by kernel_rfl
def y5i:x9e:=k4e y5j
theorem b7v:FO 257 (f8g y5i) :=
 q0 (kc g5h kn) func257 (m0e y5j)
abbrev y1n:=qu×qw×qx×Int×Unit->Option (Int×Unit)
def g6h(f:y1n):FEnt:=⟨Li0,jd,f⟩
def d2b(f248:z0r):=lk [(248,v2t f248)]
def k3m(f248:z0r):y1n:=λ(x0,x1,x2,x3,_)=>(f248 (x0,x1,x2,x3,())).bind λv=>some (v.2.2.1,())
def y5f:y1n:=k3m q9y
theorem g5b:FO 215 (g6h y5f):=kb Li0 jd d2b k3m q9y (kc x5r kn) func215
abbrev x9f:=qu×qw×qx×List (Int)×Unit->Option (Bool×qu×qw×qx×List (Int)×Unit)
def f8h(f:x9f):FEnt:=⟨z3r,z3v,f⟩
def d2p(f215:y1n):=lk [(215,g6h f215)]
def k4f(f215:y1n):x9f:=λ(x0,x1,x2,x3,_)=>bif decide (0<(↑x3.length:Int))then(f215 (x0,x1,x2,x3.getD 0 0,())).bind λv=>some (v.1==4,x0,x1,x2,x3,())else none
theorem m0f(f215:y1n):zz (d2p f215) 2 f259 .nil z3r z3v (k4f f215):=λv=>by kernel_rfl
def y5k:x9f:=k4f y5f
theorem b7w:FO 259 (f8h y5k) :=
 q0 (kc g5b kn) func259 (m0f y5f)
abbrev z8b:=Int×Unit->Option (Bool×Unit)
def g6l(f:z8b):FEnt:=⟨q3n,qv,f⟩
def k3v:z8b:=λ(x0,_)=>bif decide (x0>=1632)then some (decide (x0<=1641),())else some (false,())
def j9p:z8b:=k3v
theorem g5e:FO 242 (g6l j9p):=zq0 q3n qv yu k3v kn func242
abbrev z8c:=Int×Unit->Option (Bool×Unit)
def g6m(f:z8c):FEnt:=⟨q3n,qv,f⟩
def k3y:z8c:=λ(x0,_)=>bif decide (x0>=1776)then some (decide (x0<=1785),())else some (false,())
def j9q:z8c:=k3y
theorem g5f:FO 245 (g6m j9q):=zq0 q3n qv yu k3y kn func245
abbrev x8q:=Int×Unit->Option (Unit⊕Unit⊕Unit⊕Unit⊕Unit⊕Unit⊕Unit⊕Unit⊕Unit)
def f7k(f:x8q):FEnt:=⟨q3n,g0v,f⟩
def d2a(f242:z8b)(f245:z8c)(f247:v5a):=lk [(242,g6l f242),(245,g6m f245),(247,f7z f247)]
def k3l(f242:z8b)(f245:z8c)(f247:v5a):x8q:=λ(x0,_)=>(f242 (x0,())).bind λv=>bif v.1 then some (Sum.inl ())else(f245 (x0,())).bind λv=>bif v.1 then some (Sum.inr (Sum.inl ()))else(f247 ()).bind λv=>bif decide (x0=8205)then some (Sum.inr (Sum.inr (Sum.inl ())))else bif decide (x0=8204)then some (Sum.inr (Sum.inr (Sum.inr (Sum.inl ()))))else bif decide (x0=183)then some (Sum.inr (Sum.inr (Sum.inr (Sum.inr (Sum.inl ())))))else bif decide (x0=885)then some (Sum.inr (Sum.inr (Sum.inr (Sum.inr (Sum.inr (Sum.inl ()))))))else bif decide (x0=1523)then some (Sum.inr (Sum.inr (Sum.inr (Sum.inr (Sum.inr (Sum.inr (Sum.inl ())))))))else bif decide (x0=1524)then some (Sum.inr (Sum.inr (Sum.inr (Sum.inr (Sum.inr (Sum.inr (Sum.inl ())))))))else bif decide (x0=12539)then some (Sum.inr (Sum.inr (Sum.inr (Sum.inr (Sum.inr (Sum.inr (Sum.inr (Sum.inl ()))))))))else some (Sum.inr (Sum.inr (Sum.inr (Sum.inr (Sum.inr (Sum.inr (Sum.inr (Sum.inr ()))))))))
theorem d9v(f242:z8b)(f245:z8c)(f247:v5a):zz (d2a f242 f245 f247) 0 f214 .nil q3n g0v (k3l f242 f245 f247):=λv=>by kernel_rfl
def z5v:x8q:=k3l j9p j9q k2j
theorem b6y:FO 214 (f7k z5v) :=
 q0 (kc g5e (kc g5f (kc b7o kn))) func214 (d9v j9p j9q k2j)
abbrev j9a:=List (Int)×Int×Int×Unit->Option (Unit⊕(Int×Unit))
def x1f(f:j9a):LEnt:=⟨w7c,j5t,f⟩
abbrev v5c:=List (Int)×Unit->Option (Int×Unit)
def f8y(f:v5c):FEnt:=⟨x2q,jd,f⟩
def g8i(f245:z8c):=lk [(245,g6m f245)]
theorem v8v:zh prog (g8i j9q):=(kc g5f kn)
def z7i(f245:z8c):ym (List (Int)×Int×Int×Unit) (Unit⊕(Int×Unit)):=λ(x0,x1,x2,_)=>bif decide (x2<x1)then bif decide (0<=x2)&&decide (x2<(↑x0.length:Int))then(f245 (x0.getD x2.toNat 0,())).bind λv=>bif v.1 then some (Sum.inr (Sum.inr (x2,())))else some (Sum.inl (x0,x1,IntKind.i64.wrap (x2+1),()))else none else some (Sum.inr (Sum.inl ()))
def j7f:j9a:=qc (z7i j9q) qz
theorem w3g:jg 0 (qd (code f281) [1,0,1,0,0]) (x1f j7f):=zl1 w7c j5t g8i z7i j9q v8v
def d5e(f281_l0:j9a):Ann:=(.seq .nil (.seq (.seq .nil (.blk (.loop (x1f f281_l0)))) .nil))
def k4m(f245:z8c)(f281_l0:j9a):v5c:=λ(x0,_)=>(f281_l0 (x0,(↑x0.length:Int),0,())).bind λv=>Sum.elim (λv=>some (-1,())) (λv=>some (v.1,())) v
def v2c:v5c:=k4m j9q j7f
theorem b8r:FO 281 (f8y v2c):=ke x2q jd g8i d5e k4m j9q j7f v8v func281 (And.intro w3g trivial)
abbrev v4z:=List (Int)×Unit->Option (Bool×Unit)
def f7x(f:v4z):FEnt:=⟨x2q,qv,f⟩
def d2h(f281:v5c):=lk [(281,f8y f281)]
def k3x(f281:v5c):v4z:=λ(x0,_)=>(f281 (x0,())).bind λv=>some (decide (v.1>=0),())
def k2i:v4z:=k3x v2c
theorem b7m:FO 244 (f7x k2i):=kb x2q qv d2h k3x v2c (kc b8r kn) func244
abbrev x8z:=qu×qw×qx×List (Int)×Int×Unit->Option (Bool×Unit)
def f7w(f:x8z):FEnt:=⟨km,qv,f⟩
def d2g(f244:v4z):=lk [(244,f7x f244)]
def k3w(f244:v4z):x8z:=λ(x0,x1,x2,x3,x4,_)=>(f244 (x3,())).bind λv=>some (bif v.1 then false else true,())
def x6r:x8z:=k3w k2i
theorem b7l:FO 243 (f7w x6r):=kb km qv d2g k3w k2i (kc b7m kn) func243
abbrev q6s:=List (Int)×Int×Int×Unit->Option (Unit⊕(Int×Unit))
def z3p(f:q6s):LEnt:=⟨w7d,j5t,f⟩
abbrev z0t:=List (Int)×Unit->Option (Int×Unit)
def v2z(f:z0t):FEnt:=⟨x2r,jd,f⟩
def y5y(f242:z8b):=lk [(242,g6l f242)]
theorem y3f:zh prog (y5y j9p):=(kc g5e kn)
def j4n(f242:z8b):ym (List (Int)×Int×Int×Unit) (Unit⊕(Int×Unit)):=λ(x0,x1,x2,_)=>bif decide (x2<x1)then bif decide (0<=x2)&&decide (x2<(↑x0.length:Int))then(f242 (x0.getD x2.toNat 0,())).bind λv=>bif v.1 then some (Sum.inr (Sum.inr (x2,())))else some (Sum.inl (x0,x1,IntKind.i64.wrap (x2+1),()))else none else some (Sum.inr (Sum.inl ()))
def q5d:q6s:=qc (j4n j9p) qz
theorem v0v:jg 0 (qd (code f281) [1,0,1,0,0]) (z3p q5d):=zl1 w7d j5t y5y j4n j9p y3f
def g8z(f281v1_l0:q6s):Ann:=(.seq .nil (.seq (.seq .nil (.blk (.loop (z3p f281v1_l0)))) .nil))
def z7j(f242:z8b)(f281v1_l0:q6s):z0t:=λ(x0,_)=>(f281v1_l0 (x0,(↑x0.length:Int),0,())).bind λv=>Sum.elim (λv=>some (-1,())) (λv=>some (v.1,())) v
def j9t:z0t:=z7j j9p q5d
theorem w5b:FO 281 (v2z j9t):=ke x2r jd y5y g8z z7j j9p q5d y3f func281 (And.intro v0v trivial)
abbrev z0p:=List (Int)×Unit->Option (Bool×Unit)
def v2r(f:z0p):FEnt:=⟨x2r,qv,f⟩
def g8b(f281v1:z0t):=lk [(281,v2z f281v1)]
def z7a(f281v1:z0t):z0p:=λ(x0,_)=>(f281v1 (x0,())).bind λv=>some (decide (v.1>=0),())
def z6b:z0p:=z7a j9t
theorem w4y:FO 244 (v2r z6b):=kb x2r qv g8b z7a j9t (kc w5b kn) func244
abbrev x9a:=qu×qw×qx×List (Int)×Int×Unit->Option (Bool×Unit)
def f7y(f:x9a):FEnt:=⟨km,qv,f⟩
def d2i(f244v1:z0p):=lk [(244,v2r f244v1)]
def k3z(f244v1:z0p):x9a:=λ(x0,x1,x2,x3,x4,_)=>(f244v1 (x3,())).bind λv=>some (bif v.1 then false else true,())
def x6s:x9a:=k3z z6b
theorem b7n:FO 246 (f7y x6s):=kb km qv d2i k3z z6b (kc w4y kn) func246
abbrev j2n:=qu×qw×qx×List (Int)×Int×Int×Unit->Option (Int×Unit)
def x7c(f:j2n):FEnt:=⟨x2s,y1e,f⟩
def k5d:j2n:=λ(x0,x1,x2,x3,x4,x5,_)=>bif decide (IntKind.i64.wrap (x4+x5)<0)then some (-1,())else bif decide (IntKind.i64.wrap (x4+x5)>=(↑x3.length:Int))then some (-1,())else bif decide (0<=IntKind.i64.wrap (x4+x5))&&decide (IntKind.i64.wrap (x4+x5)<(↑x3.length:Int))then some (x3.getD ((IntKind.i64.wrap (x4+x5)).toNat) 0,())else none
def q1k:j2n:=k5d
theorem y3x:FO 304 (x7c q1k):=zq0 x2s y1e yu k5d kn func304
abbrev y1s:=qu×qw×qx×List (Int)×Int×Unit->Option (Bool×Unit)
def g6r(f:y1s):FEnt:=⟨km,qv,f⟩
def d2z(f276:q2l)(f304:j2n):=lk [(276,v2v f276),(304,x7c f304)]
def k4n(f276:q2l)(f304:j2n):y1s:=λ(x0,x1,x2,x3,x4,_)=>(f304 (x0,x1,x2,x3,x4,-1,())).bind λv=>(f276 (x0,x1,x2,v.1,())).bind λv=>some (v.1==9,())
def z6d:y1s:=k4n xj q1k
theorem g5j:FO 282 (g6r z6d):=zq2 km qv d2z k4n xj q1k (kc x5s (kc y3x kn)) func282
abbrev x9y:=qu×qw×qx×Int×Unit->Option (Int×Unit)
def f9v(f:x9y):FEnt:=⟨Li0,jd,f⟩
def d3i(f248:z0r):=lk [(248,v2t f248)]
def k5i(f248:z0r):x9y:=λ(x0,x1,x2,x3,_)=>(f248 (x0,x1,x2,x3,())).bind λv=>some (v.2.2.2.2.1,())
def y0x:x9y:=k5i q9y
theorem b9p:FO 313 (f9v y0x):=kb Li0 jd d3i k5i q9y (kc x5r kn) func313
abbrev j9d:=Int×Int×qu×qw×qx×List (Int)×Int×Unit->Option (Unit⊕(Int×Unit))
def x1r(f:j9d):LEnt:=⟨w7e,g0w,f⟩
abbrev v5i:=qu×qw×qx×List (Int)×Int×Int×Unit->Option (Int×Unit)
def f9q(f:v5i):FEnt:=⟨x2s,jd,f⟩
def g8l(f304:j2n)(f313:x9y):=lk [(304,x7c f304),(313,f9v f313)]
theorem v8y:zh prog (g8l q1k y0x):=(kc y3x (kc b9p kn))
def z7r(f304:j2n)(f313:x9y):ym (Int×Int×qu×qw×qx×List (Int)×Int×Unit) (Unit⊕(Int×Unit)):=λ(x0,x1,x2,x3,x4,x5,x6,_)=>(f304 (x2,x3,x4,x5,x6,x1,())).bind λv=>bif decide (v.1>=0)then(f304 (x2,x3,x4,x5,x6,x1,())).bind λv=>(f313 (x2,x3,x4,v.1,())).bind λv=>bif v.1 != 3 then some (Sum.inr (Sum.inr (v.1,())))else some (Sum.inl (x0,IntKind.i64.wrap (x1+x0),x2,x3,x4,x5,x6,()))else some (Sum.inr (Sum.inl ()))
def j7k:j9d:=qc (z7r q1k y0x) qz
theorem w3s:jg 0 (qd (code f305) [1,0,1,0,0]) (x1r j7k):=zl2 w7e g0w g8l z7r q1k y0x v8y
def d5m(f305_l0:j9d):Ann:=(.seq .nil (.seq (.seq .nil (.blk (.loop (x1r f305_l0)))) .nil))
def k5e(f304:j2n)(f313:x9y)(f305_l0:j9d):v5i:=λ(x0,x1,x2,x3,x4,x5,_)=>(f305_l0 (x5,x5,x0,x1,x2,x3,x4,())).bind λv=>Sum.elim (λv=>some (0,())) (λv=>some (v.1,())) v
def v2h:v5i:=k5e q1k y0x j7k
theorem b9j:FO 305 (f9q v2h):=q7w x2s jd g8l d5m k5e q1k y0x j7k v8y func305 (And.intro w3s trivial)
abbrev x9r:=qu×qw×qx×List (Int)×Int×Unit->Option (Bool×Unit)
def f8z(f:x9r):FEnt:=⟨km,qv,f⟩
def d3a(f282:y1s)(f305:v5i):=lk [(282,g6r f282),(305,f9q f305)]
def k4o(f282:y1s)(f305:v5i):x9r:=λ(x0,x1,x2,x3,x4,_)=>(f305 (x0,x1,x2,x3,x4,1,())).bind λv=>(f282 (x0,x1,x2,x3,x4,())).bind λv1=>bif v1.1 then some (true,())else(f305 (x0,x1,x2,x3,x4,-1,())).bind λv2=>bif v2.1==1 then bif v.1==1 then some (true,())else some (v.1==2,())else some (false,())
def x6w:x9r:=k4o z6d v2h
theorem b8s:FO 283 (f8z x6w):=zq2 km qv d3a k4o z6d v2h (kc g5j (kc b9j kn)) func283
abbrev x9s:=qu×qw×qx×List (Int)×Int×Unit->Option (Bool×Unit)
def f9a(f:x9s):FEnt:=⟨km,qv,f⟩
def d3b(f304:j2n):=lk [(304,x7c f304)]
def k4p(f304:j2n):x9s:=λ(x0,x1,x2,x3,x4,_)=>(f304 (x0,x1,x2,x3,x4,-1,())).bind λv=>bif v.1==108 then(f304 (x0,x1,x2,x3,x4,1,())).bind λv=>some (v.1==108,())else some (false,())
def x6x:x9s:=k4p q1k
theorem b8t:FO 284 (f9a x6x):=kb km qv d3b k4p q1k (kc y3x kn) func284
abbrev z3b:=qu×qw×qx×Int×Unit->Option (Int×Unit)
def k2s(f:z3b):FEnt:=⟨Li0,jd,f⟩
def d3g(f248:z0r):=lk [(248,v2t f248)]
def k5f(f248:z0r):z3b:=λ(x0,x1,x2,x3,_)=>(f248 (x0,x1,x2,x3,())).bind λv=>some (v.2.2.2.2.2.1,())
def j9v:z3b:=k5f q9y
theorem k0n:FO 306 (k2s j9v):=kb Li0 jd d3g k5f q9y (kc x5r kn) func306
abbrev x9t:=qu×qw×qx×List (Int)×Int×Unit->Option (Bool×Unit)
def f9b(f:x9t):FEnt:=⟨km,qv,f⟩
def d3c(f304:j2n)(f306:z3b):=lk [(304,x7c f304),(306,k2s f306)]
def k4q(f304:j2n)(f306:z3b):x9t:=λ(x0,x1,x2,x3,x4,_)=>(f304 (x0,x1,x2,x3,x4,1,())).bind λv=>(f306 (x0,x1,x2,v.1,())).bind λv=>some (v.1==2,())
def x6y:x9t:=k4q q1k j9v
theorem b8u:FO 285 (f9b x6y):=zq2 km qv d3c k4q q1k j9v (kc y3x (kc k0n kn)) func285
abbrev x9u:=qu×qw×qx×List (Int)×Int×Unit->Option (Bool×Unit)
def f9c(f:x9u):FEnt:=⟨km,qv,f⟩
def d3d(f304:j2n)(f306:z3b):=lk [(304,x7c f304),(306,k2s f306)]
def k4r(f304:j2n)(f306:z3b):x9u:=λ(x0,x1,x2,x3,x4,_)=>(f304 (x0,x1,x2,x3,x4,-1,())).bind λv=>(f306 (x0,x1,x2,v.1,())).bind λv=>some (v.1==4,())
def x6z:x9u:=k4r q1k j9v
theorem b8v:FO 286 (f9c x6z):=zq2 km qv d3d k4r q1k j9v (kc y3x (kc k0n kn)) func286
abbrev y6i:=Int×qu×qw×qx×List (Int)×Int×Unit->Option (Bool×qu×qw×qx×List (Int)×Int×Unit)
def f9r(f:y6i):FEnt:=⟨w7f,x3n,f⟩
def d3h(f306:z3b):=lk [(306,k2s f306)]
def k5g(f306:z3b):y6i:=λ(x0,x1,x2,x3,x4,x5,_)=>(f306 (x1,x2,x3,x0,())).bind λv=>bif v.1==7 then some (true,x1,x2,x3,x4,x5,())else some (v.1==8,x1,x2,x3,x4,x5,())
theorem m0w(f306:z3b):zz (d3h f306) 1 f307 .nil w7f x3n (k5g f306):=λv=>by kernel_rfl
def y0w:y6i:=k5g j9v
theorem b9k:FO 307 (f9r y0w) :=
 q0 (kc k0n kn) func307 (m0w j9v)
abbrev q1l:=List (Int)×Int×Int×qu×qw×qx×List (Int)×Int×Unit->Option ((qu×qw×qx×List (Int)×Int×Unit)⊕(Int×qu×qw×qx×List (Int)×Int×Unit))
def z3q(f:q1l):LEnt:=⟨w7g,g0y,f⟩
abbrev j4v:=List (Int)×qu×qw×qx×List (Int)×Int×Unit->Option (Int×qu×qw×qx×List (Int)×Int×Unit)
def v3a(f:j4v):FEnt:=⟨x2t,g0x,f⟩
def y5z(f307:y6i):=lk [(307,f9r f307)]
theorem y3g:zh prog (y5z y0w):=(kc b9k kn)
def j4o(f307:y6i):ym (List (Int)×Int×Int×qu×qw×qx×List (Int)×Int×Unit) ((qu×qw×qx×List (Int)×Int×Unit)⊕(Int×qu×qw×qx×List (Int)×Int×Unit)):=λ(x0,x1,x2,x3,x4,x5,x6,x7,_)=>bif decide (x2<x1)then bif decide (0<=x2)&&decide (x2<(↑x0.length:Int))then(f307 (x0.getD x2.toNat 0,x3,x4,x5,x6,x7,())).bind λv=>bif v.1 then some (Sum.inr (Sum.inr (x2,v.2.1,v.2.2.1,v.2.2.2.1,v.2.2.2.2.1,v.2.2.2.2.2.1,())))else some (Sum.inl (x0,x1,IntKind.i64.wrap (x2+1),v.2.1,v.2.2.1,v.2.2.2.1,v.2.2.2.2.1,v.2.2.2.2.2.1,()))else none else some (Sum.inr (Sum.inl (x3,x4,x5,x6,x7,())))
def q5e:q1l:=qc (j4o y0w) qz
theorem v0w:jg 1 (qd (code f281) [1,0,1,0,0]) (z3q q5e):=zl1 w7g g0y y5z j4o y0w y3g
def g9a(f281v2_l0:q1l):Ann:=(.seq .nil (.seq (.seq .nil (.blk (.loop (z3q f281v2_l0)))) .nil))
def z7k(f307:y6i)(f281v2_l0:q1l):j4v:=λ(x0,x1,x2,x3,x4,x5,_)=>(f281v2_l0 (x0,(↑x0.length:Int),0,x1,x2,x3,x4,x5,())).bind λv=>Sum.elim (λv=>some (-1,v.1,v.2.1,v.2.2.1,v.2.2.2.1,v.2.2.2.2.1,())) (λv=>some (v.1,v.2.1,v.2.2.1,v.2.2.2.1,v.2.2.2.2.1,v.2.2.2.2.2.1,())) v
theorem f2c(f307:y6i)(f281v2_l0:q1l):zz (y5z f307) 1 f281 (g9a f281v2_l0) x2t g0x (z7k f307 f281v2_l0):=λv=>by kernel_rfl
def j9u:j4v:=z7k y0w q5e
theorem w5c:FO 281 (v3a j9u) :=
 qo y3g func281 (And.intro v0w trivial) (f2c y0w q5e)
abbrev z0q:=List (Int)×qu×qw×qx×List (Int)×Int×Unit->Option (Bool×qu×qw×qx×List (Int)×Int×Unit)
def v2s(f:z0q):FEnt:=⟨x2t,x3n,f⟩
def g8c(f281v2:j4v):=lk [(281,v3a f281v2)]
def z7b(f281v2:j4v):z0q:=λ(x0,x1,x2,x3,x4,x5,_)=>(f281v2 (x0,x1,x2,x3,x4,x5,())).bind λv=>some (decide (v.1>=0),v.2.1,v.2.2.1,v.2.2.2.1,v.2.2.2.2.1,v.2.2.2.2.2.1,())
theorem f1z(f281v2:j4v):zz (g8c f281v2) 1 f244 .nil x2t x3n (z7b f281v2):=λv=>by kernel_rfl
def z6c:z0q:=z7b j9u
theorem w4z:FO 244 (v2s z6c) :=
 q0 (kc w5c kn) func244 (f1z j9u)
abbrev x9v:=qu×qw×qx×List (Int)×Int×Unit->Option (Bool×Unit)
def f9d(f:x9v):FEnt:=⟨km,qv,f⟩
def d3e(f244v2:z0q):=lk [(244,v2s f244v2)]
def k4s(f244v2:z0q):x9v:=λ(x0,x1,x2,x3,x4,_)=>(f244v2 (x3,x0,x1,x2,x3,x4,())).bind λv=>some (v.1,())
def x7a:x9v:=k4s z6c
theorem b8w:FO 287 (f9d x7a):=kb km qv d3e k4s z6c (kc w4z kn) func287
abbrev x8n:=qu×qw×qx×List (Int)×Int×Unit->Option (Int×Unit)
def f6z(f:x8n):FEnt:=⟨w7h,jd,f⟩
def d1t(f214:x8q)(f243:x8z)(f246:x9a)(f282:y1s)(f283:x9r)(f284:x9s)(f285:x9t)(f286:x9u)(f287:x9v):=lk [(214,f7k f214),(243,f7w f243),(246,f7y f246),(282,g6r f282),(283,f8z f283),(284,f9a f284),(285,f9b f285),(286,f9c f286),(287,f9d f287)]
def x7o(f214:x8q)(f243:x8z)(f246:x9a)(f282:y1s)(f283:x9r)(f284:x9s)(f285:x9t)(f286:x9u)(f287:x9v):x8n:=λ(x0,x1,x2,x3,x4,_)=>bif decide (x4<0)then some (0,())else bif decide (x4>=(↑x3.length:Int))then some (0,())else bif decide (0<=x4)&&decide (x4<(↑x3.length:Int))then(f214 (x3.getD x4.toNat 0,())).bind λv=>Sum.elim (λv=>(f243 (x0,x1,x2,x3,x4,())).bind λv=>bif v.1 then some (1,())else some (2,())) (λv=>Sum.elim (λv=>(f246 (x0,x1,x2,x3,x4,())).bind λv=>bif v.1 then some (1,())else some (2,())) (λv=>Sum.elim (λv=>(f282 (x0,x1,x2,x3,x4,())).bind λv=>bif v.1 then some (1,())else some (2,())) (λv=>Sum.elim (λv=>(f283 (x0,x1,x2,x3,x4,())).bind λv=>bif v.1 then some (1,())else some (2,())) (λv=>Sum.elim (λv=>(f284 (x0,x1,x2,x3,x4,())).bind λv=>bif v.1 then some (1,())else some (2,())) (λv=>Sum.elim (λv=>(f285 (x0,x1,x2,x3,x4,())).bind λv=>bif v.1 then some (1,())else some (2,())) (λv=>Sum.elim (λv=>(f286 (x0,x1,x2,x3,x4,())).bind λv=>bif v.1 then some (1,())else some (2,())) (λv=>Sum.elim (λv=>(f287 (x0,x1,x2,x3,x4,())).bind λv=>bif v.1 then some (1,())else some (2,())) (λv=>some (0,())) v) v) v) v) v) v) v) v else none
theorem d9r(f214:x8q)(f243:x8z)(f246:x9a)(f282:y1s)(f283:x9r)(f284:x9s)(f285:x9t)(f286:x9u)(f287:x9v):zz (d1t f214 f243 f246 f282 f283 f284 f285 f286 f287) 0 f183 .nil w7h jd (x7o f214 f243 f246 f282 f283 f284 f285 f286 f287):=λv=>by kernel_rfl
def z2m:x8n:=x7o z5v x6r x6s z6d x6w x6x x6y x6z x7a
theorem b6n:FO 183 (f6z z2m) :=
 q0 (kc b6y (kc b7l (kc b7n (kc g5j (kc b8s (kc b8t (kc b8u (kc b8v (kc b8w kn))))))))) func183 (d9r z5v x6r x6s z6d x6w x6x x6y x6z x7a)
abbrev x8r:=qu×qw×qx×Int×Unit->Option (Bool×Unit)
def f7l(f:x8r):FEnt:=⟨Li0,qv,f⟩
def d2c(f215:y1n)(f216:z0o):=lk [(215,g6h f215),(216,k2r f216)]
def k3n(f215:y1n)(f216:z0o):x8r:=λ(x0,x1,x2,x3,_)=>(f216 (x0,x1,x2,x3,())).bind λv=>bif v.2.2.2.2.2.1 then bif v.2.2.2.1 then some (false,())else bif v.2.2.2.2.1 then some (false,())else(f215 (x0,x1,x2,x3,())).bind λv=>bif v.1==2 then some (true,())else bif v.1==3 then some (true,())else bif v.1==4 then some (true,())else bif v.1==5 then some (true,())else some (x3==45,())else(f215 (x0,x1,x2,x3,())).bind λv=>bif v.1==2 then some (true,())else bif v.1==3 then some (true,())else bif v.1==4 then some (true,())else bif v.1==5 then some (true,())else some (x3==45,())
def j4f:x8r:=k3n y5f zu
theorem b6z:FO 217 (f7l j4f):=zq2 Li0 qv d2c k3n y5f zu (kc g5b (kc k0k kn)) func217
abbrev j8z:=List (Int)×List (Int)×Int×Int×qu×qw×qx×Unit->Option (Unit⊕(Bool×Unit))
def x0y(f:j8z):LEnt:=⟨w7i,g0z,f⟩
abbrev x9h:=qu×qw×qx×List (Int)×Unit->Option (Bool×Unit)
def f8j(f:x9h):FEnt:=⟨Li9,qv,f⟩
def g8f(f183:x8n)(f217:x8r):=lk [(183,f6z f183),(217,f7l f217)]
theorem v8r:zh prog (g8f z2m j4f):=(kc b6n (kc b6z kn))
def j8b(f183:x8n)(f217:x8r):ym (List (Int)×List (Int)×Int×Int×qu×qw×qx×Unit) (Unit⊕(Bool×Unit)):=λ(x0,x1,x2,x3,x4,x5,x6,_)=>bif decide (x3<x2)then bif decide (0<=x3)&&decide (x3<(↑x1.length:Int))then(f183 (x4,x5,x6,x0,x3,())).bind λv=>bif v.1==2 then some (Sum.inr (Sum.inr (true,())))else bif v.1==0 then(f217 (x4,x5,x6,x1.getD x3.toNat 0,())).bind λv=>bif !v.1 then some (Sum.inr (Sum.inr (true,())))else some (Sum.inl (x0,x1,x2,IntKind.i64.wrap (x3+1),x4,x5,x6,()))else some (Sum.inl (x0,x1,x2,IntKind.i64.wrap (x3+1),x4,x5,x6,()))else none else some (Sum.inr (Sum.inl ()))
def j0b:j8z:=qc (j8b z2m j4f) qz
theorem w2z:jg 0 (qd (code f261) [1,0,1,0,0]) (x0y j0b):=zl2 w7i g0z g8f j8b z2m j4f v8r
def d4z(f261_l0:j8z):Ann:=(.seq .nil (.seq (.seq .nil (.blk (.loop (x0y f261_l0)))) .nil))
def x7u(f183:x8n)(f217:x8r)(f261_l0:j8z):x9h:=λ(x0,x1,x2,x3,_)=>(f261_l0 (x3,x3,(↑x3.length:Int),0,x0,x1,x2,())).bind λv=>Sum.elim (λv=>some (false,())) (λv=>some (v.1,())) v
def x6u:x9h:=x7u z2m j4f j0b
theorem b7y:FO 261 (f8j x6u):=q7w Li9 qv g8f d4z x7u z2m j4f j0b v8r func261 (And.intro w2z trivial)
abbrev x9g:=qu×qw×qx×List (Int)×Unit->Option (Bool×qu×qw×qx×List (Int)×Unit)
def f8i(f:x9g):FEnt:=⟨z3r,z3v,f⟩
def d2q(f261:x9h):=lk [(261,f8j f261)]
def v4i(f261:x9h):x9g:=λ(x0,x1,x2,x3,_)=>(f261 (x0,x1,x2,x3,())).bind λv=>some (v.1,x0,x1,x2,x3,())
theorem m0g(f261:x9h):zz (d2q f261) 2 f260 .nil z3r z3v (v4i f261):=λv=>by kernel_rfl
def x6t:x9g:=v4i x6u
theorem b7x:FO 260 (f8i x6t) :=
 q0 (kc b7y kn) func260 (m0g x6u)
abbrev j8s:=List (Int)×Int×Int×qu×qw×qx×List (Int)×List (Int)×Unit->Option (List (Int)×List (Int)×Unit)
def y9z(f:j8s):LEnt:=⟨w7j,g1b,f⟩
abbrev j6r:=qu×qw×qx×List (Int)×Unit->Option (Int×Int×Int×Int×Int×Int×Int×Int×Unit)
def g6d(f:j6r):FEnt:=⟨Li9,g1a,f⟩
def g7u(f218:y1o):=lk [(218,g6i f218)]
theorem v8j:zh prog (g7u q8b):=(kc k0l kn)
def z6u(f218:y1o):ym (List (Int)×Int×Int×qu×qw×qx×List (Int)×List (Int)×Unit) (List (Int)×List (Int)×Unit):=λ(x0,x1,x2,x3,x4,x5,x6,x7,_)=>bif decide (x2<x1)then bif decide (0<=x2)&&decide (x2<(↑x0.length:Int))then(f218 (x3,x4,x5,x0.getD x2.toNat 0,())).bind λv=>bif decide (x7.length=8)then bif decide (0<=v.1)&&decide (v.1<(↑8:Int))then bif decide (Int.toNat v.1<x7.length)then bif decide (x7.length=8)then bif decide (0<=v.1)&&decide (v.1<(↑8:Int))then bif decide (Int.toNat v.1<x7.length)then some (Sum.inl (x0,x1,IntKind.i64.wrap (x2+1),x3,x4,x5,x6,x7.set (Int.toNat v.1) (IntKind.i64.wrap (x7.getD (Int.toNat v.1) 0+1)),()))else none else none else none else none else none else none else none else some (Sum.inr (x6,x7,()))
def j6y:j8s:=qc (z6u q8b) qz
theorem w2a:jg 0 (qd (code f185) [1,1,0,1,0,0]) (y9z j6y):=zl1 w7j g1b g7u z6u q8b v8j
def d4h(f185_l0:j8s):Ann:=(.seq .nil (.seq .nil (.seq (.seq .nil (.blk (.loop (y9z f185_l0)))) .nil)))
def k3g(f218:y1o)(f185_l0:j8s):j6r:=λ(x0,x1,x2,x3,_)=>(f185_l0 (x3,(↑x3.length:Int),0,x0,x1,x2,[0,0,0,0,0,0,0,0],[0,0,0,0,0,0,0,0],())).bind λv=>bif decide (List.length v.2.1=8)then bif decide (List.length v.1=8)then some (v.2.1.getD 0 0,v.2.1.getD 1 0,v.2.1.getD 2 0,v.2.1.getD 3 0,v.2.1.getD 4 0,v.2.1.getD 5 0,v.2.1.getD 6 0,v.2.1.getD 7 0,())else none else none
def q9q:j6r:=k3g q8b j6y
theorem g4x:FO 185 (g6d q9q):=ke Li9 g1a g7u d4h k3g q8b j6y v8j func185 (And.intro w2a trivial)
abbrev j4r:=qu×qw×qx×List (Int)×Unit->Option (Bool×Unit)
def g6a(f:j4r):FEnt:=⟨Li9,qv,f⟩
def d1i(f185:j6r):=lk [(185,g6d f185)]
def k3b(f185:j6r):j4r:=λ(x0,x1,x2,x3,_)=>(f185 (x0,x1,x2,x3,())).bind λv=>some (decide (IntKind.i64.wrap (IntKind.i64.wrap ([v.1,v.2.1,v.2.2.1,v.2.2.2.1,v.2.2.2.2.1,v.2.2.2.2.2.1,v.2.2.2.2.2.2.1,v.2.2.2.2.2.2.2.1].getD 2 0+[v.1,v.2.1,v.2.2.1,v.2.2.2.1,v.2.2.2.2.1,v.2.2.2.2.2.1,v.2.2.2.2.2.2.1,v.2.2.2.2.2.2.2.1].getD 3 0)+[v.1,v.2.1,v.2.2.1,v.2.2.2.1,v.2.2.2.2.1,v.2.2.2.2.2.1,v.2.2.2.2.2.2.1,v.2.2.2.2.2.2.2.1].getD 5 0)>0),())
def j4a:j4r:=k3b q9q
theorem g4u:FO 153 (g6a j4a):=kb Li9 qv d1i k3b q9q (kc g4x kn) func153
abbrev z2w:=qu×qw×qx×List (Int)×Unit->Option (Int×Unit)
def f7b(f:z2w):FEnt:=⟨Li9,jd,f⟩
def d1u(f218:y1o):=lk [(218,g6i f218)]
def k3h(f218:y1o):z2w:=λ(x0,x1,x2,x3,_)=>bif(↑x3.length:Int)==0 then some (0,())else bif decide (0<(↑x3.length:Int))then(f218 (x0,x1,x2,x3.getD 0 0,())).bind λv=>bif v.1==2 then some (2,())else bif v.1==3 then some (2,())else bif v.1==1 then some (v.1,())else some (0,())else none
def j9n:z2w:=k3h q8b
theorem b6p:FO 187 (f7b j9n):=kb Li9 jd d1u k3h q8b (kc k0l kn) func187
abbrev q6d:=Bool×Bool×List (Int)×Unit->Option (Bool×Unit)
def y9p(f:q6d):LEnt:=⟨w7k,x3o,f⟩
abbrev q6e:=Int×Bool×List (Int)×Unit->Option (Bool×Unit)
def y9q(f:q6e):LEnt:=⟨w7l,x3o,f⟩
abbrev x8j:=qu×qw×qx×List (Int)×Unit->Option (Bool×Unit)
def f6q(f:x8j):FEnt:=⟨Li9,qv,f⟩
def k5s(f153:j4r)(f185:j6r)(f186:z7x)(f187:z2w):=lk [(153,g6a f153),(185,g6d f185),(186,f7a f186),(187,f7b f187)]
theorem y7h:zh prog (k5s j4a q9q j6h j9n):=(kc g4u (kc g4x (kc b6o (kc b6p kn))))
def j7n(f153:j4r)(f185:j6r)(f186:z7x)(f187:z2w):q6d:=λ(x0,x1,x2,_)=>bif decide (x2.length=8)then bif decide (Int.toNat 1<x2.length)then bif x2.getD 1 0==0 then bif x1 then some (bif x0 then false else true,())else some (false,())else some (false,())else none else none
theorem k9j(f153:j4r)(f185:j6r)(f186:z7x)(f187:z2w):AqC (k5s f153 f185 f186 f187) 0 (qd (code f154) [1,1,0,1,0,1,0,1,1]) .nil w7k x3o (j7n f153 f185 f186 f187):=λv=>by kernel_rfl
def q9n:q6d:=j7n j4a q9q j6h j9n
theorem w1q:zc 0 (qd (code f154) [1,1,0,1,0,1,0,1,1]) (y9p q9n) :=
 frc y7h (k9j j4a q9q j6h j9n)
def k7a(f154_c0:q6d):Ann:=(.cut .nil (y9p f154_c0))
def j7o(f153:j4r)(f185:j6r)(f186:z7x)(f187:z2w)(f154_c0:q6d):q6e:=λ(x0,x1,x2,_)=>bif x0==2 then(f154_c0 (x1,true,x2,())).bind λv=>some (v.1,())else bif x0==3 then(f154_c0 (x1,true,x2,())).bind λv=>some (v.1,())else bif x0==4 then(f154_c0 (x1,true,x2,())).bind λv=>some (v.1,())else(f154_c0 (x1,x0==5,x2,())).bind λv=>some (v.1,())
theorem k9k(f153:j4r)(f185:j6r)(f186:z7x)(f187:z2w)(f154_c0:q6d):AqC (k5s f153 f185 f186 f187) 0 (qd (code f154) [1,1,0,1,0,1,0,1]) (k7a f154_c0) w7l x3o (j7o f153 f185 f186 f187 f154_c0):=λv=>by kernel_rfl
def j6x:q6e:=j7o j4a q9q j6h j9n q9n
theorem w1r:zc 0 (qd (code f154) [1,1,0,1,0,1,0,1]) (y9q j6x) :=
 frd y7h (And.intro w1q trivial) (k9k j4a q9q j6h j9n q9n)
def d4b(f154_c1:q6e):Ann:=(.seq .nil (.seq .nil (.seq (.seq .nil (.blk (.seq .nil (.cond (.cut .nil (y9q f154_c1)) .nil)))) .nil)))
def g6x(f153:j4r)(f185:j6r)(f186:z7x)(f187:z2w)(f154_c1:q6e):x8j:=λ(x0,x1,x2,x3,_)=>(f185 (x0,x1,x2,x3,())).bind λv=>(f186 (x0,x1,x2,x3,())).bind λv1=>(f187 (x0,x1,x2,x3,())).bind λv2=>bif v2.1==2 then bif decide ([v.1,v.2.1,v.2.2.1,v.2.2.2.1,v.2.2.2.2.1,v.2.2.2.2.2.1,v.2.2.2.2.2.2.1,v.2.2.2.2.2.2.2.1].getD 4 0>0)then(f154_c1 (v1.1,decide ([v.1,v.2.1,v.2.2.1,v.2.2.2.1,v.2.2.2.2.1,v.2.2.2.2.2.1,v.2.2.2.2.2.2.1,v.2.2.2.2.2.2.2.1].getD 5 0>0),[v.1,v.2.1,v.2.2.1,v.2.2.2.1,v.2.2.2.2.1,v.2.2.2.2.2.1,v.2.2.2.2.2.2.1,v.2.2.2.2.2.2.2.1],())).bind λv=>some (v.1,())else(f154_c1 (v1.1,false,[v.1,v.2.1,v.2.2.1,v.2.2.2.1,v.2.2.2.2.1,v.2.2.2.2.2.1,v.2.2.2.2.2.2.1,v.2.2.2.2.2.2.2.1],())).bind λv=>some (v.1,())else bif v2.1==1 then(f153 (x0,x1,x2,x3,())).bind λv=>bif !v.1 then bif v1.1==1 then some (true,())else some (v1.1==4,())else some (false,())else some ((↑x3.length:Int)==0,())
theorem d9o(f153:j4r)(f185:j6r)(f186:z7x)(f187:z2w)(f154_c1:q6e):zz (k5s f153 f185 f186 f187) 0 f154 (d4b f154_c1) Li9 qv (g6x f153 f185 f186 f187 f154_c1):=λv=>by kernel_rfl
def v1r:x8j:=g6x j4a q9q j6h j9n j6x
theorem b6b:FO 154 (f6q v1r) :=
 qo y7h func154 (And.intro w1r trivial) (d9o j4a q9q j6h j9n j6x)
abbrev x9i:=qu×qw×qx×List (Int)×Unit->Option (Bool×qu×qw×qx×List (Int)×Unit)
def f8k(f:x9i):FEnt:=⟨z3r,z3v,f⟩
def d2r(f153:j4r)(f154:x8j):=lk [(153,g6a f153),(154,f6q f154)]
def g7c(f153:j4r)(f154:x8j):x9i:=λ(x0,x1,x2,x3,_)=>(f153 (x0,x1,x2,x3,())).bind λv=>bif v.1 then(f154 (x0,x1,x2,x3,())).bind λv=>some (bif v.1 then false else true,x0,x1,x2,x3,())else some (false,x0,x1,x2,x3,())
theorem m0h(f153:j4r)(f154:x8j):zz (d2r f153 f154) 2 f262 .nil z3r z3v (g7c f153 f154):=λv=>by kernel_rfl
def v1y:x9i:=g7c j4a v1r
theorem b7z:FO 262 (f8k v1y) :=
 q0 (kc g4u (kc b6b kn)) func262 (m0h j4a v1r)
abbrev x9j:=List (Int)×qa×Bool×Unit->Option (Bool×List (Int)×qa×Bool×Unit)
def f8l(f:x9j):FEnt:=⟨w7m,g1c,f⟩
def d2s(f223:z8a):=lk [(223,g6j f223)]
def g7d(f223:z8a):x9j:=λ(x0,x1,x2,_)=>(f223 (x0,())).bind λv=>some (bif v.2.1 then false else true,x0,v.1,v.2.1,())
theorem m0i(f223:z8a):zz (d2s f223) 3 f263 .nil w7m g1c (g7d f223):=λv=>by kernel_rfl
def v1z:x9j:=g7d x6p
theorem b8a:FO 263 (f8l v1z) :=
 q0 (kc g5c kn) func263 (m0i x6p)
abbrev x9k:=qa×Unit->Option (Bool×qa×Unit)
def f8m(f:x9k):FEnt:=⟨q3b,q3d,f⟩
def g7e:x9k:=λ(x0,_)=>some (decide (IntKind.i64.wrap (4+(↑x0.length:Int))>63),x0,())
theorem m0j:zz yu 1 f264 .nil q3b q3d (g7e):=λv=>by kernel_rfl
def v2a:x9k:=g7e
theorem b8b:FO 264 (f8m v2a) :=
 q0 kn func264 (m0j)
abbrev v5b:=Int×Int×Int×Int×Int×Int×Int×Int×Int×qa×qu×qw×qx×List (Int)×qa×Bool×Unit->Option (Int×Int×Int×Int×Int×Int×Int×Int×Int×Int×qa×qu×qw×qx×List (Int)×qa×Bool×Unit)
def f8c(f:v5b):FEnt:=⟨w7n,g1d,f⟩
def d2k(f254:x9b)(f255:x9c)(f257:x9e)(f259:x9f)(f260:x9g)(f262:x9i)(f263:x9j)(f264:x9k):=lk [(254,f8d f254),(255,f8e f255),(257,f8g f257),(259,f8h f259),(260,f8i f260),(262,f8k f262),(263,f8l f263),(264,f8m f264)]
def d4y:Ann:=(.seq .nil (.seq (.seq .nil (.blk (.unroll 10 .nil))) .nil))
def v4g(f254:x9b)(f255:x9c)(f257:x9e)(f259:x9f)(f260:x9g)(f262:x9i)(f263:x9j)(f264:x9k):v5b:=λ(x0,x1,x2,x3,x4,x5,x6,x7,x8,x9,x10,x11,x12,x13,x14,x15,_)=>(f254 (x8,())).bind λv=>bif v.1 then some (x0,x0,x1,x2,x3,x4,x5,x6,x7,v.2.1,x9,x10,x11,x12,x13,x14,x15,())else(f255 (x9,x10,x11,x12,())).bind λv1=>bif v1.1 then some (x1,x0,x1,x2,x3,x4,x5,x6,x7,v.2.1,v1.2.1,v1.2.2.1,v1.2.2.2.1,v1.2.2.2.2.1,x13,x14,x15,())else(f257 (v1.2.1,())).bind λv2=>bif v2.1 then some (x2,x0,x1,x2,x3,x4,x5,x6,x7,v.2.1,v2.2.1,v1.2.2.1,v1.2.2.2.1,v1.2.2.2.2.1,x13,x14,x15,())else(f259 (v1.2.2.1,v1.2.2.2.1,v1.2.2.2.2.1,x13,())).bind λv3=>bif v3.1 then some (x3,x0,x1,x2,x3,x4,x5,x6,x7,v.2.1,v2.2.1,v3.2.1,v3.2.2.1,v3.2.2.2.1,v3.2.2.2.2.1,x14,x15,())else(f260 (v3.2.1,v3.2.2.1,v3.2.2.2.1,v3.2.2.2.2.1,())).bind λv4=>bif v4.1 then some (x4,x0,x1,x2,x3,x4,x5,x6,x7,v.2.1,v2.2.1,v4.2.1,v4.2.2.1,v4.2.2.2.1,v4.2.2.2.2.1,x14,x15,())else(f262 (v4.2.1,v4.2.2.1,v4.2.2.2.1,v4.2.2.2.2.1,())).bind λv5=>bif v5.1 then some (x5,x0,x1,x2,x3,x4,x5,x6,x7,v.2.1,v2.2.1,v5.2.1,v5.2.2.1,v5.2.2.2.1,v5.2.2.2.2.1,x14,x15,())else(f263 (v5.2.2.2.2.1,x14,x15,())).bind λv6=>bif v6.1 then some (x6,x0,x1,x2,x3,x4,x5,x6,x7,v.2.1,v2.2.1,v5.2.1,v5.2.2.1,v5.2.2.2.1,v6.2.1,v6.2.2.1,v6.2.2.2.1,())else(f264 (v6.2.2.1,())).bind λv7=>bif v7.1 then some (x7,x0,x1,x2,x3,x4,x5,x6,x7,v.2.1,v2.2.1,v5.2.1,v5.2.2.1,v5.2.2.2.1,v6.2.1,v7.2.1,v6.2.2.2.1,())else some (0,x0,x1,x2,x3,x4,x5,x6,x7,v.2.1,v2.2.1,v5.2.1,v5.2.2.1,v5.2.2.2.1,v6.2.1,v7.2.1,v6.2.2.2.1,())
theorem w0b(f254:x9b)(f255:x9c)(f257:x9e)(f259:x9f)(f260:x9g)(f262:x9i)(f263:x9j)(f264:x9k):zz (d2k f254 f255 f257 f259 f260 f262 f263 f264) 7 f253 d4y w7n g1d (v4g f254 f255 f257 f259 f260 f262 f263 f264):=λv=>by kernel_rfl
def y0s:v5b:=v4g v1w y0t y5i y5k x6t v1y v1z v2a
theorem b7r:FO 253 (f8c y0s) :=
 qo (kc b7s (kc b7t (kc b7v (kc b7w (kc b7x (kc b7z (kc b8a (kc b8b kn)))))))) func253 trivial (w0b v1w y0t y5i y5k x6t v1y v1z v2a)
abbrev x8s:=qu×qw×qx×qa×Unit->Option (Int×Unit)
def f7m(f:x8s):FEnt:=⟨ww,jd,f⟩
def d2e(f253:v5b)(f83:T83):=lk [(253,f8c f253),(83,E83 f83)]
def v4f(f253:v5b)(f83:T83):x8s:=λ(x0,x1,x2,x3,_)=>(f83 (x3,())).bind λv=>(f253 (7,4,11,10,8,9,12,5,v.2.1,x3,x0,x1,x2,v.1,[],false,())).bind λv=>some (v.1,())
def z5x:x8s:=v4f y0s C83
theorem b7a:FO 224 (f7m z5x):=zq2 ww jd d2e v4f y0s C83 (kc b7r (kc v1b kn)) func224
abbrev x9l:=qa×Unit->Option (Bool×qa×Unit)
def f8n(f:x9l):FEnt:=⟨q3b,q3d,f⟩
def b0g:x9l:=λ(x0,_)=>some (x0==[],x0,())
theorem m0k:zz yu 1 f265 .nil q3b q3d (b0g):=λv=>by kernel_rfl
def g5r:x9l:=b0g
theorem b8c:FO 265 (f8n g5r) :=
 q0 kn func265 (m0k)
abbrev x9m:=qa×Unit->Option (Bool×qa×Unit)
def f8o(f:x9m):FEnt:=⟨q3b,q3d,f⟩
def b0h:x9m:=λ(x0,_)=>some (decide ((↑x0.length:Int)>63),x0,())
theorem m0l:zz yu 1 f266 .nil q3b q3d (b0h):=λv=>by kernel_rfl
def g5s:x9m:=b0h
theorem b8d:FO 266 (f8o g5s) :=
 q0 kn func266 (m0l)
abbrev q6q:=Int×Bool×Unit->Option (Bool×Unit)
def x0z(f:q6q):LEnt:=⟨x2u,x3p,f⟩
abbrev j2a:=Int×Bool×Unit->Option (Bool×Unit)
def x1a(f:j2a):LEnt:=⟨x2u,x3p,f⟩
abbrev x9o:=Int×Unit->Option (Bool×Unit)
def f8q(f:x9o):FEnt:=⟨q3n,qv,f⟩
def z7f:q6q:=λ(x0,x1,_)=>bif x1 then some (true,())else bif decide (x0>=48)then bif decide (x0<=57)then some (true,())else some (x0==45,())else some (x0==45,())
def j0c:q6q:=z7f
theorem w3a:zc 0 (qd (code f268) [1,0,0,0,1,1,1]) (x0z j0c):=zc0 x2u x3p yu z7f kn
def k7l(f268_c0:q6q):Ann:=(.cond .nil (.cut .nil (x0z f268_c0)))
def z7g(f268_c0:q6q):j2a:=λ(x0,x1,_)=>bif x1 then some (true,())else bif decide (x0>=65)then(f268_c0 (x0,decide (x0<=90),())).bind λv=>some (v.1,())else(f268_c0 (x0,false,())).bind λv=>some (v.1,())
theorem w0c(f268_c0:q6q):AqC yu 0 (qd (code f268) [1,0,0,0,1]) (k7l f268_c0) x2u x3p (z7g f268_c0):=λv=>by kernel_rfl
def j0d:j2a:=z7g j0c
theorem w3b:zc 0 (qd (code f268) [1,0,0,0,1]) (x1a j0d) :=
 frd kn (And.intro w3a trivial) (w0c j0c)
def d5a(f268_c1:j2a):Ann:=(.seq .nil (.seq (.blk (.seq (.cut .nil (x1a f268_c1)) .nil)) .nil))
def g7f(f268_c1:j2a):x9o:=λ(x0,_)=>bif decide (x0>=97)then(f268_c1 (x0,decide (x0<=122),())).bind λv=>bif v.1 then some (false,())else some (true,())else(f268_c1 (x0,false,())).bind λv=>bif v.1 then some (false,())else some (true,())
def j9s:x9o:=g7f j0d
theorem b8f:FO 268 (f8q j9s):=q1x q3n qv yu d5a g7f j0d kn func268 (And.intro w3b trivial)
abbrev j8p:=Bool×(qa×Int)×Unit->Option ((Int×Unit)⊕Unit)
def y9r(f:j8p):LEnt:=⟨w7p,x3q,f⟩
abbrev v4s:=qa×Bool×Unit->Option (Int×Unit)
def f6r(f:v4s):FEnt:=⟨w7o,jd,f⟩
def g7s(f268:x9o):=lk [(268,f8q f268)]
theorem v8h:zh prog (g7s j9s):=(kc b8f kn)
def j7p(f268:x9o):ym (Bool×(qa×Int)×Unit) ((Int×Unit)⊕Unit):=λ(x0,x1,_)=>bif decide (Int.toNat x1.2<List.length x1.1)then(f268 ((↑(yw x1.1 (Int.toNat x1.2)).1:Int),())).bind λv=>bif v.1==x0 then some (Sum.inr (Sum.inl ((↑(Int.toNat x1.2):Int),())))else some (Sum.inl (x0,(x1.1,(↑(Int.toNat x1.2+(yw x1.1 (Int.toNat x1.2)).2):Int)),()))else some (Sum.inr (Sum.inr ()))
def z5l:j8p:=qc (j7p j9s) qz
theorem w1s:jg 0 (qd (code f156) [1,0,1,0,0]) (y9r z5l):=zl1 w7p x3q g7s j7p j9s v8h
def d4c(f156_l0:j8p):Ann:=(.seq .nil (.seq (.seq .nil (.blk (.loop (y9r f156_l0)))) .nil))
def k3c(f268:x9o)(f156_l0:j8p):v4s:=λ(x0,x1,_)=>(f156_l0 (x1,(x0,(↑0:Int)),())).bind λv=>Sum.elim (λv=>some (v.1,())) (λv=>some (-1,())) v
def y5b:v4s:=k3c j9s z5l
theorem b6c:FO 156 (f6r y5b):=ke w7o jd g7s d4c k3c j9s z5l v8h func156 (And.intro w1s trivial)
abbrev v4q:=qa×Unit->Option (Int×Unit)
def f6f(f:v4q):FEnt:=⟨x2v,jd,f⟩
def d1a(f156:v4s):=lk [(156,f6r f156)]
def k2w(f156:v4s):v4q:=λ(x0,_)=>(f156 (x0,true,())).bind λv=>some (v.1,())
def v1p:v4q:=k2w y5b
theorem b5s:FO 123 (f6f v1p):=kb x2v jd d1a k2w y5b (kc b6c kn) func123
abbrev T84:=qa×Unit->Option (Bool×Unit)
def E84(f:T84):FEnt:=⟨x2v,qv,f⟩
def K84(f123:v4q):=lk [(123,f6f f123)]
def F84(f123:v4q):T84:=λ(x0,_)=>(f123 (x0,())).bind λv=>some (decide (v.1>=0),())
def C84:T84:=F84 v1p
theorem m2g:FO 84 (E84 C84):=kb x2v qv K84 F84 v1p (kc b5s kn) func84
abbrev x9n:=qa×Unit->Option (Bool×qa×Unit)
def f8p(f:x9n):FEnt:=⟨q3b,q3d,f⟩
def d2t(f84:T84):=lk [(84,E84 f84)]
def k4g(f84:T84):x9n:=λ(x0,_)=>(f84 (x0,())).bind λv=>some (v.1,x0,())
theorem m0m(f84:T84):zz (d2t f84) 1 f267 .nil q3b q3d (k4g f84):=λv=>by kernel_rfl
def v2b:x9n:=k4g C84
theorem b8e:FO 267 (f8p v2b) :=
 q0 (kc m2g kn) func267 (m0m C84)
abbrev x9p:=qa×Unit->Option (Bool×qa×Unit)
def f8r(f:x9p):FEnt:=⟨q3b,q3d,f⟩
def d2u(f258:z8d):=lk [(258,g6o f258)]
def g7g(f258:z8d):x9p:=λ(x0,_)=>(f258 (x0,())).bind λv=>some (v.1,x0,())
theorem m0n(f258:z8d):zz (d2u f258) 1 f269 .nil q3b q3d (g7g f258):=λv=>by kernel_rfl
def k2k:x9p:=g7g y5j
theorem b8g:FO 269 (f8r k2k) :=
 q0 (kc g5h kn) func269 (m0n y5j)
abbrev z0s:=Int×Int×Int×Int×qa×Unit->Option (Int×Int×Int×Int×Int×qa×Unit)
def v2u(f:z0s):FEnt:=⟨w7q,g1e,f⟩
def g8e(f265:x9l)(f266:x9m)(f267:x9n)(f269:x9p):=lk [(265,f8n f265),(266,f8o f266),(267,f8p f267),(269,f8r f269)]
def g8x:Ann:=(.seq .nil (.seq (.seq .nil (.blk (.unroll 6 .nil))) .nil))
def z7e(f265:x9l)(f266:x9m)(f267:x9n)(f269:x9p):z0s:=λ(x0,x1,x2,x3,x4,_)=>(f265 (x4,())).bind λv=>bif v.1 then some (x0,x0,x1,x2,x3,v.2.1,())else(f266 (v.2.1,())).bind λv=>bif v.1 then some (x1,x0,x1,x2,x3,v.2.1,())else(f267 (v.2.1,())).bind λv=>bif v.1 then some (x2,x0,x1,x2,x3,v.2.1,())else(f269 (v.2.1,())).bind λv=>bif v.1 then some (x3,x0,x1,x2,x3,v.2.1,())else some (0,x0,x1,x2,x3,v.2.1,())
theorem f2a(f265:x9l)(f266:x9m)(f267:x9n)(f269:x9p):zz (g8e f265 f266 f267 f269) 2 f253 g8x w7q g1e (z7e f265 f266 f267 f269):=λv=>by kernel_rfl
def j9r:z0s:=z7e g5r g5s v2b k2k
theorem w5a:FO 253 (v2u j9r) :=
 qo (kc b8c (kc b8d (kc b8e (kc b8g kn)))) func253 trivial (f2a g5r g5s v2b k2k)
abbrev x8t:=qa×Unit->Option (Int×Unit)
def f7n(f:x8t):FEnt:=⟨yh,jd,f⟩
def d2f(f253v1:z0s):=lk [(253,v2u f253v1)]
def k3q(f253v1:z0s):x8t:=λ(x0,_)=>(f253v1 (13,5,8,11,x0,())).bind λv=>some (v.1,())
def y0p:x8t:=k3q j9r
theorem b7b:FO 225 (f7n y0p):=kb yh jd d2f k3q j9r (kc w5a kn) func225
abbrev j9c:=qa×Int×Int×Unit->Option (Unit⊕(Int×Unit))
def x1i(f:j9c):LEnt:=⟨w7r,j5t,f⟩
abbrev v5f:=qa×Int×Unit->Option (Int×Unit)
def f9i(f:v5f):FEnt:=⟨z2u,jd,f⟩
def j8e:ym (qa×Int×Int×Unit) (Unit⊕(Int×Unit)):=λ(x0,x1,x2,_)=>bif decide (x2>=0)then bif decide (0<=x2)&&decide (x2<(↑x0.length:Int))then bif(↑(x0.getD x2.toNat 0).toNat:Int)==x1 then some (Sum.inr (Sum.inr (x2,())))else some (Sum.inl (x0,x1,IntKind.i64.wrap (x2-1),()))else none else some (Sum.inr (Sum.inl ()))
def z6f:j9c:=qc (j8e) qz
theorem w3j:jg 0 (qd (code f293) [1,0,1,0,0]) (x1i z6f):=zl0 w7r j5t yu j8e kn
def d5h(f293_l0:j9c):Ann:=(.seq .nil (.seq (.seq .nil (.blk (.loop (x1i f293_l0)))) .nil))
def k4x(f293_l0:j9c):v5f:=λ(x0,x1,_)=>(f293_l0 (x0,x1,IntKind.i64.wrap ((↑x0.length:Int)-1),())).bind λv=>Sum.elim (λv=>some (-1,())) (λv=>some (v.1,())) v
def v2f:v5f:=k4x z6f
theorem b9b:FO 293 (f9i v2f):=q1x z2u jd yu d5h k4x z6f kn func293 (And.intro w3j trivial)
abbrev z2z:=qa×Int×Unit->Option (Int×Unit)
def f8s(f:z2z):FEnt:=⟨z2u,jd,f⟩
def d2v(f293:v5f):=lk [(293,f9i f293)]
def k4h(f293:v5f):z2z:=λ(x0,x1,_)=>(f293 (x0,x1,())).bind λv=>some (v.1,())
def j6j:z2z:=k4h v2f
theorem b8i:FO 270 (f8s j6j):=kb z2u jd d2v k4h v2f (kc b9b kn) func270
abbrev q6t:=Int×Bool×Unit->Option ((Int×Bool×Unit)⊕Unit)
def x1j(f:q6t):LEnt:=⟨w7s,x3r,f⟩
abbrev j2g:=Int×Bool×Unit->Option ((Int×Bool×Unit)⊕Unit)
def x1k(f:j2g):LEnt:=⟨w7t,x3r,f⟩
abbrev z8g:=Int×Unit->Option (Int×Bool×Unit)
def f9j(f:z8g):FEnt:=⟨j6o,x3m,f⟩
def z7m:q6t:=λ(x0,x1,_)=>bif x1 then some (Sum.inl (IntKind.i64.wrap (IntKind.u8.wrap (x0-65)),true,()))else bif decide (x0>=97)then bif decide (x0<=122)then some (Sum.inl (IntKind.i64.wrap (IntKind.u8.wrap (x0-97)),true,()))else some (Sum.inr ())else some (Sum.inr ())
def j0h:q6t:=z7m
theorem w3k:zc 0 (qd (code f294) [1,0,0,1,1,1]) (x1j j0h):=zc0 w7s x3r yu z7m kn
def k7m(f294_c0:q6t):Ann:=(.cond .nil (.cut .nil (x1j f294_c0)))
def z7n(f294_c0:q6t):j2g:=λ(x0,x1,_)=>bif x1 then some (Sum.inl (IntKind.i64.wrap (IntKind.i64.wrap (IntKind.u8.wrap (x0-48))+26),true,()))else bif decide (x0>=65)then(f294_c0 (x0,decide (x0<=90),())).bind λv=>Sum.elim (λv=>some (Sum.inl (v.1,v.2.1,()))) (λv=>some (Sum.inr ())) v else(f294_c0 (x0,false,())).bind λv=>Sum.elim (λv=>some (Sum.inl (v.1,v.2.1,()))) (λv=>some (Sum.inr ())) v
theorem w0f(f294_c0:q6t):AqC yu 0 (qd (code f294) [1,0,0,1]) (k7m f294_c0) w7t x3r (z7n f294_c0):=λv=>by kernel_rfl
def j0i:j2g:=z7n j0h
theorem w3l:zc 0 (qd (code f294) [1,0,0,1]) (x1k j0i) :=
 frd kn (And.intro w3k trivial) (w0f j0h)
def d5i(f294_c1:j2g):Ann:=(.seq .nil (.seq (.blk (.cut .nil (x1k f294_c1))) .nil))
def g7i(f294_c1:j2g):z8g:=λ(x0,_)=>bif decide (x0>=48)then(f294_c1 (x0,decide (x0<=57),())).bind λv=>Sum.elim (λv=>some (v.1,v.2.1,())) (λv=>some (0,false,())) v else(f294_c1 (x0,false,())).bind λv=>Sum.elim (λv=>some (v.1,v.2.1,())) (λv=>some (0,false,())) v
def j4i:z8g:=g7i j0i
theorem b9c:FO 294 (f9j j4i):=q1x j6o x3m yu d5i g7i j0i kn func294 (And.intro w3l trivial)
abbrev j2c:=qa×Int×Int×Int×Int×Int×Unit->Option (Unit⊕Unit⊕(Int×qa×Unit))
def x1c(f:j2c):LEnt:=⟨w7u,g1g,f⟩
abbrev j2b:=Unit->Option (Int×qa×Unit)
def x1b(f:j2b):LEnt:=⟨z3s,x3s,f⟩
abbrev z3a:=qa×Int×Unit->Option (Int×qa×Unit)
def f8t(f:z3a):FEnt:=⟨x2w,g1f,f⟩
def k5z(f290:j2e)(f294:z8g):=lk [(290,g6s f290),(294,f9j f294)]
theorem y7o:zh prog (k5z q3r j4i):=(kc g5k (kc b9c kn))
def j8c(f290:j2e)(f294:z8g):ym (qa×Int×Int×Int×Int×Int×Unit) (Unit⊕Unit⊕(Int×qa×Unit)):=λ(x0,x1,x2,x3,x4,x5,_)=>bif decide (x5<x4)then bif decide (0<=x5)&&decide (x5<(↑x0.length:Int))then(f294 ((↑(x0.getD x5.toNat 0).toNat:Int),())).bind λv=>bif !v.2.1 then some (Sum.inr (Sum.inr (Sum.inl ())))else bif decide (x3>2147483647)then some (Sum.inr (Sum.inr (Sum.inl ())))else bif decide (IntKind.i64.wrap (x2+IntKind.i64.wrap (v.1*x3))>2147483647)then some (Sum.inr (Sum.inr (Sum.inl ())))else(f290 (IntKind.i64.wrap (36*IntKind.i64.wrap (x5+1)),x1,())).bind λv1=>bif decide (v.1<v1.1)then bif decide (0<=IntKind.i64.wrap (x5+1))&&decide (IntKind.i64.wrap (x5+1)<=(↑x0.length:Int))then some (Sum.inr (Sum.inr (Sum.inr (IntKind.i64.wrap (x2+IntKind.i64.wrap (v.1*x3)),List.drop (IntKind.i64.wrap (x5+1)).toNat x0,()))))else none else some (Sum.inl (x0,x1,IntKind.i64.wrap (x2+IntKind.i64.wrap (v.1*x3)),IntKind.i64.wrap (x3*IntKind.i64.wrap (36-v1.1)),x4,IntKind.i64.wrap (x5+1),()))else none else some (Sum.inr (Sum.inl ()))
def j7e:j2c:=qc (j8c q3r j4i) qz
theorem w3d:jg 0 (qd (code f271) [1,0,1,0,1,0,0]) (x1c j7e):=zl2 w7u g1g k5z j8c q3r j4i y7o
def j0q(f290:j2e)(f294:z8g):ym (Unit) (Int×qa×Unit):=λ(_)=>some (Sum.inr (-1,[],()))
theorem w0d(f290:j2e)(f294:z8g)(v:HS z3s):aev Γ (k5z f290 f294) 0 ((findLabel (qd (code f271) [1,0]) 0).getD .skip) .nil (v1j z3s v) (we 0 0 [] z3s x3s)=j0q f290 f294 v:=by kernel_rfl
def j7d:j2b:=qc (j0q q3r j4i) qz
theorem w3c:jt prog 0 (js prog (qd (code f271) [1,0]) 0) (x1b j7d) :=
 yb (ins:=z3s) (os:=x3s) (C:=j7d) (q2o (ins:=z3s) (os:=x3s) (n := .nil) (ls:=[]) (F:=j0q q3r j4i) (rest:=((findLabel (qd (code f271) [1,0]) 0).getD .skip)) hm hΓ y7o (λ_=>qz) (by kernel_rfl) (jm _) q4h (w0d q3r j4i)) rfl
def d5b(f271_g0:j2b)(f271_l0:j2c):Ann:=(.seq .nil (.scope (.seq .nil (.seq (.seq .nil (.blk (.loop (x1c f271_l0)))) .nil)) [(0,(x1b f271_g0))]))
def k4i(f290:j2e)(f294:z8g)(f271_g0:j2b)(f271_l0:j2c):z3a:=λ(x0,x1,_)=>(f271_l0 (x0,x1,0,1,(↑x0.length:Int),0,())).bind λv=>Sum.elim (λv=>some (-1,[],())) (λv=>Sum.elim (λv=>(f271_g0 ()).bind λv=>some (v.1,v.2.1,())) (λv=>some (v.1,v.2.1,())) v) v
theorem m0o(f290:j2e)(f294:z8g)(f271_g0:j2b)(f271_l0:j2c):zz (k5z f290 f294) 0 f271 (d5b f271_g0 f271_l0) x2w g1f (k4i f290 f294 f271_g0 f271_l0):=λv=>by kernel_rfl
def j6k:z3a:=k4i q3r j4i j7d j7e
theorem b8j:FO 271 (f8t j6k) :=
 qo y7o func271 (And.intro w3d (And.intro w3c trivial)) (m0o q3r j4i j7d j7e)
abbrev j1r:=qa×Int×Int×Int×Bool×List (Int)×Unit->Option ((List (Int)×Unit)⊕(Bool×Unit))
def x0l(f:j1r):LEnt:=⟨w7v,g1i,f⟩
abbrev q6n:=qa×List (Int)×Unit->Option (Bool×List (Int)×Unit)
def x0k(f:q6n):LEnt:=⟨w7w,g1j,f⟩
abbrev x8u:=qa×Unit->Option (List (Int)×Bool×Unit)
def f7o(f:x8u):FEnt:=⟨yh,g1h,f⟩
def k5w(f155:wx)(f21:T21)(f252:q1h)(f270:z2z)(f271:z3a)(f272:z8e):=lk [(155,k2n f155),(21,E21 f21),(252,g6n f252),(270,f8s f270),(271,f8t f271),(272,g6p f272)]
theorem y7l:zh prog (k5w xi C21 q0o j6j j6k j4h):=(kc k0f (kc k0j (kc g5g (kc b8i (kc b8j (kc b8k kn))))))
def j7u(f155:wx)(f21:T21)(f252:q1h)(f270:z2z)(f271:z3a)(f272:z8e):ym (qa×Int×Int×Int×Bool×List (Int)×Unit) ((List (Int)×Unit)⊕(Bool×Unit)):=λ(x0,x1,x2,x3,x4,x5,_)=>bif !x0==[]then(f271 (x0,x3,())).bind λv=>bif decide (v.1<0)then some (Sum.inr (Sum.inr (false,())))else bif decide (IntKind.i64.wrap (x2+v.1)>2147483647)then some (Sum.inr (Sum.inr (false,())))else(f252 (v.1,IntKind.i64.wrap ((↑x5.length:Int)+1),x4,())).bind λv1=>bif IntKind.i64.wrap ((↑x5.length:Int)+1) != 0 then bif decide (IntKind.i64.wrap (x1+IntKind.i64.wrap ((IntKind.i64.wrap (x2+v.1)).tdiv (IntKind.i64.wrap ((↑x5.length:Int)+1))))>1114111)then some (Sum.inr (Sum.inr (false,())))else(f155 (IntKind.i32.wrap (IntKind.i64.wrap (x1+IntKind.i64.wrap ((IntKind.i64.wrap (x2+v.1)).tdiv (IntKind.i64.wrap ((↑x5.length:Int)+1))))),())).bind λv2=>bif !v2.1 then some (Sum.inr (Sum.inr (false,())))else bif IntKind.i64.wrap ((↑x5.length:Int)+1) != 0 then(f272 ((IntKind.i64.wrap (x2+v.1)).tmod (IntKind.i64.wrap ((↑x5.length:Int)+1)),x5,[IntKind.i32.wrap (IntKind.i64.wrap (x1+IntKind.i64.wrap ((IntKind.i64.wrap (x2+v.1)).tdiv (IntKind.i64.wrap ((↑x5.length:Int)+1)))))],())).bind λv3=>some (Sum.inl (v.2.1,IntKind.i64.wrap (x1+IntKind.i64.wrap ((IntKind.i64.wrap (x2+v.1)).tdiv (IntKind.i64.wrap ((↑x5.length:Int)+1)))),IntKind.i64.wrap ((IntKind.i64.wrap (x2+v.1)).tmod (IntKind.i64.wrap ((↑x5.length:Int)+1))+1),v1.1,false,v3.1,()))else none else none else some (Sum.inr (Sum.inl (x5,())))
theorem k9w(f155:wx)(f21:T21)(f252:q1h)(f270:z2z)(f271:z3a)(f272:z8e):AqL (k5w f155 f21 f252 f270 f271 f272) 0 (qd (code f226) [1,1,1,1,1,0,1,0,0]) .nil w7v g1i (j7u f155 f21 f252 f270 f271 f272):=λv=>by kernel_rfl
def j7a:j1r:=qc (j7u xi C21 q0o j6j j6k j4h) qz
theorem w2m:jg 0 (qd (code f226) [1,1,1,1,1,0,1,0,0]) (x0l j7a) :=
 frl y7l (k9w xi C21 q0o j6j j6k j4h)
def k7h(f226_l0:j1r):Ann:=(.seq .nil (.seq (.seq .nil (.blk (.loop (x0l f226_l0)))) .nil))
def j7t(f155:wx)(f21:T21)(f252:q1h)(f270:z2z)(f271:z3a)(f272:z8e)(f226_l0:j1r):q6n:=λ(x0,x1,_)=>(f226_l0 (x0,128,0,72,true,x1,())).bind λv=>Sum.elim (λv=>some (true,v.1,())) (λv=>some (v.1,[],())) v
theorem k9v(f155:wx)(f21:T21)(f252:q1h)(f270:z2z)(f271:z3a)(f272:z8e)(f226_l0:j1r):AqC (k5w f155 f21 f252 f270 f271 f272) 0 (qd (code f226) [1,1,1,1]) (k7h f226_l0) w7w g1j (j7t f155 f21 f252 f270 f271 f272 f226_l0):=λv=>by kernel_rfl
def q2d:q6n:=j7t xi C21 q0o j6j j6k j4h j7a
theorem w2l:zc 0 (qd (code f226) [1,1,1,1]) (x0k q2d) :=
 frd y7l (And.intro w2m trivial) (k9v xi C21 q0o j6j j6k j4h j7a)
def d4o(f226_c0:q6n):Ann:=(.seq .nil (.seq .nil (.seq .nil (.cut .nil (x0k f226_c0)))))
def k3r(f155:wx)(f21:T21)(f252:q1h)(f270:z2z)(f271:z3a)(f272:z8e)(f226_c0:q6n):x8u:=λ(x0,_)=>(f21 (x0,())).bind λv=>bif decide (v.1>=0)then some ([],false,())else(f270 (x0,45,())).bind λv=>bif decide (v.1>0)then bif decide (0<=v.1)&&decide (v.1<=(↑x0.length:Int))then bif decide ((List.take (Int.toNat v.1) x0).length<=70368744177664)&&(List.take (Int.toNat v.1) x0).all λb=>decide (b.toNat<128)then bif decide (0<=IntKind.i64.wrap (v.1+1))&&decide (IntKind.i64.wrap (v.1+1)<=(↑x0.length:Int))then(f226_c0 (List.drop (IntKind.i64.wrap (v.1+1)).toNat x0,List.map (λb=>(↑b.toNat:Int)) (List.take (Int.toNat v.1) x0),())).bind λv=>some (v.2.1,v.1,())else none else none else none else(f226_c0 (x0,[],())).bind λv=>some (v.2.1,v.1,())
theorem d9x(f155:wx)(f21:T21)(f252:q1h)(f270:z2z)(f271:z3a)(f272:z8e)(f226_c0:q6n):zz (k5w f155 f21 f252 f270 f271 f272) 0 f226 (d4o f226_c0) yh g1h (k3r f155 f21 f252 f270 f271 f272 f226_c0):=λv=>by kernel_rfl
def y5g:x8u:=k3r xi C21 q0o j6j j6k j4h q2d
theorem b7c:FO 226 (f7o y5g) :=
 qo y7l func226 (And.intro w2l trivial) (d9x xi C21 q0o j6j j6k j4h q2d)
abbrev y6e:=qu×qw×qx×qa×Unit->Option (qa×qa×Int×Unit)
def g6e(f:y6e):FEnt:=⟨ww,g8s,f⟩
def d1v(f132:j1a)(f151:y6d)(f178:j6q)(f21:T21)(f223:z8a)(f224:x8s)(f225:x8t)(f226:x8u)(f83:T83):=lk [(132,k2m f132),(151,f6p f151),(178,k2q f178),(21,E21 f21),(223,g6j f223),(224,f7m f224),(225,f7n f225),(226,f7o f226),(83,E83 f83)]
def k3i(f132:j1a)(f151:y6d)(f178:j6q)(f21:T21)(f223:z8a)(f224:x8s)(f225:x8t)(f226:x8u)(f83:T83):y6e:=λ(x0,x1,x2,x3,_)=>(f151 (x0,x1,x2,x3,())).bind λv=>(f132 (v.1,[120,110,45,45],())).bind λv1=>bif !v.2.1 then some ([],[],7,())else(f21 (v.1,())).bind λv2=>bif decide (v2.1>=0)then(f83 (v.1,())).bind λv3=>(f223 (v3.1,())).bind λv4=>bif decide ([120,110,45,45].length+List.length v4.1<=9223372036854775807)then(f224 (x0,x1,x2,v.1,())).bind λv5=>some ([120,110,45,45]++v4.1,v.1,v5.1,())else none else bif !v1.2.1 then(f225 (v.1,())).bind λv3=>some (v.1,v.1,v3.1,())else(f226 (v1.1,())).bind λv3=>bif !v3.2.1 then some ([],[],12,())else bif decide ((↑(List.length v.1):Int)>63)then some ([],[],5,())else(f178 (v3.1,())).bind λv4=>(f224 (x0,x1,x2,v4.1,())).bind λv5=>bif v5.1 != 0 then some ([],[],v5.1,())else(f223 (v3.1,())).bind λv6=>bif !v6.1==v1.1 then some ([],[],12,())else some (v.1,v4.1,0,())
theorem d9s(f132:j1a)(f151:y6d)(f178:j6q)(f21:T21)(f223:z8a)(f224:x8s)(f225:x8t)(f226:x8u)(f83:T83):zz (d1v f132 f151 f178 f21 f223 f224 f225 f226 f83) 0 f192 .nil ww g8s (k3i f132 f151 f178 f21 f223 f224 f225 f226 f83):=λv=>by kernel_rfl
def z5r:y6e:=k3i q3m j9m z5p C21 x6p z5x y0p y5g C83
theorem g4y:FO 192 (g6e z5r) :=
 q0 (kc k0e (kc g4t (kc k0i (kc k0j (kc g5c (kc b7a (kc b7b (kc b7c (kc v1b kn))))))))) func192 (d9s q3m j9m z5p C21 x6p z5x y0p y5g C83)
abbrev k7r:=qu×qw×qx×qa×Unit->Option (qa×Int×Unit)
def d0v(f:k7r):FEnt:=⟨ww,z0d,f⟩
def d1j(f192:y6e):=lk [(192,g6e f192)]
def k3d(f192:y6e):k7r:=λ(x0,x1,x2,x3,_)=>(f192 (x0,x1,x2,x3,())).bind λv=>bif v.2.2.1 != 0 then some ([],v.2.2.1,())else some (v.1,0,())
def z5n:k7r:=k3d z5r
theorem b6d:FO 159 (d0v z5n):=kb ww z0d d1j k3d z5r (kc g4y kn) func159
abbrev g9f:=qu×qw×qx×qa×Unit->Option (qa×Int×Unit)
def d0w(f:g9f):FEnt:=⟨ww,z0d,f⟩
def d1k(f192:y6e):=lk [(192,g6e f192)]
def g6y(f192:y6e):g9f:=λ(x0,x1,x2,x3,_)=>(f192 (x0,x1,x2,x3,())).bind λv=>bif v.2.2.1 != 0 then some ([],v.2.2.1,())else some (v.2.1,0,())
def y5c:g9f:=g6y z5r
theorem b6e:FO 160 (d0w y5c):=kb ww z0d d1k g6y z5r (kc g4y kn) func160
abbrev y1k:=qa×Int×Unit->Option (Int×Unit)
def g6b(f:y1k):FEnt:=⟨z2u,jd,f⟩
def d1l(f196:g9g):=lk [(196,f7e f196)]
def x7k(f196:g9g):y1k:=λ(x0,x1,_)=>(f196 (x0,x1,())).bind λv=>some (v.1,())
def q7z:y1k:=x7k k2h
theorem g4v:FO 162 (g6b q7z):=kb z2u jd d1l x7k k2h (kc b6s kn) func162
abbrev j1n:=qa×qa×Int×Bool×Unit->Option (Int×Unit)
def x0d(f:j1n):LEnt:=⟨w7x,g1k,f⟩
abbrev y6f:=qa×qa×Unit->Option (Int×Unit)
def g6g(f:y6f):FEnt:=⟨zw,jd,f⟩
def g7w(f162:y1k):=lk [(162,g6b f162)]
theorem v8l:zh prog (g7w q7z):=(kc g4v kn)
def q5l(f162:y1k):j1n:=λ(x0,x1,x2,x3,_)=>bif x3 then some (0,())else bif x2==1 then bif decide (0<(↑x1.length:Int))then(f162 (x0,(↑(x1.getD 0 0).toNat:Int),())).bind λv=>some (v.1,())else none else bif decide (x2>=(↑x0.length:Int))then some (-1,())else none
def q0q:j1n:=q5l q7z
theorem w2e:zc 0 (qd (code f197) [1,1,0,0,1]) (x0d q0q):=zc1 w7x g1k g7w q5l q7z v8l
def d4k(f197_c0:j1n):Ann:=(.seq .nil (.seq .nil (.seq (.blk (.cut .nil (x0d f197_c0))) .nil)))
def y5t(f162:y1k)(f197_c0:j1n):y6f:=λ(x0,x1,_)=>bif(↑x1.length:Int)==0 then(f197_c0 (x0,x1,(↑x1.length:Int),true,())).bind λv=>some (v.1,())else(f197_c0 (x0,x1,(↑x1.length:Int),x1==x0,())).bind λv=>some (v.1,())
def j6i:y6f:=y5t q7z q0q
theorem g5a:FO 197 (g6g j6i):=ke zw jd g7w d4k y5t q7z q0q v8l func197 (And.intro w2e trivial)
abbrev v4u:=qa×qa×Unit->Option (qa×qa×Bool×Unit)
def f6t(f:v4u):FEnt:=⟨zw,x3t,f⟩
def d1m(f197:y6f):=lk [(197,g6g f197)]
def x7l(f197:y6f):v4u:=λ(x0,x1,_)=>(f197 (x0,x1,())).bind λv=>bif decide (v.1>=0)then bif decide (0<=v.1)&&decide (v.1<=(↑x0.length:Int))then bif decide (0<=IntKind.i64.wrap (v.1+(↑x1.length:Int)))&&decide (IntKind.i64.wrap (v.1+(↑x1.length:Int))<=(↑x0.length:Int))then some (List.take (Int.toNat v.1) x0,List.drop (IntKind.i64.wrap (v.1+(↑x1.length:Int))).toNat x0,true,())else none else none else some (x0,[],false,())
def y5d:v4u:=x7l j6i
theorem b6g:FO 163 (f6t y5d):=kb zw x3t d1m x7l j6i (kc g5a kn) func163
abbrev z7w:=qa×qa×Unit->Option (qa×qa×Bool×Unit)
def f6i(f:z7w):FEnt:=⟨zw,x3t,f⟩
def d1d(f163:v4u):=lk [(163,f6t f163)]
def x7f(f163:v4u):z7w:=λ(x0,x1,_)=>(f163 (x0,x1,())).bind λv=>some (v.1,v.2.1,v.2.2.1,())
def q1c:z7w:=x7f y5d
theorem g4o:FO 129 (f6i q1c):=kb zw x3t d1d x7f y5d (kc b6g kn) func129
end Go.Proofs.YtiacnhhmkdkpmaaGreatDoorC.W
namespace Go.Proofs.YtiacnhhmkdkpmaaGreatDoorC.W
open Go Go.Ae Go.RowKit
attribute [local go_sem] Oper.semAt_some
theorem v6i{s sep l r:List UInt8}{ok:Bool}(h:q1c (s,sep,())=some (l,r,ok,())){w:World}(hg:GI w m0) :
 Calls prog 129 #[.string ⟨⟨s⟩⟩,.string ⟨⟨sep⟩⟩] w λe w'=>e = .returned (.tuple #[.string ⟨⟨l⟩⟩,.string ⟨⟨r⟩⟩,.bool ok])/\Below w.heap.size w w':=by
 refine(zg.call0 (v:=(s,sep,())) (y:=(l,r,ok,())) g4o func129 (by kernel_rfl) (by kernel_rfl) hg (λ_ h=>h.elim) rfl ⟨_,_,rfl,rfl,_,_,rfl,rfl,rfl⟩ rfl h ?_).mono λe w' ⟨rv,h1,h2,ax,l',u,h3,h4⟩ => ?_
 . intro ax l' u h3
   cases jo h3;rfl
 . cases jo h3
   obtain⟨v,r',e1,⟨a,e2,e3⟩,e4⟩:=h4;have e4':r'=[]:=e4;subst e4';cases e1;subst h1 e2;refine⟨?_,h2⟩;obtain⟨v1,q1,f1,rfl,v2,q2,f2,rfl,v3,q3,f3,rfl,f4⟩:=e3;have f4':q3=[]:=f4;subst f4' f3 f2;cases a;cases f1;rfl
def kl:Nat->List UInt8->Option (List (List UInt8))
 | 0,_=>none
 | n+1,s=>(q1c (s,[46],())).bind λa=>bif a.2.2.1 then(kl n a.2.1).map (a.1 :: ·)else some [a.1]
theorem z8r{W W':World}{b:Nat}{t:TypeId}{v:Value}(h:Boxed W b t v)(hk:W'.heap[b]? = W.heap[b]?):Boxed W' b t v:=hk.trans h
set_option maxHeartbeats 4000000 in
theorem v1f(n:Nat)(hn:1<=n)(Bs:Nat)(s:List UInt8)(xs:List (List UInt8))(N:Nat)(hxs:kl N s=some xs)(w:World)(hb:Boxed w Bs 9 (.string ⟨⟨s⟩⟩))(hg:GI w m0)(hnb:∀b∈q0s,b≠Bs) :
 x7z Fence.wide n prog 222 #[.pointer (some ⟨Bs,0,none⟩)] (λx:List UInt8 => #[.string ⟨⟨x⟩⟩]) (λb=>b=Bs\/b∈q0s) Bs xs w:=by
 intro l J Jx W hW hJ hJx hY h0;have hb':Boxed W Bs 9 (.string ⟨⟨s⟩⟩):=(hW.block Bs hb.lt).trans hb;have hg':GI W m0:=zi hg hW;refine callsIn_of_wp func222 rfl trivial ?_ rfl;simp only[ntmps222,size_toArray,length_cons,length_nil,reduceAdd,reduceSub,replicate_succ,replicate_zero,push_toArray,append_toArray,nil_append,cons_append]
 gi_wp2
 gi_loopg [] N (λk wr=>∃(pre t:List (List UInt8)) (rest:List UInt8),xs=pre++t/\kl k rest=some t/\J pre wr/\Boxed wr Bs 9 (.string ⟨⟨rest⟩⟩)/\GI wr m0)
 case atStart=>exact⟨[],xs,s,rfl,hxs,h0,hb',hg'⟩
 case round =>
  rename_i JJ KK hJJ hKK;obtain⟨pre,t,rest,hx,hp,hJs,hbx,hgr⟩:=hrel;cases gk with
  | zero=>cases hp
  | succ k =>
   simp only[kl]at hp;obtain⟨⟨lf,rt,ok,u⟩,hc,hp2⟩:=bind_eq_some_iff.1 hp;simp only at hp2;have hcell:=hbx.cell;have hpre:pre++[lf] <+: xs:=by
    rw[hx];cases ok with
    | true =>
     obtain⟨t',h1,rfl⟩:=map_eq_some_iff.1 hp2;exact⟨t',by simp⟩
    | false =>
     have:t=[lf]:=(Option.some.inj hp2).symm;exact⟨[],by simp[this]⟩
   gi_wp2_with (refine⟨trivial,?_⟩;gi_at_call 129;refine(callsIn_wide.2 (v6i hc hgr)).mono ?_;rintro e w' ⟨rfl,hbel⟩;obtain⟨fn,tmps,assign,body,hy,hR⟩:=hY pre lf w' hpre (hJ _ _ _ hJs (Oth.of_below hbel)))
   refine hR.mono ?_;rintro e W3 (⟨rfl,hJ3,hs3,hk3⟩|⟨rfl,hJx3⟩)
   . have hbx3:Boxed W3 Bs 9 (.string ⟨⟨rest⟩⟩):=(hk3 Bs (.inl rfl)).trans ((hbel.block Bs hbx.lt).trans hbx)
     have hg3:GI W3 m0:=z8z (zi hgr hbel) hs3 λb hb=>hk3 b (.inr hb);have hc3:=hbx3.cell;have hf3:=hbx3.frozen;cases ok with
     | true =>
      obtain⟨t',h1,rfl⟩:=map_eq_some_iff.1 hp2
      gi_wp2
      gi_roundg k
      case rel=>exact⟨pre++[lf],t',rt,by simp[hx],h1,hJ _ _ _ hJ3 (Oth.set Bs 0 W3 _),Boxed.set _ hbx3,z8z hg3 (by simp) λb hb=>Below.heap_setCell _ _ _ _ (hnb b hb)⟩
      case measure=>omega
     | false =>
      have ht:t=[lf]:=(Option.some.inj hp2).symm;subst ht
      gi_wp2
      refine bodyPost_ret (results_none rfl _ _ _) rfl ?_;exact⟨⟨_,rfl⟩,.inl (hx▸hJ3)⟩
   . gi_wp2
     refine bodyPost_ret (results_none rfl _ _ _) rfl ?_;exact⟨⟨_,rfl⟩,.inr ⟨_,hpre,hJx3⟩⟩
def encS(x:List UInt8):Value := .string ⟨⟨x⟩⟩
theorem q1a{N Bs base:Nat}{A B:World}{e:TypeId}{size k:Nat}{v:Value}{xs:List Value}(hBs:Bs<base)(h:A.ownsRow base e size v k xs)(ho:OthR N Bs A B):B.ownsRow base e size v k xs:=by
 refine⟨h.1,?_⟩;rcases h.2 with h|⟨g,cap,cur,e1,h2,h3,h4⟩
 . exact .inl h
 . exact .inr ⟨g,cap,cur,e1,h2,ho.keep g _ h3 (by omega) (.inr rfl),h4⟩
theorem k0z{N Bs:Nat}{W0 A B:World}(hN:W0.heap.size<=N)(h:Oth Bs W0 A)(ho:OthR N Bs A B):Oth Bs W0 B :=
 ⟨ho.os.trans h.os,ho.tape.trans h.tape,ho.output.trans h.output,le_trans h.size ho.size,λb hb hne=>by
  have h1:=h.keep b hb hne;obtain⟨o,h2⟩:∃o,W0.heap[b]? = some o:=⟨_,Array.getElem?_eq_getElem hb⟩
  rw[h2]at h1 ⊢;exact ho.keep b o h1 hne (.inl (by omega))⟩
theorem y3a:(prog.info? 9).map (λi=>(i.zero,i.size,i.bytes))=some (some (.string ⟨#[]⟩),1,16):=by kernel_rfl
set_option maxHeartbeats 4000000 in
theorem y2w(gf:Nat)(hgf:∀args w,(callFunc gf args).run prog w = .ok (.enter gf args) w)(Bs:Nat)(xs:List (List UInt8))(w:World)(hBs:Bs<w.heap.size)(hg:GI w m0)(hlen:xs.length<=1000000000000)(hseq:∀W,Below w.heap.size w W->x7z Fence.wide 2 prog gf #[.pointer (some ⟨Bs,0,none⟩)] (λx:List UInt8 => #[Value.string ⟨⟨x⟩⟩]) (λb=>b=Bs\/b∈q0s) Bs xs W) :
 CallsIn Fence.wide 3 prog 221 #[.slice none 0 0,.func (.func gf) #[] #[.pointer (some ⟨Bs,0,none⟩)]] w λe W' =>
  ∃v,e = .returned v/\W'.ownsRow w.heap.size 9 1 v xs.length (xs.map encS)/\Oth Bs w W':=by
 obtain⟨i0,hi,hz0,hz1,hz2⟩:=info_parts y3a;refine callsIn_of_wp_marks func221 rfl trivial ?_ rfl;simp only[ntmps221,size_toArray,length_cons,length_nil,reduceAdd,reduceSub,replicate_succ,replicate_zero,push_toArray,append_toArray,nil_append,cons_append]
 gi_wp2
 have hB0:Below w.heap.size w (w.alloc (.cells #[.slice none 0 0] 89)):=(Below.refl _ w).alloc (le_refl _) _;refine xb (F:=Fence.wide) rfl (by omega) (gf:=gf) (lb := #[.pointer (some ⟨Bs,0,none⟩)]) rfl trivial hgf (hseq _ hB0)
  (by rintro b (rfl|hb);· (rw[World.size_alloc];omega)
      . (have:=(hg.b b hb).1;rw[World.size_alloc];omega)) (by rw[World.size_alloc];omega) (λ_=>rfl)
  (λpre W=>(∃v,Boxed W w.heap.size 89 v/\W.ownsRow w.heap.size 9 1 v pre.length (pre.map encS))/\Oth Bs w W)
  (λ_ _ _=>False)
  (λs A B hs ho=>by
   obtain⟨⟨v,h1,h2⟩,h3⟩:=hs;exact⟨⟨v,xy h1 (by omega) ho,q1a hBs h2 ho⟩,k0z (by rw[World.size_alloc];omega) h3 ho⟩)
  (λ_ _ _ _ hs _=>hs)
  ⟨⟨_,Boxed.new _ _ _,World.ownsRow_nil _ _ _ _⟩,Oth.of_below hB0⟩
  (λx=>{ tmps := #[.slice none 0 0,.func (.func gf) #[] #[.pointer (some ⟨Bs,0,none⟩)],.pointer (some ⟨w.heap.size,0,none⟩),undef,.slice none 0 0,.string ⟨⟨x⟩⟩,.func (.func gf) #[] #[.pointer (some ⟨Bs,0,none⟩)],.string ⟨⟨x⟩⟩,undef,undef,undef,undef,undef],defers:=[] }) ?assign ?body ?done ?stop
 case assign =>
  intro l x W K hK
  gi_wp2
  exact hK
 case body =>
  rintro l pre x W hsz hpre ⟨⟨v,hv,hrow⟩,hoth⟩;have hc:=hv.cell;have hpl:pre.length<xs.length:=by have:=hpre.length_le;simp at this;omega
  have hsz2:=hoth.size
  gi_wp2_with (gi_at_builtin;refine wpListIn_append_own _ rfl _ _ 89 rfl w.heap.size 9 i0 (.string ⟨#[]⟩) 1 16 underlying89 hi hz0 hz1 hz2 rfl (by decide) _ _ _ rfl (hrow.alloc _) ⟨W.heap.size,0,none⟩ 1 1 [.string ⟨⟨x⟩⟩] rfl rfl (cell_one_new _ _ _) (by simp[Value.oneCell']) (by simp only[maxLen];omega) (by omega) (by simp;omega) ?_;intro v' w1 hown' hgrow _;obtain⟨g',cap',rfl⟩:=ownsRow_succ hown';obtain⟨hv1,hv2,hr2,hk2,hb2⟩:=hv.appended (by decide) hrow hsz2 (le_refl _) hown' hgrow;have hc1:=hv1.cell;have hf1:=hv1.frozen)
  exact⟨hk2.from _,λb hb=>hb2.block b (by
   rcases hb with rfl|hb
   . exact hBs
   . exact(hg.b b hb).1),⟨_,hv2,by simpa[encS]using hr2⟩,hb2.os.trans hoth.os,hb2.tape.trans hoth.tape,hb2.output.trans hoth.output,le_trans hoth.size hb2.size,λb hb hne=>(hb2.block b hb).trans (hoth.keep b hb hne)⟩
 case done =>
  rintro D W hD ⟨⟨v,hv,hrow⟩,hoth⟩ hK;have hc:=hv.cell
  gi_wp2
  refine⟨by simp,.inl ⟨_,_,rfl,run_takeDeferred hK,?_⟩⟩;have hD':w.heap.size+1<=D:=by rw[World.size_alloc]at hD;exact hD
  exact⟨_,results_tmp rfl _ _ _,v,rfl,ownsRow_putObj hrow _ hK rfl,hoth.os,hoth.tape,hoth.output,by simpa[World.putObj]using hoth.size,λb hb hne=>(World.putObj_heap_other (by omega)).trans (hoth.keep b hb hne)⟩
 case stop =>
  rintro D c pre W _ _ h _;exact h.elim
set_option maxHeartbeats 4000000 in
theorem y4i(s:List UInt8)(w:World):Calls prog 190 #[.string ⟨⟨s⟩⟩] w λe w'=>e = .returned (.func (.func 222) #[] #[.pointer (some ⟨w.heap.size,0,none⟩)])/\w'=w.alloc (.cells #[.string ⟨⟨s⟩⟩] 9):=by
 go_enter func190,ntmps190
 go_wp2
 go_returns
 exact⟨rfl,rfl⟩
theorem z8v(gf Bs:Nat)(hgf:∀args w,(callFunc gf args).run prog w = .ok (.enter gf args) w)(xs:List (List UInt8))(w:World)(hBs:Bs<w.heap.size)(hg:GI w m0)(hlen:xs.length<=1000000000000)(hseq:∀W,Below w.heap.size w W->x7z Fence.wide 2 prog gf #[.pointer (some ⟨Bs,0,none⟩)] (λx:List UInt8 => #[Value.string ⟨⟨x⟩⟩]) (λb=>b=Bs\/b∈q0s) Bs xs W) :
 Calls prog 189 #[.func (.func gf) #[] #[.pointer (some ⟨Bs,0,none⟩)]] w λe W' =>
  ∃v,e = .returned v/\W'.ownsRow w.heap.size 9 1 v xs.length (xs.map encS)/\Oth Bs w W':=by
 go_enter func189,ntmps189
 go_wp2_with (go_at_call 221;refine(callsIn_wide.1 (y2w gf hgf Bs xs w hBs hg hlen hseq)).mono ?_;rintro e W' ⟨v,rfl,h1,h2⟩)
 go_returns
 exact⟨v,rfl,h1,h2⟩
def q0y(f:List UInt8)(ok:Bool):Option (List (List UInt8)×Int) :=
 bif !ok then some ([],7)else bif f.isEmpty then some ([],13)else
 bif decide (f.length<=1000000000)then
  (kl (f.length+2) (Lib.replaceAll f [227,128,130] [46])).bind λps=>bif decide (ps.length<=1000000000000)then(bif decide (32<ps.length)then some ([],2)else some (ps,0))else none
 else none
theorem w4k{w:World}(hg:GI w m0):∃m,w.cell? ⟨2,0,none⟩=some (.int .i64 m):=by first|exact hg.i|exact hg.i.1
theorem z9z(f:List UInt8)(hf:f.length<=1000000000)(w:World)(hg:GI w m0) :
 Calls prog 188 #[.string ⟨⟨f⟩⟩,.string ⟨#[227,128,130]⟩,.string ⟨#[46]⟩] w λe w'=>e = .returned (.string ⟨⟨Lib.replaceAll f [227,128,130] [46]⟩⟩)/\Below w.heap.size w w':=by
 obtain⟨m,hm⟩:=w4k hg;have hcnt:=Lib.count_le f [227,128,130];refine(Go.Proofs.Any.strings_ReplaceAll lays155 Builder_Extra_155 ⟨⟨f⟩⟩ ⟨#[227,128,130]⟩ ⟨#[46]⟩ m w ?_ hm ?_ ?_).mono ?_
 . show f.length<_
   omega
 . decide
 . show f.length+Lib.count f [227,128,130]*1<=_
   omega
 . rintro e w' ⟨h1,h2⟩
   exact⟨h1,h2⟩
theorem v0b{Bs B:Nat}{A W W':World}(h:Below B A W)(hB:B<=W.heap.size)(hBs:B<=Bs)(ho:Oth Bs W W'):Below B A W' :=
 h.trans ⟨ho.os,ho.tape,ho.output,ho.size,λk hk=>ho.keep k (by omega) (by omega)⟩
theorem q1t{W:World}{base:Nat}{e:TypeId}{v:Value}{n:Nat}{xs:List Value}(h:W.ownsRow base e 1 v n xs):∃a cap,v = .slice a n cap:=by
 rcases h.2 with⟨h1,h2⟩|⟨g,cap,cur,h1,_⟩
 . subst h2;exact⟨_,_,h1⟩
 . exact⟨_,_,h1⟩
set_option maxHeartbeats 4000000 in
theorem y3i(v0 v1 v2 v3 v4:Value)(s f:List UInt8)(ok:Bool)(ls:List (List UInt8))(c:Int)(w:World)(hg:GI w m0)(hC:q0y f ok=some (ls,c))(hfold:∀W,Below w.heap.size w W->Calls prog 151 #[.agg #[v0,v1,v2,v3,v4],.string ⟨⟨s⟩⟩] W λe W'=>e = .returned (.tuple #[.string ⟨⟨f⟩⟩,.bool ok])/\Below W.heap.size W W') :
 Calls prog 157 #[.agg #[v0,v1,v2,v3,v4],.string ⟨⟨s⟩⟩] w λe w'=>∃v,e = .returned (.tuple #[v,.int .i64 c])/\Below w.heap.size w w'/\w'.ownsRow w.heap.size 9 1 v ls.length (ls.map encS):=by
 have hW0:Below w.heap.size w (w.alloc (.cells #[v0,v1,v2,v3,v4] 39)):=(Below.refl _ w).alloc (le_refl _) _;have hF:=hfold _ hW0;clear hfold;cases ok with
 | false =>
  have hC':(([]:List (List UInt8)),(7:Int))=(ls,c):=Option.some.inj hC;cases hC'
  go_enter func157,ntmps157
  go_wp2_with (go_at_call 151;refine hF.mono ?_;rintro e w1 ⟨rfl,hb1⟩)
  go_returns
  exact⟨_,rfl,hW0.trans (hb1.mono hW0.size),World.ownsRow_nil _ _ _ _⟩
 | true =>
  cases f with
  | nil =>
   have hC':(([]:List (List UInt8)),(13:Int))=(ls,c):=Option.some.inj hC;cases hC'
   go_enter func157,ntmps157
   go_wp2_with (go_at_call 151;refine hF.mono ?_;rintro e w1 ⟨rfl,hb1⟩)
   go_returns
   exact⟨_,rfl,hW0.trans (hb1.mono hW0.size),World.ownsRow_nil _ _ _ _⟩
  | cons f0 f1 =>
   have hC1:(bif decide ((f0::f1).length<=1000000000)then
    (kl ((f0::f1).length+2) (Lib.replaceAll (f0::f1) [227,128,130] [46])).bind λps=>bif decide (ps.length<=1000000000000)then(bif decide (32<ps.length)then some (([]:List (List UInt8)),(2:Int))else some (ps,0))else none
    else none)=some (ls,c):=hC
   rcases je hC1 with⟨hlen,hC2⟩|⟨_,hC2⟩
   case inr=>cases hC2
   have hlen':=of_decide_eq_true hlen;obtain⟨ps,hps,hC3⟩:=bind_eq_some_iff.1 hC2;rcases je hC3 with⟨hl2,hC4⟩|⟨_,hC4⟩
   case inr=>cases hC4
   have hl2':=of_decide_eq_true hl2;have hcc:∀W:World,GI W m0->Calls prog 189 #[.func (.func 222) #[] #[.pointer (some ⟨W.heap.size,0,none⟩)]] (W.alloc (.cells #[.string ⟨⟨Lib.replaceAll (f0::f1) [227,128,130] [46]⟩⟩] 9)) λe W' =>
    ∃v,e = .returned v/\W'.ownsRow (W.alloc (.cells #[.string ⟨⟨Lib.replaceAll (f0::f1) [227,128,130] [46]⟩⟩] 9)).heap.size 9 1 v ps.length (ps.map encS)/\Oth W.heap.size (W.alloc (.cells #[.string ⟨⟨Lib.replaceAll (f0::f1) [227,128,130] [46]⟩⟩] 9)) W':=λW hgW=>by
    have hbW:Below W.heap.size W (W.alloc (.cells #[.string ⟨⟨Lib.replaceAll (f0::f1) [227,128,130] [46]⟩⟩] 9)):=(Below.refl _ W).alloc (le_refl _) _;have hgW':=zi hgW hbW;refine z8v 222 W.heap.size (enters_of func222 (by kernel_rfl) rfl) ps _ (by rw[World.size_alloc];omega) hgW' hl2' λW2 hb2 => ?_;exact v1f 2 (by omega) W.heap.size _ ps _ hps W2 (z8r (Boxed.new _ _ _) (hb2.block _ (by rw[World.size_alloc];omega))) (zi hgW' hb2) λb hb=>by have:=(hgW.b b hb).1;omega
   have hg1:=λW hb=>z9z (f0::f1) hlen' W (zi hg hb);generalize Lib.replaceAll (f0::f1) [227,128,130] [46]=r at hps hcc hg1;have jh:∀{w1 w2 w4:World} {v:Value},Below (w.alloc (.cells #[v0,v1,v2,v3,v4] 39)).heap.size (w.alloc (.cells #[v0,v1,v2,v3,v4] 39)) w1->Below w1.heap.size w1 w2->w4.ownsRow (w2.alloc (.cells #[.string ⟨⟨r⟩⟩] 9)).heap.size 9 1 v ps.length (ps.map encS)->Oth w2.heap.size (w2.alloc (.cells #[.string ⟨⟨r⟩⟩] 9)) w4->Below w.heap.size w w4/\w4.ownsRow w.heap.size 9 1 v ps.length (ps.map encS):=by
    intro w1 w2 w4 v h1 h2 h3 h4;have b2:Below w.heap.size w w2:=(hW0.trans (h1.mono hW0.size)).trans (h2.mono (by have:=hW0.size;have:=h1.size;omega));have b3:Below w.heap.size w (w2.alloc (.cells #[.string ⟨⟨r⟩⟩] 9)):=b2.alloc b2.size _;refine⟨v0b b3 b3.size b2.size h4,h3.1,?_⟩;rcases h3.2 with h|⟨g,cap,cur,e1,e2,e3⟩
    . exact .inl h
    . exact .inr ⟨g,cap,cur,e1,le_trans b3.size e2,e3⟩
   have Fin:Hid _ := @jh;clear jh;by_cases h32:32<ps.length
   . rw[decide_eq_true h32,cond_true]at hC4
     have hC':(([]:List (List UInt8)),(2:Int))=(ls,c):=Option.some.inj hC4;cases hC';clear hC hC1 hC2 hC3 hC4
     go_enter func157,ntmps157
     go_wp2_with (first
      | (go_at_call 151;refine hF.mono ?_;rintro e w1 ⟨rfl,hb1⟩)
      | (go_at_call 188;refine(hg1 _ (hW0.trans (hb1.mono hW0.size))).mono ?_;rintro e w2 ⟨rfl,hb2⟩)
      | (go_at_call 190;refine(y4i r _).mono ?_;rintro e w3 ⟨rfl,rfl⟩)
      | (go_at_call 189;have hgw2:GI w2 m0:=zi (zi (zi hg hW0) hb1) hb2;refine(hcc _ hgw2).mono ?_;rintro e w4 ⟨v,rfl,hrow,hoth⟩;obtain⟨sa,sc,rfl⟩:=q1t hrow)
      | go_in)
     go_returns
     exact⟨_,rfl,(Fin.out hb1 hb2 hrow hoth).1,World.ownsRow_nil _ _ _ _⟩
   . rw[decide_eq_false h32,cond_false]at hC4
     have hC':(ps,(0:Int))=(ls,c):=Option.some.inj hC4;cases hC';clear hC hC1 hC2 hC3 hC4
     go_enter func157,ntmps157
     go_wp2_with (first
      | (go_at_call 151;refine hF.mono ?_;rintro e w1 ⟨rfl,hb1⟩)
      | (go_at_call 188;refine(hg1 _ (hW0.trans (hb1.mono hW0.size))).mono ?_;rintro e w2 ⟨rfl,hb2⟩)
      | (go_at_call 190;refine(y4i r _).mono ?_;rintro e w3 ⟨rfl,rfl⟩)
      | (go_at_call 189;have hgw2:GI w2 m0:=zi (zi (zi hg hW0) hb1) hb2;refine(hcc _ hgw2).mono ?_;rintro e w4 ⟨v,rfl,hrow,hoth⟩;obtain⟨sa,sc,rfl⟩:=q1t hrow)
      | go_in)
     go_returns
     exact⟨_,rfl,(Fin.out hb1 hb2 hrow hoth).1,(Fin.out hb1 hb2 hrow hoth).2⟩
set_option maxHeartbeats 4000000 in
theorem y8r(n:Nat)(hn:1<=n)(Bs base:Nat)(v:Value)(xs:List (List UInt8))(K:Nat->Prop)(w:World)(hb:Boxed w Bs 89 v)(hrow:w.ownsRow base 9 1 v xs.length (xs.map encS))(hlen:xs.length<=1000000000000)(hKb:K Bs)(hKv:∀b,v.ownBlock=some b->K b)(Bd:Nat) :
 x7z Fence.wide n prog 191 #[.pointer (some ⟨Bs,0,none⟩)] (λx:List UInt8 => #[Value.string ⟨⟨x⟩⟩]) K Bd xs w:=by
 intro l J Jx W hW hJ hJx hY h0;have hb':Boxed W Bs 89 v:=(hW.block Bs hb.lt).trans hb;have hc:=hb'.cell;rcases hrow.2 with⟨rfl,hn0⟩|⟨g,cap,cur,rfl,hg1,hg2,hg3,hg4,hg5,hg6⟩
 . have hx:xs=[]:=List.eq_nil_of_length_eq_zero hn0
   subst hx;refine callsIn_of_wp func191 rfl trivial ?_ rfl;simp only[ntmps191,size_toArray,length_cons,length_nil,reduceAdd,reduceSub,replicate_succ,replicate_zero,push_toArray,append_toArray,nil_append,cons_append]
   gi_wp2
   gi_loopw [7] (λi wr=>i = .int .i64 0/\J [] wr) (λ_ _=>0)
   case atStart=>exact⟨rfl,h0⟩
   case round =>
    obtain⟨rfl,hJs⟩:=hrel
    gi_wp2
    go_end0
    exact⟨⟨_,rfl⟩,.inl hJs⟩
 . have hKg:K g:=hKv g rfl
   have hgW:W.heap[g]? = some (.cells cur 9 (0,0)):=(hW.block g (lt_of_some hg2)).trans hg2;have hcur:∀(k:Nat) x,xs[k]? = some x->cur[k]? = some (.string ⟨⟨x⟩⟩):=λk x hk=>by
    have hlt:k<xs.length:=(List.getElem?_eq_some_iff.1 hk).1;have h1:(cur.toList.take (xs.length*1))[k]? = some (encS x):=by rw[hg6,getElem?_map,hk];rfl
    rw[List.getElem?_take_of_lt (by omega),Array.getElem?_toList]at h1;exact h1
   refine callsIn_of_wp func191 rfl trivial ?_ rfl;simp only[ntmps191,size_toArray,length_cons,length_nil,reduceAdd,reduceSub,replicate_succ,replicate_zero,push_toArray,append_toArray,nil_append,cons_append];generalize hN:xs.length=N at *
   gi_wp2
   gi_loopw [7] (λi wr=>∃k:Nat,i = .int .i64 k/\k<=N/\Hid (J (xs.take k) wr)/\Hid (wr.heap[g]? = some (.cells cur 9 (0,0)))) (λi _=>N-(intOf i).toNat)
   case atStart=>exact⟨0,rfl,Nat.zero_le _,h0,hgW⟩
   case round =>
    obtain⟨k,rfl,hk,hJs,hgr⟩:=hrel;by_cases hlt:k<N
    . obtain⟨x,hx⟩:∃x,xs[k]? = some x:=⟨_,getElem?_eq_getElem (by omega)⟩
      have htk:xs.take (k+1)=xs.take k++[x]:=by rw[List.take_add_one,hx];rfl
      have hpre:xs.take k++[x] <+: xs:=htk▸List.take_prefix _ _;have hcx:wr.cell? ⟨g,k,none⟩=some (.string ⟨⟨x⟩⟩):=by simp only[World.cell?,hgr.out];exact hcur k x hx
      obtain⟨fn,tmps,assign,body,hy,hR⟩:=hY _ x wr hpre hJs.out;clear hcur
      gi_wp2
      refine hR.mono ?_;rintro e W3 (⟨rfl,hJ3,hs3,hk3⟩|⟨rfl,hJx3⟩)
      . have hg3:Hid (W3.heap[g]? = some (.cells cur 9 (0,0))):=(hk3 g hKg).trans hgr.out
        have hJ4:Hid (J (xs.take (k+1)) W3):=by rw[htk];exact hJ3
        gi_wp2
        go_roundw
        case rel=>exact⟨k+1,by simp,by omega,hJ4,hg3⟩
        case measure=>simp[intOf];omega
      . gi_wp2
        refine bodyPost_ret (results_none rfl _ _ _) rfl ?_;exact⟨⟨_,rfl⟩,.inr ⟨_,hpre,hJx3⟩⟩
    . obtain rfl:k=N:=by omega
      gi_wp2
      go_end0
      exact⟨⟨_,rfl⟩,.inl (by have:=hJs.out;rwa[List.take_of_length_le (by omega)]at this)⟩
set_option maxHeartbeats 4000000 in
theorem v1l(a:Option Addr)(n cap:Nat)(w:World):Calls prog 158 #[.slice a n cap] w λe w'=>e = .returned (.func (.func 191) #[] #[.pointer (some ⟨w.heap.size,0,none⟩)])/\w'=w.alloc (.cells #[.slice a n cap] 89):=by
 go_enter func158,ntmps158
 go_wp2
 go_returns
 exact⟨rfl,rfl⟩
def K0:qp:=λf=>Ae.lookA f []
theorem m1c:zh prog K0:=x4v _
noncomputable def k8e:Code:=match qd (code f124) [1,1,1,1,0,1,0]with | .rangeFunc _ _ _ b=>b|c=>c
noncomputable def z4r:Array Oper:=match qd k8e [0,1,1,1]with | .region _ ops _=>ops|_ => #[]
def t11(x y:List UInt8):List AV:=[.top,.top,.top,.top,.top,.top,.top,.top,.top,.ptr 2 0,.ptr 3 0,.top,.str x,.top,.str y]++List.replicate 45 .top
def o11(ps qs:List (List UInt8)):ql:=[[.rowc 9 .str ps],[.rowc 9 .str qs],[.row 0],[.row 1]]
def w4s(ps qs:List (List UInt8))(x y:List UInt8):ql:=[[],[],[.row 5],[.row 7],[.rowc 9 .str [x]],[.rowc 9 .str (ps++[x])],[.rowc 9 .str [y]],[.rowc 9 .str (qs++[y])]]
theorem r11(ps qs:List (List UInt8))(x y:List UInt8):q0v Γ K0 z4r ⟨t11 x y,o11 ps qs⟩ (λs=>some s.o) =
 bif decide (ps.length+1<=140737488355328/16)then(bif decide (qs.length+1<=140737488355328/16)then some (w4s ps qs x y)else none)else none:=by kernel_rfl
theorem m1e:∀(i:Nat) o,z4r[i]? = some o->∀c,o.op ≠ .defer c:=by
 have h:(z4r.toList.all λo=>match o.op with | .defer _=>false|_=>true)=true:=by kernel_rfl
 intro i o ho c hc;have:=List.all_eq_true.1 h o (Array.mem_toList_iff.2 (Array.mem_of_getElem? ho));rw[hc]at this;cases this
theorem x5z{w:World}{m:Md}{g:List Value}:∀(av:List AV) (vs:List Value),av.length=vs.length->(∀(i:Nat) v,vs[i]? = some v->qi w m g (av.getD i .top) v)->qf w m g av vs
 | [],[],_,_=>rfl
 | a::av,v::vs,hl,h=>⟨v,vs,rfl,h 0 v rfl,x5z av vs (by simpa using hl) λi u hu=>h (i+1) u hu⟩
structure Two (base A9 A10:Nat) (W:World) (ps qs:List (List UInt8)):Prop where
 ex:∃va vu t9 t10,Boxed W A9 t9 va/\Boxed W A10 t10 vu/\W.ownsRow base 9 1 va ps.length (ps.map encS)/\W.ownsRow base 9 1 vu qs.length (qs.map encS) /\
  (∀b,va.ownBlock=some b->b≠A9/\b≠A10/\vu.ownBlock≠some b)/\∀b,vu.ownBlock=some b->b≠A9/\b≠A10
def k7s(A9 A10:Nat)(va vu:Value)(b:Nat):Prop:=b=A9\/b=A10\/va.ownBlock=some b\/vu.ownBlock=some b
theorem y4m{w:World}{m:Md}{l:List (List UInt8)}{xs:List Value}(h:yr w m .str l xs)(hl:xs.length=l.length*1):xs=l.map encS:=by
 apply List.ext_getElem?;intro j;rw[getElem?_map];by_cases hj:j<l.length
 . have h1:((xs.drop (j*1)).take 1)=[.string ⟨⟨l[j]⟩⟩]:=h j l[j] (getElem?_eq_getElem hj)
   have h2:((xs.drop (j*1)).take 1)[0]? = some (.string ⟨⟨l[j]⟩⟩):=by rw[h1];rfl
   rw[List.getElem?_take_of_lt (by omega),List.getElem?_drop]at h2;simp only[Nat.mul_one,Nat.add_zero]at h2;rw[h2,getElem?_eq_getElem hj];rfl
 . rw[List.getElem?_eq_none (by omega),List.getElem?_eq_none (by omega)]
   rfl
theorem v7h{w:World}{m:Md}(l:List (List UInt8)):yr w m .str l (l.map encS):=by
 intro j x hj
 change List UInt8 at x
 change l[j]? = some x at hj
 show ((l.map encS).drop (j*1)).take 1=[.string ⟨⟨x⟩⟩]
 have hlt:=(List.getElem?_eq_some_iff.1 hj).1;have:((l.map encS).drop j)=encS x::(l.map encS).drop (j+1):=by
  rw[<-List.map_drop,List.drop_eq_getElem_cons hlt,List.map_cons,List.map_drop];rw[(List.getElem?_eq_some_iff.1 hj).2]
 rw[Nat.mul_one,this];rfl
theorem row_zero{W:World}{base:Nat}{e:TypeId}{size n:Nat}{v:Value}{xs:List Value}(h:W.ownsRow base e size v n xs):W.ownsRow 0 e size v n xs:=by
 refine⟨h.1,?_⟩;rcases h.2 with h|⟨g,cap,cur,e1,h2,h3⟩
 . exact .inl h
 . exact .inr ⟨g,cap,cur,e1,Nat.zero_le _,h3⟩
theorem y8e{W:World}{base:Nat}{e:TypeId}{size n:Nat}{v:Value}{xs:List Value}(h:W.ownsRow base e size v n xs):∀b,v.ownBlock=some b->base<=b/\b<W.heap.size/\∃o,W.heap[b]? = some o/\o.isCells=true:=by
 rcases h.2 with⟨rfl,_⟩|⟨g,cap,cur,rfl,h2,h3,_⟩
 . intro b hb;cases hb
 . intro b hb;cases hb;exact⟨h2,lt_of_some h3,_,h3,rfl⟩
theorem y2f{w:World}{m:Md}{g:List Value}{A:Nat}{t:TypeId}{v:Value}{i:Nat}(h:Boxed w A t v)(hi:g[i]? = some v)(hv:∃ao n c,v = .slice ao n c):RepO w m g (.pointer (some ⟨A,0,none⟩)) [.row i] :=
 ⟨λ_ _ _ e=>(by cases e),λ_ _ e=>(by cases e),λ_=>⟨A,t,_,rfl,h,v,[],rfl,⟨hi,hv⟩,rfl⟩,λ_ _ e=>(by cases e),trivial⟩
theorem y4p{w:World}{m:Md}{g:List Value}{base:Nat}{v:Value}{l:List (List UInt8)}(h:w.ownsRow base 9 1 v l.length (l.map encS)):RepO w m g v [.rowc 9 .str l] :=
 ⟨λ_ _ _ e=>(by cases e;exact⟨_,row_zero h,v7h l⟩),λ_ _ e=>(by cases e),λe=>(by cases e),λ_ _ e=>(by cases e),trivial⟩
theorem k1h(l n0:Nat)(ps qs:List (List UInt8))(x y:List UInt8)(hp:ps.length<=1000000000000)(hq:qs.length<=1000000000000)(tm:List Value)(base R A9 A10:Nat)(hR:base<=R)(W:World)(hg:GI W m0)(hgb:∀b∈q0s,b<base)(hne:A9≠A10)(h9:base<=A9)(h10:base<=A10)(h:Two R A9 A10 W ps qs)(hlen:tm.length=60)(hbase:R<=W.heap.size)(e9:tm[9]? = some (.pointer (some ⟨A9,0,none⟩)))(e10:tm[10]? = some (.pointer (some ⟨A10,0,none⟩)))(e12:tm[12]? = some (.string ⟨⟨x⟩⟩))(e14:tm[14]? = some (.string ⟨⟨y⟩⟩)) :
 (Code.region 11 z4r true).wpIn (Fence.wide.inRound l) n0 prog (λe a' w'=>e = .normal/\Two R A9 A10 w' (ps++[x]) (qs++[y])/\w'.os=W.os/\w'.tape=W.tape/\w'.output=W.output/\W.heap.size<=w'.heap.size /\
  (∀b,b<R->b≠A9->b≠A10->w'.heap[b]? = W.heap[b]?)/\∀(b:Nat) (o:Obj),W.heap[b]? = some o->o.isCells=false->w'.heap[b]? = some o) { tmps:=tm.toArray,defers:=[] } W:=by
 obtain⟨va,vu,t9,t10,b9,b10,r9,r10,s1,s2⟩:=h.ex;have g1:=y8e r9;have g2:=y8e r10;obtain⟨sa1,sc1,es1⟩:=q1t r9;obtain⟨sa2,sc2,es2⟩:=q1t r10;have hmu:∀b,k7s A9 A10 va vu b->base<=b/\b<W.heap.size/\∃o,W.heap[b]? = some o/\o.isCells=true:=by
  rintro b (rfl|rfl|hb|hb)
  . exact⟨h9,b9.lt,_,b9,rfl⟩
  . exact⟨h10,b10.lt,_,b10,rfl⟩
  . have:=g1 b hb;exact⟨by omega,this.2⟩
  . have:=g2 b hb;exact⟨by omega,this.2⟩
 have hrep:Rep W ⟨k7s A9 A10 va vu,k7s A9 A10 va vu⟩ [va,vu,.pointer (some ⟨A9,0,none⟩),.pointer (some ⟨A10,0,none⟩)] ⟨t11 x y,o11 ps qs⟩ { tmps:=tm.toArray,defers:=[] }:=by
  refine⟨?_,rfl,?_⟩
  . refine x5z _ _ (by simp[t11,hlen]) λi v hv => ?_
    have hv':tm[i]? = some v:=hv;have hi:i<60:=hlen▸(List.getElem?_eq_some_iff.1 hv').1;by_cases i9:i=9
    . subst i9;rw[e9]at hv';cases hv';exact⟨A9,rfl,rfl⟩
    by_cases i10:i=10
    . subst i10;rw[e10]at hv';cases hv';exact⟨A10,rfl,rfl⟩
    by_cases i12:i=12
    . subst i12;rw[e12]at hv';cases hv';rfl
    by_cases i14:i=14
    . subst i14;rw[e14]at hv';cases hv';rfl
    have ht:(t11 x y).getD i .top = .top:=by
     have hc:i=0\/i=1\/i=2\/i=3\/i=4\/i=5\/i=6\/i=7\/i=8\/i=11\/i=13\/15<=i:=by omega
     rcases hc with rfl|rfl|rfl|rfl|rfl|rfl|rfl|rfl|rfl|rfl|rfl|hc
     iterate 11 rfl
     unfold t11;rw[List.getD_eq_getElem?_getD,List.getElem?_append_right (by simpa using hc),List.getElem?_replicate];split<;>rfl
    rw[ht];trivial
  . refine⟨⟨hg.i,λb hb=>⟨(hg.b b hb).1,λhc => ?_⟩⟩,rfl,?_,λ_ h=>h,λb hb=>(hmu b hb).2.1,?_,?_⟩
    . have:=(hmu b hc).1;have:=hgb b hb;omega
    . rintro b ⟨i,gi,cs,k1,k2,k3⟩
      match i with
      | 0=>cases k1;cases k2;exact .inr (.inr (.inl k3))
      | 1=>cases k1;cases k2;exact .inr (.inr (.inr k3))
      | 2=>cases k1;cases k2;cases k3;exact .inl rfl
      | 3=>cases k1;cases k2;cases k3;exact .inr (.inl rfl)
      | i+4=>cases k1
    . intro i gi cs k1 k2
      match i with
      | 0=>cases k1;cases k2;exact y4p r9
      | 1=>cases k1;cases k2;exact y4p r10
      | 2=>cases k1;cases k2;exact y2f b9 rfl ⟨_,_,_,es1⟩
      | 3=>cases k1;cases k2;exact y2f b10 rfl ⟨_,_,_,es2⟩
      | i+4=>cases k1
    . intro i j gi gj ci cj b hij k1 k2 k3 k4 k5 k6
      match i,j with
      | 0,0|1,1|2,2|3,3=>exact hij rfl
      | 0,1=>cases k1;cases k2;cases k3;cases k4;exact(s1 b k5).2.2 k6
      | 1,0=>cases k1;cases k2;cases k3;cases k4;exact(s1 b k6).2.2 k5
      | 0,2=>cases k1;cases k2;cases k3;cases k4;cases k6;exact(s1 _ k5).1 rfl
      | 0,3=>cases k1;cases k2;cases k3;cases k4;cases k6;exact(s1 _ k5).2.1 rfl
      | 1,2=>cases k1;cases k2;cases k3;cases k4;cases k6;exact(s2 _ k5).1 rfl
      | 1,3=>cases k1;cases k2;cases k3;cases k4;cases k6;exact(s2 _ k5).2 rfl
      | 2,0=>cases k1;cases k2;cases k3;cases k4;cases k5;exact(s1 _ k6).1 rfl
      | 3,0=>cases k1;cases k2;cases k3;cases k4;cases k5;exact(s1 _ k6).2.1 rfl
      | 2,1=>cases k1;cases k2;cases k3;cases k4;cases k5;exact(s2 _ k6).1 rfl
      | 3,1=>cases k1;cases k2;cases k3;cases k4;cases k5;exact(s2 _ k6).2 rfl
      | 2,3=>cases k1;cases k2;cases k3;cases k4;cases k5;cases k6;exact hne rfl
      | 3,2=>cases k1;cases k2;cases k3;cases k4;cases k5;cases k6;exact hne rfl
      | i+4,_=>cases k1
      | _,j+4=>cases k3
 have hlim:(140737488355328:Nat)/16=8796093022208:=rfl;have hrun:q0v Γ K0 z4r ⟨t11 x y,o11 ps qs⟩ (λs=>some s.o)=some (w4s ps qs x y):=by
  rw[r11,hlim,decide_eq_true (show ps.length+1<=8796093022208 by omega),decide_eq_true (show qs.length+1<=8796093022208 by omega)];rfl
 refine wpIn_mono (y6r l n0 m1e hm hΓ m1c hrep hrun (Q:=λa' w'=>Two R A9 A10 w' (ps++[x]) (qs++[y])/\w'.os=W.os/\w'.tape=W.tape/\w'.output=W.output/\W.heap.size<=w'.heap.size /\
  (∀b,b<R->b≠A9->b≠A10->w'.heap[b]? = W.heap[b]?)/\∀(b:Nat) (o:Obj),W.heap[b]? = some o->o.isCells=false->w'.heap[b]? = some o) ?_) λe a' w' h=>h
 intro st' a' w' m' g' k1 k2 k3 k4;have ho:st'.o=w4s ps qs x y:=Option.some.inj k1;have hob:=k2.obj;rw[ho]at hob;have q2:g'[2]? = some (.pointer (some ⟨A9,0,none⟩)):=k4 2 _ rfl;have q3:g'[3]? = some (.pointer (some ⟨A10,0,none⟩)):=k4 3 _ rfl;have hlen8:g'.length=8:=hob.len;obtain⟨v5,q5⟩:∃v,g'[5]? = some v:=⟨_,getElem?_eq_getElem (by omega)⟩
 obtain⟨v7,q7⟩:∃v,g'[7]? = some v:=⟨_,getElem?_eq_getElem (by omega)⟩
 obtain⟨b2,ty2,arr2,z1,z2,z3⟩:=(hob.obj 2 _ [.row 5] q2 rfl).box rfl;obtain⟨b3,ty3,arr3,y1,y2,y3⟩:=(hob.obj 3 _ [.row 7] q3 rfl).box rfl;cases z1;cases y1;obtain⟨u5,r5,z4,⟨z5,z6⟩,z7⟩:=z3;obtain⟨u7,r7,y4,⟨y5,y6⟩,y7⟩:=y3;rw[q5]at z5;rw[q7]at y5;cases z5;cases y5;have z7':r5=[]:=z7;have y7':r7=[]:=y7;subst z7' y7';obtain⟨xs5,o5,p5⟩:=(hob.obj 5 _ [.rowc 9 .str (ps++[x])] q5 rfl).rowc _ _ _ rfl;obtain⟨xs7,o7,p7⟩:=(hob.obj 7 _ [.rowc 9 .str (qs++[y])] q7 rfl).rowc _ _ _ rfl;have hx5:=y4m p5 o5.1;have hx7:=y4m p7 o7.1;subst hx5 hx7;have hge:∀(i:Nat) gi cs b,i≠2->i≠3->g'[i]? = some gi->(w4s ps qs x y)[i]? = some cs->blk gi cs=some b->R<=b:=λi gi cs b n2 n3 c1 c2 c3=>by
  by_cases hlt:b<W.heap.size
  . rcases k3.mutb b hlt (hob.nm b (hob.sub b ⟨i,gi,cs,c1,c2,c3⟩))with h|h|h|h
    . exact(hob.sep i 2 _ _ _ _ _ n2 c1 c2 q2 rfl c3 (by rw[h];rfl)).elim
    . exact(hob.sep i 3 _ _ _ _ _ n3 c1 c2 q3 rfl c3 (by rw[h];rfl)).elim
    . exact(g1 b h).1
    . exact(g2 b h).1
  . omega
 have hkeep:∀(b:Nat) (o:Obj),W.heap[b]? = some o->¬k7s A9 A10 va vu b->w'.heap[b]? = some o:=λb o hb hn=>(k3.keep b (lt_of_some hb) hn).trans hb;refine⟨⟨v5,v7,ty2,ty3,?_,?_,?_,?_,?_,?_⟩,k3.os,k3.tape,k3.output,k3.size,?_,?_⟩
 . have:arr2 = #[v5]:=by cases arr2;simpa using z4
   subst this;exact z2
 . have:arr3 = #[v7]:=by cases arr3;simpa using y4
   subst this;exact y2
 . exact z2c o5 λb hb=>hge 5 _ _ b (by decide) (by decide) q5 rfl hb
 . exact z2c o7 λb hb=>hge 7 _ _ b (by decide) (by decide) q7 rfl hb
 . intro b hb
   refine⟨?_,?_,λhc => ?_⟩
   . rintro rfl;exact hob.sep 5 2 _ _ _ _ _ (by decide) q5 rfl q2 rfl hb rfl
   . rintro rfl;exact hob.sep 5 3 _ _ _ _ _ (by decide) q5 rfl q3 rfl hb rfl
   . exact hob.sep 5 7 _ _ _ _ _ (by decide) q5 rfl q7 rfl hb hc
 . intro b hb
   refine⟨?_,?_⟩
   . rintro rfl;exact hob.sep 7 2 _ _ _ _ _ (by decide) q7 rfl q2 rfl hb rfl
   . rintro rfl;exact hob.sep 7 3 _ _ _ _ _ (by decide) q7 rfl q3 rfl hb rfl
 . intro b hb hn9 hn10
   refine k3.keep b (by omega) λhc => ?_;rcases hc with h|h|h|h
   . exact hn9 h
   . exact hn10 h
   . have:=(g1 b h).1;omega
   . have:=(g2 b h).1;omega
 . intro b o hb hc
   refine hkeep b o hb λhcc => ?_;obtain⟨_,_,o',e1,e2⟩:=hmu b hcc;rw[hb]at e1;cases e1;rw[hc]at e2;cases e2
def q3f(A U:List UInt8->Option (List UInt8×Int)):List (List UInt8)->List (List UInt8)->List (List UInt8)->Option (Int×List (List UInt8)×List (List UInt8))
 | [],ps,qs=>some (0,ps,qs)
 | x::xs,ps,qs=>(A x).bind λa=>bif a.2 != 0 then some (a.2,[],[])else(U x).bind λu=>q3f A U xs (ps++[a.1]) (qs++[u.1])
theorem y4v{N Bs R A9 A10:Nat}{W W':World}{ps qs:List (List UInt8)}(h:Two R A9 A10 W ps qs)(h9:A9≠Bs)(h10:A10≠Bs)(hR:Bs<R)(ho:OthR N Bs W W'):Two R A9 A10 W' ps qs:=by
 obtain⟨va,vu,t9,t10,b9,b10,r9,r10,s1,s2⟩:=h.ex;exact⟨va,vu,t9,t10,xy b9 h9 ho,xy b10 h10 ho,q1a hR r9 ho,q1a hR r10 ho,s1,s2⟩
theorem k1l{W:World}{base:Nat}{v:Value}{l:List (List UInt8)}(h:W.ownsRow base 9 1 v l.length (l.map encS)):jb W m0 (.lst .str) l [v]:=by
 rcases h.2 with⟨rfl,h0⟩|⟨g,cap,cur,rfl,h2,h3,h4,h5,h6,h7⟩
 . have hl:l=[]:=List.eq_nil_of_length_eq_zero h0
   subst hl;exact⟨none,0,rfl,le_refl _,by omega,λ_=>rfl,λj x hj=>by
    have hj':([]:List (List UInt8))[j]? = some x:=hj;simp at hj'⟩
 . refine⟨_,cap,rfl,h4,by simp only[maxLen]at h5;omega,λe=>(by cases e),λj x hj => ?_⟩
   change List UInt8 at x
   change l[j]? = some x at hj
   refine⟨g,0,[.string ⟨⟨x⟩⟩],rfl,rfl,rfl,lt_of_some h3,λhm=>hm,λi u hu => ?_⟩;have hlt:=(List.getElem?_eq_some_iff.1 hj).1
   match i with
   | i+1=>cases hu
   | 0 =>
    cases hu;have h1:(cur.toList.take (l.length*1))[j]? = some (encS x):=by rw[h7,getElem?_map,hj];rfl
    rw[List.getElem?_take_of_lt (by omega),Array.getElem?_toList]at h1;simp only[World.cell?,h3];show cur[0+j*1+0]? = _;rw[show 0+j*1+0=j by omega];exact h1
theorem z4l{W:World}{base:Nat}{v:Value}{l:List (List UInt8)}{r:List UInt8}(h:W.ownsRow base 9 1 v l.length (l.map encS))(hj:q7r (l,[46],())=some (r,()))(hg:GI W m0) :
 Calls prog 73 #[v,.string ⟨#[46]⟩] W λe W'=>e = .returned (.string ⟨⟨r⟩⟩)/\Below W.heap.size W W':=by
 have hj':C73 (l,[46],())=some (r,()):=hj;refine(zg.call0 (v:=(l,[46],())) (y:=(r,())) m2c func73 (by kernel_rfl) (by kernel_rfl) hg (λ_ h=>h.elim) rfl ⟨v,_,rfl,k1l h,_,_,rfl,rfl,rfl⟩ rfl hj' ?_).mono λe w' ⟨rv,h1,h2,ax,l',u,h3,h4⟩ => ?_
 . intro ax l' u h3
   cases jo h3;rfl
 . cases jo h3
   obtain⟨v,r',e1,e2,e4⟩:=h4;have e4':r'=[]:=e4;subst e4';cases e1;subst h1 e2;exact⟨rfl,h2⟩
def y4h(res:Int×List (List UInt8)×List (List UInt8)):Option (List UInt8×List UInt8×Int) :=
 bif res.1 != 0 then some ([],[],res.1)else(q7r (res.2.1,[46],())).bind λja=>bif decide (253<ja.1.length)then some ([],[],5)else(q7r (res.2.2,[46],())).bind λju=>some (ja.1,ju.1,0)
set_option maxHeartbeats 4000000 in
theorem v0d(v0 v1 v2 v3 v4:Value)(s:List UInt8)(ls:List (List UInt8))(A U:List UInt8->Option (List UInt8×Int))(res:Int×List (List UInt8)×List (List UInt8))(w:World)(hg:GI w m0)(hll:ls.length<=32)(hres:q3f A U ls [] []=some res)(oa ou:List UInt8)(oc:Int)(hout:y4h res=some (oa,ou,oc))(hlab:∀W,Below w.heap.size w W->Calls prog 157 #[.agg #[v0,v1,v2,v3,v4],.string ⟨⟨s⟩⟩] W λe w'=>∃v,e = .returned (.tuple #[v,.int .i64 0])/\Below W.heap.size W w'/\w'.ownsRow W.heap.size 9 1 v ls.length (ls.map encS))(hA:∀x r,A x=some r->∀W,Below w.heap.size w W->Calls prog 159 #[.agg #[v0,v1,v2,v3,v4],.string ⟨⟨x⟩⟩] W λe W'=>e = .returned (.tuple #[.string ⟨⟨r.1⟩⟩,.int .i64 r.2])/\Below W.heap.size W W')(hU:∀x r,U x=some r->∀W,Below w.heap.size w W->Calls prog 160 #[.agg #[v0,v1,v2,v3,v4],.string ⟨⟨x⟩⟩] W λe W'=>e = .returned (.tuple #[.string ⟨⟨r.1⟩⟩,.int .i64 r.2])/\Below W.heap.size W W') :
 Calls prog 124 #[.agg #[v0,v1,v2,v3,v4],.string ⟨⟨s⟩⟩] w λe w'=>e = .returned (.tuple #[.string ⟨⟨oa⟩⟩,.string ⟨⟨ou⟩⟩,.int .i64 oc])/\Below w.heap.size w w':=by
 refine(callsIn_wide (n:=3)).1 ?_;refine callsIn_of_wp_marks func124 rfl trivial ?_ rfl;simp only[ntmps124,size_toArray,length_cons,length_nil,reduceAdd,reduceSub,replicate_succ,replicate_zero,push_toArray,append_toArray,nil_append,cons_append];have hW0:Below w.heap.size w ((((w.alloc (.cells #[v0,v1,v2,v3,v4] 39)).alloc (.cells #[.string ⟨#[]⟩] 9)).alloc (.cells #[.string ⟨#[]⟩] 9)).alloc (.cells #[.int .i64 0] 44)) :=
  ((((Below.refl _ w).alloc (le_refl _) _).alloc (by simp) _).alloc (by simp<;>omega) _).alloc (by simp<;>omega) _
 gi_wp2_with (first
  | (refine⟨trivial,?_⟩;gi_at_call 157;refine(callsIn_wide.2 (hlab _ hW0)).mono ?_;rintro e w1 ⟨lv,rfl,hb1,hrow⟩;obtain⟨la,lc,rfl⟩:=q1t hrow)
  | (refine⟨trivial,?_⟩;gi_at_call 158;refine(callsIn_wide.2 (v1l _ _ _ _)).mono ?_;rintro e w2 ⟨rfl,rfl⟩))
 have hb0:Below w.heap.size w w1:=hW0.trans (hb1.mono hW0.size);have hsz1:w.heap.size+4<=w1.heap.size:=by have:=hb1.size;simp at this;omega
 have hT:∀X,Below w1.heap.size w1 X->X.cell? ⟨w.heap.size,0,none⟩=some v0/\X.cell? ⟨w.heap.size,1,none⟩=some v1/\X.cell? ⟨w.heap.size,2,none⟩=some v2/\X.cell? ⟨w.heap.size,3,none⟩=some v3/\X.cell? ⟨w.heap.size,4,none⟩=some v4:=λX hX=>by
  have h1:X.heap[w.heap.size]? = some (.cells #[v0,v1,v2,v3,v4] 39):=by
   rw[hX.block _ (by omega),hb1.block _ (by simp<;>omega),Below.heap_alloc _ _ _ (by simp<;>omega),Below.heap_alloc _ _ _ (by simp<;>omega),Below.heap_alloc _ _ _ (by simp),heap_alloc_new]
  exact⟨by rw[qh h1];rfl,by rw[qh h1];rfl,by rw[qh h1];rfl,by rw[qh h1];rfl,by rw[qh h1];rfl⟩
 have hR:∀X,Below w1.heap.size w1 X->Boxed X (w.heap.size+1) 9 (.string ⟨#[]⟩)/\Boxed X (w.heap.size+1+1) 9 (.string ⟨#[]⟩)/\Boxed X (w.heap.size+1+1+1) 44 (.int .i64 0):=λX hX=>by
  refine⟨?_,?_,?_⟩
  . show X.heap[_]? = _
    rw[hX.block _ (by omega),hb1.block _ (by simp<;>omega),Below.heap_alloc _ _ _ (by simp<;>omega),Below.heap_alloc _ _ _ (by simp)];have:=heap_alloc_new (w.alloc (.cells #[v0,v1,v2,v3,v4] 39)) (.cells #[.string ⟨#[]⟩] 9)
    rwa[World.size_alloc]at this
  . show X.heap[_]? = _
    rw[hX.block _ (by omega),hb1.block _ (by simp<;>omega),Below.heap_alloc _ _ _ (by simp)];have:=heap_alloc_new ((w.alloc (.cells #[v0,v1,v2,v3,v4] 39)).alloc (.cells #[.string ⟨#[]⟩] 9)) (.cells #[.string ⟨#[]⟩] 9)
    rwa[World.size_alloc,World.size_alloc]at this
  . show X.heap[_]? = _
    rw[hX.block _ (by omega),hb1.block _ (by simp)];have:=heap_alloc_new (((w.alloc (.cells #[v0,v1,v2,v3,v4] 39)).alloc (.cells #[.string ⟨#[]⟩] 9)).alloc (.cells #[.string ⟨#[]⟩] 9)) (.cells #[.int .i64 0] 44)
    rwa[World.size_alloc,World.size_alloc,World.size_alloc]at this
 have hg1:GI w1 m0:=zi hg hb0;have hW2:Below w1.heap.size w1 (((w1.alloc (.cells #[.slice none 0 0] 89)).alloc (.cells #[.slice none 0 0] 89)).alloc (.cells #[.slice la ls.length lc] 89)) :=
  (((Below.refl _ w1).alloc (le_refl _) _).alloc (by simp) _).alloc (by simp<;>omega) _
 have hszN:(((w1.alloc (.cells #[.slice none 0 0] 89)).alloc (.cells #[.slice none 0 0] 89)).alloc (.cells #[.slice la ls.length lc] 89)).heap.size=w1.heap.size+3:=by simp
 have hbv:Boxed (((w1.alloc (.cells #[.slice none 0 0] 89)).alloc (.cells #[.slice none 0 0] 89)).alloc (.cells #[.slice la ls.length lc] 89)) (w1.heap.size+1+1) 89 (.slice la ls.length lc):=by
  have:=Boxed.new ((w1.alloc (.cells #[.slice none 0 0] 89)).alloc (.cells #[.slice none 0 0] 89)) 89 (.slice la ls.length lc)
  rwa[World.size_alloc,World.size_alloc]at this
 have hb9:Boxed (((w1.alloc (.cells #[.slice none 0 0] 89)).alloc (.cells #[.slice none 0 0] 89)).alloc (.cells #[.slice la ls.length lc] 89)) w1.heap.size 89 (.slice none 0 0) :=
  ((Boxed.new w1 89 (.slice none 0 0)).alloc _).alloc _
 have hb10:Boxed (((w1.alloc (.cells #[.slice none 0 0] 89)).alloc (.cells #[.slice none 0 0] 89)).alloc (.cells #[.slice la ls.length lc] 89)) (w1.heap.size+1) 89 (.slice none 0 0):=by
  have:=(Boxed.new (w1.alloc (.cells #[.slice none 0 0] 89)) 89 (.slice none 0 0)).alloc (.cells #[.slice la ls.length lc] 89)
  rwa[World.size_alloc]at this
 have hrow2:(((w1.alloc (.cells #[.slice none 0 0] 89)).alloc (.cells #[.slice none 0 0] 89)).alloc (.cells #[.slice la ls.length lc] 89)).ownsRow 0 9 1 (.slice la ls.length lc) ls.length (ls.map encS):=by
  have:=row_zero hrow;exact((this.alloc _).alloc _).alloc _
 have hown:∀b,(Value.slice la ls.length lc).ownBlock=some b->b<w1.heap.size:=λb hb=>((y8e hrow) b hb).2.1;clear hlab;refine xb (F:=Fence.wide) (n:=3) rfl (by omega) (gf:=191) (lb := #[.pointer (some ⟨w1.heap.size+1+1,0,none⟩)]) rfl trivial (enters_of func191 (by kernel_rfl) rfl)
  (K:=λb=>b=w1.heap.size+1+1\/(Value.slice la ls.length lc).ownBlock=some b)
  (y8r 2 (by omega) (w1.heap.size+1+1) 0 _ ls _ _ hbv hrow2 (by omega) (.inl rfl) (λb hb => .inr hb) (w1.heap.size+1+1))
  (by rintro b (rfl|hb)
      . rw[hszN];omega
      . have:=hown b hb;rw[hszN];omega) (by rw[hszN];omega) (λ_=>rfl)
  (λpre W=>∃ps qs rest,ls=pre++rest/\q3f A U rest ps qs=some res/\ps.length=pre.length/\qs.length=pre.length/\Two (w1.heap.size+3) w1.heap.size (w1.heap.size+1) W ps qs/\Below w1.heap.size w1 W)
  (λc pre W=>c = .ret/\res.1≠0/\Boxed W (w.heap.size+1) 9 (.string ⟨#[]⟩)/\Boxed W (w.heap.size+1+1) 9 (.string ⟨#[]⟩)/\Boxed W (w.heap.size+1+1+1) 44 (.int .i64 res.1)/\Below w.heap.size w W)
  (λpre X Y hs ho=>by
   obtain⟨ps,qs,rest,h1,h2,h3,h4,h5,h6⟩:=hs;exact⟨ps,qs,rest,h1,h2,h3,h4,y4v h5 (by omega) (by omega) (by omega) ho,q2m h6 (le_refl _) (by rw[hszN];omega) (by omega) ho⟩)
  (λc pre X Y hs ho=>by
   obtain⟨h1,h2,h3,h4,h5,h6⟩:=hs;exact⟨h1,h2,xy h3 (by omega) ho,xy h4 (by omega) ho,xy h5 (by omega) ho,q2m h6 (le_refl _) (by rw[hszN];omega) (by omega) ho⟩)
  ⟨[],[],ls,rfl,hres,rfl,rfl,⟨_,_,_,_,hb9,hb10,World.ownsRow_nil _ _ _ _,World.ownsRow_nil _ _ _ _,λb hb=>(by cases hb),λb hb=>(by cases hb)⟩,hW2⟩
  (λx=>{ tmps := #[.agg #[v0,v1,v2,v3,v4],.string ⟨⟨s⟩⟩,.pointer (some ⟨w.heap.size,0,none⟩),undef,.pointer (some ⟨w.heap.size+1,0,none⟩),.pointer (some ⟨w.heap.size+1+1,0,none⟩),.pointer (some ⟨w.heap.size+1+1+1,0,none⟩),.slice la ls.length lc,.int .i64 0,
   .pointer (some ⟨w1.heap.size,0,none⟩),.pointer (some ⟨w1.heap.size+1,0,none⟩),.string ⟨⟨x⟩⟩,undef,undef,undef,undef,undef,.tuple #[.slice la ls.length lc,.int .i64 0],.agg #[v0,v1,v2,v3,v4],.string ⟨⟨s⟩⟩,.tuple #[.slice la ls.length lc,.int .i64 0],.slice la ls.length lc,.int .i64 0,.int .i64 0,.bool false,undef,.slice la ls.length lc,
   .func (.func 191) #[] #[.pointer (some ⟨w1.heap.size+1+1,0,none⟩)],.string ⟨⟨x⟩⟩,undef,undef,undef,undef,undef,undef,undef,undef,undef,undef,undef,undef,undef,undef,undef,undef,undef,undef,undef,undef,undef,undef,undef,undef,undef,undef,undef,undef,undef,undef,undef],defers:=[] }) ?assign ?body ?done ?stop
 case assign =>
  intro l x W K hK
  gi_wp2
  exact hK
 case body =>
  rintro l pre x W hsz hpre ⟨ps,qs,rest,hls,hbf,hlp,hlq,hTwo,hbel⟩;obtain⟨rest',rfl⟩:∃r,rest=x::r:=by
   obtain⟨t,ht⟩:=hpre;rw[hls,List.append_assoc]at ht;have:=List.append_cancel_left ht;exact⟨t,by simpa using this.symm⟩
  simp only[q3f]at hbf;obtain⟨⟨a1,a2⟩,ha,hbf2⟩:=bind_eq_some_iff.1 hbf;simp only at hbf2;rw[hszN]at hsz;have hWw:Below w.heap.size w W:=hb0.trans (hbel.mono (by omega));have hcA:=hA x _ ha W hWw;obtain⟨t0,t1,t2,t3,t4⟩:=hT W hbel;by_cases hz:a2=0
  . subst hz
    have hbf3:((U x).bind λu=>q3f A U rest' (ps++[a1]) (qs++[u.1]))=some res:=hbf2;obtain⟨⟨u1,u2⟩,hu,hbf4⟩:=bind_eq_some_iff.1 hbf3;simp only at hbf4;have hcU:=hU x _ hu
    gi_wp2_with (first
     | (refine⟨trivial,?_⟩;gi_at_call 159;refine(CallsIn.inRound l (callsIn_wide.2 hcA)).mono ?_;rintro e W3 ⟨rfl,hb3⟩;have hbel3:Below w1.heap.size w1 W3:=hbel.trans (hb3.mono (by omega));obtain⟨t5,t6,t7,t8,t9⟩:=hT W3 hbel3)
     | (refine⟨trivial,?_⟩;gi_at_call 160;refine(CallsIn.inRound l (callsIn_wide.2 (hcU W3 (hb0.trans (hbel3.mono (by omega)))))).mono ?_;rintro e W4 ⟨rfl,hb4⟩))
    have hb34:Below W.heap.size W W4:=hb3.trans (hb4.mono hb3.size);have hTwo4:Two (w1.heap.size+3) w1.heap.size (w1.heap.size+1) W4 ps qs:=y4v (N:=0) (Bs:=w1.heap.size+1+1) hTwo (by omega) (by omega) (by omega) (Oth.of_below hb34).toR;have hll2:pre.length<=32:=by have:=hpre.length_le;simp at this;omega
    refine wpIn_mono (c:=Code.region 11 z4r true) (k1h l _ ps qs a1 u1 (by omega) (by omega) _ w1.heap.size (w1.heap.size+3) w1.heap.size (w1.heap.size+1) (by omega) W4 (zi hg1 (hbel3.trans (hb4.mono (by have:=hbel3.size;omega)))) (λb hb=>(hg1.b b hb).1) (by omega) (le_refl _) (by omega) hTwo4 rfl (by have:=hb34.size;omega) rfl rfl rfl rfl) ?_;rintro e a' w' ⟨rfl,hTwo',o1,o2,o3,o4,o5,o6⟩;refine⟨⟨le_trans hb34.size o4,λk o _ hk hc=>o6 k o ((hb34.block k (lt_of_some hk)).trans hk) hc⟩,?_,ps++[a1],qs++[u1],rest',by simp[hls],hbf4,by simp;omega,by simp;omega,hTwo',?_⟩
    . rintro b (rfl|hb)
      . rw[o5 _ (by omega) (by omega) (by omega),hb34.block _ (by omega)]
      . have:=hown b hb
        rw[o5 _ (by omega) (by omega) (by omega),hb34.block _ (by omega)]
    . exact(hbel.trans (hb34.mono (by omega))).trans ⟨o1,o2,o3,o4,λk hk=>o5 k (by omega) (by omega) (by omega)⟩
  . have hbf3:some (a2,([]:List (List UInt8)),([]:List (List UInt8)))=some res:=by
     rw[<-hbf2,show (a2 != 0)=true by simpa using hz];rfl
    cases hbf3
    gi_wp2_with (refine⟨trivial,?_⟩;gi_at_call 159;refine(CallsIn.inRound l (callsIn_wide.2 hcA)).mono ?_;rintro e W3 ⟨rfl,hb3⟩;have hbel3:Below w1.heap.size w1 W3:=hbel.trans (hb3.mono (by omega));obtain⟨q1,q2,q3⟩:=hR W3 hbel3;have q4:=q1.cell;have q5:=q1.frozen;have q6:=q2.cell;have q7:=q2.frozen;have q8:=q3.cell;have q9:=q3.frozen)
    refine⟨KeepsFrom.trans ⟨hb3.size,λk o _ h _=>(hb3.block k (lt_of_some h)).trans h⟩ ((((KeepsOthers.setCell _ _ _).trans (KeepsOthers.setCell _ _ _)).trans (KeepsOthers.setCell _ _ _)).from _),rfl,?_,?_,?_,?_⟩
    . exact zk (zk (Boxed.set _ q1) (by omega)) (by omega)
    . exact zk (Boxed.set _ (zk q2 (by omega))) (by omega)
    . exact Boxed.set _ (zk (zk q3 (by omega)) (by omega))
    . exact(((hb0.trans (hbel3.mono (by omega))).setCell (p:=⟨w.heap.size+1,0,none⟩) (show w.heap.size<=w.heap.size+1 by omega) _).setCell (p:=⟨w.heap.size+1+1,0,none⟩) (show w.heap.size<=w.heap.size+1+1 by omega) _).setCell (p:=⟨w.heap.size+1+1+1,0,none⟩) (show w.heap.size<=w.heap.size+1+1+1 by omega) _
 case done =>
  rintro D W hD ⟨ps,qs,rest,hls,hbf,hlp,hlq,hTwo,hbel⟩ hK;have hrest:rest=[]:=by
   have:=congrArg List.length hls;simp at this;exact this
  subst hrest;have hres':(0,ps,qs)=res:=Option.some.inj hbf;subst hres';have ho:((q7r (ps,[46],())).bind λja=>bif decide (253<ja.1.length)then some (([]:List UInt8),([]:List UInt8),(5:Int))else(q7r (qs,[46],())).bind λju=>some (ja.1,ju.1,0))=some (oa,ou,oc):=hout;obtain⟨⟨ja,ju0⟩,hja,ho2⟩:=bind_eq_some_iff.1 ho;obtain⟨va,vu,ta,tu,bx9,bx10,rw9,rw10,_,_⟩:=hTwo.ex;have hcj:=z4l rw9 hja (zi hg1 hbel);have c9:=bx9.cell;have c10:=bx10.cell;have hDW:D<W.heap.size:=lt_of_some hK;rw[hszN]at hD;have hs8:w1.heap.size<=W.heap.size:=hbel.size;clear hls hbf hout ho hres hll hlp hlq;by_cases w0b:253<ja.length
  . have ho3:some (([]:List UInt8),([]:List UInt8),(5:Int))=some (oa,ou,oc):=by rw[<-ho2];simp only;rw[decide_eq_true w0b];rfl
    cases ho3
    gi_wp2_with (refine⟨trivial,?_⟩;gi_at_call 73;refine(callsIn_wide.2 hcj).mono ?_;rintro e W5 ⟨rfl,hb5⟩;have hbel5:Below w1.heap.size w1 W5:=hbel.trans (hb5.mono (by have:=hbel.size;omega));obtain⟨q1,q2,q3⟩:=hR W5 hbel5;have q4:=q1.cell;have q5:=q1.frozen;have q6:=q2.cell;have q7:=q2.frozen;have q8:=q3.cell;have q9:=q3.frozen)
    have hKX:((((W5.setCell ⟨w.heap.size+1,0,none⟩ (.string ⟨#[]⟩)).setCell ⟨w.heap.size+1+1,0,none⟩ (.string ⟨#[]⟩)).setCell ⟨w.heap.size+1+1+1,0,none⟩ (.int .i64 5))).heap[D]? = some (.deferred (some [])):=by
     rw[Below.heap_setCell _ _ _ _ (show D≠w.heap.size+1+1+1 by omega),Below.heap_setCell _ _ _ _ (show D≠w.heap.size+1+1 by omega),Below.heap_setCell _ _ _ _ (show D≠w.heap.size+1 by omega)];exact(hb5.block D hDW).trans hK
    refine⟨by simp,.inl ⟨_,_,rfl,run_takeDeferred hKX,?_⟩⟩;have e1:=zk (b':=w.heap.size+1+1+1) (u:=(.int .i64 5)) (zk (b':=w.heap.size+1+1) (u:=(.string ⟨#[]⟩)) (Boxed.set (.string ⟨#[]⟩) q1) (by omega)) (by omega);have e2:=zk (b':=w.heap.size+1+1+1) (u:=(.int .i64 5)) (Boxed.set (.string ⟨#[]⟩) (zk (b':=w.heap.size+1) (u:=(.string ⟨#[]⟩)) q2 (by omega))) (by omega);have e3:=Boxed.set (.int .i64 5) (zk (b':=w.heap.size+1+1) (u:=(.string ⟨#[]⟩)) (zk (b':=w.heap.size+1) (u:=(.string ⟨#[]⟩)) q3 (by omega)) (by omega));have hc1:=cell_kept e1.cell (grownBy_putObj' _ D (.deferred none)) (λr e=>by cases e;exact⟨_,hKX,rfl⟩);have hc2:=cell_kept e2.cell (grownBy_putObj' _ D (.deferred none)) (λr e=>by cases e;exact⟨_,hKX,rfl⟩);have hc3:=cell_kept e3.cell (grownBy_putObj' _ D (.deferred none)) (λr e=>by cases e;exact⟨_,hKX,rfl⟩);have hbX:=(((hb0.trans (hbel5.mono (show w.heap.size<=w1.heap.size by omega))).setCell (p:=⟨w.heap.size+1,0,none⟩) (show w.heap.size<=w.heap.size+1 by omega) (.string ⟨#[]⟩)).setCell (p:=⟨w.heap.size+1+1,0,none⟩) (show w.heap.size<=w.heap.size+1+1 by omega) (.string ⟨#[]⟩)).setCell (p:=⟨w.heap.size+1+1+1,0,none⟩) (show w.heap.size<=w.heap.size+1+1+1 by omega) (.int .i64 5);refine⟨.tuple #[(.string ⟨#[]⟩),(.string ⟨#[]⟩),(.int .i64 5)],?_,rfl,hbX.trans (belowK_b (w:=w) (le_refl _) _ D _ _ (by omega) hKX rfl rfl)⟩;simp[results,f124,go_sem,hc1,hc2,hc3]
  . have ho3:((q7r (qs,[46],())).bind λju=>some (ja,ju.1,(0:Int)))=some (oa,ou,oc):=by rw[<-ho2];simp only;rw[decide_eq_false w0b];rfl
    obtain⟨⟨ju,ju1⟩,hju,ho4⟩:=bind_eq_some_iff.1 ho3;cases ho4
    gi_wp2_with (first
     | (refine⟨trivial,?_⟩;gi_at_call 73;refine(callsIn_wide.2 hcj).mono ?_;clear hcj;rintro e W5 ⟨rfl,hb5⟩;have hbel5:Below w1.heap.size w1 W5:=hbel.trans (hb5.mono (by have:=hbel.size;omega));have c11:W5.cell? ⟨w1.heap.size+1,0,none⟩=some vu:=(hb5.cell (p:=⟨w1.heap.size+1,0,none⟩) bx10.lt).trans c10;have hcj2:=z4l (q1a (N:=0) (Bs:=w1.heap.size+1+1) (by omega) rw10 (Oth.of_below hb5).toR) hju (zi hg1 hbel5))
     | (refine⟨trivial,?_⟩;gi_at_call 73;refine(callsIn_wide.2 hcj2).mono ?_;clear hcj2;rintro e W6 ⟨rfl,hb6⟩;have hbel6:Below w1.heap.size w1 W6:=hbel5.trans (hb6.mono (by have:=hbel5.size;omega));obtain⟨q1,q2,q3⟩:=hR W6 hbel6;have q4:=q1.cell;have q5:=q1.frozen;have q6:=q2.cell;have q7:=q2.frozen;have q8:=q3.cell;have q9:=q3.frozen))
    have hKX:((((W6.setCell ⟨w.heap.size+1,0,none⟩ (.string ⟨⟨oa⟩⟩)).setCell ⟨w.heap.size+1+1,0,none⟩ (.string ⟨⟨ju⟩⟩)).setCell ⟨w.heap.size+1+1+1,0,none⟩ (.int .i64 0))).heap[D]? = some (.deferred (some [])):=by
     rw[Below.heap_setCell _ _ _ _ (show D≠w.heap.size+1+1+1 by omega),Below.heap_setCell _ _ _ _ (show D≠w.heap.size+1+1 by omega),Below.heap_setCell _ _ _ _ (show D≠w.heap.size+1 by omega)];exact(hb6.block D (Nat.lt_of_lt_of_le hDW hb5.size)).trans ((hb5.block D hDW).trans hK)
    refine⟨by simp,.inl ⟨_,_,rfl,run_takeDeferred hKX,?_⟩⟩;have e1:=zk (b':=w.heap.size+1+1+1) (u:=(.int .i64 0)) (zk (b':=w.heap.size+1+1) (u:=(.string ⟨⟨ju⟩⟩)) (Boxed.set (.string ⟨⟨oa⟩⟩) q1) (by omega)) (by omega);have e2:=zk (b':=w.heap.size+1+1+1) (u:=(.int .i64 0)) (Boxed.set (.string ⟨⟨ju⟩⟩) (zk (b':=w.heap.size+1) (u:=(.string ⟨⟨oa⟩⟩)) q2 (by omega))) (by omega);have e3:=Boxed.set (.int .i64 0) (zk (b':=w.heap.size+1+1) (u:=(.string ⟨⟨ju⟩⟩)) (zk (b':=w.heap.size+1) (u:=(.string ⟨⟨oa⟩⟩)) q3 (by omega)) (by omega));have hc1:=cell_kept e1.cell (grownBy_putObj' _ D (.deferred none)) (λr e=>by cases e;exact⟨_,hKX,rfl⟩);have hc2:=cell_kept e2.cell (grownBy_putObj' _ D (.deferred none)) (λr e=>by cases e;exact⟨_,hKX,rfl⟩);have hc3:=cell_kept e3.cell (grownBy_putObj' _ D (.deferred none)) (λr e=>by cases e;exact⟨_,hKX,rfl⟩);have hbX:=(((hb0.trans (hbel6.mono (show w.heap.size<=w1.heap.size by omega))).setCell (p:=⟨w.heap.size+1,0,none⟩) (show w.heap.size<=w.heap.size+1 by omega) (.string ⟨⟨oa⟩⟩)).setCell (p:=⟨w.heap.size+1+1,0,none⟩) (show w.heap.size<=w.heap.size+1+1 by omega) (.string ⟨⟨ju⟩⟩)).setCell (p:=⟨w.heap.size+1+1+1,0,none⟩) (show w.heap.size<=w.heap.size+1+1+1 by omega) (.int .i64 0);refine⟨.tuple #[(.string ⟨⟨oa⟩⟩),(.string ⟨⟨ju⟩⟩),(.int .i64 0)],?_,rfl,hbX.trans (belowK_b (w:=w) (le_refl _) _ D _ _ (by omega) hKX rfl rfl)⟩;simp[results,f124,go_sem,hc1,hc2,hc3]
 case stop =>
  rintro D c pre W hD hpre ⟨rfl,hne,h1,h2,h3,hbel⟩ hK;have ho:some (([]:List UInt8),([]:List UInt8),res.1)=some (oa,ou,oc):=by
   rw[<-hout];unfold y4h;rw[show (res.1 != 0)=true by simpa using hne];rfl
  cases ho
  gi_wp2
  refine⟨by simp,.inl ⟨_,_,rfl,run_takeDeferred hK,?_⟩⟩;have hc1:=cell_kept h1.cell (grownBy_putObj' _ D (.deferred none)) (λr e=>by cases e;exact⟨_,hK,rfl⟩);have hc2:=cell_kept h2.cell (grownBy_putObj' _ D (.deferred none)) (λr e=>by cases e;exact⟨_,hK,rfl⟩);have hc3:=cell_kept h3.cell (grownBy_putObj' _ D (.deferred none)) (λr e=>by cases e;exact⟨_,hK,rfl⟩);rw[hszN]at hD;refine⟨.tuple #[.string ⟨#[]⟩,.string ⟨#[]⟩,.int .i64 res.1],?_,rfl,hbel.trans (belowK_b (w:=w) (le_refl _) W D _ _ (by omega) hK rfl rfl)⟩;simp[results,f124,go_sem,hc1,hc2,hc3]
set_option maxHeartbeats 4000000 in
theorem v5v(v0 v1 v2 v3 v4:Value)(s:List UInt8)(c:Int)(hc:c≠0)(w:World)(hlab:∀W,Below w.heap.size w W->Calls prog 157 #[.agg #[v0,v1,v2,v3,v4],.string ⟨⟨s⟩⟩] W λe w'=>∃v,e = .returned (.tuple #[v,.int .i64 c])/\Below W.heap.size W w') :
 Calls prog 124 #[.agg #[v0,v1,v2,v3,v4],.string ⟨⟨s⟩⟩] w λe w'=>e = .returned (.tuple #[.string ⟨#[]⟩,.string ⟨#[]⟩,.int .i64 c])/\Below w.heap.size w w':=by
 have hW0:Below w.heap.size w ((((w.alloc (.cells #[v0,v1,v2,v3,v4] 39)).alloc (.cells #[.string ⟨#[]⟩] 9)).alloc (.cells #[.string ⟨#[]⟩] 9)).alloc (.cells #[.int .i64 0] 44)) :=
  ((((Below.refl _ w).alloc (le_refl _) _).alloc (by simp) _).alloc (by simp<;>omega) _).alloc (by simp<;>omega) _
 have hR:∀X,Below (w.heap.size+4) ((((w.alloc (.cells #[v0,v1,v2,v3,v4] 39)).alloc (.cells #[.string ⟨#[]⟩] 9)).alloc (.cells #[.string ⟨#[]⟩] 9)).alloc (.cells #[.int .i64 0] 44)) X->Boxed X (w.heap.size+1) 9 (.string ⟨#[]⟩)/\Boxed X (w.heap.size+1+1) 9 (.string ⟨#[]⟩)/\Boxed X (w.heap.size+1+1+1) 44 (.int .i64 0):=λX hX=>by
  refine⟨?_,?_,?_⟩
  . show X.heap[_]? = _
    rw[hX.block _ (by omega),Below.heap_alloc _ _ _ (by simp<;>omega),Below.heap_alloc _ _ _ (by simp)];have:=heap_alloc_new (w.alloc (.cells #[v0,v1,v2,v3,v4] 39)) (.cells #[.string ⟨#[]⟩] 9)
    rwa[World.size_alloc]at this
  . show X.heap[_]? = _
    rw[hX.block _ (by omega),Below.heap_alloc _ _ _ (by simp)];have:=heap_alloc_new ((w.alloc (.cells #[v0,v1,v2,v3,v4] 39)).alloc (.cells #[.string ⟨#[]⟩] 9)) (.cells #[.string ⟨#[]⟩] 9)
    rwa[World.size_alloc,World.size_alloc]at this
  . show X.heap[_]? = _
    rw[hX.block _ (by omega)];have:=heap_alloc_new (((w.alloc (.cells #[v0,v1,v2,v3,v4] 39)).alloc (.cells #[.string ⟨#[]⟩] 9)).alloc (.cells #[.string ⟨#[]⟩] 9)) (.cells #[.int .i64 0] 44)
    rwa[World.size_alloc,World.size_alloc,World.size_alloc]at this
 have hl:=hlab _ hW0;clear hlab
 go_enter func124,ntmps124
 go_wp2_with (go_at_call 157;refine hl.mono ?_;rintro e w1 ⟨lv,rfl,hb1⟩;obtain⟨q1,q2,q3⟩:=hR w1 (hb1.mono (by simp));have q4:=q1.cell;have q5:=q1.frozen;have q6:=q2.cell;have q7:=q2.frozen;have q8:=q3.cell;have q9:=q3.frozen)
 have e1:=zk (b':=w.heap.size+1+1+1) (u:=(.int .i64 c)) (zk (b':=w.heap.size+1+1) (u:=(.string ⟨#[]⟩)) (Boxed.set (.string ⟨#[]⟩) q1) (by omega)) (by omega);have e2:=zk (b':=w.heap.size+1+1+1) (u:=(.int .i64 c)) (Boxed.set (.string ⟨#[]⟩) (zk (b':=w.heap.size+1) (u:=(.string ⟨#[]⟩)) q2 (by omega))) (by omega);have e3:=Boxed.set (.int .i64 c) (zk (b':=w.heap.size+1+1) (u:=(.string ⟨#[]⟩)) (zk (b':=w.heap.size+1) (u:=(.string ⟨#[]⟩)) q3 (by omega)) (by omega));have hc1:=e1.cell;have hc2:=e2.cell;have hc3:=e3.cell;have hbX:=(((hW0.trans (hb1.mono (by simp<;>omega))).setCell (p:=⟨w.heap.size+1,0,none⟩) (show w.heap.size<=w.heap.size+1 by omega) (.string ⟨#[]⟩)).setCell (p:=⟨w.heap.size+1+1,0,none⟩) (show w.heap.size<=w.heap.size+1+1 by omega) (.string ⟨#[]⟩)).setCell (p:=⟨w.heap.size+1+1+1,0,none⟩) (show w.heap.size<=w.heap.size+1+1+1 by omega) (.int .i64 c)
 (try simp only[Exit.inBlock,Exit.then])
 refine bodyPost_ret (by simp[results,results124,go_sem,hc1,hc2,hc3];try rfl) rfl ?_;exact⟨rfl,hbX⟩
theorem x6c{f:FuncId}{fn:Func}{F:k7r}(h:zg prog f ⟨ww,z0d,F⟩)(hf:prog.funcs[f]? = some fn)(hb:fn.body.isSome=true)(hname:(fn.name == "runtime.NumGoroutine")=false){t0 t1 t2}{x r:List UInt8}{c:Int}(hF:F (t0,t1,t2,x,())=some (r,c,())){w:World}{m:Md}(gi:GI w m)(hlt:∀b,m.a b->b<w.heap.size){a:Array Value}(ht:qf w m [] (y8n t0 t1 t2) a.toList) :
 Calls prog f #[.agg a,.string ⟨⟨x⟩⟩] w λe w'=>e = .returned (.tuple #[.string ⟨⟨r⟩⟩,.int .i64 c])/\Below w.heap.size w w':=by
 refine(zg.call0 (v:=(t0,t1,t2,x,())) (y:=(r,c,())) h hf hb hname gi hlt rfl ⟨_,_,rfl,⟨a,rfl,ht⟩,_,_,rfl,rfl,rfl⟩ rfl hF ?_).mono λe w' ⟨rv,h1,h2,ax,l',u,h3,h4⟩ => ?_
 . intro ax l' u h3
   cases jo h3;rfl
 . cases jo h3
   obtain⟨v,r',e1,⟨b,e2,e3⟩,e4⟩:=h4;have e4':r'=[]:=e4;subst e4';cases e1;subst h1 e2;refine⟨?_,h2⟩;obtain⟨v1,q1,f1,rfl,v2,q2,f2,⟨rfl,_⟩,f4⟩:=e3;have f4':q2=[]:=f4;subst f4' f2;cases b;cases f1;rfl
theorem k1x{f:FuncId}{fn:Func}{F:y6d}(h:zg prog f ⟨ww,q4a,F⟩)(hf:prog.funcs[f]? = some fn)(hb:fn.body.isSome=true)(hname:(fn.name == "runtime.NumGoroutine")=false){t0 t1 t2}{x r:List UInt8}{c:Bool}(hF:F (t0,t1,t2,x,())=some (r,c,())){w:World}{m:Md}(gi:GI w m)(hlt:∀b,m.a b->b<w.heap.size){a:Array Value}(ht:qf w m [] (y8n t0 t1 t2) a.toList) :
 Calls prog f #[.agg a,.string ⟨⟨x⟩⟩] w λe w'=>e = .returned (.tuple #[.string ⟨⟨r⟩⟩,.bool c])/\Below w.heap.size w w':=by
 refine(zg.call0 (v:=(t0,t1,t2,x,())) (y:=(r,c,())) h hf hb hname gi hlt rfl ⟨_,_,rfl,⟨a,rfl,ht⟩,_,_,rfl,rfl,rfl⟩ rfl hF ?_).mono λe w' ⟨rv,h1,h2,ax,l',u,h3,h4⟩ => ?_
 . intro ax l' u h3
   cases jo h3;rfl
 . cases jo h3
   obtain⟨v,r',e1,⟨b,e2,e3⟩,e4⟩:=h4;have e4':r'=[]:=e4;subst e4';cases e1;subst h1 e2;refine⟨?_,h2⟩;obtain⟨v1,q1,f1,rfl,v2,q2,f2,rfl,f4⟩:=e3;have f4':q2=[]:=f4;subst f4' f2;cases b;cases f1;rfl
def z5k:k7q:=λ(t0,t1,t2,s,_)=>(j9m (t0,t1,t2,s,())).bind λf=>(q0y f.1 f.2.1).bind λlc=>bif lc.2 != 0 then some ([],[],lc.2,())else bif decide (lc.1.length<=32)then(q3f (λx=>(z5n (t0,t1,t2,x,())).map λr=>(r.1,r.2.1)) (λx=>(y5c (t0,t1,t2,x,())).map λr=>(r.1,r.2.1)) lc.1 [] []).bind λres=>(y4h res).map λo=>(o.1,o.2.1,o.2.2,())else none
theorem b5t:zg prog 124 (f6g z5k):=by
 refine v0q func124 (by kernel_rfl) (by kernel_rfl) (λ_=>rfl) (λ_=>rfl) ?_;rintro⟨t0,t1,t2,s,u⟩ y hy w m args gi hn hlt hargs;obtain⟨va,r1,e1,⟨a,rfl,ht⟩,vs,r2,e2,e3,e4⟩:=hargs;have e4':r2=[]:=e4;have e3':vs = .string ⟨⟨s⟩⟩:=e3;subst e4' e3' e2;have ha:args = #[.agg a,.string ⟨⟨s⟩⟩]:=by cases args;simpa using e1
 subst ha;have ht0:qf w m [] (y8n t0 t1 t2) a.toList:=ht;have hst:∀W,Below w.heap.size w W->Stp w m W m:=λW hb=>zv hb λb hb=>(hn b hb).elim;have htW:∀W,Below w.heap.size w W->qf W m [] (y8n t0 t1 t2) a.toList:=λW hb=>qf.mono (hst W hb) (λ_ _ h=>h) _ _ ht0;have hltW:∀W,Below w.heap.size w W->∀b,m.a b->b<W.heap.size:=λW hb b h=>Nat.lt_of_lt_of_le (hlt b h) hb.size;have g0:GI w m0:=⟨gi.i,λb hb=>⟨(gi.b b hb).1,λh=>h⟩⟩
 obtain⟨v0,v1,v2,v3,v4,rfl⟩:∃v0 v1 v2 v3 v4,a = #[v0,v1,v2,v3,v4]:=by
  obtain⟨w0,q0,f0,_,w1,q1,f1,_,w2,q2,f2,_,w3,q3,f3,_,w4,q4,f4,_,f5⟩:=ht0;have f5':q4=[]:=f5;subst f5' f4 f3 f2 f1;exact⟨w0,w1,w2,w3,w4,by cases a;simpa using f0⟩
 have hy1:((j9m (t0,t1,t2,s,())).bind λf=>(q0y f.1 f.2.1).bind λlc =>
  bif lc.2 != 0 then some ([],[],lc.2,())else
  bif decide (lc.1.length<=32)then
   (q3f (λx=>(z5n (t0,t1,t2,x,())).map λr=>(r.1,r.2.1)) (λx=>(y5c (t0,t1,t2,x,())).map λr=>(r.1,r.2.1)) lc.1 [] []).bind λres=>(y4h res).map λo=>(o.1,o.2.1,o.2.2,())
  else none)=some y:=hy
 obtain⟨⟨f,ok,u0⟩,hf,hy2⟩:=bind_eq_some_iff.1 hy1;obtain⟨⟨ls,c⟩,hls,hy3⟩:=bind_eq_some_iff.1 hy2;simp only at hls hy3;have hfold:∀W,Below w.heap.size w W->Calls prog 151 #[.agg #[v0,v1,v2,v3,v4],.string ⟨⟨s⟩⟩] W λe W'=>e = .returned (.tuple #[.string ⟨⟨f⟩⟩,.bool ok])/\Below W.heap.size W W' :=
  λW hb=>k1x g4t func151 (by kernel_rfl) (by kernel_rfl) hf (gi.mono (hst W hb)) (hltW W hb) (htW W hb)
 have hlab:∀W,Below w.heap.size w W->Calls prog 157 #[.agg #[v0,v1,v2,v3,v4],.string ⟨⟨s⟩⟩] W λe w'=>∃v,e = .returned (.tuple #[v,.int .i64 c])/\Below W.heap.size W w'/\w'.ownsRow W.heap.size 9 1 v ls.length (ls.map encS) :=
  λW hb=>y3i v0 v1 v2 v3 v4 s f ok ls c W (zi g0 hb) hls λW2 hb2=>hfold W2 (hb.trans (hb2.mono hb.size))
 suffices hmain:∃oa ou oc,y=(oa,ou,oc,())/\Calls prog 124 #[.agg #[v0,v1,v2,v3,v4],.string ⟨⟨s⟩⟩] w λe w'=>e = .returned (.tuple #[.string ⟨⟨oa⟩⟩,.string ⟨⟨ou⟩⟩,.int .i64 oc])/\Below w.heap.size w w' by
  obtain⟨oa,ou,oc,rfl,hc⟩:=hmain;refine hc.mono λe w' ⟨k1,k2⟩=>⟨_,k1,k2,.ret,[.tuple 3,.str,.str,.int .i64],(oa,ou,oc,()),q0d [.tuple 3,.str,.str,.int .i64] (oa,ou,oc,()),rfl,rfl,?_⟩
  exact⟨_,[],rfl,⟨_,rfl,_,_,rfl,rfl,_,_,rfl,rfl,_,_,rfl,⟨rfl,λh=>(by cases h)⟩,rfl⟩,rfl⟩
 by_cases hc:c=0
 . subst hc
   have hy4:(bif decide (ls.length<=32)then
    (q3f (λx=>(z5n (t0,t1,t2,x,())).map λr=>(r.1,r.2.1)) (λx=>(y5c (t0,t1,t2,x,())).map λr=>(r.1,r.2.1)) ls [] []).bind λres=>(y4h res).map λo=>(o.1,o.2.1,o.2.2,())
    else none)=some y:=hy3
   rcases je hy4 with⟨h32,hy5⟩|⟨_,hy5⟩
   case inr=>cases hy5
   obtain⟨res,hres,hy6⟩:=bind_eq_some_iff.1 hy5;obtain⟨⟨oa,ou,oc⟩,hout,hy7⟩:=map_eq_some_iff.1 hy6;refine⟨oa,ou,oc,hy7.symm,?_⟩;refine v0d v0 v1 v2 v3 v4 s ls _ _ res w g0 (of_decide_eq_true h32) hres oa ou oc hout (λW hb=>hlab W hb) ?_ ?_
   . intro x r hr W hb
     obtain⟨⟨r1,r2,r3⟩,hq,rfl⟩:=map_eq_some_iff.1 hr;exact x6c b6d func159 (by kernel_rfl) (by kernel_rfl) hq (gi.mono (hst W hb)) (hltW W hb) (htW W hb)
   . intro x r hr W hb
     obtain⟨⟨r1,r2,r3⟩,hq,rfl⟩:=map_eq_some_iff.1 hr;exact x6c b6e func160 (by kernel_rfl) (by kernel_rfl) hq (gi.mono (hst W hb)) (hltW W hb) (htW W hb)
 . rcases je hy3 with⟨_,hy4⟩|⟨h0,_⟩
   case inr=>exact(hc (by simpa using h0)).elim
   cases hy4;exact⟨[],[],c,rfl,v5v v0 v1 v2 v3 v4 s c hc w λW hb=>(hlab W hb).mono λe w' ⟨v,k1,k2,_⟩=>⟨v,k1,k2⟩⟩
end Go.Proofs.YtiacnhhmkdkpmaaGreatDoorC.W
namespace Go.Proofs.YtiacnhhmkdkpmaaGreatDoorC.W
open Go Go.Ae
abbrev q8k:=qa×Int×Unit->Option (Int×Unit)
def k2l(f:q8k):FEnt:=⟨z2u,jd,f⟩
def d1c(f162:y1k):=lk [(162,g6b f162)]
def f9y(f162:y1k):q8k:=λ(x0,x1,_)=>(f162 (x0,x1,())).bind λv=>some (v.1,())
def q3k:q8k:=f9y q7z
theorem k0d:FO 127 (k2l q3k):=kb z2u jd d1c f9y q7z (kc g4v kn) func127
abbrev j4z:=Int×Bool×Unit->Option (Int×Bool×Unit)
def v3o(f:j4z):LEnt:=⟨x2x,x3u,f⟩
abbrev z1a:=Int×Bool×Unit->Option (Int×Bool×Unit)
def v3p(f:z1a):LEnt:=⟨x2x,x3u,f⟩
abbrev T90:=Int×Unit->Option (Bool×Unit)
def E90(f:T90):FEnt:=⟨j6o,qv,f⟩
def K90(f127:q8k):=lk [(127,k2l f127)]
theorem v9a:zh prog (K90 q3k):=(kc k0d kn)
def v4k(f127:q8k):j4z:=λ(x0,x1,_)=>bif x1 then some (x0,true,())else bif decide (x0>=48)then bif decide (x0<=57)then some (x0,true,())else some (x0,decide (x0>=128),())else some (x0,decide (x0>=128),())
def y5o:j4z:=v4k q3k
theorem f3d:zc 0 (qd (code f90) [1,0,0,0,1,1,1]) (v3o y5o):=zc1 x2x x3u K90 v4k q3k v9a
def g9e(f90_c0:j4z):Ann:=(.cond .nil (.cut .nil (v3o f90_c0)))
def v4l(f127:q8k)(f90_c0:j4z):z1a:=λ(x0,x1,_)=>bif x1 then some (x0,true,())else bif decide (x0>=65)then(f90_c0 (x0,decide (x0<=90),())).bind λv=>some (v.1,v.2.1,())else(f90_c0 (x0,false,())).bind λv=>some (v.1,v.2.1,())
theorem f2j(f127:q8k)(f90_c0:j4z):AqC (K90 f127) 0 (qd (code f90) [1,0,0,0,1]) (g9e f90_c0) x2x x3u (v4l f127 f90_c0):=λv=>by kernel_rfl
def y5p:z1a:=v4l q3k y5o
theorem f3e:zc 0 (qd (code f90) [1,0,0,0,1]) (v3p y5p) :=
 frd v9a (And.intro f3d trivial) (f2j q3k y5o)
def N90(f90_c1:z1a):Ann:=(.seq .nil (.seq (.blk (.seq (.cut .nil (v3p f90_c1)) .nil)) .nil))
def F90(f127:q8k)(f90_c1:z1a):T90:=λ(x0,_)=>bif decide (x0>=97)then(f90_c1 (x0,decide (x0<=122),())).bind λv=>bif v.2.1 then some (true,())else(f127 ([33,35,36,37,38,39,42,43,45,47,61,63,94,95,96,123,124,125,126],v.1,())).bind λv=>some (decide (v.1>=0),())else(f90_c1 (x0,false,())).bind λv=>bif v.2.1 then some (true,())else(f127 ([33,35,36,37,38,39,42,43,45,47,61,63,94,95,96,123,124,125,126],v.1,())).bind λv=>some (decide (v.1>=0),())
def C90:T90:=F90 q3k y5p
theorem f4d:FO 90 (E90 C90):=ke j6o qv K90 N90 F90 q3k y5p v9a func90 (And.intro f3e trivial)
abbrev q5x:=Int×qa×Int×Int×Int×Unit->Option (Int×qa×Int×Int×Int×Unit)
def y9c(f:q5x):LEnt:=⟨x2y,g1l,f⟩
abbrev j1c:=Int×qa×Int×Int×Int×Unit->Option (Int×qa×Int×Int×Int×Unit)
def y9d(f:j1c):LEnt:=⟨x2y,g1m,f⟩
abbrev y1f:=qa×Int×Int×Int×Unit->Option (qa×qa×Int×Int×Int×Unit)
def f6k(f:y1f):FEnt:=⟨q3c,q7n,f⟩
def k5m(f90:T90):=lk [(90,E90 f90)]
theorem y7b:zh prog (k5m C90):=(kc f4d kn)
def j0n(f90:T90):q5x:=λ(x0,x1,x2,x3,x4,_)=>some (x0,x1,IntKind.i64.wrap (x2+1),x3,x4,())
def q2a:q5x:=j0n C90
theorem w1d:zc 1 (qd (code f136) [1,1,0,0,0,1]) (y9c q2a):=zc1 x2y g1l k5m j0n C90 y7b
def k6v(f136_c0:q5x):Ann:=(.cut .nil (y9c f136_c0))
def q5i(f90:T90)(f136_c0:q5x):ym (Int×qa×Int×Int×Int×Unit) (Int×qa×Int×Int×Int×Unit):=λ(x0,x1,x2,x3,x4,_)=>bif decide (x2<(↑x1.length:Int))then bif decide (0<=x2)&&decide (x2<(↑x1.length:Int))then(f90 ((↑(x1.getD x2.toNat 0).toNat:Int),())).bind λv=>bif v.1 then(f136_c0 (x0,x1,x2,x3,x4,())).bind λv=>some (Sum.inl (v.1,v.2.1,v.2.2.1,v.2.2.2.1,v.2.2.2.2.1,()))else some (Sum.inr (x0,x1,x2,x3,x4,()))else none else some (Sum.inr (x0,x1,x2,x3,x4,()))
theorem k9d(f90:T90)(f136_c0:q5x):AqL (k5m f90) 1 (qd (code f136) [1,1,0,0,0]) (k6v f136_c0) x2y g1m (q5i f90 f136_c0):=λv=>by kernel_rfl
def q9f:j1c:=qc (q5i C90 q2a) qz
theorem w1e:jg 1 (qd (code f136) [1,1,0,0,0]) (y9d q9f) :=
 frm y7b (And.intro w1d trivial) (k9d C90 q2a)
def d3u(f136_l0:j1c):Ann:=(.seq .nil (.seq .nil (.seq (.blk (.loop (y9d f136_l0))) .nil)))
def k2y(f90:T90)(f136_l0:j1c):y1f:=λ(x0,x1,x2,x3,_)=>(f136_l0 (x1,x0,x1,x2,x3,())).bind λv=>bif decide (0<=v.2.2.1)&&decide (v.2.2.1<=(↑(List.length v.2.1):Int))then bif decide (0<=v.1)&&decide (v.1<=v.2.2.1)then some (List.drop (Int.toNat v.1) (List.take (Int.toNat v.2.2.1) v.2.1),v.2.1,v.2.2.1,v.2.2.2.1,v.2.2.2.2.1,())else none else none
theorem d9e(f90:T90)(f136_l0:j1c):zz (k5m f90) 1 f136 (d3u f136_l0) q3c q7n (k2y f90 f136_l0):=λv=>by kernel_rfl
def y0j:y1f:=k2y C90 q9f
theorem b5w:FO 136 (f6k y0j) :=
 qo y7b func136 (And.intro w1e trivial) (d9e C90 q9f)
abbrev q4b:=Int×Unit->Option (Bool×Unit)
def k2p(f:q4b):FEnt:=⟨j6o,qv,f⟩
def d1p(f127:q8k):=lk [(127,k2l f127)]
def b0b(f127:q8k):q4b:=λ(x0,_)=>(f127 ([32,9],x0,())).bind λv=>some (decide (v.1>=0),())
def xx:q4b:=b0b q3k
theorem k0h:FO 174 (k2p xx):=kb j6o qv d1p b0b q3k (kc k0d kn) func174
abbrev q1g:=Int×Unit->Option (Bool×Unit)
def k2o(f:q1g):FEnt:=⟨j6o,qv,f⟩
def d1o(f174:q4b):=lk [(174,k2p f174)]
def b0a(f174:q4b):q1g:=λ(x0,_)=>(f174 (x0,())).bind λv=>bif v.1 then some (true,())else bif decide (x0>32)then some (bif x0==127 then false else true,())else some (false,())
def yn:q1g:=b0a xx
theorem k0g:FO 173 (k2o yn):=kb j6o qv d1o b0a xx (kc k0h kn) func173
abbrev vy:=Int×Int×qa×Int×Int×Int×Unit->Option (qa×Int×Int×Int×Unit)
def v2l(f:vy):FEnt:=⟨w7y,g1n,f⟩
def f9z:vy:=λ(x0,x1,x2,x3,x4,x5,_)=>some (x2,x3,x0,x1,())
theorem d9j:zz yu 1 f141 .nil w7y g1n (f9z):=λv=>by kernel_rfl
def ya:vy:=f9z
theorem x5q:FO 141 (v2l ya) :=
 q0 kn func141 (d9j)
abbrev q5y:=Int×qa×Int×Int×Int×qa×Unit->Option ((qa×qa×Int×Int×Int×Unit)⊕(Int×qa×Int×Int×Int×qa×Unit))
def y9e(f:q5y):LEnt:=⟨x2z,g1o,f⟩
abbrev j1d:=Int×qa×Int×Int×Int×qa×Unit->Option ((qa×Int×Int×Int×Unit)⊕(qa×qa×Int×Int×Int×Unit))
def y9f(f:j1d):LEnt:=⟨x2z,g1p,f⟩
abbrev y1g:=qa×Int×Int×Int×Unit->Option (qa×qa×Int×Int×Int×Unit)
def f6l(f:y1g):FEnt:=⟨q3c,q7n,f⟩
def k5n(f141:vy)(f173:q1g):=lk [(141,v2l f141),(173,k2o f173)]
theorem y7c:zh prog (k5n ya yn):=(kc x5q (kc k0g kn))
def z6n(f141:vy)(f173:q1g):q5y:=λ(x0,x1,x2,x3,x4,x5,_)=>bif decide (0<=x0)&&decide (x0<(↑x1.length:Int))then(f173 ((↑(x1.getD x0.toNat 0).toNat:Int),())).bind λv=>bif !v.1 then(f141 (x0,4,x1,x2,x3,x4,())).bind λv=>some (Sum.inl ([],v.1,v.2.1,v.2.2.1,v.2.2.2.1,()))else bif decide (0<=x0)&&decide (x0<(↑x1.length:Int))then bif decide (x5.length+[UInt8.ofNat (↑(x1.getD x0.toNat 0).toNat:Int).toNat].length<=140737488355328/1)then some (Sum.inr (x0,x1,x2,x3,x4,x5++[UInt8.ofNat (↑(x1.getD x0.toNat 0).toNat:Int).toNat],()))else none else none else none
def q4x:q5y:=z6n ya yn
theorem w1f:zc 1 (qd (code f137) [1,1,0,1,0,0,1,0,0,1,1,1]) (y9e q4x):=zc2 x2z g1o k5n z6n ya yn y7c
def k6w(f137_c0:q5y):Ann:=(.seq .nil (.seq (.blk (.seq .nil (.seq .nil (.cut .nil (y9e f137_c0))))) .nil))
def vp(f141:vy)(f173:q1g)(f137_c0:q5y):ym (Int×qa×Int×Int×Int×qa×Unit) ((qa×Int×Int×Int×Unit)⊕(qa×qa×Int×Int×Int×Unit)):=λ(x0,x1,x2,x3,x4,x5,_)=>bif decide (x0<(↑x1.length:Int))then bif decide (0<=x0)&&decide (x0<(↑x1.length:Int))then bif(↑(x1.getD x0.toNat 0).toNat:Int)==34 then some (Sum.inr (Sum.inr (x5,x1,IntKind.i64.wrap (x0+1),x3,x4,())))else bif(↑(x1.getD x0.toNat 0).toNat:Int)==92 then bif IntKind.i64.wrap (x0+1)==(↑x1.length:Int)then some (Sum.inr (Sum.inl (x1,x2,x3,x4,())))else(f137_c0 (IntKind.i64.wrap (x0+1),x1,x2,x3,x4,x5,())).bind λv=>Sum.elim (λv=>some (Sum.inr (Sum.inr (v.1,v.2.1,v.2.2.1,v.2.2.2.1,v.2.2.2.2.1,())))) (λv=>some (Sum.inl (IntKind.i64.wrap (v.1+1),v.2.1,v.2.2.1,v.2.2.2.1,v.2.2.2.2.1,v.2.2.2.2.2.1,()))) v else(f137_c0 (x0,x1,x2,x3,x4,x5,())).bind λv=>Sum.elim (λv=>some (Sum.inr (Sum.inr (v.1,v.2.1,v.2.2.1,v.2.2.2.1,v.2.2.2.2.1,())))) (λv=>some (Sum.inl (IntKind.i64.wrap (v.1+1),v.2.1,v.2.2.1,v.2.2.2.1,v.2.2.2.2.1,v.2.2.2.2.2.1,()))) v else none else some (Sum.inr (Sum.inl (x1,x2,x3,x4,())))
theorem k9e(f141:vy)(f173:q1g)(f137_c0:q5y):AqL (k5n f141 f173) 1 (qd (code f137) [1,1,0,1,0,0]) (k6w f137_c0) x2z g1p (vp f141 f173 f137_c0):=λv=>by kernel_rfl
def q9g:j1d:=qc (vp ya yn q4x) qz
theorem w1g:jg 1 (qd (code f137) [1,1,0,1,0,0]) (y9f q9g) :=
 frm y7c (And.intro w1f trivial) (k9e ya yn q4x)
def d3v(f137_l0:j1d):Ann:=(.seq .nil (.seq .nil (.seq (.seq .nil (.blk (.loop (y9f f137_l0)))) .nil)))
def k2z(f141:vy)(f173:q1g)(f137_l0:j1d):y1g:=λ(x0,x1,x2,x3,_)=>(f137_l0 (IntKind.i64.wrap (x1+1),x0,x1,x2,x3,[],())).bind λv=>Sum.elim (λv=>(f141 (v.2.1,4,v.1,v.2.1,v.2.2.1,v.2.2.2.1,())).bind λv=>some ([],v.1,v.2.1,v.2.2.1,v.2.2.2.1,())) (λv=>some (v.1,v.2.1,v.2.2.1,v.2.2.2.1,v.2.2.2.2.1,())) v
theorem d9f(f141:vy)(f173:q1g)(f137_l0:j1d):zz (k5n f141 f173) 1 f137 (d3v f137_l0) q3c q7n (k2z f141 f173 f137_l0):=λv=>by kernel_rfl
def y0k:y1g:=k2z ya yn q9g
theorem b5x:FO 137 (f6l y0k) :=
 qo y7c func137 (And.intro w1g trivial) (d9f ya yn q9g)
abbrev q5z:=Int×qa×qa×Int×Int×Int×Unit->Option (qa×qa×Int×Int×Int×Unit)
def y9g(f:q5z):LEnt:=⟨w7z,g1q,f⟩
abbrev j1e:=Int×qa×Int×Int×Int×Unit->Option ((qa×Int×Int×Int×Unit)⊕(qa×qa×Int×Int×Int×Unit))
def y9h(f:j1e):LEnt:=⟨w8a,g1r,f⟩
abbrev y1h:=qa×Int×Int×Int×Unit->Option (qa×qa×Int×Int×Int×Unit)
def f6m(f:y1h):FEnt:=⟨q3c,q7n,f⟩
def k5o(f141:vy)(f173:q1g)(f174:q4b):=lk [(141,v2l f141),(173,k2o f173),(174,k2p f174)]
theorem y7d:zh prog (k5o ya yn xx):=(kc x5q (kc k0g (kc k0h kn)))
def wa(f141:vy)(f173:q1g)(f174:q4b):q5z:=λ(x0,x1,x2,x3,x4,x5,_)=>some (x1,x2,IntKind.i64.wrap (x0+1),x4,x5,())
def xh:q5z:=wa ya yn xx
theorem w1h:zc 1 (qd (code f138) [1,0,1,0,0,1,0,0,1,0,1,0,1]) (y9g xh):=zc3 w7z g1q k5o wa ya yn xx y7d
def k6x(f138_c0:q5z):Ann:=(.seq .nil (.seq (.blk (.seq .nil (.blk (.seq .nil (.cond (.cut .nil (y9g f138_c0)) .nil))))) .nil))
def vq(f141:vy)(f173:q1g)(f174:q4b)(f138_c0:q5z):ym (Int×qa×Int×Int×Int×Unit) ((qa×Int×Int×Int×Unit)⊕(qa×qa×Int×Int×Int×Unit)):=λ(x0,x1,x2,x3,x4,_)=>bif decide (x0<(↑x1.length:Int))then bif decide (0<=x0)&&decide (x0<(↑x1.length:Int))then bif(↑(x1.getD x0.toNat 0).toNat:Int)==93 then bif decide (0<=x0)&&decide (x0<=(↑x1.length:Int))then bif decide (0<=IntKind.i64.wrap (x2+1))&&decide (IntKind.i64.wrap (x2+1)<=x0)then(f138_c0 (x0,List.drop (IntKind.i64.wrap (x2+1)).toNat (List.take x0.toNat x1),x1,x2,x3,x4,())).bind λv=>some (Sum.inr (Sum.inr (v.1,v.2.1,v.2.2.1,v.2.2.2.1,v.2.2.2.2.1,())))else none else none else bif(↑(x1.getD x0.toNat 0).toNat:Int)==91 then(f141 (x0,4,x1,x2,x3,x4,())).bind λv=>some (Sum.inr (Sum.inr ([],v.1,v.2.1,v.2.2.1,v.2.2.2.1,())))else bif(↑(x1.getD x0.toNat 0).toNat:Int)==92 then(f141 (x0,4,x1,x2,x3,x4,())).bind λv=>some (Sum.inr (Sum.inr ([],v.1,v.2.1,v.2.2.1,v.2.2.2.1,())))else(f174 ((↑(x1.getD x0.toNat 0).toNat:Int),())).bind λv=>bif v.1 then(f141 (x0,4,x1,x2,x3,x4,())).bind λv=>some (Sum.inr (Sum.inr ([],v.1,v.2.1,v.2.2.1,v.2.2.2.1,())))else(f173 ((↑(x1.getD x0.toNat 0).toNat:Int),())).bind λv=>bif !v.1 then(f141 (x0,4,x1,x2,x3,x4,())).bind λv=>some (Sum.inr (Sum.inr ([],v.1,v.2.1,v.2.2.1,v.2.2.2.1,())))else some (Sum.inl (IntKind.i64.wrap (x0+1),x1,x2,x3,x4,()))else none else some (Sum.inr (Sum.inl (x1,x2,x3,x4,())))
theorem k9f(f141:vy)(f173:q1g)(f174:q4b)(f138_c0:q5z):AqL (k5o f141 f173 f174) 1 (qd (code f138) [1,0,1,0,0]) (k6x f138_c0) w8a g1r (vq f141 f173 f174 f138_c0):=λv=>by kernel_rfl
def q9h:j1e:=qc (vq ya yn xx xh) qz
theorem w1i:jg 1 (qd (code f138) [1,0,1,0,0]) (y9h q9h) :=
 frm y7d (And.intro w1h trivial) (k9f ya yn xx xh)
def d3w(f138_l0:j1e):Ann:=(.seq .nil (.seq (.seq .nil (.blk (.loop (y9h f138_l0)))) .nil))
def x7h(f141:vy)(f173:q1g)(f174:q4b)(f138_l0:j1e):y1h:=λ(x0,x1,x2,x3,_)=>(f138_l0 (IntKind.i64.wrap (x1+1),x0,x1,x2,x3,())).bind λv=>Sum.elim (λv=>(f141 (v.2.1,4,v.1,v.2.1,v.2.2.1,v.2.2.2.1,())).bind λv=>some ([],v.1,v.2.1,v.2.2.1,v.2.2.2.1,())) (λv=>some (v.1,v.2.1,v.2.2.1,v.2.2.2.1,v.2.2.2.2.1,())) v
theorem d9g(f141:vy)(f173:q1g)(f174:q4b)(f138_l0:j1e):zz (k5o f141 f173 f174) 1 f138 (d3w f138_l0) q3c q7n (x7h f141 f173 f174 f138_l0):=λv=>by kernel_rfl
def y0l:y1h:=x7h ya yn xx q9h
theorem b5y:FO 138 (f6m y0l) :=
 qo y7d func138 (And.intro w1i trivial) (d9g ya yn xx q9h)
abbrev j1g:=Int×Int×Int×Int×qa×Int×Int×Int×Unit->Option ((Int×Int×qa×Int×Int×Int×Unit)⊕(Int×Int×qa×Int×Int×Int×Unit)⊕(qa×qa×Int×Int×Int×Unit))
def y9j(f:j1g):LEnt:=⟨w8b,g1s,f⟩
abbrev j1f:=Int×Int×qa×Int×Int×Int×Unit->Option (qa×qa×Int×Int×Int×Unit)
def y9i(f:j1f):LEnt:=⟨z3t,x3v,f⟩
abbrev y1i:=qa×Int×Int×Int×Unit->Option (qa×qa×Int×Int×Int×Unit)
def f6n(f:y1i):FEnt:=⟨q3c,q7n,f⟩
def k5p(f141:vy)(f173:q1g):=lk [(141,v2l f141),(173,k2o f173)]
theorem y7e:zh prog (k5p ya yn):=(kc x5q (kc k0g kn))
def zq(f141:vy)(f173:q1g):ym (Int×Int×Int×Int×qa×Int×Int×Int×Unit) ((Int×Int×qa×Int×Int×Int×Unit)⊕(Int×Int×qa×Int×Int×Int×Unit)⊕(qa×qa×Int×Int×Int×Unit)):=λ(x0,x1,x2,x3,x4,x5,x6,x7,_)=>bif decide (x3<(↑x4.length:Int))then bif decide (0<=x3)&&decide (x3<(↑x4.length:Int))then bif(↑(x4.getD x3.toNat 0).toNat:Int)==40 then bif decide (IntKind.i64.wrap (x1+1)>32)then some (Sum.inr (Sum.inr (Sum.inl (6,x3,x4,x5,x6,x7,()))))else some (Sum.inl (x0,IntKind.i64.wrap (x1+1),x2,IntKind.i64.wrap (x3+1),x4,x5,x6,x7,()))else bif(↑(x4.getD x3.toNat 0).toNat:Int)==41 then bif IntKind.i64.wrap (x1-1)==0 then bif decide (0<=x3)&&decide (x3<=(↑x4.length:Int))then bif decide (0<=IntKind.i64.wrap (x0+1))&&decide (IntKind.i64.wrap (x0+1)<=x3)then some (Sum.inr (Sum.inr (Sum.inr (List.drop (IntKind.i64.wrap (x0+1)).toNat (List.take x3.toNat x4),x4,IntKind.i64.wrap (x3+1),x6,x7,()))))else none else none else some (Sum.inl (x0,IntKind.i64.wrap (x1-1),x2,IntKind.i64.wrap (x3+1),x4,x5,x6,x7,()))else bif(↑(x4.getD x3.toNat 0).toNat:Int)==92 then bif IntKind.i64.wrap (x3+1)==(↑x4.length:Int)then some (Sum.inl (x0,x1,x2,IntKind.i64.wrap (IntKind.i64.wrap (x3+1)+1),x4,x5,x6,x7,()))else bif decide (0<=IntKind.i64.wrap (x3+1))&&decide (IntKind.i64.wrap (x3+1)<(↑x4.length:Int))then(f173 ((↑(x4.getD (IntKind.i64.wrap (x3+1)).toNat 0).toNat:Int),())).bind λv=>bif !v.1 then some (Sum.inr (Sum.inr (Sum.inl (x2,IntKind.i64.wrap (x3+1),x4,x5,x6,x7,()))))else some (Sum.inl (x0,x1,x2,IntKind.i64.wrap (IntKind.i64.wrap (x3+1)+1),x4,x5,x6,x7,()))else none else(f173 ((↑(x4.getD x3.toNat 0).toNat:Int),())).bind λv=>bif !v.1 then some (Sum.inr (Sum.inr (Sum.inl (x2,x3,x4,x5,x6,x7,()))))else some (Sum.inl (x0,x1,x2,IntKind.i64.wrap (x3+1),x4,x5,x6,x7,()))else none else some (Sum.inr (Sum.inl (x0,x2,x4,x5,x6,x7,())))
def q9i:j1g:=qc (zq ya yn) qz
theorem w1k:jg 1 (qd (code f139) [1,0,1,1,0,1,0,0]) (y9j q9i):=zl2 w8b g1s k5p zq ya yn y7e
def z6o(f141:vy)(f173:q1g):ym (Int×Int×qa×Int×Int×Int×Unit) (qa×qa×Int×Int×Int×Unit):=λ(x0,x1,x2,x3,x4,x5,_)=>(f141 (x1,x0,x2,x3,x4,x5,())).bind λv=>some (Sum.inr ([],v.1,v.2.1,v.2.2.1,v.2.2.2.1,()))
theorem k9g(f141:vy)(f173:q1g)(v:HS z3t):aev Γ (k5p f141 f173) 1 ((findLabel (qd (code f139) [1,0]) 0).getD .skip) .nil (v1j z3t v) (we 1 0 [] z3t x3v)=z6o f141 f173 v:=by kernel_rfl
def q4y:j1f:=qc (z6o ya yn) qz
theorem w1j:jt prog 1 (js prog (qd (code f139) [1,0]) 0) (y9i q4y) :=
 yb (ins:=z3t) (os:=x3v) (C:=q4y) (q2o (ins:=z3t) (os:=x3v) (n := .nil) (ls:=[]) (F:=z6o ya yn) (rest:=((findLabel (qd (code f139) [1,0]) 0).getD .skip)) hm hΓ y7e (λ_=>qz) (by kernel_rfl) (jm _) q4h (k9g ya yn)) rfl
def d3x(f139_g0:j1f)(f139_l0:j1g):Ann:=(.seq .nil (.scope (.seq .nil (.seq .nil (.seq (.seq .nil (.blk (.loop (y9j f139_l0)))) .nil))) [(0,(y9i f139_g0))]))
def x7i(f141:vy)(f173:q1g)(f139_g0:j1f)(f139_l0:j1g):y1i:=λ(x0,x1,x2,x3,_)=>(f139_l0 (x1,0,4,x1,x0,x1,x2,x3,())).bind λv=>Sum.elim (λv=>(f141 (v.1,v.2.1,v.2.2.1,v.2.2.2.1,v.2.2.2.2.1,v.2.2.2.2.2.1,())).bind λv=>some ([],v.1,v.2.1,v.2.2.1,v.2.2.2.1,())) (λv=>Sum.elim (λv=>(f139_g0 (v.1,v.2.1,v.2.2.1,v.2.2.2.1,v.2.2.2.2.1,v.2.2.2.2.2.1,())).bind λv=>some (v.1,v.2.1,v.2.2.1,v.2.2.2.1,v.2.2.2.2.1,())) (λv=>some (v.1,v.2.1,v.2.2.1,v.2.2.2.1,v.2.2.2.2.1,())) v) v
theorem d9h(f141:vy)(f173:q1g)(f139_g0:j1f)(f139_l0:j1g):zz (k5p f141 f173) 1 f139 (d3x f139_g0 f139_l0) q3c q7n (x7i f141 f173 f139_g0 f139_l0):=λv=>by kernel_rfl
def y0m:y1i:=x7i ya yn q4y q9i
theorem b5z:FO 139 (f6n y0m) :=
 qo y7e func139 (And.intro w1k (And.intro w1j trivial)) (d9h ya yn q4y q9i)
abbrev q6a:=Int×Bool×qa×Int×Int×Int×Unit->Option ((Int×qa×Int×Int×Int×Unit)⊕(qa×qa×Int×Int×Int×Unit))
def y9k(f:q6a):LEnt:=⟨w8c,g1t,f⟩
abbrev j1h:=Int×qa×Int×Int×Int×Unit->Option ((Int×qa×Int×Int×Int×Unit)⊕(qa×qa×Int×Int×Int×Unit))
def y9l(f:j1h):LEnt:=⟨w8d,g1u,f⟩
abbrev y1j:=qa×Int×Int×Int×Unit->Option (qa×qa×Int×Int×Int×Unit)
def f6o(f:y1j):FEnt:=⟨q3c,q7n,f⟩
def k5q(f174:q4b):=lk [(174,k2p f174)]
theorem y7f:zh prog (k5q xx):=(kc k0h kn)
def j7m(f174:q4b):q6a:=λ(x0,x1,x2,x3,x4,x5,_)=>bif x1 then some (Sum.inl (x0,x2,IntKind.i64.wrap (x3+3),x4,x5,()))else bif decide (0<=x3)&&decide (x3<=(↑x2.length:Int))then bif decide (0<=x0)&&decide (x0<=x3)then some (Sum.inr (List.drop x0.toNat (List.take x3.toNat x2),x2,x3,x4,x5,()))else none else none
def vh:q6a:=j7m xx
theorem w1l:zc 1 (qd (code f140) [1,1,0,0,0,1,0,1,0,1,1,1]) (y9k vh):=zc1 w8c g1t k5q j7m xx y7f
def k6y(f140_c0:q6a):Ann:=(.seq .nil (.blk (.seq .nil (.blk (.seq .nil (.cond .nil (.cut .nil (y9k f140_c0))))))))
def yp(f174:q4b)(f140_c0:q6a):ym (Int×qa×Int×Int×Int×Unit) ((Int×qa×Int×Int×Int×Unit)⊕(qa×qa×Int×Int×Int×Unit)):=λ(x0,x1,x2,x3,x4,_)=>bif decide (x2<(↑x1.length:Int))then bif decide (0<=x2)&&decide (x2<=(↑x1.length:Int))then bif decide (0<(↑(List.drop x2.toNat x1).length:Int))then(f174 ((↑((List.drop x2.toNat x1).getD 0 0).toNat:Int),())).bind λv=>bif v.1 then some (Sum.inl (x0,x1,IntKind.i64.wrap (x2+1),x3,x4,()))else bif decide ((↑(List.drop x2.toNat x1).length:Int)>2)then bif decide (2<=(↑(List.drop x2.toNat x1).length:Int))then bif List.take 2 (List.drop x2.toNat x1)==[13,10]then bif decide (2<(↑(List.drop x2.toNat x1).length:Int))then(f174 ((↑((List.drop x2.toNat x1).getD 2 0).toNat:Int),())).bind λv=>(f140_c0 (x0,v.1,x1,x2,x3,x4,())).bind λv=>Sum.elim (λv=>some (Sum.inl (v.1,v.2.1,v.2.2.1,v.2.2.2.1,v.2.2.2.2.1,()))) (λv=>some (Sum.inr (Sum.inr (v.1,v.2.1,v.2.2.1,v.2.2.2.1,v.2.2.2.2.1,())))) v else none else(f140_c0 (x0,false,x1,x2,x3,x4,())).bind λv=>Sum.elim (λv=>some (Sum.inl (v.1,v.2.1,v.2.2.1,v.2.2.2.1,v.2.2.2.2.1,()))) (λv=>some (Sum.inr (Sum.inr (v.1,v.2.1,v.2.2.1,v.2.2.2.1,v.2.2.2.2.1,())))) v else none else(f140_c0 (x0,false,x1,x2,x3,x4,())).bind λv=>Sum.elim (λv=>some (Sum.inl (v.1,v.2.1,v.2.2.1,v.2.2.2.1,v.2.2.2.2.1,()))) (λv=>some (Sum.inr (Sum.inr (v.1,v.2.1,v.2.2.1,v.2.2.2.1,v.2.2.2.2.1,())))) v else none else none else some (Sum.inr (Sum.inl (x0,x1,x2,x3,x4,())))
theorem k9h(f174:q4b)(f140_c0:q6a):AqL (k5q f174) 1 (qd (code f140) [1,1,0,0,0]) (k6y f140_c0) w8d g1u (yp f174 f140_c0):=λv=>by kernel_rfl
def q4z:j1h:=qc (yp xx vh) qz
theorem w1m:jg 1 (qd (code f140) [1,1,0,0,0]) (y9l q4z) :=
 frm y7f (And.intro w1l trivial) (k9h xx vh)
def d3y(f140_l0:j1h):Ann:=(.seq .nil (.seq .nil (.seq (.blk (.loop (y9l f140_l0))) .nil)))
def v3x(f174:q4b)(f140_l0:j1h):y1j:=λ(x0,x1,x2,x3,_)=>(f140_l0 (x1,x0,x1,x2,x3,())).bind λv=>Sum.elim (λv=>bif decide (0<=v.2.2.1)&&decide (v.2.2.1<=(↑(List.length v.2.1):Int))then bif decide (0<=v.1)&&decide (v.1<=v.2.2.1)then some (List.drop (Int.toNat v.1) (List.take (Int.toNat v.2.2.1) v.2.1),v.2.1,v.2.2.1,v.2.2.2.1,v.2.2.2.2.1,())else none else none) (λv=>some (v.1,v.2.1,v.2.2.1,v.2.2.2.1,v.2.2.2.2.1,())) v
theorem d9i(f174:q4b)(f140_l0:j1h):zz (k5q f174) 1 f140 (d3y f140_l0) q3c q7n (v3x f174 f140_l0):=λv=>by kernel_rfl
def y0n:y1j:=v3x xx q4z
theorem b6a:FO 140 (f6o y0n) :=
 qo y7f func140 (And.intro w1m trivial) (d9i xx q4z)
abbrev q5t:=Int×Int×qa×Int×Int×Int×Int×qa×Int×Unit->Option (qa×Int×Int×Int×Int×qa×Int×Unit)
def y8t(f:q5t):LEnt:=⟨w8e,g1w,f⟩
abbrev x8e:=qa×Int×Int×Int×Unit->Option (Int×qa×Int×qa×Int×Int×Int×Unit)
def f5y(f:x8e):FEnt:=⟨q3c,g1v,f⟩
def g7k(f127:q8k)(f136:y1f)(f137:y1g)(f138:y1h)(f139:y1i)(f140:y1j)(f141:vy)(f90:T90):=lk [(127,k2l f127),(136,f6k f136),(137,f6l f137),(138,f6m f138),(139,f6n f139),(140,f6o f140),(141,v2l f141),(90,E90 f90)]
theorem v8b:zh prog (g7k q3k y0j y0k y0l y0m y0n ya C90):=(kc k0d (kc b5w (kc b5x (kc b5y (kc b5z (kc b6a (kc x5q (kc f4d kn))))))))
def ky(f127:q8k)(f136:y1f)(f137:y1g)(f138:y1h)(f139:y1i)(f140:y1j)(f141:vy)(f90:T90):q5t:=λ(x0,x1,x2,x3,x4,x5,x6,x7,x8,_)=>(f90 (x1,())).bind λv=>bif v.1 then(f136 (x2,x3,x4,x5,())).bind λv=>some (v.2.1,v.2.2.1,v.2.2.2.1,v.2.2.2.2.1,0,v.1,x0,())else(f127 ([60,62,58,59,64,44,46],x1,())).bind λv=>bif decide (v.1>=0)then bif decide (0<=IntKind.i64.wrap (x3+1))&&decide (IntKind.i64.wrap (x3+1)<=(↑x2.length:Int))then bif decide (0<=x0)&&decide (x0<=IntKind.i64.wrap (x3+1))then some (x2,IntKind.i64.wrap (x3+1),x4,x5,2,List.drop x0.toNat (List.take (IntKind.i64.wrap (x3+1)).toNat x2),x0,())else none else none else bif x1==34 then(f137 (x2,x3,x4,x5,())).bind λv=>some (v.2.1,v.2.2.1,v.2.2.2.1,v.2.2.2.2.1,1,v.1,x0,())else bif x1==91 then(f138 (x2,x3,x4,x5,())).bind λv=>some (v.2.1,v.2.2.1,v.2.2.2.1,v.2.2.2.2.1,5,v.1,x0,())else bif x1==40 then(f139 (x2,x3,x4,x5,())).bind λv=>some (v.2.1,v.2.2.1,v.2.2.2.1,v.2.2.2.2.1,3,v.1,x0,())else(f140 (x2,x3,x4,x5,())).bind λv=>bif v.1==[]then(f141 (x0,4,v.2.1,v.2.2.1,v.2.2.2.1,v.2.2.2.2.1,())).bind λv1=>some (v1.1,v1.2.1,v1.2.2.1,v1.2.2.2.1,4,v.1,x0,())else some (v.2.1,v.2.2.1,v.2.2.2.1,v.2.2.2.2.1,4,v.1,x0,())
theorem k9a(f127:q8k)(f136:y1f)(f137:y1g)(f138:y1h)(f139:y1i)(f140:y1j)(f141:vy)(f90:T90):AqC (g7k f127 f136 f137 f138 f139 f140 f141 f90) 1 (qd (code f105) [1,1]) .nil w8e g1w (ky f127 f136 f137 f138 f139 f140 f141 f90):=λv=>by kernel_rfl
def xf:q5t:=ky q3k y0j y0k y0l y0m y0n ya C90
theorem w0u:zc 1 (qd (code f105) [1,1]) (y8t xf) :=
 frc v8b (k9a q3k y0j y0k y0l y0m y0n ya C90)
def d3m(f105_c0:q5t):Ann:=(.seq .nil (.cut .nil (y8t f105_c0)))
def z2s(f127:q8k)(f136:y1f)(f137:y1g)(f138:y1h)(f139:y1i)(f140:y1j)(f141:vy)(f90:T90)(f105_c0:q5t):x8e:=λ(x0,x1,x2,x3,_)=>bif decide (0<=x1)&&decide (x1<(↑x0.length:Int))then(f105_c0 (x1,(↑(x0.getD x1.toNat 0).toNat:Int),x0,x1,x2,x3,0,[],0,())).bind λv=>some (v.2.2.2.2.1,v.2.2.2.2.2.1,v.2.2.2.2.2.2.1,v.1,v.2.1,v.2.2.1,v.2.2.2.1,())else none
theorem d8y(f127:q8k)(f136:y1f)(f137:y1g)(f138:y1h)(f139:y1i)(f140:y1j)(f141:vy)(f90:T90)(f105_c0:q5t):zz (g7k f127 f136 f137 f138 f139 f140 f141 f90) 1 f105 (d3m f105_c0) q3c g1v (z2s f127 f136 f137 f138 f139 f140 f141 f90 f105_c0):=λv=>by kernel_rfl
def z5h:x8e:=z2s q3k y0j y0k y0l y0m y0n ya C90 xf
theorem b5l:FO 105 (f5y z5h) :=
 qo v8b func105 (And.intro w0u trivial) (d8y q3k y0j y0k y0l y0m y0n ya C90 xf)
abbrev z8k:=qa×LqD×qa×Int×Int×Int×Unit->Option ((LqD×Unit)⊕(Int×Int×Unit))
def v3j(f:z8k):LEnt:=⟨w8f,g1y,f⟩
abbrev T67:=qa×Unit->Option (LqD×Int×Int×Unit)
def E67(f:T67):FEnt:=⟨yh,g1x,f⟩
def K67(f105:x8e)(f83:T83):=lk [(105,f5y f105),(83,E83 f83)]
theorem g4e:zh prog (K67 z5h C83):=(kc b5l (kc v1b kn))
def q3x(f105:x8e)(f83:T83):ym (qa×LqD×qa×Int×Int×Int×Unit) ((LqD×Unit)⊕(Int×Int×Unit)):=λ(x0,x1,x2,x3,x4,x5,_)=>bif decide (x3<(↑x0.length:Int))then(f105 (x2,x3,x4,x5,())).bind λv=>bif decide (x1.length+[(v.1,v.2.1,v.2.2.1)].length<=140737488355328/32)then bif v.2.2.2.2.2.2.1 != 0 then some (Sum.inr (Sum.inr (v.2.2.2.2.2.1,v.2.2.2.2.2.2.1,())))else some (Sum.inl (x0,x1++[(v.1,v.2.1,v.2.2.1)],v.2.2.2.1,v.2.2.2.2.1,v.2.2.2.2.2.1,v.2.2.2.2.2.2.1,()))else none else some (Sum.inr (Sum.inl (x1,())))
def j9y:z8k:=qc (q3x z5h C83) qz
theorem f2y:jg 0 (qd (code f67) [1,1,1,1,1,0,0,0]) (v3j j9y):=zl2 w8f g1y K67 q3x z5h C83 g4e
def N67(f67_l0:z8k):Ann:=(.seq .nil (.seq .nil (.seq .nil (.seq .nil (.seq .nil (.seq (.blk (.loop (v3j f67_l0))) .nil))))))
def F67(f105:x8e)(f83:T83)(f67_l0:z8k):T67:=λ(x0,_)=>bif decide ((↑x0.length:Int)>2000)then some ([],0,5,())else(f83 (x0,())).bind λv=>bif decide (v.2.1>=0)then some ([],v.2.1,7,())else(f67_l0 (x0,[],x0,0,0,0,())).bind λv=>Sum.elim (λv=>some (v.1,0,0,())) (λv=>some ([],v.1,v.2.1,())) v
def C67:T67:=F67 z5h C83 j9y
theorem b9v:FO 67 (E67 C67):=q7w yh g1x K67 N67 F67 z5h C83 j9y g4e func67 (And.intro f2y trivial)
abbrev q6b:=Int×LqD×Int×qa×qa×Unit->Option (Int×LqD×Int×qa×qa×Unit)
def y9m(f:q6b):LEnt:=⟨w8h,g2a,f⟩
abbrev wc:=Int×LqD×Int×qa×qa×Unit->Option (Int×LqD×Int×qa×qa×Unit)
def x7b(f:wc):FEnt:=⟨w8g,g1z,f⟩
def z6p:q6b:=λ(x0,x1,x2,x3,x4,_)=>bif decide (0<=IntKind.i64.wrap (x2+x0))&&decide (IntKind.i64.wrap (x2+x0)<(↑x1.length:Int))then some ((x1.getD (IntKind.i64.wrap (x2+x0)).toNat (0,([],0))).1,x1,x2,x3,x4,())else none
def q9j:q6b:=z6p
theorem w1n:zc 1 (qd (code f146) [1,1]) (y9m q9j):=zc0 w8h g2a yu z6p kn
def d3z(f146_c0:q6b):Ann:=(.seq .nil (.cut .nil (y9m f146_c0)))
def k3a(f146_c0:q6b):wc:=λ(x0,x1,x2,x3,x4,_)=>bif decide (IntKind.i64.wrap (x2+x0)>=(↑x1.length:Int))then some (-1,x1,x2,x3,x4,())else(f146_c0 (x0,x1,x2,x3,x4,())).bind λv=>some (v.1,v.2.1,v.2.2.1,v.2.2.2.1,v.2.2.2.2.1,())
theorem d9k(f146_c0:q6b):zz yu 1 f146 (d3z f146_c0) w8g g1z (k3a f146_c0):=λv=>by kernel_rfl
def yv:wc:=k3a q9j
theorem y3w:FO 146 (x7b yv) :=
 qo kn func146 (And.intro w1n trivial) (d9k q9j)
abbrev j0x:=LqD×Int×qa×qa×Unit->Option (LqD×Int×qa×qa×Unit)
def y8u(f:j0x):LEnt:=⟨w8i,g2b,f⟩
abbrev x8f:=LqD×Int×qa×qa×Unit->Option (Bool×LqD×Int×qa×qa×Unit)
def f5z(f:x8f):FEnt:=⟨q7l,q7o,f⟩
def g7l(f146:wc):=lk [(146,x7b f146)]
theorem v8c:zh prog (g7l yv):=(kc y3w kn)
def q2h(f146:wc):ym (LqD×Int×qa×qa×Unit) (LqD×Int×qa×qa×Unit):=λ(x0,x1,x2,x3,_)=>(f146 (0,x0,x1,x2,x3,())).bind λv=>bif v.1==4 then some (Sum.inl (v.2.1,IntKind.i64.wrap (v.2.2.1+1),v.2.2.2.1,v.2.2.2.2.1,()))else(f146 (0,v.2.1,v.2.2.1,v.2.2.2.1,v.2.2.2.2.1,())).bind λv=>bif v.1==3 then some (Sum.inl (v.2.1,IntKind.i64.wrap (v.2.2.1+1),v.2.2.2.1,v.2.2.2.2.1,()))else some (Sum.inr (v.2.1,v.2.2.1,v.2.2.2.1,v.2.2.2.2.1,()))
def q8z:j0x:=qc (q2h yv) qz
theorem w0v:jg 1 (qd (code f109) [1,0,0,0]) (y8u q8z):=zl1 w8i g2b g7l q2h yv v8c
def d3n(f109_l0:j0x):Ann:=(.seq .nil (.seq (.blk (.loop (y8u f109_l0))) .nil))
def k2t(f146:wc)(f109_l0:j0x):x8f:=λ(x0,x1,x2,x3,_)=>(f109_l0 (x0,x1,x2,x3,())).bind λv=>some (true,v.1,v.2.1,v.2.2.1,v.2.2.2.1,())
theorem d8z(f146:wc)(f109_l0:j0x):zz (g7l f146) 1 f109 (d3n f109_l0) q7l q7o (k2t f146 f109_l0):=λv=>by kernel_rfl
def x6i:x8f:=k2t yv q8z
theorem b5m:FO 109 (f5z x6i) :=
 qo v8c func109 (And.intro w0v trivial) (d8z yv q8z)
abbrev j6p:=qa×LqD×Int×qa×qa×Unit->Option (Bool×LqD×Int×qa×qa×Unit)
def g5z(f:j6p):FEnt:=⟨w8j,q7o,f⟩
def d1g(f146:wc):=lk [(146,x7b f146)]
def v3z(f146:wc):j6p:=λ(x0,x1,x2,x3,x4,_)=>(f146 (0,x1,x2,x3,x4,())).bind λv=>bif v.1==2 then bif decide (0<=v.2.2.1)&&decide (v.2.2.1<(↑(List.length v.2.1):Int))then some ((List.getD v.2.1 (Int.toNat v.2.2.1) (0,([],0))).2.1==x0,v.2.1,v.2.2.1,v.2.2.2.1,v.2.2.2.2.1,())else none else some (false,v.2.1,v.2.2.1,v.2.2.2.1,v.2.2.2.2.1,())
theorem d9m(f146:wc):zz (d1g f146) 1 f148 .nil w8j q7o (v3z f146):=λv=>by kernel_rfl
def q9m:j6p:=v3z yv
theorem g4s:FO 148 (g5z q9m) :=
 q0 (kc y3w kn) func148 (d9m yv)
abbrev j1i:=qa×LqD×Int×qa×qa×Unit->Option (qa×LqD×Int×qa×qa×Unit)
def y9o(f:j1i):LEnt:=⟨x3a,g2d,f⟩
abbrev q6c:=qa×LqD×Int×qa×qa×Unit->Option (qa×Bool×LqD×Int×qa×qa×Unit)
def y9n(f:q6c):LEnt:=⟨x3a,g2e,f⟩
abbrev z0j:=LqD×Int×qa×qa×Unit->Option (qa×Bool×LqD×Int×qa×qa×Unit)
def g5y(f:z0j):FEnt:=⟨q7l,g2c,f⟩
def k5r(f146:wc)(f148:j6p):=lk [(146,x7b f146),(148,g5z f148)]
theorem y7g:zh prog (k5r yv q9m):=(kc y3w (kc g4s kn))
def q0r(f146:wc)(f148:j6p):ym (qa×LqD×Int×qa×qa×Unit) (qa×LqD×Int×qa×qa×Unit):=λ(x0,x1,x2,x3,x4,_)=>(f148 ([46],x1,x2,x3,x4,())).bind λv=>bif v.1 then(f146 (1,v.2.1,v.2.2.1,v.2.2.2.1,v.2.2.2.2.1,())).bind λv=>bif v.1==0 then bif decide (0<=IntKind.i64.wrap (v.2.2.1+1))&&decide (IntKind.i64.wrap (v.2.2.1+1)<(↑(List.length v.2.1):Int))then bif decide ([46].length+List.length (List.getD v.2.1 (IntKind.i64.wrap (v.2.2.1+1)).toNat (0,([],0))).2.1<=9223372036854775807)then bif decide (x0.length+([46]++(List.getD v.2.1 (IntKind.i64.wrap (v.2.2.1+1)).toNat (0,([],0))).2.1).length<=9223372036854775807)then some (Sum.inl (x0++([46]++(List.getD v.2.1 (IntKind.i64.wrap (v.2.2.1+1)).toNat (0,([],0))).2.1),v.2.1,IntKind.i64.wrap (v.2.2.1+2),v.2.2.2.1,v.2.2.2.2.1,()))else none else none else none else some (Sum.inr (x0,v.2.1,v.2.2.1,v.2.2.2.1,v.2.2.2.2.1,()))else some (Sum.inr (x0,v.2.1,v.2.2.1,v.2.2.2.1,v.2.2.2.2.1,()))
def j6w:j1i:=qc (q0r yv q9m) qz
theorem w1p:jg 1 (qd (code f147) [1,1,1,0,1,0,0]) (y9o j6w):=zl2 x3a g2d k5r q0r yv q9m y7g
def k6z(f147_l0:j1i):Ann:=(.seq (.seq .nil (.blk (.loop (y9o f147_l0)))) .nil)
def z6q(f146:wc)(f148:j6p)(f147_l0:j1i):q6c:=λ(x0,x1,x2,x3,x4,_)=>(f147_l0 (x0,x1,IntKind.i64.wrap (x2+1),x3,x4,())).bind λv=>some (v.1,true,v.2.1,v.2.2.1,v.2.2.2.1,v.2.2.2.2.1,())
theorem k9i(f146:wc)(f148:j6p)(f147_l0:j1i):AqC (k5r f146 f148) 1 (qd (code f147) [1,1,1]) (k6z f147_l0) x3a g2e (z6q f146 f148 f147_l0):=λv=>by kernel_rfl
def q9l:q6c:=z6q yv q9m j6w
theorem w1o:zc 1 (qd (code f147) [1,1,1]) (y9n q9l) :=
 frd y7g (And.intro w1p trivial) (k9i yv q9m j6w)
def d4a(f147_c0:q6c):Ann:=(.seq .nil (.seq .nil (.cut .nil (y9n f147_c0))))
def v3y(f146:wc)(f148:j6p)(f147_c0:q6c):z0j:=λ(x0,x1,x2,x3,_)=>(f146 (0,x0,x1,x2,x3,())).bind λv=>bif v.1 != 0 then some ([],false,v.2.1,v.2.2.1,v.2.2.2.1,v.2.2.2.2.1,())else bif decide (0<=v.2.2.1)&&decide (v.2.2.1<(↑(List.length v.2.1):Int))then(f147_c0 ((List.getD v.2.1 (Int.toNat v.2.2.1) (0,([],0))).2.1,v.2.1,v.2.2.1,v.2.2.2.1,v.2.2.2.2.1,())).bind λv=>some (v.1,v.2.1,v.2.2.1,v.2.2.2.1,v.2.2.2.2.1,v.2.2.2.2.2.1,())else none
theorem d9l(f146:wc)(f148:j6p)(f147_c0:q6c):zz (k5r f146 f148) 1 f147 (d4a f147_c0) q7l g2c (v3y f146 f148 f147_c0):=λv=>by kernel_rfl
def q9k:z0j:=v3y yv q9m q9l
theorem g4r:FO 147 (g5y q9k) :=
 qo y7g func147 (And.intro w1o trivial) (d9l yv q9m q9l)
abbrev q5u:=LqD×Int×qa×qa×Unit->Option (Bool×LqD×Int×qa×qa×Unit)
def y8v(f:q5u):LEnt:=⟨x3b,x3w,f⟩
abbrev x8g:=LqD×Int×qa×qa×Unit->Option (Bool×LqD×Int×qa×qa×Unit)
def f6a(f:x8g):FEnt:=⟨q7l,q7o,f⟩
def g7m(f146:wc)(f147:z0j):=lk [(146,x7b f146),(147,g5y f147)]
theorem v8d:zh prog (g7m yv q9k):=(kc y3w (kc g4r kn))
def z6k(f146:wc)(f147:z0j):q5u:=λ(x0,x1,x2,x3,_)=>some (true,x0,IntKind.i64.wrap (x1+1),x2,x3,())
def q9a:q5u:=z6k yv q9k
theorem w0w:zc 1 (qd (code f110) [1,0,1,0,1]) (y8v q9a):=zc2 x3b x3w g7m z6k yv q9k v8d
def d3o(f110_c0:q5u):Ann:=(.seq .nil (.seq (.seq .nil (.cond (.cut .nil (y8v f110_c0)) .nil)) .nil))
def v3t(f146:wc)(f147:z0j)(f110_c0:q5u):x8g:=λ(x0,x1,x2,x3,_)=>(f146 (0,x0,x1,x2,x3,())).bind λv=>bif v.1==1 then bif decide (0<=v.2.2.1)&&decide (v.2.2.1<(↑(List.length v.2.1):Int))then(f110_c0 (v.2.1,v.2.2.1,(List.getD v.2.1 (Int.toNat v.2.2.1) (0,([],0))).2.1,v.2.2.2.2.1,())).bind λv=>some (v.1,v.2.1,v.2.2.1,v.2.2.2.1,v.2.2.2.2.1,())else none else(f147 (v.2.1,v.2.2.1,v.2.2.2.1,v.2.2.2.2.1,())).bind λv=>some (v.2.1,v.2.2.1,v.2.2.2.1,v.1,v.2.2.2.2.2.1,())
theorem d9a(f146:wc)(f147:z0j)(f110_c0:q5u):zz (g7m f146 f147) 1 f110 (d3o f110_c0) q7l q7o (v3t f146 f147 f110_c0):=λv=>by kernel_rfl
def x6j:x8g:=v3t yv q9k q9a
theorem b5n:FO 110 (f6a x6j) :=
 qo v8d func110 (And.intro w0w trivial) (d9a yv q9k q9a)
abbrev x8h:=LqD×Int×qa×qa×Unit->Option (Bool×LqD×Int×qa×qa×Unit)
def f6b(f:x8h):FEnt:=⟨q7l,q7o,f⟩
def d0y(f148:j6p):=lk [(148,g5z f148)]
def k2u(f148:j6p):x8h:=λ(x0,x1,x2,x3,_)=>(f148 ([64],x0,x1,x2,x3,())).bind λv=>some (v.1,v.2.1,IntKind.i64.wrap (v.2.2.1+1),v.2.2.2.1,v.2.2.2.2.1,())
theorem d9b(f148:j6p):zz (d0y f148) 1 f111 .nil q7l q7o (k2u f148):=λv=>by kernel_rfl
def x6k:x8h:=k2u q9m
theorem b5o:FO 111 (f6b x6k) :=
 q0 (kc g4s kn) func111 (d9b q9m)
abbrev j8o:=qa×Int×Int×qa×Unit->Option (qa×Unit)
def y9a(f:j8o):LEnt:=⟨w8k,g2f,f⟩
abbrev v4r:=qa×Unit->Option (qa×Unit)
def f6h(f:v4r):FEnt:=⟨yh,q8i,f⟩
def kz:ym (qa×Int×Int×qa×Unit) (qa×Unit):=λ(x0,x1,x2,x3,_)=>bif decide (x2<x1)then bif decide (0<=x2)&&decide (x2<(↑x0.length:Int))then bif(↑(x0.getD x2.toNat 0).toNat:Int)==34 then bif decide (x3.length+[92].length<=140737488355328/1)then bif decide (0<=x2)&&decide (x2<(↑x0.length:Int))then bif decide ((x3++[92]).length+[UInt8.ofNat (↑(x0.getD x2.toNat 0).toNat:Int).toNat].length<=140737488355328/1)then some (Sum.inl (x0,x1,IntKind.i64.wrap (x2+1),x3++[92]++[UInt8.ofNat (↑(x0.getD x2.toNat 0).toNat:Int).toNat],()))else none else none else none else bif decide (0<=x2)&&decide (x2<(↑x0.length:Int))then bif(↑(x0.getD x2.toNat 0).toNat:Int)==92 then bif decide (x3.length+[92].length<=140737488355328/1)then bif decide (0<=x2)&&decide (x2<(↑x0.length:Int))then bif decide ((x3++[92]).length+[UInt8.ofNat (↑(x0.getD x2.toNat 0).toNat:Int).toNat].length<=140737488355328/1)then some (Sum.inl (x0,x1,IntKind.i64.wrap (x2+1),x3++[92]++[UInt8.ofNat (↑(x0.getD x2.toNat 0).toNat:Int).toNat],()))else none else none else none else bif decide (0<=x2)&&decide (x2<(↑x0.length:Int))then bif decide (x3.length+[UInt8.ofNat (↑(x0.getD x2.toNat 0).toNat:Int).toNat].length<=140737488355328/1)then some (Sum.inl (x0,x1,IntKind.i64.wrap (x2+1),x3++[UInt8.ofNat (↑(x0.getD x2.toNat 0).toNat:Int).toNat],()))else none else none else none else none else some (Sum.inr (x3,()))
def q9c:j8o:=qc (kz) qz
theorem w1b:jg 0 (qd (code f126) [1,1,0,1,0,0]) (y9a q9c):=zl0 w8k g2f yu kz kn
def d3s(f126_l0:j8o):Ann:=(.seq .nil (.seq .nil (.seq (.seq .nil (.blk (.loop (y9a f126_l0)))) .nil)))
def k2x(f126_l0:j8o):v4r:=λ(x0,_)=>(f126_l0 (x0,(↑x0.length:Int),0,[],())).bind λv=>some (v.1,())
def v1q:v4r:=k2x q9c
theorem b5u:FO 126 (f6h v1q):=q1x yh q8i yu d3s k2x q9c kn func126 (And.intro w1b trivial)
abbrev T89:=Int×qa×Int×Unit->Option (qa×Unit)
def E89(f:T89):FEnt:=⟨x3c,q8i,f⟩
def K89(f126:v4r):=lk [(126,f6h f126)]
def F89(f126:v4r):T89:=λ(x0,x1,x2,_)=>bif x0==1 then(f126 (x1,())).bind λv=>bif decide ([34].length+List.length v.1<=9223372036854775807)then bif decide (([34]++v.1).length+[34].length<=9223372036854775807)then some ([34]++v.1++[34],())else none else none else bif x0==3 then bif decide ([40].length+x1.length<=9223372036854775807)then bif decide (([40]++x1).length+[41].length<=9223372036854775807)then some ([40]++x1++[41],())else none else none else bif x0==5 then bif decide ([91].length+x1.length<=9223372036854775807)then bif decide (([91]++x1).length+[93].length<=9223372036854775807)then some ([91]++x1++[93],())else none else none else some (x1,())
def C89:T89:=F89 v1q
theorem b9w:FO 89 (E89 C89):=kb x3c q8i K89 F89 v1q (kc b5u kn) func89
abbrev q5v:=LqD×Int×qa×qa×Unit->Option (Bool×LqD×Int×qa×qa×Unit)
def y8w(f:q5v):LEnt:=⟨x3b,x3w,f⟩
abbrev x8i:=LqD×Int×qa×qa×Unit->Option (Bool×LqD×Int×qa×qa×Unit)
def f6c(f:x8i):FEnt:=⟨q7l,q7o,f⟩
def g7n(f146:wc)(f147:z0j)(f89:T89):=lk [(146,x7b f146),(147,g5y f147),(89,E89 f89)]
theorem v8e:zh prog (g7n yv q9k C89):=(kc y3w (kc g4r (kc b9w kn)))
def z6l(f146:wc)(f147:z0j)(f89:T89):q5v:=λ(x0,x1,x2,x3,_)=>some (true,x0,IntKind.i64.wrap (x1+1),x2,x3,())
def q9b:q5v:=z6l yv q9k C89
theorem w0x:zc 1 (qd (code f112) [1,0,1,0,1]) (y8w q9b):=zc3 x3b x3w g7n z6l yv q9k C89 v8e
def d3p(f112_c0:q5v):Ann:=(.seq .nil (.seq (.seq .nil (.cond (.cut .nil (y8w f112_c0)) .nil)) .nil))
def v3u(f146:wc)(f147:z0j)(f89:T89)(f112_c0:q5v):x8i:=λ(x0,x1,x2,x3,_)=>(f146 (0,x0,x1,x2,x3,())).bind λv=>bif v.1==5 then bif decide (0<=v.2.2.1)&&decide (v.2.2.1<(↑(List.length v.2.1):Int))then(f89 ((List.getD v.2.1 (Int.toNat v.2.2.1) (0,([],0))).1,(List.getD v.2.1 (Int.toNat v.2.2.1) (0,([],0))).2.1,(List.getD v.2.1 (Int.toNat v.2.2.1) (0,([],0))).2.2,())).bind λv1=>(f112_c0 (v.2.1,v.2.2.1,v.2.2.2.1,v1.1,())).bind λv=>some (v.1,v.2.1,v.2.2.1,v.2.2.2.1,v.2.2.2.2.1,())else none else(f147 (v.2.1,v.2.2.1,v.2.2.2.1,v.2.2.2.2.1,())).bind λv=>some (v.2.1,v.2.2.1,v.2.2.2.1,v.2.2.2.2.1,v.1,())
theorem d9c(f146:wc)(f147:z0j)(f89:T89)(f112_c0:q5v):zz (g7n f146 f147 f89) 1 f112 (d3p f112_c0) q7l q7o (v3u f146 f147 f89 f112_c0):=λv=>by kernel_rfl
def x6l:x8i:=v3u yv q9k C89 q9b
theorem b5p:FO 112 (f6c x6l) :=
 qo v8e func112 (And.intro w0x trivial) (d9c yv q9k C89 q9b)
abbrev T71:=LqD×Unit->Option (qa×qa×Int×Bool×Unit)
def E71(f:T71):FEnt:=⟨w8l,g2g,f⟩
def K71(f109:x8f)(f110:x8g)(f111:x8h)(f112:x8i):=lk [(109,f5z f109),(110,f6a f110),(111,f6b f111),(112,f6c f112)]
def N71:Ann:=(.seq .nil (.seq .nil (.seq (.seq .nil (.blk (.unroll 9 .nil))) .nil)))
def F71(f109:x8f)(f110:x8g)(f111:x8h)(f112:x8i):T71:=λ(x0,_)=>(f109 (x0,0,[],[],())).bind λv=>bif !v.1 then some ([],[],0,false,())else(f110 (v.2.1,v.2.2.1,v.2.2.2.1,v.2.2.2.2.1,())).bind λv=>bif !v.1 then some ([],[],0,false,())else(f109 (v.2.1,v.2.2.1,v.2.2.2.1,v.2.2.2.2.1,())).bind λv=>bif !v.1 then some ([],[],0,false,())else(f111 (v.2.1,v.2.2.1,v.2.2.2.1,v.2.2.2.2.1,())).bind λv=>bif !v.1 then some ([],[],0,false,())else(f109 (v.2.1,v.2.2.1,v.2.2.2.1,v.2.2.2.2.1,())).bind λv=>bif !v.1 then some ([],[],0,false,())else(f112 (v.2.1,v.2.2.1,v.2.2.2.1,v.2.2.2.2.1,())).bind λv=>bif !v.1 then some ([],[],0,false,())else(f109 (v.2.1,v.2.2.1,v.2.2.2.1,v.2.2.2.2.1,())).bind λv=>bif !v.1 then some ([],[],0,false,())else some (v.2.2.2.1,v.2.2.2.2.1,v.2.2.1,true,())
theorem h71(f109:x8f)(f110:x8g)(f111:x8h)(f112:x8i):zz (K71 f109 f110 f111 f112) 0 f71 N71 w8l g2g (F71 f109 f110 f111 f112):=λv=>by kernel_rfl
def C71:T71:=F71 x6i x6j x6k x6l
theorem m2b:FO 71 (E71 C71) :=
 qo (kc b5m (kc b5n (kc b5o (kc b5p kn)))) func71 trivial (h71 x6i x6j x6k x6l)
end Go.Proofs.YtiacnhhmkdkpmaaGreatDoorC.W
