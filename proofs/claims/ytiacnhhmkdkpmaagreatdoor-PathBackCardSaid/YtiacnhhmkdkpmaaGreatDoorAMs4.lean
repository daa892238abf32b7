/- The texts of the proof, one behind the other: W4, W5, W6, W7, W8, XDom, W9. -/
import Derived.Test.YtiacnhhmkdkpmaaGreatDoorAMs3
import Derived.RangeFuncBox
import Derived.OwnWalkIn
import Derived.TacticsInMore
import Derived.LoopNIn
import Derived.LoopIn
import Derived.Sort.LoopGhostIn
import Derived.Maps.AppendAt
set_option maxRecDepth 100000
set_option linter.unusedVariables false
namespace Go.Proofs.YtiacnhhmkdkpmaaGreatDoorA.W
open Go Go.Ae
abbrev j0x:=(Int×Int)×Int×Int×Int×List (Int)×qp×qq×qu×Unit→Option ((Int×Int)×Int×Int×List (Int)×qp×qq×qu×Unit)
def y8t (f:j0x):LEnt:=⟨f3z,f4s,f⟩
abbrev q0c:=(Int×Int)×Int×Int×Int×List (Int)×qp×qq×qu×Unit→Option (List (Int)×qp×qq×qu×Unit)
def f2m (f:q0c):FEnt:=⟨y3c,j2q,f⟩
def g1m (f316:y3k):=lk [(316,f2n f316)]
theorem v4d:zm Tryz.prog (g1m z0s):=(kc b1b kn)
def j6u (f316:y3k):yn ((Int×Int)×Int×Int×Int×List (Int)×qp×qq×qu×Unit) ((Int×Int)×Int×Int×List (Int)×qp×qq×qu×Unit):=fun (x0,x1,x2,x3,x4,x5,x6,x7,_) =>
 bif x2 != x3 then
 bif decide (x2>x3) then
 (f316
 (((↑(Int.toNat x0.1):Int),(↑(Int.toNat x0.2):Int)),IntKind.i64.wrap (x1 - x2),x1,x3,x4,x5,x6,
 x7,())).bind
 fun v =>
 some
 (Sum.inl
 (((↑(Int.toNat x0.1):Int),(↑(Int.toNat x0.2):Int)),x1,IntKind.i64.wrap (x2 - x3),x3,v.1,
 v.2.1,v.2.2.1,v.2.2.2.1,()))
 else
 (f316
 (((↑(Int.toNat x0.1):Int),(↑(Int.toNat x0.2):Int)),IntKind.i64.wrap (x1 - x2),
 IntKind.i64.wrap (IntKind.i64.wrap (x1+x3) - x2),x2,x4,x5,x6,x7,())).bind
 fun v =>
 some
 (Sum.inl
 (((↑(Int.toNat x0.1):Int),(↑(Int.toNat x0.2):Int)),x1,x2,IntKind.i64.wrap (x3 - x2),v.1,
 v.2.1,v.2.2.1,v.2.2.2.1,()))
 else some (Sum.inr (((↑(Int.toNat x0.1):Int),(↑(Int.toNat x0.2):Int)),x1,x2,x4,x5,x6,x7,()))
def z4f:j0x:=qd (j6u z0s) jc
theorem k8q:jg 2 (qc (code Tryz.f315) [1,1,0,0,0]) (y8t z4f):=zl1 f3z f4s g1m j6u z0s v4d
def b6x (f315_l0:j0x):Ann:=(.seq .nil (.seq .nil (.seq (.blk (.loop (y8t f315_l0))) .nil)))
def k0k (f316:y3k) (f315_l0:j0x):q0c:=fun (x0,x1,x2,x3,x4,x5,x6,x7,_) =>
 (f315_l0
 (((↑(Int.toNat x0.1):Int),(↑(Int.toNat x0.2):Int)),x2,IntKind.i64.wrap (x2 - x1),
 IntKind.i64.wrap (x3 - x2),x4,x5,x6,x7,())).bind
 fun v =>
 (f316
 (((↑(Int.toNat v.1.1):Int),(↑(Int.toNat v.1.2):Int)),
 IntKind.i64.wrap (v.2.1 - v.2.2.1),v.2.1,v.2.2.1,v.2.2.2.1,
 v.2.2.2.2.1,v.2.2.2.2.2.1,v.2.2.2.2.2.2.1,())).bind
 fun v=>some (v.1,v.2.1,v.2.2.1,v.2.2.2.1,())
theorem d1w (f316:y3k) (f315_l0:j0x):yb (g1m f316) 2 Tryz.f315 (b6x f315_l0) y3c j2q (k0k f316 f315_l0):=fun v=>by kernel_rfl
def zu:q0c:=k0k z0s z4f
theorem b1a:FO 315 (f2m zu) :=
 qo v4d Tryz.func315 (And.intro k8q trivial) (d1w z0s z4f)
abbrev j0s:=(Int×Int)×Int×Int×Int×List (Int)×qp×qq×qu×Unit→Option ((Int×Int)×Int×Int×List (Int)×qp×qq×qu×Unit)
def y8o (f:j0s):LEnt:=⟨k1c,k1o,f⟩
abbrev j0t:=(Int×Int)×Int×Int×List (Int)×qp×qq×qu×Unit→Option (List (Int)×qp×qq×qu×Unit)
def y8p (f:j0t):LEnt:=⟨k1d,k1p,f⟩
abbrev j0u:=(Int×Int)×Int×Int×Int×List (Int)×qp×qq×qu×Unit→Option ((Int×Int)×Int×Int×List (Int)×qp×qq×qu×Unit)
def y8q (f:j0u):LEnt:=⟨k1e,k1q,f⟩
abbrev j0v:=(Int×Int)×Int×Int×List (Int)×qp×qq×qu×Unit→Option (List (Int)×qp×qq×qu×Unit)
def y8r (f:j0v):LEnt:=⟨k1f,k1r,f⟩
abbrev j0w:=(Int×Int)×Int×Int×Int×Int×Int×Int×Int×Int×List (Int)×qp×qq×qu×Unit→Option ((Int×Int)×Int×Int×Int×Int×Int×Int×List (Int)×qp×qq×qu×Unit)
def y8s (f:j0w):LEnt:=⟨k1g,k1s,f⟩
abbrev q5h:=(Int×Int)×Int×Int×Int×List (Int)×qp×qq×qu×Unit→Option (List (Int)×qp×qq×qu×Unit)
def y8l (f:q5h):LEnt:=⟨g1p,z5u,f⟩
abbrev q5i:=(Int×Int)×Int×Int×Int×Int×Int×List (Int)×qp×qq×qu×Unit→Option (List (Int)×qp×qq×qu×Unit)
def y8m (f:q5i):LEnt:=⟨g1q,z5u,f⟩
abbrev q5j:=(Int×Int)×Int×Int×Int×Int×Int×Int×Int×List (Int)×qp×qq×qu×Unit→Option (List (Int)×qp×qq×qu×Unit)
def y8n (f:q5j):LEnt:=⟨g1r,z5u,f⟩
abbrev je:=(Int×Int)×Int×Int×Int×List (Int)×qp×qq×qu×Unit→Option (List (Int)×qp×qq×qu×Unit)
def j4q (f:je):FEnt:=⟨y3c,j2q,f⟩
def z0u (f278:yx) (f311:je) (f315:q0c):=lk [(278,w9p f278),(311,j4q f311),(315,f2m f315)]
theorem q1s (G:je) (hG:zi Tryz.prog 311 (j4q G)):zm Tryz.prog (z0u zn G zu):=(kc w8h (kc hG (kc b1a kn)))
def q8u (f278:yx) (f311:je) (f315:q0c):yn ((Int×Int)×Int×Int×Int×List (Int)×qp×qq×qu×Unit) ((Int×Int)×Int×Int×List (Int)×qp×qq×qu×Unit):=fun (x0,x1,x2,x3,x4,x5,x6,x7,_) =>
 bif decide (x2<x3) then
 bif
 decide
 (0 ≤
 IntKind.i64.wrap
 ((IntKind.u64.wrap (IntKind.i64.wrap (x2+x3))).fdiv (2^min 1 IntKind.u64.bits))) &&
 decide
 (IntKind.i64.wrap
 ((IntKind.u64.wrap (IntKind.i64.wrap (x2+x3))).fdiv (2^min 1 IntKind.u64.bits)) <
 (↑(Int.toNat x0.2):Int)) then
 bif decide (0≤x1)&&decide (x1<(↑(Int.toNat x0.2):Int)) then
 (f278
 (x4.getD
 (Int.toNat x0.1 +
 (IntKind.i64.wrap
 ((IntKind.u64.wrap (IntKind.i64.wrap (x2+x3))).fdiv
 (2^min 1 IntKind.u64.bits))).toNat)
 0,
 x4.getD (Int.toNat x0.1+x1.toNat) 0,x5,x6,x7,())).bind
 fun v =>
 bif decide (v.1<0) then
 some
 (Sum.inl
 (((↑(Int.toNat x0.1):Int),(↑(Int.toNat x0.2):Int)),x1,
 IntKind.i64.wrap
 (IntKind.i64.wrap
 ((IntKind.u64.wrap (IntKind.i64.wrap (x2+x3))).fdiv (2^min 1 IntKind.u64.bits)) +
 1),
 x3,x4,v.2.1,v.2.2.1,v.2.2.2.1,()))
 else
 some
 (Sum.inl
 (((↑(Int.toNat x0.1):Int),(↑(Int.toNat x0.2):Int)),x1,x2,
 IntKind.i64.wrap
 ((IntKind.u64.wrap (IntKind.i64.wrap (x2+x3))).fdiv (2^min 1 IntKind.u64.bits)),
 x4,v.2.1,v.2.2.1,v.2.2.2.1,()))
 else none
 else none
 else some (Sum.inr (((↑(Int.toNat x0.1):Int),(↑(Int.toNat x0.2):Int)),x1,x2,x4,x5,x6,x7,()))
theorem k5c (f278:yx) (f311:je) (f315:q0c):AqL (z0u f278 f311 f315) 2 (qc (code Tryz.f311) [0,1,0,1,1,0,0,0]) .nil k1c k1o (q8u f278 f311 f315):=fun v=>by kernel_rfl
def xw (G:je):j0s:=qd (q8u zn G zu) jc
theorem k8l (G:je) (hG:zi Tryz.prog 311 (j4q G)):jg 2 (qc (code Tryz.f311) [0,1,0,1,1,0,0,0]) (y8o (xw G)) :=
 zw (ins:=k1c) (os:=k1o) (C:=(xw G)) (xq (ins:=k1c) (os:=k1o) (n := .nil) (F:=q8u zn G zu) hm hΓ (q1s G hG) (fun _=>jc) (ji _) (k5c zn G zu)) rfl
def q8v (f278:yx) (f311:je) (f315:q0c):yn ((Int×Int)×Int×Int×List (Int)×qp×qq×qu×Unit) (List (Int)×qp×qq×qu×Unit):=fun (x0,x1,x2,x3,x4,x5,x6,_) =>
 bif decide (x2<IntKind.i64.wrap (x1 - 1)) then
 bif decide (0≤IntKind.i64.wrap (x2+1))&&decide (IntKind.i64.wrap (x2+1)<(↑(Int.toNat x0.2):Int)) then
 bif decide (0≤x2)&&decide (x2<(↑(Int.toNat x0.2):Int)) then
 bif decide (0≤x2)&&decide (x2<(↑(Int.toNat x0.2):Int)) then
 bif
 decide (0≤IntKind.i64.wrap (x2+1)) &&
 decide (IntKind.i64.wrap (x2+1)<(↑(Int.toNat x0.2):Int)) then
 some
 (Sum.inl
 (((↑(Int.toNat x0.1):Int),(↑(Int.toNat x0.2):Int)),x1,IntKind.i64.wrap (x2+1),
 (x3.set (Int.toNat x0.1+x2.toNat)
 (x3.getD (Int.toNat x0.1+(IntKind.i64.wrap (x2+1)).toNat) 0)).set
 (Int.toNat x0.1+(IntKind.i64.wrap (x2+1)).toNat)
 (x3.getD (Int.toNat x0.1+x2.toNat) 0),
 x4,x5,x6,()))
 else none
 else none
 else none
 else none
 else some (Sum.inr (x3,x4,x5,x6,()))
theorem k5d (f278:yx) (f311:je) (f315:q0c):AqL (z0u f278 f311 f315) 2 (qc (code Tryz.f311) [0,1,0,1,1,1,0,1,0,0]) .nil k1d k1p (q8v f278 f311 f315):=fun v=>by kernel_rfl
def xx (G:je):j0t:=qd (q8v zn G zu) jc
theorem k8m (G:je) (hG:zi Tryz.prog 311 (j4q G)):jg 2 (qc (code Tryz.f311) [0,1,0,1,1,1,0,1,0,0]) (y8p (xx G)) :=
 zw (ins:=k1d) (os:=k1p) (C:=(xx G)) (xq (ins:=k1d) (os:=k1p) (n := .nil) (F:=q8v zn G zu) hm hΓ (q1s G hG) (fun _=>jc) (ji _) (k5d zn G zu)) rfl
def q8w (f278:yx) (f311:je) (f315:q0c):yn ((Int×Int)×Int×Int×Int×List (Int)×qp×qq×qu×Unit) ((Int×Int)×Int×Int×List (Int)×qp×qq×qu×Unit):=fun (x0,x1,x2,x3,x4,x5,x6,x7,_) =>
 bif decide (x2<x3) then
 bif decide (0≤x1)&&decide (x1<(↑(Int.toNat x0.2):Int)) then
 bif
 decide
 (0 ≤
 IntKind.i64.wrap
 ((IntKind.u64.wrap (IntKind.i64.wrap (x2+x3))).fdiv (2^min 1 IntKind.u64.bits))) &&
 decide
 (IntKind.i64.wrap
 ((IntKind.u64.wrap (IntKind.i64.wrap (x2+x3))).fdiv (2^min 1 IntKind.u64.bits)) <
 (↑(Int.toNat x0.2):Int)) then
 (f278
 (x4.getD (Int.toNat x0.1+x1.toNat) 0,
 x4.getD
 (Int.toNat x0.1 +
 (IntKind.i64.wrap
 ((IntKind.u64.wrap (IntKind.i64.wrap (x2+x3))).fdiv
 (2^min 1 IntKind.u64.bits))).toNat)
 0,
 x5,x6,x7,())).bind
 fun v =>
 bif !decide (v.1<0) then
 some
 (Sum.inl
 (((↑(Int.toNat x0.1):Int),(↑(Int.toNat x0.2):Int)),x1,
 IntKind.i64.wrap
 (IntKind.i64.wrap
 ((IntKind.u64.wrap (IntKind.i64.wrap (x2+x3))).fdiv (2^min 1 IntKind.u64.bits)) +
 1),
 x3,x4,v.2.1,v.2.2.1,v.2.2.2.1,()))
 else
 some
 (Sum.inl
 (((↑(Int.toNat x0.1):Int),(↑(Int.toNat x0.2):Int)),x1,x2,
 IntKind.i64.wrap
 ((IntKind.u64.wrap (IntKind.i64.wrap (x2+x3))).fdiv (2^min 1 IntKind.u64.bits)),
 x4,v.2.1,v.2.2.1,v.2.2.2.1,()))
 else none
 else none
 else some (Sum.inr (((↑(Int.toNat x0.1):Int),(↑(Int.toNat x0.2):Int)),x1,x2,x4,x5,x6,x7,()))
theorem k5e (f278:yx) (f311:je) (f315:q0c):AqL (z0u f278 f311 f315) 2 (qc (code Tryz.f311) [1,0,1,0,1,1,0,0,0]) .nil k1e k1q (q8w f278 f311 f315):=fun v=>by kernel_rfl
def xy (G:je):j0u:=qd (q8w zn G zu) jc
theorem k8n (G:je) (hG:zi Tryz.prog 311 (j4q G)):jg 2 (qc (code Tryz.f311) [1,0,1,0,1,1,0,0,0]) (y8q (xy G)) :=
 zw (ins:=k1e) (os:=k1q) (C:=(xy G)) (xq (ins:=k1e) (os:=k1q) (n := .nil) (F:=q8w zn G zu) hm hΓ (q1s G hG) (fun _=>jc) (ji _) (k5e zn G zu)) rfl
def q8x (f278:yx) (f311:je) (f315:q0c):yn ((Int×Int)×Int×Int×List (Int)×qp×qq×qu×Unit) (List (Int)×qp×qq×qu×Unit):=fun (x0,x1,x2,x3,x4,x5,x6,_) =>
 bif decide (x2>x1) then
 bif decide (0≤IntKind.i64.wrap (x2 - 1))&&decide (IntKind.i64.wrap (x2 - 1)<(↑(Int.toNat x0.2):Int)) then
 bif decide (0≤x2)&&decide (x2<(↑(Int.toNat x0.2):Int)) then
 bif decide (0≤x2)&&decide (x2<(↑(Int.toNat x0.2):Int)) then
 bif
 decide (0≤IntKind.i64.wrap (x2 - 1)) &&
 decide (IntKind.i64.wrap (x2 - 1)<(↑(Int.toNat x0.2):Int)) then
 some
 (Sum.inl
 (((↑(Int.toNat x0.1):Int),(↑(Int.toNat x0.2):Int)),x1,IntKind.i64.wrap (x2 - 1),
 (x3.set (Int.toNat x0.1+x2.toNat)
 (x3.getD (Int.toNat x0.1+(IntKind.i64.wrap (x2 - 1)).toNat) 0)).set
 (Int.toNat x0.1+(IntKind.i64.wrap (x2 - 1)).toNat)
 (x3.getD (Int.toNat x0.1+x2.toNat) 0),
 x4,x5,x6,()))
 else none
 else none
 else none
 else none
 else some (Sum.inr (x3,x4,x5,x6,()))
theorem k5f (f278:yx) (f311:je) (f315:q0c):AqL (z0u f278 f311 f315) 2 (qc (code Tryz.f311) [1,0,1,0,1,1,1,0,1,0,0]) .nil k1f k1r (q8x f278 f311 f315):=fun v=>by kernel_rfl
def xz (G:je):j0v:=qd (q8x zn G zu) jc
theorem k8o (G:je) (hG:zi Tryz.prog 311 (j4q G)):jg 2 (qc (code Tryz.f311) [1,0,1,0,1,1,1,0,1,0,0]) (y8r (xz G)) :=
 zw (ins:=k1f) (os:=k1r) (C:=(xz G)) (xq (ins:=k1f) (os:=k1r) (n := .nil) (F:=q8x zn G zu) hm hΓ (q1s G hG) (fun _=>jc) (ji _) (k5f zn G zu)) rfl
def q8y (f278:yx) (f311:je) (f315:q0c):yn ((Int×Int)×Int×Int×Int×Int×Int×Int×Int×Int×List (Int)×qp×qq×qu×Unit) ((Int×Int)×Int×Int×Int×Int×Int×Int×List (Int)×qp×qq×qu×Unit):=fun (x0,x1,x2,x3,x4,x5,x6,x7,x8,x9,x10,x11,x12,_) =>
 bif decide (x6<x7) then
 bif
 decide
 (0 ≤
 IntKind.i64.wrap
 (x8 -
 IntKind.i64.wrap
 ((IntKind.u64.wrap (IntKind.i64.wrap (x6+x7))).fdiv (2^min 1 IntKind.u64.bits)))) &&
 decide
 (IntKind.i64.wrap
 (x8 -
 IntKind.i64.wrap
 ((IntKind.u64.wrap (IntKind.i64.wrap (x6+x7))).fdiv (2^min 1 IntKind.u64.bits))) <
 (↑(Int.toNat x0.2):Int)) then
 bif
 decide
 (0 ≤
 IntKind.i64.wrap
 ((IntKind.u64.wrap (IntKind.i64.wrap (x6+x7))).fdiv (2^min 1 IntKind.u64.bits))) &&
 decide
 (IntKind.i64.wrap
 ((IntKind.u64.wrap (IntKind.i64.wrap (x6+x7))).fdiv (2^min 1 IntKind.u64.bits)) <
 (↑(Int.toNat x0.2):Int)) then
 (f278
 (x9.getD
 (Int.toNat x0.1 +
 (IntKind.i64.wrap
 (x8 -
 IntKind.i64.wrap
 ((IntKind.u64.wrap (IntKind.i64.wrap (x6+x7))).fdiv
 (2^min 1 IntKind.u64.bits)))).toNat)
 0,
 x9.getD
 (Int.toNat x0.1 +
 (IntKind.i64.wrap
 ((IntKind.u64.wrap (IntKind.i64.wrap (x6+x7))).fdiv
 (2^min 1 IntKind.u64.bits))).toNat)
 0,
 x10,x11,x12,())).bind
 fun v =>
 bif !decide (v.1<0) then
 some
 (Sum.inl
 (((↑(Int.toNat x0.1):Int),(↑(Int.toNat x0.2):Int)),x1,x2,x3,x4,x5,
 IntKind.i64.wrap
 (IntKind.i64.wrap
 ((IntKind.u64.wrap (IntKind.i64.wrap (x6+x7))).fdiv (2^min 1 IntKind.u64.bits)) +
 1),
 x7,x8,x9,v.2.1,v.2.2.1,v.2.2.2.1,()))
 else
 some
 (Sum.inl
 (((↑(Int.toNat x0.1):Int),(↑(Int.toNat x0.2):Int)),x1,x2,x3,x4,x5,x6,
 IntKind.i64.wrap
 ((IntKind.u64.wrap (IntKind.i64.wrap (x6+x7))).fdiv (2^min 1 IntKind.u64.bits)),
 x8,x9,v.2.1,v.2.2.1,v.2.2.2.1,()))
 else none
 else none
 else
 some
 (Sum.inr
 (((↑(Int.toNat x0.1):Int),(↑(Int.toNat x0.2):Int)),x1,x2,x3,x4,x5,x6,x9,x10,x11,x12,
 ()))
theorem k5g (f278:yx) (f311:je) (f315:q0c):AqL (z0u f278 f311 f315) 2 (qc (code Tryz.f311) [1,1,1,1,1,1,1,0,0,0]) .nil k1g k1s (q8y f278 f311 f315):=fun v=>by kernel_rfl
def kf (G:je):j0w:=qd (q8y zn G zu) jc
theorem k8p (G:je) (hG:zi Tryz.prog 311 (j4q G)):jg 2 (qc (code Tryz.f311) [1,1,1,1,1,1,1,0,0,0]) (y8s (kf G)) :=
 zw (ins:=k1g) (os:=k1s) (C:=(kf G)) (xq (ins:=k1g) (os:=k1s) (n := .nil) (F:=q8y zn G zu) hm hΓ (q1s G hG) (fun _=>jc) (ji _) (k5g zn G zu)) rfl
def q4f (f278:yx) (f311:je) (f315:q0c):q5h:=fun (x0,x1,x2,x3,x4,x5,x6,x7,_) =>
 bif decide (x2<x3) then
 bif decide (x3<x1) then
 (f311 (((↑(Int.toNat x0.1):Int),(↑(Int.toNat x0.2):Int)),x2,x3,x1,x4,x5,x6,x7,())).bind fun v =>
 some (v.1,v.2.1,v.2.2.1,v.2.2.2.1,())
 else some (x4,x5,x6,x7,())
 else some (x4,x5,x6,x7,())
theorem k4z (f278:yx) (f311:je) (f315:q0c):AqC (z0u f278 f311 f315) 2 (qc (code Tryz.f311) [1,1,1,1,1,1,1,1,1,1,1]) .nil g1p z5u (q4f f278 f311 f315):=fun v=>by kernel_rfl
def xd (G:je):q5h:=q4f zn G zu
theorem k8i (G:je) (hG:zi Tryz.prog 311 (j4q G)):zb 2 (qc (code Tryz.f311) [1,1,1,1,1,1,1,1,1,1,1]) (y8l (xd G)) :=
 kq (ins:=g1p) (os:=z5u) (n := .nil) (F:=(xd G)) hm hΓ (q1s G hG) (ji _) (k4z zn G zu)
def x0l (f311_c0:q5h):Ann:=(.cut .nil (y8l f311_c0))
def q4g (f278:yx) (f311:je) (f315:q0c) (f311_c0:q5h):q5i:=fun (x0,x1,x2,x3,x4,x5,x6,x7,x8,x9,_) =>
 bif decide (x1<x4) then
 bif decide (x4<x3) then
 (f311 (((↑(Int.toNat x0.1):Int),(↑(Int.toNat x0.2):Int)),x1,x4,x3,x6,x7,x8,x9,())).bind fun v =>
 (f311_c0
 (((↑(Int.toNat x0.1):Int),(↑(Int.toNat x0.2):Int)),x2,x3,x5,v.1,v.2.1,
 v.2.2.1,v.2.2.2.1,())).bind
 fun v=>some (v.1,v.2.1,v.2.2.1,v.2.2.2.1,())
 else
 (f311_c0 (((↑(Int.toNat x0.1):Int),(↑(Int.toNat x0.2):Int)),x2,x3,x5,x6,x7,x8,x9,())).bind
 fun v=>some (v.1,v.2.1,v.2.2.1,v.2.2.2.1,())
 else
 (f311_c0 (((↑(Int.toNat x0.1):Int),(↑(Int.toNat x0.2):Int)),x2,x3,x5,x6,x7,x8,x9,())).bind fun v =>
 some (v.1,v.2.1,v.2.2.1,v.2.2.2.1,())
theorem k5a (f278:yx) (f311:je) (f315:q0c) (f311_c0:q5h):AqC (z0u f278 f311 f315) 2 (qc (code Tryz.f311) [1,1,1,1,1,1,1,1,1,1]) (x0l f311_c0) g1q z5u (q4g f278 f311 f315 f311_c0):=fun v=>by kernel_rfl
def xe (G:je):q5i:=q4g zn G zu (xd G)
theorem k8j (G:je) (hG:zi Tryz.prog 311 (j4q G)):zb 2 (qc (code Tryz.f311) [1,1,1,1,1,1,1,1,1,1]) (y8m (xe G)) :=
 kq (ins:=g1q) (os:=z5u) (n:=(x0l (xd G))) (F:=(xe G)) hm hΓ (q1s G hG) (q0f (And.intro (k8i G hG) trivial) (by kernel_rfl)) (k5a zn G zu (xd G))
def x0m (f311_c1:q5i) (f311_l4:j0w):Ann:=(.seq .nil (.seq (.blk (.loop (y8s f311_l4))) (.seq .nil (.cut .nil (y8m f311_c1)))))
def q4h (f278:yx) (f311:je) (f315:q0c) (f311_c1:q5i) (f311_l4:j0w):q5j:=fun (x0,x1,x2,x3,x4,x5,x6,x7,x8,x9,x10,x11,_) =>
 (f311_l4
 (((↑(Int.toNat x0.1):Int),(↑(Int.toNat x0.2):Int)),x1,x2,x3,x4,x5,x6,x7,
 IntKind.i64.wrap (x5 - 1),x8,x9,x10,x11,())).bind
 fun v =>
 bif decide (v.2.2.2.2.2.2.1<v.2.2.1) then
 bif decide (v.2.2.1<IntKind.i64.wrap (v.2.2.2.2.2.1 - v.2.2.2.2.2.2.1)) then
 (f315
 (((↑(Int.toNat v.1.1):Int),(↑(Int.toNat v.1.2):Int)),v.2.2.2.2.2.2.1,
 v.2.2.1,IntKind.i64.wrap (v.2.2.2.2.2.1 - v.2.2.2.2.2.2.1),
 v.2.2.2.2.2.2.2.1,v.2.2.2.2.2.2.2.2.1,
 v.2.2.2.2.2.2.2.2.2.1,v.2.2.2.2.2.2.2.2.2.2.1,())).bind
 fun v1 =>
 (f311_c1
 (((↑(Int.toNat v.1.1):Int),(↑(Int.toNat v.1.2):Int)),v.2.1,v.2.2.2.1,
 v.2.2.2.2.1,v.2.2.2.2.2.2.1,
 IntKind.i64.wrap (v.2.2.2.2.2.1 - v.2.2.2.2.2.2.1),v1.1,
 v1.2.1,v1.2.2.1,v1.2.2.2.1,())).bind
 fun v=>some (v.1,v.2.1,v.2.2.1,v.2.2.2.1,())
 else
 (f311_c1
 (((↑(Int.toNat v.1.1):Int),(↑(Int.toNat v.1.2):Int)),v.2.1,v.2.2.2.1,
 v.2.2.2.2.1,v.2.2.2.2.2.2.1,
 IntKind.i64.wrap (v.2.2.2.2.2.1 - v.2.2.2.2.2.2.1),
 v.2.2.2.2.2.2.2.1,v.2.2.2.2.2.2.2.2.1,
 v.2.2.2.2.2.2.2.2.2.1,v.2.2.2.2.2.2.2.2.2.2.1,())).bind
 fun v=>some (v.1,v.2.1,v.2.2.1,v.2.2.2.1,())
 else
 (f311_c1
 (((↑(Int.toNat v.1.1):Int),(↑(Int.toNat v.1.2):Int)),v.2.1,v.2.2.2.1,
 v.2.2.2.2.1,v.2.2.2.2.2.2.1,
 IntKind.i64.wrap (v.2.2.2.2.2.1 - v.2.2.2.2.2.2.1),
 v.2.2.2.2.2.2.2.1,v.2.2.2.2.2.2.2.2.1,
 v.2.2.2.2.2.2.2.2.2.1,v.2.2.2.2.2.2.2.2.2.2.1,())).bind
 fun v=>some (v.1,v.2.1,v.2.2.1,v.2.2.2.1,())
theorem k5b (f278:yx) (f311:je) (f315:q0c) (f311_c1:q5i) (f311_l4:j0w):AqC (z0u f278 f311 f315) 2 (qc (code Tryz.f311) [1,1,1,1,1,1]) (x0m f311_c1 f311_l4) g1r z5u (q4h f278 f311 f315 f311_c1 f311_l4):=fun v=>by kernel_rfl
def xv (G:je):q5j:=q4h zn G zu (xe G) (kf G)
theorem k8k (G:je) (hG:zi Tryz.prog 311 (j4q G)):zb 2 (qc (code Tryz.f311) [1,1,1,1,1,1]) (y8n (xv G)) :=
 kq (ins:=g1r) (os:=z5u) (n:=(x0m (xe G) (kf G))) (F:=(xv G)) hm hΓ (q1s G hG) (q0f (And.intro (k8p G hG) (And.intro (k8j G hG) trivial)) (by kernel_rfl)) (k5b zn G zu (xe G) (kf G))
def b6w (f311_c2:q5j) (f311_l0:j0s) (f311_l1:j0t) (f311_l2:j0u) (f311_l3:j0v):Ann:=(.seq (.seq .nil (.cond (.seq .nil (.seq .nil (.seq (.blk (.loop (y8o f311_l0))) (.seq (.seq .nil (.blk (.loop (y8p f311_l1)))) .nil)))) .nil)) (.seq (.seq .nil (.cond (.seq .nil (.seq .nil (.seq (.blk (.loop (y8q f311_l2))) (.seq (.seq .nil (.blk (.loop (y8r f311_l3)))) .nil)))) .nil)) (.seq .nil (.seq .nil (.seq .nil (.cut .nil (y8n f311_c2)))))))
def z8t (f278:yx) (f311:je) (f315:q0c) (f311_c2:q5j) (f311_l0:j0s) (f311_l1:j0t) (f311_l2:j0u) (f311_l3:j0v):je:=fun (x0,x1,x2,x3,x4,x5,x6,x7,_) =>
 bif IntKind.i64.wrap (x2 - x1)==1 then
 (f311_l0 (((↑(Int.toNat x0.1):Int),(↑(Int.toNat x0.2):Int)),x1,x2,x3,x4,x5,x6,x7,())).bind fun v =>
 (f311_l1
 (((↑(Int.toNat v.1.1):Int),(↑(Int.toNat v.1.2):Int)),v.2.2.1,v.2.1,
 v.2.2.2.1,v.2.2.2.2.1,v.2.2.2.2.2.1,v.2.2.2.2.2.2.1,
 ())).bind
 fun v=>some (v.1,v.2.1,v.2.2.1,v.2.2.2.1,())
 else
 bif IntKind.i64.wrap (x3 - x2)==1 then
 (f311_l2 (((↑(Int.toNat x0.1):Int),(↑(Int.toNat x0.2):Int)),x2,x1,x2,x4,x5,x6,x7,())).bind
 fun v =>
 (f311_l3
 (((↑(Int.toNat v.1.1):Int),(↑(Int.toNat v.1.2):Int)),v.2.2.1,v.2.1,
 v.2.2.2.1,v.2.2.2.2.1,v.2.2.2.2.2.1,
 v.2.2.2.2.2.2.1,())).bind
 fun v=>some (v.1,v.2.1,v.2.2.1,v.2.2.2.1,())
 else
 bif
 decide
 (x2 >
 IntKind.i64.wrap
 ((IntKind.u64.wrap (IntKind.i64.wrap (x1+x3))).fdiv (2^min 1 IntKind.u64.bits))) then
 (f311_c2
 (((↑(Int.toNat x0.1):Int),(↑(Int.toNat x0.2):Int)),x1,x2,x3,
 IntKind.i64.wrap
 ((IntKind.u64.wrap (IntKind.i64.wrap (x1+x3))).fdiv (2^min 1 IntKind.u64.bits)),
 IntKind.i64.wrap
 (IntKind.i64.wrap
 ((IntKind.u64.wrap (IntKind.i64.wrap (x1+x3))).fdiv (2^min 1 IntKind.u64.bits)) +
 x2),
 IntKind.i64.wrap
 (IntKind.i64.wrap
 (IntKind.i64.wrap
 ((IntKind.u64.wrap (IntKind.i64.wrap (x1+x3))).fdiv
 (2^min 1 IntKind.u64.bits)) +
 x2) -
 x3),
 IntKind.i64.wrap
 ((IntKind.u64.wrap (IntKind.i64.wrap (x1+x3))).fdiv (2^min 1 IntKind.u64.bits)),
 x4,x5,x6,x7,())).bind
 fun v=>some (v.1,v.2.1,v.2.2.1,v.2.2.2.1,())
 else
 (f311_c2
 (((↑(Int.toNat x0.1):Int),(↑(Int.toNat x0.2):Int)),x1,x2,x3,
 IntKind.i64.wrap
 ((IntKind.u64.wrap (IntKind.i64.wrap (x1+x3))).fdiv (2^min 1 IntKind.u64.bits)),
 IntKind.i64.wrap
 (IntKind.i64.wrap
 ((IntKind.u64.wrap (IntKind.i64.wrap (x1+x3))).fdiv (2^min 1 IntKind.u64.bits)) +
 x2),
 x1,x2,x4,x5,x6,x7,())).bind
 fun v=>some (v.1,v.2.1,v.2.2.1,v.2.2.2.1,())
theorem d1v (f278:yx) (f311:je) (f315:q0c) (f311_c2:q5j) (f311_l0:j0s) (f311_l1:j0t) (f311_l2:j0u) (f311_l3:j0v):yb (z0u f278 f311 f315) 2 Tryz.f311 (b6w f311_c2 f311_l0 f311_l1 f311_l2 f311_l3) y3c j2q (z8t f278 f311 f315 f311_c2 f311_l0 f311_l1 f311_l2 f311_l3):=fun v=>by kernel_rfl
def j4p:je:=q1b (fun G=>z8t zn G zu (xv G) (xw G) (xx G) (xy G) (xz G)) jc
theorem b0x:FO 311 (j4q j4p) :=
 y3w (ins:=y3c) (os:=j2q) (F:=fun G=>z8t zn G zu (xv G) (xw G) (xx G) (xy G) (xz G)) (fun G hG=>qo (q1s G hG) Tryz.func311 (And.intro (k8l G hG) (And.intro (k8m G hG) (And.intro (k8n G hG) (And.intro (k8o G hG) (And.intro (k8k G hG) trivial))))) (d1v zn G zu (xv G) (xw G) (xx G) (xy G) (xz G))) jc
abbrev j0k:=(Int×Int)×Int×Int×Int×Int×List (Int)×qp×qq×qu×Unit→Option ((Int×Int)×Int×Int×Int×List (Int)×qp×qq×qu×Unit)
def y8c (f:j0k):LEnt:=⟨k1h,f4t,f⟩
abbrev j0l:=(Int×Int)×Int×Int×Int×Int×List (Int)×qp×qq×qu×Unit→Option ((Int×Int)×Int×Int×Int×List (Int)×qp×qq×qu×Unit)
def y8d (f:j0l):LEnt:=⟨k1h,w3w,f⟩
abbrev j0m:=(Int×Int)×Int×Int×List (Int)×qp×qq×qu×Unit→Option (List (Int)×qp×qq×qu×Unit)
def y8e (f:j0m):LEnt:=⟨w0k,w3x,f⟩
abbrev x5u:=(Int×Int)×Int×List (Int)×qp×qq×qu×Unit→Option (List (Int)×qp×qq×qu×Unit)
def f2c (f:x5u):FEnt:=⟨f4a,j2q,f⟩
def v0c (f310:z1e) (f311:je):=lk [(310,f2j f310),(311,j4q f311)]
theorem z7a:zm Tryz.prog (v0c q8q j4p):=(kc b0w (kc b0x kn))
def j6o (f310:z1e) (f311:je):yn ((Int×Int)×Int×Int×Int×Int×List (Int)×qp×qq×qu×Unit) ((Int×Int)×Int×Int×Int×List (Int)×qp×qq×qu×Unit):=fun (x0,x1,x2,x3,x4,x5,x6,x7,x8,_) =>
 bif decide (x4≤x1) then
 (f310 (((↑(Int.toNat x0.1):Int),(↑(Int.toNat x0.2):Int)),x3,x4,x5,x6,x7,x8,())).bind fun v =>
 some
 (Sum.inl
 (((↑(Int.toNat x0.1):Int),(↑(Int.toNat x0.2):Int)),x1,x2,x4,IntKind.i64.wrap (x4+x2),v.1,
 v.2.1,v.2.2.1,v.2.2.2.1,()))
 else some (Sum.inr (((↑(Int.toNat x0.1):Int),(↑(Int.toNat x0.2):Int)),x1,x2,x3,x5,x6,x7,x8,()))
def q8o:j0k:=qd (j6o q8q j4p) jc
theorem k7z:jg 2 (qc (code Tryz.f299) [1,1,0,0,0]) (y8c q8o):=zl2 k1h f4t v0c j6o q8q j4p z7a
def j6p (f310:z1e) (f311:je):yn ((Int×Int)×Int×Int×Int×Int×List (Int)×qp×qq×qu×Unit) ((Int×Int)×Int×Int×Int×List (Int)×qp×qq×qu×Unit):=fun (x0,x1,x2,x3,x4,x5,x6,x7,x8,_) =>
 bif decide (x4≤x1) then
 (f311
 (((↑(Int.toNat x0.1):Int),(↑(Int.toNat x0.2):Int)),x3,IntKind.i64.wrap (x3+x2),x4,x5,x6,x7,x8,
 ())).bind
 fun v =>
 some
 (Sum.inl
 (((↑(Int.toNat x0.1):Int),(↑(Int.toNat x0.2):Int)),x1,x2,x4,
 IntKind.i64.wrap (x4+IntKind.i64.wrap (2*x2)),v.1,v.2.1,v.2.2.1,v.2.2.2.1,
 ()))
 else some (Sum.inr (((↑(Int.toNat x0.1):Int),(↑(Int.toNat x0.2):Int)),x1,x2,x3,x5,x6,x7,x8,()))
def q8p:j0l:=qd (j6p q8q j4p) jc
theorem k8a:jg 2 (qc (code Tryz.f299) [1,1,1,1,0,0,1,0,1,0,0,0]) (y8d q8p):=zl2 k1h w3w v0c j6p q8q j4p z7a
def k2l (f299_l1:j0l):Ann:=(.seq .nil (.blk (.seq .nil (.seq (.blk (.loop (y8d f299_l1))) .nil))))
def j6q (f310:z1e) (f311:je) (f299_l1:j0l):yn ((Int×Int)×Int×Int×List (Int)×qp×qq×qu×Unit) (List (Int)×qp×qq×qu×Unit):=fun (x0,x1,x2,x3,x4,x5,x6,_) =>
 bif decide (x2<x1) then
 (f299_l1
 (((↑(Int.toNat x0.1):Int),(↑(Int.toNat x0.2):Int)),x1,x2,0,IntKind.i64.wrap (2*x2),x3,x4,x5,
 x6,())).bind
 fun v =>
 bif decide (IntKind.i64.wrap (v.2.2.2.1+v.2.2.1)<v.2.1) then
 (f311
 (((↑(Int.toNat v.1.1):Int),(↑(Int.toNat v.1.2):Int)),v.2.2.2.1,
 IntKind.i64.wrap (v.2.2.2.1+v.2.2.1),v.2.1,v.2.2.2.2.1,
 v.2.2.2.2.2.1,v.2.2.2.2.2.2.1,v.2.2.2.2.2.2.2.1,
 ())).bind
 fun v1 =>
 some
 (Sum.inl
 (((↑(Int.toNat v.1.1):Int),(↑(Int.toNat v.1.2):Int)),v.2.1,
 IntKind.i64.wrap (v.2.2.1*2),v1.1,v1.2.1,v1.2.2.1,
 v1.2.2.2.1,()))
 else
 some
 (Sum.inl
 (((↑(Int.toNat v.1.1):Int),(↑(Int.toNat v.1.2):Int)),v.2.1,
 IntKind.i64.wrap (v.2.2.1*2),v.2.2.2.2.1,v.2.2.2.2.2.1,
 v.2.2.2.2.2.2.1,v.2.2.2.2.2.2.2.1,()))
 else some (Sum.inr (x3,x4,x5,x6,()))
theorem k4w (f310:z1e) (f311:je) (f299_l1:j0l):AqL (v0c f310 f311) 2 (qc (code Tryz.f299) [1,1,1,1,0,0]) (k2l f299_l1) w0k w3x (j6q f310 f311 f299_l1):=fun v=>by kernel_rfl
def z4d:j0m:=qd (j6q q8q j4p q8p) jc
theorem k8b:jg 2 (qc (code Tryz.f299) [1,1,1,1,0,0]) (y8e z4d) :=
 frm z7a (And.intro k8a trivial) (k4w q8q j4p q8p)
def b6s (f299_l0:j0k) (f299_l2:j0m):Ann:=(.seq .nil (.seq .nil (.seq (.blk (.loop (y8c f299_l0))) (.seq .nil (.blk (.loop (y8e f299_l2)))))))
def k0b (f310:z1e) (f311:je) (f299_l0:j0k) (f299_l2:j0m):x5u:=fun (x0,x1,x2,x3,x4,x5,_) =>
 (f299_l0 (((↑(Int.toNat x0.1):Int),(↑(Int.toNat x0.2):Int)),x1,20,0,20,x2,x3,x4,x5,())).bind
 fun v =>
 (f310
 (((↑(Int.toNat v.1.1):Int),(↑(Int.toNat v.1.2):Int)),v.2.2.2.1,v.2.1,
 v.2.2.2.2.1,v.2.2.2.2.2.1,v.2.2.2.2.2.2.1,
 v.2.2.2.2.2.2.2.1,())).bind
 fun v1 =>
 (f299_l2
 (((↑(Int.toNat v.1.1):Int),(↑(Int.toNat v.1.2):Int)),v.2.1,v.2.2.1,
 v1.1,v1.2.1,v1.2.2.1,v1.2.2.2.1,())).bind
 fun v=>some (v.1,v.2.1,v.2.2.1,v.2.2.2.1,())
theorem d1r (f310:z1e) (f311:je) (f299_l0:j0k) (f299_l2:j0m):yb (v0c f310 f311) 2 Tryz.f299 (b6s f299_l0 f299_l2) f4a j2q (k0b f310 f311 f299_l0 f299_l2):=fun v=>by kernel_rfl
def y2q:x5u:=k0b q8q j4p q8o z4d
theorem b0p:FO 299 (f2c y2q) :=
 qo z7a Tryz.func299 (And.intro k7z (And.intro k8b trivial)) (d1r q8q j4p q8o z4d)
abbrev z1c:=(Int×Int)×List (Int)×qp×qq×qu×Unit→Option (List (Int)×qp×qq×qu×Unit)
def f1m (f:z1c):FEnt:=⟨w0l,j2q,f⟩
def b4g (f299:x5u):=lk [(299,f2c f299)]
def v9l (f299:x5u):z1c:=fun (x0,x1,x2,x3,x4,_) =>
 (f299
 (((↑(Int.toNat x0.1):Int),(↑(Int.toNat x0.2):Int)),(↑(Int.toNat x0.2):Int),x1,x2,x3,x4,
 ())).bind
 fun v=>some (v.1,v.2.1,v.2.2.1,v.2.2.2.1,())
theorem d1m (f299:x5u):yb (b4g f299) 2 Tryz.f277 .nil w0l j2q (v9l f299):=fun v=>by kernel_rfl
def j4o:z1c:=v9l y2q
theorem f9y:FO 277 (f1m j4o) :=
 q0 (kc b0p kn) Tryz.func277 (d1m y2q)
abbrev q5a:=Int×Int×qp×qq×qu×List (Int)×Unit→Option (Int×Int×qp×qq×qu×List (Int)×Unit)
def y7f (f:q5a):LEnt:=⟨y9c,w3y,f⟩
abbrev q9w:=Int×Int×qp×qq×qu×List (Int)×Unit→Option (List (Int)×Unit)
def y7g (f:q9w):LEnt:=⟨y9c,w3z,f⟩
abbrev x4t:=qp×qq×qu×List (Int)×Unit→Option (List (Int)×Unit)
def f0j (f:x4t):FEnt:=⟨Li9,q0o,f⟩
def k0x (f275:z6e) (f276:q0t) (f277:z1c):=lk [(275,f1l f275),(276,x8u f276),(277,f1m f277)]
theorem y4k:zm Tryz.prog (k0x z0p xc j4o):=(kc f9x (kc x1z (kc f9y kn)))
def j6e (f275:z6e) (f276:q0t) (f277:z1c):q5a:=fun (x0,x1,x2,x3,x4,x5,_) =>
 bif decide (0≤x1)&&decide (x1≤(↑x5.length:Int)) then
 bif decide (0≤x0)&&decide (x0≤x1) then
 (f277 (((↑x0.toNat:Int),(↑(x1.toNat - x0.toNat):Int)),x5,x2,x3,x4,())).bind fun v =>
 some (IntKind.i64.wrap (x1+1),x1,v.2.1,v.2.2.1,v.2.2.2.1,v.1,())
 else none
 else none
theorem k4m (f275:z6e) (f276:q0t) (f277:z1c):AqC (k0x f275 f276 f277) 0 (qc (code Tryz.f239) [1,1,1,0,1,0,0,1,0,0,1]) .nil y9c w3y (j6e f275 f276 f277):=fun v=>by kernel_rfl
def kb:q5a:=j6e z0p xc j4o
theorem k7c:zb 0 (qc (code Tryz.f239) [1,1,1,0,1,0,0,1,0,0,1]) (y7f kb) :=
 frc y4k (k4m z0p xc j4o)
def k2g (f239_c0:q5a):Ann:=(.seq .nil (.seq (.blk (.cut .nil (y7f f239_c0))) .nil))
def j6f (f275:z6e) (f276:q0t) (f277:z1c) (f239_c0:q5a):yn (Int×Int×qp×qq×qu×List (Int)×Unit) (List (Int)×Unit):=fun (x0,x1,x2,x3,x4,x5,_) =>
 bif decide (x1≤(↑x5.length:Int)) then
 bif decide (x1<(↑x5.length:Int)) then
 bif decide (0≤x1)&&decide (x1<(↑x5.length:Int)) then
 (f276 (x2,x3,x4,x5.getD x1.toNat 0,())).bind fun v =>
 bif decide (v.1>0) then some (Sum.inl (x0,IntKind.i64.wrap (x1+1),x2,x3,x4,x5,()))
 else
 (f239_c0 (x0,x1,x2,x3,x4,x5,())).bind fun v =>
 some
 (Sum.inl
 (v.1,IntKind.i64.wrap (v.2.1+1),v.2.2.1,v.2.2.2.1,
 v.2.2.2.2.1,v.2.2.2.2.2.1,()))
 else none
 else
 (f239_c0 (x0,x1,x2,x3,x4,x5,())).bind fun v =>
 some
 (Sum.inl
 (v.1,IntKind.i64.wrap (v.2.1+1),v.2.2.1,v.2.2.2.1,v.2.2.2.2.1,
 v.2.2.2.2.2.1,()))
 else some (Sum.inr (x5,()))
theorem k4n (f275:z6e) (f276:q0t) (f277:z1c) (f239_c0:q5a):AqL (k0x f275 f276 f277) 0 (qc (code Tryz.f239) [1,1,1,0,1,0,0]) (k2g f239_c0) y9c w3z (j6f f275 f276 f277 f239_c0):=fun v=>by kernel_rfl
def z3x:q9w:=qd (j6f z0p xc j4o kb) jc
theorem k7d:jg 0 (qc (code Tryz.f239) [1,1,1,0,1,0,0]) (y7g z3x) :=
 frm y4k (And.intro k7c trivial) (k4n z0p xc j4o kb)
def b6a (f239_l0:q9w):Ann:=(.seq .nil (.seq .nil (.seq .nil (.seq (.seq .nil (.blk (.loop (y7g f239_l0)))) .nil))))
def v8v (f275:z6e) (f276:q0t) (f277:z1c) (f239_l0:q9w):x4t:=fun (x0,x1,x2,x3,_) =>
 (f275 (x3,())).bind fun v=>(f239_l0 (0,0,x0,x1,x2,v.1,())).bind fun v=>some (v.1,())
theorem d0x (f275:z6e) (f276:q0t) (f277:z1c) (f239_l0:q9w):yb (k0x f275 f276 f277) 0 Tryz.f239 (b6a f239_l0) Li9 q0o (v8v f275 f276 f277 f239_l0):=fun v=>by kernel_rfl
def y2m:x4t:=v8v z0p xc j4o z3x
theorem f8t:FO 239 (f0j y2m) :=
 qo y4k Tryz.func239 (And.intro k7d trivial) (d0x z0p xc j4o z3x)
abbrev j8x:=Int×Int×Int×Unit→Option (Bool×Unit)
def w9s (f:j8x):FEnt:=⟨f3m,qx,f⟩
def z8s:j8x:=fun (x0,x1,x2,_) =>
 bif decide (x0≥x1) then some (decide (x0<IntKind.i32.wrap (x1+IntKind.i32.wrap x2)),())
 else some (false,())
def ya:j8x:=z8s
theorem w8k:FO 300 (w9s ya):=zq0 f3m qx xj z8s kn Tryz.func300
abbrev z9i:=Int×Unit→Option (List (Int)×Unit)
def f2d (f:z9i):FEnt:=⟨q5t,q0o,f⟩
def k0c:z9i:=fun (x0,_) =>
 bif decide ((IntKind.i32.wrap (x0 - 44032)).tmod 28>0) then
 some
 ([IntKind.i32.wrap (4352+IntKind.i32.wrap ((IntKind.i32.wrap (x0 - 44032)).tdiv 588)),
 IntKind.i32.wrap (4449+(IntKind.i32.wrap ((IntKind.i32.wrap (x0 - 44032)).tdiv 28)).tmod 21)] ++
 [IntKind.i32.wrap (4519+(IntKind.i32.wrap (x0 - 44032)).tmod 28)],
 ())
 else
 some
 ([IntKind.i32.wrap (4352+IntKind.i32.wrap ((IntKind.i32.wrap (x0 - 44032)).tdiv 588)),
 IntKind.i32.wrap (4449+(IntKind.i32.wrap ((IntKind.i32.wrap (x0 - 44032)).tdiv 28)).tmod 21)],
 ())
def vm:z9i:=k0c
theorem b0q:FO 301 (f2d vm):=zq0 q5t q0o xj k0c kn Tryz.func301
abbrev j0n:=List (List (Int))×Int×List (List (Int))×Int×Int×Unit→Option (List (List (Int))×Int×Unit)
def y8f (f:j0n):LEnt:=⟨f3o,f4k,f⟩
abbrev j0o:=List (List (Int))×Int×Int×List (Int)×Unit→Option (List (Int)×Unit)
def y8g (f:j0o):LEnt:=⟨f3p,f4l,f⟩
abbrev z9j:=List (List (Int))×Unit→Option (List (Int)×Unit)
def f2e (f:z9j):FEnt:=⟨f3n,q0o,f⟩
def k1a (f312:y3j):=lk [(312,f2k f312)]
theorem y4n:zm Tryz.prog (k1a z0r):=(kc b0y kn)
def z5p (f312:y3j):yn (List (List (Int))×Int×List (List (Int))×Int×Int×Unit) (List (List (Int))×Int×Unit):=fun (x0,x1,x2,x3,x4,_) =>
 bif decide (x4<x3) then
 bif decide (0≤x4)&&decide (x4<(↑x2.length:Int)) then
 bif
 decide
 (IntKind.i64.wrap (x1+(↑(List.length (x2.getD x4.toNat [])):Int))<0) then
 none
 else
 some
 (Sum.inl
 (x0,IntKind.i64.wrap (x1+(↑(List.length (x2.getD x4.toNat [])):Int)),x2,x3,
 IntKind.i64.wrap (x4+1),()))
 else none
 else some (Sum.inr (x0,x1,()))
def j5o:j0n:=qd (z5p z0r) jc
theorem k8c:jg 0 (qc (code Tryz.f302) [1,1,0,1,0,0]) (y8f j5o):=zl1 f3o f4k k1a z5p z0r y4n
def z5q (f312:y3j):yn (List (List (Int))×Int×Int×List (Int)×Unit) (List (Int)×Unit):=fun (x0,x1,x2,x3,_) =>
 bif decide (x2<x1) then
 bif decide (0≤x2)&&decide (x2<(↑x0.length:Int)) then
 bif decide (x3.length+List.length (x0.getD x2.toNat [])≤140737488355328/4) then
 some
 (Sum.inl (x0,x1,IntKind.i64.wrap (x2+1),x3++x0.getD x2.toNat [],()))
 else none
 else none
 else some (Sum.inr (x3,()))
def j5p:j0o:=qd (z5q z0r) jc
theorem k8d:jg 0 (qc (code Tryz.f302) [1,1,1,1,0,1,0,0]) (y8g j5p):=zl1 f3p f4l k1a z5q z0r y4n
def b6t (f302_l0:j0n) (f302_l1:j0o):Ann:=(.seq .nil (.seq .nil (.seq (.seq .nil (.blk (.loop (y8f f302_l0)))) (.seq .nil (.seq (.seq .nil (.blk (.loop (y8g f302_l1)))) .nil)))))
def k0d (f312:y3j) (f302_l0:j0n) (f302_l1:j0o):z9j:=fun (x0,_) =>
 (f302_l0 (x0,0,x0,(↑x0.length:Int),0,())).bind fun v =>
 (f312 (v.2.1,())).bind fun v1 =>
 (f302_l1 (v.1,(↑(List.length v.1):Int),0,v1.1,())).bind fun v=>some (v.1,())
theorem d1s (f312:y3j) (f302_l0:j0n) (f302_l1:j0o):yb (k1a f312) 0 Tryz.f302 (b6t f302_l0 f302_l1) f3n q0o (k0d f312 f302_l0 f302_l1):=fun v=>by kernel_rfl
def vg:z9j:=k0d z0r j5o j5p
theorem b0r:FO 302 (f2e vg) :=
 qo y4n Tryz.func302 (And.intro k8c (And.intro k8d trivial)) (d1s z0r j5o j5p)
abbrev q5d:=Int×Bool×Bool×qp×qq×qu×Int×Int×Int×Bool×Bool×Unit→Option ((List (Int)×Unit)⊕(Bool×qp×qq×qu×Int×Int×Int×Bool×Bool×Unit))
def y7t (f:q5d):LEnt:=⟨g1o,g1t,f⟩
abbrev q6u:=qp×qq×qu×Int×Bool×Unit→Option (List (Int)×Unit)
def x8v (f:q6u):FEnt:=⟨g1n,q0o,f⟩
def g1g (f216:q5v) (f279:q6u) (f300:j8x) (f301:z9i) (f302:z9j):=lk [(216,x8o f216),(279,x8v f279),(300,w9s f300),(301,f2d f301),(302,f2e f302)]
theorem v3x (G:q6u) (hG:zi Tryz.prog 279 (x8v G)):zm Tryz.prog (g1g zp G ya vm vg):=(kc x1x (kc hG (kc w8k (kc b0q (kc b0r kn)))))
def yh (f216:q5v) (f279:q6u) (f300:j8x) (f301:z9i) (f302:z9j):q5d:=fun (x0,x1,x2,x3,x4,x5,x6,x7,x8,x9,x10,_) =>
 bif x2 then some (Sum.inl ([x0],()))
 else
 bif x8==0 then (f279 (x3,x4,x5,x7,x1,())).bind fun v=>some (Sum.inl (v.1,()))
 else some (Sum.inr (x1,x3,x4,x5,x6,x7,x8,x9,x10,()))
theorem k4u (f216:q5v) (f279:q6u) (f300:j8x) (f301:z9i) (f302:z9j):AqC (g1g f216 f279 f300 f301 f302) 0 (qc (code Tryz.f279) [1,1,0,0,1,1,1]) .nil g1o g1t (yh f216 f279 f300 f301 f302):=fun v=>by kernel_rfl
def q8j (G:q6u):q5d:=yh zp G ya vm vg
theorem k7q (G:q6u) (hG:zi Tryz.prog 279 (x8v G)):zb 0 (qc (code Tryz.f279) [1,1,0,0,1,1,1]) (y7t (q8j G)) :=
 kq (ins:=g1o) (os:=g1t) (n := .nil) (F:=(q8j G)) hm hΓ (v3x G hG) (ji _) (k4u zp G ya vm vg)
def b6k (f279_c0:q5d):Ann:=(.seq .nil (.seq .nil (.seq (.blk (.seq .nil (.cond .nil (.cut .nil (y7t f279_c0))))) .nil)))
def j2l (f216:q5v) (f279:q6u) (f300:j8x) (f301:z9i) (f302:z9j) (f279_c0:q5d):q6u:=fun (x0,x1,x2,x3,x4,_) =>
 (f216 (x0,x1,x2,x3,())).bind fun v =>
 (f300 (x3,44032,11172,())).bind fun v1 =>
 bif v1.1 then (f301 (x3,())).bind fun v=>some (v.1,())
 else
 bif !v.2.2.2.2.2.1 then
 (f279_c0
 (x3,x4,true,x0,x1,x2,v.1,v.2.1,v.2.2.1,v.2.2.2.1,
 v.2.2.2.2.1,())).bind
 fun v =>
 Sum.elim (fun v=>some (v.1,()))
 (fun v =>
 (f279 (v.2.1,v.2.2.1,v.2.2.2.1,v.2.2.2.2.2.1,v.1,())).bind
 fun v2 =>
 (f279
 (v.2.1,v.2.2.1,v.2.2.2.1,v.2.2.2.2.2.2.1,v.1,
 ())).bind
 fun v=>(f302 ([v2.1,v.1],())).bind fun v=>some (v.1,()))
 v
 else
 bif v.2.2.2.1 then
 (f279_c0
 (x3,x4,!x4,x0,x1,x2,v.1,v.2.1,v.2.2.1,v.2.2.2.1,
 v.2.2.2.2.1,())).bind
 fun v =>
 Sum.elim (fun v=>some (v.1,()))
 (fun v =>
 (f279
 (v.2.1,v.2.2.1,v.2.2.2.1,v.2.2.2.2.2.1,v.1,
 ())).bind
 fun v2 =>
 (f279
 (v.2.1,v.2.2.1,v.2.2.2.1,v.2.2.2.2.2.2.1,v.1,
 ())).bind
 fun v=>(f302 ([v2.1,v.1],())).bind fun v=>some (v.1,()))
 v
 else
 (f279_c0
 (x3,x4,false,x0,x1,x2,v.1,v.2.1,v.2.2.1,v.2.2.2.1,
 v.2.2.2.2.1,())).bind
 fun v =>
 Sum.elim (fun v=>some (v.1,()))
 (fun v =>
 (f279
 (v.2.1,v.2.2.1,v.2.2.2.1,v.2.2.2.2.2.1,v.1,
 ())).bind
 fun v2 =>
 (f279
 (v.2.1,v.2.2.1,v.2.2.2.1,v.2.2.2.2.2.2.1,v.1,
 ())).bind
 fun v=>(f302 ([v2.1,v.1],())).bind fun v=>some (v.1,()))
 v
theorem d1o (f216:q5v) (f279:q6u) (f300:j8x) (f301:z9i) (f302:z9j) (f279_c0:q5d):yb (g1g f216 f279 f300 f301 f302) 0 Tryz.f279 (b6k f279_c0) g1n q0o (j2l f216 f279 f300 f301 f302 f279_c0):=fun v=>by kernel_rfl
def z0q:q6u:=q1b (fun G=>j2l zp G ya vm vg (q8j G)) jc
theorem f9z:FO 279 (x8v z0q) :=
 y3w (ins:=g1n) (os:=q0o) (F:=fun G=>j2l zp G ya vm vg (q8j G)) (fun G hG=>qo (v3x G hG) Tryz.func279 (And.intro (k7q G hG) trivial) (d1o zp G ya vm vg (q8j G))) jc
abbrev j7e:=Bool×List (Int)×Int×Int×qp×qq×qu×List (Int)×Unit→Option (List (Int)×Unit)
def y7h (f:j7e):LEnt:=⟨f3r,f4m,f⟩
abbrev x4u:=qp×qq×qu×List (Int)×Bool×Unit→Option (List (Int)×Unit)
def f0k (f:x4u):FEnt:=⟨f3q,q0o,f⟩
def g1a (f279:q6u):=lk [(279,x8v f279)]
theorem v3u:zm Tryz.prog (g1a z0q):=(kc f9z kn)
def j6g (f279:q6u):yn (Bool×List (Int)×Int×Int×qp×qq×qu×List (Int)×Unit) (List (Int)×Unit):=fun (x0,x1,x2,x3,x4,x5,x6,x7,_) =>
 bif decide (x3<x2) then
 bif decide (0≤x3)&&decide (x3<(↑x1.length:Int)) then
 (f279 (x4,x5,x6,x1.getD x3.toNat 0,x0,())).bind fun v =>
 bif decide (x7.length+List.length v.1≤140737488355328/4) then
 some (Sum.inl (x0,x1,x2,IntKind.i64.wrap (x3+1),x4,x5,x6,x7++v.1,()))
 else none
 else none
 else some (Sum.inr (x7,()))
def q8b:j7e:=qd (j6g z0q) jc
theorem k7e:jg 0 (qc (code Tryz.f240) [1,1,0,1,0,0]) (y7h q8b):=zl1 f3r f4m g1a j6g z0q v3u
def b6b (f240_l0:j7e):Ann:=(.seq .nil (.seq .nil (.seq (.seq .nil (.blk (.loop (y7h f240_l0)))) .nil)))
def x3s (f279:q6u) (f240_l0:j7e):x4u:=fun (x0,x1,x2,x3,x4,_) =>
 (f240_l0 (x4,x3,(↑x3.length:Int),0,x0,x1,x2,[],())).bind fun v=>some (v.1,())
def x7p:x4u:=x3s z0q q8b
theorem f8u:FO 240 (f0k x7p):=vz f3q q0o g1a b6b x3s z0q q8b v3u Tryz.func240 (And.intro k7e trivial)
abbrev j0f:=Int×Int×Bool×qp×qq×qu×Unit→Option ((Int×Bool×Unit)⊕(Int×Int×qp×qq×qu×Unit))
def y7u (f:j0f):LEnt:=⟨w0m,w4a,f⟩
abbrev z9f:=qp×qq×qu×Int×Int×Unit→Option (Int×Bool×Unit)
def f1n (f:z9f):FEnt:=⟨Li5,Lo6,f⟩
def g1h (f300:j8x) (f303:v0w):=lk [(300,w9s f300),(303,f2f f303)]
theorem v3y:zm Tryz.prog (g1h ya q2o):=(kc w8k (kc b0s kn))
def q4e (f300:j8x) (f303:v0w):j0f:=fun (x0,x1,x2,x3,x4,x5,_) =>
 bif x2 then
 some
 (Sum.inl
 (IntKind.i32.wrap
 (44032 +
 IntKind.i32.wrap
 (IntKind.i32.wrap (IntKind.i32.wrap (IntKind.i32.wrap (IntKind.i32.wrap (x0 - 4352)*21)+x1) - 4449) *
 28)),
 true,()))
 else
 (f300 (x0,44032,11172,())).bind fun v =>
 bif v.1 then
 bif (IntKind.i32.wrap (x0 - 44032)).tmod 28==0 then
 (f300 (x1,4520,27,())).bind fun v =>
 bif v.1 then some (Sum.inl (IntKind.i32.wrap (IntKind.i32.wrap (x0+x1) - 4519),true,()))
 else some (Sum.inr (x0,x1,x3,x4,x5,()))
 else some (Sum.inr (x0,x1,x3,x4,x5,()))
 else some (Sum.inr (x0,x1,x3,x4,x5,()))
def ke:j0f:=q4e ya q2o
theorem k7r:zb 0 (qc (code Tryz.f280) [1,0,0,1]) (y7u ke):=zc2 w0m w4a g1h q4e ya q2o v3y
def b6l (f280_c0:j0f):Ann:=(.seq .nil (.seq (.blk (.cut .nil (y7u f280_c0))) .nil))
def x3v (f300:j8x) (f303:v0w) (f280_c0:j0f):z9f:=fun (x0,x1,x2,x3,x4,_) =>
 (f300 (x3,4352,19,())).bind fun v =>
 bif v.1 then
 (f300 (x4,4449,21,())).bind fun v =>
 (f280_c0 (x3,x4,v.1,x0,x1,x2,())).bind fun v =>
 Sum.elim (fun v=>some (v.1,v.2.1,()))
 (fun v =>
 (f303 (v.2.2.1,v.2.2.2.1,v.2.2.2.2.1,v.1,v.2.1,())).bind
 fun v=>some (v.1,v.2.1,()))
 v
 else
 (f280_c0 (x3,x4,false,x0,x1,x2,())).bind fun v =>
 Sum.elim (fun v=>some (v.1,v.2.1,()))
 (fun v =>
 (f303 (v.2.2.1,v.2.2.2.1,v.2.2.2.2.1,v.1,v.2.1,())).bind
 fun v=>some (v.1,v.2.1,()))
 v
def q8k:z9f:=x3v ya q2o ke
theorem b0a:FO 280 (f1n q8k):=j2c Li5 Lo6 g1h b6l x3v ya q2o ke v3y Tryz.func280 (And.intro k7r trivial)
abbrev q5b:=Int×Int×Int×Int×List (Int)×Int×Int×Bool×qp×qq×qu×List (Int)×Unit→Option ((Int×Int×List (Int)×Int×Int×qp×qq×qu×List (Int)×Unit)⊕(Int×Int×Int×Int×List (Int)×Int×Int×qp×qq×qu×List (Int)×Unit))
def y7i (f:q5b):LEnt:=⟨w0n,w4b,f⟩
abbrev j7f:=Int×Int×List (Int)×Int×Int×qp×qq×qu×List (Int)×Unit→Option (List (Int)×Unit)
def y7j (f:j7f):LEnt:=⟨w0o,w4c,f⟩
abbrev x4v:=qp×qq×qu×List (Int)×Unit→Option (List (Int)×Unit)
def f0l (f:x4v):FEnt:=⟨Li9,q0o,f⟩
def k0y (f276:q0t) (f280:z9f):=lk [(276,x8u f276),(280,f1n f280)]
theorem y4l:zm Tryz.prog (k0y xc q8k):=(kc x1z (kc b0a kn))
def q4d (f276:q0t) (f280:z9f):q5b:=fun (x0,x1,x2,x3,x4,x5,x6,x7,x8,x9,x10,x11,_) =>
 bif x7 then
 bif decide (0≤x0)&&decide (x0<(↑x11.length:Int)) then
 (f280 (x8,x9,x10,x11.getD x0.toNat 0,x2,())).bind fun v =>
 bif v.2.1 then
 bif decide (0≤x0)&&decide (x0<(↑x11.length:Int)) then
 some (Sum.inl (x0,x1,x4,x5,x6,x8,x9,x10,x11.set x0.toNat v.1,()))
 else none
 else some (Sum.inr (x0,x1,x2,x3,x4,x5,x6,x8,x9,x10,x11,()))
 else none
 else some (Sum.inr (x0,x1,x2,x3,x4,x5,x6,x8,x9,x10,x11,()))
def q1k:q5b:=q4d xc q8k
theorem k7f:zb 0 (qc (code Tryz.f241) [1,1,1,0,1,0,0,1,1,0,0,1,1,0,1]) (y7i q1k):=zc2 w0n w4b k0y q4d xc q8k y4l
def k2h (f241_c0:q5b):Ann:=(.seq .nil (.seq .nil (.seq (.blk (.seq .nil (.seq .nil (.seq (.cut .nil (y7i f241_c0)) .nil)))) .nil)))
def j6h (f276:q0t) (f280:z9f) (f241_c0:q5b):yn (Int×Int×List (Int)×Int×Int×qp×qq×qu×List (Int)×Unit) (List (Int)×Unit):=fun (x0,x1,x2,x3,x4,x5,x6,x7,x8,_) =>
 bif decide (x4<x3) then
 bif decide (0≤x4)&&decide (x4<(↑x2.length:Int)) then
 (f276 (x5,x6,x7,x2.getD x4.toNat 0,())).bind fun v =>
 bif decide (x0≥0) then
 bif decide (x1<v.1) then
 (f241_c0
 (x0,x1,x2.getD x4.toNat 0,v.1,x2,x3,x4,true,x5,x6,x7,x8,
 ())).bind
 fun v =>
 Sum.elim
 (fun v =>
 some
 (Sum.inl
 (v.1,v.2.1,v.2.2.1,v.2.2.2.1,
 IntKind.i64.wrap (v.2.2.2.2.1+1),v.2.2.2.2.2.1,
 v.2.2.2.2.2.2.1,v.2.2.2.2.2.2.2.1,
 v.2.2.2.2.2.2.2.2.1,())))
 (fun v =>
 bif
 decide
 (List.length v.2.2.2.2.2.2.2.2.2.2.1+[v.2.2.1].length ≤
 140737488355328/4) then
 bif v.2.2.2.1==0 then
 some
 (Sum.inl
 (IntKind.i64.wrap
 ((↑(v.2.2.2.2.2.2.2.2.2.2.1++[v.2.2.1]).length:Int) -
 1),
 0,v.2.2.2.2.1,v.2.2.2.2.2.1,
 IntKind.i64.wrap (v.2.2.2.2.2.2.1+1),v.2.2.2.2.2.2.2.1,
 v.2.2.2.2.2.2.2.2.1,v.2.2.2.2.2.2.2.2.2.1,
 v.2.2.2.2.2.2.2.2.2.2.1++[v.2.2.1],()))
 else
 some
 (Sum.inl
 (v.1,if v.2.2.2.1>v.2.1 then v.2.2.2.1 else v.2.1,
 v.2.2.2.2.1,v.2.2.2.2.2.1,
 IntKind.i64.wrap (v.2.2.2.2.2.2.1+1),v.2.2.2.2.2.2.2.1,
 v.2.2.2.2.2.2.2.2.1,v.2.2.2.2.2.2.2.2.2.1,
 v.2.2.2.2.2.2.2.2.2.2.1++[v.2.2.1],()))
 else none)
 v
 else
 (f241_c0
 (x0,x1,x2.getD x4.toNat 0,v.1,x2,x3,x4,
 x0==IntKind.i64.wrap ((↑x8.length:Int) - 1),x5,x6,x7,x8,())).bind
 fun v =>
 Sum.elim
 (fun v =>
 some
 (Sum.inl
 (v.1,v.2.1,v.2.2.1,v.2.2.2.1,
 IntKind.i64.wrap (v.2.2.2.2.1+1),v.2.2.2.2.2.1,
 v.2.2.2.2.2.2.1,v.2.2.2.2.2.2.2.1,
 v.2.2.2.2.2.2.2.2.1,())))
 (fun v =>
 bif
 decide
 (List.length v.2.2.2.2.2.2.2.2.2.2.1+[v.2.2.1].length ≤
 140737488355328/4) then
 bif v.2.2.2.1==0 then
 some
 (Sum.inl
 (IntKind.i64.wrap
 ((↑(v.2.2.2.2.2.2.2.2.2.2.1++[v.2.2.1]).length:Int) -
 1),
 0,v.2.2.2.2.1,v.2.2.2.2.2.1,
 IntKind.i64.wrap (v.2.2.2.2.2.2.1+1),v.2.2.2.2.2.2.2.1,
 v.2.2.2.2.2.2.2.2.1,v.2.2.2.2.2.2.2.2.2.1,
 v.2.2.2.2.2.2.2.2.2.2.1++[v.2.2.1],()))
 else
 some
 (Sum.inl
 (v.1,if v.2.2.2.1>v.2.1 then v.2.2.2.1 else v.2.1,
 v.2.2.2.2.1,v.2.2.2.2.2.1,
 IntKind.i64.wrap (v.2.2.2.2.2.2.1+1),v.2.2.2.2.2.2.2.1,
 v.2.2.2.2.2.2.2.2.1,v.2.2.2.2.2.2.2.2.2.1,
 v.2.2.2.2.2.2.2.2.2.2.1++[v.2.2.1],()))
 else none)
 v
 else
 (f241_c0
 (x0,x1,x2.getD x4.toNat 0,v.1,x2,x3,x4,false,x5,x6,x7,x8,())).bind
 fun v =>
 Sum.elim
 (fun v =>
 some
 (Sum.inl
 (v.1,v.2.1,v.2.2.1,v.2.2.2.1,
 IntKind.i64.wrap (v.2.2.2.2.1+1),v.2.2.2.2.2.1,
 v.2.2.2.2.2.2.1,v.2.2.2.2.2.2.2.1,
 v.2.2.2.2.2.2.2.2.1,())))
 (fun v =>
 bif
 decide
 (List.length v.2.2.2.2.2.2.2.2.2.2.1+[v.2.2.1].length ≤
 140737488355328/4) then
 bif v.2.2.2.1==0 then
 some
 (Sum.inl
 (IntKind.i64.wrap
 ((↑(v.2.2.2.2.2.2.2.2.2.2.1++[v.2.2.1]).length:Int) - 1),
 0,v.2.2.2.2.1,v.2.2.2.2.2.1,
 IntKind.i64.wrap (v.2.2.2.2.2.2.1+1),v.2.2.2.2.2.2.2.1,
 v.2.2.2.2.2.2.2.2.1,v.2.2.2.2.2.2.2.2.2.1,
 v.2.2.2.2.2.2.2.2.2.2.1++[v.2.2.1],()))
 else
 some
 (Sum.inl
 (v.1,if v.2.2.2.1>v.2.1 then v.2.2.2.1 else v.2.1,
 v.2.2.2.2.1,v.2.2.2.2.2.1,
 IntKind.i64.wrap (v.2.2.2.2.2.2.1+1),v.2.2.2.2.2.2.2.1,
 v.2.2.2.2.2.2.2.2.1,v.2.2.2.2.2.2.2.2.2.1,
 v.2.2.2.2.2.2.2.2.2.2.1++[v.2.2.1],()))
 else none)
 v
 else none
 else some (Sum.inr (x8,()))
theorem k4o (f276:q0t) (f280:z9f) (f241_c0:q5b):AqL (k0y f276 f280) 0 (qc (code Tryz.f241) [1,1,1,0,1,0,0]) (k2h f241_c0) w0o w4c (j6h f276 f280 f241_c0):=fun v=>by kernel_rfl
def q8c:j7f:=qd (j6h xc q8k q1k) jc
theorem k7g:jg 0 (qc (code Tryz.f241) [1,1,1,0,1,0,0]) (y7j q8c) :=
 frm y4l (And.intro k7f trivial) (k4o xc q8k q1k)
def b6c (f241_l0:j7f):Ann:=(.seq .nil (.seq .nil (.seq .nil (.seq (.seq .nil (.blk (.loop (y7j f241_l0)))) .nil))))
def x3t (f276:q0t) (f280:z9f) (f241_l0:j7f):x4v:=fun (x0,x1,x2,x3,_) =>
 (f241_l0 (-1,0,x3,(↑x3.length:Int),0,x0,x1,x2,[],())).bind fun v=>some (v.1,())
def x7q:x4v:=x3t xc q8k q8c
theorem f8v:FO 241 (f0l x7q):=j2c Li9 q0o k0y b6c x3t xc q8k q8c y4l Tryz.func241 (And.intro k7g trivial)
abbrev q4l:=Int×Bool×Unit→Option ((Int×Int×Unit)⊕Unit)
def y5s (f:q4l):LEnt:=⟨f3a,k1i,f⟩
abbrev q9c:=Int×Bool×Unit→Option ((Int×Int×Unit)⊕Unit)
def y5t (f:q9c):LEnt:=⟨f3b,k1i,f⟩
abbrev j8m:=Int×Unit→Option (Int×Int×Unit)
def g8y (f:j8m):FEnt:=⟨j4r,f4f,f⟩
def q3y:q4l:=fun (x0,x1,_) =>
 bif x1 then some (Sum.inl (2,IntKind.i32.wrap (intBits BinOp.and IntKind.u8 x0 15),()))
 else
 bif decide (x0≥240) then
 bif decide (x0<245) then some (Sum.inl (3,IntKind.i32.wrap (intBits BinOp.and IntKind.u8 x0 7),()))
 else some (Sum.inr ())
 else some (Sum.inr ())
def q1g:q4l:=q3y
theorem k5p:zb 0 (qc (code Tryz.f121) [1,0,0,1,1,1,1,1]) (y5s q1g):=zc0 f3a k1i xj q3y kn
def k1u (f121_c0:q4l):Ann:=(.cond .nil (.cut .nil (y5s f121_c0)))
def q3z (f121_c0:q4l):q9c:=fun (x0,x1,_) =>
 bif x1 then some (Sum.inl (1,IntKind.i32.wrap (intBits BinOp.and IntKind.u8 x0 31),()))
 else
 bif decide (x0≥224) then
 (f121_c0 (x0,decide (x0<240),())).bind fun v =>
 Sum.elim (fun v=>some (Sum.inl (v.1,v.2.1,()))) (fun v=>some (Sum.inr ())) v
 else
 (f121_c0 (x0,false,())).bind fun v =>
 Sum.elim (fun v=>some (Sum.inl (v.1,v.2.1,()))) (fun v=>some (Sum.inr ())) v
theorem k3r (f121_c0:q4l):AqC xj 0 (qc (code Tryz.f121) [1,0,0,1,1,1]) (k1u f121_c0) f3b k1i (q3z f121_c0):=fun v=>by kernel_rfl
def q1h:q9c:=q3z q1g
theorem k5q:zb 0 (qc (code Tryz.f121) [1,0,0,1,1,1]) (y5t q1h) :=
 frd kn (And.intro k5p trivial) (k3r q1g)
def b5b (f121_c1:q9c):Ann:=(.seq .nil (.seq (.blk (.seq .nil (.cond .nil (.cut .nil (y5t f121_c1))))) .nil))
def x3l (f121_c1:q9c):j8m:=fun (x0,_) =>
 bif decide (x0<128) then some (0,IntKind.i32.wrap x0,())
 else
 bif decide (x0≥194) then
 (f121_c1 (x0,decide (x0<224),())).bind fun v =>
 Sum.elim (fun v=>some (v.1,v.2.1,())) (fun v=>some (-1,0,())) v
 else
 (f121_c1 (x0,false,())).bind fun v =>
 Sum.elim (fun v=>some (v.1,v.2.1,())) (fun v=>some (-1,0,())) v
def ka:j8m:=x3l q1h
theorem f7d:FO 121 (g8y ka):=q6i j4r f4f xj b5b x3l q1h kn Tryz.func121 (And.intro k5q trivial)
abbrev j9a:=qa×Int×Int×Int×Int×List (Int)×Unit→Option ((qa×Int×Int×Int×List (Int)×Unit)⊕(Int×List (Int)×Unit))
def x9h (f:j9a):LEnt:=⟨f3c,f4h,f⟩
abbrev j9b:=qa×Int×List (Int)×Unit→Option ((List (Int)×Unit)⊕(Int×List (Int)×Unit))
def x9i (f:j9b):LEnt:=⟨f3d,f4i,f⟩
abbrev j8z:=Int×List (Int)×Unit→Option (Int×List (Int)×Unit)
def x9g (f:j8z):LEnt:=⟨x3x,k1j,f⟩
abbrev T83:=qa×Unit→Option (List (Int)×Int×Unit)
def E83 (f:T83):FEnt:=⟨xi,f4g,f⟩
def K83 (f121:j8m) (f122:q9d):=lk [(121,g8y f121),(122,w8t f122)]
theorem x0y:zm Tryz.prog (K83 ka yz):=(kc f7d (kc w7o kn))
def q2v (f121:j8m) (f122:q9d):yn (qa×Int×Int×Int×Int×List (Int)×Unit) ((qa×Int×Int×Int×List (Int)×Unit)⊕(Int×List (Int)×Unit)):=fun (x0,x1,x2,x3,x4,x5,_) =>
 bif decide (x4≤IntKind.i64.wrap (x3+x1)) then
 bif decide (0≤x4)&&decide (x4<(↑x0.length:Int)) then
 bif intBits BinOp.andNot IntKind.u8 (↑(x0.getD x4.toNat 0).toNat:Int) 63 != 128 then
 some (Sum.inr (Sum.inr (x3,x5,())))
 else
 bif decide (0≤x4)&&decide (x4<(↑x0.length:Int)) then
 some
 (Sum.inl
 (x0,x1,
 intBits BinOp.or IntKind.i32 (IntKind.i32.wrap (x2*2^min 6 IntKind.i32.bits))
 (IntKind.i32.wrap (intBits BinOp.and IntKind.u8 (↑(x0.getD x4.toNat 0).toNat:Int) 63)),
 x3,IntKind.i64.wrap (x4+1),x5,()))
 else none
 else none
 else some (Sum.inr (Sum.inl (x0,x1,x2,x3,x5,())))
def q2r:j9a:=qd (q2v ka yz) jc
theorem g6m:jg 0 (qc (code Tryz.f83) [1,0,1,1,1,1,0,0,0,1,0,1,1,0,1,0,0]) (x9h q2r):=zl2 f3c f4h K83 q2v ka yz x0y
def g2e (f83_l0:j9a):Ann:=(.seq .nil (.blk (.seq .nil (.seq .nil (.seq (.seq .nil (.blk (.loop (x9h f83_l0)))) .nil)))))
def vo (f121:j8m) (f122:q9d) (f83_l0:j9a):yn (qa×Int×List (Int)×Unit) ((List (Int)×Unit)⊕(Int×List (Int)×Unit)):=fun (x0,x1,x2,_) =>
 bif decide (x1<(↑x0.length:Int)) then
 bif decide (0≤x1)&&decide (x1<(↑x0.length:Int)) then
 (f121 ((↑(x0.getD x1.toNat 0).toNat:Int),())).bind fun v =>
 bif decide (v.1<0) then some (Sum.inr (Sum.inr (x1,x2,())))
 else
 bif decide (IntKind.i64.wrap ((↑x0.length:Int) - x1)≤v.1) then
 some (Sum.inr (Sum.inr (x1,x2,())))
 else
 (f83_l0 (x0,v.1,v.2.1,x1,IntKind.i64.wrap (x1+1),x2,())).bind fun v =>
 Sum.elim
 (fun v =>
 (f122 (v.2.2.1,())).bind fun v1 =>
 bif v1.1 != IntKind.i64.wrap (v.2.1+1) then
 some (Sum.inr (Sum.inr (v.2.2.2.1,v.2.2.2.2.1,())))
 else
 bif
 decide
 (List.length v.2.2.2.2.1+[v.2.2.1].length≤140737488355328/4) then
 some
 (Sum.inl
 (v.1,IntKind.i64.wrap (v.2.2.2.1+IntKind.i64.wrap (v.2.1+1)),
 v.2.2.2.2.1++[v.2.2.1],()))
 else none)
 (fun v=>some (Sum.inr (Sum.inr (v.1,v.2.1,())))) v
 else none
 else some (Sum.inr (Sum.inl (x2,())))
theorem g5r (f121:j8m) (f122:q9d) (f83_l0:j9a):AqL (K83 f121 f122) 0 (qc (code Tryz.f83) [1,0,1,1,1,1,0,0,0]) (g2e f83_l0) f3d f4i (vo f121 f122 f83_l0):=fun v=>by kernel_rfl
def q6p:j9b:=qd (vo ka yz q2r) jc
theorem g6n:jg 0 (qc (code Tryz.f83) [1,0,1,1,1,1,0,0,0]) (x9i q6p) :=
 frm x0y (And.intro g6m trivial) (g5r ka yz q2r)
def y2x (f121:j8m) (f122:q9d):yn (Int×List (Int)×Unit) (Int×List (Int)×Unit):=fun (x0,x1,_) =>
 some (Sum.inr (x0,x1,()))
theorem g5q (f121:j8m) (f122:q9d) (v:HS x3x):aev Γ (K83 f121 f122) 0 ((findLabel (qc (code Tryz.f83) [1,0]) 0).getD .skip) .nil (x7d x3x v) (kl 0 0 [] x3x k1j)=y2x f121 f122 v:=by kernel_rfl
def q2q:j8z:=qd (y2x ka yz) jc
theorem g6l:jp Tryz.prog 0 (jo Tryz.prog (qc (code Tryz.f83) [1,0]) 0) (x9g q2q) :=
 zw (ins:=x3x) (os:=k1j) (C:=q2q) (q1p (ins:=x3x) (os:=k1j) (n := .nil) (ls:=[]) (F:=y2x ka yz) (rest:=((findLabel (qc (code Tryz.f83) [1,0]) 0).getD .skip)) hm hΓ x0y (fun _=>jc) (by kernel_rfl) (ji _) q3d (g5q ka yz)) rfl
def N83 (f83_g0:j8z) (f83_l1:j9b):Ann:=(.seq .nil (.scope (.seq .nil (.seq .nil (.seq .nil (.seq .nil (.seq (.blk (.loop (x9i f83_l1))) .nil))))) [(0,(x9g f83_g0))]))
def F83 (f121:j8m) (f122:q9d) (f83_g0:j8z) (f83_l1:j9b):T83:=fun (x0,_) =>
 (f83_l1 (x0,0,[],())).bind fun v =>
 Sum.elim (fun v=>some (v.1,-1,()))
 (fun v=>(f83_g0 (v.1,v.2.1,())).bind fun v=>some (v.2.1,v.1,())) v
theorem h83 (f121:j8m) (f122:q9d) (f83_g0:j8z) (f83_l1:j9b):yb (K83 f121 f122) 0 Tryz.f83 (N83 f83_g0 f83_l1) xi f4g (F83 f121 f122 f83_g0 f83_l1):=fun v=>by kernel_rfl
def C83:T83:=F83 ka yz q2q q6p
theorem y1g:FO 83 (E83 C83) :=
 qo x0y Tryz.func83 (And.intro g6n (And.intro g6l trivial)) (h83 ka yz q2q q6p)
abbrev v0m:=qp×qq×qu×qa×Bool×Bool×Unit→Option (qa×Bool×Unit)
def f0a (f:v0m):FEnt:=⟨w0p,q6q,f⟩
def b3i (f178:j4u) (f239:x4t) (f240:x4u) (f241:x4v) (f83:T83):=lk [(178,v7j f178),(239,f0j f239),(240,f0k f240),(241,f0l f241),(83,E83 f83)]
def v8l (f178:j4u) (f239:x4t) (f240:x4u) (f241:x4v) (f83:T83):v0m:=fun (x0,x1,x2,x3,x4,x5,_) =>
 (f83 (x3,())).bind fun v =>
 bif decide (v.2.1≥0) then some ([],false,())
 else
 (f240 (x0,x1,x2,v.1,x4,())).bind fun v =>
 (f239 (x0,x1,x2,v.1,())).bind fun v =>
 bif x5 then
 (f241 (x0,x1,x2,v.1,())).bind fun v =>
 (f178 (v.1,())).bind fun v=>some (v.1,v.2.1,())
 else (f178 (v.1,())).bind fun v=>some (v.1,v.2.1,())
theorem d0r (f178:j4u) (f239:x4t) (f240:x4u) (f241:x4v) (f83:T83):yb (b3i f178 f239 f240 f241 f83) 0 Tryz.f213 .nil w0p q6q (v8l f178 f239 f240 f241 f83):=fun v=>by kernel_rfl
def y2k:v0m:=v8l z3k y2m x7p x7q C83
theorem f8j:FO 213 (f0a y2k) :=
 q0 (kc v5l (kc f8t (kc f8u (kc f8v (kc y1g kn))))) Tryz.func213 (d0r z3k y2m x7p x7q C83)
abbrev z9c:=qp×qq×qu×qa×Unit→Option (qa×Bool×Unit)
def w9a (f:z9c):FEnt:=⟨vp,q6q,f⟩
def b3a (f213:v0m):=lk [(213,f0a f213)]
def v8f (f213:v0m):z9c:=fun (x0,x1,x2,x3,_) =>
 (f213 (x0,x1,x2,x3,false,true,())).bind fun v=>some (v.1,v.2.1,())
def z3l:z9c:=v8f y2k
theorem w7u:FO 181 (w9a z3l):=wz vp q6q b3a v8f y2k (kc f8j kn) Tryz.func181
abbrev z0w:=qp×qq×qu×qa×Unit→Option (qa×Bool×Unit)
def w8x (f:z0w):FEnt:=⟨vp,q6q,f⟩
def b2p (f178:j4u) (f179:x4i) (f180:x4j) (f181:z9c) (f83:T83):=lk [(178,v7j f178),(179,g9o f179),(180,g9p f180),(181,w9a f181),(83,E83 f83)]
def x9r (f178:j4u) (f179:x4i) (f180:x4j) (f181:z9c) (f83:T83):z0w:=fun (x0,x1,x2,x3,_) =>
 (f83 (x3,())).bind fun v =>
 bif decide (v.2.1≥0) then some ([],false,())
 else
 (f180 (x0,x1,x2,v.1,())).bind fun v =>
 (f179 (x0,x1,x2,v.1,())).bind fun v =>
 (f178 (v.1,())).bind fun v =>
 (f181 (x0,x1,x2,v.1,())).bind fun v=>some (v.1,v.2.1,())
theorem d0j (f178:j4u) (f179:x4i) (f180:x4j) (f181:z9c) (f83:T83):yb (b2p f178 f179 f180 f181 f83) 0 Tryz.f151 .nil vp q6q (x9r f178 f179 f180 f181 f83):=fun v=>by kernel_rfl
def j2d:z0w:=x9r z3k x2u x2v z3l C83
theorem v5g:FO 151 (w8x j2d) :=
 q0 (kc v5l (kc f7w (kc f7y (kc w7u (kc y1g kn))))) Tryz.func151 (d0j z3k x2u x2v z3l C83)
abbrev z5y:=qa×Int×Int×Unit→Option (Unit⊕(Int×Unit))
def x8p (f:z5y):LEnt:=⟨w0q,w4d,f⟩
abbrev T21:=qa×Unit→Option (Int×Unit)
def E21 (f:T21):FEnt:=⟨xi,jd,f⟩
def y2v:yn (qa×Int×Int×Unit) (Unit⊕(Int×Unit)):=fun (x0,x1,x2,_) =>
 bif decide (x2<x1) then
 bif decide (0≤x2)&&decide (x2<(↑x0.length:Int)) then
 bif decide ((↑(x0.getD x2.toNat 0).toNat:Int)≥128) then some (Sum.inr (Sum.inr (x2,())))
 else some (Sum.inl (x0,x1,IntKind.i64.wrap (x2+1),()))
 else none
 else some (Sum.inr (Sum.inl ()))
def z3t:z5y:=qd (y2v) jc
theorem g6c:jg 0 (qc (code Tryz.f21) [1,0,1,0,0]) (x8p z3t):=zl0 w0q w4d xj y2v kn
def N21 (f21_l0:z5y):Ann:=(.seq .nil (.seq (.seq .nil (.blk (.loop (x8p f21_l0)))) .nil))
def F21 (f21_l0:z5y):T21:=fun (x0,_) =>
 (f21_l0 (x0,(↑x0.length:Int),0,())).bind fun v =>
 Sum.elim (fun v=>some (-1,())) (fun v=>some (v.1,())) v
def C21:T21:=F21 z3t
theorem g7b:FO 21 (E21 C21):=q6i xi jd xj N21 F21 z3t kn Tryz.func21 (And.intro g6c trivial)
abbrev j7g:=Int×Int×List (Int)×Int×Int×Unit→Option (Int×Unit)
def y7k (f:j7g):LEnt:=⟨w0s,w4e,f⟩
abbrev q9x:=List (Int)×Int×Unit→Option (Int×Unit)
def f0q (f:q9x):FEnt:=⟨w0r,z8u,f⟩
def z5d:yn (Int×Int×List (Int)×Int×Int×Unit) (Int×Unit):=fun (x0,x1,x2,x3,x4,_) =>
 bif decide (x4<x3) then
 bif decide (0≤x4)&&decide (x4<(↑x2.length:Int)) then
 bif decide (x2.getD x4.toNat 0≥x0) then
 bif decide (x1<0) then
 some (Sum.inl (x0,x2.getD (x4.toNat) 0,x2,x3,IntKind.i64.wrap (x4+1),()))
 else
 bif decide (x2.getD x4.toNat 0<x1) then
 some (Sum.inl (x0,x2.getD (x4.toNat) 0,x2,x3,IntKind.i64.wrap (x4+1),()))
 else some (Sum.inl (x0,x1,x2,x3,IntKind.i64.wrap (x4+1),()))
 else some (Sum.inl (x0,x1,x2,x3,IntKind.i64.wrap (x4+1),()))
 else none
 else some (Sum.inr (x1,()))
def j5i:j7g:=qd (z5d) jc
theorem k7h:jg 0 (qc (code Tryz.f250) [1,1,0,1,0,0]) (y7k j5i):=zl0 w0s w4e xj z5d kn
def b6d (f250_l0:j7g):Ann:=(.seq .nil (.seq .nil (.seq (.seq .nil (.blk (.loop (y7k f250_l0)))) .nil)))
def v9c (f250_l0:j7g):q9x:=fun (x0,x1,_) =>
 (f250_l0 (x1,-1,x0,(↑x0.length:Int),0,())).bind fun v=>some (v.1,())
def q6m:q9x:=v9c j5i
theorem f9b:FO 250 (f0q q6m):=q6i w0r z8u xj b6d v9c j5i kn Tryz.func250 (And.intro k7h trivial)
abbrev j0g:=Int×Int×Unit→Option (Int×Unit)
def w9r (f:j0g):FEnt:=⟨w0t,jd,f⟩
def v9w:j0g:=fun (x0,x1,_) =>
 some
 (if (if 26<IntKind.i64.wrap (x0 - x1) then 26 else IntKind.i64.wrap (x0 - x1))>1 then
 if 26<IntKind.i64.wrap (x0 - x1) then 26 else IntKind.i64.wrap (x0 - x1)
 else 1,
 ())
def q2n:j0g:=v9w
theorem w8j:FO 290 (w9r q2n):=zq0 w0t jd xj v9w kn Tryz.func290
abbrev j0h:=Int×Bool×Unit→Option ((Int×Bool×Unit)⊕Unit)
def y7x (f:j0h):LEnt:=⟨w0v,w4g,f⟩
abbrev z9h:=Int×Unit→Option (Int×Bool×Unit)
def f1w (f:z9h):FEnt:=⟨w0u,w4f,f⟩
def j6m:j0h:=fun (x0,x1,_) =>
 bif x1 then some (Sum.inl (IntKind.u8.wrap (97+IntKind.u8.wrap x0),true,()))
 else
 bif decide (x0≥26) then
 bif decide (x0<36) then
 some (Sum.inl (IntKind.u8.wrap (48+IntKind.u8.wrap (IntKind.i64.wrap (x0 - 26))),true,()))
 else some (Sum.inr ())
 else some (Sum.inr ())
def q8l:j0h:=j6m
theorem k7u:zb 0 (qc (code Tryz.f291) [1,0,0,1]) (y7x q8l):=zc0 w0v w4g xj j6m kn
def b6o (f291_c0:j0h):Ann:=(.seq .nil (.seq (.blk (.cut .nil (y7x f291_c0))) .nil))
def v9x (f291_c0:j0h):z9h:=fun (x0,_) =>
 bif decide (x0≥0) then
 (f291_c0 (x0,decide (x0<26),())).bind fun v =>
 Sum.elim (fun v=>some (v.1,v.2.1,())) (fun v=>some (0,false,())) v
 else
 (f291_c0 (x0,false,())).bind fun v =>
 Sum.elim (fun v=>some (v.1,v.2.1,())) (fun v=>some (0,false,())) v
def z4b:z9h:=v9x q8l
theorem b0j:FO 291 (f1w z4b):=q6i w0u w4f xj b6o v9x q8l kn Tryz.func291 (And.intro k7u trivial)
abbrev q9z:=Int×Int×Int×qa×Unit→Option (qa×Unit)
def y7l (f:q9z):LEnt:=⟨y9d,y9y,f⟩
abbrev q9y:=Int×Int×qa×Unit→Option (qa×Unit)
def f0r (f:q9y):FEnt:=⟨w0w,w4h,f⟩
def g1d (f290:j0g) (f291:z9h):=lk [(290,w9r f290),(291,f1w f291)]
theorem v3v:zm Tryz.prog (g1d q2n z4b):=(kc w8j (kc b0j kn))
def j6i (f290:j0g) (f291:z9h):yn (Int×Int×Int×qa×Unit) (qa×Unit):=fun (x0,x1,x2,x3,_) =>
 (f290 (x2,x1,())).bind fun v =>
 bif decide (x0<v.1) then
 (f291 (x0,())).bind fun v =>
 bif decide (x3.length+[UInt8.ofNat (Int.toNat v.1)].length≤140737488355328/1) then
 some (Sum.inr (x3++[UInt8.ofNat (Int.toNat v.1)],()))
 else none
 else
 bif IntKind.i64.wrap (36 - v.1) != 0 then
 (f291
 (IntKind.i64.wrap (v.1+(IntKind.i64.wrap (x0 - v.1)).tmod (IntKind.i64.wrap (36 - v.1))),
 ())).bind
 fun v1 =>
 bif decide (x3.length+[UInt8.ofNat (Int.toNat v1.1)].length≤140737488355328/1) then
 bif IntKind.i64.wrap (36 - v.1) != 0 then
 some
 (Sum.inl
 (IntKind.i64.wrap ((IntKind.i64.wrap (x0 - v.1)).tdiv (IntKind.i64.wrap (36 - v.1))),x1,
 IntKind.i64.wrap (x2+36),x3++[UInt8.ofNat (Int.toNat v1.1)],()))
 else none
 else none
 else none
theorem k4p (f290:j0g) (f291:z9h):AqL (g1d f290 f291) 1 (qc (code Tryz.f251) [1,1,0,0]) .nil y9d y9y (j6i f290 f291):=fun v=>by kernel_rfl
def q3v:q9z:=qd (j6i q2n z4b) jc
theorem k7i:jp Tryz.prog 1 (q2x Tryz.prog (qc (code Tryz.f251) [1,1,0,0])) (y7l q3v) :=
 zw (ins:=y9d) (os:=y9y) (C:=q3v) (y0f (ins:=y9d) (os:=y9y) (n := .nil) (F:=j6i q2n z4b) hm hΓ v3v (fun _=>jc) (ji _) (k4p q2n z4b)) rfl
def b6e (f251_l0:q9z):Ann:=(.seq .nil (.seq .nil (.blk (.peel .nil (y7l f251_l0)))))
def v9d (f290:j0g) (f291:z9h) (f251_l0:q9z):q9y:=fun (x0,x1,x2,_) =>
 (f290 (36,x1,())).bind fun v =>
 bif decide (x0<v.1) then
 (f291 (x0,())).bind fun v =>
 bif decide (x2.length+[UInt8.ofNat (Int.toNat v.1)].length≤140737488355328/1) then
 some (x2++[UInt8.ofNat (Int.toNat v.1)],())
 else none
 else
 bif IntKind.i64.wrap (36 - v.1) != 0 then
 (f291
 (IntKind.i64.wrap (v.1+(IntKind.i64.wrap (x0 - v.1)).tmod (IntKind.i64.wrap (36 - v.1))),
 ())).bind
 fun v1 =>
 bif decide (x2.length+[UInt8.ofNat (Int.toNat v1.1)].length≤140737488355328/1) then
 bif IntKind.i64.wrap (36 - v.1) != 0 then
 (f251_l0
 (IntKind.i64.wrap ((IntKind.i64.wrap (x0 - v.1)).tdiv (IntKind.i64.wrap (36 - v.1))),x1,
 IntKind.i64.wrap (36+36),x2++[UInt8.ofNat (Int.toNat v1.1)],())).bind
 fun v=>some (v.1,())
 else none
 else none
 else none
theorem d0y (f290:j0g) (f291:z9h) (f251_l0:q9z):yb (g1d f290 f291) 1 Tryz.f251 (b6e f251_l0) w0w w4h (v9d f290 f291 f251_l0):=fun v=>by kernel_rfl
def q6n:q9y:=v9d q2n z4b q3v
theorem f9c:FO 251 (f0r q6n) :=
 qo v3v Tryz.func251 (And.intro k7i trivial) (d0y q2n z4b q3v)
abbrev j0b:=Int×Int×Unit→Option (Int×Int×Unit)
def y7n (f:j0b):LEnt:=⟨w0y,w4i,f⟩
abbrev j0a:=Int×Int×Unit→Option (Int×Unit)
def y7m (f:j0a):LEnt:=⟨w0z,w4j,f⟩
abbrev q0p:=Int×Int×Bool×Unit→Option (Int×Unit)
def w9m (f:q0p):FEnt:=⟨w0x,jd,f⟩
def z5e:yn (Int×Int×Unit) (Int×Int×Unit):=fun (x0,x1,_) =>
 bif decide (x0>455) then some (Sum.inl (IntKind.i64.wrap (x0.tdiv 35),IntKind.i64.wrap (x1+36),()))
 else some (Sum.inr (x0,x1,()))
def q8f:j0b:=qd (z5e) jc
theorem k7k:jg 0 (qc (code Tryz.f252) [1,1,1,1,0,0,0]) (y7n q8f):=zl0 w0y w4i xj z5e kn
def k2i (f252_l0:j0b):Ann:=(.seq .nil (.seq .nil (.seq (.blk (.loop (y7n f252_l0))) .nil)))
def j6j (f252_l0:j0b):j0a:=fun (x0,x1,_) =>
 bif (if x1>1 then x1 else 1) != 0 then
 (f252_l0 (IntKind.i64.wrap (x0+IntKind.i64.wrap (x0.tdiv (if x1>1 then x1 else 1))),0,())).bind fun v =>
 bif IntKind.i64.wrap (v.1+38) != 0 then
 some
 (IntKind.i64.wrap
 (v.2.1+IntKind.i64.wrap ((IntKind.i64.wrap (36*v.1)).tdiv (IntKind.i64.wrap (v.1+38)))),
 ())
 else none
 else none
theorem k4q (f252_l0:j0b):AqC xj 0 (qc (code Tryz.f252) [1,1]) (k2i f252_l0) w0z w4j (j6j f252_l0):=fun v=>by kernel_rfl
def q8e:j0a:=j6j q8f
theorem k7j:zb 0 (qc (code Tryz.f252) [1,1]) (y7m q8e) :=
 frd kn (And.intro k7k trivial) (k4q q8f)
def b6f (f252_c0:j0a):Ann:=(.seq .nil (.cut .nil (y7m f252_c0)))
def v9e (f252_c0:j0a):q0p:=fun (x0,x1,x2,_) =>
 bif x2 then (f252_c0 (IntKind.i64.wrap (x0.tdiv 700),x1,())).bind fun v=>some (v.1,())
 else (f252_c0 (IntKind.i64.wrap (x0.tdiv 2),x1,())).bind fun v=>some (v.1,())
def q0a:q0p:=v9e q8e
theorem w8f:FO 252 (w9m q0a):=q6i w0x jd xj b6f v9e q8e kn Tryz.func252 (And.intro k7j trivial)
abbrev q9q:=List (Int)×List (Int)×Int×Int×qa×Unit→Option ((List (Int)×qa×Unit)⊕(qa×Bool×Unit))
def y6x (f:q9q):LEnt:=⟨w1a,w4k,f⟩
abbrev q9r:=List (Int)×Int×Int×Int×Int×Int×List (Int)×Int×Int×qa×Unit→Option (List (Int)×Int×Int×Int×Int×Int×qa×Unit)
def y6y (f:q9r):LEnt:=⟨w1b,w4l,f⟩
abbrev q9s:=List (Int)×Int×Int×Int×Int×Int×qa×Unit→Option ((qa×Unit)⊕(qa×Bool×Unit))
def y6z (f:q9s):LEnt:=⟨w1c,w4m,f⟩
abbrev q4y:=List (Int)×Int×qa×Unit→Option (qa×Bool×Unit)
def y6w (f:q4y):LEnt:=⟨w1d,w4n,f⟩
abbrev z5z:=List (Int)×Unit→Option (qa×Bool×Unit)
def w9i (f:z5z):FEnt:=⟨Li4,q6q,f⟩
def x3w (f155:wa) (f250:q9x) (f251:q9y) (f252:q0p):=lk [(155,v7g f155),(250,f0q f250),(251,f0r f251),(252,w9m f252)]
theorem j9t:zm Tryz.prog (x3w xb q6m q6n q0a):=(kc v5i (kc f9b (kc f9c (kc w8f kn))))
def z4x (f155:wa) (f250:q9x) (f251:q9y) (f252:q0p):yn (List (Int)×List (Int)×Int×Int×qa×Unit) ((List (Int)×qa×Unit)⊕(qa×Bool×Unit)):=fun (x0,x1,x2,x3,x4,_) =>
 bif decide (x3<x2) then
 bif decide (0≤x3)&&decide (x3<(↑x1.length:Int)) then
 (f155 (x1.getD x3.toNat 0,())).bind fun v =>
 bif !v.1 then some (Sum.inr (Sum.inr ([],false,())))
 else
 bif decide (x1.getD x3.toNat 0<128) then
 bif
 decide
 (x4.length+[UInt8.ofNat (IntKind.u8.wrap (x1.getD x3.toNat 0)).toNat].length ≤
 140737488355328/1) then
 some
 (Sum.inl
 (x0,x1,x2,IntKind.i64.wrap (x3+1),
 x4++[UInt8.ofNat (IntKind.u8.wrap (x1.getD x3.toNat 0)).toNat],()))
 else none
 else some (Sum.inl (x0,x1,x2,IntKind.i64.wrap (x3+1),x4,()))
 else none
 else some (Sum.inr (Sum.inl (x0,x4,())))
theorem k4h (f155:wa) (f250:q9x) (f251:q9y) (f252:q0p):AqL (x3w f155 f250 f251 f252) 0 (qc (code Tryz.f223) [1,1,0,1,0,0]) .nil w1a w4k (z4x f155 f250 f251 f252):=fun v=>by kernel_rfl
def q7z:q9q:=qd (z4x xb q6m q6n q0a) jc
theorem k6u:jg 0 (qc (code Tryz.f223) [1,1,0,1,0,0]) (y6x q7z) :=
 frl j9t (k4h xb q6m q6n q0a)
def z4y (f155:wa) (f250:q9x) (f251:q9y) (f252:q0p):yn (List (Int)×Int×Int×Int×Int×Int×List (Int)×Int×Int×qa×Unit) (List (Int)×Int×Int×Int×Int×Int×qa×Unit):=fun (x0,x1,x2,x3,x4,x5,x6,x7,x8,x9,_) =>
 bif decide (x8<x7) then
 bif decide (0≤x8)&&decide (x8<(↑x6.length:Int)) then
 bif decide (x6.getD x8.toNat 0<x2) then
 some (Sum.inl (x0,x1,x2,IntKind.i64.wrap (x3+1),x4,x5,x6,x7,IntKind.i64.wrap (x8+1),x9,()))
 else
 bif x6.getD x8.toNat 0==x2 then
 (f251 (x3,x4,x9,())).bind fun v =>
 (f252 (x3,IntKind.i64.wrap (x5+1),x5==x1,())).bind fun v1 =>
 some
 (Sum.inl
 (x0,x1,x2,0,v1.1,IntKind.i64.wrap (x5+1),x6,x7,IntKind.i64.wrap (x8+1),v.1,
 ()))
 else some (Sum.inl (x0,x1,x2,x3,x4,x5,x6,x7,IntKind.i64.wrap (x8+1),x9,()))
 else none
 else some (Sum.inr (x0,x1,x2,x3,x4,x5,x9,()))
theorem k4i (f155:wa) (f250:q9x) (f251:q9y) (f252:q0p):AqL (x3w f155 f250 f251 f252) 0 (qc (code Tryz.f223) [1,1,1,1,1,1,0,1,0,0,1,0,1,1,1,1,0,1,0,0]) .nil w1b w4l (z4y f155 f250 f251 f252):=fun v=>by kernel_rfl
def j5f:q9r:=qd (z4y xb q6m q6n q0a) jc
theorem k6v:jg 0 (qc (code Tryz.f223) [1,1,1,1,1,1,0,1,0,0,1,0,1,1,1,1,0,1,0,0]) (y6y j5f) :=
 frl j9t (k4i xb q6m q6n q0a)
def k2e (f223_l1:q9r):Ann:=(.seq .nil (.blk (.seq .nil (.seq .nil (.seq .nil (.seq .nil (.seq (.seq .nil (.blk (.loop (y6y f223_l1)))) .nil)))))))
def z4z (f155:wa) (f250:q9x) (f251:q9y) (f252:q0p) (f223_l1:q9r):yn (List (Int)×Int×Int×Int×Int×Int×qa×Unit) ((qa×Unit)⊕(qa×Bool×Unit)):=fun (x0,x1,x2,x3,x4,x5,x6,_) =>
 bif decide (x5<(↑x0.length:Int)) then
 (f250 (x0,x2,())).bind fun v =>
 bif
 decide
 (IntKind.i64.wrap
 (x3+IntKind.i64.wrap (IntKind.i64.wrap (IntKind.i32.wrap (v.1 - x2))*IntKind.i64.wrap (x5+1))) >
 2147483647) then
 some (Sum.inr (Sum.inr ([],false,())))
 else
 (f223_l1
 (x0,x1,v.1,
 IntKind.i64.wrap
 (x3 +
 IntKind.i64.wrap (IntKind.i64.wrap (IntKind.i32.wrap (v.1 - x2))*IntKind.i64.wrap (x5+1))),
 x4,x5,x0,(↑x0.length:Int),0,x6,())).bind
 fun v =>
 some
 (Sum.inl
 (v.1,v.2.1,IntKind.i32.wrap (v.2.2.1+1),IntKind.i64.wrap (v.2.2.2.1+1),
 v.2.2.2.2.1,v.2.2.2.2.2.1,v.2.2.2.2.2.2.1,()))
 else some (Sum.inr (Sum.inl (x6,())))
theorem k4j (f155:wa) (f250:q9x) (f251:q9y) (f252:q0p) (f223_l1:q9r):AqL (x3w f155 f250 f251 f252) 0 (qc (code Tryz.f223) [1,1,1,1,1,1,0,1,0,0]) (k2e f223_l1) w1c w4m (z4z f155 f250 f251 f252 f223_l1):=fun v=>by kernel_rfl
def q8a:q9s:=qd (z4z xb q6m q6n q0a j5f) jc
theorem k6w:jg 0 (qc (code Tryz.f223) [1,1,1,1,1,1,0,1,0,0]) (y6z q8a) :=
 frm j9t (And.intro k6v trivial) (k4j xb q6m q6n q0a j5f)
def k2d (f223_l2:q9s):Ann:=(.seq .nil (.seq (.seq .nil (.blk (.loop (y6z f223_l2)))) .nil))
def j6b (f155:wa) (f250:q9x) (f251:q9y) (f252:q0p) (f223_l2:q9s):q4y:=fun (x0,x1,x2,_) =>
 (f223_l2 (x0,x1,128,0,72,x1,x2,())).bind fun v =>
 Sum.elim (fun v=>some (v.1,true,())) (fun v=>some (v.1,v.2.1,())) v
theorem k4g (f155:wa) (f250:q9x) (f251:q9y) (f252:q0p) (f223_l2:q9s):AqC (x3w f155 f250 f251 f252) 0 (qc (code Tryz.f223) [1,1,1,1,1]) (k2d f223_l2) w1d w4n (j6b f155 f250 f251 f252 f223_l2):=fun v=>by kernel_rfl
def q7y:q4y:=j6b xb q6m q6n q0a q8a
theorem k6t:zb 0 (qc (code Tryz.f223) [1,1,1,1,1]) (y6w q7y) :=
 frd j9t (And.intro k6w trivial) (k4g xb q6m q6n q0a q8a)
def b5v (f223_c0:q4y) (f223_l0:q9q):Ann:=(.seq .nil (.seq .nil (.seq (.seq .nil (.blk (.loop (y6x f223_l0)))) (.seq .nil (.cut .nil (y6w f223_c0))))))
def v8q (f155:wa) (f250:q9x) (f251:q9y) (f252:q0p) (f223_c0:q4y) (f223_l0:q9q):z5z:=fun (x0,_) =>
 (f223_l0 (x0,x0,(↑x0.length:Int),0,[],())).bind fun v =>
 Sum.elim
 (fun v =>
 bif decide ((↑(List.length v.2.1):Int)>0) then
 bif decide (List.length v.2.1+[45].length≤140737488355328/1) then
 (f223_c0 (v.1,(↑(List.length v.2.1):Int),v.2.1++[45],())).bind
 fun v=>some (v.1,v.2.1,())
 else none
 else
 (f223_c0 (v.1,(↑(List.length v.2.1):Int),v.2.1,())).bind fun v =>
 some (v.1,v.2.1,()))
 (fun v=>some (v.1,v.2.1,())) v
theorem d0t (f155:wa) (f250:q9x) (f251:q9y) (f252:q0p) (f223_c0:q4y) (f223_l0:q9q):yb (x3w f155 f250 f251 f252) 0 Tryz.f223 (b5v f223_c0 f223_l0) Li4 q6q (v8q f155 f250 f251 f252 f223_c0 f223_l0):=fun v=>by kernel_rfl
def x2x:z5z:=v8q xb q6m q6n q0a q7y q7z
theorem w8b:FO 223 (w9i x2x) :=
 qo j9t Tryz.func223 (And.intro k6u (And.intro k6t trivial)) (d0t xb q6m q6n q0a q7y q7z)
abbrev x4y:=Int×Unit→Option (Bool×Int×Unit)
def f0t (f:x4y):FEnt:=⟨w1e,w4o,f⟩
def w9z:x4y:=fun (x0,_) =>
 some (decide (x0≥0),x0,())
theorem d0z:yb xj 1 Tryz.f254 .nil w1e w4o (w9z):=fun v=>by kernel_rfl
def x7r:x4y:=w9z
theorem f9e:FO 254 (f0t x7r) :=
 q0 kn Tryz.func254 (d0z)
abbrev x5a:=qp×qq×qu×qa×Unit→Option (Bool×Unit)
def f0v (f:x5a):FEnt:=⟨vp,qx,f⟩
def b3v (f181:z9c):=lk [(181,w9a f181)]
def g0a (f181:z9c):x5a:=fun (x0,x1,x2,x3,_) =>
 (f181 (x0,x1,x2,x3,())).bind fun v =>
 bif v.2.1 then some (v.1==x3,()) else some (false,())
def x7s:x5a:=g0a z3l
theorem f9g:FO 256 (f0v x7s):=wz vp qx b3v g0a z3l (kc w7u kn) Tryz.func256
abbrev x4z:=qa×qp×qq×qu×Unit→Option (Bool×qa×qp×qq×qu×Unit)
def f0u (f:x4z):FEnt:=⟨w1f,w4p,f⟩
def b3u (f21:T21) (f256:x5a):=lk [(21,E21 f21),(256,f0v f256)]
def x9y (f21:T21) (f256:x5a):x4z:=fun (x0,x1,x2,x3,_) =>
 (f21 (x0,())).bind fun v =>
 bif decide (v.1<0) then some (true,x0,x1,x2,x3,())
 else (f256 (x1,x2,x3,x0,())).bind fun v=>some (bif v.1 then false else true,x0,x1,x2,x3,())
theorem d1a (f21:T21) (f256:x5a):yb (b3u f21 f256) 2 Tryz.f255 .nil w1f w4p (x9y f21 f256):=fun v=>by kernel_rfl
def z8m:x4z:=x9y C21 x7s
theorem f9f:FO 255 (f0u z8m) :=
 q0 (kc g7b (kc f9g kn)) Tryz.func255 (d1a C21 x7s)
abbrev v0y:=qa×qa×Unit→Option (Bool×Unit)
def f2i (f:v0y):FEnt:=⟨zy,qx,f⟩
def g0j:v0y:=fun (x0,x1,_) =>
 bif decide ((↑x0.length:Int)≥(↑x1.length:Int)) then
 bif
 decide (0≤IntKind.i64.wrap ((↑x0.length:Int) - (↑x1.length:Int))) &&
 decide (IntKind.i64.wrap ((↑x0.length:Int) - (↑x1.length:Int))≤(↑x0.length:Int)) then
 some (List.drop (IntKind.i64.wrap ((↑x0.length:Int) - (↑x1.length:Int))).toNat x0==x1,())
 else none
 else some (false,())
def x8d:v0y:=g0j
theorem b0v:FO 308 (f2i x8d):=zq0 zy qx xj g0j kn Tryz.func308
abbrev v0t:=qa×qa×Unit→Option (Bool×Unit)
def f1x (f:v0t):FEnt:=⟨zy,qx,f⟩
def b4o (f308:v0y):=lk [(308,f2i f308)]
def g0h (f308:v0y):v0t:=fun (x0,x1,_) =>
 (f308 (x0,x1,())).bind fun v=>some (v.1,())
def x7z:v0t:=g0h x8d
theorem b0k:FO 292 (f1x x7z):=wz zy qx b4o g0h x8d (kc b0v kn) Tryz.func292
abbrev T96:=qa×qa×Unit→Option (Bool×Unit)
def E96 (f:T96):FEnt:=⟨zy,qx,f⟩
def K96 (f131:y3d):=lk [(131,w8u f131)]
def F96 (f131:y3d):T96:=fun (x0,x1,_) =>
 (f131 (x0,x1,())).bind fun v=>some (v.1,())
def C96:T96:=F96 z8a
theorem b1j:FO 96 (E96 C96):=wz zy qx K96 F96 z8a (kc w7p kn) Tryz.func96
abbrev z6c:=qa×Unit→Option (Bool×Unit)
def w9n (f:z6c):FEnt:=⟨xi,qx,f⟩
def b3x (f292:v0t) (f96:T96):=lk [(292,f1x f292),(96,E96 f96)]
def g0b (f292:v0t) (f96:T96):z6c:=fun (x0,_) =>
 (f96 (x0,[45],())).bind fun v =>
 bif v.1 then some (true,())
 else
 (f292 (x0,[45],())).bind fun v =>
 bif v.1 then some (true,())
 else
 bif decide ((↑x0.length:Int)>3) then
 bif decide (4≤(↑x0.length:Int)) then
 some (List.drop 2 (List.take 4 x0)==[45,45],())
 else none
 else some (false,())
def y2o:z6c:=g0b x7z C96
theorem w8g:FO 258 (w9n y2o):=zq2 xi qx b3x g0b x7z C96 (kc b0k (kc b1j kn)) Tryz.func258
abbrev x5b:=qa×Unit→Option (Bool×qa×Unit)
def f0w (f:x5b):FEnt:=⟨q2c,q2e,f⟩
def b3w (f258:z6c):=lk [(258,w9n f258)]
def v9f (f258:z6c):x5b:=fun (x0,_) =>
 (f258 (x0,())).bind fun v=>some (v.1,x0,())
theorem d1b (f258:z6c):yb (b3w f258) 1 Tryz.f257 .nil q2c q2e (v9f f258):=fun v=>by kernel_rfl
def y2n:x5b:=v9f y2o
theorem f9h:FO 257 (f0w y2n) :=
 q0 (kc w8g kn) Tryz.func257 (d1b y2o)
abbrev j2w:=qp×qq×qu×Int×Unit→Option (Int×Unit)
def v7k (f:j2w):FEnt:=⟨Li0,jd,f⟩
def b3k (f248:j8u):=lk [(248,x8s f248)]
def v8n (f248:j8u):j2w:=fun (x0,x1,x2,x3,_) =>
 (f248 (x0,x1,x2,x3,())).bind fun v=>some (v.2.2.1,())
def j4l:j2w:=v8n q8d
theorem v5m:FO 215 (v7k j4l):=wz Li0 jd b3k v8n q8d (kc x1y kn) Tryz.func215
abbrev x5c:=qp×qq×qu×List (Int)×Unit→Option (Bool×qp×qq×qu×List (Int)×Unit)
def f0x (f:x5c):FEnt:=⟨z1q,j3t,f⟩
def b3y (f215:j2w):=lk [(215,v7k f215)]
def v9g (f215:j2w):x5c:=fun (x0,x1,x2,x3,_) =>
 bif decide (0<(↑x3.length:Int)) then
 (f215 (x0,x1,x2,x3.getD 0 0,())).bind fun v =>
 some (v.1==4,x0,x1,x2,x3,())
 else none
theorem d1c (f215:j2w):yb (b3y f215) 2 Tryz.f259 .nil z1q j3t (v9g f215):=fun v=>by kernel_rfl
def y2p:x5c:=v9g j4l
theorem f9i:FO 259 (f0x y2p) :=
 q0 (kc v5m kn) Tryz.func259 (d1c j4l)
abbrev z6a:=Int×Unit→Option (Bool×Unit)
def w9k (f:z6a):FEnt:=⟨q5t,qx,f⟩
def v8w:z6a:=fun (x0,_) =>
 bif decide (x0≥1632) then some (decide (x0≤1641),()) else some (false,())
def j7x:z6a:=v8w
theorem w8d:FO 242 (w9k j7x):=zq0 q5t qx xj v8w kn Tryz.func242
abbrev z6b:=Int×Unit→Option (Bool×Unit)
def w9l (f:z6b):FEnt:=⟨q5t,qx,f⟩
def v8z:z6b:=fun (x0,_) =>
 bif decide (x0≥1776) then some (decide (x0≤1785),()) else some (false,())
def j7y:z6b:=v8z
theorem w8e:FO 245 (w9l j7y):=zq0 q5t qx xj v8z kn Tryz.func245
abbrev x4o:=Int×Unit→Option (Unit⊕Unit⊕Unit⊕Unit⊕Unit⊕Unit⊕Unit⊕Unit⊕Unit)
def f0b (f:x4o):FEnt:=⟨q5t,w4s,f⟩
def b3j (f242:z6a) (f245:z6b) (f247:v0p):=lk [(242,w9k f242),(245,w9l f245),(247,f0p f247)]
def v8m (f242:z6a) (f245:z6b) (f247:v0p):x4o:=fun (x0,_) =>
 (f242 (x0,())).bind fun v =>
 bif v.1 then some (Sum.inl ())
 else
 (f245 (x0,())).bind fun v =>
 bif v.1 then some (Sum.inr (Sum.inl ()))
 else
 (f247 ()).bind fun v =>
 bif decide (x0=8205) then some (Sum.inr (Sum.inr (Sum.inl ())))
 else
 bif decide (x0=8204) then some (Sum.inr (Sum.inr (Sum.inr (Sum.inl ()))))
 else
 bif decide (x0=183) then some (Sum.inr (Sum.inr (Sum.inr (Sum.inr (Sum.inl ())))))
 else
 bif decide (x0=885) then some (Sum.inr (Sum.inr (Sum.inr (Sum.inr (Sum.inr (Sum.inl ()))))))
 else
 bif decide (x0=1523) then
 some (Sum.inr (Sum.inr (Sum.inr (Sum.inr (Sum.inr (Sum.inr (Sum.inl ())))))))
 else
 bif decide (x0=1524) then
 some (Sum.inr (Sum.inr (Sum.inr (Sum.inr (Sum.inr (Sum.inr (Sum.inl ())))))))
 else
 bif decide (x0=12539) then
 some (Sum.inr (Sum.inr (Sum.inr (Sum.inr (Sum.inr (Sum.inr (Sum.inr (Sum.inl ()))))))))
 else
 some (Sum.inr (Sum.inr (Sum.inr (Sum.inr (Sum.inr (Sum.inr (Sum.inr (Sum.inr ()))))))))
theorem d0s (f242:z6a) (f245:z6b) (f247:v0p):yb (b3j f242 f245 f247) 0 Tryz.f214 .nil q5t w4s (v8m f242 f245 f247):=fun v=>by kernel_rfl
def z3s:x4o:=v8m j7x j7y v7c
theorem f8k:FO 214 (f0b z3s) :=
 q0 (kc w8d (kc w8e (kc f8z kn))) Tryz.func214 (d0s j7x j7y v7c)
abbrev j7i:=List (Int)×Int×Int×Unit→Option (Unit⊕(Int×Unit))
def y7v (f:j7i):LEnt:=⟨w1j,j3u,f⟩
abbrev v0r:=List (Int)×Unit→Option (Int×Unit)
def f1o (f:v0r):FEnt:=⟨y9e,jd,f⟩
def g1i (f245:z6b):=lk [(245,w9l f245)]
theorem v3z:zm Tryz.prog (g1i j7y):=(kc w8e kn)
def z5i (f245:z6b):yn (List (Int)×Int×Int×Unit) (Unit⊕(Int×Unit)):=fun (x0,x1,x2,_) =>
 bif decide (x2<x1) then
 bif decide (0≤x2)&&decide (x2<(↑x0.length:Int)) then
 (f245 (x0.getD x2.toNat 0,())).bind fun v =>
 bif v.1 then some (Sum.inr (Sum.inr (x2,())))
 else some (Sum.inl (x0,x1,IntKind.i64.wrap (x2+1),()))
 else none
 else some (Sum.inr (Sum.inl ()))
def j5l:j7i:=qd (z5i j7y) jc
theorem k7s:jg 0 (qc (code Tryz.f281) [1,0,1,0,0]) (y7v j5l):=zl1 w1j j3u g1i z5i j7y v3z
def b6m (f281_l0:j7i):Ann:=(.seq .nil (.seq (.seq .nil (.blk (.loop (y7v f281_l0)))) .nil))
def v9n (f245:z6b) (f281_l0:j7i):v0r:=fun (x0,_) =>
 (f281_l0 (x0,(↑x0.length:Int),0,())).bind fun v =>
 Sum.elim (fun v=>some (-1,())) (fun v=>some (v.1,())) v
def x7x:v0r:=v9n j7y j5l
theorem b0b:FO 281 (f1o x7x):=vz y9e jd g1i b6m v9n j7y j5l v3z Tryz.func281 (And.intro k7s trivial)
abbrev v0o:=List (Int)×Unit→Option (Bool×Unit)
def f0n (f:v0o):FEnt:=⟨y9e,qx,f⟩
def b3q (f281:v0r):=lk [(281,f1o f281)]
def v8y (f281:v0r):v0o:=fun (x0,_) =>
 (f281 (x0,())).bind fun v=>some (decide (v.1≥0),())
def v7b:v0o:=v8y x7x
theorem f8x:FO 244 (f0n v7b):=wz y9e qx b3q v8y x7x (kc b0b kn) Tryz.func244
abbrev x4w:=qp×qq×qu×List (Int)×Int×Unit→Option (Bool×Unit)
def f0m (f:x4w):FEnt:=⟨vv,qx,f⟩
def b3p (f244:v0o):=lk [(244,f0n f244)]
def v8x (f244:v0o):x4w:=fun (x0,x1,x2,x3,x4,_) =>
 (f244 (x3,())).bind fun v=>some (bif v.1 then false else true,())
def x2z:x4w:=v8x v7b
theorem f8w:FO 243 (f0m x2z):=wz vv qx b3p v8x v7b (kc f8x kn) Tryz.func243
abbrev q5e:=List (Int)×Int×Int×Unit→Option (Unit⊕(Int×Unit))
def z1o (f:q5e):LEnt:=⟨w1k,j3u,f⟩
abbrev j8w:=List (Int)×Unit→Option (Int×Unit)
def x8w (f:j8w):FEnt:=⟨y9f,jd,f⟩
def y3a (f242:z6a):=lk [(242,w9k f242)]
theorem y0o:zm Tryz.prog (y3a j7x):=(kc w8d kn)
def j2m (f242:z6a):yn (List (Int)×Int×Int×Unit) (Unit⊕(Int×Unit)):=fun (x0,x1,x2,_) =>
 bif decide (x2<x1) then
 bif decide (0≤x2)&&decide (x2<(↑x0.length:Int)) then
 (f242 (x0.getD x2.toNat 0,())).bind fun v =>
 bif v.1 then some (Sum.inr (Sum.inr (x2,())))
 else some (Sum.inl (x0,x1,IntKind.i64.wrap (x2+1),()))
 else none
 else some (Sum.inr (Sum.inl ()))
def q3w:q5e:=qd (j2m j7x) jc
theorem x6r:jg 0 (qc (code Tryz.f281) [1,0,1,0,0]) (z1o q3w):=zl1 w1k j3u y3a j2m j7x y0o
def g2a (f281v1_l0:q5e):Ann:=(.seq .nil (.seq (.seq .nil (.blk (.loop (z1o f281v1_l0)))) .nil))
def z5j (f242:z6a) (f281v1_l0:q5e):j8w:=fun (x0,_) =>
 (f281v1_l0 (x0,(↑x0.length:Int),0,())).bind fun v =>
 Sum.elim (fun v=>some (-1,())) (fun v=>some (v.1,())) v
def j8b:j8w:=z5j j7x q3w
theorem k9k:FO 281 (x8w j8b):=vz y9f jd y3a g2a z5j j7x q3w y0o Tryz.func281 (And.intro x6r trivial)
abbrev j8s:=List (Int)×Unit→Option (Bool×Unit)
def x8q (f:j8s):FEnt:=⟨y9f,qx,f⟩
def g1b (f281v1:j8w):=lk [(281,x8w f281v1)]
def z5b (f281v1:j8w):j8s:=fun (x0,_) =>
 (f281v1 (x0,())).bind fun v=>some (decide (v.1≥0),())
def z3y:j8s:=z5b j8b
theorem k9h:FO 244 (x8q z3y):=wz y9f qx g1b z5b j8b (kc k9k kn) Tryz.func244
abbrev x4x:=qp×qq×qu×List (Int)×Int×Unit→Option (Bool×Unit)
def f0o (f:x4x):FEnt:=⟨vv,qx,f⟩
def b3r (f244v1:j8s):=lk [(244,x8q f244v1)]
def v9a (f244v1:j8s):x4x:=fun (x0,x1,x2,x3,x4,_) =>
 (f244v1 (x3,())).bind fun v=>some (bif v.1 then false else true,())
def x3a:x4x:=v9a z3y
theorem f8y:FO 246 (f0o x3a):=wz vv qx b3r v9a z3y (kc k9h kn) Tryz.func246
abbrev j0p:=qp×qq×qu×List (Int)×Int×Int×Unit→Option (Int×Unit)
def x3k (f:j0p):FEnt:=⟨y9g,z8u,f⟩
def k0e:j0p:=fun (x0,x1,x2,x3,x4,x5,_) =>
 bif decide (IntKind.i64.wrap (x4+x5)<0) then some (-1,())
 else
 bif decide (IntKind.i64.wrap (x4+x5)≥(↑x3.length:Int)) then some (-1,())
 else
 bif decide (0≤IntKind.i64.wrap (x4+x5))&&decide (IntKind.i64.wrap (x4+x5)<(↑x3.length:Int)) then
 some (x3.getD ((IntKind.i64.wrap (x4+x5)).toNat) 0,())
 else none
def q0s:j0p:=k0e
theorem y1f:FO 304 (x3k q0s):=zq0 y9g z8u xj k0e kn Tryz.func304
abbrev z9g:=qp×qq×qu×List (Int)×Int×Unit→Option (Bool×Unit)
def w9q (f:z9g):FEnt:=⟨vv,qx,f⟩
def b4i (f276:q0t) (f304:j0p):=lk [(276,x8u f276),(304,x3k f304)]
def v9o (f276:q0t) (f304:j0p):z9g:=fun (x0,x1,x2,x3,x4,_) =>
 (f304 (x0,x1,x2,x3,x4,-1,())).bind fun v =>
 (f276 (x0,x1,x2,v.1,())).bind fun v=>some (v.1==9,())
def z4a:z9g:=v9o xc q0s
theorem w8i:FO 282 (w9q z4a):=zq2 vv qx b4i v9o xc q0s (kc x1z (kc y1f kn)) Tryz.func282
abbrev x5v:=qp×qq×qu×Int×Unit→Option (Int×Unit)
def f2l (f:x5v):FEnt:=⟨Li0,jd,f⟩
def b4r (f248:j8u):=lk [(248,x8s f248)]
def k0j (f248:j8u):x5v:=fun (x0,x1,x2,x3,_) =>
 (f248 (x0,x1,x2,x3,())).bind fun v=>some (v.2.2.2.2.1,())
def z8q:x5v:=k0j q8d
theorem b0z:FO 313 (f2l z8q):=wz Li0 jd b4r k0j q8d (kc x1y kn) Tryz.func313
abbrev j7l:=Int×Int×qp×qq×qu×List (Int)×Int×Unit→Option (Unit⊕(Int×Unit))
def y8h (f:j7l):LEnt:=⟨w1l,w4t,f⟩
abbrev v0x:=qp×qq×qu×List (Int)×Int×Int×Unit→Option (Int×Unit)
def f2g (f:v0x):FEnt:=⟨y9g,jd,f⟩
def g1l (f304:j0p) (f313:x5v):=lk [(304,x3k f304),(313,f2l f313)]
theorem v4c:zm Tryz.prog (g1l q0s z8q):=(kc y1f (kc b0z kn))
def z5r (f304:j0p) (f313:x5v):yn (Int×Int×qp×qq×qu×List (Int)×Int×Unit) (Unit⊕(Int×Unit)):=fun (x0,x1,x2,x3,x4,x5,x6,_) =>
 (f304 (x2,x3,x4,x5,x6,x1,())).bind fun v =>
 bif decide (v.1≥0) then
 (f304 (x2,x3,x4,x5,x6,x1,())).bind fun v =>
 (f313 (x2,x3,x4,v.1,())).bind fun v =>
 bif v.1 != 3 then some (Sum.inr (Sum.inr (v.1,())))
 else some (Sum.inl (x0,IntKind.i64.wrap (x1+x0),x2,x3,x4,x5,x6,()))
 else some (Sum.inr (Sum.inl ()))
def j5q:j7l:=qd (z5r q0s z8q) jc
theorem k8e:jg 0 (qc (code Tryz.f305) [1,0,1,0,0]) (y8h j5q):=zl2 w1l w4t g1l z5r q0s z8q v4c
def b6u (f305_l0:j7l):Ann:=(.seq .nil (.seq (.seq .nil (.blk (.loop (y8h f305_l0)))) .nil))
def k0f (f304:j0p) (f313:x5v) (f305_l0:j7l):v0x:=fun (x0,x1,x2,x3,x4,x5,_) =>
 (f305_l0 (x5,x5,x0,x1,x2,x3,x4,())).bind fun v =>
 Sum.elim (fun v=>some (0,())) (fun v=>some (v.1,())) v
def x8c:v0x:=k0f q0s z8q j5q
theorem b0t:FO 305 (f2g x8c):=j2c y9g jd g1l b6u k0f q0s z8q j5q v4c Tryz.func305 (And.intro k8e trivial)
abbrev x5o:=qp×qq×qu×List (Int)×Int×Unit→Option (Bool×Unit)
def f1p (f:x5o):FEnt:=⟨vv,qx,f⟩
def b4j (f282:z9g) (f305:v0x):=lk [(282,w9q f282),(305,f2g f305)]
def v9p (f282:z9g) (f305:v0x):x5o:=fun (x0,x1,x2,x3,x4,_) =>
 (f305 (x0,x1,x2,x3,x4,1,())).bind fun v =>
 (f282 (x0,x1,x2,x3,x4,())).bind fun v1 =>
 bif v1.1 then some (true,())
 else
 (f305 (x0,x1,x2,x3,x4,-1,())).bind fun v2 =>
 bif v2.1==1 then bif v.1==1 then some (true,()) else some (v.1==2,())
 else some (false,())
def x3e:x5o:=v9p z4a x8c
theorem b0c:FO 283 (f1p x3e):=zq2 vv qx b4j v9p z4a x8c (kc w8i (kc b0t kn)) Tryz.func283
abbrev x5p:=qp×qq×qu×List (Int)×Int×Unit→Option (Bool×Unit)
def f1q (f:x5p):FEnt:=⟨vv,qx,f⟩
def b4k (f304:j0p):=lk [(304,x3k f304)]
def v9q (f304:j0p):x5p:=fun (x0,x1,x2,x3,x4,_) =>
 (f304 (x0,x1,x2,x3,x4,-1,())).bind fun v =>
 bif v.1==108 then (f304 (x0,x1,x2,x3,x4,1,())).bind fun v=>some (v.1==108,())
 else some (false,())
def x3f:x5p:=v9q q0s
theorem b0d:FO 284 (f1q x3f):=wz vv qx b4k v9q q0s (kc y1f kn) Tryz.func284
abbrev z1d:=qp×qq×qu×Int×Unit→Option (Int×Unit)
def v7l (f:z1d):FEnt:=⟨Li0,jd,f⟩
def b4p (f248:j8u):=lk [(248,x8s f248)]
def k0g (f248:j8u):z1d:=fun (x0,x1,x2,x3,_) =>
 (f248 (x0,x1,x2,x3,())).bind fun v=>some (v.2.2.2.2.2.1,())
def j8d:z1d:=k0g q8d
theorem v5p:FO 306 (v7l j8d):=wz Li0 jd b4p k0g q8d (kc x1y kn) Tryz.func306
abbrev x5q:=qp×qq×qu×List (Int)×Int×Unit→Option (Bool×Unit)
def f1r (f:x5q):FEnt:=⟨vv,qx,f⟩
def b4l (f304:j0p) (f306:z1d):=lk [(304,x3k f304),(306,v7l f306)]
def v9r (f304:j0p) (f306:z1d):x5q:=fun (x0,x1,x2,x3,x4,_) =>
 (f304 (x0,x1,x2,x3,x4,1,())).bind fun v =>
 (f306 (x0,x1,x2,v.1,())).bind fun v=>some (v.1==2,())
def x3g:x5q:=v9r q0s j8d
theorem b0e:FO 285 (f1r x3g):=zq2 vv qx b4l v9r q0s j8d (kc y1f (kc v5p kn)) Tryz.func285
abbrev x5r:=qp×qq×qu×List (Int)×Int×Unit→Option (Bool×Unit)
def f1s (f:x5r):FEnt:=⟨vv,qx,f⟩
def b4m (f304:j0p) (f306:z1d):=lk [(304,x3k f304),(306,v7l f306)]
def v9s (f304:j0p) (f306:z1d):x5r:=fun (x0,x1,x2,x3,x4,_) =>
 (f304 (x0,x1,x2,x3,x4,-1,())).bind fun v =>
 (f306 (x0,x1,x2,v.1,())).bind fun v=>some (v.1==4,())
def x3h:x5r:=v9s q0s j8d
theorem b0f:FO 286 (f1s x3h):=zq2 vv qx b4m v9s q0s j8d (kc y1f (kc v5p kn)) Tryz.func286
abbrev y3i:=Int×qp×qq×qu×List (Int)×Int×Unit→Option (Bool×qp×qq×qu×List (Int)×Int×Unit)
def f2h (f:y3i):FEnt:=⟨w1m,x0a,f⟩
def b4q (f306:z1d):=lk [(306,v7l f306)]
def k0h (f306:z1d):y3i:=fun (x0,x1,x2,x3,x4,x5,_) =>
 (f306 (x1,x2,x3,x0,())).bind fun v =>
 bif v.1==7 then some (true,x1,x2,x3,x4,x5,())
 else some (v.1==8,x1,x2,x3,x4,x5,())
theorem d1t (f306:z1d):yb (b4q f306) 1 Tryz.f307 .nil w1m x0a (k0h f306):=fun v=>by kernel_rfl
def z8p:y3i:=k0h j8d
theorem b0u:FO 307 (f2h z8p) :=
 q0 (kc v5p kn) Tryz.func307 (d1t j8d)
abbrev q0u:=List (Int)×Int×Int×qp×qq×qu×List (Int)×Int×Unit→Option ((qp×qq×qu×List (Int)×Int×Unit)⊕(Int×qp×qq×qu×List (Int)×Int×Unit))
def z1p (f:q0u):LEnt:=⟨w1n,w4v,f⟩
abbrev j2y:=List (Int)×qp×qq×qu×List (Int)×Int×Unit→Option (Int×qp×qq×qu×List (Int)×Int×Unit)
def x8x (f:j2y):FEnt:=⟨y9h,w4u,f⟩
def y3b (f307:y3i):=lk [(307,f2h f307)]
theorem y0p:zm Tryz.prog (y3b z8p):=(kc b0u kn)
def j2n (f307:y3i):yn (List (Int)×Int×Int×qp×qq×qu×List (Int)×Int×Unit) ((qp×qq×qu×List (Int)×Int×Unit)⊕(Int×qp×qq×qu×List (Int)×Int×Unit)):=fun (x0,x1,x2,x3,x4,x5,x6,x7,_) =>
 bif decide (x2<x1) then
 bif decide (0≤x2)&&decide (x2<(↑x0.length:Int)) then
 (f307 (x0.getD x2.toNat 0,x3,x4,x5,x6,x7,())).bind fun v =>
 bif v.1 then
 some
 (Sum.inr
 (Sum.inr
 (x2,v.2.1,v.2.2.1,v.2.2.2.1,v.2.2.2.2.1,
 v.2.2.2.2.2.1,())))
 else
 some
 (Sum.inl
 (x0,x1,IntKind.i64.wrap (x2+1),v.2.1,v.2.2.1,v.2.2.2.1,
 v.2.2.2.2.1,v.2.2.2.2.2.1,()))
 else none
 else some (Sum.inr (Sum.inl (x3,x4,x5,x6,x7,())))
def q3x:q0u:=qd (j2n z8p) jc
theorem x6s:jg 1 (qc (code Tryz.f281) [1,0,1,0,0]) (z1p q3x):=zl1 w1n w4v y3b j2n z8p y0p
def g2b (f281v2_l0:q0u):Ann:=(.seq .nil (.seq (.seq .nil (.blk (.loop (z1p f281v2_l0)))) .nil))
def z5k (f307:y3i) (f281v2_l0:q0u):j2y:=fun (x0,x1,x2,x3,x4,x5,_) =>
 (f281v2_l0 (x0,(↑x0.length:Int),0,x1,x2,x3,x4,x5,())).bind fun v =>
 Sum.elim
 (fun v =>
 some (-1,v.1,v.2.1,v.2.2.1,v.2.2.2.1,v.2.2.2.2.1,()))
 (fun v =>
 some
 (v.1,v.2.1,v.2.2.1,v.2.2.2.1,v.2.2.2.2.1,
 v.2.2.2.2.2.1,()))
 v
theorem g5k (f307:y3i) (f281v2_l0:q0u):yb (y3b f307) 1 Tryz.f281 (g2b f281v2_l0) y9h w4u (z5k f307 f281v2_l0):=fun v=>by kernel_rfl
def j8c:j2y:=z5k z8p q3x
theorem k9l:FO 281 (x8x j8c) :=
 qo y0p Tryz.func281 (And.intro x6s trivial) (g5k z8p q3x)
abbrev j8t:=List (Int)×qp×qq×qu×List (Int)×Int×Unit→Option (Bool×qp×qq×qu×List (Int)×Int×Unit)
def x8r (f:j8t):FEnt:=⟨y9h,x0a,f⟩
def g1c (f281v2:j2y):=lk [(281,x8x f281v2)]
def z5c (f281v2:j2y):j8t:=fun (x0,x1,x2,x3,x4,x5,_) =>
 (f281v2 (x0,x1,x2,x3,x4,x5,())).bind fun v =>
 some
 (decide (v.1≥0),v.2.1,v.2.2.1,v.2.2.2.1,v.2.2.2.2.1,
 v.2.2.2.2.2.1,())
theorem g5i (f281v2:j2y):yb (g1c f281v2) 1 Tryz.f244 .nil y9h x0a (z5c f281v2):=fun v=>by kernel_rfl
def z3z:j8t:=z5c j8c
theorem k9i:FO 244 (x8r z3z) :=
 q0 (kc k9l kn) Tryz.func244 (g5i j8c)
abbrev x5s:=qp×qq×qu×List (Int)×Int×Unit→Option (Bool×Unit)
def f1t (f:x5s):FEnt:=⟨vv,qx,f⟩
def b4n (f244v2:j8t):=lk [(244,x8r f244v2)]
def v9t (f244v2:j8t):x5s:=fun (x0,x1,x2,x3,x4,_) =>
 (f244v2 (x3,x0,x1,x2,x3,x4,())).bind fun v=>some (v.1,())
def x3i:x5s:=v9t z3z
theorem b0g:FO 287 (f1t x3i):=wz vv qx b4n v9t z3z (kc k9i kn) Tryz.func287
abbrev z5w:=qp×qq×qu×List (Int)×Int×Unit→Option (Int×Unit)
def w9b (f:z5w):FEnt:=⟨w1o,jd,f⟩
def b3c (f214:x4o) (f243:x4w) (f246:x4x) (f282:z9g) (f283:x5o) (f284:x5p) (f285:x5q) (f286:x5r) (f287:x5s):=lk [(214,f0b f214),(243,f0m f243),(246,f0o f246),(282,w9q f282),(283,f1p f283),(284,f1q f284),(285,f1r f285),(286,f1s f286),(287,f1t f287)]
def x3p (f214:x4o) (f243:x4w) (f246:x4x) (f282:z9g) (f283:x5o) (f284:x5p) (f285:x5q) (f286:x5r) (f287:x5s):z5w:=fun (x0,x1,x2,x3,x4,_) =>
 bif decide (x4<0) then some (0,())
 else
 bif decide (x4≥(↑x3.length:Int)) then some (0,())
 else
 bif decide (0≤x4)&&decide (x4<(↑x3.length:Int)) then
 (f214 (x3.getD x4.toNat 0,())).bind fun v =>
 Sum.elim
 (fun v =>
 (f243 (x0,x1,x2,x3,x4,())).bind fun v =>
 bif v.1 then some (1,()) else some (2,()))
 (fun v =>
 Sum.elim
 (fun v =>
 (f246 (x0,x1,x2,x3,x4,())).bind fun v =>
 bif v.1 then some (1,()) else some (2,()))
 (fun v =>
 Sum.elim
 (fun v =>
 (f282 (x0,x1,x2,x3,x4,())).bind fun v =>
 bif v.1 then some (1,()) else some (2,()))
 (fun v =>
 Sum.elim
 (fun v =>
 (f283 (x0,x1,x2,x3,x4,())).bind fun v =>
 bif v.1 then some (1,()) else some (2,()))
 (fun v =>
 Sum.elim
 (fun v =>
 (f284 (x0,x1,x2,x3,x4,())).bind fun v =>
 bif v.1 then some (1,()) else some (2,()))
 (fun v =>
 Sum.elim
 (fun v =>
 (f285 (x0,x1,x2,x3,x4,())).bind fun v =>
 bif v.1 then some (1,()) else some (2,()))
 (fun v =>
 Sum.elim
 (fun v =>
 (f286 (x0,x1,x2,x3,x4,())).bind fun v =>
 bif v.1 then some (1,()) else some (2,()))
 (fun v =>
 Sum.elim
 (fun v =>
 (f287 (x0,x1,x2,x3,x4,())).bind fun v =>
 bif v.1 then some (1,()) else some (2,()))
 (fun v=>some (0,())) v)
 v)
 v)
 v)
 v)
 v)
 v)
 v
 else none
theorem d0n (f214:x4o) (f243:x4w) (f246:x4x) (f282:z9g) (f283:x5o) (f284:x5p) (f285:x5q) (f286:x5r) (f287:x5s):yb (b3c f214 f243 f246 f282 f283 f284 f285 f286 f287) 0 Tryz.f183 .nil w1o jd (x3p f214 f243 f246 f282 f283 f284 f285 f286 f287):=fun v=>by kernel_rfl
def j4j:z5w:=x3p z3s x2z x3a z4a x3e x3f x3g x3h x3i
theorem w7v:FO 183 (w9b j4j) :=
 q0 (kc f8k (kc f8w (kc f8y (kc w8i (kc b0c (kc b0d (kc b0e (kc b0f (kc b0g kn))))))))) Tryz.func183 (d0n z3s x2z x3a z4a x3e x3f x3g x3h x3i)
abbrev j8r:=qp×qq×qu×Int×Unit→Option (Bool×Unit)
def w9g (f:j8r):FEnt:=⟨Li0,qx,f⟩
def b3l (f215:j2w) (f216:q5v):=lk [(215,v7k f215),(216,x8o f216)]
def v8o (f215:j2w) (f216:q5v):j8r:=fun (x0,x1,x2,x3,_) =>
 (f216 (x0,x1,x2,x3,())).bind fun v =>
 bif v.2.2.2.2.2.1 then
 bif v.2.2.2.1 then some (false,())
 else
 bif v.2.2.2.2.1 then some (false,())
 else
 (f215 (x0,x1,x2,x3,())).bind fun v =>
 bif v.1==2 then some (true,())
 else
 bif v.1==3 then some (true,())
 else
 bif v.1==4 then some (true,())
 else bif v.1==5 then some (true,()) else some (x3==45,())
 else
 (f215 (x0,x1,x2,x3,())).bind fun v =>
 bif v.1==2 then some (true,())
 else
 bif v.1==3 then some (true,())
 else
 bif v.1==4 then some (true,())
 else bif v.1==5 then some (true,()) else some (x3==45,())
def q2k:j8r:=v8o j4l zp
theorem w8a:FO 217 (w9g q2k):=zq2 Li0 qx b3l v8o j4l zp (kc v5m (kc x1x kn)) Tryz.func217
abbrev j7h:=List (Int)×List (Int)×Int×Int×qp×qq×qu×Unit→Option (Unit⊕(Bool×Unit))
def y7o (f:j7h):LEnt:=⟨w1p,w4w,f⟩
abbrev x5e:=qp×qq×qu×List (Int)×Unit→Option (Bool×Unit)
def f0z (f:x5e):FEnt:=⟨Li9,qx,f⟩
def g1f (f183:z5w) (f217:j8r):=lk [(183,w9b f183),(217,w9g f217)]
theorem v3w:zm Tryz.prog (g1f j4j q2k):=(kc w7v (kc w8a kn))
def j6k (f183:z5w) (f217:j8r):yn (List (Int)×List (Int)×Int×Int×qp×qq×qu×Unit) (Unit⊕(Bool×Unit)):=fun (x0,x1,x2,x3,x4,x5,x6,_) =>
 bif decide (x3<x2) then
 bif decide (0≤x3)&&decide (x3<(↑x1.length:Int)) then
 (f183 (x4,x5,x6,x0,x3,())).bind fun v =>
 bif v.1==2 then some (Sum.inr (Sum.inr (true,())))
 else
 bif v.1==0 then
 (f217 (x4,x5,x6,x1.getD x3.toNat 0,())).bind fun v =>
 bif !v.1 then some (Sum.inr (Sum.inr (true,())))
 else some (Sum.inl (x0,x1,x2,IntKind.i64.wrap (x3+1),x4,x5,x6,()))
 else some (Sum.inl (x0,x1,x2,IntKind.i64.wrap (x3+1),x4,x5,x6,()))
 else none
 else some (Sum.inr (Sum.inl ()))
def q8g:j7h:=qd (j6k j4j q2k) jc
theorem k7l:jg 0 (qc (code Tryz.f261) [1,0,1,0,0]) (y7o q8g):=zl2 w1p w4w g1f j6k j4j q2k v3w
def b6h (f261_l0:j7h):Ann:=(.seq .nil (.seq (.seq .nil (.blk (.loop (y7o f261_l0)))) .nil))
def x3u (f183:z5w) (f217:j8r) (f261_l0:j7h):x5e:=fun (x0,x1,x2,x3,_) =>
 (f261_l0 (x3,x3,(↑x3.length:Int),0,x0,x1,x2,())).bind fun v =>
 Sum.elim (fun v=>some (false,())) (fun v=>some (v.1,())) v
def x3c:x5e:=x3u j4j q2k q8g
theorem f9k:FO 261 (f0z x3c):=j2c Li9 qx g1f b6h x3u j4j q2k q8g v3w Tryz.func261 (And.intro k7l trivial)
abbrev x5d:=qp×qq×qu×List (Int)×Unit→Option (Bool×qp×qq×qu×List (Int)×Unit)
def f0y (f:x5d):FEnt:=⟨z1q,j3t,f⟩
def b3z (f261:x5e):=lk [(261,f0z f261)]
def x9z (f261:x5e):x5d:=fun (x0,x1,x2,x3,_) =>
 (f261 (x0,x1,x2,x3,())).bind fun v=>some (v.1,x0,x1,x2,x3,())
theorem d1d (f261:x5e):yb (b3z f261) 2 Tryz.f260 .nil z1q j3t (x9z f261):=fun v=>by kernel_rfl
def x3b:x5d:=x9z x3c
theorem f9j:FO 260 (f0y x3b) :=
 q0 (kc f9k kn) Tryz.func260 (d1d x3c)
abbrev j7b:=List (Int)×Int×Int×qp×qq×qu×List (Int)×List (Int)×Unit→Option (List (Int)×List (Int)×Unit)
def y6q (f:j7b):LEnt:=⟨w1q,w4y,f⟩
abbrev j4v:=qp×qq×qu×List (Int)×Unit→Option (Int×Int×Int×Int×Int×Int×Int×Int×Unit)
def w9c (f:j4v):FEnt:=⟨Li9,w4x,f⟩
def g0u (f218:z9d):=lk [(218,w9h f218)]
theorem v3o:zm Tryz.prog (g0u q6l):=(kc v5n kn)
def z4w (f218:z9d):yn (List (Int)×Int×Int×qp×qq×qu×List (Int)×List (Int)×Unit) (List (Int)×List (Int)×Unit):=fun (x0,x1,x2,x3,x4,x5,x6,x7,_) =>
 bif decide (x2<x1) then
 bif decide (0≤x2)&&decide (x2<(↑x0.length:Int)) then
 (f218 (x3,x4,x5,x0.getD x2.toNat 0,())).bind fun v =>
 bif decide (x7.length=8) then
 bif decide (0≤v.1)&&decide (v.1<(↑8:Int)) then
 bif decide (Int.toNat v.1<x7.length) then
 bif decide (x7.length=8) then
 bif decide (0≤v.1)&&decide (v.1<(↑8:Int)) then
 bif decide (Int.toNat v.1<x7.length) then
 some
 (Sum.inl
 (x0,x1,IntKind.i64.wrap (x2+1),x3,x4,x5,x6,
 x7.set (Int.toNat v.1)
 (IntKind.i64.wrap (x7.getD (Int.toNat v.1) 0+1)),
 ()))
 else none
 else none
 else none
 else none
 else none
 else none
 else none
 else some (Sum.inr (x6,x7,()))
def j5e:j7b:=qd (z4w q6l) jc
theorem k6n:jg 0 (qc (code Tryz.f185) [1,1,0,1,0,0]) (y6q j5e):=zl1 w1q w4y g0u z4w q6l v3o
def b5q (f185_l0:j7b):Ann:=(.seq .nil (.seq .nil (.seq (.seq .nil (.blk (.loop (y6q f185_l0)))) .nil)))
def v8g (f218:z9d) (f185_l0:j7b):j4v:=fun (x0,x1,x2,x3,_) =>
 (f185_l0 (x3,(↑x3.length:Int),0,x0,x1,x2,[0,0,0,0,0,0,0,0],[0,0,0,0,0,0,0,0],())).bind
 fun v =>
 bif decide (List.length v.2.1=8) then
 bif decide (List.length v.1=8) then
 some
 (v.2.1.getD 0 0,v.2.1.getD 1 0,v.2.1.getD 2 0,
 v.2.1.getD 3 0,v.2.1.getD 4 0,v.2.1.getD 5 0,
 v.2.1.getD 6 0,v.2.1.getD 7 0,())
 else none
 else none
def q7w:j4v:=v8g q6l j5e
theorem w7w:FO 185 (w9c q7w):=vz Li9 w4x g0u b5q v8g q6l j5e v3o Tryz.func185 (And.intro k6n trivial)
abbrev q5u:=qp×qq×qu×List (Int)×Unit→Option (Bool×Unit)
def v7f (f:q5u):FEnt:=⟨Li9,qx,f⟩
def b2q (f185:j4v):=lk [(185,w9c f185)]
def v7y (f185:j4v):q5u:=fun (x0,x1,x2,x3,_) =>
 (f185 (x0,x1,x2,x3,())).bind fun v =>
 some
 (decide
 (IntKind.i64.wrap
 (IntKind.i64.wrap
 ([v.1,v.2.1,v.2.2.1,v.2.2.2.1,v.2.2.2.2.1,
 v.2.2.2.2.2.1,v.2.2.2.2.2.2.1,
 v.2.2.2.2.2.2.2.1].getD
 2 0 +
 [v.1,v.2.1,v.2.2.1,v.2.2.2.1,v.2.2.2.2.1,
 v.2.2.2.2.2.1,v.2.2.2.2.2.2.1,
 v.2.2.2.2.2.2.2.1].getD
 3 0) +
 [v.1,v.2.1,v.2.2.1,v.2.2.2.1,v.2.2.2.2.1,
 v.2.2.2.2.2.1,v.2.2.2.2.2.2.1,
 v.2.2.2.2.2.2.2.1].getD
 5 0) >
 0),
 ())
def q6j:q5u:=v7y q7w
theorem v5h:FO 153 (v7f q6j):=wz Li9 qx b2q v7y q7w (kc w7w kn) Tryz.func153
abbrev z0x:=qp×qq×qu×List (Int)×Unit→Option (Int×Unit)
def g9t (f:z0x):FEnt:=⟨Li9,jd,f⟩
def b3d (f218:z9d):=lk [(218,w9h f218)]
def v8h (f218:z9d):z0x:=fun (x0,x1,x2,x3,_) =>
 bif (↑x3.length:Int)==0 then some (0,())
 else
 bif decide (0<(↑x3.length:Int)) then
 (f218 (x0,x1,x2,x3.getD 0 0,())).bind fun v =>
 bif v.1==2 then some (2,())
 else
 bif v.1==3 then some (2,())
 else bif v.1==1 then some (v.1,()) else some (0,())
 else none
def j7w:z0x:=v8h q6l
theorem f8c:FO 187 (g9t j7w):=wz Li9 jd b3d v8h q6l (kc v5n kn) Tryz.func187
abbrev q4s:=Bool×Bool×List (Int)×Unit→Option (Bool×Unit)
def y6j (f:q4s):LEnt:=⟨w1r,x0b,f⟩
abbrev q4t:=Int×Bool×List (Int)×Unit→Option (Bool×Unit)
def y6k (f:q4t):LEnt:=⟨w1s,x0b,f⟩
abbrev z5v:=qp×qq×qu×List (Int)×Unit→Option (Bool×Unit)
def w8y (f:z5v):FEnt:=⟨Li9,qx,f⟩
def k0t (f153:q5u) (f185:j4v) (f186:z5x) (f187:z0x):=lk [(153,v7f f153),(185,w9c f185),(186,g9s f186),(187,g9t f187)]
theorem y4g:zm Tryz.prog (k0t q6j q7w j4k j7w):=(kc v5h (kc w7w (kc f8b (kc f8c kn))))
def j5t (f153:q5u) (f185:j4v) (f186:z5x) (f187:z0x):q4s:=fun (x0,x1,x2,_) =>
 bif decide (x2.length=8) then
 bif decide (Int.toNat 1<x2.length) then
 bif x2.getD 1 0==0 then
 bif x1 then some (bif x0 then false else true,()) else some (false,())
 else some (false,())
 else none
 else none
theorem k3z (f153:q5u) (f185:j4v) (f186:z5x) (f187:z0x):AqC (k0t f153 f185 f186 f187) 0 (qc (code Tryz.f154) [1,1,0,1,0,1,0,1,1]) .nil w1r x0b (j5t f153 f185 f186 f187):=fun v=>by kernel_rfl
def q7s:q4s:=j5t q6j q7w j4k j7w
theorem k6g:zb 0 (qc (code Tryz.f154) [1,1,0,1,0,1,0,1,1]) (y6j q7s) :=
 frc y4g (k3z q6j q7w j4k j7w)
def k2a (f154_c0:q4s):Ann:=(.cut .nil (y6j f154_c0))
def j5u (f153:q5u) (f185:j4v) (f186:z5x) (f187:z0x) (f154_c0:q4s):q4t:=fun (x0,x1,x2,_) =>
 bif x0==2 then (f154_c0 (x1,true,x2,())).bind fun v=>some (v.1,())
 else
 bif x0==3 then (f154_c0 (x1,true,x2,())).bind fun v=>some (v.1,())
 else
 bif x0==4 then (f154_c0 (x1,true,x2,())).bind fun v=>some (v.1,())
 else (f154_c0 (x1,x0==5,x2,())).bind fun v=>some (v.1,())
theorem k4a (f153:q5u) (f185:j4v) (f186:z5x) (f187:z0x) (f154_c0:q4s):AqC (k0t f153 f185 f186 f187) 0 (qc (code Tryz.f154) [1,1,0,1,0,1,0,1]) (k2a f154_c0) w1s x0b (j5u f153 f185 f186 f187 f154_c0):=fun v=>by kernel_rfl
def j5c:q4t:=j5u q6j q7w j4k j7w q7s
theorem k6h:zb 0 (qc (code Tryz.f154) [1,1,0,1,0,1,0,1]) (y6k j5c) :=
 frd y4g (And.intro k6g trivial) (k4a q6j q7w j4k j7w q7s)
def b5l (f154_c1:q4t):Ann:=(.seq .nil (.seq .nil (.seq (.seq .nil (.blk (.seq .nil (.cond (.cut .nil (y6k f154_c1)) .nil)))) .nil)))
def w9v (f153:q5u) (f185:j4v) (f186:z5x) (f187:z0x) (f154_c1:q4t):z5v:=fun (x0,x1,x2,x3,_) =>
 (f185 (x0,x1,x2,x3,())).bind fun v =>
 (f186 (x0,x1,x2,x3,())).bind fun v1 =>
 (f187 (x0,x1,x2,x3,())).bind fun v2 =>
 bif v2.1==2 then
 bif
 decide
 ([v.1,v.2.1,v.2.2.1,v.2.2.2.1,v.2.2.2.2.1,
 v.2.2.2.2.2.1,v.2.2.2.2.2.2.1,
 v.2.2.2.2.2.2.2.1].getD
 4 0 >
 0) then
 (f154_c1
 (v1.1,
 decide
 ([v.1,v.2.1,v.2.2.1,v.2.2.2.1,v.2.2.2.2.1,
 v.2.2.2.2.2.1,v.2.2.2.2.2.2.1,
 v.2.2.2.2.2.2.2.1].getD
 5 0 >
 0),
 [v.1,v.2.1,v.2.2.1,v.2.2.2.1,v.2.2.2.2.1,
 v.2.2.2.2.2.1,v.2.2.2.2.2.2.1,v.2.2.2.2.2.2.2.1],
 ())).bind
 fun v=>some (v.1,())
 else
 (f154_c1
 (v1.1,false,
 [v.1,v.2.1,v.2.2.1,v.2.2.2.1,v.2.2.2.2.1,
 v.2.2.2.2.2.1,v.2.2.2.2.2.2.1,v.2.2.2.2.2.2.2.1],
 ())).bind
 fun v=>some (v.1,())
 else
 bif v2.1==1 then
 (f153 (x0,x1,x2,x3,())).bind fun v =>
 bif !v.1 then bif v1.1==1 then some (true,()) else some (v1.1==4,())
 else some (false,())
 else some ((↑x3.length:Int)==0,())
theorem d0k (f153:q5u) (f185:j4v) (f186:z5x) (f187:z0x) (f154_c1:q4t):yb (k0t f153 f185 f186 f187) 0 Tryz.f154 (b5l f154_c1) Li9 qx (w9v f153 f185 f186 f187 f154_c1):=fun v=>by kernel_rfl
def y2g:z5v:=w9v q6j q7w j4k j7w j5c
theorem w7s:FO 154 (w8y y2g) :=
 qo y4g Tryz.func154 (And.intro k6h trivial) (d0k q6j q7w j4k j7w j5c)
abbrev x5f:=qp×qq×qu×List (Int)×Unit→Option (Bool×qp×qq×qu×List (Int)×Unit)
def f1a (f:x5f):FEnt:=⟨z1q,j3t,f⟩
def b4a (f153:q5u) (f154:z5v):=lk [(153,v7f f153),(154,w8y f154)]
def g0c (f153:q5u) (f154:z5v):x5f:=fun (x0,x1,x2,x3,_) =>
 (f153 (x0,x1,x2,x3,())).bind fun v =>
 bif v.1 then
 (f154 (x0,x1,x2,x3,())).bind fun v=>some (bif v.1 then false else true,x0,x1,x2,x3,())
 else some (false,x0,x1,x2,x3,())
theorem d1e (f153:q5u) (f154:z5v):yb (b4a f153 f154) 2 Tryz.f262 .nil z1q j3t (g0c f153 f154):=fun v=>by kernel_rfl
def x7t:x5f:=g0c q6j y2g
theorem f9l:FO 262 (f1a x7t) :=
 q0 (kc v5h (kc w7s kn)) Tryz.func262 (d1e q6j y2g)
abbrev x5g:=List (Int)×qa×Bool×Unit→Option (Bool×List (Int)×qa×Bool×Unit)
def f1b (f:x5g):FEnt:=⟨w1t,w4z,f⟩
def b4b (f223:z5z):=lk [(223,w9i f223)]
def g0d (f223:z5z):x5g:=fun (x0,x1,x2,_) =>
 (f223 (x0,())).bind fun v=>some (bif v.2.1 then false else true,x0,v.1,v.2.1,())
theorem d1f (f223:z5z):yb (b4b f223) 3 Tryz.f263 .nil w1t w4z (g0d f223):=fun v=>by kernel_rfl
def x7u:x5g:=g0d x2x
theorem f9m:FO 263 (f1b x7u) :=
 q0 (kc w8b kn) Tryz.func263 (d1f x2x)
abbrev x5h:=qa×Unit→Option (Bool×qa×Unit)
def f1c (f:x5h):FEnt:=⟨q2c,q2e,f⟩
def g0e:x5h:=fun (x0,_) =>
 some (decide (IntKind.i64.wrap (4+(↑x0.length:Int))>63),x0,())
theorem d1g:yb xj 1 Tryz.f264 .nil q2c q2e (g0e):=fun v=>by kernel_rfl
def x7v:x5h:=g0e
theorem f9n:FO 264 (f1c x7v) :=
 q0 kn Tryz.func264 (d1g)
abbrev v0q:=Int×Int×Int×Int×Int×Int×Int×Int×Int×qa×qp×qq×qu×List (Int)×qa×Bool×Unit→Option (Int×Int×Int×Int×Int×Int×Int×Int×Int×Int×qa×qp×qq×qu×List (Int)×qa×Bool×Unit)
def f0s (f:v0q):FEnt:=⟨w1u,w5a,f⟩
def b3t (f254:x4y) (f255:x4z) (f257:x5b) (f259:x5c) (f260:x5d) (f262:x5f) (f263:x5g) (f264:x5h):=lk [(254,f0t f254),(255,f0u f255),(257,f0w f257),(259,f0x f259),(260,f0y f260),(262,f1a f262),(263,f1b f263),(264,f1c f264)]
def b6g:Ann:=(.seq .nil (.seq (.seq .nil (.blk (.unroll 10 .nil))) .nil))
def x9x (f254:x4y) (f255:x4z) (f257:x5b) (f259:x5c) (f260:x5d) (f262:x5f) (f263:x5g) (f264:x5h):v0q:=fun (x0,x1,x2,x3,x4,x5,x6,x7,x8,x9,x10,x11,x12,x13,x14,x15,_) =>
 (f254 (x8,())).bind fun v =>
 bif v.1 then some (x0,x0,x1,x2,x3,x4,x5,x6,x7,v.2.1,x9,x10,x11,x12,x13,x14,x15,())
 else
 (f255 (x9,x10,x11,x12,())).bind fun v1 =>
 bif v1.1 then
 some
 (x1,x0,x1,x2,x3,x4,x5,x6,x7,v.2.1,v1.2.1,v1.2.2.1,v1.2.2.2.1,
 v1.2.2.2.2.1,x13,x14,x15,())
 else
 (f257 (v1.2.1,())).bind fun v2 =>
 bif v2.1 then
 some
 (x2,x0,x1,x2,x3,x4,x5,x6,x7,v.2.1,v2.2.1,v1.2.2.1,v1.2.2.2.1,
 v1.2.2.2.2.1,x13,x14,x15,())
 else
 (f259 (v1.2.2.1,v1.2.2.2.1,v1.2.2.2.2.1,x13,())).bind fun v3 =>
 bif v3.1 then
 some
 (x3,x0,x1,x2,x3,x4,x5,x6,x7,v.2.1,v2.2.1,v3.2.1,v3.2.2.1,
 v3.2.2.2.1,v3.2.2.2.2.1,x14,x15,())
 else
 (f260 (v3.2.1,v3.2.2.1,v3.2.2.2.1,v3.2.2.2.2.1,())).bind
 fun v4 =>
 bif v4.1 then
 some
 (x4,x0,x1,x2,x3,x4,x5,x6,x7,v.2.1,v2.2.1,v4.2.1,v4.2.2.1,
 v4.2.2.2.1,v4.2.2.2.2.1,x14,x15,())
 else
 (f262 (v4.2.1,v4.2.2.1,v4.2.2.2.1,v4.2.2.2.2.1,())).bind
 fun v5 =>
 bif v5.1 then
 some
 (x5,x0,x1,x2,x3,x4,x5,x6,x7,v.2.1,v2.2.1,v5.2.1,
 v5.2.2.1,v5.2.2.2.1,v5.2.2.2.2.1,x14,x15,())
 else
 (f263 (v5.2.2.2.2.1,x14,x15,())).bind fun v6 =>
 bif v6.1 then
 some
 (x6,x0,x1,x2,x3,x4,x5,x6,x7,v.2.1,v2.2.1,v5.2.1,
 v5.2.2.1,v5.2.2.2.1,v6.2.1,v6.2.2.1,
 v6.2.2.2.1,())
 else
 (f264 (v6.2.2.1,())).bind fun v7 =>
 bif v7.1 then
 some
 (x7,x0,x1,x2,x3,x4,x5,x6,x7,v.2.1,v2.2.1,v5.2.1,
 v5.2.2.1,v5.2.2.2.1,v6.2.1,v7.2.1,
 v6.2.2.2.1,())
 else
 some
 (0,x0,x1,x2,x3,x4,x5,x6,x7,v.2.1,v2.2.1,v5.2.1,
 v5.2.2.1,v5.2.2.2.1,v6.2.1,v7.2.1,
 v6.2.2.2.1,())
theorem k4r (f254:x4y) (f255:x4z) (f257:x5b) (f259:x5c) (f260:x5d) (f262:x5f) (f263:x5g) (f264:x5h):yb (b3t f254 f255 f257 f259 f260 f262 f263 f264) 7 Tryz.f253 b6g w1u w5a (x9x f254 f255 f257 f259 f260 f262 f263 f264):=fun v=>by kernel_rfl
def z8l:v0q:=x9x x7r z8m y2n y2p x3b x7t x7u x7v
theorem f9d:FO 253 (f0s z8l) :=
 qo (kc f9e (kc f9f (kc f9h (kc f9i (kc f9j (kc f9l (kc f9m (kc f9n kn)))))))) Tryz.func253 trivial (k4r x7r z8m y2n y2p x3b x7t x7u x7v)
abbrev x4p:=qp×qq×qu×qa×Unit→Option (Int×Unit)
def f0c (f:x4p):FEnt:=⟨vp,jd,f⟩
def b3n (f253:v0q) (f83:T83):=lk [(253,f0s f253),(83,E83 f83)]
def x9w (f253:v0q) (f83:T83):x4p:=fun (x0,x1,x2,x3,_) =>
 (f83 (x3,())).bind fun v =>
 (f253 (7,4,11,10,8,9,12,5,v.2.1,x3,x0,x1,x2,v.1,[],false,())).bind fun v =>
 some (v.1,())
def z3u:x4p:=x9w z8l C83
theorem f8m:FO 224 (f0c z3u):=zq2 vp jd b3n x9w z8l C83 (kc f9d (kc y1g kn)) Tryz.func224
abbrev x5i:=qa×Unit→Option (Bool×qa×Unit)
def f1d (f:x5i):FEnt:=⟨q2c,q2e,f⟩
def f2w:x5i:=fun (x0,_) =>
 some (x0==[],x0,())
theorem d1h:yb xj 1 Tryz.f265 .nil q2c q2e (f2w):=fun v=>by kernel_rfl
def w8q:x5i:=f2w
theorem f9o:FO 265 (f1d w8q) :=
 q0 kn Tryz.func265 (d1h)
abbrev x5j:=qa×Unit→Option (Bool×qa×Unit)
def f1e (f:x5j):FEnt:=⟨q2c,q2e,f⟩
def f2x:x5j:=fun (x0,_) =>
 some (decide ((↑x0.length:Int)>63),x0,())
theorem d1i:yb xj 1 Tryz.f266 .nil q2c q2e (f2x):=fun v=>by kernel_rfl
def w8r:x5j:=f2x
theorem f9p:FO 266 (f1e w8r) :=
 q0 kn Tryz.func266 (d1i)
abbrev q5c:=Int×Bool×Unit→Option (Bool×Unit)
def y7p (f:q5c):LEnt:=⟨y9i,x0c,f⟩
abbrev j0c:=Int×Bool×Unit→Option (Bool×Unit)
def y7q (f:j0c):LEnt:=⟨y9i,x0c,f⟩
abbrev x5l:=Int×Unit→Option (Bool×Unit)
def f1g (f:x5l):FEnt:=⟨q5t,qx,f⟩
def z5g:q5c:=fun (x0,x1,_) =>
 bif x1 then some (true,())
 else
 bif decide (x0≥48) then bif decide (x0≤57) then some (true,()) else some (x0==45,())
 else some (x0==45,())
def q8h:q5c:=z5g
theorem k7m:zb 0 (qc (code Tryz.f268) [1,0,0,0,1,1,1]) (y7p q8h):=zc0 y9i x0c xj z5g kn
def k2j (f268_c0:q5c):Ann:=(.cond .nil (.cut .nil (y7p f268_c0)))
def z5h (f268_c0:q5c):j0c:=fun (x0,x1,_) =>
 bif x1 then some (true,())
 else
 bif decide (x0≥65) then (f268_c0 (x0,decide (x0≤90),())).bind fun v=>some (v.1,())
 else (f268_c0 (x0,false,())).bind fun v=>some (v.1,())
theorem k4s (f268_c0:q5c):AqC xj 0 (qc (code Tryz.f268) [1,0,0,0,1]) (k2j f268_c0) y9i x0c (z5h f268_c0):=fun v=>by kernel_rfl
def q8i:j0c:=z5h q8h
theorem k7n:zb 0 (qc (code Tryz.f268) [1,0,0,0,1]) (y7q q8i) :=
 frd kn (And.intro k7m trivial) (k4s q8h)
def b6i (f268_c1:j0c):Ann:=(.seq .nil (.seq (.blk (.seq (.cut .nil (y7q f268_c1)) .nil)) .nil))
def g0f (f268_c1:j0c):x5l:=fun (x0,_) =>
 bif decide (x0≥97) then
 (f268_c1 (x0,decide (x0≤122),())).bind fun v =>
 bif v.1 then some (false,()) else some (true,())
 else (f268_c1 (x0,false,())).bind fun v=>bif v.1 then some (false,()) else some (true,())
def j8a:x5l:=g0f q8i
theorem f9r:FO 268 (f1g j8a):=q6i q5t qx xj b6i g0f q8i kn Tryz.func268 (And.intro k7n trivial)
abbrev j6z:=Bool×(qa×Int)×Unit→Option ((Int×Unit)⊕Unit)
def y6l (f:j6z):LEnt:=⟨w1w,x0d,f⟩
abbrev v0h:=qa×Bool×Unit→Option (Int×Unit)
def g9k (f:v0h):FEnt:=⟨w1v,jd,f⟩
def g0r (f268:x5l):=lk [(268,f1g f268)]
theorem v3l:zm Tryz.prog (g0r j8a):=(kc f9r kn)
def j5v (f268:x5l):yn (Bool×(qa×Int)×Unit) ((Int×Unit)⊕Unit):=fun (x0,x1,_) =>
 bif decide (Int.toNat x1.2<List.length x1.1) then
 (f268 ((↑(wc x1.1 (Int.toNat x1.2)).1:Int),())).bind fun v =>
 bif v.1==x0 then some (Sum.inr (Sum.inl ((↑(Int.toNat x1.2):Int),())))
 else some (Sum.inl (x0,(x1.1,(↑(Int.toNat x1.2+(wc x1.1 (Int.toNat x1.2)).2):Int)),()))
 else some (Sum.inr (Sum.inr ()))
def z3i:j6z:=qd (j5v j8a) jc
theorem k6i:jg 0 (qc (code Tryz.f156) [1,0,1,0,0]) (y6l z3i):=zl1 w1w x0d g0r j5v j8a v3l
def b5m (f156_l0:j6z):Ann:=(.seq .nil (.seq (.seq .nil (.blk (.loop (y6l f156_l0)))) .nil))
def v7z (f268:x5l) (f156_l0:j6z):v0h:=fun (x0,x1,_) =>
 (f156_l0 (x1,(x0,(↑0:Int)),())).bind fun v =>
 Sum.elim (fun v=>some (v.1,())) (fun v=>some (-1,())) v
def y2h:v0h:=v7z j8a z3i
theorem f7q:FO 156 (g9k y2h):=vz w1v jd g0r b5m v7z j8a z3i v3l Tryz.func156 (And.intro k6i trivial)
abbrev v0f:=qa×Unit→Option (Int×Unit)
def g8z (f:v0f):FEnt:=⟨y9j,jd,f⟩
def b2j (f156:v0h):=lk [(156,g9k f156)]
def v7p (f156:v0h):v0f:=fun (x0,_) =>
 (f156 (x0,true,())).bind fun v=>some (v.1,())
def x7j:v0f:=v7p y2h
theorem f7e:FO 123 (g8z x7j):=wz y9j jd b2j v7p y2h (kc f7q kn) Tryz.func123
abbrev T84:=qa×Unit→Option (Bool×Unit)
def E84 (f:T84):FEnt:=⟨y9j,qx,f⟩
def K84 (f123:v0f):=lk [(123,g8z f123)]
def F84 (f123:v0f):T84:=fun (x0,_) =>
 (f123 (x0,())).bind fun v=>some (decide (v.1≥0),())
def C84:T84:=F84 x7j
theorem d2w:FO 84 (E84 C84):=wz y9j qx K84 F84 x7j (kc f7e kn) Tryz.func84
abbrev x5k:=qa×Unit→Option (Bool×qa×Unit)
def f1f (f:x5k):FEnt:=⟨q2c,q2e,f⟩
def b4c (f84:T84):=lk [(84,E84 f84)]
def v9h (f84:T84):x5k:=fun (x0,_) =>
 (f84 (x0,())).bind fun v=>some (v.1,x0,())
theorem d1j (f84:T84):yb (b4c f84) 1 Tryz.f267 .nil q2c q2e (v9h f84):=fun v=>by kernel_rfl
def x7w:x5k:=v9h C84
theorem f9q:FO 267 (f1f x7w) :=
 q0 (kc d2w kn) Tryz.func267 (d1j C84)
abbrev x5m:=qa×Unit→Option (Bool×qa×Unit)
def f1h (f:x5m):FEnt:=⟨q2c,q2e,f⟩
def b4d (f258:z6c):=lk [(258,w9n f258)]
def g0g (f258:z6c):x5m:=fun (x0,_) =>
 (f258 (x0,())).bind fun v=>some (v.1,x0,())
theorem d1k (f258:z6c):yb (b4d f258) 1 Tryz.f269 .nil q2c q2e (g0g f258):=fun v=>by kernel_rfl
def v7d:x5m:=g0g y2o
theorem f9s:FO 269 (f1h v7d) :=
 q0 (kc w8g kn) Tryz.func269 (d1k y2o)
abbrev j8v:=Int×Int×Int×Int×qa×Unit→Option (Int×Int×Int×Int×Int×qa×Unit)
def x8t (f:j8v):FEnt:=⟨w1x,w5b,f⟩
def g1e (f265:x5i) (f266:x5j) (f267:x5k) (f269:x5m):=lk [(265,f1d f265),(266,f1e f266),(267,f1f f267),(269,f1h f269)]
def g1z:Ann:=(.seq .nil (.seq (.seq .nil (.blk (.unroll 6 .nil))) .nil))
def z5f (f265:x5i) (f266:x5j) (f267:x5k) (f269:x5m):j8v:=fun (x0,x1,x2,x3,x4,_) =>
 (f265 (x4,())).bind fun v =>
 bif v.1 then some (x0,x0,x1,x2,x3,v.2.1,())
 else
 (f266 (v.2.1,())).bind fun v =>
 bif v.1 then some (x1,x0,x1,x2,x3,v.2.1,())
 else
 (f267 (v.2.1,())).bind fun v =>
 bif v.1 then some (x2,x0,x1,x2,x3,v.2.1,())
 else
 (f269 (v.2.1,())).bind fun v =>
 bif v.1 then some (x3,x0,x1,x2,x3,v.2.1,())
 else some (0,x0,x1,x2,x3,v.2.1,())
theorem g5j (f265:x5i) (f266:x5j) (f267:x5k) (f269:x5m):yb (g1e f265 f266 f267 f269) 2 Tryz.f253 g1z w1x w5b (z5f f265 f266 f267 f269):=fun v=>by kernel_rfl
def j7z:j8v:=z5f w8q w8r x7w v7d
theorem k9j:FO 253 (x8t j7z) :=
 qo (kc f9o (kc f9p (kc f9q (kc f9s kn)))) Tryz.func253 trivial (g5j w8q w8r x7w v7d)
abbrev x4q:=qa×Unit→Option (Int×Unit)
def f0d (f:x4q):FEnt:=⟨xi,jd,f⟩
def b3o (f253v1:j8v):=lk [(253,x8t f253v1)]
def v8r (f253v1:j8v):x4q:=fun (x0,_) =>
 (f253v1 (13,5,8,11,x0,())).bind fun v=>some (v.1,())
def z8i:x4q:=v8r j7z
theorem f8n:FO 225 (f0d z8i):=wz xi jd b3o v8r j7z (kc k9j kn) Tryz.func225
abbrev j7k:=qa×Int×Int×Unit→Option (Unit⊕(Int×Unit))
def y7y (f:j7k):LEnt:=⟨w1y,j3u,f⟩
abbrev v0u:=qa×Int×Unit→Option (Int×Unit)
def f1y (f:v0u):FEnt:=⟨z0v,jd,f⟩
def j6n:yn (qa×Int×Int×Unit) (Unit⊕(Int×Unit)):=fun (x0,x1,x2,_) =>
 bif decide (x2≥0) then
 bif decide (0≤x2)&&decide (x2<(↑x0.length:Int)) then
 bif (↑(x0.getD x2.toNat 0).toNat:Int)==x1 then some (Sum.inr (Sum.inr (x2,())))
 else some (Sum.inl (x0,x1,IntKind.i64.wrap (x2 - 1),()))
 else none
 else some (Sum.inr (Sum.inl ()))
def z4c:j7k:=qd (j6n) jc
theorem k7v:jg 0 (qc (code Tryz.f293) [1,0,1,0,0]) (y7y z4c):=zl0 w1y j3u xj j6n kn
def b6p (f293_l0:j7k):Ann:=(.seq .nil (.seq (.seq .nil (.blk (.loop (y7y f293_l0)))) .nil))
def v9y (f293_l0:j7k):v0u:=fun (x0,x1,_) =>
 (f293_l0 (x0,x1,IntKind.i64.wrap ((↑x0.length:Int) - 1),())).bind fun v =>
 Sum.elim (fun v=>some (-1,())) (fun v=>some (v.1,())) v
def x8a:v0u:=v9y z4c
theorem b0l:FO 293 (f1y x8a):=q6i z0v jd xj b6p v9y z4c kn Tryz.func293 (And.intro k7v trivial)
abbrev z1a:=qa×Int×Unit→Option (Int×Unit)
def f1i (f:z1a):FEnt:=⟨z0v,jd,f⟩
def b4e (f293:v0u):=lk [(293,f1y f293)]
def v9i (f293:v0u):z1a:=fun (x0,x1,_) =>
 (f293 (x0,x1,())).bind fun v=>some (v.1,())
def j4m:z1a:=v9i x8a
theorem f9t:FO 270 (f1i j4m):=wz z0v jd b4e v9i x8a (kc b0l kn) Tryz.func270
abbrev q5f:=Int×Bool×Unit→Option ((Int×Bool×Unit)⊕Unit)
def y7z (f:q5f):LEnt:=⟨w1z,x0e,f⟩
abbrev j0i:=Int×Bool×Unit→Option ((Int×Bool×Unit)⊕Unit)
def y8a (f:j0i):LEnt:=⟨w2a,x0e,f⟩
abbrev z6f:=Int×Unit→Option (Int×Bool×Unit)
def f1z (f:z6f):FEnt:=⟨j4r,y9z,f⟩
def z5m:q5f:=fun (x0,x1,_) =>
 bif x1 then some (Sum.inl (IntKind.i64.wrap (IntKind.u8.wrap (x0 - 65)),true,()))
 else
 bif decide (x0≥97) then
 bif decide (x0≤122) then some (Sum.inl (IntKind.i64.wrap (IntKind.u8.wrap (x0 - 97)),true,()))
 else some (Sum.inr ())
 else some (Sum.inr ())
def q8m:q5f:=z5m
theorem k7w:zb 0 (qc (code Tryz.f294) [1,0,0,1,1,1]) (y7z q8m):=zc0 w1z x0e xj z5m kn
def k2k (f294_c0:q5f):Ann:=(.cond .nil (.cut .nil (y7z f294_c0)))
def z5n (f294_c0:q5f):j0i:=fun (x0,x1,_) =>
 bif x1 then some (Sum.inl (IntKind.i64.wrap (IntKind.i64.wrap (IntKind.u8.wrap (x0 - 48))+26),true,()))
 else
 bif decide (x0≥65) then
 (f294_c0 (x0,decide (x0≤90),())).bind fun v =>
 Sum.elim (fun v=>some (Sum.inl (v.1,v.2.1,()))) (fun v=>some (Sum.inr ())) v
 else
 (f294_c0 (x0,false,())).bind fun v =>
 Sum.elim (fun v=>some (Sum.inl (v.1,v.2.1,()))) (fun v=>some (Sum.inr ())) v
theorem k4v (f294_c0:q5f):AqC xj 0 (qc (code Tryz.f294) [1,0,0,1]) (k2k f294_c0) w2a x0e (z5n f294_c0):=fun v=>by kernel_rfl
def q8n:j0i:=z5n q8m
theorem k7x:zb 0 (qc (code Tryz.f294) [1,0,0,1]) (y8a q8n) :=
 frd kn (And.intro k7w trivial) (k4v q8m)
def b6q (f294_c1:j0i):Ann:=(.seq .nil (.seq (.blk (.cut .nil (y8a f294_c1))) .nil))
def g0i (f294_c1:j0i):z6f:=fun (x0,_) =>
 bif decide (x0≥48) then
 (f294_c1 (x0,decide (x0≤57),())).bind fun v =>
 Sum.elim (fun v=>some (v.1,v.2.1,())) (fun v=>some (0,false,())) v
 else
 (f294_c1 (x0,false,())).bind fun v =>
 Sum.elim (fun v=>some (v.1,v.2.1,())) (fun v=>some (0,false,())) v
def j2j:z6f:=g0i q8n
theorem b0m:FO 294 (f1z j2j):=q6i j4r y9z xj b6q g0i q8n kn Tryz.func294 (And.intro k7x trivial)
abbrev j0e:=qa×Int×Int×Int×Int×Int×Unit→Option (Unit⊕Unit⊕(Int×qa×Unit))
def y7s (f:j0e):LEnt:=⟨w2b,w5d,f⟩
abbrev j0d:=Unit→Option (Int×qa×Unit)
def y7r (f:j0d):LEnt:=⟨z1r,x0f,f⟩
abbrev z1b:=qa×Int×Unit→Option (Int×qa×Unit)
def f1j (f:z1b):FEnt:=⟨y9k,w5c,f⟩
def k0z (f290:j0g) (f294:z6f):=lk [(290,w9r f290),(294,f1z f294)]
theorem y4m:zm Tryz.prog (k0z q2n j2j):=(kc w8j (kc b0m kn))
def j6l (f290:j0g) (f294:z6f):yn (qa×Int×Int×Int×Int×Int×Unit) (Unit⊕Unit⊕(Int×qa×Unit)):=fun (x0,x1,x2,x3,x4,x5,_) =>
 bif decide (x5<x4) then
 bif decide (0≤x5)&&decide (x5<(↑x0.length:Int)) then
 (f294 ((↑(x0.getD x5.toNat 0).toNat:Int),())).bind fun v =>
 bif !v.2.1 then some (Sum.inr (Sum.inr (Sum.inl ())))
 else
 bif decide (x3>2147483647) then some (Sum.inr (Sum.inr (Sum.inl ())))
 else
 bif decide (IntKind.i64.wrap (x2+IntKind.i64.wrap (v.1*x3))>2147483647) then
 some (Sum.inr (Sum.inr (Sum.inl ())))
 else
 (f290 (IntKind.i64.wrap (36*IntKind.i64.wrap (x5+1)),x1,())).bind fun v1 =>
 bif decide (v.1<v1.1) then
 bif
 decide (0≤IntKind.i64.wrap (x5+1)) &&
 decide (IntKind.i64.wrap (x5+1)≤(↑x0.length:Int)) then
 some
 (Sum.inr
 (Sum.inr
 (Sum.inr
 (IntKind.i64.wrap (x2+IntKind.i64.wrap (v.1*x3)),
 List.drop (IntKind.i64.wrap (x5+1)).toNat x0,()))))
 else none
 else
 some
 (Sum.inl
 (x0,x1,IntKind.i64.wrap (x2+IntKind.i64.wrap (v.1*x3)),
 IntKind.i64.wrap (x3*IntKind.i64.wrap (36 - v1.1)),x4,IntKind.i64.wrap (x5+1),
 ()))
 else none
 else some (Sum.inr (Sum.inl ()))
def j5k:j0e:=qd (j6l q2n j2j) jc
theorem k7p:jg 0 (qc (code Tryz.f271) [1,0,1,0,1,0,0]) (y7s j5k):=zl2 w2b w5d k0z j6l q2n j2j y4m
def q8t (f290:j0g) (f294:z6f):yn (Unit) (Int×qa×Unit):=fun (_) =>
 some (Sum.inr (-1,[],()))
theorem k4t (f290:j0g) (f294:z6f) (v:HS z1r):aev Γ (k0z f290 f294) 0 ((findLabel (qc (code Tryz.f271) [1,0]) 0).getD .skip) .nil (x7d z1r v) (kl 0 0 [] z1r x0f)=q8t f290 f294 v:=by kernel_rfl
def j5j:j0d:=qd (q8t q2n j2j) jc
theorem k7o:jp Tryz.prog 0 (jo Tryz.prog (qc (code Tryz.f271) [1,0]) 0) (y7r j5j) :=
 zw (ins:=z1r) (os:=x0f) (C:=j5j) (q1p (ins:=z1r) (os:=x0f) (n := .nil) (ls:=[]) (F:=q8t q2n j2j) (rest:=((findLabel (qc (code Tryz.f271) [1,0]) 0).getD .skip)) hm hΓ y4m (fun _=>jc) (by kernel_rfl) (ji _) q3d (k4t q2n j2j)) rfl
def b6j (f271_g0:j0d) (f271_l0:j0e):Ann:=(.seq .nil (.scope (.seq .nil (.seq (.seq .nil (.blk (.loop (y7s f271_l0)))) .nil)) [(0,(y7r f271_g0))]))
def v9j (f290:j0g) (f294:z6f) (f271_g0:j0d) (f271_l0:j0e):z1b:=fun (x0,x1,_) =>
 (f271_l0 (x0,x1,0,1,(↑x0.length:Int),0,())).bind fun v =>
 Sum.elim (fun v=>some (-1,[],()))
 (fun v =>
 Sum.elim (fun v=>(f271_g0 ()).bind fun v=>some (v.1,v.2.1,()))
 (fun v=>some (v.1,v.2.1,())) v)
 v
theorem d1l (f290:j0g) (f294:z6f) (f271_g0:j0d) (f271_l0:j0e):yb (k0z f290 f294) 0 Tryz.f271 (b6j f271_g0 f271_l0) y9k w5c (v9j f290 f294 f271_g0 f271_l0):=fun v=>by kernel_rfl
def j4n:z1b:=v9j q2n j2j j5j j5k
theorem f9u:FO 271 (f1j j4n) :=
 qo y4m Tryz.func271 (And.intro k7p (And.intro k7o trivial)) (d1l q2n j2j j5j j5k)
abbrev q9t:=qa×Int×Int×Int×Bool×List (Int)×Unit→Option ((List (Int)×Unit)⊕(Bool×Unit))
def y7b (f:q9t):LEnt:=⟨w2c,w5f,f⟩
abbrev q4z:=qa×List (Int)×Unit→Option (Bool×List (Int)×Unit)
def y7a (f:q4z):LEnt:=⟨w2d,w5g,f⟩
abbrev x4r:=qa×Unit→Option (List (Int)×Bool×Unit)
def f0e (f:x4r):FEnt:=⟨xi,w5e,f⟩
def k0w (f155:wa) (f21:T21) (f252:q0p) (f270:z1a) (f271:z1b) (f272:z6d):=lk [(155,v7g f155),(21,E21 f21),(252,w9m f252),(270,f1i f270),(271,f1j f271),(272,w9o f272)]
theorem y4j:zm Tryz.prog (k0w xb C21 q0a j4m j4n j2i):=(kc v5i (kc g7b (kc w8f (kc f9t (kc f9u (kc f9v kn))))))
def j6d (f155:wa) (f21:T21) (f252:q0p) (f270:z1a) (f271:z1b) (f272:z6d):yn (qa×Int×Int×Int×Bool×List (Int)×Unit) ((List (Int)×Unit)⊕(Bool×Unit)):=fun (x0,x1,x2,x3,x4,x5,_) =>
 bif !x0==[] then
 (f271 (x0,x3,())).bind fun v =>
 bif decide (v.1<0) then some (Sum.inr (Sum.inr (false,())))
 else
 bif decide (IntKind.i64.wrap (x2+v.1)>2147483647) then some (Sum.inr (Sum.inr (false,())))
 else
 (f252 (v.1,IntKind.i64.wrap ((↑x5.length:Int)+1),x4,())).bind fun v1 =>
 bif IntKind.i64.wrap ((↑x5.length:Int)+1) != 0 then
 bif
 decide
 (IntKind.i64.wrap
 (x1 +
 IntKind.i64.wrap
 ((IntKind.i64.wrap (x2+v.1)).tdiv (IntKind.i64.wrap ((↑x5.length:Int)+1)))) >
 1114111) then
 some (Sum.inr (Sum.inr (false,())))
 else
 (f155
 (IntKind.i32.wrap
 (IntKind.i64.wrap
 (x1 +
 IntKind.i64.wrap
 ((IntKind.i64.wrap (x2+v.1)).tdiv (IntKind.i64.wrap ((↑x5.length:Int)+1))))),
 ())).bind
 fun v2 =>
 bif !v2.1 then some (Sum.inr (Sum.inr (false,())))
 else
 bif IntKind.i64.wrap ((↑x5.length:Int)+1) != 0 then
 (f272
 ((IntKind.i64.wrap (x2+v.1)).tmod (IntKind.i64.wrap ((↑x5.length:Int)+1)),x5,
 [IntKind.i32.wrap
 (IntKind.i64.wrap
 (x1 +
 IntKind.i64.wrap
 ((IntKind.i64.wrap (x2+v.1)).tdiv
 (IntKind.i64.wrap ((↑x5.length:Int)+1)))))],
 ())).bind
 fun v3 =>
 some
 (Sum.inl
 (v.2.1,
 IntKind.i64.wrap
 (x1 +
 IntKind.i64.wrap
 ((IntKind.i64.wrap (x2+v.1)).tdiv (IntKind.i64.wrap ((↑x5.length:Int)+1)))),
 IntKind.i64.wrap
 ((IntKind.i64.wrap (x2+v.1)).tmod (IntKind.i64.wrap ((↑x5.length:Int)+1))+1),
 v1.1,false,v3.1,()))
 else none
 else none
 else some (Sum.inr (Sum.inl (x5,())))
theorem k4l (f155:wa) (f21:T21) (f252:q0p) (f270:z1a) (f271:z1b) (f272:z6d):AqL (k0w f155 f21 f252 f270 f271 f272) 0 (qc (code Tryz.f226) [1,1,1,1,1,0,1,0,0]) .nil w2c w5f (j6d f155 f21 f252 f270 f271 f272):=fun v=>by kernel_rfl
def j5g:q9t:=qd (j6d xb C21 q0a j4m j4n j2i) jc
theorem k6y:jg 0 (qc (code Tryz.f226) [1,1,1,1,1,0,1,0,0]) (y7b j5g) :=
 frl y4j (k4l xb C21 q0a j4m j4n j2i)
def k2f (f226_l0:q9t):Ann:=(.seq .nil (.seq (.seq .nil (.blk (.loop (y7b f226_l0)))) .nil))
def j6c (f155:wa) (f21:T21) (f252:q0p) (f270:z1a) (f271:z1b) (f272:z6d) (f226_l0:q9t):q4z:=fun (x0,x1,_) =>
 (f226_l0 (x0,128,0,72,true,x1,())).bind fun v =>
 Sum.elim (fun v=>some (true,v.1,())) (fun v=>some (v.1,[],())) v
theorem k4k (f155:wa) (f21:T21) (f252:q0p) (f270:z1a) (f271:z1b) (f272:z6d) (f226_l0:q9t):AqC (k0w f155 f21 f252 f270 f271 f272) 0 (qc (code Tryz.f226) [1,1,1,1]) (k2f f226_l0) w2d w5g (j6c f155 f21 f252 f270 f271 f272 f226_l0):=fun v=>by kernel_rfl
def q1j:q4z:=j6c xb C21 q0a j4m j4n j2i j5g
theorem k6x:zb 0 (qc (code Tryz.f226) [1,1,1,1]) (y7a q1j) :=
 frd y4j (And.intro k6y trivial) (k4k xb C21 q0a j4m j4n j2i j5g)
def b5w (f226_c0:q4z):Ann:=(.seq .nil (.seq .nil (.seq .nil (.cut .nil (y7a f226_c0)))))
def v8s (f155:wa) (f21:T21) (f252:q0p) (f270:z1a) (f271:z1b) (f272:z6d) (f226_c0:q4z):x4r:=fun (x0,_) =>
 (f21 (x0,())).bind fun v =>
 bif decide (v.1≥0) then some ([],false,())
 else
 (f270 (x0,45,())).bind fun v =>
 bif decide (v.1>0) then
 bif decide (0≤v.1)&&decide (v.1≤(↑x0.length:Int)) then
 bif
 decide ((List.take (Int.toNat v.1) x0).length≤70368744177664) &&
 (List.take (Int.toNat v.1) x0).all fun b=>decide (b.toNat<128) then
 bif
 decide (0≤IntKind.i64.wrap (v.1+1)) &&
 decide (IntKind.i64.wrap (v.1+1)≤(↑x0.length:Int)) then
 (f226_c0
 (List.drop (IntKind.i64.wrap (v.1+1)).toNat x0,
 List.map (fun b=>(↑b.toNat:Int)) (List.take (Int.toNat v.1) x0),())).bind
 fun v=>some (v.2.1,v.1,())
 else none
 else none
 else none
 else (f226_c0 (x0,[],())).bind fun v=>some (v.2.1,v.1,())
theorem d0u (f155:wa) (f21:T21) (f252:q0p) (f270:z1a) (f271:z1b) (f272:z6d) (f226_c0:q4z):yb (k0w f155 f21 f252 f270 f271 f272) 0 Tryz.f226 (b5w f226_c0) xi w5e (v8s f155 f21 f252 f270 f271 f272 f226_c0):=fun v=>by kernel_rfl
def y2l:x4r:=v8s xb C21 q0a j4m j4n j2i q1j
theorem f8o:FO 226 (f0e y2l) :=
 qo y4j Tryz.func226 (And.intro k6x trivial) (d0u xb C21 q0a j4m j4n j2i q1j)
abbrev y3e:=qp×qq×qu×qa×Unit→Option (qa×qa×Int×Unit)
def w9d (f:y3e):FEnt:=⟨vp,g1s,f⟩
def b3e (f132:x4g) (f151:z0w) (f178:j4u) (f21:T21) (f223:z5z) (f224:x4p) (f225:x4q) (f226:x4r) (f83:T83):=lk [(132,g9d f132),(151,w8x f151),(178,v7j f178),(21,E21 f21),(223,w9i f223),(224,f0c f224),(225,f0d f225),(226,f0e f226),(83,E83 f83)]
def v8i (f132:x4g) (f151:z0w) (f178:j4u) (f21:T21) (f223:z5z) (f224:x4p) (f225:x4q) (f226:x4r) (f83:T83):y3e:=fun (x0,x1,x2,x3,_) =>
 (f151 (x0,x1,x2,x3,())).bind fun v =>
 (f132 (v.1,[120,110,45,45],())).bind fun v1 =>
 bif !v.2.1 then some ([],[],7,())
 else
 (f21 (v.1,())).bind fun v2 =>
 bif decide (v2.1≥0) then
 (f83 (v.1,())).bind fun v3 =>
 (f223 (v3.1,())).bind fun v4 =>
 bif decide ([120,110,45,45].length+List.length v4.1≤9223372036854775807) then
 (f224 (x0,x1,x2,v.1,())).bind fun v5 =>
 some ([120,110,45,45]++v4.1,v.1,v5.1,())
 else none
 else
 bif !v1.2.1 then (f225 (v.1,())).bind fun v3=>some (v.1,v.1,v3.1,())
 else
 (f226 (v1.1,())).bind fun v3 =>
 bif !v3.2.1 then some ([],[],12,())
 else
 bif decide ((↑(List.length v.1):Int)>63) then some ([],[],5,())
 else
 (f178 (v3.1,())).bind fun v4 =>
 (f224 (x0,x1,x2,v4.1,())).bind fun v5 =>
 bif v5.1 != 0 then some ([],[],v5.1,())
 else
 (f223 (v3.1,())).bind fun v6 =>
 bif !v6.1==v1.1 then some ([],[],12,())
 else some (v.1,v4.1,0,())
theorem d0p (f132:x4g) (f151:z0w) (f178:j4u) (f21:T21) (f223:z5z) (f224:x4p) (f225:x4q) (f226:x4r) (f83:T83):yb (b3e f132 f151 f178 f21 f223 f224 f225 f226 f83) 0 Tryz.f192 .nil vp g1s (v8i f132 f151 f178 f21 f223 f224 f225 f226 f83):=fun v=>by kernel_rfl
def z3m:y3e:=v8i y2f j2d z3k C21 x2x z3u z8i y2l C83
theorem w7x:FO 192 (w9d z3m) :=
 q0 (kc f7j (kc v5g (kc v5l (kc g7b (kc w8b (kc f8m (kc f8n (kc f8o (kc y1g kn))))))))) Tryz.func192 (d0p y2f j2d z3k C21 x2x z3u z8i y2l C83)
abbrev k2p:=qp×qq×qu×qa×Unit→Option (qa×Int×Unit)
def b2e (f:k2p):FEnt:=⟨vp,q8z,f⟩
def b2r (f192:y3e):=lk [(192,w9d f192)]
def v8a (f192:y3e):k2p:=fun (x0,x1,x2,x3,_) =>
 (f192 (x0,x1,x2,x3,())).bind fun v =>
 bif v.2.2.1 != 0 then some ([],v.2.2.1,()) else some (v.1,0,())
def z3j:k2p:=v8a z3m
theorem f7r:FO 159 (b2e z3j):=wz vp q8z b2r v8a z3m (kc w7x kn) Tryz.func159
abbrev g2h:=qp×qq×qu×qa×Unit→Option (qa×Int×Unit)
def b2f (f:g2h):FEnt:=⟨vp,q8z,f⟩
def b2s (f192:y3e):=lk [(192,w9d f192)]
def w9w (f192:y3e):g2h:=fun (x0,x1,x2,x3,_) =>
 (f192 (x0,x1,x2,x3,())).bind fun v =>
 bif v.2.2.1 != 0 then some ([],v.2.2.1,()) else some (v.2.1,0,())
def y2i:g2h:=w9w z3m
theorem f7s:FO 160 (b2f y2i):=wz vp q8z b2s w9w z3m (kc w7x kn) Tryz.func160
abbrev z9b:=qa×Int×Unit→Option (Int×Unit)
def w8z (f:z9b):FEnt:=⟨z0v,jd,f⟩
def b2t (f196:g2i):=lk [(196,g9w f196)]
def v8c (f196:g2i):z9b:=fun (x0,x1,_) =>
 (f196 (x0,x1,())).bind fun v=>some (v.1,())
def j4i:z9b:=v8c w8p
theorem w7t:FO 162 (w8z j4i):=wz z0v jd b2t v8c w8p (kc f8f kn) Tryz.func162
abbrev q9p:=qa×qa×Int×Bool×Unit→Option (Int×Unit)
def y6u (f:q9p):LEnt:=⟨w2e,w5h,f⟩
abbrev y3f:=qa×qa×Unit→Option (Int×Unit)
def w9f (f:y3f):FEnt:=⟨zy,jd,f⟩
def g0w (f162:z9b):=lk [(162,w8z f162)]
theorem v3q:zm Tryz.prog (g0w j4i):=(kc w7t kn)
def j5z (f162:z9b):q9p:=fun (x0,x1,x2,x3,_) =>
 bif x3 then some (0,())
 else
 bif x2==1 then
 bif decide (0<(↑x1.length:Int)) then
 (f162 (x0,(↑(x1.getD 0 0).toNat:Int),())).bind fun v=>some (v.1,())
 else none
 else bif decide (x2≥(↑x0.length:Int)) then some (-1,()) else none
def q3u:q9p:=j5z j4i
theorem k6r:zb 0 (qc (code Tryz.f197) [1,1,0,0,1]) (y6u q3u):=zc1 w2e w5h g0w j5z j4i v3q
def b5t (f197_c0:q9p):Ann:=(.seq .nil (.seq .nil (.seq (.blk (.cut .nil (y6u f197_c0))) .nil)))
def x9v (f162:z9b) (f197_c0:q9p):y3f:=fun (x0,x1,_) =>
 bif (↑x1.length:Int)==0 then
 (f197_c0 (x0,x1,(↑x1.length:Int),true,())).bind fun v=>some (v.1,())
 else (f197_c0 (x0,x1,(↑x1.length:Int),x1==x0,())).bind fun v=>some (v.1,())
def z3r:y3f:=x9v j4i q3u
theorem w7z:FO 197 (w9f z3r):=vz zy jd g0w b5t x9v j4i q3u v3q Tryz.func197 (And.intro k6r trivial)
abbrev v0j:=qa×qa×Unit→Option (qa×qa×Bool×Unit)
def g9m (f:v0j):FEnt:=⟨zy,x0g,f⟩
def b2u (f197:y3f):=lk [(197,w9f f197)]
def v8d (f197:y3f):v0j:=fun (x0,x1,_) =>
 (f197 (x0,x1,())).bind fun v =>
 bif decide (v.1≥0) then
 bif decide (0≤v.1)&&decide (v.1≤(↑x0.length:Int)) then
 bif
 decide (0≤IntKind.i64.wrap (v.1+(↑x1.length:Int))) &&
 decide (IntKind.i64.wrap (v.1+(↑x1.length:Int))≤(↑x0.length:Int)) then
 some
 (List.take (Int.toNat v.1) x0,List.drop (IntKind.i64.wrap (v.1+(↑x1.length:Int))).toNat x0,true,
 ())
 else none
 else none
 else some (x0,[],false,())
def x7m:v0j:=v8d z3r
theorem f7u:FO 163 (g9m x7m):=wz zy x0g b2u v8d z3r (kc w7z kn) Tryz.func163
abbrev g2g:=qa×qa×Unit→Option (qa×qa×Bool×Unit)
def b2d (f:g2g):FEnt:=⟨zy,x0g,f⟩
def b2m (f163:v0j):=lk [(163,g9m f163)]
def v7s (f163:v0j):g2g:=fun (x0,x1,_) =>
 (f163 (x0,x1,())).bind fun v=>some (v.1,v.2.1,v.2.2.1,())
def z7z:g2g:=v7s x7m
theorem f7i:FO 129 (b2d z7z):=wz zy x0g b2m v7s x7m (kc f7u kn) Tryz.func129
end Go.Proofs.YtiacnhhmkdkpmaaGreatDoorA.W
namespace Go.Proofs.YtiacnhhmkdkpmaaGreatDoorA.W
open Go Go.Ae Go.RowKit
attribute [local go_sem] Oper.semAt_some
theorem v1v {s sep l r:List UInt8} {ok:Bool} (h:z7z (s,sep,())=some (l,r,ok,())) {w:World} (hg:GI w m0) :
 Calls Tryz.prog 129 #[.string ⟨⟨s⟩⟩,.string ⟨⟨sep⟩⟩] w fun e w'=>e = .returned (.tuple #[.string ⟨⟨l⟩⟩,.string ⟨⟨r⟩⟩,.bool ok])∧Below w.heap.size w w':=by
 refine (zi.call0 (v:=(s,sep,())) (y:=(l,r,ok,())) f7i Tryz.func129 (by kernel_rfl) (by kernel_rfl) hg (fun _ h=>h.elim) rfl ⟨_,_,rfl,rfl,_,_,rfl,rfl,rfl⟩ rfl h ?_).mono fun e w' ⟨rv,h1,h2,ax,l',u,h3,h4⟩ => ?_
 · intro ax l' u h3
   cases jk h3;rfl
 · cases jk h3
   obtain ⟨v,r',e1,⟨a,e2,e3⟩,e4⟩:=h4;have e4':r'=[]:=e4;subst e4';cases e1;subst h1 e2;refine ⟨?_,h2⟩;obtain ⟨v1,q1,f1,rfl,v2,q2,f2,rfl,v3,q3,f3,rfl,f4⟩:=e3;have f4':q3=[]:=f4;subst f4' f3 f2;cases a;cases f1;rfl
def vt:Nat→List UInt8→Option (List (List UInt8))
 | 0,_=>none
 | n+1,s=>(z7z (s,[46],())).bind fun a=>bif a.2.2.1 then (vt n a.2.1).map (a.1 :: ·) else some [a.1]
theorem z6o {W W':World} {b:Nat} {t:TypeId} {v:Value} (h:Boxed W b t v) (hk:W'.heap[b]? = W.heap[b]?):Boxed W' b t v:=hk.trans h
set_option maxHeartbeats 4000000 in
theorem x6z (n:Nat) (hn:1≤n) (Bs:Nat) (s:List UInt8) (xs:List (List UInt8)) (N:Nat) (hxs:vt N s=some xs) (w:World) (hb:Boxed w Bs 9 (.string ⟨⟨s⟩⟩)) (hg:GI w m0) (hnb:∀b∈q2w,b≠Bs) :
 x3z Fence.wide n Tryz.prog 222 #[.pointer (some ⟨Bs,0,none⟩)] (fun x:List UInt8 => #[.string ⟨⟨x⟩⟩]) (fun b=>b=Bs∨b∈q2w) Bs xs w:=by
 intro l J Jx W hW hJ hJx hY h0;have hb':Boxed W Bs 9 (.string ⟨⟨s⟩⟩):=(hW.block Bs hb.lt).trans hb;have hg':GI W m0:=zd hg hW;refine callsIn_of_wp Tryz.func222 rfl trivial ?_ rfl;simp only [Tryz.ntmps222,List.size_toArray,List.length_cons,List.length_nil,Nat.reduceAdd,Nat.reduceSub,Array.replicate_succ,Array.replicate_zero,List.push_toArray,List.append_toArray,List.nil_append,List.cons_append]
 gi_wp2
 gi_loopg [] N (fun k wr=>∃(pre t:List (List UInt8)) (rest:List UInt8),xs=pre++t∧vt k rest=some t∧J pre wr∧Boxed wr Bs 9 (.string ⟨⟨rest⟩⟩)∧GI wr m0)
 case atStart=>exact ⟨[],xs,s,rfl,hxs,h0,hb',hg'⟩
 case round =>
  rename_i JJ KK hJJ hKK;obtain ⟨pre,t,rest,hx,hp,hJs,hbx,hgr⟩:=hrel;cases gk with
  | zero=>cases hp
  | succ k =>
   simp only [vt] at hp;obtain ⟨⟨lf,rt,ok,u⟩,hc,hp2⟩:=Option.bind_eq_some_iff.1 hp;simp only at hp2;have hcell:=hbx.cell;have hpre:pre++[lf] <+: xs:=by
    rw [hx];cases ok with
    | true =>
     obtain ⟨t',h1,rfl⟩:=Option.map_eq_some_iff.1 hp2;exact ⟨t',by simp⟩
    | false =>
     have:t=[lf]:=(Option.some.inj hp2).symm;exact ⟨[],by simp [this]⟩
   gi_wp2_with (refine ⟨trivial,?_⟩;gi_at_call 129;refine (callsIn_wide.2 (v1v hc hgr)).mono ?_;rintro e w' ⟨rfl,hbel⟩;obtain ⟨fn,tmps,assign,body,hy,hR⟩:=hY pre lf w' hpre (hJ _ _ _ hJs (Oth.of_below hbel)))
   refine hR.mono ?_;rintro e W3 (⟨rfl,hJ3,hs3,hk3⟩ | ⟨rfl,hJx3⟩)
   · have hbx3:Boxed W3 Bs 9 (.string ⟨⟨rest⟩⟩):=(hk3 Bs (.inl rfl)).trans ((hbel.block Bs hbx.lt).trans hbx)
     have hg3:GI W3 m0:=z6w (zd hgr hbel) hs3 fun b hb=>hk3 b (.inr hb);have hc3:=hbx3.cell;have hf3:=hbx3.frozen;cases ok with
     | true =>
      obtain ⟨t',h1,rfl⟩:=Option.map_eq_some_iff.1 hp2
      gi_wp2
      gi_roundg k
      case rel=>exact ⟨pre++[lf],t',rt,by simp [hx],h1,hJ _ _ _ hJ3 (Oth.set Bs 0 W3 _),Boxed.set _ hbx3,z6w hg3 (by simp) fun b hb=>Below.heap_setCell _ _ _ _ (hnb b hb)⟩
      case measure=>omega
     | false =>
      have ht:t=[lf]:=(Option.some.inj hp2).symm;subst ht
      gi_wp2
      refine bodyPost_ret (results_none rfl _ _ _) rfl ?_;exact ⟨⟨_,rfl⟩,.inl (hx▸hJ3)⟩
   · gi_wp2
     refine bodyPost_ret (results_none rfl _ _ _) rfl ?_;exact ⟨⟨_,rfl⟩,.inr ⟨_,hpre,hJx3⟩⟩
def encS (x:List UInt8):Value := .string ⟨⟨x⟩⟩
theorem q0l {N Bs base:Nat} {A B:World} {e:TypeId} {size k:Nat} {v:Value} {xs:List Value} (hBs:Bs<base) (h:A.ownsRow base e size v k xs) (ho:OthR N Bs A B):B.ownsRow base e size v k xs:=by
 refine ⟨h.1,?_⟩;rcases h.2 with h | ⟨g,cap,cur,e1,h2,h3,h4⟩
 · exact .inl h
 · exact .inr ⟨g,cap,cur,e1,h2,ho.keep g _ h3 (by omega) (.inr rfl),h4⟩
theorem v6b {N Bs:Nat} {W0 A B:World} (hN:W0.heap.size≤N) (h:Oth Bs W0 A) (ho:OthR N Bs A B):Oth Bs W0 B :=
 ⟨ho.os.trans h.os,ho.tape.trans h.tape,ho.output.trans h.output,Nat.le_trans h.size ho.size,fun b hb hne=>by
  have h1:=h.keep b hb hne;obtain ⟨o,h2⟩:∃o,W0.heap[b]? = some o:=⟨_,Array.getElem?_eq_getElem hb⟩
  rw [h2] at h1 ⊢;exact ho.keep b o h1 hne (.inl (by omega))⟩
theorem y0k:(Tryz.prog.info? 9).map (fun i=>(i.zero,i.size,i.bytes))=some (some (.string ⟨#[]⟩),1,16):=by kernel_rfl
set_option maxHeartbeats 4000000 in
theorem y0h (gf:Nat) (hgf:∀args w,(callFunc gf args).run Tryz.prog w = .ok (.enter gf args) w) (Bs:Nat) (xs:List (List UInt8)) (w:World) (hBs:Bs<w.heap.size) (hg:GI w m0) (hlen:xs.length≤1000000000000)
 (hseq:∀W,Below w.heap.size w W→x3z Fence.wide 2 Tryz.prog gf #[.pointer (some ⟨Bs,0,none⟩)] (fun x:List UInt8 => #[Value.string ⟨⟨x⟩⟩]) (fun b=>b=Bs∨b∈q2w) Bs xs W) :
 CallsIn Fence.wide 3 Tryz.prog 221 #[.slice none 0 0,.func (.func gf) #[] #[.pointer (some ⟨Bs,0,none⟩)]] w fun e W' =>
  ∃v,e = .returned v∧W'.ownsRow w.heap.size 9 1 v xs.length (xs.map encS)∧Oth Bs w W':=by
 obtain ⟨i0,hi,hz0,hz1,hz2⟩:=info_parts y0k;refine callsIn_of_wp_marks Tryz.func221 rfl trivial ?_ rfl;simp only [Tryz.ntmps221,List.size_toArray,List.length_cons,List.length_nil,Nat.reduceAdd,Nat.reduceSub,Array.replicate_succ,Array.replicate_zero,List.push_toArray,List.append_toArray,List.nil_append,List.cons_append]
 gi_wp2
 have hB0:Below w.heap.size w (w.alloc (.cells #[.slice none 0 0] 89)):=(Below.refl _ w).alloc (Nat.le_refl _) _;refine yu (F:=Fence.wide) rfl (by omega) (gf:=gf) (lb := #[.pointer (some ⟨Bs,0,none⟩)]) rfl trivial hgf (hseq _ hB0)
  (by rintro b (rfl | hb);· (rw [World.size_alloc];omega)
      · (have:=(hg.b b hb).1;rw [World.size_alloc];omega)) (by rw [World.size_alloc];omega) (fun _=>rfl)
  (fun pre W=>(∃v,Boxed W w.heap.size 89 v∧W.ownsRow w.heap.size 9 1 v pre.length (pre.map encS))∧Oth Bs w W)
  (fun _ _ _=>False)
  (fun s A B hs ho=>by
   obtain ⟨⟨v,h1,h2⟩,h3⟩:=hs;exact ⟨⟨v,xm h1 (by omega) ho,q0l hBs h2 ho⟩,v6b (by rw [World.size_alloc];omega) h3 ho⟩)
  (fun _ _ _ _ hs _=>hs)
  ⟨⟨_,Boxed.new _ _ _,World.ownsRow_nil _ _ _ _⟩,Oth.of_below hB0⟩
  (fun x=>{ tmps := #[.slice none 0 0,.func (.func gf) #[] #[.pointer (some ⟨Bs,0,none⟩)],.pointer (some ⟨w.heap.size,0,none⟩),undef,.slice none 0 0,.string ⟨⟨x⟩⟩,.func (.func gf) #[] #[.pointer (some ⟨Bs,0,none⟩)],.string ⟨⟨x⟩⟩,undef,undef,undef,undef,undef],defers:=[] }) ?assign ?body ?done ?stop
 case assign =>
  intro l x W K hK
  gi_wp2
  exact hK
 case body =>
  rintro l pre x W hsz hpre ⟨⟨v,hv,hrow⟩,hoth⟩;have hc:=hv.cell;have hpl:pre.length<xs.length:=by have:=hpre.length_le;simp at this;omega
  have hsz2:=hoth.size
  gi_wp2_with (gi_at_builtin;refine wpListIn_append_own _ rfl _ _ 89 rfl w.heap.size 9 i0 (.string ⟨#[]⟩) 1 16 Tryz.underlying89 hi hz0 hz1 hz2 rfl (by decide) _ _ _ rfl (hrow.alloc _) ⟨W.heap.size,0,none⟩ 1 1 [.string ⟨⟨x⟩⟩] rfl rfl (cell_one_new _ _ _) (by simp [Value.oneCell']) (by simp only [maxLen];omega) (by omega) (by simp;omega) ?_;intro v' w1 hown' hgrow _;obtain ⟨g',cap',rfl⟩:=ownsRow_succ hown';obtain ⟨hv1,hv2,hr2,hk2,hb2⟩:=hv.appended (by decide) hrow hsz2 (Nat.le_refl _) hown' hgrow;have hc1:=hv1.cell;have hf1:=hv1.frozen)
  exact ⟨hk2.from _,fun b hb=>hb2.block b (by
   rcases hb with rfl | hb
   · exact hBs
   · exact (hg.b b hb).1),⟨_,hv2,by simpa [encS] using hr2⟩,hb2.os.trans hoth.os,hb2.tape.trans hoth.tape,hb2.output.trans hoth.output,Nat.le_trans hoth.size hb2.size,fun b hb hne=>(hb2.block b hb).trans (hoth.keep b hb hne)⟩
 case done =>
  rintro D W hD ⟨⟨v,hv,hrow⟩,hoth⟩ hK;have hc:=hv.cell
  gi_wp2
  refine ⟨by simp,.inl ⟨_,_,rfl,run_takeDeferred hK,?_⟩⟩;have hD':w.heap.size+1≤D:=by rw [World.size_alloc] at hD;exact hD
  exact ⟨_,results_tmp rfl _ _ _,v,rfl,ownsRow_putObj hrow _ hK rfl,hoth.os,hoth.tape,hoth.output,by simpa [World.putObj] using hoth.size,fun b hb hne=>(World.putObj_heap_other (by omega)).trans (hoth.keep b hb hne)⟩
 case stop =>
  rintro D c pre W _ _ h _;exact h.elim
set_option maxHeartbeats 4000000 in
theorem y1r (s:List UInt8) (w:World):Calls Tryz.prog 190 #[.string ⟨⟨s⟩⟩] w fun e w'=>e = .returned (.func (.func 222) #[] #[.pointer (some ⟨w.heap.size,0,none⟩)])∧w'=w.alloc (.cells #[.string ⟨⟨s⟩⟩] 9):=by
 go_enter Tryz.func190,Tryz.ntmps190
 go_wp2
 go_returns
 exact ⟨rfl,rfl⟩
theorem z6t (gf Bs:Nat) (hgf:∀args w,(callFunc gf args).run Tryz.prog w = .ok (.enter gf args) w) (xs:List (List UInt8)) (w:World) (hBs:Bs<w.heap.size) (hg:GI w m0) (hlen:xs.length≤1000000000000)
 (hseq:∀W,Below w.heap.size w W→x3z Fence.wide 2 Tryz.prog gf #[.pointer (some ⟨Bs,0,none⟩)] (fun x:List UInt8 => #[Value.string ⟨⟨x⟩⟩]) (fun b=>b=Bs∨b∈q2w) Bs xs W) :
 Calls Tryz.prog 189 #[.func (.func gf) #[] #[.pointer (some ⟨Bs,0,none⟩)]] w fun e W' =>
  ∃v,e = .returned v∧W'.ownsRow w.heap.size 9 1 v xs.length (xs.map encS)∧Oth Bs w W':=by
 go_enter Tryz.func189,Tryz.ntmps189
 go_wp2_with (go_at_call 221;refine (callsIn_wide.1 (y0h gf hgf Bs xs w hBs hg hlen hseq)).mono ?_;rintro e W' ⟨v,rfl,h1,h2⟩)
 go_returns
 exact ⟨v,rfl,h1,h2⟩
def q0j (f:List UInt8) (ok:Bool):Option (List (List UInt8)×Int) :=
 bif !ok then some ([],7) else bif f.isEmpty then some ([],13) else
 bif decide (f.length≤1000000000) then
  (vt (f.length+2) (Lib.replaceAll f [227,128,130] [46])).bind fun ps=>bif decide (ps.length≤1000000000000) then (bif decide (32<ps.length) then some ([],2) else some (ps,0)) else none
 else none
theorem k8v {w:World} (hg:GI w m0):∃m,w.cell? ⟨2,0,none⟩=some (.int .i64 m):=by first | exact hg.i | exact hg.i.1
theorem z7r (f:List UInt8) (hf:f.length≤1000000000) (w:World) (hg:GI w m0) :
 Calls Tryz.prog 188 #[.string ⟨⟨f⟩⟩,.string ⟨#[227,128,130]⟩,.string ⟨#[46]⟩] w fun e w'=>e = .returned (.string ⟨⟨Lib.replaceAll f [227,128,130] [46]⟩⟩)∧Below w.heap.size w w':=by
 obtain ⟨m,hm⟩:=k8v hg;have hcnt:=Lib.count_le f [227,128,130];refine (Go.Proofs.Any.strings_ReplaceAll Tryz.lays155 Tryz.Builder_Extra_155 ⟨⟨f⟩⟩ ⟨#[227,128,130]⟩ ⟨#[46]⟩ m w ?_ hm ?_ ?_).mono ?_
 · show f.length<_
   omega
 · decide
 · show f.length+Lib.count f [227,128,130]*1≤_
   omega
 · rintro e w' ⟨h1,h2⟩
   exact ⟨h1,h2⟩
theorem x5y {Bs B:Nat} {A W W':World} (h:Below B A W) (hB:B≤W.heap.size) (hBs:B≤Bs) (ho:Oth Bs W W'):Below B A W' :=
 h.trans ⟨ho.os,ho.tape,ho.output,ho.size,fun k hk=>ho.keep k (by omega) (by omega)⟩
theorem q1c {W:World} {base:Nat} {e:TypeId} {v:Value} {n:Nat} {xs:List Value} (h:W.ownsRow base e 1 v n xs):∃a cap,v = .slice a n cap:=by
 rcases h.2 with ⟨h1,h2⟩ | ⟨g,cap,cur,h1,_⟩
 · subst h2;exact ⟨_,_,h1⟩
 · exact ⟨_,_,h1⟩
set_option maxHeartbeats 4000000 in
theorem y0r (v0 v1 v2 v3 v4:Value) (s f:List UInt8) (ok:Bool) (ls:List (List UInt8)) (c:Int) (w:World) (hg:GI w m0) (hC:q0j f ok=some (ls,c))
 (hfold:∀W,Below w.heap.size w W→Calls Tryz.prog 151 #[.agg #[v0,v1,v2,v3,v4],.string ⟨⟨s⟩⟩] W fun e W'=>e = .returned (.tuple #[.string ⟨⟨f⟩⟩,.bool ok])∧Below W.heap.size W W') :
 Calls Tryz.prog 157 #[.agg #[v0,v1,v2,v3,v4],.string ⟨⟨s⟩⟩] w fun e w'=>∃v,e = .returned (.tuple #[v,.int .i64 c])∧Below w.heap.size w w'∧w'.ownsRow w.heap.size 9 1 v ls.length (ls.map encS):=by
 have hW0:Below w.heap.size w (w.alloc (.cells #[v0,v1,v2,v3,v4] 39)):=(Below.refl _ w).alloc (Nat.le_refl _) _;have hF:=hfold _ hW0;clear hfold;cases ok with
 | false =>
  have hC':(([]:List (List UInt8)),(7:Int))=(ls,c):=Option.some.inj hC;cases hC'
  go_enter Tryz.func157,Tryz.ntmps157
  go_wp2_with (go_at_call 151;refine hF.mono ?_;rintro e w1 ⟨rfl,hb1⟩)
  go_returns
  exact ⟨_,rfl,hW0.trans (hb1.mono hW0.size),World.ownsRow_nil _ _ _ _⟩
 | true =>
  cases f with
  | nil =>
   have hC':(([]:List (List UInt8)),(13:Int))=(ls,c):=Option.some.inj hC;cases hC'
   go_enter Tryz.func157,Tryz.ntmps157
   go_wp2_with (go_at_call 151;refine hF.mono ?_;rintro e w1 ⟨rfl,hb1⟩)
   go_returns
   exact ⟨_,rfl,hW0.trans (hb1.mono hW0.size),World.ownsRow_nil _ _ _ _⟩
  | cons f0 f1 =>
   have hC1:(bif decide ((f0::f1).length≤1000000000) then
    (vt ((f0::f1).length+2) (Lib.replaceAll (f0::f1) [227,128,130] [46])).bind fun ps=>bif decide (ps.length≤1000000000000) then (bif decide (32<ps.length) then some (([]:List (List UInt8)),(2:Int)) else some (ps,0)) else none
    else none)=some (ls,c):=hC
   rcases jb hC1 with ⟨hlen,hC2⟩ | ⟨_,hC2⟩
   case inr=>cases hC2
   have hlen':=of_decide_eq_true hlen;obtain ⟨ps,hps,hC3⟩:=Option.bind_eq_some_iff.1 hC2;rcases jb hC3 with ⟨hl2,hC4⟩ | ⟨_,hC4⟩
   case inr=>cases hC4
   have hl2':=of_decide_eq_true hl2;have hcc:∀W:World,GI W m0→Calls Tryz.prog 189 #[.func (.func 222) #[] #[.pointer (some ⟨W.heap.size,0,none⟩)]] (W.alloc (.cells #[.string ⟨⟨Lib.replaceAll (f0::f1) [227,128,130] [46]⟩⟩] 9)) fun e W' =>
    ∃v,e = .returned v∧W'.ownsRow (W.alloc (.cells #[.string ⟨⟨Lib.replaceAll (f0::f1) [227,128,130] [46]⟩⟩] 9)).heap.size 9 1 v ps.length (ps.map encS)∧Oth W.heap.size (W.alloc (.cells #[.string ⟨⟨Lib.replaceAll (f0::f1) [227,128,130] [46]⟩⟩] 9)) W':=fun W hgW=>by
    have hbW:Below W.heap.size W (W.alloc (.cells #[.string ⟨⟨Lib.replaceAll (f0::f1) [227,128,130] [46]⟩⟩] 9)):=(Below.refl _ W).alloc (Nat.le_refl _) _;have hgW':=zd hgW hbW;refine z6t 222 W.heap.size (enters_of Tryz.func222 (by kernel_rfl) rfl) ps _ (by rw [World.size_alloc];omega) hgW' hl2' fun W2 hb2 => ?_;exact x6z 2 (by omega) W.heap.size _ ps _ hps W2 (z6o (Boxed.new _ _ _) (hb2.block _ (by rw [World.size_alloc];omega))) (zd hgW' hb2) fun b hb=>by have:=(hgW.b b hb).1;omega
   have hg1:=fun W hb=>z7r (f0::f1) hlen' W (zd hg hb);generalize Lib.replaceAll (f0::f1) [227,128,130] [46]=r at hps hcc hg1;have jv:∀{w1 w2 w4:World} {v:Value},Below (w.alloc (.cells #[v0,v1,v2,v3,v4] 39)).heap.size (w.alloc (.cells #[v0,v1,v2,v3,v4] 39)) w1→Below w1.heap.size w1 w2→w4.ownsRow (w2.alloc (.cells #[.string ⟨⟨r⟩⟩] 9)).heap.size 9 1 v ps.length (ps.map encS)→Oth w2.heap.size (w2.alloc (.cells #[.string ⟨⟨r⟩⟩] 9)) w4→Below w.heap.size w w4∧w4.ownsRow w.heap.size 9 1 v ps.length (ps.map encS):=by
    intro w1 w2 w4 v h1 h2 h3 h4;have b2:Below w.heap.size w w2:=(hW0.trans (h1.mono hW0.size)).trans (h2.mono (by have:=hW0.size;have:=h1.size;omega));have b3:Below w.heap.size w (w2.alloc (.cells #[.string ⟨⟨r⟩⟩] 9)):=b2.alloc b2.size _;refine ⟨x5y b3 b3.size b2.size h4,h3.1,?_⟩;rcases h3.2 with h | ⟨g,cap,cur,e1,e2,e3⟩
    · exact .inl h
    · exact .inr ⟨g,cap,cur,e1,Nat.le_trans b3.size e2,e3⟩
   have Fin:Hid _ := @jv;clear jv;by_cases h32:32<ps.length
   · rw [decide_eq_true h32,cond_true] at hC4
     have hC':(([]:List (List UInt8)),(2:Int))=(ls,c):=Option.some.inj hC4;cases hC';clear hC hC1 hC2 hC3 hC4
     go_enter Tryz.func157,Tryz.ntmps157
     go_wp2_with (first
      | (go_at_call 151;refine hF.mono ?_;rintro e w1 ⟨rfl,hb1⟩)
      | (go_at_call 188;refine (hg1 _ (hW0.trans (hb1.mono hW0.size))).mono ?_;rintro e w2 ⟨rfl,hb2⟩)
      | (go_at_call 190;refine (y1r r _).mono ?_;rintro e w3 ⟨rfl,rfl⟩)
      | (go_at_call 189;have hgw2:GI w2 m0:=zd (zd (zd hg hW0) hb1) hb2;refine (hcc _ hgw2).mono ?_;rintro e w4 ⟨v,rfl,hrow,hoth⟩;obtain ⟨sa,sc,rfl⟩:=q1c hrow)
      | go_in)
     go_returns
     exact ⟨_,rfl,(Fin.out hb1 hb2 hrow hoth).1,World.ownsRow_nil _ _ _ _⟩
   · rw [decide_eq_false h32,cond_false] at hC4
     have hC':(ps,(0:Int))=(ls,c):=Option.some.inj hC4;cases hC';clear hC hC1 hC2 hC3 hC4
     go_enter Tryz.func157,Tryz.ntmps157
     go_wp2_with (first
      | (go_at_call 151;refine hF.mono ?_;rintro e w1 ⟨rfl,hb1⟩)
      | (go_at_call 188;refine (hg1 _ (hW0.trans (hb1.mono hW0.size))).mono ?_;rintro e w2 ⟨rfl,hb2⟩)
      | (go_at_call 190;refine (y1r r _).mono ?_;rintro e w3 ⟨rfl,rfl⟩)
      | (go_at_call 189;have hgw2:GI w2 m0:=zd (zd (zd hg hW0) hb1) hb2;refine (hcc _ hgw2).mono ?_;rintro e w4 ⟨v,rfl,hrow,hoth⟩;obtain ⟨sa,sc,rfl⟩:=q1c hrow)
      | go_in)
     go_returns
     exact ⟨_,rfl,(Fin.out hb1 hb2 hrow hoth).1,(Fin.out hb1 hb2 hrow hoth).2⟩
set_option maxHeartbeats 4000000 in
theorem y5l (n:Nat) (hn:1≤n) (Bs base:Nat) (v:Value) (xs:List (List UInt8)) (K:Nat→Prop) (w:World) (hb:Boxed w Bs 89 v) (hrow:w.ownsRow base 9 1 v xs.length (xs.map encS)) (hlen:xs.length≤1000000000000) (hKb:K Bs) (hKv:∀b,v.ownBlock=some b→K b) (Bd:Nat) :
 x3z Fence.wide n Tryz.prog 191 #[.pointer (some ⟨Bs,0,none⟩)] (fun x:List UInt8 => #[Value.string ⟨⟨x⟩⟩]) K Bd xs w:=by
 intro l J Jx W hW hJ hJx hY h0;have hb':Boxed W Bs 89 v:=(hW.block Bs hb.lt).trans hb;have hc:=hb'.cell;rcases hrow.2 with ⟨rfl,hn0⟩ | ⟨g,cap,cur,rfl,hg1,hg2,hg3,hg4,hg5,hg6⟩
 · have hx:xs=[]:=List.eq_nil_of_length_eq_zero hn0
   subst hx;refine callsIn_of_wp Tryz.func191 rfl trivial ?_ rfl;simp only [Tryz.ntmps191,List.size_toArray,List.length_cons,List.length_nil,Nat.reduceAdd,Nat.reduceSub,Array.replicate_succ,Array.replicate_zero,List.push_toArray,List.append_toArray,List.nil_append,List.cons_append]
   gi_wp2
   gi_loopw [7] (fun i wr=>i = .int .i64 0∧J [] wr) (fun _ _=>0)
   case atStart=>exact ⟨rfl,h0⟩
   case round =>
    obtain ⟨rfl,hJs⟩:=hrel
    gi_wp2
    go_end0
    exact ⟨⟨_,rfl⟩,.inl hJs⟩
 · have hKg:K g:=hKv g rfl
   have hgW:W.heap[g]? = some (.cells cur 9 (0,0)):=(hW.block g (lt_of_some hg2)).trans hg2;have hcur:∀(k:Nat) x,xs[k]? = some x→cur[k]? = some (.string ⟨⟨x⟩⟩):=fun k x hk=>by
    have hlt:k<xs.length:=(List.getElem?_eq_some_iff.1 hk).1;have h1:(cur.toList.take (xs.length*1))[k]? = some (encS x):=by rw [hg6,List.getElem?_map,hk];rfl
    rw [List.getElem?_take_of_lt (by omega),Array.getElem?_toList] at h1;exact h1
   refine callsIn_of_wp Tryz.func191 rfl trivial ?_ rfl;simp only [Tryz.ntmps191,List.size_toArray,List.length_cons,List.length_nil,Nat.reduceAdd,Nat.reduceSub,Array.replicate_succ,Array.replicate_zero,List.push_toArray,List.append_toArray,List.nil_append,List.cons_append];generalize hN:xs.length=N at *
   gi_wp2
   gi_loopw [7] (fun i wr=>∃k:Nat,i = .int .i64 k∧k≤N∧Hid (J (xs.take k) wr)∧Hid (wr.heap[g]? = some (.cells cur 9 (0,0)))) (fun i _=>N - (intOf i).toNat)
   case atStart=>exact ⟨0,rfl,Nat.zero_le _,h0,hgW⟩
   case round =>
    obtain ⟨k,rfl,hk,hJs,hgr⟩:=hrel;by_cases hlt:k<N
    · obtain ⟨x,hx⟩:∃x,xs[k]? = some x:=⟨_,List.getElem?_eq_getElem (by omega)⟩
      have htk:xs.take (k+1)=xs.take k++[x]:=by rw [List.take_add_one,hx];rfl
      have hpre:xs.take k++[x] <+: xs:=htk▸List.take_prefix _ _;have hcx:wr.cell? ⟨g,k,none⟩=some (.string ⟨⟨x⟩⟩):=by simp only [World.cell?,hgr.out];exact hcur k x hx
      obtain ⟨fn,tmps,assign,body,hy,hR⟩:=hY _ x wr hpre hJs.out;clear hcur
      gi_wp2
      refine hR.mono ?_;rintro e W3 (⟨rfl,hJ3,hs3,hk3⟩ | ⟨rfl,hJx3⟩)
      · have hg3:Hid (W3.heap[g]? = some (.cells cur 9 (0,0))):=(hk3 g hKg).trans hgr.out
        have hJ4:Hid (J (xs.take (k+1)) W3):=by rw [htk];exact hJ3
        gi_wp2
        go_roundw
        case rel=>exact ⟨k+1,by simp,by omega,hJ4,hg3⟩
        case measure=>simp [intOf];omega
      · gi_wp2
        refine bodyPost_ret (results_none rfl _ _ _) rfl ?_;exact ⟨⟨_,rfl⟩,.inr ⟨_,hpre,hJx3⟩⟩
    · obtain rfl:k=N:=by omega
      gi_wp2
      go_end0
      exact ⟨⟨_,rfl⟩,.inl (by have:=hJs.out;rwa [List.take_of_length_le (by omega)] at this)⟩
set_option maxHeartbeats 4000000 in
theorem x7f (a:Option Addr) (n cap:Nat) (w:World):Calls Tryz.prog 158 #[.slice a n cap] w fun e w'=>e = .returned (.func (.func 191) #[] #[.pointer (some ⟨w.heap.size,0,none⟩)])∧w'=w.alloc (.cells #[.slice a n cap] 89):=by
 go_enter Tryz.func158,Tryz.ntmps158
 go_wp2
 go_returns
 exact ⟨rfl,rfl⟩
def K0:qn:=fun f=>Ae.lookA f []
theorem d1z:zm Tryz.prog K0:=x0z _
noncomputable def k2y:Code:=match qc (code Tryz.f124) [1,1,1,1,0,1,0] with | .rangeFunc _ _ _ b=>b | c=>c
noncomputable def z2o:Array Oper:=match qc k2y [0,1,1,1] with | .region _ ops _=>ops | _ => #[]
def t11 (x y:List UInt8):List AV:=[.top,.top,.top,.top,.top,.top,.top,.top,.top,.ptr 2 0,.ptr 3 0,.top,.str x,.top,.str y]++List.replicate 45 .top
def o11 (ps qs:List (List UInt8)):qk:=[[.rowc 9 .str ps],[.rowc 9 .str qs],[.row 0],[.row 1]]
def k9d (ps qs:List (List UInt8)) (x y:List UInt8):qk:=[[],[],[.row 5],[.row 7],[.rowc 9 .str [x]],[.rowc 9 .str (ps++[x])],[.rowc 9 .str [y]],[.rowc 9 .str (qs++[y])]]
theorem r11 (ps qs:List (List UInt8)) (x y:List UInt8):q0h Γ K0 z2o ⟨t11 x y,o11 ps qs⟩ (fun s=>some s.o) =
 bif decide (ps.length+1≤140737488355328/16) then (bif decide (qs.length+1≤140737488355328/16) then some (k9d ps qs x y) else none) else none:=by kernel_rfl
theorem d2a:∀(i:Nat) o,z2o[i]? = some o→∀c,o.op ≠ .defer c:=by
 have h:(z2o.toList.all fun o=>match o.op with | .defer _=>false | _=>true)=true:=by kernel_rfl
 intro i o ho c hc;have:=List.all_eq_true.1 h o (Array.mem_toList_iff.2 (Array.mem_of_getElem? ho));rw [hc] at this;cases this
theorem x2g {w:World} {m:Md} {g:List Value}:∀(av:List AV) (vs:List Value),av.length=vs.length→(∀(i:Nat) v,vs[i]? = some v→qi w m g (av.getD i .top) v)→qe w m g av vs
 | [],[],_,_=>rfl
 | a::av,v::vs,hl,h=>⟨v,vs,rfl,h 0 v rfl,x2g av vs (by simpa using hl) fun i u hu=>h (i+1) u hu⟩
structure Two (base A9 A10:Nat) (W:World) (ps qs:List (List UInt8)):Prop where
 ex:∃va vu t9 t10,Boxed W A9 t9 va∧Boxed W A10 t10 vu∧W.ownsRow base 9 1 va ps.length (ps.map encS)∧W.ownsRow base 9 1 vu qs.length (qs.map encS) ∧
  (∀b,va.ownBlock=some b→b≠A9∧b≠A10∧vu.ownBlock≠some b)∧∀b,vu.ownBlock=some b→b≠A9∧b≠A10
def k2q (A9 A10:Nat) (va vu:Value) (b:Nat):Prop:=b=A9∨b=A10∨va.ownBlock=some b∨vu.ownBlock=some b
theorem y1u {w:World} {m:Md} {l:List (List UInt8)} {xs:List Value} (h:yi w m .str l xs) (hl:xs.length=l.length*1):xs=l.map encS:=by
 apply List.ext_getElem?;intro j;rw [List.getElem?_map];by_cases hj:j<l.length
 · have h1:((xs.drop (j*1)).take 1)=[.string ⟨⟨l[j]⟩⟩]:=h j l[j] (List.getElem?_eq_getElem hj)
   have h2:((xs.drop (j*1)).take 1)[0]? = some (.string ⟨⟨l[j]⟩⟩):=by rw [h1];rfl
   rw [List.getElem?_take_of_lt (by omega),List.getElem?_drop] at h2;simp only [Nat.mul_one,Nat.add_zero] at h2;rw [h2,List.getElem?_eq_getElem hj];rfl
 · rw [List.getElem?_eq_none (by omega),List.getElem?_eq_none (by omega)]
   rfl
theorem v2p {w:World} {m:Md} (l:List (List UInt8)):yi w m .str l (l.map encS):=by
 intro j x hj
 change List UInt8 at x
 change l[j]? = some x at hj
 show ((l.map encS).drop (j*1)).take 1=[.string ⟨⟨x⟩⟩]
 have hlt:=(List.getElem?_eq_some_iff.1 hj).1;have:((l.map encS).drop j)=encS x::(l.map encS).drop (j+1):=by
  rw [←List.map_drop,List.drop_eq_getElem_cons hlt,List.map_cons,List.map_drop];rw [(List.getElem?_eq_some_iff.1 hj).2]
 rw [Nat.mul_one,this];rfl
theorem row_zero {W:World} {base:Nat} {e:TypeId} {size n:Nat} {v:Value} {xs:List Value} (h:W.ownsRow base e size v n xs):W.ownsRow 0 e size v n xs:=by
 refine ⟨h.1,?_⟩;rcases h.2 with h | ⟨g,cap,cur,e1,h2,h3⟩
 · exact .inl h
 · exact .inr ⟨g,cap,cur,e1,Nat.zero_le _,h3⟩
theorem y5a {W:World} {base:Nat} {e:TypeId} {size n:Nat} {v:Value} {xs:List Value} (h:W.ownsRow base e size v n xs):∀b,v.ownBlock=some b→base≤b∧b<W.heap.size∧∃o,W.heap[b]? = some o∧o.isCells=true:=by
 rcases h.2 with ⟨rfl,_⟩ | ⟨g,cap,cur,rfl,h2,h3,_⟩
 · intro b hb;cases hb
 · intro b hb;cases hb;exact ⟨h2,lt_of_some h3,_,h3,rfl⟩
theorem z9r {w:World} {m:Md} {g:List Value} {A:Nat} {t:TypeId} {v:Value} {i:Nat} (h:Boxed w A t v) (hi:g[i]? = some v) (hv:∃ao n c,v = .slice ao n c):RepO w m g (.pointer (some ⟨A,0,none⟩)) [.row i] :=
 ⟨fun _ _ _ e=>(by cases e),fun _ _ e=>(by cases e),fun _=>⟨A,t,_,rfl,h,v,[],rfl,⟨hi,hv⟩,rfl⟩,fun _ _ e=>(by cases e),trivial⟩
theorem y1x {w:World} {m:Md} {g:List Value} {base:Nat} {v:Value} {l:List (List UInt8)} (h:w.ownsRow base 9 1 v l.length (l.map encS)):RepO w m g v [.rowc 9 .str l] :=
 ⟨fun _ _ _ e=>(by cases e;exact ⟨_,row_zero h,v2p l⟩),fun _ _ e=>(by cases e),fun e=>(by cases e),fun _ _ e=>(by cases e),trivial⟩
theorem v6h (l n0:Nat) (ps qs:List (List UInt8)) (x y:List UInt8) (hp:ps.length≤1000000000000) (hq:qs.length≤1000000000000) (tm:List Value) (base R A9 A10:Nat) (hR:base≤R) (W:World) (hg:GI W m0) (hgb:∀b∈q2w,b<base)
 (hne:A9≠A10) (h9:base≤A9) (h10:base≤A10) (h:Two R A9 A10 W ps qs) (hlen:tm.length=60) (hbase:R≤W.heap.size)
 (e9:tm[9]? = some (.pointer (some ⟨A9,0,none⟩))) (e10:tm[10]? = some (.pointer (some ⟨A10,0,none⟩))) (e12:tm[12]? = some (.string ⟨⟨x⟩⟩)) (e14:tm[14]? = some (.string ⟨⟨y⟩⟩)) :
 (Code.region 11 z2o true).wpIn (Fence.wide.inRound l) n0 Tryz.prog (fun e a' w'=>e = .normal∧Two R A9 A10 w' (ps++[x]) (qs++[y])∧w'.os=W.os∧w'.tape=W.tape∧w'.output=W.output∧W.heap.size≤w'.heap.size ∧
  (∀b,b<R→b≠A9→b≠A10→w'.heap[b]? = W.heap[b]?)∧∀(b:Nat) (o:Obj),W.heap[b]? = some o→o.isCells=false→w'.heap[b]? = some o) { tmps:=tm.toArray,defers:=[] } W:=by
 obtain ⟨va,vu,t9,t10,b9,b10,r9,r10,s1,s2⟩:=h.ex;have g1:=y5a r9;have g2:=y5a r10;obtain ⟨sa1,sc1,es1⟩:=q1c r9;obtain ⟨sa2,sc2,es2⟩:=q1c r10;have hmu:∀b,k2q A9 A10 va vu b→base≤b∧b<W.heap.size∧∃o,W.heap[b]? = some o∧o.isCells=true:=by
  rintro b (rfl | rfl | hb | hb)
  · exact ⟨h9,b9.lt,_,b9,rfl⟩
  · exact ⟨h10,b10.lt,_,b10,rfl⟩
  · have:=g1 b hb;exact ⟨by omega,this.2⟩
  · have:=g2 b hb;exact ⟨by omega,this.2⟩
 have hrep:Rep W ⟨k2q A9 A10 va vu,k2q A9 A10 va vu⟩ [va,vu,.pointer (some ⟨A9,0,none⟩),.pointer (some ⟨A10,0,none⟩)] ⟨t11 x y,o11 ps qs⟩ { tmps:=tm.toArray,defers:=[] }:=by
  refine ⟨?_,rfl,?_⟩
  · refine x2g _ _ (by simp [t11,hlen]) fun i v hv => ?_
    have hv':tm[i]? = some v:=hv;have hi:i<60:=hlen▸(List.getElem?_eq_some_iff.1 hv').1;by_cases i9:i=9
    · subst i9;rw [e9] at hv';cases hv';exact ⟨A9,rfl,rfl⟩
    by_cases i10:i=10
    · subst i10;rw [e10] at hv';cases hv';exact ⟨A10,rfl,rfl⟩
    by_cases i12:i=12
    · subst i12;rw [e12] at hv';cases hv';rfl
    by_cases i14:i=14
    · subst i14;rw [e14] at hv';cases hv';rfl
    have ht:(t11 x y).getD i .top = .top:=by
     have hc:i=0∨i=1∨i=2∨i=3∨i=4∨i=5∨i=6∨i=7∨i=8∨i=11∨i=13∨15≤i:=by omega
     rcases hc with rfl | rfl | rfl | rfl | rfl | rfl | rfl | rfl | rfl | rfl | rfl | hc
     iterate 11 rfl
     unfold t11;rw [List.getD_eq_getElem?_getD,List.getElem?_append_right (by simpa using hc),List.getElem?_replicate];split<;>rfl
    rw [ht];trivial
  · refine ⟨⟨hg.i,fun b hb=>⟨(hg.b b hb).1,fun hc => ?_⟩⟩,rfl,?_,fun _ h=>h,fun b hb=>(hmu b hb).2.1,?_,?_⟩
    · have:=(hmu b hc).1;have:=hgb b hb;omega
    · rintro b ⟨i,gi,cs,k1,k2,k3⟩
      match i with
      | 0=>cases k1;cases k2;exact .inr (.inr (.inl k3))
      | 1=>cases k1;cases k2;exact .inr (.inr (.inr k3))
      | 2=>cases k1;cases k2;cases k3;exact .inl rfl
      | 3=>cases k1;cases k2;cases k3;exact .inr (.inl rfl)
      | i+4=>cases k1
    · intro i gi cs k1 k2
      match i with
      | 0=>cases k1;cases k2;exact y1x r9
      | 1=>cases k1;cases k2;exact y1x r10
      | 2=>cases k1;cases k2;exact z9r b9 rfl ⟨_,_,_,es1⟩
      | 3=>cases k1;cases k2;exact z9r b10 rfl ⟨_,_,_,es2⟩
      | i+4=>cases k1
    · intro i j gi gj ci cj b hij k1 k2 k3 k4 k5 k6
      match i,j with
      | 0,0 | 1,1 | 2,2 | 3,3=>exact hij rfl
      | 0,1=>cases k1;cases k2;cases k3;cases k4;exact (s1 b k5).2.2 k6
      | 1,0=>cases k1;cases k2;cases k3;cases k4;exact (s1 b k6).2.2 k5
      | 0,2=>cases k1;cases k2;cases k3;cases k4;cases k6;exact (s1 _ k5).1 rfl
      | 0,3=>cases k1;cases k2;cases k3;cases k4;cases k6;exact (s1 _ k5).2.1 rfl
      | 1,2=>cases k1;cases k2;cases k3;cases k4;cases k6;exact (s2 _ k5).1 rfl
      | 1,3=>cases k1;cases k2;cases k3;cases k4;cases k6;exact (s2 _ k5).2 rfl
      | 2,0=>cases k1;cases k2;cases k3;cases k4;cases k5;exact (s1 _ k6).1 rfl
      | 3,0=>cases k1;cases k2;cases k3;cases k4;cases k5;exact (s1 _ k6).2.1 rfl
      | 2,1=>cases k1;cases k2;cases k3;cases k4;cases k5;exact (s2 _ k6).1 rfl
      | 3,1=>cases k1;cases k2;cases k3;cases k4;cases k5;exact (s2 _ k6).2 rfl
      | 2,3=>cases k1;cases k2;cases k3;cases k4;cases k5;cases k6;exact hne rfl
      | 3,2=>cases k1;cases k2;cases k3;cases k4;cases k5;cases k6;exact hne rfl
      | i+4,_=>cases k1
      | _,j+4=>cases k3
 have hlim:(140737488355328:Nat)/16=8796093022208:=rfl;have hrun:q0h Γ K0 z2o ⟨t11 x y,o11 ps qs⟩ (fun s=>some s.o)=some (k9d ps qs x y):=by
  rw [r11,hlim,decide_eq_true (show ps.length+1≤8796093022208 by omega),decide_eq_true (show qs.length+1≤8796093022208 by omega)];rfl
 refine wpIn_mono (y3r l n0 d2a hm hΓ d1z hrep hrun (Q:=fun a' w'=>Two R A9 A10 w' (ps++[x]) (qs++[y])∧w'.os=W.os∧w'.tape=W.tape∧w'.output=W.output∧W.heap.size≤w'.heap.size ∧
  (∀b,b<R→b≠A9→b≠A10→w'.heap[b]? = W.heap[b]?)∧∀(b:Nat) (o:Obj),W.heap[b]? = some o→o.isCells=false→w'.heap[b]? = some o) ?_) fun e a' w' h=>h
 intro st' a' w' m' g' k1 k2 k3 k4;have ho:st'.o=k9d ps qs x y:=Option.some.inj k1;have hob:=k2.obj;rw [ho] at hob;have q2:g'[2]? = some (.pointer (some ⟨A9,0,none⟩)):=k4 2 _ rfl;have q3:g'[3]? = some (.pointer (some ⟨A10,0,none⟩)):=k4 3 _ rfl;have hlen8:g'.length=8:=hob.len;obtain ⟨v5,q5⟩:∃v,g'[5]? = some v:=⟨_,List.getElem?_eq_getElem (by omega)⟩
 obtain ⟨v7,q7⟩:∃v,g'[7]? = some v:=⟨_,List.getElem?_eq_getElem (by omega)⟩
 obtain ⟨b2,ty2,arr2,z1,z2,z3⟩:=(hob.obj 2 _ [.row 5] q2 rfl).box rfl;obtain ⟨b3,ty3,arr3,y1,y2,y3⟩:=(hob.obj 3 _ [.row 7] q3 rfl).box rfl;cases z1;cases y1;obtain ⟨u5,r5,z4,⟨z5,z6⟩,z7⟩:=z3;obtain ⟨u7,r7,y4,⟨y5,y6⟩,y7⟩:=y3;rw [q5] at z5;rw [q7] at y5;cases z5;cases y5;have z7':r5=[]:=z7;have y7':r7=[]:=y7;subst z7' y7';obtain ⟨xs5,o5,p5⟩:=(hob.obj 5 _ [.rowc 9 .str (ps++[x])] q5 rfl).rowc _ _ _ rfl;obtain ⟨xs7,o7,p7⟩:=(hob.obj 7 _ [.rowc 9 .str (qs++[y])] q7 rfl).rowc _ _ _ rfl;have hx5:=y1u p5 o5.1;have hx7:=y1u p7 o7.1;subst hx5 hx7;have hge:∀(i:Nat) gi cs b,i≠2→i≠3→g'[i]? = some gi→(k9d ps qs x y)[i]? = some cs→blk gi cs=some b→R≤b:=fun i gi cs b n2 n3 c1 c2 c3=>by
  by_cases hlt:b<W.heap.size
  · rcases k3.mutb b hlt (hob.nm b (hob.sub b ⟨i,gi,cs,c1,c2,c3⟩)) with h | h | h | h
    · exact (hob.sep i 2 _ _ _ _ _ n2 c1 c2 q2 rfl c3 (by rw [h];rfl)).elim
    · exact (hob.sep i 3 _ _ _ _ _ n3 c1 c2 q3 rfl c3 (by rw [h];rfl)).elim
    · exact (g1 b h).1
    · exact (g2 b h).1
  · omega
 have hkeep:∀(b:Nat) (o:Obj),W.heap[b]? = some o→¬k2q A9 A10 va vu b→w'.heap[b]? = some o:=fun b o hb hn=>(k3.keep b (lt_of_some hb) hn).trans hb;refine ⟨⟨v5,v7,ty2,ty3,?_,?_,?_,?_,?_,?_⟩,k3.os,k3.tape,k3.output,k3.size,?_,?_⟩
 · have:arr2 = #[v5]:=by cases arr2;simpa using z4
   subst this;exact z2
 · have:arr3 = #[v7]:=by cases arr3;simpa using y4
   subst this;exact y2
 · exact z0d o5 fun b hb=>hge 5 _ _ b (by decide) (by decide) q5 rfl hb
 · exact z0d o7 fun b hb=>hge 7 _ _ b (by decide) (by decide) q7 rfl hb
 · intro b hb
   refine ⟨?_,?_,fun hc => ?_⟩
   · rintro rfl;exact hob.sep 5 2 _ _ _ _ _ (by decide) q5 rfl q2 rfl hb rfl
   · rintro rfl;exact hob.sep 5 3 _ _ _ _ _ (by decide) q5 rfl q3 rfl hb rfl
   · exact hob.sep 5 7 _ _ _ _ _ (by decide) q5 rfl q7 rfl hb hc
 · intro b hb
   refine ⟨?_,?_⟩
   · rintro rfl;exact hob.sep 7 2 _ _ _ _ _ (by decide) q7 rfl q2 rfl hb rfl
   · rintro rfl;exact hob.sep 7 3 _ _ _ _ _ (by decide) q7 rfl q3 rfl hb rfl
 · intro b hb hn9 hn10
   refine k3.keep b (by omega) fun hc => ?_;rcases hc with h | h | h | h
   · exact hn9 h
   · exact hn10 h
   · have:=(g1 b h).1;omega
   · have:=(g2 b h).1;omega
 · intro b o hb hc
   refine hkeep b o hb fun hcc => ?_;obtain ⟨_,_,o',e1,e2⟩:=hmu b hcc;rw [hb] at e1;cases e1;rw [hc] at e2;cases e2
def q2f (A U:List UInt8→Option (List UInt8×Int)):List (List UInt8)→List (List UInt8)→List (List UInt8)→Option (Int×List (List UInt8)×List (List UInt8))
 | [],ps,qs=>some (0,ps,qs)
 | x::xs,ps,qs=>(A x).bind fun a=>bif a.2 != 0 then some (a.2,[],[]) else (U x).bind fun u=>q2f A U xs (ps++[a.1]) (qs++[u.1])
theorem y2b {N Bs R A9 A10:Nat} {W W':World} {ps qs:List (List UInt8)} (h:Two R A9 A10 W ps qs) (h9:A9≠Bs) (h10:A10≠Bs) (hR:Bs<R) (ho:OthR N Bs W W'):Two R A9 A10 W' ps qs:=by
 obtain ⟨va,vu,t9,t10,b9,b10,r9,r10,s1,s2⟩:=h.ex;exact ⟨va,vu,t9,t10,xm b9 h9 ho,xm b10 h10 ho,q0l hR r9 ho,q0l hR r10 ho,s1,s2⟩
theorem v6l {W:World} {base:Nat} {v:Value} {l:List (List UInt8)} (h:W.ownsRow base 9 1 v l.length (l.map encS)):qy W m0 (.lst .str) l [v]:=by
 rcases h.2 with ⟨rfl,h0⟩ | ⟨g,cap,cur,rfl,h2,h3,h4,h5,h6,h7⟩
 · have hl:l=[]:=List.eq_nil_of_length_eq_zero h0
   subst hl;exact ⟨none,0,rfl,Nat.le_refl _,by omega,fun _=>rfl,fun j x hj=>by
    have hj':([]:List (List UInt8))[j]? = some x:=hj;simp at hj'⟩
 · refine ⟨_,cap,rfl,h4,by simp only [maxLen] at h5;omega,fun e=>(by cases e),fun j x hj => ?_⟩
   change List UInt8 at x
   change l[j]? = some x at hj
   refine ⟨g,0,[.string ⟨⟨x⟩⟩],rfl,rfl,rfl,lt_of_some h3,fun hm=>hm,fun i u hu => ?_⟩;have hlt:=(List.getElem?_eq_some_iff.1 hj).1
   match i with
   | i+1=>cases hu
   | 0 =>
    cases hu;have h1:(cur.toList.take (l.length*1))[j]? = some (encS x):=by rw [h7,List.getElem?_map,hj];rfl
    rw [List.getElem?_take_of_lt (by omega),Array.getElem?_toList] at h1;simp only [World.cell?,h3];show cur[0+j*1+0]? = _;rw [show 0+j*1+0=j by omega];exact h1
theorem z2h {W:World} {base:Nat} {v:Value} {l:List (List UInt8)} {r:List UInt8} (h:W.ownsRow base 9 1 v l.length (l.map encS)) (hj:q6c (l,[46],())=some (r,())) (hg:GI W m0) :
 Calls Tryz.prog 73 #[v,.string ⟨#[46]⟩] W fun e W'=>e = .returned (.string ⟨⟨r⟩⟩)∧Below W.heap.size W W':=by
 have hj':C73 (l,[46],())=some (r,()):=hj;refine (zi.call0 (v:=(l,[46],())) (y:=(r,())) d2r Tryz.func73 (by kernel_rfl) (by kernel_rfl) hg (fun _ h=>h.elim) rfl ⟨v,_,rfl,v6l h,_,_,rfl,rfl,rfl⟩ rfl hj' ?_).mono fun e w' ⟨rv,h1,h2,ax,l',u,h3,h4⟩ => ?_
 · intro ax l' u h3
   cases jk h3;rfl
 · cases jk h3
   obtain ⟨v,r',e1,e2,e4⟩:=h4;have e4':r'=[]:=e4;subst e4';cases e1;subst h1 e2;exact ⟨rfl,h2⟩
def y1q (res:Int×List (List UInt8)×List (List UInt8)):Option (List UInt8×List UInt8×Int) :=
 bif res.1 != 0 then some ([],[],res.1) else (q6c (res.2.1,[46],())).bind fun ja=>bif decide (253<ja.1.length) then some ([],[],5) else (q6c (res.2.2,[46],())).bind fun ju=>some (ja.1,ju.1,0)
set_option maxHeartbeats 4000000 in
theorem x6a (v0 v1 v2 v3 v4:Value) (s:List UInt8) (ls:List (List UInt8)) (A U:List UInt8→Option (List UInt8×Int)) (res:Int×List (List UInt8)×List (List UInt8)) (w:World) (hg:GI w m0) (hll:ls.length≤32)
 (hres:q2f A U ls [] []=some res) (oa ou:List UInt8) (oc:Int) (hout:y1q res=some (oa,ou,oc))
 (hlab:∀W,Below w.heap.size w W→Calls Tryz.prog 157 #[.agg #[v0,v1,v2,v3,v4],.string ⟨⟨s⟩⟩] W fun e w'=>∃v,e = .returned (.tuple #[v,.int .i64 0])∧Below W.heap.size W w'∧w'.ownsRow W.heap.size 9 1 v ls.length (ls.map encS))
 (hA:∀x r,A x=some r→∀W,Below w.heap.size w W→Calls Tryz.prog 159 #[.agg #[v0,v1,v2,v3,v4],.string ⟨⟨x⟩⟩] W fun e W'=>e = .returned (.tuple #[.string ⟨⟨r.1⟩⟩,.int .i64 r.2])∧Below W.heap.size W W')
 (hU:∀x r,U x=some r→∀W,Below w.heap.size w W→Calls Tryz.prog 160 #[.agg #[v0,v1,v2,v3,v4],.string ⟨⟨x⟩⟩] W fun e W'=>e = .returned (.tuple #[.string ⟨⟨r.1⟩⟩,.int .i64 r.2])∧Below W.heap.size W W') :
 Calls Tryz.prog 124 #[.agg #[v0,v1,v2,v3,v4],.string ⟨⟨s⟩⟩] w fun e w'=>e = .returned (.tuple #[.string ⟨⟨oa⟩⟩,.string ⟨⟨ou⟩⟩,.int .i64 oc])∧Below w.heap.size w w':=by
 refine (callsIn_wide (n:=3)).1 ?_;refine callsIn_of_wp_marks Tryz.func124 rfl trivial ?_ rfl;simp only [Tryz.ntmps124,List.size_toArray,List.length_cons,List.length_nil,Nat.reduceAdd,Nat.reduceSub,Array.replicate_succ,Array.replicate_zero,List.push_toArray,List.append_toArray,List.nil_append,List.cons_append];have hW0:Below w.heap.size w ((((w.alloc (.cells #[v0,v1,v2,v3,v4] 39)).alloc (.cells #[.string ⟨#[]⟩] 9)).alloc (.cells #[.string ⟨#[]⟩] 9)).alloc (.cells #[.int .i64 0] 44)) :=
  ((((Below.refl _ w).alloc (Nat.le_refl _) _).alloc (by simp) _).alloc (by simp<;>omega) _).alloc (by simp<;>omega) _
 gi_wp2_with (first
  | (refine ⟨trivial,?_⟩;gi_at_call 157;refine (callsIn_wide.2 (hlab _ hW0)).mono ?_;rintro e w1 ⟨lv,rfl,hb1,hrow⟩;obtain ⟨la,lc,rfl⟩:=q1c hrow)
  | (refine ⟨trivial,?_⟩;gi_at_call 158;refine (callsIn_wide.2 (x7f _ _ _ _)).mono ?_;rintro e w2 ⟨rfl,rfl⟩))
 have hb0:Below w.heap.size w w1:=hW0.trans (hb1.mono hW0.size);have hsz1:w.heap.size+4≤w1.heap.size:=by have:=hb1.size;simp at this;omega
 have hT:∀X,Below w1.heap.size w1 X→X.cell? ⟨w.heap.size,0,none⟩=some v0∧X.cell? ⟨w.heap.size,1,none⟩=some v1∧X.cell? ⟨w.heap.size,2,none⟩=some v2∧X.cell? ⟨w.heap.size,3,none⟩=some v3∧X.cell? ⟨w.heap.size,4,none⟩=some v4:=fun X hX=>by
  have h1:X.heap[w.heap.size]? = some (.cells #[v0,v1,v2,v3,v4] 39):=by
   rw [hX.block _ (by omega),hb1.block _ (by simp<;>omega),Below.heap_alloc _ _ _ (by simp<;>omega),Below.heap_alloc _ _ _ (by simp<;>omega),Below.heap_alloc _ _ _ (by simp),heap_alloc_new]
  exact ⟨by rw [qf h1];rfl,by rw [qf h1];rfl,by rw [qf h1];rfl,by rw [qf h1];rfl,by rw [qf h1];rfl⟩
 have hR:∀X,Below w1.heap.size w1 X→Boxed X (w.heap.size+1) 9 (.string ⟨#[]⟩)∧Boxed X (w.heap.size+1+1) 9 (.string ⟨#[]⟩)∧Boxed X (w.heap.size+1+1+1) 44 (.int .i64 0):=fun X hX=>by
  refine ⟨?_,?_,?_⟩
  · show X.heap[_]? = _
    rw [hX.block _ (by omega),hb1.block _ (by simp<;>omega),Below.heap_alloc _ _ _ (by simp<;>omega),Below.heap_alloc _ _ _ (by simp)];have:=heap_alloc_new (w.alloc (.cells #[v0,v1,v2,v3,v4] 39)) (.cells #[.string ⟨#[]⟩] 9)
    rwa [World.size_alloc] at this
  · show X.heap[_]? = _
    rw [hX.block _ (by omega),hb1.block _ (by simp<;>omega),Below.heap_alloc _ _ _ (by simp)];have:=heap_alloc_new ((w.alloc (.cells #[v0,v1,v2,v3,v4] 39)).alloc (.cells #[.string ⟨#[]⟩] 9)) (.cells #[.string ⟨#[]⟩] 9)
    rwa [World.size_alloc,World.size_alloc] at this
  · show X.heap[_]? = _
    rw [hX.block _ (by omega),hb1.block _ (by simp)];have:=heap_alloc_new (((w.alloc (.cells #[v0,v1,v2,v3,v4] 39)).alloc (.cells #[.string ⟨#[]⟩] 9)).alloc (.cells #[.string ⟨#[]⟩] 9)) (.cells #[.int .i64 0] 44)
    rwa [World.size_alloc,World.size_alloc,World.size_alloc] at this
 have hg1:GI w1 m0:=zd hg hb0;have hW2:Below w1.heap.size w1 (((w1.alloc (.cells #[.slice none 0 0] 89)).alloc (.cells #[.slice none 0 0] 89)).alloc (.cells #[.slice la ls.length lc] 89)) :=
  (((Below.refl _ w1).alloc (Nat.le_refl _) _).alloc (by simp) _).alloc (by simp<;>omega) _
 have hszN:(((w1.alloc (.cells #[.slice none 0 0] 89)).alloc (.cells #[.slice none 0 0] 89)).alloc (.cells #[.slice la ls.length lc] 89)).heap.size=w1.heap.size+3:=by simp
 have hbv:Boxed (((w1.alloc (.cells #[.slice none 0 0] 89)).alloc (.cells #[.slice none 0 0] 89)).alloc (.cells #[.slice la ls.length lc] 89)) (w1.heap.size+1+1) 89 (.slice la ls.length lc):=by
  have:=Boxed.new ((w1.alloc (.cells #[.slice none 0 0] 89)).alloc (.cells #[.slice none 0 0] 89)) 89 (.slice la ls.length lc)
  rwa [World.size_alloc,World.size_alloc] at this
 have hb9:Boxed (((w1.alloc (.cells #[.slice none 0 0] 89)).alloc (.cells #[.slice none 0 0] 89)).alloc (.cells #[.slice la ls.length lc] 89)) w1.heap.size 89 (.slice none 0 0) :=
  ((Boxed.new w1 89 (.slice none 0 0)).alloc _).alloc _
 have hb10:Boxed (((w1.alloc (.cells #[.slice none 0 0] 89)).alloc (.cells #[.slice none 0 0] 89)).alloc (.cells #[.slice la ls.length lc] 89)) (w1.heap.size+1) 89 (.slice none 0 0):=by
  have:=(Boxed.new (w1.alloc (.cells #[.slice none 0 0] 89)) 89 (.slice none 0 0)).alloc (.cells #[.slice la ls.length lc] 89)
  rwa [World.size_alloc] at this
 have hrow2:(((w1.alloc (.cells #[.slice none 0 0] 89)).alloc (.cells #[.slice none 0 0] 89)).alloc (.cells #[.slice la ls.length lc] 89)).ownsRow 0 9 1 (.slice la ls.length lc) ls.length (ls.map encS):=by
  have:=row_zero hrow;exact ((this.alloc _).alloc _).alloc _
 have hown:∀b,(Value.slice la ls.length lc).ownBlock=some b→b<w1.heap.size:=fun b hb=>((y5a hrow) b hb).2.1;clear hlab;refine yu (F:=Fence.wide) (n:=3) rfl (by omega) (gf:=191) (lb := #[.pointer (some ⟨w1.heap.size+1+1,0,none⟩)]) rfl trivial (enters_of Tryz.func191 (by kernel_rfl) rfl)
  (K:=fun b=>b=w1.heap.size+1+1∨(Value.slice la ls.length lc).ownBlock=some b)
  (y5l 2 (by omega) (w1.heap.size+1+1) 0 _ ls _ _ hbv hrow2 (by omega) (.inl rfl) (fun b hb => .inr hb) (w1.heap.size+1+1))
  (by rintro b (rfl | hb)
      · rw [hszN];omega
      · have:=hown b hb;rw [hszN];omega) (by rw [hszN];omega) (fun _=>rfl)
  (fun pre W=>∃ps qs rest,ls=pre++rest∧q2f A U rest ps qs=some res∧ps.length=pre.length∧qs.length=pre.length∧Two (w1.heap.size+3) w1.heap.size (w1.heap.size+1) W ps qs∧Below w1.heap.size w1 W)
  (fun c pre W=>c = .ret∧res.1≠0∧Boxed W (w.heap.size+1) 9 (.string ⟨#[]⟩)∧Boxed W (w.heap.size+1+1) 9 (.string ⟨#[]⟩)∧Boxed W (w.heap.size+1+1+1) 44 (.int .i64 res.1)∧Below w.heap.size w W)
  (fun pre X Y hs ho=>by
   obtain ⟨ps,qs,rest,h1,h2,h3,h4,h5,h6⟩:=hs;exact ⟨ps,qs,rest,h1,h2,h3,h4,y2b h5 (by omega) (by omega) (by omega) ho,q1n h6 (Nat.le_refl _) (by rw [hszN];omega) (by omega) ho⟩)
  (fun c pre X Y hs ho=>by
   obtain ⟨h1,h2,h3,h4,h5,h6⟩:=hs;exact ⟨h1,h2,xm h3 (by omega) ho,xm h4 (by omega) ho,xm h5 (by omega) ho,q1n h6 (Nat.le_refl _) (by rw [hszN];omega) (by omega) ho⟩)
  ⟨[],[],ls,rfl,hres,rfl,rfl,⟨_,_,_,_,hb9,hb10,World.ownsRow_nil _ _ _ _,World.ownsRow_nil _ _ _ _,fun b hb=>(by cases hb),fun b hb=>(by cases hb)⟩,hW2⟩
  (fun x=>{ tmps := #[.agg #[v0,v1,v2,v3,v4],.string ⟨⟨s⟩⟩,.pointer (some ⟨w.heap.size,0,none⟩),undef,.pointer (some ⟨w.heap.size+1,0,none⟩),.pointer (some ⟨w.heap.size+1+1,0,none⟩),.pointer (some ⟨w.heap.size+1+1+1,0,none⟩),.slice la ls.length lc,.int .i64 0,
   .pointer (some ⟨w1.heap.size,0,none⟩),.pointer (some ⟨w1.heap.size+1,0,none⟩),.string ⟨⟨x⟩⟩,undef,undef,undef,undef,undef,.tuple #[.slice la ls.length lc,.int .i64 0],.agg #[v0,v1,v2,v3,v4],.string ⟨⟨s⟩⟩,.tuple #[.slice la ls.length lc,.int .i64 0],.slice la ls.length lc,.int .i64 0,.int .i64 0,.bool false,undef,.slice la ls.length lc,
   .func (.func 191) #[] #[.pointer (some ⟨w1.heap.size+1+1,0,none⟩)],.string ⟨⟨x⟩⟩,undef,undef,undef,undef,undef,undef,undef,undef,undef,undef,undef,undef,undef,undef,undef,undef,undef,undef,undef,undef,undef,undef,undef,undef,undef,undef,undef,undef,undef,undef,undef],defers:=[] }) ?assign ?body ?done ?stop
 case assign =>
  intro l x W K hK
  gi_wp2
  exact hK
 case body =>
  rintro l pre x W hsz hpre ⟨ps,qs,rest,hls,hbf,hlp,hlq,hTwo,hbel⟩;obtain ⟨rest',rfl⟩:∃r,rest=x::r:=by
   obtain ⟨t,ht⟩:=hpre;rw [hls,List.append_assoc] at ht;have:=List.append_cancel_left ht;exact ⟨t,by simpa using this.symm⟩
  simp only [q2f] at hbf;obtain ⟨⟨a1,a2⟩,ha,hbf2⟩:=Option.bind_eq_some_iff.1 hbf;simp only at hbf2;rw [hszN] at hsz;have hWw:Below w.heap.size w W:=hb0.trans (hbel.mono (by omega));have hcA:=hA x _ ha W hWw;obtain ⟨t0,t1,t2,t3,t4⟩:=hT W hbel;by_cases hz:a2=0
  · subst hz
    have hbf3:((U x).bind fun u=>q2f A U rest' (ps++[a1]) (qs++[u.1]))=some res:=hbf2;obtain ⟨⟨u1,u2⟩,hu,hbf4⟩:=Option.bind_eq_some_iff.1 hbf3;simp only at hbf4;have hcU:=hU x _ hu
    gi_wp2_with (first
     | (refine ⟨trivial,?_⟩;gi_at_call 159;refine (CallsIn.inRound l (callsIn_wide.2 hcA)).mono ?_;rintro e W3 ⟨rfl,hb3⟩;have hbel3:Below w1.heap.size w1 W3:=hbel.trans (hb3.mono (by omega));obtain ⟨t5,t6,t7,t8,t9⟩:=hT W3 hbel3)
     | (refine ⟨trivial,?_⟩;gi_at_call 160;refine (CallsIn.inRound l (callsIn_wide.2 (hcU W3 (hb0.trans (hbel3.mono (by omega)))))).mono ?_;rintro e W4 ⟨rfl,hb4⟩))
    have hb34:Below W.heap.size W W4:=hb3.trans (hb4.mono hb3.size);have hTwo4:Two (w1.heap.size+3) w1.heap.size (w1.heap.size+1) W4 ps qs:=y2b (N:=0) (Bs:=w1.heap.size+1+1) hTwo (by omega) (by omega) (by omega) (Oth.of_below hb34).toR;have hll2:pre.length≤32:=by have:=hpre.length_le;simp at this;omega
    refine wpIn_mono (c:=Code.region 11 z2o true) (v6h l _ ps qs a1 u1 (by omega) (by omega) _ w1.heap.size (w1.heap.size+3) w1.heap.size (w1.heap.size+1) (by omega) W4 (zd hg1 (hbel3.trans (hb4.mono (by have:=hbel3.size;omega)))) (fun b hb=>(hg1.b b hb).1) (by omega) (Nat.le_refl _) (by omega) hTwo4 rfl (by have:=hb34.size;omega) rfl rfl rfl rfl) ?_;rintro e a' w' ⟨rfl,hTwo',o1,o2,o3,o4,o5,o6⟩;refine ⟨⟨Nat.le_trans hb34.size o4,fun k o _ hk hc=>o6 k o ((hb34.block k (lt_of_some hk)).trans hk) hc⟩,?_,ps++[a1],qs++[u1],rest',by simp [hls],hbf4,by simp;omega,by simp;omega,hTwo',?_⟩
    · rintro b (rfl | hb)
      · rw [o5 _ (by omega) (by omega) (by omega),hb34.block _ (by omega)]
      · have:=hown b hb
        rw [o5 _ (by omega) (by omega) (by omega),hb34.block _ (by omega)]
    · exact (hbel.trans (hb34.mono (by omega))).trans ⟨o1,o2,o3,o4,fun k hk=>o5 k (by omega) (by omega) (by omega)⟩
  · have hbf3:some (a2,([]:List (List UInt8)),([]:List (List UInt8)))=some res:=by
     rw [←hbf2,show (a2 != 0)=true by simpa using hz];rfl
    cases hbf3
    gi_wp2_with (refine ⟨trivial,?_⟩;gi_at_call 159;refine (CallsIn.inRound l (callsIn_wide.2 hcA)).mono ?_;rintro e W3 ⟨rfl,hb3⟩;have hbel3:Below w1.heap.size w1 W3:=hbel.trans (hb3.mono (by omega));obtain ⟨q1,q2,q3⟩:=hR W3 hbel3;have q4:=q1.cell;have q5:=q1.frozen;have q6:=q2.cell;have q7:=q2.frozen;have q8:=q3.cell;have q9:=q3.frozen)
    refine ⟨KeepsFrom.trans ⟨hb3.size,fun k o _ h _=>(hb3.block k (lt_of_some h)).trans h⟩ ((((KeepsOthers.setCell _ _ _).trans (KeepsOthers.setCell _ _ _)).trans (KeepsOthers.setCell _ _ _)).from _),rfl,?_,?_,?_,?_⟩
    · exact zl (zl (Boxed.set _ q1) (by omega)) (by omega)
    · exact zl (Boxed.set _ (zl q2 (by omega))) (by omega)
    · exact Boxed.set _ (zl (zl q3 (by omega)) (by omega))
    · exact (((hb0.trans (hbel3.mono (by omega))).setCell (p:=⟨w.heap.size+1,0,none⟩) (show w.heap.size≤w.heap.size+1 by omega) _).setCell (p:=⟨w.heap.size+1+1,0,none⟩) (show w.heap.size≤w.heap.size+1+1 by omega) _).setCell (p:=⟨w.heap.size+1+1+1,0,none⟩) (show w.heap.size≤w.heap.size+1+1+1 by omega) _
 case done =>
  rintro D W hD ⟨ps,qs,rest,hls,hbf,hlp,hlq,hTwo,hbel⟩ hK;have hrest:rest=[]:=by
   have:=congrArg List.length hls;simp at this;exact this
  subst hrest;have hres':(0,ps,qs)=res:=Option.some.inj hbf;subst hres';have ho:((q6c (ps,[46],())).bind fun ja=>bif decide (253<ja.1.length) then some (([]:List UInt8),([]:List UInt8),(5:Int)) else (q6c (qs,[46],())).bind fun ju=>some (ja.1,ju.1,0))=some (oa,ou,oc):=hout;obtain ⟨⟨ja,ju0⟩,hja,ho2⟩:=Option.bind_eq_some_iff.1 ho;obtain ⟨va,vu,ta,tu,bx9,bx10,rw9,rw10,_,_⟩:=hTwo.ex;have hcj:=z2h rw9 hja (zd hg1 hbel);have c9:=bx9.cell;have c10:=bx10.cell;have hDW:D<W.heap.size:=lt_of_some hK;rw [hszN] at hD;have hs8:w1.heap.size≤W.heap.size:=hbel.size;clear hls hbf hout ho hres hll hlp hlq;by_cases k4r:253<ja.length
  · have ho3:some (([]:List UInt8),([]:List UInt8),(5:Int))=some (oa,ou,oc):=by rw [←ho2];simp only;rw [decide_eq_true k4r];rfl
    cases ho3
    gi_wp2_with (refine ⟨trivial,?_⟩;gi_at_call 73;refine (callsIn_wide.2 hcj).mono ?_;rintro e W5 ⟨rfl,hb5⟩;have hbel5:Below w1.heap.size w1 W5:=hbel.trans (hb5.mono (by have:=hbel.size;omega));obtain ⟨q1,q2,q3⟩:=hR W5 hbel5;have q4:=q1.cell;have q5:=q1.frozen;have q6:=q2.cell;have q7:=q2.frozen;have q8:=q3.cell;have q9:=q3.frozen)
    have hKX:((((W5.setCell ⟨w.heap.size+1,0,none⟩ (.string ⟨#[]⟩)).setCell ⟨w.heap.size+1+1,0,none⟩ (.string ⟨#[]⟩)).setCell ⟨w.heap.size+1+1+1,0,none⟩ (.int .i64 5))).heap[D]? = some (.deferred (some [])):=by
     rw [Below.heap_setCell _ _ _ _ (show D≠w.heap.size+1+1+1 by omega),Below.heap_setCell _ _ _ _ (show D≠w.heap.size+1+1 by omega),Below.heap_setCell _ _ _ _ (show D≠w.heap.size+1 by omega)];exact (hb5.block D hDW).trans hK
    refine ⟨by simp,.inl ⟨_,_,rfl,run_takeDeferred hKX,?_⟩⟩;have e1:=zl (b':=w.heap.size+1+1+1) (u:=(.int .i64 5)) (zl (b':=w.heap.size+1+1) (u:=(.string ⟨#[]⟩)) (Boxed.set (.string ⟨#[]⟩) q1) (by omega)) (by omega);have e2:=zl (b':=w.heap.size+1+1+1) (u:=(.int .i64 5)) (Boxed.set (.string ⟨#[]⟩) (zl (b':=w.heap.size+1) (u:=(.string ⟨#[]⟩)) q2 (by omega))) (by omega);have e3:=Boxed.set (.int .i64 5) (zl (b':=w.heap.size+1+1) (u:=(.string ⟨#[]⟩)) (zl (b':=w.heap.size+1) (u:=(.string ⟨#[]⟩)) q3 (by omega)) (by omega));have hc1:=cell_kept e1.cell (grownBy_putObj' _ D (.deferred none)) (fun r e=>by cases e;exact ⟨_,hKX,rfl⟩);have hc2:=cell_kept e2.cell (grownBy_putObj' _ D (.deferred none)) (fun r e=>by cases e;exact ⟨_,hKX,rfl⟩);have hc3:=cell_kept e3.cell (grownBy_putObj' _ D (.deferred none)) (fun r e=>by cases e;exact ⟨_,hKX,rfl⟩);have hbX:=(((hb0.trans (hbel5.mono (show w.heap.size≤w1.heap.size by omega))).setCell (p:=⟨w.heap.size+1,0,none⟩) (show w.heap.size≤w.heap.size+1 by omega) (.string ⟨#[]⟩)).setCell (p:=⟨w.heap.size+1+1,0,none⟩) (show w.heap.size≤w.heap.size+1+1 by omega) (.string ⟨#[]⟩)).setCell (p:=⟨w.heap.size+1+1+1,0,none⟩) (show w.heap.size≤w.heap.size+1+1+1 by omega) (.int .i64 5);refine ⟨.tuple #[(.string ⟨#[]⟩),(.string ⟨#[]⟩),(.int .i64 5)],?_,rfl,hbX.trans (belowK_b (w:=w) (Nat.le_refl _) _ D _ _ (by omega) hKX rfl rfl)⟩;simp [results,Tryz.f124,go_sem,hc1,hc2,hc3]
  · have ho3:((q6c (qs,[46],())).bind fun ju=>some (ja,ju.1,(0:Int)))=some (oa,ou,oc):=by rw [←ho2];simp only;rw [decide_eq_false k4r];rfl
    obtain ⟨⟨ju,ju1⟩,hju,ho4⟩:=Option.bind_eq_some_iff.1 ho3;cases ho4
    gi_wp2_with (first
     | (refine ⟨trivial,?_⟩;gi_at_call 73;refine (callsIn_wide.2 hcj).mono ?_;clear hcj;rintro e W5 ⟨rfl,hb5⟩;have hbel5:Below w1.heap.size w1 W5:=hbel.trans (hb5.mono (by have:=hbel.size;omega));have c11:W5.cell? ⟨w1.heap.size+1,0,none⟩=some vu:=(hb5.cell (p:=⟨w1.heap.size+1,0,none⟩) bx10.lt).trans c10;have hcj2:=z2h (q0l (N:=0) (Bs:=w1.heap.size+1+1) (by omega) rw10 (Oth.of_below hb5).toR) hju (zd hg1 hbel5))
     | (refine ⟨trivial,?_⟩;gi_at_call 73;refine (callsIn_wide.2 hcj2).mono ?_;clear hcj2;rintro e W6 ⟨rfl,hb6⟩;have hbel6:Below w1.heap.size w1 W6:=hbel5.trans (hb6.mono (by have:=hbel5.size;omega));obtain ⟨q1,q2,q3⟩:=hR W6 hbel6;have q4:=q1.cell;have q5:=q1.frozen;have q6:=q2.cell;have q7:=q2.frozen;have q8:=q3.cell;have q9:=q3.frozen))
    have hKX:((((W6.setCell ⟨w.heap.size+1,0,none⟩ (.string ⟨⟨oa⟩⟩)).setCell ⟨w.heap.size+1+1,0,none⟩ (.string ⟨⟨ju⟩⟩)).setCell ⟨w.heap.size+1+1+1,0,none⟩ (.int .i64 0))).heap[D]? = some (.deferred (some [])):=by
     rw [Below.heap_setCell _ _ _ _ (show D≠w.heap.size+1+1+1 by omega),Below.heap_setCell _ _ _ _ (show D≠w.heap.size+1+1 by omega),Below.heap_setCell _ _ _ _ (show D≠w.heap.size+1 by omega)];exact (hb6.block D (Nat.lt_of_lt_of_le hDW hb5.size)).trans ((hb5.block D hDW).trans hK)
    refine ⟨by simp,.inl ⟨_,_,rfl,run_takeDeferred hKX,?_⟩⟩;have e1:=zl (b':=w.heap.size+1+1+1) (u:=(.int .i64 0)) (zl (b':=w.heap.size+1+1) (u:=(.string ⟨⟨ju⟩⟩)) (Boxed.set (.string ⟨⟨oa⟩⟩) q1) (by omega)) (by omega);have e2:=zl (b':=w.heap.size+1+1+1) (u:=(.int .i64 0)) (Boxed.set (.string ⟨⟨ju⟩⟩) (zl (b':=w.heap.size+1) (u:=(.string ⟨⟨oa⟩⟩)) q2 (by omega))) (by omega);have e3:=Boxed.set (.int .i64 0) (zl (b':=w.heap.size+1+1) (u:=(.string ⟨⟨ju⟩⟩)) (zl (b':=w.heap.size+1) (u:=(.string ⟨⟨oa⟩⟩)) q3 (by omega)) (by omega));have hc1:=cell_kept e1.cell (grownBy_putObj' _ D (.deferred none)) (fun r e=>by cases e;exact ⟨_,hKX,rfl⟩);have hc2:=cell_kept e2.cell (grownBy_putObj' _ D (.deferred none)) (fun r e=>by cases e;exact ⟨_,hKX,rfl⟩);have hc3:=cell_kept e3.cell (grownBy_putObj' _ D (.deferred none)) (fun r e=>by cases e;exact ⟨_,hKX,rfl⟩);have hbX:=(((hb0.trans (hbel6.mono (show w.heap.size≤w1.heap.size by omega))).setCell (p:=⟨w.heap.size+1,0,none⟩) (show w.heap.size≤w.heap.size+1 by omega) (.string ⟨⟨oa⟩⟩)).setCell (p:=⟨w.heap.size+1+1,0,none⟩) (show w.heap.size≤w.heap.size+1+1 by omega) (.string ⟨⟨ju⟩⟩)).setCell (p:=⟨w.heap.size+1+1+1,0,none⟩) (show w.heap.size≤w.heap.size+1+1+1 by omega) (.int .i64 0);refine ⟨.tuple #[(.string ⟨⟨oa⟩⟩),(.string ⟨⟨ju⟩⟩),(.int .i64 0)],?_,rfl,hbX.trans (belowK_b (w:=w) (Nat.le_refl _) _ D _ _ (by omega) hKX rfl rfl)⟩;simp [results,Tryz.f124,go_sem,hc1,hc2,hc3]
 case stop =>
  rintro D c pre W hD hpre ⟨rfl,hne,h1,h2,h3,hbel⟩ hK;have ho:some (([]:List UInt8),([]:List UInt8),res.1)=some (oa,ou,oc):=by
   rw [←hout];unfold y1q;rw [show (res.1 != 0)=true by simpa using hne];rfl
  cases ho
  gi_wp2
  refine ⟨by simp,.inl ⟨_,_,rfl,run_takeDeferred hK,?_⟩⟩;have hc1:=cell_kept h1.cell (grownBy_putObj' _ D (.deferred none)) (fun r e=>by cases e;exact ⟨_,hK,rfl⟩);have hc2:=cell_kept h2.cell (grownBy_putObj' _ D (.deferred none)) (fun r e=>by cases e;exact ⟨_,hK,rfl⟩);have hc3:=cell_kept h3.cell (grownBy_putObj' _ D (.deferred none)) (fun r e=>by cases e;exact ⟨_,hK,rfl⟩);rw [hszN] at hD;refine ⟨.tuple #[.string ⟨#[]⟩,.string ⟨#[]⟩,.int .i64 res.1],?_,rfl,hbel.trans (belowK_b (w:=w) (Nat.le_refl _) W D _ _ (by omega) hK rfl rfl)⟩;simp [results,Tryz.f124,go_sem,hc1,hc2,hc3]
set_option maxHeartbeats 4000000 in
theorem v1i (v0 v1 v2 v3 v4:Value) (s:List UInt8) (c:Int) (hc:c≠0) (w:World)
 (hlab:∀W,Below w.heap.size w W→Calls Tryz.prog 157 #[.agg #[v0,v1,v2,v3,v4],.string ⟨⟨s⟩⟩] W fun e w'=>∃v,e = .returned (.tuple #[v,.int .i64 c])∧Below W.heap.size W w') :
 Calls Tryz.prog 124 #[.agg #[v0,v1,v2,v3,v4],.string ⟨⟨s⟩⟩] w fun e w'=>e = .returned (.tuple #[.string ⟨#[]⟩,.string ⟨#[]⟩,.int .i64 c])∧Below w.heap.size w w':=by
 have hW0:Below w.heap.size w ((((w.alloc (.cells #[v0,v1,v2,v3,v4] 39)).alloc (.cells #[.string ⟨#[]⟩] 9)).alloc (.cells #[.string ⟨#[]⟩] 9)).alloc (.cells #[.int .i64 0] 44)) :=
  ((((Below.refl _ w).alloc (Nat.le_refl _) _).alloc (by simp) _).alloc (by simp<;>omega) _).alloc (by simp<;>omega) _
 have hR:∀X,Below (w.heap.size+4) ((((w.alloc (.cells #[v0,v1,v2,v3,v4] 39)).alloc (.cells #[.string ⟨#[]⟩] 9)).alloc (.cells #[.string ⟨#[]⟩] 9)).alloc (.cells #[.int .i64 0] 44)) X→Boxed X (w.heap.size+1) 9 (.string ⟨#[]⟩)∧Boxed X (w.heap.size+1+1) 9 (.string ⟨#[]⟩)∧Boxed X (w.heap.size+1+1+1) 44 (.int .i64 0):=fun X hX=>by
  refine ⟨?_,?_,?_⟩
  · show X.heap[_]? = _
    rw [hX.block _ (by omega),Below.heap_alloc _ _ _ (by simp<;>omega),Below.heap_alloc _ _ _ (by simp)];have:=heap_alloc_new (w.alloc (.cells #[v0,v1,v2,v3,v4] 39)) (.cells #[.string ⟨#[]⟩] 9)
    rwa [World.size_alloc] at this
  · show X.heap[_]? = _
    rw [hX.block _ (by omega),Below.heap_alloc _ _ _ (by simp)];have:=heap_alloc_new ((w.alloc (.cells #[v0,v1,v2,v3,v4] 39)).alloc (.cells #[.string ⟨#[]⟩] 9)) (.cells #[.string ⟨#[]⟩] 9)
    rwa [World.size_alloc,World.size_alloc] at this
  · show X.heap[_]? = _
    rw [hX.block _ (by omega)];have:=heap_alloc_new (((w.alloc (.cells #[v0,v1,v2,v3,v4] 39)).alloc (.cells #[.string ⟨#[]⟩] 9)).alloc (.cells #[.string ⟨#[]⟩] 9)) (.cells #[.int .i64 0] 44)
    rwa [World.size_alloc,World.size_alloc,World.size_alloc] at this
 have hl:=hlab _ hW0;clear hlab
 go_enter Tryz.func124,Tryz.ntmps124
 go_wp2_with (go_at_call 157;refine hl.mono ?_;rintro e w1 ⟨lv,rfl,hb1⟩;obtain ⟨q1,q2,q3⟩:=hR w1 (hb1.mono (by simp));have q4:=q1.cell;have q5:=q1.frozen;have q6:=q2.cell;have q7:=q2.frozen;have q8:=q3.cell;have q9:=q3.frozen)
 have e1:=zl (b':=w.heap.size+1+1+1) (u:=(.int .i64 c)) (zl (b':=w.heap.size+1+1) (u:=(.string ⟨#[]⟩)) (Boxed.set (.string ⟨#[]⟩) q1) (by omega)) (by omega);have e2:=zl (b':=w.heap.size+1+1+1) (u:=(.int .i64 c)) (Boxed.set (.string ⟨#[]⟩) (zl (b':=w.heap.size+1) (u:=(.string ⟨#[]⟩)) q2 (by omega))) (by omega);have e3:=Boxed.set (.int .i64 c) (zl (b':=w.heap.size+1+1) (u:=(.string ⟨#[]⟩)) (zl (b':=w.heap.size+1) (u:=(.string ⟨#[]⟩)) q3 (by omega)) (by omega));have hc1:=e1.cell;have hc2:=e2.cell;have hc3:=e3.cell;have hbX:=(((hW0.trans (hb1.mono (by simp<;>omega))).setCell (p:=⟨w.heap.size+1,0,none⟩) (show w.heap.size≤w.heap.size+1 by omega) (.string ⟨#[]⟩)).setCell (p:=⟨w.heap.size+1+1,0,none⟩) (show w.heap.size≤w.heap.size+1+1 by omega) (.string ⟨#[]⟩)).setCell (p:=⟨w.heap.size+1+1+1,0,none⟩) (show w.heap.size≤w.heap.size+1+1+1 by omega) (.int .i64 c)
 (try simp only [Exit.inBlock,Exit.then])
 refine bodyPost_ret (by simp [results,Tryz.results124,go_sem,hc1,hc2,hc3];try rfl) rfl ?_;exact ⟨rfl,hbX⟩
theorem x2j {f:FuncId} {fn:Func} {F:k2p} (h:zi Tryz.prog f ⟨vp,q8z,F⟩) (hf:Tryz.prog.funcs[f]? = some fn) (hb:fn.body.isSome=true) (hname:(fn.name == "runtime.NumGoroutine")=false) {t0 t1 t2} {x r:List UInt8} {c:Int} (hF:F (t0,t1,t2,x,())=some (r,c,()))
 {w:World} {m:Md} (gi:GI w m) (hlt:∀b,m.a b→b<w.heap.size) {a:Array Value} (ht:qe w m [] (y5h t0 t1 t2) a.toList) :
 Calls Tryz.prog f #[.agg a,.string ⟨⟨x⟩⟩] w fun e w'=>e = .returned (.tuple #[.string ⟨⟨r⟩⟩,.int .i64 c])∧Below w.heap.size w w':=by
 refine (zi.call0 (v:=(t0,t1,t2,x,())) (y:=(r,c,())) h hf hb hname gi hlt rfl ⟨_,_,rfl,⟨a,rfl,ht⟩,_,_,rfl,rfl,rfl⟩ rfl hF ?_).mono fun e w' ⟨rv,h1,h2,ax,l',u,h3,h4⟩ => ?_
 · intro ax l' u h3
   cases jk h3;rfl
 · cases jk h3
   obtain ⟨v,r',e1,⟨b,e2,e3⟩,e4⟩:=h4;have e4':r'=[]:=e4;subst e4';cases e1;subst h1 e2;refine ⟨?_,h2⟩;obtain ⟨v1,q1,f1,rfl,v2,q2,f2,⟨rfl,_⟩,f4⟩:=e3;have f4':q2=[]:=f4;subst f4' f2;cases b;cases f1;rfl
theorem v6v {f:FuncId} {fn:Func} {F:z0w} (h:zi Tryz.prog f ⟨vp,q6q,F⟩) (hf:Tryz.prog.funcs[f]? = some fn) (hb:fn.body.isSome=true) (hname:(fn.name == "runtime.NumGoroutine")=false) {t0 t1 t2} {x r:List UInt8} {c:Bool} (hF:F (t0,t1,t2,x,())=some (r,c,()))
 {w:World} {m:Md} (gi:GI w m) (hlt:∀b,m.a b→b<w.heap.size) {a:Array Value} (ht:qe w m [] (y5h t0 t1 t2) a.toList) :
 Calls Tryz.prog f #[.agg a,.string ⟨⟨x⟩⟩] w fun e w'=>e = .returned (.tuple #[.string ⟨⟨r⟩⟩,.bool c])∧Below w.heap.size w w':=by
 refine (zi.call0 (v:=(t0,t1,t2,x,())) (y:=(r,c,())) h hf hb hname gi hlt rfl ⟨_,_,rfl,⟨a,rfl,ht⟩,_,_,rfl,rfl,rfl⟩ rfl hF ?_).mono fun e w' ⟨rv,h1,h2,ax,l',u,h3,h4⟩ => ?_
 · intro ax l' u h3
   cases jk h3;rfl
 · cases jk h3
   obtain ⟨v,r',e1,⟨b,e2,e3⟩,e4⟩:=h4;have e4':r'=[]:=e4;subst e4';cases e1;subst h1 e2;refine ⟨?_,h2⟩;obtain ⟨v1,q1,f1,rfl,v2,q2,f2,rfl,f4⟩:=e3;have f4':q2=[]:=f4;subst f4' f2;cases b;cases f1;rfl
def z3g:k2o:=fun (t0,t1,t2,s,_) =>
 (j2d (t0,t1,t2,s,())).bind fun f=>(q0j f.1 f.2.1).bind fun lc =>
  bif lc.2 != 0 then some ([],[],lc.2,()) else
  bif decide (lc.1.length≤32) then
   (q2f (fun x=>(z3j (t0,t1,t2,x,())).map fun r=>(r.1,r.2.1)) (fun x=>(y2i (t0,t1,t2,x,())).map fun r=>(r.1,r.2.1)) lc.1 [] []).bind fun res=>(y1q res).map fun o=>(o.1,o.2.1,o.2.2,())
  else none
theorem f7f:zi Tryz.prog 124 (g9a z3g):=by
 refine x6n Tryz.func124 (by kernel_rfl) (by kernel_rfl) (fun _=>rfl) (fun _=>rfl) ?_;rintro ⟨t0,t1,t2,s,u⟩ y hy w m args gi hn hlt hargs;obtain ⟨va,r1,e1,⟨a,rfl,ht⟩,vs,r2,e2,e3,e4⟩:=hargs;have e4':r2=[]:=e4;have e3':vs = .string ⟨⟨s⟩⟩:=e3;subst e4' e3' e2;have ha:args = #[.agg a,.string ⟨⟨s⟩⟩]:=by cases args;simpa using e1
 subst ha;have ht0:qe w m [] (y5h t0 t1 t2) a.toList:=ht;have hst:∀W,Below w.heap.size w W→Stp w m W m:=fun W hb=>yk hb fun b hb=>(hn b hb).elim;have htW:∀W,Below w.heap.size w W→qe W m [] (y5h t0 t1 t2) a.toList:=fun W hb=>qe.mono (hst W hb) (fun _ _ h=>h) _ _ ht0;have hltW:∀W,Below w.heap.size w W→∀b,m.a b→b<W.heap.size:=fun W hb b h=>Nat.lt_of_lt_of_le (hlt b h) hb.size;have g0:GI w m0:=⟨gi.i,fun b hb=>⟨(gi.b b hb).1,fun h=>h⟩⟩
 obtain ⟨v0,v1,v2,v3,v4,rfl⟩:∃v0 v1 v2 v3 v4,a = #[v0,v1,v2,v3,v4]:=by
  obtain ⟨w0,q0,f0,_,w1,q1,f1,_,w2,q2,f2,_,w3,q3,f3,_,w4,q4,f4,_,f5⟩:=ht0;have f5':q4=[]:=f5;subst f5' f4 f3 f2 f1;exact ⟨w0,w1,w2,w3,w4,by cases a;simpa using f0⟩
 have hy1:((j2d (t0,t1,t2,s,())).bind fun f=>(q0j f.1 f.2.1).bind fun lc =>
  bif lc.2 != 0 then some ([],[],lc.2,()) else
  bif decide (lc.1.length≤32) then
   (q2f (fun x=>(z3j (t0,t1,t2,x,())).map fun r=>(r.1,r.2.1)) (fun x=>(y2i (t0,t1,t2,x,())).map fun r=>(r.1,r.2.1)) lc.1 [] []).bind fun res=>(y1q res).map fun o=>(o.1,o.2.1,o.2.2,())
  else none)=some y:=hy
 obtain ⟨⟨f,ok,u0⟩,hf,hy2⟩:=Option.bind_eq_some_iff.1 hy1;obtain ⟨⟨ls,c⟩,hls,hy3⟩:=Option.bind_eq_some_iff.1 hy2;simp only at hls hy3;have hfold:∀W,Below w.heap.size w W→Calls Tryz.prog 151 #[.agg #[v0,v1,v2,v3,v4],.string ⟨⟨s⟩⟩] W fun e W'=>e = .returned (.tuple #[.string ⟨⟨f⟩⟩,.bool ok])∧Below W.heap.size W W' :=
  fun W hb=>v6v v5g Tryz.func151 (by kernel_rfl) (by kernel_rfl) hf (gi.mono (hst W hb)) (hltW W hb) (htW W hb)
 have hlab:∀W,Below w.heap.size w W→Calls Tryz.prog 157 #[.agg #[v0,v1,v2,v3,v4],.string ⟨⟨s⟩⟩] W fun e w'=>∃v,e = .returned (.tuple #[v,.int .i64 c])∧Below W.heap.size W w'∧w'.ownsRow W.heap.size 9 1 v ls.length (ls.map encS) :=
  fun W hb=>y0r v0 v1 v2 v3 v4 s f ok ls c W (zd g0 hb) hls fun W2 hb2=>hfold W2 (hb.trans (hb2.mono hb.size))
 suffices hmain:∃oa ou oc,y=(oa,ou,oc,())∧Calls Tryz.prog 124 #[.agg #[v0,v1,v2,v3,v4],.string ⟨⟨s⟩⟩] w fun e w'=>e = .returned (.tuple #[.string ⟨⟨oa⟩⟩,.string ⟨⟨ou⟩⟩,.int .i64 oc])∧Below w.heap.size w w' by
  obtain ⟨oa,ou,oc,rfl,hc⟩:=hmain;refine hc.mono fun e w' ⟨k1,k2⟩=>⟨_,k1,k2,.ret,[.tuple 3,.str,.str,.int .i64],(oa,ou,oc,()),wi [.tuple 3,.str,.str,.int .i64] (oa,ou,oc,()),rfl,rfl,?_⟩
  exact ⟨_,[],rfl,⟨_,rfl,_,_,rfl,rfl,_,_,rfl,rfl,_,_,rfl,⟨rfl,fun h=>(by cases h)⟩,rfl⟩,rfl⟩
 by_cases hc:c=0
 · subst hc
   have hy4:(bif decide (ls.length≤32) then
    (q2f (fun x=>(z3j (t0,t1,t2,x,())).map fun r=>(r.1,r.2.1)) (fun x=>(y2i (t0,t1,t2,x,())).map fun r=>(r.1,r.2.1)) ls [] []).bind fun res=>(y1q res).map fun o=>(o.1,o.2.1,o.2.2,())
    else none)=some y:=hy3
   rcases jb hy4 with ⟨h32,hy5⟩ | ⟨_,hy5⟩
   case inr=>cases hy5
   obtain ⟨res,hres,hy6⟩:=Option.bind_eq_some_iff.1 hy5;obtain ⟨⟨oa,ou,oc⟩,hout,hy7⟩:=Option.map_eq_some_iff.1 hy6;refine ⟨oa,ou,oc,hy7.symm,?_⟩;refine x6a v0 v1 v2 v3 v4 s ls _ _ res w g0 (of_decide_eq_true h32) hres oa ou oc hout (fun W hb=>hlab W hb) ?_ ?_
   · intro x r hr W hb
     obtain ⟨⟨r1,r2,r3⟩,hq,rfl⟩:=Option.map_eq_some_iff.1 hr;exact x2j f7r Tryz.func159 (by kernel_rfl) (by kernel_rfl) hq (gi.mono (hst W hb)) (hltW W hb) (htW W hb)
   · intro x r hr W hb
     obtain ⟨⟨r1,r2,r3⟩,hq,rfl⟩:=Option.map_eq_some_iff.1 hr;exact x2j f7s Tryz.func160 (by kernel_rfl) (by kernel_rfl) hq (gi.mono (hst W hb)) (hltW W hb) (htW W hb)
 · rcases jb hy3 with ⟨_,hy4⟩ | ⟨h0,_⟩
   case inr=>exact (hc (by simpa using h0)).elim
   cases hy4;exact ⟨[],[],c,rfl,v1i v0 v1 v2 v3 v4 s c hc w fun W hb=>(hlab W hb).mono fun e w' ⟨v,k1,k2,_⟩=>⟨v,k1,k2⟩⟩
end Go.Proofs.YtiacnhhmkdkpmaaGreatDoorA.W
namespace Go.Proofs.YtiacnhhmkdkpmaaGreatDoorA.W
open Go Go.Ae
abbrev q6s:=qa×Int×Unit→Option (Int×Unit)
def v7e (f:q6s):FEnt:=⟨z0v,jd,f⟩
def b2l (f162:z9b):=lk [(162,w8z f162)]
def f2o (f162:z9b):q6s:=fun (x0,x1,_) =>
 (f162 (x0,x1,())).bind fun v=>some (v.1,())
def q2j:q6s:=f2o j4i
theorem v5f:FO 127 (v7e q2j):=wz z0v jd b2l f2o j4i (kc w7t kn) Tryz.func127
abbrev j3d:=Int×Bool×Unit→Option (Int×Bool×Unit)
def x9k (f:j3d):LEnt:=⟨y9l,x0h,f⟩
abbrev j9c:=Int×Bool×Unit→Option (Int×Bool×Unit)
def x9l (f:j9c):LEnt:=⟨y9l,x0h,f⟩
abbrev T90:=Int×Unit→Option (Bool×Unit)
def E90 (f:T90):FEnt:=⟨j4r,qx,f⟩
def K90 (f127:q6s):=lk [(127,v7e f127)]
theorem v4e:zm Tryz.prog (K90 q2j):=(kc v5f kn)
def v0a (f127:q6s):j3d:=fun (x0,x1,_) =>
 bif x1 then some (x0,true,())
 else
 bif decide (x0≥48) then
 bif decide (x0≤57) then some (x0,true,()) else some (x0,decide (x0≥128),())
 else some (x0,decide (x0≥128),())
def y2t:j3d:=v0a q2j
theorem g6p:zb 0 (qc (code Tryz.f90) [1,0,0,0,1,1,1]) (x9k y2t):=zc1 y9l x0h K90 v0a q2j v4e
def g2f (f90_c0:j3d):Ann:=(.cond .nil (.cut .nil (x9k f90_c0)))
def v0b (f127:q6s) (f90_c0:j3d):j9c:=fun (x0,x1,_) =>
 bif x1 then some (x0,true,())
 else
 bif decide (x0≥65) then (f90_c0 (x0,decide (x0≤90),())).bind fun v=>some (v.1,v.2.1,())
 else (f90_c0 (x0,false,())).bind fun v=>some (v.1,v.2.1,())
theorem g5s (f127:q6s) (f90_c0:j3d):AqC (K90 f127) 0 (qc (code Tryz.f90) [1,0,0,0,1]) (g2f f90_c0) y9l x0h (v0b f127 f90_c0):=fun v=>by kernel_rfl
def y2u:j9c:=v0b q2j y2t
theorem g6q:zb 0 (qc (code Tryz.f90) [1,0,0,0,1]) (x9l y2u) :=
 frd v4e (And.intro g6p trivial) (g5s q2j y2t)
def N90 (f90_c1:j9c):Ann:=(.seq .nil (.seq (.blk (.seq (.cut .nil (x9l f90_c1)) .nil)) .nil))
def F90 (f127:q6s) (f90_c1:j9c):T90:=fun (x0,_) =>
 bif decide (x0≥97) then
 (f90_c1 (x0,decide (x0≤122),())).bind fun v =>
 bif v.2.1 then some (true,())
 else
 (f127
 ([33,35,36,37,38,39,42,43,45,47,61,63,94,95,96,123,124,125,126],v.1,
 ())).bind
 fun v=>some (decide (v.1≥0),())
 else
 (f90_c1 (x0,false,())).bind fun v =>
 bif v.2.1 then some (true,())
 else
 (f127
 ([33,35,36,37,38,39,42,43,45,47,61,63,94,95,96,123,124,125,126],v.1,
 ())).bind
 fun v=>some (decide (v.1≥0),())
def C90:T90:=F90 q2j y2u
theorem g7d:FO 90 (E90 C90):=vz j4r qx K90 N90 F90 q2j y2u v4e Tryz.func90 (And.intro g6q trivial)
abbrev q4m:=Int×qa×Int×Int×Int×Unit→Option (Int×qa×Int×Int×Int×Unit)
def y5v (f:q4m):LEnt:=⟨y9m,w5i,f⟩
abbrev q9e:=Int×qa×Int×Int×Int×Unit→Option (Int×qa×Int×Int×Int×Unit)
def y5w (f:q9e):LEnt:=⟨y9m,w5j,f⟩
abbrev z8w:=qa×Int×Int×Int×Unit→Option (qa×qa×Int×Int×Int×Unit)
def g9e (f:z8w):FEnt:=⟨q2d,q5y,f⟩
def k0n (f90:T90):=lk [(90,E90 f90)]
theorem y4a:zm Tryz.prog (k0n C90):=(kc g7d kn)
def q8s (f90:T90):q4m:=fun (x0,x1,x2,x3,x4,_) =>
 some (x0,x1,IntKind.i64.wrap (x2+1),x3,x4,())
def q1i:q4m:=q8s C90
theorem k5s:zb 1 (qc (code Tryz.f136) [1,1,0,0,0,1]) (y5v q1i):=zc1 y9m w5i k0n q8s C90 y4a
def k1v (f136_c0:q4m):Ann:=(.cut .nil (y5v f136_c0))
def q4a (f90:T90) (f136_c0:q4m):yn (Int×qa×Int×Int×Int×Unit) (Int×qa×Int×Int×Int×Unit):=fun (x0,x1,x2,x3,x4,_) =>
 bif decide (x2<(↑x1.length:Int)) then
 bif decide (0≤x2)&&decide (x2<(↑x1.length:Int)) then
 (f90 ((↑(x1.getD x2.toNat 0).toNat:Int),())).bind fun v =>
 bif v.1 then
 (f136_c0 (x0,x1,x2,x3,x4,())).bind fun v =>
 some
 (Sum.inl (v.1,v.2.1,v.2.2.1,v.2.2.2.1,v.2.2.2.2.1,()))
 else some (Sum.inr (x0,x1,x2,x3,x4,()))
 else none
 else some (Sum.inr (x0,x1,x2,x3,x4,()))
theorem k3s (f90:T90) (f136_c0:q4m):AqL (k0n f90) 1 (qc (code Tryz.f136) [1,1,0,0,0]) (k1v f136_c0) y9m w5j (q4a f90 f136_c0):=fun v=>by kernel_rfl
def q7k:q9e:=qd (q4a C90 q1i) jc
theorem k5t:jg 1 (qc (code Tryz.f136) [1,1,0,0,0]) (y5w q7k) :=
 frm y4a (And.intro k5s trivial) (k3s C90 q1i)
def b5d (f136_l0:q9e):Ann:=(.seq .nil (.seq .nil (.seq (.blk (.loop (y5w f136_l0))) .nil)))
def v7v (f90:T90) (f136_l0:q9e):z8w:=fun (x0,x1,x2,x3,_) =>
 (f136_l0 (x1,x0,x1,x2,x3,())).bind fun v =>
 bif decide (0≤v.2.2.1)&&decide (v.2.2.1≤(↑(List.length v.2.1):Int)) then
 bif decide (0≤v.1)&&decide (v.1≤v.2.2.1) then
 some
 (List.drop (Int.toNat v.1) (List.take (Int.toNat v.2.2.1) v.2.1),v.2.1,
 v.2.2.1,v.2.2.2.1,v.2.2.2.2.1,())
 else none
 else none
theorem d0a (f90:T90) (f136_l0:q9e):yb (k0n f90) 1 Tryz.f136 (b5d f136_l0) q2d q5y (v7v f90 f136_l0):=fun v=>by kernel_rfl
def z8b:z8w:=v7v C90 q7k
theorem f7k:FO 136 (g9e z8b) :=
 qo y4a Tryz.func136 (And.intro k5t trivial) (d0a C90 q7k)
abbrev q2l:=Int×Unit→Option (Bool×Unit)
def v7i (f:q2l):FEnt:=⟨j4r,qx,f⟩
def b2x (f127:q6s):=lk [(127,v7e f127)]
def f2r (f127:q6s):q2l:=fun (x0,_) =>
 (f127 ([32,9],x0,())).bind fun v=>some (decide (v.1≥0),())
def xk:q2l:=f2r q2j
theorem v5k:FO 174 (v7i xk):=wz j4r qx b2x f2r q2j (kc v5f kn) Tryz.func174
abbrev q0b:=Int×Unit→Option (Bool×Unit)
def v7h (f:q0b):FEnt:=⟨j4r,qx,f⟩
def b2w (f174:q2l):=lk [(174,v7i f174)]
def f2q (f174:q2l):q0b:=fun (x0,_) =>
 (f174 (x0,())).bind fun v =>
 bif v.1 then some (true,())
 else bif decide (x0>32) then some (bif x0==127 then false else true,()) else some (false,())
def yf:q0b:=f2q xk
theorem v5j:FO 173 (v7h yf):=wz j4r qx b2w f2q xk (kc v5k kn) Tryz.func173
abbrev xl:=Int×Int×qa×Int×Int×Int×Unit→Option (qa×Int×Int×Int×Unit)
def x8k (f:xl):FEnt:=⟨w2f,w5k,f⟩
def f2p:xl:=fun (x0,x1,x2,x3,x4,x5,_) =>
 some (x2,x3,x0,x1,())
theorem d0f:yb xj 1 Tryz.f141 .nil w2f w5k (f2p):=fun v=>by kernel_rfl
def zv:xl:=f2p
theorem x1w:FO 141 (x8k zv) :=
 q0 kn Tryz.func141 (d0f)
abbrev q4n:=Int×qa×Int×Int×Int×qa×Unit→Option ((qa×qa×Int×Int×Int×Unit)⊕(Int×qa×Int×Int×Int×qa×Unit))
def y5x (f:q4n):LEnt:=⟨y9n,w5l,f⟩
abbrev q9f:=Int×qa×Int×Int×Int×qa×Unit→Option ((qa×Int×Int×Int×Unit)⊕(qa×qa×Int×Int×Int×Unit))
def y5y (f:q9f):LEnt:=⟨y9n,w5m,f⟩
abbrev z8x:=qa×Int×Int×Int×Unit→Option (qa×qa×Int×Int×Int×Unit)
def g9f (f:z8x):FEnt:=⟨q2d,q5y,f⟩
def k0o (f141:xl) (f173:q0b):=lk [(141,x8k f141),(173,v7h f173)]
theorem y4b:zm Tryz.prog (k0o zv yf):=(kc x1w (kc v5j kn))
def z4p (f141:xl) (f173:q0b):q4n:=fun (x0,x1,x2,x3,x4,x5,_) =>
 bif decide (0≤x0)&&decide (x0<(↑x1.length:Int)) then
 (f173 ((↑(x1.getD x0.toNat 0).toNat:Int),())).bind fun v =>
 bif !v.1 then
 (f141 (x0,4,x1,x2,x3,x4,())).bind fun v =>
 some (Sum.inl ([],v.1,v.2.1,v.2.2.1,v.2.2.2.1,()))
 else
 bif decide (0≤x0)&&decide (x0<(↑x1.length:Int)) then
 bif
 decide
 (x5.length+[UInt8.ofNat (↑(x1.getD x0.toNat 0).toNat:Int).toNat].length≤140737488355328/1) then
 some (Sum.inr (x0,x1,x2,x3,x4,x5++[UInt8.ofNat (↑(x1.getD x0.toNat 0).toNat:Int).toNat],()))
 else none
 else none
 else none
def q3r:q4n:=z4p zv yf
theorem k5u:zb 1 (qc (code Tryz.f137) [1,1,0,1,0,0,1,0,0,1,1,1]) (y5x q3r):=zc2 y9n w5l k0o z4p zv yf y4b
def k1w (f137_c0:q4n):Ann:=(.seq .nil (.seq (.blk (.seq .nil (.seq .nil (.cut .nil (y5x f137_c0))))) .nil))
def vd (f141:xl) (f173:q0b) (f137_c0:q4n):yn (Int×qa×Int×Int×Int×qa×Unit) ((qa×Int×Int×Int×Unit)⊕(qa×qa×Int×Int×Int×Unit)):=fun (x0,x1,x2,x3,x4,x5,_) =>
 bif decide (x0<(↑x1.length:Int)) then
 bif decide (0≤x0)&&decide (x0<(↑x1.length:Int)) then
 bif (↑(x1.getD x0.toNat 0).toNat:Int)==34 then
 some (Sum.inr (Sum.inr (x5,x1,IntKind.i64.wrap (x0+1),x3,x4,())))
 else
 bif (↑(x1.getD x0.toNat 0).toNat:Int)==92 then
 bif IntKind.i64.wrap (x0+1)==(↑x1.length:Int) then some (Sum.inr (Sum.inl (x1,x2,x3,x4,())))
 else
 (f137_c0 (IntKind.i64.wrap (x0+1),x1,x2,x3,x4,x5,())).bind fun v =>
 Sum.elim
 (fun v =>
 some
 (Sum.inr
 (Sum.inr
 (v.1,v.2.1,v.2.2.1,v.2.2.2.1,v.2.2.2.2.1,
 ()))))
 (fun v =>
 some
 (Sum.inl
 (IntKind.i64.wrap (v.1+1),v.2.1,v.2.2.1,v.2.2.2.1,
 v.2.2.2.2.1,v.2.2.2.2.2.1,())))
 v
 else
 (f137_c0 (x0,x1,x2,x3,x4,x5,())).bind fun v =>
 Sum.elim
 (fun v =>
 some
 (Sum.inr
 (Sum.inr
 (v.1,v.2.1,v.2.2.1,v.2.2.2.1,v.2.2.2.2.1,()))))
 (fun v =>
 some
 (Sum.inl
 (IntKind.i64.wrap (v.1+1),v.2.1,v.2.2.1,v.2.2.2.1,
 v.2.2.2.2.1,v.2.2.2.2.2.1,())))
 v
 else none
 else some (Sum.inr (Sum.inl (x1,x2,x3,x4,())))
theorem k3t (f141:xl) (f173:q0b) (f137_c0:q4n):AqL (k0o f141 f173) 1 (qc (code Tryz.f137) [1,1,0,1,0,0]) (k1w f137_c0) y9n w5m (vd f141 f173 f137_c0):=fun v=>by kernel_rfl
def q7l:q9f:=qd (vd zv yf q3r) jc
theorem k5v:jg 1 (qc (code Tryz.f137) [1,1,0,1,0,0]) (y5y q7l) :=
 frm y4b (And.intro k5u trivial) (k3t zv yf q3r)
def b5e (f137_l0:q9f):Ann:=(.seq .nil (.seq .nil (.seq (.seq .nil (.blk (.loop (y5y f137_l0)))) .nil)))
def v7w (f141:xl) (f173:q0b) (f137_l0:q9f):z8x:=fun (x0,x1,x2,x3,_) =>
 (f137_l0 (IntKind.i64.wrap (x1+1),x0,x1,x2,x3,[],())).bind fun v =>
 Sum.elim
 (fun v =>
 (f141 (v.2.1,4,v.1,v.2.1,v.2.2.1,v.2.2.2.1,())).bind fun v =>
 some ([],v.1,v.2.1,v.2.2.1,v.2.2.2.1,()))
 (fun v=>some (v.1,v.2.1,v.2.2.1,v.2.2.2.1,v.2.2.2.2.1,()))
 v
theorem d0b (f141:xl) (f173:q0b) (f137_l0:q9f):yb (k0o f141 f173) 1 Tryz.f137 (b5e f137_l0) q2d q5y (v7w f141 f173 f137_l0):=fun v=>by kernel_rfl
def z8c:z8x:=v7w zv yf q7l
theorem f7l:FO 137 (g9f z8c) :=
 qo y4b Tryz.func137 (And.intro k5v trivial) (d0b zv yf q7l)
abbrev q4o:=Int×qa×qa×Int×Int×Int×Unit→Option (qa×qa×Int×Int×Int×Unit)
def y5z (f:q4o):LEnt:=⟨w2g,w5n,f⟩
abbrev q9g:=Int×qa×Int×Int×Int×Unit→Option ((qa×Int×Int×Int×Unit)⊕(qa×qa×Int×Int×Int×Unit))
def y6a (f:q9g):LEnt:=⟨w2h,w5o,f⟩
abbrev z8y:=qa×Int×Int×Int×Unit→Option (qa×qa×Int×Int×Int×Unit)
def g9g (f:z8y):FEnt:=⟨q2d,q5y,f⟩
def k0p (f141:xl) (f173:q0b) (f174:q2l):=lk [(141,x8k f141),(173,v7h f173),(174,v7i f174)]
theorem y4c:zm Tryz.prog (k0p zv yf xk):=(kc x1w (kc v5j (kc v5k kn)))
def ki (f141:xl) (f173:q0b) (f174:q2l):q4o:=fun (x0,x1,x2,x3,x4,x5,_) =>
 some (x1,x2,IntKind.i64.wrap (x0+1),x4,x5,())
theorem k3u (f141:xl) (f173:q0b) (f174:q2l):AqC (k0p f141 f173 f174) 1 (qc (code Tryz.f138) [1,0,1,0,0,1,0,0,1,0,1,0,1]) .nil w2g w5n (ki f141 f173 f174):=fun v=>by kernel_rfl
def xa:q4o:=ki zv yf xk
theorem k5w:zb 1 (qc (code Tryz.f138) [1,0,1,0,0,1,0,0,1,0,1,0,1]) (y5z xa) :=
 frc y4c (k3u zv yf xk)
def k1x (f138_c0:q4o):Ann:=(.seq .nil (.seq (.blk (.seq .nil (.blk (.seq .nil (.cond (.cut .nil (y5z f138_c0)) .nil))))) .nil))
def ve (f141:xl) (f173:q0b) (f174:q2l) (f138_c0:q4o):yn (Int×qa×Int×Int×Int×Unit) ((qa×Int×Int×Int×Unit)⊕(qa×qa×Int×Int×Int×Unit)):=fun (x0,x1,x2,x3,x4,_) =>
 bif decide (x0<(↑x1.length:Int)) then
 bif decide (0≤x0)&&decide (x0<(↑x1.length:Int)) then
 bif (↑(x1.getD x0.toNat 0).toNat:Int)==93 then
 bif decide (0≤x0)&&decide (x0≤(↑x1.length:Int)) then
 bif decide (0≤IntKind.i64.wrap (x2+1))&&decide (IntKind.i64.wrap (x2+1)≤x0) then
 (f138_c0 (x0,List.drop (IntKind.i64.wrap (x2+1)).toNat (List.take x0.toNat x1),x1,x2,x3,x4,())).bind
 fun v =>
 some
 (Sum.inr
 (Sum.inr
 (v.1,v.2.1,v.2.2.1,v.2.2.2.1,v.2.2.2.2.1,())))
 else none
 else none
 else
 bif (↑(x1.getD x0.toNat 0).toNat:Int)==91 then
 (f141 (x0,4,x1,x2,x3,x4,())).bind fun v =>
 some (Sum.inr (Sum.inr ([],v.1,v.2.1,v.2.2.1,v.2.2.2.1,())))
 else
 bif (↑(x1.getD x0.toNat 0).toNat:Int)==92 then
 (f141 (x0,4,x1,x2,x3,x4,())).bind fun v =>
 some
 (Sum.inr (Sum.inr ([],v.1,v.2.1,v.2.2.1,v.2.2.2.1,())))
 else
 (f174 ((↑(x1.getD x0.toNat 0).toNat:Int),())).bind fun v =>
 bif v.1 then
 (f141 (x0,4,x1,x2,x3,x4,())).bind fun v =>
 some
 (Sum.inr
 (Sum.inr ([],v.1,v.2.1,v.2.2.1,v.2.2.2.1,())))
 else
 (f173 ((↑(x1.getD x0.toNat 0).toNat:Int),())).bind fun v =>
 bif !v.1 then
 (f141 (x0,4,x1,x2,x3,x4,())).bind fun v =>
 some
 (Sum.inr
 (Sum.inr ([],v.1,v.2.1,v.2.2.1,v.2.2.2.1,())))
 else some (Sum.inl (IntKind.i64.wrap (x0+1),x1,x2,x3,x4,()))
 else none
 else some (Sum.inr (Sum.inl (x1,x2,x3,x4,())))
theorem k3v (f141:xl) (f173:q0b) (f174:q2l) (f138_c0:q4o):AqL (k0p f141 f173 f174) 1 (qc (code Tryz.f138) [1,0,1,0,0]) (k1x f138_c0) w2h w5o (ve f141 f173 f174 f138_c0):=fun v=>by kernel_rfl
def q7m:q9g:=qd (ve zv yf xk xa) jc
theorem k5x:jg 1 (qc (code Tryz.f138) [1,0,1,0,0]) (y6a q7m) :=
 frm y4c (And.intro k5w trivial) (k3v zv yf xk xa)
def b5f (f138_l0:q9g):Ann:=(.seq .nil (.seq (.seq .nil (.blk (.loop (y6a f138_l0)))) .nil))
def x3m (f141:xl) (f173:q0b) (f174:q2l) (f138_l0:q9g):z8y:=fun (x0,x1,x2,x3,_) =>
 (f138_l0 (IntKind.i64.wrap (x1+1),x0,x1,x2,x3,())).bind fun v =>
 Sum.elim
 (fun v =>
 (f141 (v.2.1,4,v.1,v.2.1,v.2.2.1,v.2.2.2.1,())).bind fun v =>
 some ([],v.1,v.2.1,v.2.2.1,v.2.2.2.1,()))
 (fun v=>some (v.1,v.2.1,v.2.2.1,v.2.2.2.1,v.2.2.2.2.1,()))
 v
theorem d0c (f141:xl) (f173:q0b) (f174:q2l) (f138_l0:q9g):yb (k0p f141 f173 f174) 1 Tryz.f138 (b5f f138_l0) q2d q5y (x3m f141 f173 f174 f138_l0):=fun v=>by kernel_rfl
def z8d:z8y:=x3m zv yf xk q7m
theorem f7m:FO 138 (g9g z8d) :=
 qo y4c Tryz.func138 (And.intro k5x trivial) (d0c zv yf xk q7m)
abbrev q9i:=Int×Int×Int×Int×qa×Int×Int×Int×Unit→Option ((Int×Int×qa×Int×Int×Int×Unit)⊕(Int×Int×qa×Int×Int×Int×Unit)⊕(qa×qa×Int×Int×Int×Unit))
def y6c (f:q9i):LEnt:=⟨w2i,w5p,f⟩
abbrev q9h:=Int×Int×qa×Int×Int×Int×Unit→Option (qa×qa×Int×Int×Int×Unit)
def y6b (f:q9h):LEnt:=⟨z1s,x0i,f⟩
abbrev z8z:=qa×Int×Int×Int×Unit→Option (qa×qa×Int×Int×Int×Unit)
def g9h (f:z8z):FEnt:=⟨q2d,q5y,f⟩
def k0q (f141:xl) (f173:q0b):=lk [(141,x8k f141),(173,v7h f173)]
theorem y4d:zm Tryz.prog (k0q zv yf):=(kc x1w (kc v5j kn))
def zq (f141:xl) (f173:q0b):yn (Int×Int×Int×Int×qa×Int×Int×Int×Unit) ((Int×Int×qa×Int×Int×Int×Unit)⊕(Int×Int×qa×Int×Int×Int×Unit)⊕(qa×qa×Int×Int×Int×Unit)):=fun (x0,x1,x2,x3,x4,x5,x6,x7,_) =>
 bif decide (x3<(↑x4.length:Int)) then
 bif decide (0≤x3)&&decide (x3<(↑x4.length:Int)) then
 bif (↑(x4.getD x3.toNat 0).toNat:Int)==40 then
 bif decide (IntKind.i64.wrap (x1+1)>32) then
 some (Sum.inr (Sum.inr (Sum.inl (6,x3,x4,x5,x6,x7,()))))
 else some (Sum.inl (x0,IntKind.i64.wrap (x1+1),x2,IntKind.i64.wrap (x3+1),x4,x5,x6,x7,()))
 else
 bif (↑(x4.getD x3.toNat 0).toNat:Int)==41 then
 bif IntKind.i64.wrap (x1 - 1)==0 then
 bif decide (0≤x3)&&decide (x3≤(↑x4.length:Int)) then
 bif decide (0≤IntKind.i64.wrap (x0+1))&&decide (IntKind.i64.wrap (x0+1)≤x3) then
 some
 (Sum.inr
 (Sum.inr
 (Sum.inr
 (List.drop (IntKind.i64.wrap (x0+1)).toNat (List.take x3.toNat x4),x4,
 IntKind.i64.wrap (x3+1),x6,x7,()))))
 else none
 else none
 else some (Sum.inl (x0,IntKind.i64.wrap (x1 - 1),x2,IntKind.i64.wrap (x3+1),x4,x5,x6,x7,()))
 else
 bif (↑(x4.getD x3.toNat 0).toNat:Int)==92 then
 bif IntKind.i64.wrap (x3+1)==(↑x4.length:Int) then
 some (Sum.inl (x0,x1,x2,IntKind.i64.wrap (IntKind.i64.wrap (x3+1)+1),x4,x5,x6,x7,()))
 else
 bif decide (0≤IntKind.i64.wrap (x3+1))&&decide (IntKind.i64.wrap (x3+1)<(↑x4.length:Int)) then
 (f173 ((↑(x4.getD (IntKind.i64.wrap (x3+1)).toNat 0).toNat:Int),())).bind fun v =>
 bif !v.1 then
 some (Sum.inr (Sum.inr (Sum.inl (x2,IntKind.i64.wrap (x3+1),x4,x5,x6,x7,()))))
 else
 some
 (Sum.inl (x0,x1,x2,IntKind.i64.wrap (IntKind.i64.wrap (x3+1)+1),x4,x5,x6,x7,()))
 else none
 else
 (f173 ((↑(x4.getD x3.toNat 0).toNat:Int),())).bind fun v =>
 bif !v.1 then some (Sum.inr (Sum.inr (Sum.inl (x2,x3,x4,x5,x6,x7,()))))
 else some (Sum.inl (x0,x1,x2,IntKind.i64.wrap (x3+1),x4,x5,x6,x7,()))
 else none
 else some (Sum.inr (Sum.inl (x0,x2,x4,x5,x6,x7,())))
def q7n:q9i:=qd (zq zv yf) jc
theorem k5z:jg 1 (qc (code Tryz.f139) [1,0,1,1,0,1,0,0]) (y6c q7n):=zl2 w2i w5p k0q zq zv yf y4d
def z4q (f141:xl) (f173:q0b):yn (Int×Int×qa×Int×Int×Int×Unit) (qa×qa×Int×Int×Int×Unit):=fun (x0,x1,x2,x3,x4,x5,_) =>
 (f141 (x1,x0,x2,x3,x4,x5,())).bind fun v =>
 some (Sum.inr ([],v.1,v.2.1,v.2.2.1,v.2.2.2.1,()))
theorem k3w (f141:xl) (f173:q0b) (v:HS z1s):aev Γ (k0q f141 f173) 1 ((findLabel (qc (code Tryz.f139) [1,0]) 0).getD .skip) .nil (x7d z1s v) (kl 1 0 [] z1s x0i)=z4q f141 f173 v:=by kernel_rfl
def q3s:q9h:=qd (z4q zv yf) jc
theorem k5y:jp Tryz.prog 1 (jo Tryz.prog (qc (code Tryz.f139) [1,0]) 0) (y6b q3s) :=
 zw (ins:=z1s) (os:=x0i) (C:=q3s) (q1p (ins:=z1s) (os:=x0i) (n := .nil) (ls:=[]) (F:=z4q zv yf) (rest:=((findLabel (qc (code Tryz.f139) [1,0]) 0).getD .skip)) hm hΓ y4d (fun _=>jc) (by kernel_rfl) (ji _) q3d (k3w zv yf)) rfl
def b5g (f139_g0:q9h) (f139_l0:q9i):Ann:=(.seq .nil (.scope (.seq .nil (.seq .nil (.seq (.seq .nil (.blk (.loop (y6c f139_l0)))) .nil))) [(0,(y6b f139_g0))]))
def x3n (f141:xl) (f173:q0b) (f139_g0:q9h) (f139_l0:q9i):z8z:=fun (x0,x1,x2,x3,_) =>
 (f139_l0 (x1,0,4,x1,x0,x1,x2,x3,())).bind fun v =>
 Sum.elim
 (fun v =>
 (f141
 (v.1,v.2.1,v.2.2.1,v.2.2.2.1,v.2.2.2.2.1,
 v.2.2.2.2.2.1,())).bind
 fun v=>some ([],v.1,v.2.1,v.2.2.1,v.2.2.2.1,()))
 (fun v =>
 Sum.elim
 (fun v =>
 (f139_g0
 (v.1,v.2.1,v.2.2.1,v.2.2.2.1,v.2.2.2.2.1,
 v.2.2.2.2.2.1,())).bind
 fun v =>
 some (v.1,v.2.1,v.2.2.1,v.2.2.2.1,v.2.2.2.2.1,()))
 (fun v =>
 some (v.1,v.2.1,v.2.2.1,v.2.2.2.1,v.2.2.2.2.1,()))
 v)
 v
theorem d0d (f141:xl) (f173:q0b) (f139_g0:q9h) (f139_l0:q9i):yb (k0q f141 f173) 1 Tryz.f139 (b5g f139_g0 f139_l0) q2d q5y (x3n f141 f173 f139_g0 f139_l0):=fun v=>by kernel_rfl
def z8e:z8z:=x3n zv yf q3s q7n
theorem f7n:FO 139 (g9h z8e) :=
 qo y4d Tryz.func139 (And.intro k5z (And.intro k5y trivial)) (d0d zv yf q3s q7n)
abbrev q4p:=Int×Bool×qa×Int×Int×Int×Unit→Option ((Int×qa×Int×Int×Int×Unit)⊕(qa×qa×Int×Int×Int×Unit))
def y6d (f:q4p):LEnt:=⟨w2j,w5q,f⟩
abbrev q9j:=Int×qa×Int×Int×Int×Unit→Option ((Int×qa×Int×Int×Int×Unit)⊕(qa×qa×Int×Int×Int×Unit))
def y6e (f:q9j):LEnt:=⟨w2k,w5r,f⟩
abbrev z9a:=qa×Int×Int×Int×Unit→Option (qa×qa×Int×Int×Int×Unit)
def g9i (f:z9a):FEnt:=⟨q2d,q5y,f⟩
def k0r (f174:q2l):=lk [(174,v7i f174)]
theorem y4e:zm Tryz.prog (k0r xk):=(kc v5k kn)
def j5s (f174:q2l):q4p:=fun (x0,x1,x2,x3,x4,x5,_) =>
 bif x1 then some (Sum.inl (x0,x2,IntKind.i64.wrap (x3+3),x4,x5,()))
 else
 bif decide (0≤x3)&&decide (x3≤(↑x2.length:Int)) then
 bif decide (0≤x0)&&decide (x0≤x3) then
 some (Sum.inr (List.drop x0.toNat (List.take x3.toNat x2),x2,x3,x4,x5,()))
 else none
 else none
def xu:q4p:=j5s xk
theorem k6a:zb 1 (qc (code Tryz.f140) [1,1,0,0,0,1,0,1,0,1,1,1]) (y6d xu):=zc1 w2j w5q k0r j5s xk y4e
def k1y (f140_c0:q4p):Ann:=(.seq .nil (.blk (.seq .nil (.blk (.seq .nil (.cond .nil (.cut .nil (y6d f140_c0))))))))
def yg (f174:q2l) (f140_c0:q4p):yn (Int×qa×Int×Int×Int×Unit) ((Int×qa×Int×Int×Int×Unit)⊕(qa×qa×Int×Int×Int×Unit)):=fun (x0,x1,x2,x3,x4,_) =>
 bif decide (x2<(↑x1.length:Int)) then
 bif decide (0≤x2)&&decide (x2≤(↑x1.length:Int)) then
 bif decide (0<(↑(List.drop x2.toNat x1).length:Int)) then
 (f174 ((↑((List.drop x2.toNat x1).getD 0 0).toNat:Int),())).bind fun v =>
 bif v.1 then some (Sum.inl (x0,x1,IntKind.i64.wrap (x2+1),x3,x4,()))
 else
 bif decide ((↑(List.drop x2.toNat x1).length:Int)>2) then
 bif decide (2≤(↑(List.drop x2.toNat x1).length:Int)) then
 bif List.take 2 (List.drop x2.toNat x1)==[13,10] then
 bif decide (2<(↑(List.drop x2.toNat x1).length:Int)) then
 (f174 ((↑((List.drop x2.toNat x1).getD 2 0).toNat:Int),())).bind fun v =>
 (f140_c0 (x0,v.1,x1,x2,x3,x4,())).bind fun v =>
 Sum.elim
 (fun v =>
 some
 (Sum.inl
 (v.1,v.2.1,v.2.2.1,v.2.2.2.1,v.2.2.2.2.1,
 ())))
 (fun v =>
 some
 (Sum.inr
 (Sum.inr
 (v.1,v.2.1,v.2.2.1,v.2.2.2.1,v.2.2.2.2.1,
 ()))))
 v
 else none
 else
 (f140_c0 (x0,false,x1,x2,x3,x4,())).bind fun v =>
 Sum.elim
 (fun v =>
 some
 (Sum.inl
 (v.1,v.2.1,v.2.2.1,v.2.2.2.1,v.2.2.2.2.1,
 ())))
 (fun v =>
 some
 (Sum.inr
 (Sum.inr
 (v.1,v.2.1,v.2.2.1,v.2.2.2.1,v.2.2.2.2.1,
 ()))))
 v
 else none
 else
 (f140_c0 (x0,false,x1,x2,x3,x4,())).bind fun v =>
 Sum.elim
 (fun v =>
 some
 (Sum.inl
 (v.1,v.2.1,v.2.2.1,v.2.2.2.1,v.2.2.2.2.1,
 ())))
 (fun v =>
 some
 (Sum.inr
 (Sum.inr
 (v.1,v.2.1,v.2.2.1,v.2.2.2.1,v.2.2.2.2.1,
 ()))))
 v
 else none
 else none
 else some (Sum.inr (Sum.inl (x0,x1,x2,x3,x4,())))
theorem k3x (f174:q2l) (f140_c0:q4p):AqL (k0r f174) 1 (qc (code Tryz.f140) [1,1,0,0,0]) (k1y f140_c0) w2k w5r (yg f174 f140_c0):=fun v=>by kernel_rfl
def q3t:q9j:=qd (yg xk xu) jc
theorem k6b:jg 1 (qc (code Tryz.f140) [1,1,0,0,0]) (y6e q3t) :=
 frm y4e (And.intro k6a trivial) (k3x xk xu)
def b5h (f140_l0:q9j):Ann:=(.seq .nil (.seq .nil (.seq (.blk (.loop (y6e f140_l0))) .nil)))
def x9o (f174:q2l) (f140_l0:q9j):z9a:=fun (x0,x1,x2,x3,_) =>
 (f140_l0 (x1,x0,x1,x2,x3,())).bind fun v =>
 Sum.elim
 (fun v =>
 bif decide (0≤v.2.2.1)&&decide (v.2.2.1≤(↑(List.length v.2.1):Int)) then
 bif decide (0≤v.1)&&decide (v.1≤v.2.2.1) then
 some
 (List.drop (Int.toNat v.1) (List.take (Int.toNat v.2.2.1) v.2.1),v.2.1,
 v.2.2.1,v.2.2.2.1,v.2.2.2.2.1,())
 else none
 else none)
 (fun v=>some (v.1,v.2.1,v.2.2.1,v.2.2.2.1,v.2.2.2.2.1,()))
 v
theorem d0e (f174:q2l) (f140_l0:q9j):yb (k0r f174) 1 Tryz.f140 (b5h f140_l0) q2d q5y (x9o f174 f140_l0):=fun v=>by kernel_rfl
def z8f:z9a:=x9o xk q3t
theorem f7o:FO 140 (g9i z8f) :=
 qo y4e Tryz.func140 (And.intro k6b trivial) (d0e xk q3t)
abbrev q4i:=Int×Int×qa×Int×Int×Int×Int×qa×Int×Unit→Option (qa×Int×Int×Int×Int×qa×Int×Unit)
def y5n (f:q4i):LEnt:=⟨w2l,w5t,f⟩
abbrev x4a:=qa×Int×Int×Int×Unit→Option (Int×qa×Int×qa×Int×Int×Int×Unit)
def g8r (f:x4a):FEnt:=⟨q2d,w5s,f⟩
def g0k (f127:q6s) (f136:z8w) (f137:z8x) (f138:z8y) (f139:z8z) (f140:z9a) (f141:xl) (f90:T90):=lk [(127,v7e f127),(136,g9e f136),(137,g9f f137),(138,g9g f138),(139,g9h f139),(140,g9i f140),(141,x8k f141),(90,E90 f90)]
theorem v3f:zm Tryz.prog (g0k q2j z8b z8c z8d z8e z8f zv C90):=(kc v5f (kc f7k (kc f7l (kc f7m (kc f7n (kc f7o (kc x1w (kc g7d kn))))))))
def kg (f127:q6s) (f136:z8w) (f137:z8x) (f138:z8y) (f139:z8z) (f140:z9a) (f141:xl) (f90:T90):q4i:=fun (x0,x1,x2,x3,x4,x5,x6,x7,x8,_) =>
 (f90 (x1,())).bind fun v =>
 bif v.1 then
 (f136 (x2,x3,x4,x5,())).bind fun v =>
 some (v.2.1,v.2.2.1,v.2.2.2.1,v.2.2.2.2.1,0,v.1,x0,())
 else
 (f127 ([60,62,58,59,64,44,46],x1,())).bind fun v =>
 bif decide (v.1≥0) then
 bif decide (0≤IntKind.i64.wrap (x3+1))&&decide (IntKind.i64.wrap (x3+1)≤(↑x2.length:Int)) then
 bif decide (0≤x0)&&decide (x0≤IntKind.i64.wrap (x3+1)) then
 some
 (x2,IntKind.i64.wrap (x3+1),x4,x5,2,
 List.drop x0.toNat (List.take (IntKind.i64.wrap (x3+1)).toNat x2),x0,())
 else none
 else none
 else
 bif x1==34 then
 (f137 (x2,x3,x4,x5,())).bind fun v =>
 some
 (v.2.1,v.2.2.1,v.2.2.2.1,v.2.2.2.2.1,1,v.1,x0,())
 else
 bif x1==91 then
 (f138 (x2,x3,x4,x5,())).bind fun v =>
 some
 (v.2.1,v.2.2.1,v.2.2.2.1,v.2.2.2.2.1,5,v.1,x0,())
 else
 bif x1==40 then
 (f139 (x2,x3,x4,x5,())).bind fun v =>
 some
 (v.2.1,v.2.2.1,v.2.2.2.1,v.2.2.2.2.1,3,v.1,x0,
 ())
 else
 (f140 (x2,x3,x4,x5,())).bind fun v =>
 bif v.1==[] then
 (f141 (x0,4,v.2.1,v.2.2.1,v.2.2.2.1,v.2.2.2.2.1,())).bind
 fun v1 =>
 some
 (v1.1,v1.2.1,v1.2.2.1,v1.2.2.2.1,4,v.1,x0,())
 else
 some
 (v.2.1,v.2.2.1,v.2.2.2.1,v.2.2.2.2.1,4,v.1,x0,
 ())
theorem k3p (f127:q6s) (f136:z8w) (f137:z8x) (f138:z8y) (f139:z8z) (f140:z9a) (f141:xl) (f90:T90):AqC (g0k f127 f136 f137 f138 f139 f140 f141 f90) 1 (qc (code Tryz.f105) [1,1]) .nil w2l w5t (kg f127 f136 f137 f138 f139 f140 f141 f90):=fun v=>by kernel_rfl
def yy:q4i:=kg q2j z8b z8c z8d z8e z8f zv C90
theorem k5k:zb 1 (qc (code Tryz.f105) [1,1]) (y5n yy) :=
 frc v3f (k3p q2j z8b z8c z8d z8e z8f zv C90)
def b4w (f105_c0:q4i):Ann:=(.seq .nil (.cut .nil (y5n f105_c0)))
def z0t (f127:q6s) (f136:z8w) (f137:z8x) (f138:z8y) (f139:z8z) (f140:z9a) (f141:xl) (f90:T90) (f105_c0:q4i):x4a:=fun (x0,x1,x2,x3,_) =>
 bif decide (0≤x1)&&decide (x1<(↑x0.length:Int)) then
 (f105_c0 (x1,(↑(x0.getD x1.toNat 0).toNat:Int),x0,x1,x2,x3,0,[],0,())).bind fun v =>
 some
 (v.2.2.2.2.1,v.2.2.2.2.2.1,v.2.2.2.2.2.2.1,v.1,v.2.1,
 v.2.2.1,v.2.2.2.1,())
 else none
theorem b9u (f127:q6s) (f136:z8w) (f137:z8x) (f138:z8y) (f139:z8z) (f140:z9a) (f141:xl) (f90:T90) (f105_c0:q4i):yb (g0k f127 f136 f137 f138 f139 f140 f141 f90) 1 Tryz.f105 (b4w f105_c0) q2d w5s (z0t f127 f136 f137 f138 f139 f140 f141 f90 f105_c0):=fun v=>by kernel_rfl
def z3e:x4a:=z0t q2j z8b z8c z8d z8e z8f zv C90 yy
theorem f6w:FO 105 (g8r z3e) :=
 qo v3f Tryz.func105 (And.intro k5k trivial) (b9u q2j z8b z8c z8d z8e z8f zv C90 yy)
abbrev z6i:=qa×LqD×qa×Int×Int×Int×Unit→Option ((LqD×Unit)⊕(Int×Int×Unit))
def x9e (f:z6i):LEnt:=⟨w2m,w5v,f⟩
abbrev T67:=qa×Unit→Option (LqD×Int×Int×Unit)
def E67 (f:T67):FEnt:=⟨xi,w5u,f⟩
def K67 (f105:x4a) (f83:T83):=lk [(105,g8r f105),(83,E83 f83)]
theorem w7j:zm Tryz.prog (K67 z3e C83):=(kc f6w (kc y1g kn))
def q2u (f105:x4a) (f83:T83):yn (qa×LqD×qa×Int×Int×Int×Unit) ((LqD×Unit)⊕(Int×Int×Unit)):=fun (x0,x1,x2,x3,x4,x5,_) =>
 bif decide (x3<(↑x0.length:Int)) then
 (f105 (x2,x3,x4,x5,())).bind fun v =>
 bif decide (x1.length+[(v.1,v.2.1,v.2.2.1)].length≤140737488355328/32) then
 bif v.2.2.2.2.2.2.1 != 0 then
 some (Sum.inr (Sum.inr (v.2.2.2.2.2.1,v.2.2.2.2.2.2.1,())))
 else
 some
 (Sum.inl
 (x0,x1++[(v.1,v.2.1,v.2.2.1)],v.2.2.2.1,v.2.2.2.2.1,
 v.2.2.2.2.2.1,v.2.2.2.2.2.2.1,()))
 else none
 else some (Sum.inr (Sum.inl (x1,())))
def j8f:z6i:=qd (q2u z3e C83) jc
theorem g6j:jg 0 (qc (code Tryz.f67) [1,1,1,1,1,0,0,0]) (x9e j8f):=zl2 w2m w5v K67 q2u z3e C83 w7j
def N67 (f67_l0:z6i):Ann:=(.seq .nil (.seq .nil (.seq .nil (.seq .nil (.seq .nil (.seq (.blk (.loop (x9e f67_l0))) .nil))))))
def F67 (f105:x4a) (f83:T83) (f67_l0:z6i):T67:=fun (x0,_) =>
 bif decide ((↑x0.length:Int)>2000) then some ([],0,5,())
 else
 (f83 (x0,())).bind fun v =>
 bif decide (v.2.1≥0) then some ([],v.2.1,7,())
 else
 (f67_l0 (x0,[],x0,0,0,0,())).bind fun v =>
 Sum.elim (fun v=>some (v.1,0,0,())) (fun v=>some ([],v.1,v.2.1,()))
 v
def C67:T67:=F67 z3e C83 j8f
theorem b1f:FO 67 (E67 C67):=j2c xi w5u K67 N67 F67 z3e C83 j8f w7j Tryz.func67 (And.intro g6j trivial)
abbrev q4q:=Int×LqD×Int×qa×qa×Unit→Option (Int×LqD×Int×qa×qa×Unit)
def y6f (f:q4q):LEnt:=⟨w2o,w5x,f⟩
abbrev vq:=Int×LqD×Int×qa×qa×Unit→Option (Int×LqD×Int×qa×qa×Unit)
def x3j (f:vq):FEnt:=⟨w2n,w5w,f⟩
def z4r:q4q:=fun (x0,x1,x2,x3,x4,_) =>
 bif decide (0≤IntKind.i64.wrap (x2+x0))&&decide (IntKind.i64.wrap (x2+x0)<(↑x1.length:Int)) then
 some
 ((x1.getD (IntKind.i64.wrap (x2+x0)).toNat
 (0,([],0))).1,
 x1,x2,x3,x4,())
 else none
def q7o:q4q:=z4r
theorem k6c:zb 1 (qc (code Tryz.f146) [1,1]) (y6f q7o):=zc0 w2o w5x xj z4r kn
def b5i (f146_c0:q4q):Ann:=(.seq .nil (.cut .nil (y6f f146_c0)))
def v7x (f146_c0:q4q):vq:=fun (x0,x1,x2,x3,x4,_) =>
 bif decide (IntKind.i64.wrap (x2+x0)≥(↑x1.length:Int)) then some (-1,x1,x2,x3,x4,())
 else
 (f146_c0 (x0,x1,x2,x3,x4,())).bind fun v =>
 some (v.1,v.2.1,v.2.2.1,v.2.2.2.1,v.2.2.2.2.1,())
theorem d0g (f146_c0:q4q):yb xj 1 Tryz.f146 (b5i f146_c0) w2n w5w (v7x f146_c0):=fun v=>by kernel_rfl
def yl:vq:=v7x q7o
theorem y1e:FO 146 (x3j yl) :=
 qo kn Tryz.func146 (And.intro k6c trivial) (d0g q7o)
end Go.Proofs.YtiacnhhmkdkpmaaGreatDoorA.W
