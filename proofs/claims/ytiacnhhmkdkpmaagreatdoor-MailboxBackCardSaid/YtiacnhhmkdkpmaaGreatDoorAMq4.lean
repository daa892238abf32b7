/- The texts of the proof, one behind the other: W4, W5, W6, W7, W8, XDom, W9. -/
import Derived.Test.YtiacnhhmkdkpmaaGreatDoorAMq3
import Derived.RangeFuncBox
import Derived.OwnWalkIn
import Derived.TacticsInMore
import Derived.LoopNIn
import Derived.LoopIn
import Derived.Sort.LoopGhostIn
import Derived.Maps.AppendAt
set_option maxRecDepth 100000
set_option linter.unusedVariables false
namespace Go.Proofs.YtiacnhhmkdkpmaaGreatDoorA.W
open Go Go.Ae
abbrev j0j:=(Int×Int)×Int×Int×Int×List (Int)×qp×qu×qv×Unit→Option ((Int×Int)×Int×Int×List (Int)×qp×qu×qv×Unit)
def y7u (f:j0j):LEnt:=⟨f1p,f2i,f⟩
abbrev wu:=(Int×Int)×Int×Int×Int×List (Int)×qp×qu×qv×Unit→Option (List (Int)×qp×qu×qv×Unit)
def f0b (f:wu):FEnt:=⟨y2e,j1z,f⟩
def w9q (f316:y2n):=lk [(316,f0c f316)]
theorem v2w:zk Tryz.prog (w9q j9u):=(kc f8p kn)
def j6a (f316:y2n):yq ((Int×Int)×Int×Int×Int×List (Int)×qp×qu×qv×Unit) ((Int×Int)×Int×Int×List (Int)×qp×qu×qv×Unit):=fun (x0,x1,x2,x3,x4,x5,x6,x7,_) =>
 bif x2 != x3 then
 bif decide (x2>x3) then
 (f316
 (((↑(Int.toNat x0.1):Int),(↑(Int.toNat x0.2):Int)),IntKind.i64.wrap (x1 - x2),x1,x3,x4,x5,x6,
 x7,())).bind
 fun v =>
 some
 (Sum.inl
 (((↑(Int.toNat x0.1):Int),(↑(Int.toNat x0.2):Int)),x1,IntKind.i64.wrap (x2 - x3),x3,v.1,
 v.2.1,v.2.2.1,v.2.2.2.1,()))
 else
 (f316
 (((↑(Int.toNat x0.1):Int),(↑(Int.toNat x0.2):Int)),IntKind.i64.wrap (x1 - x2),
 IntKind.i64.wrap (IntKind.i64.wrap (x1+x3) - x2),x2,x4,x5,x6,x7,())).bind
 fun v =>
 some
 (Sum.inl
 (((↑(Int.toNat x0.1):Int),(↑(Int.toNat x0.2):Int)),x1,x2,IntKind.i64.wrap (x3 - x2),v.1,
 v.2.1,v.2.2.1,v.2.2.2.1,()))
 else some (Sum.inr (((↑(Int.toNat x0.1):Int),(↑(Int.toNat x0.2):Int)),x1,x2,x4,x5,x6,x7,()))
def z3d:j0j:=qc (j6a j9u) jd
theorem k7g:jg 2 (qd (code Tryz.f315) [1,1,0,0,0]) (y7u z3d):=zl1 f1p f2i w9q j6a j9u v2w
def b4i (f315_l0:j0j):Ann:=(.seq .nil (.seq .nil (.seq (.blk (.loop (y7u f315_l0))) .nil)))
def v9c (f316:y2n) (f315_l0:j0j):wu:=fun (x0,x1,x2,x3,x4,x5,x6,x7,_) =>
 (f315_l0
 (((↑(Int.toNat x0.1):Int),(↑(Int.toNat x0.2):Int)),x2,IntKind.i64.wrap (x2 - x1),
 IntKind.i64.wrap (x3 - x2),x4,x5,x6,x7,())).bind
 fun v =>
 (f316
 (((↑(Int.toNat v.1.1):Int),(↑(Int.toNat v.1.2):Int)),
 IntKind.i64.wrap (v.2.1 - v.2.2.1),v.2.1,v.2.2.1,v.2.2.2.1,
 v.2.2.2.2.1,v.2.2.2.2.2.1,v.2.2.2.2.2.2.1,())).bind
 fun v=>some (v.1,v.2.1,v.2.2.1,v.2.2.2.1,())
theorem b9c (f316:y2n) (f315_l0:j0j):ye (w9q f316) 2 Tryz.f315 (b4i f315_l0) y2e j1z (v9c f316 f315_l0):=fun v=>by kernel_rfl
def zu:wu:=v9c j9u z3d
theorem f8o:FO 315 (f0b zu) :=
 qo v2w Tryz.func315 (And.intro k7g trivial) (b9c j9u z3d)
abbrev j0e:=(Int×Int)×Int×Int×Int×List (Int)×qp×qu×qv×Unit→Option ((Int×Int)×Int×Int×List (Int)×qp×qu×qv×Unit)
def y7p (f:j0e):LEnt:=⟨v9u,k0g,f⟩
abbrev j0f:=(Int×Int)×Int×Int×List (Int)×qp×qu×qv×Unit→Option (List (Int)×qp×qu×qv×Unit)
def y7q (f:j0f):LEnt:=⟨v9v,k0h,f⟩
abbrev j0g:=(Int×Int)×Int×Int×Int×List (Int)×qp×qu×qv×Unit→Option ((Int×Int)×Int×Int×List (Int)×qp×qu×qv×Unit)
def y7r (f:j0g):LEnt:=⟨v9w,k0i,f⟩
abbrev j0h:=(Int×Int)×Int×Int×List (Int)×qp×qu×qv×Unit→Option (List (Int)×qp×qu×qv×Unit)
def y7s (f:j0h):LEnt:=⟨v9x,k0j,f⟩
abbrev j0i:=(Int×Int)×Int×Int×Int×Int×Int×Int×Int×Int×List (Int)×qp×qu×qv×Unit→Option ((Int×Int)×Int×Int×Int×Int×Int×Int×List (Int)×qp×qu×qv×Unit)
def y7t (f:j0i):LEnt:=⟨v9y,k0k,f⟩
abbrev q4v:=(Int×Int)×Int×Int×Int×List (Int)×qp×qu×qv×Unit→Option (List (Int)×qp×qu×qv×Unit)
def y7m (f:q4v):LEnt:=⟨w9t,z4t,f⟩
abbrev q4w:=(Int×Int)×Int×Int×Int×Int×Int×List (Int)×qp×qu×qv×Unit→Option (List (Int)×qp×qu×qv×Unit)
def y7n (f:q4w):LEnt:=⟨w9u,z4t,f⟩
abbrev q4x:=(Int×Int)×Int×Int×Int×Int×Int×Int×Int×List (Int)×qp×qu×qv×Unit→Option (List (Int)×qp×qu×qv×Unit)
def y7o (f:q4x):LEnt:=⟨w9v,z4t,f⟩
abbrev jc:=(Int×Int)×Int×Int×Int×List (Int)×qp×qu×qv×Unit→Option (List (Int)×qp×qu×qv×Unit)
def j3w (f:jc):FEnt:=⟨y2e,j1z,f⟩
def j9w (f278:yw) (f311:jc) (f315:wu):=lk [(278,w7u f278),(311,j3w f311),(315,f0b f315)]
theorem q1l (G:jc) (hG:zc Tryz.prog 311 (j3w G)):zk Tryz.prog (j9w zi G zu):=(kc w6m (kc hG (kc f8o kn)))
def q8g (f278:yw) (f311:jc) (f315:wu):yq ((Int×Int)×Int×Int×Int×List (Int)×qp×qu×qv×Unit) ((Int×Int)×Int×Int×List (Int)×qp×qu×qv×Unit):=fun (x0,x1,x2,x3,x4,x5,x6,x7,_) =>
 bif decide (x2<x3) then
 bif
 decide
 (0 ≤
 IntKind.i64.wrap
 ((IntKind.u64.wrap (IntKind.i64.wrap (x2+x3))).fdiv (2^min 1 IntKind.u64.bits))) &&
 decide
 (IntKind.i64.wrap
 ((IntKind.u64.wrap (IntKind.i64.wrap (x2+x3))).fdiv (2^min 1 IntKind.u64.bits)) <
 (↑(Int.toNat x0.2):Int)) then
 bif decide (0≤x1)&&decide (x1<(↑(Int.toNat x0.2):Int)) then
 (f278
 (x4.getD
 (Int.toNat x0.1 +
 (IntKind.i64.wrap
 ((IntKind.u64.wrap (IntKind.i64.wrap (x2+x3))).fdiv
 (2^min 1 IntKind.u64.bits))).toNat)
 0,
 x4.getD (Int.toNat x0.1+x1.toNat) 0,x5,x6,x7,())).bind
 fun v =>
 bif decide (v.1<0) then
 some
 (Sum.inl
 (((↑(Int.toNat x0.1):Int),(↑(Int.toNat x0.2):Int)),x1,
 IntKind.i64.wrap
 (IntKind.i64.wrap
 ((IntKind.u64.wrap (IntKind.i64.wrap (x2+x3))).fdiv (2^min 1 IntKind.u64.bits)) +
 1),
 x3,x4,v.2.1,v.2.2.1,v.2.2.2.1,()))
 else
 some
 (Sum.inl
 (((↑(Int.toNat x0.1):Int),(↑(Int.toNat x0.2):Int)),x1,x2,
 IntKind.i64.wrap
 ((IntKind.u64.wrap (IntKind.i64.wrap (x2+x3))).fdiv (2^min 1 IntKind.u64.bits)),
 x4,v.2.1,v.2.2.1,v.2.2.2.1,()))
 else none
 else none
 else some (Sum.inr (((↑(Int.toNat x0.1):Int),(↑(Int.toNat x0.2):Int)),x1,x2,x4,x5,x6,x7,()))
theorem k3t (f278:yw) (f311:jc) (f315:wu):AqL (j9w f278 f311 f315) 2 (qd (code Tryz.f311) [0,1,0,1,1,0,0,0]) .nil v9u k0g (q8g f278 f311 f315):=fun v=>by kernel_rfl
def xw (G:jc):j0e:=qc (q8g zi G zu) jd
theorem k7b (G:jc) (hG:zc Tryz.prog 311 (j3w G)):jg 2 (qd (code Tryz.f311) [0,1,0,1,1,0,0,0]) (y7p (xw G)) :=
 yb (ins:=v9u) (os:=k0g) (C:=(xw G)) (xp (ins:=v9u) (os:=k0g) (n := .nil) (F:=q8g zi G zu) hm hΓ (q1l G hG) (fun _=>jd) (jm _) (k3t zi G zu)) rfl
def q8h (f278:yw) (f311:jc) (f315:wu):yq ((Int×Int)×Int×Int×List (Int)×qp×qu×qv×Unit) (List (Int)×qp×qu×qv×Unit):=fun (x0,x1,x2,x3,x4,x5,x6,_) =>
 bif decide (x2<IntKind.i64.wrap (x1 - 1)) then
 bif decide (0≤IntKind.i64.wrap (x2+1))&&decide (IntKind.i64.wrap (x2+1)<(↑(Int.toNat x0.2):Int)) then
 bif decide (0≤x2)&&decide (x2<(↑(Int.toNat x0.2):Int)) then
 bif decide (0≤x2)&&decide (x2<(↑(Int.toNat x0.2):Int)) then
 bif
 decide (0≤IntKind.i64.wrap (x2+1)) &&
 decide (IntKind.i64.wrap (x2+1)<(↑(Int.toNat x0.2):Int)) then
 some
 (Sum.inl
 (((↑(Int.toNat x0.1):Int),(↑(Int.toNat x0.2):Int)),x1,IntKind.i64.wrap (x2+1),
 (x3.set (Int.toNat x0.1+x2.toNat)
 (x3.getD (Int.toNat x0.1+(IntKind.i64.wrap (x2+1)).toNat) 0)).set
 (Int.toNat x0.1+(IntKind.i64.wrap (x2+1)).toNat)
 (x3.getD (Int.toNat x0.1+x2.toNat) 0),
 x4,x5,x6,()))
 else none
 else none
 else none
 else none
 else some (Sum.inr (x3,x4,x5,x6,()))
theorem k3u (f278:yw) (f311:jc) (f315:wu):AqL (j9w f278 f311 f315) 2 (qd (code Tryz.f311) [0,1,0,1,1,1,0,1,0,0]) .nil v9v k0h (q8h f278 f311 f315):=fun v=>by kernel_rfl
def xx (G:jc):j0f:=qc (q8h zi G zu) jd
theorem k7c (G:jc) (hG:zc Tryz.prog 311 (j3w G)):jg 2 (qd (code Tryz.f311) [0,1,0,1,1,1,0,1,0,0]) (y7q (xx G)) :=
 yb (ins:=v9v) (os:=k0h) (C:=(xx G)) (xp (ins:=v9v) (os:=k0h) (n := .nil) (F:=q8h zi G zu) hm hΓ (q1l G hG) (fun _=>jd) (jm _) (k3u zi G zu)) rfl
def q8i (f278:yw) (f311:jc) (f315:wu):yq ((Int×Int)×Int×Int×Int×List (Int)×qp×qu×qv×Unit) ((Int×Int)×Int×Int×List (Int)×qp×qu×qv×Unit):=fun (x0,x1,x2,x3,x4,x5,x6,x7,_) =>
 bif decide (x2<x3) then
 bif decide (0≤x1)&&decide (x1<(↑(Int.toNat x0.2):Int)) then
 bif
 decide
 (0 ≤
 IntKind.i64.wrap
 ((IntKind.u64.wrap (IntKind.i64.wrap (x2+x3))).fdiv (2^min 1 IntKind.u64.bits))) &&
 decide
 (IntKind.i64.wrap
 ((IntKind.u64.wrap (IntKind.i64.wrap (x2+x3))).fdiv (2^min 1 IntKind.u64.bits)) <
 (↑(Int.toNat x0.2):Int)) then
 (f278
 (x4.getD (Int.toNat x0.1+x1.toNat) 0,
 x4.getD
 (Int.toNat x0.1 +
 (IntKind.i64.wrap
 ((IntKind.u64.wrap (IntKind.i64.wrap (x2+x3))).fdiv
 (2^min 1 IntKind.u64.bits))).toNat)
 0,
 x5,x6,x7,())).bind
 fun v =>
 bif !decide (v.1<0) then
 some
 (Sum.inl
 (((↑(Int.toNat x0.1):Int),(↑(Int.toNat x0.2):Int)),x1,
 IntKind.i64.wrap
 (IntKind.i64.wrap
 ((IntKind.u64.wrap (IntKind.i64.wrap (x2+x3))).fdiv (2^min 1 IntKind.u64.bits)) +
 1),
 x3,x4,v.2.1,v.2.2.1,v.2.2.2.1,()))
 else
 some
 (Sum.inl
 (((↑(Int.toNat x0.1):Int),(↑(Int.toNat x0.2):Int)),x1,x2,
 IntKind.i64.wrap
 ((IntKind.u64.wrap (IntKind.i64.wrap (x2+x3))).fdiv (2^min 1 IntKind.u64.bits)),
 x4,v.2.1,v.2.2.1,v.2.2.2.1,()))
 else none
 else none
 else some (Sum.inr (((↑(Int.toNat x0.1):Int),(↑(Int.toNat x0.2):Int)),x1,x2,x4,x5,x6,x7,()))
theorem k3v (f278:yw) (f311:jc) (f315:wu):AqL (j9w f278 f311 f315) 2 (qd (code Tryz.f311) [1,0,1,0,1,1,0,0,0]) .nil v9w k0i (q8i f278 f311 f315):=fun v=>by kernel_rfl
def xy (G:jc):j0g:=qc (q8i zi G zu) jd
theorem k7d (G:jc) (hG:zc Tryz.prog 311 (j3w G)):jg 2 (qd (code Tryz.f311) [1,0,1,0,1,1,0,0,0]) (y7r (xy G)) :=
 yb (ins:=v9w) (os:=k0i) (C:=(xy G)) (xp (ins:=v9w) (os:=k0i) (n := .nil) (F:=q8i zi G zu) hm hΓ (q1l G hG) (fun _=>jd) (jm _) (k3v zi G zu)) rfl
def q8j (f278:yw) (f311:jc) (f315:wu):yq ((Int×Int)×Int×Int×List (Int)×qp×qu×qv×Unit) (List (Int)×qp×qu×qv×Unit):=fun (x0,x1,x2,x3,x4,x5,x6,_) =>
 bif decide (x2>x1) then
 bif decide (0≤IntKind.i64.wrap (x2 - 1))&&decide (IntKind.i64.wrap (x2 - 1)<(↑(Int.toNat x0.2):Int)) then
 bif decide (0≤x2)&&decide (x2<(↑(Int.toNat x0.2):Int)) then
 bif decide (0≤x2)&&decide (x2<(↑(Int.toNat x0.2):Int)) then
 bif
 decide (0≤IntKind.i64.wrap (x2 - 1)) &&
 decide (IntKind.i64.wrap (x2 - 1)<(↑(Int.toNat x0.2):Int)) then
 some
 (Sum.inl
 (((↑(Int.toNat x0.1):Int),(↑(Int.toNat x0.2):Int)),x1,IntKind.i64.wrap (x2 - 1),
 (x3.set (Int.toNat x0.1+x2.toNat)
 (x3.getD (Int.toNat x0.1+(IntKind.i64.wrap (x2 - 1)).toNat) 0)).set
 (Int.toNat x0.1+(IntKind.i64.wrap (x2 - 1)).toNat)
 (x3.getD (Int.toNat x0.1+x2.toNat) 0),
 x4,x5,x6,()))
 else none
 else none
 else none
 else none
 else some (Sum.inr (x3,x4,x5,x6,()))
theorem k3w (f278:yw) (f311:jc) (f315:wu):AqL (j9w f278 f311 f315) 2 (qd (code Tryz.f311) [1,0,1,0,1,1,1,0,1,0,0]) .nil v9x k0j (q8j f278 f311 f315):=fun v=>by kernel_rfl
def xz (G:jc):j0h:=qc (q8j zi G zu) jd
theorem k7e (G:jc) (hG:zc Tryz.prog 311 (j3w G)):jg 2 (qd (code Tryz.f311) [1,0,1,0,1,1,1,0,1,0,0]) (y7s (xz G)) :=
 yb (ins:=v9x) (os:=k0j) (C:=(xz G)) (xp (ins:=v9x) (os:=k0j) (n := .nil) (F:=q8j zi G zu) hm hΓ (q1l G hG) (fun _=>jd) (jm _) (k3w zi G zu)) rfl
def q8k (f278:yw) (f311:jc) (f315:wu):yq ((Int×Int)×Int×Int×Int×Int×Int×Int×Int×Int×List (Int)×qp×qu×qv×Unit) ((Int×Int)×Int×Int×Int×Int×Int×Int×List (Int)×qp×qu×qv×Unit):=fun (x0,x1,x2,x3,x4,x5,x6,x7,x8,x9,x10,x11,x12,_) =>
 bif decide (x6<x7) then
 bif
 decide
 (0 ≤
 IntKind.i64.wrap
 (x8 -
 IntKind.i64.wrap
 ((IntKind.u64.wrap (IntKind.i64.wrap (x6+x7))).fdiv (2^min 1 IntKind.u64.bits)))) &&
 decide
 (IntKind.i64.wrap
 (x8 -
 IntKind.i64.wrap
 ((IntKind.u64.wrap (IntKind.i64.wrap (x6+x7))).fdiv (2^min 1 IntKind.u64.bits))) <
 (↑(Int.toNat x0.2):Int)) then
 bif
 decide
 (0 ≤
 IntKind.i64.wrap
 ((IntKind.u64.wrap (IntKind.i64.wrap (x6+x7))).fdiv (2^min 1 IntKind.u64.bits))) &&
 decide
 (IntKind.i64.wrap
 ((IntKind.u64.wrap (IntKind.i64.wrap (x6+x7))).fdiv (2^min 1 IntKind.u64.bits)) <
 (↑(Int.toNat x0.2):Int)) then
 (f278
 (x9.getD
 (Int.toNat x0.1 +
 (IntKind.i64.wrap
 (x8 -
 IntKind.i64.wrap
 ((IntKind.u64.wrap (IntKind.i64.wrap (x6+x7))).fdiv
 (2^min 1 IntKind.u64.bits)))).toNat)
 0,
 x9.getD
 (Int.toNat x0.1 +
 (IntKind.i64.wrap
 ((IntKind.u64.wrap (IntKind.i64.wrap (x6+x7))).fdiv
 (2^min 1 IntKind.u64.bits))).toNat)
 0,
 x10,x11,x12,())).bind
 fun v =>
 bif !decide (v.1<0) then
 some
 (Sum.inl
 (((↑(Int.toNat x0.1):Int),(↑(Int.toNat x0.2):Int)),x1,x2,x3,x4,x5,
 IntKind.i64.wrap
 (IntKind.i64.wrap
 ((IntKind.u64.wrap (IntKind.i64.wrap (x6+x7))).fdiv (2^min 1 IntKind.u64.bits)) +
 1),
 x7,x8,x9,v.2.1,v.2.2.1,v.2.2.2.1,()))
 else
 some
 (Sum.inl
 (((↑(Int.toNat x0.1):Int),(↑(Int.toNat x0.2):Int)),x1,x2,x3,x4,x5,x6,
 IntKind.i64.wrap
 ((IntKind.u64.wrap (IntKind.i64.wrap (x6+x7))).fdiv (2^min 1 IntKind.u64.bits)),
 x8,x9,v.2.1,v.2.2.1,v.2.2.2.1,()))
 else none
 else none
 else
 some
 (Sum.inr
 (((↑(Int.toNat x0.1):Int),(↑(Int.toNat x0.2):Int)),x1,x2,x3,x4,x5,x6,x9,x10,x11,x12,
 ()))
theorem k3x (f278:yw) (f311:jc) (f315:wu):AqL (j9w f278 f311 f315) 2 (qd (code Tryz.f311) [1,1,1,1,1,1,1,0,0,0]) .nil v9y k0k (q8k f278 f311 f315):=fun v=>by kernel_rfl
def kb (G:jc):j0i:=qc (q8k zi G zu) jd
theorem k7f (G:jc) (hG:zc Tryz.prog 311 (j3w G)):jg 2 (qd (code Tryz.f311) [1,1,1,1,1,1,1,0,0,0]) (y7t (kb G)) :=
 yb (ins:=v9y) (os:=k0k) (C:=(kb G)) (xp (ins:=v9y) (os:=k0k) (n := .nil) (F:=q8k zi G zu) hm hΓ (q1l G hG) (fun _=>jd) (jm _) (k3x zi G zu)) rfl
def q3v (f278:yw) (f311:jc) (f315:wu):q4v:=fun (x0,x1,x2,x3,x4,x5,x6,x7,_) =>
 bif decide (x2<x3) then
 bif decide (x3<x1) then
 (f311 (((↑(Int.toNat x0.1):Int),(↑(Int.toNat x0.2):Int)),x2,x3,x1,x4,x5,x6,x7,())).bind fun v =>
 some (v.1,v.2.1,v.2.2.1,v.2.2.2.1,())
 else some (x4,x5,x6,x7,())
 else some (x4,x5,x6,x7,())
theorem k3q (f278:yw) (f311:jc) (f315:wu):AqC (j9w f278 f311 f315) 2 (qd (code Tryz.f311) [1,1,1,1,1,1,1,1,1,1,1]) .nil w9t z4t (q3v f278 f311 f315):=fun v=>by kernel_rfl
def xc (G:jc):q4v:=q3v zi G zu
theorem k6y (G:jc) (hG:zc Tryz.prog 311 (j3w G)):zj 2 (qd (code Tryz.f311) [1,1,1,1,1,1,1,1,1,1,1]) (y7m (xc G)) :=
 km (ins:=w9t) (os:=z4t) (n := .nil) (F:=(xc G)) hm hΓ (q1l G hG) (jm _) (k3q zi G zu)
def y9h (f311_c0:q4v):Ann:=(.cut .nil (y7m f311_c0))
def q3w (f278:yw) (f311:jc) (f315:wu) (f311_c0:q4v):q4w:=fun (x0,x1,x2,x3,x4,x5,x6,x7,x8,x9,_) =>
 bif decide (x1<x4) then
 bif decide (x4<x3) then
 (f311 (((↑(Int.toNat x0.1):Int),(↑(Int.toNat x0.2):Int)),x1,x4,x3,x6,x7,x8,x9,())).bind fun v =>
 (f311_c0
 (((↑(Int.toNat x0.1):Int),(↑(Int.toNat x0.2):Int)),x2,x3,x5,v.1,v.2.1,
 v.2.2.1,v.2.2.2.1,())).bind
 fun v=>some (v.1,v.2.1,v.2.2.1,v.2.2.2.1,())
 else
 (f311_c0 (((↑(Int.toNat x0.1):Int),(↑(Int.toNat x0.2):Int)),x2,x3,x5,x6,x7,x8,x9,())).bind
 fun v=>some (v.1,v.2.1,v.2.2.1,v.2.2.2.1,())
 else
 (f311_c0 (((↑(Int.toNat x0.1):Int),(↑(Int.toNat x0.2):Int)),x2,x3,x5,x6,x7,x8,x9,())).bind fun v =>
 some (v.1,v.2.1,v.2.2.1,v.2.2.2.1,())
theorem k3r (f278:yw) (f311:jc) (f315:wu) (f311_c0:q4v):AqC (j9w f278 f311 f315) 2 (qd (code Tryz.f311) [1,1,1,1,1,1,1,1,1,1]) (y9h f311_c0) w9u z4t (q3w f278 f311 f315 f311_c0):=fun v=>by kernel_rfl
def xd (G:jc):q4w:=q3w zi G zu (xc G)
theorem k6z (G:jc) (hG:zc Tryz.prog 311 (j3w G)):zj 2 (qd (code Tryz.f311) [1,1,1,1,1,1,1,1,1,1]) (y7n (xd G)) :=
 km (ins:=w9u) (os:=z4t) (n:=(y9h (xc G))) (F:=(xd G)) hm hΓ (q1l G hG) (ki (And.intro (k6y G hG) trivial) (by kernel_rfl)) (k3r zi G zu (xc G))
def y9i (f311_c1:q4w) (f311_l4:j0i):Ann:=(.seq .nil (.seq (.blk (.loop (y7t f311_l4))) (.seq .nil (.cut .nil (y7n f311_c1)))))
def q3x (f278:yw) (f311:jc) (f315:wu) (f311_c1:q4w) (f311_l4:j0i):q4x:=fun (x0,x1,x2,x3,x4,x5,x6,x7,x8,x9,x10,x11,_) =>
 (f311_l4
 (((↑(Int.toNat x0.1):Int),(↑(Int.toNat x0.2):Int)),x1,x2,x3,x4,x5,x6,x7,
 IntKind.i64.wrap (x5 - 1),x8,x9,x10,x11,())).bind
 fun v =>
 bif decide (v.2.2.2.2.2.2.1<v.2.2.1) then
 bif decide (v.2.2.1<IntKind.i64.wrap (v.2.2.2.2.2.1 - v.2.2.2.2.2.2.1)) then
 (f315
 (((↑(Int.toNat v.1.1):Int),(↑(Int.toNat v.1.2):Int)),v.2.2.2.2.2.2.1,
 v.2.2.1,IntKind.i64.wrap (v.2.2.2.2.2.1 - v.2.2.2.2.2.2.1),
 v.2.2.2.2.2.2.2.1,v.2.2.2.2.2.2.2.2.1,
 v.2.2.2.2.2.2.2.2.2.1,v.2.2.2.2.2.2.2.2.2.2.1,())).bind
 fun v1 =>
 (f311_c1
 (((↑(Int.toNat v.1.1):Int),(↑(Int.toNat v.1.2):Int)),v.2.1,v.2.2.2.1,
 v.2.2.2.2.1,v.2.2.2.2.2.2.1,
 IntKind.i64.wrap (v.2.2.2.2.2.1 - v.2.2.2.2.2.2.1),v1.1,
 v1.2.1,v1.2.2.1,v1.2.2.2.1,())).bind
 fun v=>some (v.1,v.2.1,v.2.2.1,v.2.2.2.1,())
 else
 (f311_c1
 (((↑(Int.toNat v.1.1):Int),(↑(Int.toNat v.1.2):Int)),v.2.1,v.2.2.2.1,
 v.2.2.2.2.1,v.2.2.2.2.2.2.1,
 IntKind.i64.wrap (v.2.2.2.2.2.1 - v.2.2.2.2.2.2.1),
 v.2.2.2.2.2.2.2.1,v.2.2.2.2.2.2.2.2.1,
 v.2.2.2.2.2.2.2.2.2.1,v.2.2.2.2.2.2.2.2.2.2.1,())).bind
 fun v=>some (v.1,v.2.1,v.2.2.1,v.2.2.2.1,())
 else
 (f311_c1
 (((↑(Int.toNat v.1.1):Int),(↑(Int.toNat v.1.2):Int)),v.2.1,v.2.2.2.1,
 v.2.2.2.2.1,v.2.2.2.2.2.2.1,
 IntKind.i64.wrap (v.2.2.2.2.2.1 - v.2.2.2.2.2.2.1),
 v.2.2.2.2.2.2.2.1,v.2.2.2.2.2.2.2.2.1,
 v.2.2.2.2.2.2.2.2.2.1,v.2.2.2.2.2.2.2.2.2.2.1,())).bind
 fun v=>some (v.1,v.2.1,v.2.2.1,v.2.2.2.1,())
theorem k3s (f278:yw) (f311:jc) (f315:wu) (f311_c1:q4w) (f311_l4:j0i):AqC (j9w f278 f311 f315) 2 (qd (code Tryz.f311) [1,1,1,1,1,1]) (y9i f311_c1 f311_l4) w9v z4t (q3x f278 f311 f315 f311_c1 f311_l4):=fun v=>by kernel_rfl
def xv (G:jc):q4x:=q3x zi G zu (xd G) (kb G)
theorem k7a (G:jc) (hG:zc Tryz.prog 311 (j3w G)):zj 2 (qd (code Tryz.f311) [1,1,1,1,1,1]) (y7o (xv G)) :=
 km (ins:=w9v) (os:=z4t) (n:=(y9i (xd G) (kb G))) (F:=(xv G)) hm hΓ (q1l G hG) (ki (And.intro (k7f G hG) (And.intro (k6z G hG) trivial)) (by kernel_rfl)) (k3s zi G zu (xd G) (kb G))
def b4h (f311_c2:q4x) (f311_l0:j0e) (f311_l1:j0f) (f311_l2:j0g) (f311_l3:j0h):Ann:=(.seq (.seq .nil (.cond (.seq .nil (.seq .nil (.seq (.blk (.loop (y7p f311_l0))) (.seq (.seq .nil (.blk (.loop (y7q f311_l1)))) .nil)))) .nil)) (.seq (.seq .nil (.cond (.seq .nil (.seq .nil (.seq (.blk (.loop (y7r f311_l2))) (.seq (.seq .nil (.blk (.loop (y7s f311_l3)))) .nil)))) .nil)) (.seq .nil (.seq .nil (.seq .nil (.cut .nil (y7o f311_c2)))))))
def z7u (f278:yw) (f311:jc) (f315:wu) (f311_c2:q4x) (f311_l0:j0e) (f311_l1:j0f) (f311_l2:j0g) (f311_l3:j0h):jc:=fun (x0,x1,x2,x3,x4,x5,x6,x7,_) =>
 bif IntKind.i64.wrap (x2 - x1)==1 then
 (f311_l0 (((↑(Int.toNat x0.1):Int),(↑(Int.toNat x0.2):Int)),x1,x2,x3,x4,x5,x6,x7,())).bind fun v =>
 (f311_l1
 (((↑(Int.toNat v.1.1):Int),(↑(Int.toNat v.1.2):Int)),v.2.2.1,v.2.1,
 v.2.2.2.1,v.2.2.2.2.1,v.2.2.2.2.2.1,v.2.2.2.2.2.2.1,
 ())).bind
 fun v=>some (v.1,v.2.1,v.2.2.1,v.2.2.2.1,())
 else
 bif IntKind.i64.wrap (x3 - x2)==1 then
 (f311_l2 (((↑(Int.toNat x0.1):Int),(↑(Int.toNat x0.2):Int)),x2,x1,x2,x4,x5,x6,x7,())).bind
 fun v =>
 (f311_l3
 (((↑(Int.toNat v.1.1):Int),(↑(Int.toNat v.1.2):Int)),v.2.2.1,v.2.1,
 v.2.2.2.1,v.2.2.2.2.1,v.2.2.2.2.2.1,
 v.2.2.2.2.2.2.1,())).bind
 fun v=>some (v.1,v.2.1,v.2.2.1,v.2.2.2.1,())
 else
 bif
 decide
 (x2 >
 IntKind.i64.wrap
 ((IntKind.u64.wrap (IntKind.i64.wrap (x1+x3))).fdiv (2^min 1 IntKind.u64.bits))) then
 (f311_c2
 (((↑(Int.toNat x0.1):Int),(↑(Int.toNat x0.2):Int)),x1,x2,x3,
 IntKind.i64.wrap
 ((IntKind.u64.wrap (IntKind.i64.wrap (x1+x3))).fdiv (2^min 1 IntKind.u64.bits)),
 IntKind.i64.wrap
 (IntKind.i64.wrap
 ((IntKind.u64.wrap (IntKind.i64.wrap (x1+x3))).fdiv (2^min 1 IntKind.u64.bits)) +
 x2),
 IntKind.i64.wrap
 (IntKind.i64.wrap
 (IntKind.i64.wrap
 ((IntKind.u64.wrap (IntKind.i64.wrap (x1+x3))).fdiv
 (2^min 1 IntKind.u64.bits)) +
 x2) -
 x3),
 IntKind.i64.wrap
 ((IntKind.u64.wrap (IntKind.i64.wrap (x1+x3))).fdiv (2^min 1 IntKind.u64.bits)),
 x4,x5,x6,x7,())).bind
 fun v=>some (v.1,v.2.1,v.2.2.1,v.2.2.2.1,())
 else
 (f311_c2
 (((↑(Int.toNat x0.1):Int),(↑(Int.toNat x0.2):Int)),x1,x2,x3,
 IntKind.i64.wrap
 ((IntKind.u64.wrap (IntKind.i64.wrap (x1+x3))).fdiv (2^min 1 IntKind.u64.bits)),
 IntKind.i64.wrap
 (IntKind.i64.wrap
 ((IntKind.u64.wrap (IntKind.i64.wrap (x1+x3))).fdiv (2^min 1 IntKind.u64.bits)) +
 x2),
 x1,x2,x4,x5,x6,x7,())).bind
 fun v=>some (v.1,v.2.1,v.2.2.1,v.2.2.2.1,())
theorem b9b (f278:yw) (f311:jc) (f315:wu) (f311_c2:q4x) (f311_l0:j0e) (f311_l1:j0f) (f311_l2:j0g) (f311_l3:j0h):ye (j9w f278 f311 f315) 2 Tryz.f311 (b4h f311_c2 f311_l0 f311_l1 f311_l2 f311_l3) y2e j1z (z7u f278 f311 f315 f311_c2 f311_l0 f311_l1 f311_l2 f311_l3):=fun v=>by kernel_rfl
def j3v:jc:=q0u (fun G=>z7u zi G zu (xv G) (xw G) (xx G) (xy G) (xz G)) jd
theorem f8l:FO 311 (j3w j3v) :=
 y2z (ins:=y2e) (os:=j1z) (F:=fun G=>z7u zi G zu (xv G) (xw G) (xx G) (xy G) (xz G)) (fun G hG=>qo (q1l G hG) Tryz.func311 (And.intro (k7b G hG) (And.intro (k7c G hG) (And.intro (k7d G hG) (And.intro (k7e G hG) (And.intro (k7a G hG) trivial))))) (b9b zi G zu (xv G) (xw G) (xx G) (xy G) (xz G))) jd
abbrev q9w:=(Int×Int)×Int×Int×Int×Int×List (Int)×qp×qu×qv×Unit→Option ((Int×Int)×Int×Int×Int×List (Int)×qp×qu×qv×Unit)
def y7d (f:q9w):LEnt:=⟨v9z,f2j,f⟩
abbrev q9x:=(Int×Int)×Int×Int×Int×Int×List (Int)×qp×qu×qv×Unit→Option ((Int×Int)×Int×Int×Int×List (Int)×qp×qu×qv×Unit)
def y7e (f:q9x):LEnt:=⟨v9z,w2i,f⟩
abbrev q9y:=(Int×Int)×Int×Int×List (Int)×qp×qu×qv×Unit→Option (List (Int)×qp×qu×qv×Unit)
def y7f (f:q9y):LEnt:=⟨k8y,w2j,f⟩
abbrev x4t:=(Int×Int)×Int×List (Int)×qp×qu×qv×Unit→Option (List (Int)×qp×qu×qv×Unit)
def g9r (f:x4t):FEnt:=⟨f1q,j1z,f⟩
def x8y (f310:z0d) (f311:jc):=lk [(310,g9y f310),(311,j3w f311)]
theorem z6c:zk Tryz.prog (x8y q8c j3v):=(kc f8k (kc f8l kn))
def j5u (f310:z0d) (f311:jc):yq ((Int×Int)×Int×Int×Int×Int×List (Int)×qp×qu×qv×Unit) ((Int×Int)×Int×Int×Int×List (Int)×qp×qu×qv×Unit):=fun (x0,x1,x2,x3,x4,x5,x6,x7,x8,_) =>
 bif decide (x4≤x1) then
 (f310 (((↑(Int.toNat x0.1):Int),(↑(Int.toNat x0.2):Int)),x3,x4,x5,x6,x7,x8,())).bind fun v =>
 some
 (Sum.inl
 (((↑(Int.toNat x0.1):Int),(↑(Int.toNat x0.2):Int)),x1,x2,x4,IntKind.i64.wrap (x4+x2),v.1,
 v.2.1,v.2.2.1,v.2.2.2.1,()))
 else some (Sum.inr (((↑(Int.toNat x0.1):Int),(↑(Int.toNat x0.2):Int)),x1,x2,x3,x5,x6,x7,x8,()))
def q8a:q9w:=qc (j5u q8c j3v) jd
theorem k6p:jg 2 (qd (code Tryz.f299) [1,1,0,0,0]) (y7d q8a):=zl2 v9z f2j x8y j5u q8c j3v z6c
def j5v (f310:z0d) (f311:jc):yq ((Int×Int)×Int×Int×Int×Int×List (Int)×qp×qu×qv×Unit) ((Int×Int)×Int×Int×Int×List (Int)×qp×qu×qv×Unit):=fun (x0,x1,x2,x3,x4,x5,x6,x7,x8,_) =>
 bif decide (x4≤x1) then
 (f311
 (((↑(Int.toNat x0.1):Int),(↑(Int.toNat x0.2):Int)),x3,IntKind.i64.wrap (x3+x2),x4,x5,x6,x7,x8,
 ())).bind
 fun v =>
 some
 (Sum.inl
 (((↑(Int.toNat x0.1):Int),(↑(Int.toNat x0.2):Int)),x1,x2,x4,
 IntKind.i64.wrap (x4+IntKind.i64.wrap (2*x2)),v.1,v.2.1,v.2.2.1,v.2.2.2.1,
 ()))
 else some (Sum.inr (((↑(Int.toNat x0.1):Int),(↑(Int.toNat x0.2):Int)),x1,x2,x3,x5,x6,x7,x8,()))
def q8b:q9x:=qc (j5v q8c j3v) jd
theorem k6q:jg 2 (qd (code Tryz.f299) [1,1,1,1,0,0,1,0,1,0,0,0]) (y7e q8b):=zl2 v9z w2i x8y j5v q8c j3v z6c
def k1d (f299_l1:q9x):Ann:=(.seq .nil (.blk (.seq .nil (.seq (.blk (.loop (y7e f299_l1))) .nil))))
def j5w (f310:z0d) (f311:jc) (f299_l1:q9x):yq ((Int×Int)×Int×Int×List (Int)×qp×qu×qv×Unit) (List (Int)×qp×qu×qv×Unit):=fun (x0,x1,x2,x3,x4,x5,x6,_) =>
 bif decide (x2<x1) then
 (f299_l1
 (((↑(Int.toNat x0.1):Int),(↑(Int.toNat x0.2):Int)),x1,x2,0,IntKind.i64.wrap (2*x2),x3,x4,x5,
 x6,())).bind
 fun v =>
 bif decide (IntKind.i64.wrap (v.2.2.2.1+v.2.2.1)<v.2.1) then
 (f311
 (((↑(Int.toNat v.1.1):Int),(↑(Int.toNat v.1.2):Int)),v.2.2.2.1,
 IntKind.i64.wrap (v.2.2.2.1+v.2.2.1),v.2.1,v.2.2.2.2.1,
 v.2.2.2.2.2.1,v.2.2.2.2.2.2.1,v.2.2.2.2.2.2.2.1,
 ())).bind
 fun v1 =>
 some
 (Sum.inl
 (((↑(Int.toNat v.1.1):Int),(↑(Int.toNat v.1.2):Int)),v.2.1,
 IntKind.i64.wrap (v.2.2.1*2),v1.1,v1.2.1,v1.2.2.1,
 v1.2.2.2.1,()))
 else
 some
 (Sum.inl
 (((↑(Int.toNat v.1.1):Int),(↑(Int.toNat v.1.2):Int)),v.2.1,
 IntKind.i64.wrap (v.2.2.1*2),v.2.2.2.2.1,v.2.2.2.2.2.1,
 v.2.2.2.2.2.2.1,v.2.2.2.2.2.2.2.1,()))
 else some (Sum.inr (x3,x4,x5,x6,()))
theorem k3n (f310:z0d) (f311:jc) (f299_l1:q9x):AqL (x8y f310 f311) 2 (qd (code Tryz.f299) [1,1,1,1,0,0]) (k1d f299_l1) k8y w2j (j5w f310 f311 f299_l1):=fun v=>by kernel_rfl
def z3b:q9y:=qc (j5w q8c j3v q8b) jd
theorem k6r:jg 2 (qd (code Tryz.f299) [1,1,1,1,0,0]) (y7f z3b) :=
 frm z6c (And.intro k6q trivial) (k3n q8c j3v q8b)
def b4d (f299_l0:q9w) (f299_l2:q9y):Ann:=(.seq .nil (.seq .nil (.seq (.blk (.loop (y7d f299_l0))) (.seq .nil (.blk (.loop (y7f f299_l2)))))))
def v8t (f310:z0d) (f311:jc) (f299_l0:q9w) (f299_l2:q9y):x4t:=fun (x0,x1,x2,x3,x4,x5,_) =>
 (f299_l0 (((↑(Int.toNat x0.1):Int),(↑(Int.toNat x0.2):Int)),x1,20,0,20,x2,x3,x4,x5,())).bind
 fun v =>
 (f310
 (((↑(Int.toNat v.1.1):Int),(↑(Int.toNat v.1.2):Int)),v.2.2.2.1,v.2.1,
 v.2.2.2.2.1,v.2.2.2.2.2.1,v.2.2.2.2.2.2.1,
 v.2.2.2.2.2.2.2.1,())).bind
 fun v1 =>
 (f299_l2
 (((↑(Int.toNat v.1.1):Int),(↑(Int.toNat v.1.2):Int)),v.2.1,v.2.2.1,
 v1.1,v1.2.1,v1.2.2.1,v1.2.2.2.1,())).bind
 fun v=>some (v.1,v.2.1,v.2.2.1,v.2.2.2.1,())
theorem b8x (f310:z0d) (f311:jc) (f299_l0:q9w) (f299_l2:q9y):ye (x8y f310 f311) 2 Tryz.f299 (b4d f299_l0 f299_l2) f1q j1z (v8t f310 f311 f299_l0 f299_l2):=fun v=>by kernel_rfl
def y1r:x4t:=v8t q8c j3v q8a z3b
theorem f8d:FO 299 (g9r y1r) :=
 qo z6c Tryz.func299 (And.intro k6p (And.intro k6r trivial)) (b8x q8c j3v q8a z3b)
abbrev z8g:=(Int×Int)×List (Int)×qp×qu×qv×Unit→Option (List (Int)×qp×qu×qv×Unit)
def g9b (f:z8g):FEnt:=⟨k8z,j1z,f⟩
def b1s (f299:x4t):=lk [(299,g9r f299)]
def v8d (f299:x4t):z8g:=fun (x0,x1,x2,x3,x4,_) =>
 (f299
 (((↑(Int.toNat x0.1):Int),(↑(Int.toNat x0.2):Int)),(↑(Int.toNat x0.2):Int),x1,x2,x3,x4,
 ())).bind
 fun v=>some (v.1,v.2.1,v.2.2.1,v.2.2.2.1,())
theorem b8s (f299:x4t):ye (b1s f299) 2 Tryz.f277 .nil k8z j1z (v8d f299):=fun v=>by kernel_rfl
def j3u:z8g:=v8d y1r
theorem f7m:FO 277 (g9b j3u) :=
 q0 (kc f8d kn) Tryz.func277 (b8s y1r)
abbrev q4o:=Int×Int×qp×qu×qv×List (Int)×Unit→Option (Int×Int×qp×qu×qv×List (Int)×Unit)
def y6g (f:q4o):LEnt:=⟨y8d,w2k,f⟩
abbrev j6k:=Int×Int×qp×qu×qv×List (Int)×Unit→Option (List (Int)×Unit)
def y6h (f:j6k):LEnt:=⟨y8d,w2l,f⟩
abbrev x3s:=qp×qu×qv×List (Int)×Unit→Option (List (Int)×Unit)
def g7y (f:x3s):FEnt:=⟨Li9,q0h,f⟩
def v9p (f275:y2j) (f276:q1g) (f277:z8g):=lk [(275,g9a f275),(276,x7s f276),(277,g9b f277)]
theorem y3n:zk Tryz.prog (v9p j9r xb j3u):=(kc f7l (kc x0y (kc f7m kn)))
def j5k (f275:y2j) (f276:q1g) (f277:z8g):q4o:=fun (x0,x1,x2,x3,x4,x5,_) =>
 bif decide (0≤x1)&&decide (x1≤(↑x5.length:Int)) then
 bif decide (0≤x0)&&decide (x0≤x1) then
 (f277 (((↑x0.toNat:Int),(↑(x1.toNat - x0.toNat):Int)),x5,x2,x3,x4,())).bind fun v =>
 some (IntKind.i64.wrap (x1+1),x1,v.2.1,v.2.2.1,v.2.2.2.1,v.1,())
 else none
 else none
def vz:q4o:=j5k j9r xb j3u
theorem k5s:zj 0 (qd (code Tryz.f239) [1,1,1,0,1,0,0,1,0,0,1]) (y6g vz):=zc3 y8d w2k v9p j5k j9r xb j3u y3n
def k0y (f239_c0:q4o):Ann:=(.seq .nil (.seq (.blk (.cut .nil (y6g f239_c0))) .nil))
def j5l (f275:y2j) (f276:q1g) (f277:z8g) (f239_c0:q4o):yq (Int×Int×qp×qu×qv×List (Int)×Unit) (List (Int)×Unit):=fun (x0,x1,x2,x3,x4,x5,_) =>
 bif decide (x1≤(↑x5.length:Int)) then
 bif decide (x1<(↑x5.length:Int)) then
 bif decide (0≤x1)&&decide (x1<(↑x5.length:Int)) then
 (f276 (x2,x3,x4,x5.getD x1.toNat 0,())).bind fun v =>
 bif decide (v.1>0) then some (Sum.inl (x0,IntKind.i64.wrap (x1+1),x2,x3,x4,x5,()))
 else
 (f239_c0 (x0,x1,x2,x3,x4,x5,())).bind fun v =>
 some
 (Sum.inl
 (v.1,IntKind.i64.wrap (v.2.1+1),v.2.2.1,v.2.2.2.1,
 v.2.2.2.2.1,v.2.2.2.2.2.1,()))
 else none
 else
 (f239_c0 (x0,x1,x2,x3,x4,x5,())).bind fun v =>
 some
 (Sum.inl
 (v.1,IntKind.i64.wrap (v.2.1+1),v.2.2.1,v.2.2.2.1,v.2.2.2.2.1,
 v.2.2.2.2.2.1,()))
 else some (Sum.inr (x5,()))
theorem k3c (f275:y2j) (f276:q1g) (f277:z8g) (f239_c0:q4o):AqL (v9p f275 f276 f277) 0 (qd (code Tryz.f239) [1,1,1,0,1,0,0]) (k0y f239_c0) y8d w2l (j5l f275 f276 f277 f239_c0):=fun v=>by kernel_rfl
def z2v:j6k:=qc (j5l j9r xb j3u vz) jd
theorem k5t:jg 0 (qd (code Tryz.f239) [1,1,1,0,1,0,0]) (y6h z2v) :=
 frm y3n (And.intro k5s trivial) (k3c j9r xb j3u vz)
def b3l (f239_l0:j6k):Ann:=(.seq .nil (.seq .nil (.seq .nil (.seq (.seq .nil (.blk (.loop (y6h f239_l0)))) .nil))))
def v7n (f275:y2j) (f276:q1g) (f277:z8g) (f239_l0:j6k):x3s:=fun (x0,x1,x2,x3,_) =>
 (f275 (x3,())).bind fun v=>(f239_l0 (0,0,x0,x1,x2,v.1,())).bind fun v=>some (v.1,())
def y1n:x3s:=v7n j9r xb j3u z2v
theorem f6i:FO 239 (g7y y1n):=y1f Li9 q0h v9p b3l v7n j9r xb j3u z2v y3n Tryz.func239 (And.intro k5t trivial)
abbrev j4d:=Int×Int×Int×Unit→Option (Bool×Unit)
def w7x (f:j4d):FEnt:=⟨f1c,qz,f⟩
def z7t:j4d:=fun (x0,x1,x2,_) =>
 bif decide (x0≥x1) then some (decide (x0<IntKind.i32.wrap (x1+IntKind.i32.wrap x2)),())
 else some (false,())
def zz:j4d:=z7t
theorem w6p:FO 300 (w7x zz):=zq0 f1c qz vf z7t kn Tryz.func300
abbrev z8j:=Int×Unit→Option (List (Int)×Unit)
def g9s (f:z8j):FEnt:=⟨q5i,q0h,f⟩
def v8u:z8j:=fun (x0,_) =>
 bif decide ((IntKind.i32.wrap (x0 - 44032)).tmod 28>0) then
 some
 ([IntKind.i32.wrap (4352+IntKind.i32.wrap ((IntKind.i32.wrap (x0 - 44032)).tdiv 588)),
 IntKind.i32.wrap (4449+(IntKind.i32.wrap ((IntKind.i32.wrap (x0 - 44032)).tdiv 28)).tmod 21)] ++
 [IntKind.i32.wrap (4519+(IntKind.i32.wrap (x0 - 44032)).tmod 28)],
 ())
 else
 some
 ([IntKind.i32.wrap (4352+IntKind.i32.wrap ((IntKind.i32.wrap (x0 - 44032)).tdiv 588)),
 IntKind.i32.wrap (4449+(IntKind.i32.wrap ((IntKind.i32.wrap (x0 - 44032)).tdiv 28)).tmod 21)],
 ())
def vm:z8j:=v8u
theorem f8e:FO 301 (g9s vm):=zq0 q5i q0h vf v8u kn Tryz.func301
abbrev q9z:=List (List (Int))×Int×List (List (Int))×Int×Int×Unit→Option (List (List (Int))×Int×Unit)
def y7g (f:q9z):LEnt:=⟨f1e,f2a,f⟩
abbrev j0a:=List (List (Int))×Int×Int×List (Int)×Unit→Option (List (Int)×Unit)
def y7h (f:j0a):LEnt:=⟨f1f,f2b,f⟩
abbrev z8k:=List (List (Int))×Unit→Option (List (Int)×Unit)
def g9t (f:z8k):FEnt:=⟨f1d,q0h,f⟩
def v9s (f312:y2m):=lk [(312,g9z f312)]
theorem y3q:zk Tryz.prog (v9s j9t):=(kc f8m kn)
def z4n (f312:y2m):yq (List (List (Int))×Int×List (List (Int))×Int×Int×Unit) (List (List (Int))×Int×Unit):=fun (x0,x1,x2,x3,x4,_) =>
 bif decide (x4<x3) then
 bif decide (0≤x4)&&decide (x4<(↑x2.length:Int)) then
 bif
 decide
 (IntKind.i64.wrap (x1+(↑(List.length (x2.getD x4.toNat [])):Int))<0) then
 none
 else
 some
 (Sum.inl
 (x0,IntKind.i64.wrap (x1+(↑(List.length (x2.getD x4.toNat [])):Int)),x2,x3,
 IntKind.i64.wrap (x4+1),()))
 else none
 else some (Sum.inr (x0,x1,()))
def j4v:q9z:=qc (z4n j9t) jd
theorem k6s:jg 0 (qd (code Tryz.f302) [1,1,0,1,0,0]) (y7g j4v):=zl1 f1e f2a v9s z4n j9t y3q
def z4o (f312:y2m):yq (List (List (Int))×Int×Int×List (Int)×Unit) (List (Int)×Unit):=fun (x0,x1,x2,x3,_) =>
 bif decide (x2<x1) then
 bif decide (0≤x2)&&decide (x2<(↑x0.length:Int)) then
 bif decide (x3.length+List.length (x0.getD x2.toNat [])≤140737488355328/4) then
 some
 (Sum.inl (x0,x1,IntKind.i64.wrap (x2+1),x3++x0.getD x2.toNat [],()))
 else none
 else none
 else some (Sum.inr (x3,()))
def j4w:j0a:=qc (z4o j9t) jd
theorem k6t:jg 0 (qd (code Tryz.f302) [1,1,1,1,0,1,0,0]) (y7h j4w):=zl1 f1f f2b v9s z4o j9t y3q
def b4e (f302_l0:q9z) (f302_l1:j0a):Ann:=(.seq .nil (.seq .nil (.seq (.seq .nil (.blk (.loop (y7g f302_l0)))) (.seq .nil (.seq (.seq .nil (.blk (.loop (y7h f302_l1)))) .nil)))))
def v8v (f312:y2m) (f302_l0:q9z) (f302_l1:j0a):z8k:=fun (x0,_) =>
 (f302_l0 (x0,0,x0,(↑x0.length:Int),0,())).bind fun v =>
 (f312 (v.2.1,())).bind fun v1 =>
 (f302_l1 (v.1,(↑(List.length v.1):Int),0,v1.1,())).bind fun v=>some (v.1,())
theorem b8y (f312:y2m) (f302_l0:q9z) (f302_l1:j0a):ye (v9s f312) 0 Tryz.f302 (b4e f302_l0 f302_l1) f1d q0h (v8v f312 f302_l0 f302_l1):=fun v=>by kernel_rfl
def vh:z8k:=v8v j9t j4v j4w
theorem f8f:FO 302 (g9t vh) :=
 qo y3q Tryz.func302 (And.intro k6s (And.intro k6t trivial)) (b8y j9t j4v j4w)
abbrev q4r:=Int×Bool×Bool×qp×qu×qv×Int×Int×Int×Bool×Bool×Unit→Option ((List (Int)×Unit)⊕(Bool×qp×qu×qv×Int×Int×Int×Bool×Bool×Unit))
def y6u (f:q4r):LEnt:=⟨w9s,w9x,f⟩
abbrev q6f:=qp×qu×qv×Int×Bool×Unit→Option (List (Int)×Unit)
def x7t (f:q6f):FEnt:=⟨w9r,q0h,f⟩
def w9k (f216:q9c) (f279:q6f) (f300:j4d) (f301:z8j) (f302:z8k):=lk [(216,x7m f216),(279,x7t f279),(300,w7x f300),(301,g9s f301),(302,g9t f302)]
theorem v2q (G:q6f) (hG:zc Tryz.prog 279 (x7t G)):zk Tryz.prog (w9k zp G zz vm vh):=(kc x0w (kc hG (kc w6p (kc f8e (kc f8f kn)))))
def yh (f216:q9c) (f279:q6f) (f300:j4d) (f301:z8j) (f302:z8k):q4r:=fun (x0,x1,x2,x3,x4,x5,x6,x7,x8,x9,x10,_) =>
 bif x2 then some (Sum.inl ([x0],()))
 else
 bif x8==0 then (f279 (x3,x4,x5,x7,x1,())).bind fun v=>some (Sum.inl (v.1,()))
 else some (Sum.inr (x1,x3,x4,x5,x6,x7,x8,x9,x10,()))
theorem k3k (f216:q9c) (f279:q6f) (f300:j4d) (f301:z8j) (f302:z8k):AqC (w9k f216 f279 f300 f301 f302) 0 (qd (code Tryz.f279) [1,1,0,0,1,1,1]) .nil w9s w9x (yh f216 f279 f300 f301 f302):=fun v=>by kernel_rfl
def q7v (G:q6f):q4r:=yh zp G zz vm vh
theorem k6g (G:q6f) (hG:zc Tryz.prog 279 (x7t G)):zj 0 (qd (code Tryz.f279) [1,1,0,0,1,1,1]) (y6u (q7v G)) :=
 km (ins:=w9s) (os:=w9x) (n := .nil) (F:=(q7v G)) hm hΓ (v2q G hG) (jm _) (k3k zp G zz vm vh)
def b3v (f279_c0:q4r):Ann:=(.seq .nil (.seq .nil (.seq (.blk (.seq .nil (.cond .nil (.cut .nil (y6u f279_c0))))) .nil)))
def j1w (f216:q9c) (f279:q6f) (f300:j4d) (f301:z8j) (f302:z8k) (f279_c0:q4r):q6f:=fun (x0,x1,x2,x3,x4,_) =>
 (f216 (x0,x1,x2,x3,())).bind fun v =>
 (f300 (x3,44032,11172,())).bind fun v1 =>
 bif v1.1 then (f301 (x3,())).bind fun v=>some (v.1,())
 else
 bif !v.2.2.2.2.2.1 then
 (f279_c0
 (x3,x4,true,x0,x1,x2,v.1,v.2.1,v.2.2.1,v.2.2.2.1,
 v.2.2.2.2.1,())).bind
 fun v =>
 Sum.elim (fun v=>some (v.1,()))
 (fun v =>
 (f279 (v.2.1,v.2.2.1,v.2.2.2.1,v.2.2.2.2.2.1,v.1,())).bind
 fun v2 =>
 (f279
 (v.2.1,v.2.2.1,v.2.2.2.1,v.2.2.2.2.2.2.1,v.1,
 ())).bind
 fun v=>(f302 ([v2.1,v.1],())).bind fun v=>some (v.1,()))
 v
 else
 bif v.2.2.2.1 then
 (f279_c0
 (x3,x4,!x4,x0,x1,x2,v.1,v.2.1,v.2.2.1,v.2.2.2.1,
 v.2.2.2.2.1,())).bind
 fun v =>
 Sum.elim (fun v=>some (v.1,()))
 (fun v =>
 (f279
 (v.2.1,v.2.2.1,v.2.2.2.1,v.2.2.2.2.2.1,v.1,
 ())).bind
 fun v2 =>
 (f279
 (v.2.1,v.2.2.1,v.2.2.2.1,v.2.2.2.2.2.2.1,v.1,
 ())).bind
 fun v=>(f302 ([v2.1,v.1],())).bind fun v=>some (v.1,()))
 v
 else
 (f279_c0
 (x3,x4,false,x0,x1,x2,v.1,v.2.1,v.2.2.1,v.2.2.2.1,
 v.2.2.2.2.1,())).bind
 fun v =>
 Sum.elim (fun v=>some (v.1,()))
 (fun v =>
 (f279
 (v.2.1,v.2.2.1,v.2.2.2.1,v.2.2.2.2.2.1,v.1,
 ())).bind
 fun v2 =>
 (f279
 (v.2.1,v.2.2.1,v.2.2.2.1,v.2.2.2.2.2.2.1,v.1,
 ())).bind
 fun v=>(f302 ([v2.1,v.1],())).bind fun v=>some (v.1,()))
 v
theorem b8u (f216:q9c) (f279:q6f) (f300:j4d) (f301:z8j) (f302:z8k) (f279_c0:q4r):ye (w9k f216 f279 f300 f301 f302) 0 Tryz.f279 (b3v f279_c0) w9r q0h (j1w f216 f279 f300 f301 f302 f279_c0):=fun v=>by kernel_rfl
def j9s:q6f:=q0u (fun G=>j1w zp G zz vm vh (q7v G)) jd
theorem f7n:FO 279 (x7t j9s) :=
 y2z (ins:=w9r) (os:=q0h) (F:=fun G=>j1w zp G zz vm vh (q7v G)) (fun G hG=>qo (v2q G hG) Tryz.func279 (And.intro (k6g G hG) trivial) (b8u zp G zz vm vh (q7v G))) jd
abbrev j6l:=Bool×List (Int)×Int×Int×qp×qu×qv×List (Int)×Unit→Option (List (Int)×Unit)
def y6i (f:j6l):LEnt:=⟨f1h,f2c,f⟩
abbrev x3t:=qp×qu×qv×List (Int)×Bool×Unit→Option (List (Int)×Unit)
def g7z (f:x3t):FEnt:=⟨f1g,q0h,f⟩
def w9e (f279:q6f):=lk [(279,x7t f279)]
theorem v2n:zk Tryz.prog (w9e j9s):=(kc f7n kn)
def j5m (f279:q6f):yq (Bool×List (Int)×Int×Int×qp×qu×qv×List (Int)×Unit) (List (Int)×Unit):=fun (x0,x1,x2,x3,x4,x5,x6,x7,_) =>
 bif decide (x3<x2) then
 bif decide (0≤x3)&&decide (x3<(↑x1.length:Int)) then
 (f279 (x4,x5,x6,x1.getD x3.toNat 0,x0,())).bind fun v =>
 bif decide (x7.length+List.length v.1≤140737488355328/4) then
 some (Sum.inl (x0,x1,x2,IntKind.i64.wrap (x3+1),x4,x5,x6,x7++v.1,()))
 else none
 else none
 else some (Sum.inr (x7,()))
def q7n:j6l:=qc (j5m j9s) jd
theorem k5u:jg 0 (qd (code Tryz.f240) [1,1,0,1,0,0]) (y6i q7n):=zl1 f1h f2c w9e j5m j9s v2n
def b3m (f240_l0:j6l):Ann:=(.seq .nil (.seq .nil (.seq (.seq .nil (.blk (.loop (y6i f240_l0)))) .nil)))
def x2r (f279:q6f) (f240_l0:j6l):x3t:=fun (x0,x1,x2,x3,x4,_) =>
 (f240_l0 (x4,x3,(↑x3.length:Int),0,x0,x1,x2,[],())).bind fun v=>some (v.1,())
def x6o:x3t:=x2r j9s q7n
theorem f6j:FO 240 (g7z x6o):=wn f1g q0h w9e b3m x2r j9s q7n v2n Tryz.func240 (And.intro k5u trivial)
abbrev q9r:=Int×Int×Bool×qp×qu×qv×Unit→Option ((Int×Bool×Unit)⊕(Int×Int×qp×qu×qv×Unit))
def y6v (f:q9r):LEnt:=⟨k9a,w2m,f⟩
abbrev z5g:=qp×qu×qv×Int×Int×Unit→Option (Int×Bool×Unit)
def g9c (f:z5g):FEnt:=⟨Li5,Lo6,f⟩
def w9l (f300:j4d) (f303:x4u):=lk [(300,w7x f300),(303,g9u f303)]
theorem v2r:zk Tryz.prog (w9l zz q2g):=(kc w6p (kc f8g kn))
def q3u (f300:j4d) (f303:x4u):q9r:=fun (x0,x1,x2,x3,x4,x5,_) =>
 bif x2 then
 some
 (Sum.inl
 (IntKind.i32.wrap
 (44032 +
 IntKind.i32.wrap
 (IntKind.i32.wrap (IntKind.i32.wrap (IntKind.i32.wrap (IntKind.i32.wrap (x0 - 4352)*21)+x1) - 4449) *
 28)),
 true,()))
 else
 (f300 (x0,44032,11172,())).bind fun v =>
 bif v.1 then
 bif (IntKind.i32.wrap (x0 - 44032)).tmod 28==0 then
 (f300 (x1,4520,27,())).bind fun v =>
 bif v.1 then some (Sum.inl (IntKind.i32.wrap (IntKind.i32.wrap (x0+x1) - 4519),true,()))
 else some (Sum.inr (x0,x1,x3,x4,x5,()))
 else some (Sum.inr (x0,x1,x3,x4,x5,()))
 else some (Sum.inr (x0,x1,x3,x4,x5,()))
theorem k3l (f300:j4d) (f303:x4u):AqC (w9l f300 f303) 0 (qd (code Tryz.f280) [1,0,0,1]) .nil k9a w2m (q3u f300 f303):=fun v=>by kernel_rfl
def ka:q9r:=q3u zz q2g
theorem k6h:zj 0 (qd (code Tryz.f280) [1,0,0,1]) (y6v ka) :=
 frc v2r (k3l zz q2g)
def b3w (f280_c0:q9r):Ann:=(.seq .nil (.seq (.blk (.cut .nil (y6v f280_c0))) .nil))
def x2u (f300:j4d) (f303:x4u) (f280_c0:q9r):z5g:=fun (x0,x1,x2,x3,x4,_) =>
 (f300 (x3,4352,19,())).bind fun v =>
 bif v.1 then
 (f300 (x4,4449,21,())).bind fun v =>
 (f280_c0 (x3,x4,v.1,x0,x1,x2,())).bind fun v =>
 Sum.elim (fun v=>some (v.1,v.2.1,()))
 (fun v =>
 (f303 (v.2.2.1,v.2.2.2.1,v.2.2.2.2.1,v.1,v.2.1,())).bind
 fun v=>some (v.1,v.2.1,()))
 v
 else
 (f280_c0 (x3,x4,false,x0,x1,x2,())).bind fun v =>
 Sum.elim (fun v=>some (v.1,v.2.1,()))
 (fun v =>
 (f303 (v.2.2.1,v.2.2.2.1,v.2.2.2.2.1,v.1,v.2.1,())).bind
 fun v=>some (v.1,v.2.1,()))
 v
def q7w:z5g:=x2u zz q2g ka
theorem f7o:FO 280 (g9c q7w):=j3n Li5 Lo6 w9l b3w x2u zz q2g ka v2r Tryz.func280 (And.intro k6h trivial)
abbrev q4p:=Int×Int×Int×Int×List (Int)×Int×Int×Bool×qp×qu×qv×List (Int)×Unit→Option ((Int×Int×List (Int)×Int×Int×qp×qu×qv×List (Int)×Unit)⊕(Int×Int×Int×Int×List (Int)×Int×Int×qp×qu×qv×List (Int)×Unit))
def y6j (f:q4p):LEnt:=⟨k9b,w2n,f⟩
abbrev j6m:=Int×Int×List (Int)×Int×Int×qp×qu×qv×List (Int)×Unit→Option (List (Int)×Unit)
def y6k (f:j6m):LEnt:=⟨k9c,w2o,f⟩
abbrev x3u:=qp×qu×qv×List (Int)×Unit→Option (List (Int)×Unit)
def g8a (f:x3u):FEnt:=⟨Li9,q0h,f⟩
def v9q (f276:q1g) (f280:z5g):=lk [(276,x7s f276),(280,g9c f280)]
theorem y3o:zk Tryz.prog (v9q xb q7w):=(kc x0y (kc f7o kn))
def q3t (f276:q1g) (f280:z5g):q4p:=fun (x0,x1,x2,x3,x4,x5,x6,x7,x8,x9,x10,x11,_) =>
 bif x7 then
 bif decide (0≤x0)&&decide (x0<(↑x11.length:Int)) then
 (f280 (x8,x9,x10,x11.getD x0.toNat 0,x2,())).bind fun v =>
 bif v.2.1 then
 bif decide (0≤x0)&&decide (x0<(↑x11.length:Int)) then
 some (Sum.inl (x0,x1,x4,x5,x6,x8,x9,x10,x11.set x0.toNat v.1,()))
 else none
 else some (Sum.inr (x0,x1,x2,x3,x4,x5,x6,x8,x9,x10,x11,()))
 else none
 else some (Sum.inr (x0,x1,x2,x3,x4,x5,x6,x8,x9,x10,x11,()))
theorem k3d (f276:q1g) (f280:z5g):AqC (v9q f276 f280) 0 (qd (code Tryz.f241) [1,1,1,0,1,0,0,1,1,0,0,1,1,0,1]) .nil k9b w2n (q3t f276 f280):=fun v=>by kernel_rfl
def q1d:q4p:=q3t xb q7w
theorem k5v:zj 0 (qd (code Tryz.f241) [1,1,1,0,1,0,0,1,1,0,0,1,1,0,1]) (y6j q1d) :=
 frc y3o (k3d xb q7w)
def k0z (f241_c0:q4p):Ann:=(.seq .nil (.seq .nil (.seq (.blk (.seq .nil (.seq .nil (.seq (.cut .nil (y6j f241_c0)) .nil)))) .nil)))
def j5n (f276:q1g) (f280:z5g) (f241_c0:q4p):yq (Int×Int×List (Int)×Int×Int×qp×qu×qv×List (Int)×Unit) (List (Int)×Unit):=fun (x0,x1,x2,x3,x4,x5,x6,x7,x8,_) =>
 bif decide (x4<x3) then
 bif decide (0≤x4)&&decide (x4<(↑x2.length:Int)) then
 (f276 (x5,x6,x7,x2.getD x4.toNat 0,())).bind fun v =>
 bif decide (x0≥0) then
 bif decide (x1<v.1) then
 (f241_c0
 (x0,x1,x2.getD x4.toNat 0,v.1,x2,x3,x4,true,x5,x6,x7,x8,
 ())).bind
 fun v =>
 Sum.elim
 (fun v =>
 some
 (Sum.inl
 (v.1,v.2.1,v.2.2.1,v.2.2.2.1,
 IntKind.i64.wrap (v.2.2.2.2.1+1),v.2.2.2.2.2.1,
 v.2.2.2.2.2.2.1,v.2.2.2.2.2.2.2.1,
 v.2.2.2.2.2.2.2.2.1,())))
 (fun v =>
 bif
 decide
 (List.length v.2.2.2.2.2.2.2.2.2.2.1+[v.2.2.1].length ≤
 140737488355328/4) then
 bif v.2.2.2.1==0 then
 some
 (Sum.inl
 (IntKind.i64.wrap
 ((↑(v.2.2.2.2.2.2.2.2.2.2.1++[v.2.2.1]).length:Int) -
 1),
 0,v.2.2.2.2.1,v.2.2.2.2.2.1,
 IntKind.i64.wrap (v.2.2.2.2.2.2.1+1),v.2.2.2.2.2.2.2.1,
 v.2.2.2.2.2.2.2.2.1,v.2.2.2.2.2.2.2.2.2.1,
 v.2.2.2.2.2.2.2.2.2.2.1++[v.2.2.1],()))
 else
 some
 (Sum.inl
 (v.1,if v.2.2.2.1>v.2.1 then v.2.2.2.1 else v.2.1,
 v.2.2.2.2.1,v.2.2.2.2.2.1,
 IntKind.i64.wrap (v.2.2.2.2.2.2.1+1),v.2.2.2.2.2.2.2.1,
 v.2.2.2.2.2.2.2.2.1,v.2.2.2.2.2.2.2.2.2.1,
 v.2.2.2.2.2.2.2.2.2.2.1++[v.2.2.1],()))
 else none)
 v
 else
 (f241_c0
 (x0,x1,x2.getD x4.toNat 0,v.1,x2,x3,x4,
 x0==IntKind.i64.wrap ((↑x8.length:Int) - 1),x5,x6,x7,x8,())).bind
 fun v =>
 Sum.elim
 (fun v =>
 some
 (Sum.inl
 (v.1,v.2.1,v.2.2.1,v.2.2.2.1,
 IntKind.i64.wrap (v.2.2.2.2.1+1),v.2.2.2.2.2.1,
 v.2.2.2.2.2.2.1,v.2.2.2.2.2.2.2.1,
 v.2.2.2.2.2.2.2.2.1,())))
 (fun v =>
 bif
 decide
 (List.length v.2.2.2.2.2.2.2.2.2.2.1+[v.2.2.1].length ≤
 140737488355328/4) then
 bif v.2.2.2.1==0 then
 some
 (Sum.inl
 (IntKind.i64.wrap
 ((↑(v.2.2.2.2.2.2.2.2.2.2.1++[v.2.2.1]).length:Int) -
 1),
 0,v.2.2.2.2.1,v.2.2.2.2.2.1,
 IntKind.i64.wrap (v.2.2.2.2.2.2.1+1),v.2.2.2.2.2.2.2.1,
 v.2.2.2.2.2.2.2.2.1,v.2.2.2.2.2.2.2.2.2.1,
 v.2.2.2.2.2.2.2.2.2.2.1++[v.2.2.1],()))
 else
 some
 (Sum.inl
 (v.1,if v.2.2.2.1>v.2.1 then v.2.2.2.1 else v.2.1,
 v.2.2.2.2.1,v.2.2.2.2.2.1,
 IntKind.i64.wrap (v.2.2.2.2.2.2.1+1),v.2.2.2.2.2.2.2.1,
 v.2.2.2.2.2.2.2.2.1,v.2.2.2.2.2.2.2.2.2.1,
 v.2.2.2.2.2.2.2.2.2.2.1++[v.2.2.1],()))
 else none)
 v
 else
 (f241_c0
 (x0,x1,x2.getD x4.toNat 0,v.1,x2,x3,x4,false,x5,x6,x7,x8,())).bind
 fun v =>
 Sum.elim
 (fun v =>
 some
 (Sum.inl
 (v.1,v.2.1,v.2.2.1,v.2.2.2.1,
 IntKind.i64.wrap (v.2.2.2.2.1+1),v.2.2.2.2.2.1,
 v.2.2.2.2.2.2.1,v.2.2.2.2.2.2.2.1,
 v.2.2.2.2.2.2.2.2.1,())))
 (fun v =>
 bif
 decide
 (List.length v.2.2.2.2.2.2.2.2.2.2.1+[v.2.2.1].length ≤
 140737488355328/4) then
 bif v.2.2.2.1==0 then
 some
 (Sum.inl
 (IntKind.i64.wrap
 ((↑(v.2.2.2.2.2.2.2.2.2.2.1++[v.2.2.1]).length:Int) - 1),
 0,v.2.2.2.2.1,v.2.2.2.2.2.1,
 IntKind.i64.wrap (v.2.2.2.2.2.2.1+1),v.2.2.2.2.2.2.2.1,
 v.2.2.2.2.2.2.2.2.1,v.2.2.2.2.2.2.2.2.2.1,
 v.2.2.2.2.2.2.2.2.2.2.1++[v.2.2.1],()))
 else
 some
 (Sum.inl
 (v.1,if v.2.2.2.1>v.2.1 then v.2.2.2.1 else v.2.1,
 v.2.2.2.2.1,v.2.2.2.2.2.1,
 IntKind.i64.wrap (v.2.2.2.2.2.2.1+1),v.2.2.2.2.2.2.2.1,
 v.2.2.2.2.2.2.2.2.1,v.2.2.2.2.2.2.2.2.2.1,
 v.2.2.2.2.2.2.2.2.2.2.1++[v.2.2.1],()))
 else none)
 v
 else none
 else some (Sum.inr (x8,()))
theorem k3e (f276:q1g) (f280:z5g) (f241_c0:q4p):AqL (v9q f276 f280) 0 (qd (code Tryz.f241) [1,1,1,0,1,0,0]) (k0z f241_c0) k9c w2o (j5n f276 f280 f241_c0):=fun v=>by kernel_rfl
def q7o:j6m:=qc (j5n xb q7w q1d) jd
theorem k5w:jg 0 (qd (code Tryz.f241) [1,1,1,0,1,0,0]) (y6k q7o) :=
 frm y3o (And.intro k5v trivial) (k3e xb q7w q1d)
def b3n (f241_l0:j6m):Ann:=(.seq .nil (.seq .nil (.seq .nil (.seq (.seq .nil (.blk (.loop (y6k f241_l0)))) .nil))))
def x2s (f276:q1g) (f280:z5g) (f241_l0:j6m):x3u:=fun (x0,x1,x2,x3,_) =>
 (f241_l0 (-1,0,x3,(↑x3.length:Int),0,x0,x1,x2,[],())).bind fun v=>some (v.1,())
def x6p:x3u:=x2s xb q7w q7o
theorem f6k:FO 241 (g8a x6p):=j3n Li9 q0h v9q b3n x2s xb q7w q7o y3o Tryz.func241 (And.intro k5w trivial)
abbrev q4b:=Int×Bool×Unit→Option ((Int×Int×Unit)⊕Unit)
def y4t (f:q4b):LEnt:=⟨f0q,k0a,f⟩
abbrev q8n:=Int×Bool×Unit→Option ((Int×Int×Unit)⊕Unit)
def y4u (f:q8n):LEnt:=⟨f0r,k0a,f⟩
abbrev j7q:=Int×Unit→Option (Int×Int×Unit)
def g6n (f:j7q):FEnt:=⟨j3x,f1v,f⟩
def q3o:q4b:=fun (x0,x1,_) =>
 bif x1 then some (Sum.inl (2,IntKind.i32.wrap (intBits BinOp.and IntKind.u8 x0 15),()))
 else
 bif decide (x0≥240) then
 bif decide (x0<245) then some (Sum.inl (3,IntKind.i32.wrap (intBits BinOp.and IntKind.u8 x0 7),()))
 else some (Sum.inr ())
 else some (Sum.inr ())
def q0z:q4b:=q3o
theorem k4f:zj 0 (qd (code Tryz.f121) [1,0,0,1,1,1,1,1]) (y4t q0z):=zc0 f0q k0a vf q3o kn
def k0m (f121_c0:q4b):Ann:=(.cond .nil (.cut .nil (y4t f121_c0)))
def q3p (f121_c0:q4b):q8n:=fun (x0,x1,_) =>
 bif x1 then some (Sum.inl (1,IntKind.i32.wrap (intBits BinOp.and IntKind.u8 x0 31),()))
 else
 bif decide (x0≥224) then
 (f121_c0 (x0,decide (x0<240),())).bind fun v =>
 Sum.elim (fun v=>some (Sum.inl (v.1,v.2.1,()))) (fun v=>some (Sum.inr ())) v
 else
 (f121_c0 (x0,false,())).bind fun v =>
 Sum.elim (fun v=>some (Sum.inl (v.1,v.2.1,()))) (fun v=>some (Sum.inr ())) v
theorem k2i (f121_c0:q4b):AqC vf 0 (qd (code Tryz.f121) [1,0,0,1,1,1]) (k0m f121_c0) f0r k0a (q3p f121_c0):=fun v=>by kernel_rfl
def q1a:q8n:=q3p q0z
theorem k4g:zj 0 (qd (code Tryz.f121) [1,0,0,1,1,1]) (y4u q1a) :=
 frd kn (And.intro k4f trivial) (k2i q0z)
def b2m (f121_c1:q8n):Ann:=(.seq .nil (.seq (.blk (.seq .nil (.cond .nil (.cut .nil (y4u f121_c1))))) .nil))
def x2k (f121_c1:q8n):j7q:=fun (x0,_) =>
 bif decide (x0<128) then some (0,IntKind.i32.wrap x0,())
 else
 bif decide (x0≥194) then
 (f121_c1 (x0,decide (x0<224),())).bind fun v =>
 Sum.elim (fun v=>some (v.1,v.2.1,())) (fun v=>some (-1,0,())) v
 else
 (f121_c1 (x0,false,())).bind fun v =>
 Sum.elim (fun v=>some (v.1,v.2.1,())) (fun v=>some (-1,0,())) v
def vy:j7q:=x2k q1a
theorem f4t:FO 121 (g6n vy):=q5v j3x f1v vf b2m x2k q1a kn Tryz.func121 (And.intro k4g trivial)
abbrev j8c:=qa×Int×Int×Int×Int×List (Int)×Unit→Option ((qa×Int×Int×Int×List (Int)×Unit)⊕(Int×List (Int)×Unit))
def x8c (f:j8c):LEnt:=⟨f0s,f1x,f⟩
abbrev j8d:=qa×Int×List (Int)×Unit→Option ((List (Int)×Unit)⊕(Int×List (Int)×Unit))
def x8d (f:j8d):LEnt:=⟨f0t,f1y,f⟩
abbrev j8b:=Int×List (Int)×Unit→Option (Int×List (Int)×Unit)
def x8b (f:j8b):LEnt:=⟨x2w,k0b,f⟩
abbrev T83:=qa×Unit→Option (List (Int)×Int×Unit)
def E83 (f:T83):FEnt:=⟨xh,f1w,f⟩
def K83 (f121:j7q) (f122:q8o):=lk [(121,g6n f121),(122,w6y f122)]
theorem y9v:zk Tryz.prog (K83 vy yy):=(kc f4t (kc w5t kn))
def q2k (f121:j7q) (f122:q8o):yq (qa×Int×Int×Int×Int×List (Int)×Unit) ((qa×Int×Int×Int×List (Int)×Unit)⊕(Int×List (Int)×Unit)):=fun (x0,x1,x2,x3,x4,x5,_) =>
 bif decide (x4≤IntKind.i64.wrap (x3+x1)) then
 bif decide (0≤x4)&&decide (x4<(↑x0.length:Int)) then
 bif intBits BinOp.andNot IntKind.u8 (↑(x0.getD x4.toNat 0).toNat:Int) 63 != 128 then
 some (Sum.inr (Sum.inr (x3,x5,())))
 else
 bif decide (0≤x4)&&decide (x4<(↑x0.length:Int)) then
 some
 (Sum.inl
 (x0,x1,
 intBits BinOp.or IntKind.i32 (IntKind.i32.wrap (x2*2^min 6 IntKind.i32.bits))
 (IntKind.i32.wrap (intBits BinOp.and IntKind.u8 (↑(x0.getD x4.toNat 0).toNat:Int) 63)),
 x3,IntKind.i64.wrap (x4+1),x5,()))
 else none
 else none
 else some (Sum.inr (Sum.inl (x0,x1,x2,x3,x5,())))
def q2i:j8c:=qc (q2k vy yy) jd
theorem g4e:jg 0 (qd (code Tryz.f83) [1,0,1,1,1,1,0,0,0,1,0,1,1,0,1,0,0]) (x8c q2i):=zl2 f0s f1x K83 q2k vy yy y9v
def g0g (f83_l0:j8c):Ann:=(.seq .nil (.blk (.seq .nil (.seq .nil (.seq (.seq .nil (.blk (.loop (x8c f83_l0)))) .nil)))))
def vo (f121:j7q) (f122:q8o) (f83_l0:j8c):yq (qa×Int×List (Int)×Unit) ((List (Int)×Unit)⊕(Int×List (Int)×Unit)):=fun (x0,x1,x2,_) =>
 bif decide (x1<(↑x0.length:Int)) then
 bif decide (0≤x1)&&decide (x1<(↑x0.length:Int)) then
 (f121 ((↑(x0.getD x1.toNat 0).toNat:Int),())).bind fun v =>
 bif decide (v.1<0) then some (Sum.inr (Sum.inr (x1,x2,())))
 else
 bif decide (IntKind.i64.wrap ((↑x0.length:Int) - x1)≤v.1) then
 some (Sum.inr (Sum.inr (x1,x2,())))
 else
 (f83_l0 (x0,v.1,v.2.1,x1,IntKind.i64.wrap (x1+1),x2,())).bind fun v =>
 Sum.elim
 (fun v =>
 (f122 (v.2.2.1,())).bind fun v1 =>
 bif v1.1 != IntKind.i64.wrap (v.2.1+1) then
 some (Sum.inr (Sum.inr (v.2.2.2.1,v.2.2.2.2.1,())))
 else
 bif
 decide
 (List.length v.2.2.2.2.1+[v.2.2.1].length≤140737488355328/4) then
 some
 (Sum.inl
 (v.1,IntKind.i64.wrap (v.2.2.2.1+IntKind.i64.wrap (v.2.1+1)),
 v.2.2.2.2.1++[v.2.2.1],()))
 else none)
 (fun v=>some (Sum.inr (Sum.inr (v.1,v.2.1,())))) v
 else none
 else some (Sum.inr (Sum.inl (x2,())))
theorem g3n (f121:j7q) (f122:q8o) (f83_l0:j8c):AqL (K83 f121 f122) 0 (qd (code Tryz.f83) [1,0,1,1,1,1,0,0,0]) (g0g f83_l0) f0t f1y (vo f121 f122 f83_l0):=fun v=>by kernel_rfl
def q6b:j8d:=qc (vo vy yy q2i) jd
theorem g4f:jg 0 (qd (code Tryz.f83) [1,0,1,1,1,1,0,0,0]) (x8d q6b) :=
 frm y9v (And.intro g4e trivial) (g3n vy yy q2i)
def y1z (f121:j7q) (f122:q8o):yq (Int×List (Int)×Unit) (Int×List (Int)×Unit):=fun (x0,x1,_) =>
 some (Sum.inr (x0,x1,()))
theorem g3m (f121:j7q) (f122:q8o) (v:HS x2w):aev Γ (K83 f121 f122) 0 ((findLabel (qd (code Tryz.f83) [1,0]) 0).getD .skip) .nil (v5k x2w v) (wy 0 0 [] x2w k0b)=y1z f121 f122 v:=by kernel_rfl
def q2h:j8b:=qc (y1z vy yy) jd
theorem g4d:js Tryz.prog 0 (jp Tryz.prog (qd (code Tryz.f83) [1,0]) 0) (x8b q2h) :=
 yb (ins:=x2w) (os:=k0b) (C:=q2h) (q6i (ins:=x2w) (os:=k0b) (n := .nil) (ls:=[]) (F:=y1z vy yy) (rest:=((findLabel (qd (code Tryz.f83) [1,0]) 0).getD .skip)) hm hΓ y9v (fun _=>jd) (by kernel_rfl) (jm _) j0s (g3m vy yy)) rfl
def N83 (f83_g0:j8b) (f83_l1:j8d):Ann:=(.seq .nil (.scope (.seq .nil (.seq .nil (.seq .nil (.seq .nil (.seq (.blk (.loop (x8d f83_l1))) .nil))))) [(0,(x8b f83_g0))]))
def F83 (f121:j7q) (f122:q8o) (f83_g0:j8b) (f83_l1:j8d):T83:=fun (x0,_) =>
 (f83_l1 (x0,0,[],())).bind fun v =>
 Sum.elim (fun v=>some (v.1,-1,()))
 (fun v=>(f83_g0 (v.1,v.2.1,())).bind fun v=>some (v.2.1,v.1,())) v
theorem h83 (f121:j7q) (f122:q8o) (f83_g0:j8b) (f83_l1:j8d):ye (K83 f121 f122) 0 Tryz.f83 (N83 f83_g0 f83_l1) xh f1w (F83 f121 f122 f83_g0 f83_l1):=fun v=>by kernel_rfl
def C83:T83:=F83 vy yy q2h q6b
theorem y0g:FO 83 (E83 C83) :=
 qo y9v Tryz.func83 (And.intro g4f (And.intro g4d trivial)) (h83 vy yy q2h q6b)
abbrev x9h:=qp×qu×qv×qa×Bool×Bool×Unit→Option (qa×Bool×Unit)
def g7p (f:x9h):FEnt:=⟨k9d,q6c,f⟩
def b0u (f178:j4a) (f239:x3s) (f240:x3t) (f241:x3u) (f83:T83):=lk [(178,v6c f178),(239,g7y f239),(240,g7z f240),(241,g8a f241),(83,E83 f83)]
def v7d (f178:j4a) (f239:x3s) (f240:x3t) (f241:x3u) (f83:T83):x9h:=fun (x0,x1,x2,x3,x4,x5,_) =>
 (f83 (x3,())).bind fun v =>
 bif decide (v.2.1≥0) then some ([],false,())
 else
 (f240 (x0,x1,x2,v.1,x4,())).bind fun v =>
 (f239 (x0,x1,x2,v.1,())).bind fun v =>
 bif x5 then
 (f241 (x0,x1,x2,v.1,())).bind fun v =>
 (f178 (v.1,())).bind fun v=>some (v.1,v.2.1,())
 else (f178 (v.1,())).bind fun v=>some (v.1,v.2.1,())
theorem b7y (f178:j4a) (f239:x3s) (f240:x3t) (f241:x3u) (f83:T83):ye (b0u f178 f239 f240 f241 f83) 0 Tryz.f213 .nil k9d q6c (v7d f178 f239 f240 f241 f83):=fun v=>by kernel_rfl
def y1l:x9h:=v7d z2i y1n x6o x6p C83
theorem f5z:FO 213 (g7p y1l) :=
 q0 (kc v4d (kc f6i (kc f6j (kc f6k (kc y0g kn))))) Tryz.func213 (b7y z2i y1n x6o x6p C83)
abbrev z8d:=qp×qu×qv×qa×Unit→Option (qa×Bool×Unit)
def w7f (f:z8d):FEnt:=⟨xj,q6c,f⟩
def b0m (f213:x9h):=lk [(213,g7p f213)]
def v6x (f213:x9h):z8d:=fun (x0,x1,x2,x3,_) =>
 (f213 (x0,x1,x2,x3,false,true,())).bind fun v=>some (v.1,v.2.1,())
def z2j:z8d:=v6x y1l
theorem w5z:FO 181 (w7f z2j):=ww xj q6c b0m v6x y1l (kc f5z kn) Tryz.func181
abbrev j9y:=qp×qu×qv×qa×Unit→Option (qa×Bool×Unit)
def w7c (f:j9y):FEnt:=⟨xj,q6c,f⟩
def b0b (f178:j4a) (f179:x3i) (f180:x3j) (f181:z8d) (f83:T83):=lk [(178,v6c f178),(179,g7d f179),(180,g7e f180),(181,w7f f181),(83,E83 f83)]
def x8m (f178:j4a) (f179:x3i) (f180:x3j) (f181:z8d) (f83:T83):j9y:=fun (x0,x1,x2,x3,_) =>
 (f83 (x3,())).bind fun v =>
 bif decide (v.2.1≥0) then some ([],false,())
 else
 (f180 (x0,x1,x2,v.1,())).bind fun v =>
 (f179 (x0,x1,x2,v.1,())).bind fun v =>
 (f178 (v.1,())).bind fun v =>
 (f181 (x0,x1,x2,v.1,())).bind fun v=>some (v.1,v.2.1,())
theorem b7t (f178:j4a) (f179:x3i) (f180:x3j) (f181:z8d) (f83:T83):ye (b0b f178 f179 f180 f181 f83) 0 Tryz.f151 .nil xj q6c (x8m f178 f179 f180 f181 f83):=fun v=>by kernel_rfl
def j1o:j9y:=x8m z2i x1t x1u z2j C83
theorem v3y:FO 151 (w7c j1o) :=
 q0 (kc v4d (kc f5m (kc f5o (kc w5z (kc y0g kn))))) Tryz.func151 (b7t z2i x1t x1u z2j C83)
abbrev z5a:=qa×Int×Int×Unit→Option (Unit⊕(Int×Unit))
def x7n (f:z5a):LEnt:=⟨k9e,w2p,f⟩
abbrev T21:=qa×Unit→Option (Int×Unit)
def E21 (f:T21):FEnt:=⟨xh,jf,f⟩
def y1x:yq (qa×Int×Int×Unit) (Unit⊕(Int×Unit)):=fun (x0,x1,x2,_) =>
 bif decide (x2<x1) then
 bif decide (0≤x2)&&decide (x2<(↑x0.length:Int)) then
 bif decide ((↑(x0.getD x2.toNat 0).toNat:Int)≥128) then some (Sum.inr (Sum.inr (x2,())))
 else some (Sum.inl (x0,x1,IntKind.i64.wrap (x2+1),()))
 else none
 else some (Sum.inr (Sum.inl ()))
def z2r:z5a:=qc (y1x) jd
theorem g3x:jg 0 (qd (code Tryz.f21) [1,0,1,0,0]) (x7n z2r):=zl0 k9e w2p vf y1x kn
def N21 (f21_l0:z5a):Ann:=(.seq .nil (.seq (.seq .nil (.blk (.loop (x7n f21_l0)))) .nil))
def F21 (f21_l0:z5a):T21:=fun (x0,_) =>
 (f21_l0 (x0,(↑x0.length:Int),0,())).bind fun v =>
 Sum.elim (fun v=>some (-1,())) (fun v=>some (v.1,())) v
def C21:T21:=F21 z2r
theorem v4e:FO 21 (E21 C21):=q5v xh jf vf N21 F21 z2r kn Tryz.func21 (And.intro g3x trivial)
abbrev j6n:=Int×Int×List (Int)×Int×Int×Unit→Option (Int×Unit)
def y6l (f:j6n):LEnt:=⟨k9g,w2q,f⟩
abbrev q9j:=List (Int)×Int×Unit→Option (Int×Unit)
def g8f (f:q9j):FEnt:=⟨k9f,z7v,f⟩
def z4b:yq (Int×Int×List (Int)×Int×Int×Unit) (Int×Unit):=fun (x0,x1,x2,x3,x4,_) =>
 bif decide (x4<x3) then
 bif decide (0≤x4)&&decide (x4<(↑x2.length:Int)) then
 bif decide (x2.getD x4.toNat 0≥x0) then
 bif decide (x1<0) then
 some (Sum.inl (x0,x2.getD (x4.toNat) 0,x2,x3,IntKind.i64.wrap (x4+1),()))
 else
 bif decide (x2.getD x4.toNat 0<x1) then
 some (Sum.inl (x0,x2.getD (x4.toNat) 0,x2,x3,IntKind.i64.wrap (x4+1),()))
 else some (Sum.inl (x0,x1,x2,x3,IntKind.i64.wrap (x4+1),()))
 else some (Sum.inl (x0,x1,x2,x3,IntKind.i64.wrap (x4+1),()))
 else none
 else some (Sum.inr (x1,()))
def j4p:j6n:=qc (z4b) jd
theorem k5x:jg 0 (qd (code Tryz.f250) [1,1,0,1,0,0]) (y6l j4p):=zl0 k9g w2q vf z4b kn
def b3o (f250_l0:j6n):Ann:=(.seq .nil (.seq .nil (.seq (.seq .nil (.blk (.loop (y6l f250_l0)))) .nil)))
def v7u (f250_l0:j6n):q9j:=fun (x0,x1,_) =>
 (f250_l0 (x1,-1,x0,(↑x0.length:Int),0,())).bind fun v=>some (v.1,())
def q5z:q9j:=v7u j4p
theorem f6p:FO 250 (g8f q5z):=q5v k9f z7v vf b3o v7u j4p kn Tryz.func250 (And.intro k5x trivial)
abbrev q9s:=Int×Int×Unit→Option (Int×Unit)
def w7w (f:q9s):FEnt:=⟨k9h,jf,f⟩
def v8o:q9s:=fun (x0,x1,_) =>
 some
 (if (if 26<IntKind.i64.wrap (x0 - x1) then 26 else IntKind.i64.wrap (x0 - x1))>1 then
 if 26<IntKind.i64.wrap (x0 - x1) then 26 else IntKind.i64.wrap (x0 - x1)
 else 1,
 ())
def q2f:q9s:=v8o
theorem w6o:FO 290 (w7w q2f):=zq0 k9h jf vf v8o kn Tryz.func290
abbrev q9t:=Int×Bool×Unit→Option ((Int×Bool×Unit)⊕Unit)
def y6y (f:q9t):LEnt:=⟨k9j,w2s,f⟩
abbrev z8i:=Int×Unit→Option (Int×Bool×Unit)
def g9l (f:z8i):FEnt:=⟨k9i,w2r,f⟩
def j5s:q9t:=fun (x0,x1,_) =>
 bif x1 then some (Sum.inl (IntKind.u8.wrap (97+IntKind.u8.wrap x0),true,()))
 else
 bif decide (x0≥26) then
 bif decide (x0<36) then
 some (Sum.inl (IntKind.u8.wrap (48+IntKind.u8.wrap (IntKind.i64.wrap (x0 - 26))),true,()))
 else some (Sum.inr ())
 else some (Sum.inr ())
def q7x:q9t:=j5s
theorem k6k:zj 0 (qd (code Tryz.f291) [1,0,0,1]) (y6y q7x):=zc0 k9j w2s vf j5s kn
def b3z (f291_c0:q9t):Ann:=(.seq .nil (.seq (.blk (.cut .nil (y6y f291_c0))) .nil))
def v8p (f291_c0:q9t):z8i:=fun (x0,_) =>
 bif decide (x0≥0) then
 (f291_c0 (x0,decide (x0<26),())).bind fun v =>
 Sum.elim (fun v=>some (v.1,v.2.1,())) (fun v=>some (0,false,())) v
 else
 (f291_c0 (x0,false,())).bind fun v =>
 Sum.elim (fun v=>some (v.1,v.2.1,())) (fun v=>some (0,false,())) v
def z2z:z8i:=v8p q7x
theorem f7x:FO 291 (g9l z2z):=q5v k9i w2r vf b3z v8p q7x kn Tryz.func291 (And.intro k6k trivial)
abbrev q9l:=Int×Int×Int×qa×Unit→Option (qa×Unit)
def y6m (f:q9l):LEnt:=⟨y8e,y8t,f⟩
abbrev q9k:=Int×Int×qa×Unit→Option (qa×Unit)
def g8g (f:q9k):FEnt:=⟨k9k,w2t,f⟩
def w9h (f290:q9s) (f291:z8i):=lk [(290,w7w f290),(291,g9l f291)]
theorem v2o:zk Tryz.prog (w9h q2f z2z):=(kc w6o (kc f7x kn))
def j5o (f290:q9s) (f291:z8i):yq (Int×Int×Int×qa×Unit) (qa×Unit):=fun (x0,x1,x2,x3,_) =>
 (f290 (x2,x1,())).bind fun v =>
 bif decide (x0<v.1) then
 (f291 (x0,())).bind fun v =>
 bif decide (x3.length+[UInt8.ofNat (Int.toNat v.1)].length≤140737488355328/1) then
 some (Sum.inr (x3++[UInt8.ofNat (Int.toNat v.1)],()))
 else none
 else
 bif IntKind.i64.wrap (36 - v.1) != 0 then
 (f291
 (IntKind.i64.wrap (v.1+(IntKind.i64.wrap (x0 - v.1)).tmod (IntKind.i64.wrap (36 - v.1))),
 ())).bind
 fun v1 =>
 bif decide (x3.length+[UInt8.ofNat (Int.toNat v1.1)].length≤140737488355328/1) then
 bif IntKind.i64.wrap (36 - v.1) != 0 then
 some
 (Sum.inl
 (IntKind.i64.wrap ((IntKind.i64.wrap (x0 - v.1)).tdiv (IntKind.i64.wrap (36 - v.1))),x1,
 IntKind.i64.wrap (x2+36),x3++[UInt8.ofNat (Int.toNat v1.1)],()))
 else none
 else none
 else none
theorem k3f (f290:q9s) (f291:z8i):AqL (w9h f290 f291) 1 (qd (code Tryz.f251) [1,1,0,0]) .nil y8e y8t (j5o f290 f291):=fun v=>by kernel_rfl
def q3l:q9l:=qc (j5o q2f z2z) jd
theorem k5y:js Tryz.prog 1 (q2m Tryz.prog (qd (code Tryz.f251) [1,1,0,0])) (y6m q3l) :=
 yb (ins:=y8e) (os:=y8t) (C:=q3l) (z9f (ins:=y8e) (os:=y8t) (n := .nil) (F:=j5o q2f z2z) hm hΓ v2o (fun _=>jd) (jm _) (k3f q2f z2z)) rfl
def b3p (f251_l0:q9l):Ann:=(.seq .nil (.seq .nil (.blk (.peel .nil (y6m f251_l0)))))
def v7v (f290:q9s) (f291:z8i) (f251_l0:q9l):q9k:=fun (x0,x1,x2,_) =>
 (f290 (36,x1,())).bind fun v =>
 bif decide (x0<v.1) then
 (f291 (x0,())).bind fun v =>
 bif decide (x2.length+[UInt8.ofNat (Int.toNat v.1)].length≤140737488355328/1) then
 some (x2++[UInt8.ofNat (Int.toNat v.1)],())
 else none
 else
 bif IntKind.i64.wrap (36 - v.1) != 0 then
 (f291
 (IntKind.i64.wrap (v.1+(IntKind.i64.wrap (x0 - v.1)).tmod (IntKind.i64.wrap (36 - v.1))),
 ())).bind
 fun v1 =>
 bif decide (x2.length+[UInt8.ofNat (Int.toNat v1.1)].length≤140737488355328/1) then
 bif IntKind.i64.wrap (36 - v.1) != 0 then
 (f251_l0
 (IntKind.i64.wrap ((IntKind.i64.wrap (x0 - v.1)).tdiv (IntKind.i64.wrap (36 - v.1))),x1,
 IntKind.i64.wrap (36+36),x2++[UInt8.ofNat (Int.toNat v1.1)],())).bind
 fun v=>some (v.1,())
 else none
 else none
 else none
theorem b8e (f290:q9s) (f291:z8i) (f251_l0:q9l):ye (w9h f290 f291) 1 Tryz.f251 (b3p f251_l0) k9k w2t (v7v f290 f291 f251_l0):=fun v=>by kernel_rfl
def q6a:q9k:=v7v q2f z2z q3l
theorem f6q:FO 251 (g8g q6a) :=
 qo v2o Tryz.func251 (And.intro k5y trivial) (b8e q2f z2z q3l)
abbrev q9n:=Int×Int×Unit→Option (Int×Int×Unit)
def y6o (f:q9n):LEnt:=⟨k9m,w2u,f⟩
abbrev q9m:=Int×Int×Unit→Option (Int×Unit)
def y6n (f:q9m):LEnt:=⟨k9n,w2v,f⟩
abbrev q0i:=Int×Int×Bool×Unit→Option (Int×Unit)
def w7r (f:q0i):FEnt:=⟨k9l,jf,f⟩
def z4c:yq (Int×Int×Unit) (Int×Int×Unit):=fun (x0,x1,_) =>
 bif decide (x0>455) then some (Sum.inl (IntKind.i64.wrap (x0.tdiv 35),IntKind.i64.wrap (x1+36),()))
 else some (Sum.inr (x0,x1,()))
def q7r:q9n:=qc (z4c) jd
theorem k6a:jg 0 (qd (code Tryz.f252) [1,1,1,1,0,0,0]) (y6o q7r):=zl0 k9m w2u vf z4c kn
def k1a (f252_l0:q9n):Ann:=(.seq .nil (.seq .nil (.seq (.blk (.loop (y6o f252_l0))) .nil)))
def j5p (f252_l0:q9n):q9m:=fun (x0,x1,_) =>
 bif (if x1>1 then x1 else 1) != 0 then
 (f252_l0 (IntKind.i64.wrap (x0+IntKind.i64.wrap (x0.tdiv (if x1>1 then x1 else 1))),0,())).bind fun v =>
 bif IntKind.i64.wrap (v.1+38) != 0 then
 some
 (IntKind.i64.wrap
 (v.2.1+IntKind.i64.wrap ((IntKind.i64.wrap (36*v.1)).tdiv (IntKind.i64.wrap (v.1+38)))),
 ())
 else none
 else none
theorem k3g (f252_l0:q9n):AqC vf 0 (qd (code Tryz.f252) [1,1]) (k1a f252_l0) k9n w2v (j5p f252_l0):=fun v=>by kernel_rfl
def q7q:q9m:=j5p q7r
theorem k5z:zj 0 (qd (code Tryz.f252) [1,1]) (y6n q7q) :=
 frd kn (And.intro k6a trivial) (k3g q7r)
def b3q (f252_c0:q9m):Ann:=(.seq .nil (.cut .nil (y6n f252_c0)))
def v7w (f252_c0:q9m):q0i:=fun (x0,x1,x2,_) =>
 bif x2 then (f252_c0 (IntKind.i64.wrap (x0.tdiv 700),x1,())).bind fun v=>some (v.1,())
 else (f252_c0 (IntKind.i64.wrap (x0.tdiv 2),x1,())).bind fun v=>some (v.1,())
def wo:q0i:=v7w q7q
theorem w6k:FO 252 (w7r wo):=q5v k9l jf vf b3q v7w q7q kn Tryz.func252 (And.intro k5z trivial)
abbrev q9d:=List (Int)×List (Int)×Int×Int×qa×Unit→Option ((List (Int)×qa×Unit)⊕(qa×Bool×Unit))
def y5y (f:q9d):LEnt:=⟨k9o,w2w,f⟩
abbrev q9e:=List (Int)×Int×Int×Int×Int×Int×List (Int)×Int×Int×qa×Unit→Option (List (Int)×Int×Int×Int×Int×Int×qa×Unit)
def y5z (f:q9e):LEnt:=⟨k9p,w2x,f⟩
abbrev q9f:=List (Int)×Int×Int×Int×Int×Int×qa×Unit→Option ((qa×Unit)⊕(qa×Bool×Unit))
def y6a (f:q9f):LEnt:=⟨k9q,w2y,f⟩
abbrev q4m:=List (Int)×Int×qa×Unit→Option (qa×Bool×Unit)
def y5x (f:q4m):LEnt:=⟨k9r,w2z,f⟩
abbrev z5b:=List (Int)×Unit→Option (qa×Bool×Unit)
def w7n (f:z5b):FEnt:=⟨Li4,q6c,f⟩
def x2v (f155:kq) (f250:q9j) (f251:q9k) (f252:q0i):=lk [(155,v5z f155),(250,g8f f250),(251,g8g f251),(252,w7r f252)]
theorem j8v:zk Tryz.prog (x2v xa q5z q6a wo):=(kc v4a (kc f6p (kc f6q (kc w6k kn))))
def z3v (f155:kq) (f250:q9j) (f251:q9k) (f252:q0i):yq (List (Int)×List (Int)×Int×Int×qa×Unit) ((List (Int)×qa×Unit)⊕(qa×Bool×Unit)):=fun (x0,x1,x2,x3,x4,_) =>
 bif decide (x3<x2) then
 bif decide (0≤x3)&&decide (x3<(↑x1.length:Int)) then
 (f155 (x1.getD x3.toNat 0,())).bind fun v =>
 bif !v.1 then some (Sum.inr (Sum.inr ([],false,())))
 else
 bif decide (x1.getD x3.toNat 0<128) then
 bif
 decide
 (x4.length+[UInt8.ofNat (IntKind.u8.wrap (x1.getD x3.toNat 0)).toNat].length ≤
 140737488355328/1) then
 some
 (Sum.inl
 (x0,x1,x2,IntKind.i64.wrap (x3+1),
 x4++[UInt8.ofNat (IntKind.u8.wrap (x1.getD x3.toNat 0)).toNat],()))
 else none
 else some (Sum.inl (x0,x1,x2,IntKind.i64.wrap (x3+1),x4,()))
 else none
 else some (Sum.inr (Sum.inl (x0,x4,())))
theorem k2x (f155:kq) (f250:q9j) (f251:q9k) (f252:q0i):AqL (x2v f155 f250 f251 f252) 0 (qd (code Tryz.f223) [1,1,0,1,0,0]) .nil k9o w2w (z3v f155 f250 f251 f252):=fun v=>by kernel_rfl
def q7l:q9d:=qc (z3v xa q5z q6a wo) jd
theorem k5k:jg 0 (qd (code Tryz.f223) [1,1,0,1,0,0]) (y5y q7l) :=
 frl j8v (k2x xa q5z q6a wo)
def z3w (f155:kq) (f250:q9j) (f251:q9k) (f252:q0i):yq (List (Int)×Int×Int×Int×Int×Int×List (Int)×Int×Int×qa×Unit) (List (Int)×Int×Int×Int×Int×Int×qa×Unit):=fun (x0,x1,x2,x3,x4,x5,x6,x7,x8,x9,_) =>
 bif decide (x8<x7) then
 bif decide (0≤x8)&&decide (x8<(↑x6.length:Int)) then
 bif decide (x6.getD x8.toNat 0<x2) then
 some (Sum.inl (x0,x1,x2,IntKind.i64.wrap (x3+1),x4,x5,x6,x7,IntKind.i64.wrap (x8+1),x9,()))
 else
 bif x6.getD x8.toNat 0==x2 then
 (f251 (x3,x4,x9,())).bind fun v =>
 (f252 (x3,IntKind.i64.wrap (x5+1),x5==x1,())).bind fun v1 =>
 some
 (Sum.inl
 (x0,x1,x2,0,v1.1,IntKind.i64.wrap (x5+1),x6,x7,IntKind.i64.wrap (x8+1),v.1,
 ()))
 else some (Sum.inl (x0,x1,x2,x3,x4,x5,x6,x7,IntKind.i64.wrap (x8+1),x9,()))
 else none
 else some (Sum.inr (x0,x1,x2,x3,x4,x5,x9,()))
theorem k2y (f155:kq) (f250:q9j) (f251:q9k) (f252:q0i):AqL (x2v f155 f250 f251 f252) 0 (qd (code Tryz.f223) [1,1,1,1,1,1,0,1,0,0,1,0,1,1,1,1,0,1,0,0]) .nil k9p w2x (z3w f155 f250 f251 f252):=fun v=>by kernel_rfl
def j4m:q9e:=qc (z3w xa q5z q6a wo) jd
theorem k5l:jg 0 (qd (code Tryz.f223) [1,1,1,1,1,1,0,1,0,0,1,0,1,1,1,1,0,1,0,0]) (y5z j4m) :=
 frl j8v (k2y xa q5z q6a wo)
def k0w (f223_l1:q9e):Ann:=(.seq .nil (.blk (.seq .nil (.seq .nil (.seq .nil (.seq .nil (.seq (.seq .nil (.blk (.loop (y5z f223_l1)))) .nil)))))))
def z3x (f155:kq) (f250:q9j) (f251:q9k) (f252:q0i) (f223_l1:q9e):yq (List (Int)×Int×Int×Int×Int×Int×qa×Unit) ((qa×Unit)⊕(qa×Bool×Unit)):=fun (x0,x1,x2,x3,x4,x5,x6,_) =>
 bif decide (x5<(↑x0.length:Int)) then
 (f250 (x0,x2,())).bind fun v =>
 bif
 decide
 (IntKind.i64.wrap
 (x3+IntKind.i64.wrap (IntKind.i64.wrap (IntKind.i32.wrap (v.1 - x2))*IntKind.i64.wrap (x5+1))) >
 2147483647) then
 some (Sum.inr (Sum.inr ([],false,())))
 else
 (f223_l1
 (x0,x1,v.1,
 IntKind.i64.wrap
 (x3 +
 IntKind.i64.wrap (IntKind.i64.wrap (IntKind.i32.wrap (v.1 - x2))*IntKind.i64.wrap (x5+1))),
 x4,x5,x0,(↑x0.length:Int),0,x6,())).bind
 fun v =>
 some
 (Sum.inl
 (v.1,v.2.1,IntKind.i32.wrap (v.2.2.1+1),IntKind.i64.wrap (v.2.2.2.1+1),
 v.2.2.2.2.1,v.2.2.2.2.2.1,v.2.2.2.2.2.2.1,()))
 else some (Sum.inr (Sum.inl (x6,())))
theorem k2z (f155:kq) (f250:q9j) (f251:q9k) (f252:q0i) (f223_l1:q9e):AqL (x2v f155 f250 f251 f252) 0 (qd (code Tryz.f223) [1,1,1,1,1,1,0,1,0,0]) (k0w f223_l1) k9q w2y (z3x f155 f250 f251 f252 f223_l1):=fun v=>by kernel_rfl
def q7m:q9f:=qc (z3x xa q5z q6a wo j4m) jd
theorem k5m:jg 0 (qd (code Tryz.f223) [1,1,1,1,1,1,0,1,0,0]) (y6a q7m) :=
 frm j8v (And.intro k5l trivial) (k2z xa q5z q6a wo j4m)
def k0v (f223_l2:q9f):Ann:=(.seq .nil (.seq (.seq .nil (.blk (.loop (y6a f223_l2)))) .nil))
def j5h (f155:kq) (f250:q9j) (f251:q9k) (f252:q0i) (f223_l2:q9f):q4m:=fun (x0,x1,x2,_) =>
 (f223_l2 (x0,x1,128,0,72,x1,x2,())).bind fun v =>
 Sum.elim (fun v=>some (v.1,true,())) (fun v=>some (v.1,v.2.1,())) v
theorem k2w (f155:kq) (f250:q9j) (f251:q9k) (f252:q0i) (f223_l2:q9f):AqC (x2v f155 f250 f251 f252) 0 (qd (code Tryz.f223) [1,1,1,1,1]) (k0v f223_l2) k9r w2z (j5h f155 f250 f251 f252 f223_l2):=fun v=>by kernel_rfl
def q7k:q4m:=j5h xa q5z q6a wo q7m
theorem k5j:zj 0 (qd (code Tryz.f223) [1,1,1,1,1]) (y5x q7k) :=
 frd j8v (And.intro k5m trivial) (k2w xa q5z q6a wo q7m)
def b3g (f223_c0:q4m) (f223_l0:q9d):Ann:=(.seq .nil (.seq .nil (.seq (.seq .nil (.blk (.loop (y5y f223_l0)))) (.seq .nil (.cut .nil (y5x f223_c0))))))
def v7i (f155:kq) (f250:q9j) (f251:q9k) (f252:q0i) (f223_c0:q4m) (f223_l0:q9d):z5b:=fun (x0,_) =>
 (f223_l0 (x0,x0,(↑x0.length:Int),0,[],())).bind fun v =>
 Sum.elim
 (fun v =>
 bif decide ((↑(List.length v.2.1):Int)>0) then
 bif decide (List.length v.2.1+[45].length≤140737488355328/1) then
 (f223_c0 (v.1,(↑(List.length v.2.1):Int),v.2.1++[45],())).bind
 fun v=>some (v.1,v.2.1,())
 else none
 else
 (f223_c0 (v.1,(↑(List.length v.2.1):Int),v.2.1,())).bind fun v =>
 some (v.1,v.2.1,()))
 (fun v=>some (v.1,v.2.1,())) v
theorem b8a (f155:kq) (f250:q9j) (f251:q9k) (f252:q0i) (f223_c0:q4m) (f223_l0:q9d):ye (x2v f155 f250 f251 f252) 0 Tryz.f223 (b3g f223_c0 f223_l0) Li4 q6c (v7i f155 f250 f251 f252 f223_c0 f223_l0):=fun v=>by kernel_rfl
def x1w:z5b:=v7i xa q5z q6a wo q7k q7l
theorem w6g:FO 223 (w7n x1w) :=
 qo j8v Tryz.func223 (And.intro k5k (And.intro k5j trivial)) (b8a xa q5z q6a wo q7k q7l)
abbrev x3x:=Int×Unit→Option (Bool×Int×Unit)
def g8i (f:x3x):FEnt:=⟨k9s,w3a,f⟩
def w8e:x3x:=fun (x0,_) =>
 some (decide (x0≥0),x0,())
theorem b8f:ye vf 1 Tryz.f254 .nil k9s w3a (w8e):=fun v=>by kernel_rfl
def x6q:x3x:=w8e
theorem f6s:FO 254 (g8i x6q) :=
 q0 kn Tryz.func254 (b8f)
abbrev x3z:=qp×qu×qv×qa×Unit→Option (Bool×Unit)
def g8k (f:x3z):FEnt:=⟨xj,qz,f⟩
def b1h (f181:z8d):=lk [(181,w7f f181)]
def w8f (f181:z8d):x3z:=fun (x0,x1,x2,x3,_) =>
 (f181 (x0,x1,x2,x3,())).bind fun v =>
 bif v.2.1 then some (v.1==x3,()) else some (false,())
def x6r:x3z:=w8f z2j
theorem f6u:FO 256 (g8k x6r):=ww xj qz b1h w8f z2j (kc w5z kn) Tryz.func256
abbrev x3y:=qa×qp×qu×qv×Unit→Option (Bool×qa×qp×qu×qv×Unit)
def g8j (f:x3y):FEnt:=⟨k9t,w3b,f⟩
def b1g (f21:T21) (f256:x3z):=lk [(21,E21 f21),(256,g8k f256)]
def x8t (f21:T21) (f256:x3z):x3y:=fun (x0,x1,x2,x3,_) =>
 (f21 (x0,())).bind fun v =>
 bif decide (v.1<0) then some (true,x0,x1,x2,x3,())
 else (f256 (x1,x2,x3,x0,())).bind fun v=>some (bif v.1 then false else true,x0,x1,x2,x3,())
theorem b8g (f21:T21) (f256:x3z):ye (b1g f21 f256) 2 Tryz.f255 .nil k9t w3b (x8t f21 f256):=fun v=>by kernel_rfl
def z7n:x3y:=x8t C21 x6r
theorem f6t:FO 255 (g8j z7n) :=
 q0 (kc v4e (kc f6u kn)) Tryz.func255 (b8g C21 x6r)
abbrev x9t:=qa×qa×Unit→Option (Bool×Unit)
def g9x (f:x9t):FEnt:=⟨zx,qz,f⟩
def w8o:x9t:=fun (x0,x1,_) =>
 bif decide ((↑x0.length:Int)≥(↑x1.length:Int)) then
 bif
 decide (0≤IntKind.i64.wrap ((↑x0.length:Int) - (↑x1.length:Int))) &&
 decide (IntKind.i64.wrap ((↑x0.length:Int) - (↑x1.length:Int))≤(↑x0.length:Int)) then
 some (List.drop (IntKind.i64.wrap ((↑x0.length:Int) - (↑x1.length:Int))).toNat x0==x1,())
 else none
 else some (false,())
def x7c:x9t:=w8o
theorem f8j:FO 308 (g9x x7c):=zq0 zx qz vf w8o kn Tryz.func308
abbrev x9p:=qa×qa×Unit→Option (Bool×Unit)
def g9m (f:x9p):FEnt:=⟨zx,qz,f⟩
def b2a (f308:x9t):=lk [(308,g9x f308)]
def w8m (f308:x9t):x9p:=fun (x0,x1,_) =>
 (f308 (x0,x1,())).bind fun v=>some (v.1,())
def x6y:x9p:=w8m x7c
theorem f7y:FO 292 (g9m x6y):=ww zx qz b2a w8m x7c (kc f8j kn) Tryz.func292
abbrev T96:=qa×qa×Unit→Option (Bool×Unit)
def E96 (f:T96):FEnt:=⟨zx,qz,f⟩
def K96 (f131:y2f):=lk [(131,w6z f131)]
def F96 (f131:y2f):T96:=fun (x0,x1,_) =>
 (f131 (x0,x1,())).bind fun v=>some (v.1,())
def C96:T96:=F96 z7b
theorem f8x:FO 96 (E96 C96):=ww zx qz K96 F96 z7b (kc w5u kn) Tryz.func96
abbrev z5e:=qa×Unit→Option (Bool×Unit)
def w7s (f:z5e):FEnt:=⟨xh,qz,f⟩
def b1j (f292:x9p) (f96:T96):=lk [(292,g9m f292),(96,E96 f96)]
def w8g (f292:x9p) (f96:T96):z5e:=fun (x0,_) =>
 (f96 (x0,[45],())).bind fun v =>
 bif v.1 then some (true,())
 else
 (f292 (x0,[45],())).bind fun v =>
 bif v.1 then some (true,())
 else
 bif decide ((↑x0.length:Int)>3) then
 bif decide (4≤(↑x0.length:Int)) then
 some (List.drop 2 (List.take 4 x0)==[45,45],())
 else none
 else some (false,())
def y1p:z5e:=w8g x6y C96
theorem w6l:FO 258 (w7s y1p):=zq2 xh qz b1j w8g x6y C96 (kc f7y (kc f8x kn)) Tryz.func258
abbrev x4a:=qa×Unit→Option (Bool×qa×Unit)
def g8l (f:x4a):FEnt:=⟨q1v,q1x,f⟩
def b1i (f258:z5e):=lk [(258,w7s f258)]
def v7x (f258:z5e):x4a:=fun (x0,_) =>
 (f258 (x0,())).bind fun v=>some (v.1,x0,())
theorem b8h (f258:z5e):ye (b1i f258) 1 Tryz.f257 .nil q1v q1x (v7x f258):=fun v=>by kernel_rfl
def y1o:x4a:=v7x y1p
theorem f6v:FO 257 (g8l y1o) :=
 q0 (kc w6l kn) Tryz.func257 (b8h y1p)
abbrev j7u:=qp×qu×qv×Int×Unit→Option (Int×Unit)
def v6d (f:j7u):FEnt:=⟨Li0,jf,f⟩
def b0w (f248:j7x):=lk [(248,x7q f248)]
def v7f (f248:j7x):j7u:=fun (x0,x1,x2,x3,_) =>
 (f248 (x0,x1,x2,x3,())).bind fun v=>some (v.2.2.1,())
def j3r:j7u:=v7f q7p
theorem v4f:FO 215 (v6d j3r):=ww Li0 jf b0w v7f q7p (kc x0x kn) Tryz.func215
abbrev x4b:=qp×qu×qv×List (Int)×Unit→Option (Bool×qp×qu×qv×List (Int)×Unit)
def g8m (f:x4b):FEnt:=⟨z0p,j2y,f⟩
def b1k (f215:j7u):=lk [(215,v6d f215)]
def v7y (f215:j7u):x4b:=fun (x0,x1,x2,x3,_) =>
 bif decide (0<(↑x3.length:Int)) then
 (f215 (x0,x1,x2,x3.getD 0 0,())).bind fun v =>
 some (v.1==4,x0,x1,x2,x3,())
 else none
theorem b8i (f215:j7u):ye (b1k f215) 2 Tryz.f259 .nil z0p j2y (v7y f215):=fun v=>by kernel_rfl
def y1q:x4b:=v7y j3r
theorem f6w:FO 259 (g8m y1q) :=
 q0 (kc v4f kn) Tryz.func259 (b8i j3r)
abbrev z5c:=Int×Unit→Option (Bool×Unit)
def w7p (f:z5c):FEnt:=⟨q5i,qz,f⟩
def v7o:z5c:=fun (x0,_) =>
 bif decide (x0≥1632) then some (decide (x0≤1641),()) else some (false,())
def j7d:z5c:=v7o
theorem w6i:FO 242 (w7p j7d):=zq0 q5i qz vf v7o kn Tryz.func242
abbrev z5d:=Int×Unit→Option (Bool×Unit)
def w7q (f:z5d):FEnt:=⟨q5i,qz,f⟩
def v7r:z5d:=fun (x0,_) =>
 bif decide (x0≥1776) then some (decide (x0≤1785),()) else some (false,())
def j7e:z5d:=v7r
theorem w6j:FO 245 (w7q j7e):=zq0 q5i qz vf v7r kn Tryz.func245
abbrev x3o:=Int×Unit→Option (Unit⊕Unit⊕Unit⊕Unit⊕Unit⊕Unit⊕Unit⊕Unit⊕Unit)
def g7q (f:x3o):FEnt:=⟨q5i,w3e,f⟩
def b0v (f242:z5c) (f245:z5d) (f247:x9l):=lk [(242,w7p f242),(245,w7q f245),(247,g8e f247)]
def v7e (f242:z5c) (f245:z5d) (f247:x9l):x3o:=fun (x0,_) =>
 (f242 (x0,())).bind fun v =>
 bif v.1 then some (Sum.inl ())
 else
 (f245 (x0,())).bind fun v =>
 bif v.1 then some (Sum.inr (Sum.inl ()))
 else
 (f247 ()).bind fun v =>
 bif decide (x0=8205) then some (Sum.inr (Sum.inr (Sum.inl ())))
 else
 bif decide (x0=8204) then some (Sum.inr (Sum.inr (Sum.inr (Sum.inl ()))))
 else
 bif decide (x0=183) then some (Sum.inr (Sum.inr (Sum.inr (Sum.inr (Sum.inl ())))))
 else
 bif decide (x0=885) then some (Sum.inr (Sum.inr (Sum.inr (Sum.inr (Sum.inr (Sum.inl ()))))))
 else
 bif decide (x0=1523) then
 some (Sum.inr (Sum.inr (Sum.inr (Sum.inr (Sum.inr (Sum.inr (Sum.inl ())))))))
 else
 bif decide (x0=1524) then
 some (Sum.inr (Sum.inr (Sum.inr (Sum.inr (Sum.inr (Sum.inr (Sum.inl ())))))))
 else
 bif decide (x0=12539) then
 some (Sum.inr (Sum.inr (Sum.inr (Sum.inr (Sum.inr (Sum.inr (Sum.inr (Sum.inl ()))))))))
 else
 some (Sum.inr (Sum.inr (Sum.inr (Sum.inr (Sum.inr (Sum.inr (Sum.inr (Sum.inr ()))))))))
theorem b7z (f242:z5c) (f245:z5d) (f247:x9l):ye (b0v f242 f245 f247) 0 Tryz.f214 .nil q5i w3e (v7e f242 f245 f247):=fun v=>by kernel_rfl
def z2q:x3o:=v7e j7d j7e v5v
theorem f6a:FO 214 (g7q z2q) :=
 q0 (kc w6i (kc w6j (kc f6o kn))) Tryz.func214 (b7z j7d j7e v5v)
abbrev j6p:=List (Int)×Int×Int×Unit→Option (Unit⊕(Int×Unit))
def y6w (f:j6p):LEnt:=⟨k9x,z0t,f⟩
abbrev x9n:=List (Int)×Unit→Option (Int×Unit)
def g9d (f:x9n):FEnt:=⟨y8f,jf,f⟩
def w9m (f245:z5d):=lk [(245,w7q f245)]
theorem v2s:zk Tryz.prog (w9m j7e):=(kc w6j kn)
def z4g (f245:z5d):yq (List (Int)×Int×Int×Unit) (Unit⊕(Int×Unit)):=fun (x0,x1,x2,_) =>
 bif decide (x2<x1) then
 bif decide (0≤x2)&&decide (x2<(↑x0.length:Int)) then
 (f245 (x0.getD x2.toNat 0,())).bind fun v =>
 bif v.1 then some (Sum.inr (Sum.inr (x2,())))
 else some (Sum.inl (x0,x1,IntKind.i64.wrap (x2+1),()))
 else none
 else some (Sum.inr (Sum.inl ()))
def j4s:j6p:=qc (z4g j7e) jd
theorem k6i:jg 0 (qd (code Tryz.f281) [1,0,1,0,0]) (y6w j4s):=zl1 k9x z0t w9m z4g j7e v2s
def b3x (f281_l0:j6p):Ann:=(.seq .nil (.seq (.seq .nil (.blk (.loop (y6w f281_l0)))) .nil))
def v8f (f245:z5d) (f281_l0:j6p):x9n:=fun (x0,_) =>
 (f281_l0 (x0,(↑x0.length:Int),0,())).bind fun v =>
 Sum.elim (fun v=>some (-1,())) (fun v=>some (v.1,())) v
def x6w:x9n:=v8f j7e j4s
theorem f7p:FO 281 (g9d x6w):=wn y8f jf w9m b3x v8f j7e j4s v2s Tryz.func281 (And.intro k6i trivial)
abbrev x9k:=List (Int)×Unit→Option (Bool×Unit)
def g8c (f:x9k):FEnt:=⟨y8f,qz,f⟩
def b1c (f281:x9n):=lk [(281,g9d f281)]
def v7q (f281:x9n):x9k:=fun (x0,_) =>
 (f281 (x0,())).bind fun v=>some (decide (v.1≥0),())
def v5u:x9k:=v7q x6w
theorem f6m:FO 244 (g8c v5u):=ww y8f qz b1c v7q x6w (kc f7p kn) Tryz.func244
abbrev x3v:=qp×qu×qv×List (Int)×Int×Unit→Option (Bool×Unit)
def g8b (f:x3v):FEnt:=⟨vv,qz,f⟩
def b1b (f244:x9k):=lk [(244,g8c f244)]
def v7p (f244:x9k):x3v:=fun (x0,x1,x2,x3,x4,_) =>
 (f244 (x3,())).bind fun v=>some (bif v.1 then false else true,())
def x1y:x3v:=v7p v5u
theorem f6l:FO 243 (g8b x1y):=ww vv qz b1b v7p v5u (kc f6m kn) Tryz.func243
abbrev q4s:=List (Int)×Int×Int×Unit→Option (Unit⊕(Int×Unit))
def z0n (f:q4s):LEnt:=⟨k9y,z0t,f⟩
abbrev j7z:=List (Int)×Unit→Option (Int×Unit)
def x7u (f:j7z):FEnt:=⟨y8g,jf,f⟩
def y2c (f242:z5c):=lk [(242,w7p f242)]
theorem z9o:zk Tryz.prog (y2c j7d):=(kc w6i kn)
def j1x (f242:z5c):yq (List (Int)×Int×Int×Unit) (Unit⊕(Int×Unit)):=fun (x0,x1,x2,_) =>
 bif decide (x2<x1) then
 bif decide (0≤x2)&&decide (x2<(↑x0.length:Int)) then
 (f242 (x0.getD x2.toNat 0,())).bind fun v =>
 bif v.1 then some (Sum.inr (Sum.inr (x2,())))
 else some (Sum.inl (x0,x1,IntKind.i64.wrap (x2+1),()))
 else none
 else some (Sum.inr (Sum.inl ()))
def q3m:q4s:=qc (j1x j7d) jd
theorem x5r:jg 0 (qd (code Tryz.f281) [1,0,1,0,0]) (z0n q3m):=zl1 k9y z0t y2c j1x j7d z9o
def g0e (f281v1_l0:q4s):Ann:=(.seq .nil (.seq (.seq .nil (.blk (.loop (z0n f281v1_l0)))) .nil))
def z4h (f242:z5c) (f281v1_l0:q4s):j7z:=fun (x0,_) =>
 (f281v1_l0 (x0,(↑x0.length:Int),0,())).bind fun v =>
 Sum.elim (fun v=>some (-1,())) (fun v=>some (v.1,())) v
def j7h:j7z:=z4h j7d q3m
theorem k8a:FO 281 (x7u j7h):=wn y8g jf y2c g0e z4h j7d q3m z9o Tryz.func281 (And.intro x5r trivial)
abbrev j7v:=List (Int)×Unit→Option (Bool×Unit)
def x7o (f:j7v):FEnt:=⟨y8g,qz,f⟩
def w9f (f281v1:j7z):=lk [(281,x7u f281v1)]
def z3z (f281v1:j7z):j7v:=fun (x0,_) =>
 (f281v1 (x0,())).bind fun v=>some (decide (v.1≥0),())
def z2w:j7v:=z3z j7h
theorem k7x:FO 244 (x7o z2w):=ww y8g qz w9f z3z j7h (kc k8a kn) Tryz.func244
abbrev x3w:=qp×qu×qv×List (Int)×Int×Unit→Option (Bool×Unit)
def g8d (f:x3w):FEnt:=⟨vv,qz,f⟩
def b1d (f244v1:j7v):=lk [(244,x7o f244v1)]
def v7s (f244v1:j7v):x3w:=fun (x0,x1,x2,x3,x4,_) =>
 (f244v1 (x3,())).bind fun v=>some (bif v.1 then false else true,())
def x1z:x3w:=v7s z2w
theorem f6n:FO 246 (g8d x1z):=ww vv qz b1d v7s z2w (kc k7x kn) Tryz.func246
abbrev j0b:=qp×qu×qv×List (Int)×Int×Int×Unit→Option (Int×Unit)
def x2j (f:j0b):FEnt:=⟨y8h,z7v,f⟩
def v8w:j0b:=fun (x0,x1,x2,x3,x4,x5,_) =>
 bif decide (IntKind.i64.wrap (x4+x5)<0) then some (-1,())
 else
 bif decide (IntKind.i64.wrap (x4+x5)≥(↑x3.length:Int)) then some (-1,())
 else
 bif decide (0≤IntKind.i64.wrap (x4+x5))&&decide (IntKind.i64.wrap (x4+x5)<(↑x3.length:Int)) then
 some (x3.getD ((IntKind.i64.wrap (x4+x5)).toNat) 0,())
 else none
def q0m:j0b:=v8w
theorem y0f:FO 304 (x2j q0m):=zq0 y8h z7v vf v8w kn Tryz.func304
abbrev z8h:=qp×qu×qv×List (Int)×Int×Unit→Option (Bool×Unit)
def w7v (f:z8h):FEnt:=⟨vv,qz,f⟩
def b1u (f276:q1g) (f304:j0b):=lk [(276,x7s f276),(304,x2j f304)]
def v8g (f276:q1g) (f304:j0b):z8h:=fun (x0,x1,x2,x3,x4,_) =>
 (f304 (x0,x1,x2,x3,x4,-1,())).bind fun v =>
 (f276 (x0,x1,x2,v.1,())).bind fun v=>some (v.1==9,())
def z2y:z8h:=v8g xb q0m
theorem w6n:FO 282 (w7v z2y):=zq2 vv qz b1u v8g xb q0m (kc x0y (kc y0f kn)) Tryz.func282
abbrev x4v:=qp×qu×qv×Int×Unit→Option (Int×Unit)
def f0a (f:x4v):FEnt:=⟨Li0,jf,f⟩
def b2d (f248:j7x):=lk [(248,x7q f248)]
def v9b (f248:j7x):x4v:=fun (x0,x1,x2,x3,_) =>
 (f248 (x0,x1,x2,x3,())).bind fun v=>some (v.2.2.2.2.1,())
def z7r:x4v:=v9b q7p
theorem f8n:FO 313 (f0a z7r):=ww Li0 jf b2d v9b q7p (kc x0x kn) Tryz.func313
abbrev j6s:=Int×Int×qp×qu×qv×List (Int)×Int×Unit→Option (Unit⊕(Int×Unit))
def y7i (f:j6s):LEnt:=⟨k9z,w3f,f⟩
abbrev x9s:=qp×qu×qv×List (Int)×Int×Int×Unit→Option (Int×Unit)
def g9v (f:x9s):FEnt:=⟨y8h,jf,f⟩
def w9p (f304:j0b) (f313:x4v):=lk [(304,x2j f304),(313,f0a f313)]
theorem v2v:zk Tryz.prog (w9p q0m z7r):=(kc y0f (kc f8n kn))
def z4p (f304:j0b) (f313:x4v):yq (Int×Int×qp×qu×qv×List (Int)×Int×Unit) (Unit⊕(Int×Unit)):=fun (x0,x1,x2,x3,x4,x5,x6,_) =>
 (f304 (x2,x3,x4,x5,x6,x1,())).bind fun v =>
 bif decide (v.1≥0) then
 (f304 (x2,x3,x4,x5,x6,x1,())).bind fun v =>
 (f313 (x2,x3,x4,v.1,())).bind fun v =>
 bif v.1 != 3 then some (Sum.inr (Sum.inr (v.1,())))
 else some (Sum.inl (x0,IntKind.i64.wrap (x1+x0),x2,x3,x4,x5,x6,()))
 else some (Sum.inr (Sum.inl ()))
def j4x:j6s:=qc (z4p q0m z7r) jd
theorem k6u:jg 0 (qd (code Tryz.f305) [1,0,1,0,0]) (y7i j4x):=zl2 k9z w3f w9p z4p q0m z7r v2v
def b4f (f305_l0:j6s):Ann:=(.seq .nil (.seq (.seq .nil (.blk (.loop (y7i f305_l0)))) .nil))
def v8x (f304:j0b) (f313:x4v) (f305_l0:j6s):x9s:=fun (x0,x1,x2,x3,x4,x5,_) =>
 (f305_l0 (x5,x5,x0,x1,x2,x3,x4,())).bind fun v =>
 Sum.elim (fun v=>some (0,())) (fun v=>some (v.1,())) v
def x7b:x9s:=v8x q0m z7r j4x
theorem f8h:FO 305 (g9v x7b):=j3n y8h jf w9p b4f v8x q0m z7r j4x v2v Tryz.func305 (And.intro k6u trivial)
abbrev x4n:=qp×qu×qv×List (Int)×Int×Unit→Option (Bool×Unit)
def g9e (f:x4n):FEnt:=⟨vv,qz,f⟩
def b1v (f282:z8h) (f305:x9s):=lk [(282,w7v f282),(305,g9v f305)]
def v8h (f282:z8h) (f305:x9s):x4n:=fun (x0,x1,x2,x3,x4,_) =>
 (f305 (x0,x1,x2,x3,x4,1,())).bind fun v =>
 (f282 (x0,x1,x2,x3,x4,())).bind fun v1 =>
 bif v1.1 then some (true,())
 else
 (f305 (x0,x1,x2,x3,x4,-1,())).bind fun v2 =>
 bif v2.1==1 then bif v.1==1 then some (true,()) else some (v.1==2,())
 else some (false,())
def x2d:x4n:=v8h z2y x7b
theorem f7q:FO 283 (g9e x2d):=zq2 vv qz b1v v8h z2y x7b (kc w6n (kc f8h kn)) Tryz.func283
abbrev x4o:=qp×qu×qv×List (Int)×Int×Unit→Option (Bool×Unit)
def g9f (f:x4o):FEnt:=⟨vv,qz,f⟩
def b1w (f304:j0b):=lk [(304,x2j f304)]
def v8i (f304:j0b):x4o:=fun (x0,x1,x2,x3,x4,_) =>
 (f304 (x0,x1,x2,x3,x4,-1,())).bind fun v =>
 bif v.1==108 then (f304 (x0,x1,x2,x3,x4,1,())).bind fun v=>some (v.1==108,())
 else some (false,())
def x2e:x4o:=v8i q0m
theorem f7r:FO 284 (g9f x2e):=ww vv qz b1w v8i q0m (kc y0f kn) Tryz.func284
abbrev z0c:=qp×qu×qv×Int×Unit→Option (Int×Unit)
def v6e (f:z0c):FEnt:=⟨Li0,jf,f⟩
def b2b (f248:j7x):=lk [(248,x7q f248)]
def v8y (f248:j7x):z0c:=fun (x0,x1,x2,x3,_) =>
 (f248 (x0,x1,x2,x3,())).bind fun v=>some (v.2.2.2.2.2.1,())
def j7j:z0c:=v8y q7p
theorem v4i:FO 306 (v6e j7j):=ww Li0 jf b2b v8y q7p (kc x0x kn) Tryz.func306
abbrev x4p:=qp×qu×qv×List (Int)×Int×Unit→Option (Bool×Unit)
def g9g (f:x4p):FEnt:=⟨vv,qz,f⟩
def b1x (f304:j0b) (f306:z0c):=lk [(304,x2j f304),(306,v6e f306)]
def v8j (f304:j0b) (f306:z0c):x4p:=fun (x0,x1,x2,x3,x4,_) =>
 (f304 (x0,x1,x2,x3,x4,1,())).bind fun v =>
 (f306 (x0,x1,x2,v.1,())).bind fun v=>some (v.1==2,())
def x2f:x4p:=v8j q0m j7j
theorem f7s:FO 285 (g9g x2f):=zq2 vv qz b1x v8j q0m j7j (kc y0f (kc v4i kn)) Tryz.func285
abbrev x4q:=qp×qu×qv×List (Int)×Int×Unit→Option (Bool×Unit)
def g9h (f:x4q):FEnt:=⟨vv,qz,f⟩
def b1y (f304:j0b) (f306:z0c):=lk [(304,x2j f304),(306,v6e f306)]
def v8k (f304:j0b) (f306:z0c):x4q:=fun (x0,x1,x2,x3,x4,_) =>
 (f304 (x0,x1,x2,x3,x4,-1,())).bind fun v =>
 (f306 (x0,x1,x2,v.1,())).bind fun v=>some (v.1==4,())
def x2g:x4q:=v8k q0m j7j
theorem f7t:FO 286 (g9h x2g):=zq2 vv qz b1y v8k q0m j7j (kc y0f (kc v4i kn)) Tryz.func286
abbrev y2l:=Int×qp×qu×qv×List (Int)×Int×Unit→Option (Bool×qp×qu×qv×List (Int)×Int×Unit)
def g9w (f:y2l):FEnt:=⟨w0a,y8v,f⟩
def b2c (f306:z0c):=lk [(306,v6e f306)]
def v8z (f306:z0c):y2l:=fun (x0,x1,x2,x3,x4,x5,_) =>
 (f306 (x1,x2,x3,x0,())).bind fun v =>
 bif v.1==7 then some (true,x1,x2,x3,x4,x5,())
 else some (v.1==8,x1,x2,x3,x4,x5,())
theorem b8z (f306:z0c):ye (b2c f306) 1 Tryz.f307 .nil w0a y8v (v8z f306):=fun v=>by kernel_rfl
def z7q:y2l:=v8z j7j
theorem f8i:FO 307 (g9w z7q) :=
 q0 (kc v4i kn) Tryz.func307 (b8z j7j)
abbrev q0n:=List (Int)×Int×Int×qp×qu×qv×List (Int)×Int×Unit→Option ((qp×qu×qv×List (Int)×Int×Unit)⊕(Int×qp×qu×qv×List (Int)×Int×Unit))
def z0o (f:q0n):LEnt:=⟨w0b,w3h,f⟩
abbrev j2g:=List (Int)×qp×qu×qv×List (Int)×Int×Unit→Option (Int×qp×qu×qv×List (Int)×Int×Unit)
def x7v (f:j2g):FEnt:=⟨y8i,w3g,f⟩
def y2d (f307:y2l):=lk [(307,g9w f307)]
theorem z9p:zk Tryz.prog (y2d z7q):=(kc f8i kn)
def j1y (f307:y2l):yq (List (Int)×Int×Int×qp×qu×qv×List (Int)×Int×Unit) ((qp×qu×qv×List (Int)×Int×Unit)⊕(Int×qp×qu×qv×List (Int)×Int×Unit)):=fun (x0,x1,x2,x3,x4,x5,x6,x7,_) =>
 bif decide (x2<x1) then
 bif decide (0≤x2)&&decide (x2<(↑x0.length:Int)) then
 (f307 (x0.getD x2.toNat 0,x3,x4,x5,x6,x7,())).bind fun v =>
 bif v.1 then
 some
 (Sum.inr
 (Sum.inr
 (x2,v.2.1,v.2.2.1,v.2.2.2.1,v.2.2.2.2.1,
 v.2.2.2.2.2.1,())))
 else
 some
 (Sum.inl
 (x0,x1,IntKind.i64.wrap (x2+1),v.2.1,v.2.2.1,v.2.2.2.1,
 v.2.2.2.2.1,v.2.2.2.2.2.1,()))
 else none
 else some (Sum.inr (Sum.inl (x3,x4,x5,x6,x7,())))
def q3n:q0n:=qc (j1y z7q) jd
theorem x5s:jg 1 (qd (code Tryz.f281) [1,0,1,0,0]) (z0o q3n):=zl1 w0b w3h y2d j1y z7q z9p
def g0f (f281v2_l0:q0n):Ann:=(.seq .nil (.seq (.seq .nil (.blk (.loop (z0o f281v2_l0)))) .nil))
def z4i (f307:y2l) (f281v2_l0:q0n):j2g:=fun (x0,x1,x2,x3,x4,x5,_) =>
 (f281v2_l0 (x0,(↑x0.length:Int),0,x1,x2,x3,x4,x5,())).bind fun v =>
 Sum.elim
 (fun v =>
 some (-1,v.1,v.2.1,v.2.2.1,v.2.2.2.1,v.2.2.2.2.1,()))
 (fun v =>
 some
 (v.1,v.2.1,v.2.2.1,v.2.2.2.1,v.2.2.2.2.1,
 v.2.2.2.2.2.1,()))
 v
theorem g3k (f307:y2l) (f281v2_l0:q0n):ye (y2d f307) 1 Tryz.f281 (g0f f281v2_l0) y8i w3g (z4i f307 f281v2_l0):=fun v=>by kernel_rfl
def j7i:j2g:=z4i z7q q3n
theorem k8b:FO 281 (x7v j7i) :=
 qo z9p Tryz.func281 (And.intro x5s trivial) (g3k z7q q3n)
abbrev j7w:=List (Int)×qp×qu×qv×List (Int)×Int×Unit→Option (Bool×qp×qu×qv×List (Int)×Int×Unit)
def x7p (f:j7w):FEnt:=⟨y8i,y8v,f⟩
def w9g (f281v2:j2g):=lk [(281,x7v f281v2)]
def z4a (f281v2:j2g):j7w:=fun (x0,x1,x2,x3,x4,x5,_) =>
 (f281v2 (x0,x1,x2,x3,x4,x5,())).bind fun v =>
 some
 (decide (v.1≥0),v.2.1,v.2.2.1,v.2.2.2.1,v.2.2.2.2.1,
 v.2.2.2.2.2.1,())
theorem g3i (f281v2:j2g):ye (w9g f281v2) 1 Tryz.f244 .nil y8i y8v (z4a f281v2):=fun v=>by kernel_rfl
def z2x:j7w:=z4a j7i
theorem k7y:FO 244 (x7p z2x) :=
 q0 (kc k8b kn) Tryz.func244 (g3i j7i)
abbrev x4r:=qp×qu×qv×List (Int)×Int×Unit→Option (Bool×Unit)
def g9i (f:x4r):FEnt:=⟨vv,qz,f⟩
def b1z (f244v2:j7w):=lk [(244,x7p f244v2)]
def v8l (f244v2:j7w):x4r:=fun (x0,x1,x2,x3,x4,_) =>
 (f244v2 (x3,x0,x1,x2,x3,x4,())).bind fun v=>some (v.1,())
def x2h:x4r:=v8l z2x
theorem f7u:FO 287 (g9i x2h):=ww vv qz b1z v8l z2x (kc k7y kn) Tryz.func287
abbrev z4v:=qp×qu×qv×List (Int)×Int×Unit→Option (Int×Unit)
def w7g (f:z4v):FEnt:=⟨w0c,jf,f⟩
def b0o (f214:x3o) (f243:x3v) (f246:x3w) (f282:z8h) (f283:x4n) (f284:x4o) (f285:x4p) (f286:x4q) (f287:x4r):=lk [(214,g7q f214),(243,g8b f243),(246,g8d f246),(282,w7v f282),(283,g9e f283),(284,g9f f284),(285,g9g f285),(286,g9h f286),(287,g9i f287)]
def x2o (f214:x3o) (f243:x3v) (f246:x3w) (f282:z8h) (f283:x4n) (f284:x4o) (f285:x4p) (f286:x4q) (f287:x4r):z4v:=fun (x0,x1,x2,x3,x4,_) =>
 bif decide (x4<0) then some (0,())
 else
 bif decide (x4≥(↑x3.length:Int)) then some (0,())
 else
 bif decide (0≤x4)&&decide (x4<(↑x3.length:Int)) then
 (f214 (x3.getD x4.toNat 0,())).bind fun v =>
 Sum.elim
 (fun v =>
 (f243 (x0,x1,x2,x3,x4,())).bind fun v =>
 bif v.1 then some (1,()) else some (2,()))
 (fun v =>
 Sum.elim
 (fun v =>
 (f246 (x0,x1,x2,x3,x4,())).bind fun v =>
 bif v.1 then some (1,()) else some (2,()))
 (fun v =>
 Sum.elim
 (fun v =>
 (f282 (x0,x1,x2,x3,x4,())).bind fun v =>
 bif v.1 then some (1,()) else some (2,()))
 (fun v =>
 Sum.elim
 (fun v =>
 (f283 (x0,x1,x2,x3,x4,())).bind fun v =>
 bif v.1 then some (1,()) else some (2,()))
 (fun v =>
 Sum.elim
 (fun v =>
 (f284 (x0,x1,x2,x3,x4,())).bind fun v =>
 bif v.1 then some (1,()) else some (2,()))
 (fun v =>
 Sum.elim
 (fun v =>
 (f285 (x0,x1,x2,x3,x4,())).bind fun v =>
 bif v.1 then some (1,()) else some (2,()))
 (fun v =>
 Sum.elim
 (fun v =>
 (f286 (x0,x1,x2,x3,x4,())).bind fun v =>
 bif v.1 then some (1,()) else some (2,()))
 (fun v =>
 Sum.elim
 (fun v =>
 (f287 (x0,x1,x2,x3,x4,())).bind fun v =>
 bif v.1 then some (1,()) else some (2,()))
 (fun v=>some (0,())) v)
 v)
 v)
 v)
 v)
 v)
 v)
 v
 else none
theorem b7w (f214:x3o) (f243:x3v) (f246:x3w) (f282:z8h) (f283:x4n) (f284:x4o) (f285:x4p) (f286:x4q) (f287:x4r):ye (b0o f214 f243 f246 f282 f283 f284 f285 f286 f287) 0 Tryz.f183 .nil w0c jf (x2o f214 f243 f246 f282 f283 f284 f285 f286 f287):=fun v=>by kernel_rfl
def j3p:z4v:=x2o z2q x1y x1z z2y x2d x2e x2f x2g x2h
theorem w6a:FO 183 (w7g j3p) :=
 q0 (kc f6a (kc f6l (kc f6n (kc w6n (kc f7q (kc f7r (kc f7s (kc f7t (kc f7u kn))))))))) Tryz.func183 (b7w z2q x1y x1z z2y x2d x2e x2f x2g x2h)
abbrev z4z:=qp×qu×qv×Int×Unit→Option (Bool×Unit)
def w7l (f:z4z):FEnt:=⟨Li0,qz,f⟩
def b0x (f215:j7u) (f216:q9c):=lk [(215,v6d f215),(216,x7m f216)]
def v7g (f215:j7u) (f216:q9c):z4z:=fun (x0,x1,x2,x3,_) =>
 (f216 (x0,x1,x2,x3,())).bind fun v =>
 bif v.2.2.2.2.2.1 then
 bif v.2.2.2.1 then some (false,())
 else
 bif v.2.2.2.2.1 then some (false,())
 else
 (f215 (x0,x1,x2,x3,())).bind fun v =>
 bif v.1==2 then some (true,())
 else
 bif v.1==3 then some (true,())
 else
 bif v.1==4 then some (true,())
 else bif v.1==5 then some (true,()) else some (x3==45,())
 else
 (f215 (x0,x1,x2,x3,())).bind fun v =>
 bif v.1==2 then some (true,())
 else
 bif v.1==3 then some (true,())
 else
 bif v.1==4 then some (true,())
 else bif v.1==5 then some (true,()) else some (x3==45,())
def q2d:z4z:=v7g j3r zp
theorem w6f:FO 217 (w7l q2d):=zq2 Li0 qz b0x v7g j3r zp (kc v4f (kc x0w kn)) Tryz.func217
abbrev j6o:=List (Int)×List (Int)×Int×Int×qp×qu×qv×Unit→Option (Unit⊕(Bool×Unit))
def y6p (f:j6o):LEnt:=⟨w0d,w3i,f⟩
abbrev x4d:=qp×qu×qv×List (Int)×Unit→Option (Bool×Unit)
def g8o (f:x4d):FEnt:=⟨Li9,qz,f⟩
def w9j (f183:z4v) (f217:z4z):=lk [(183,w7g f183),(217,w7l f217)]
theorem v2p:zk Tryz.prog (w9j j3p q2d):=(kc w6a (kc w6f kn))
def j5q (f183:z4v) (f217:z4z):yq (List (Int)×List (Int)×Int×Int×qp×qu×qv×Unit) (Unit⊕(Bool×Unit)):=fun (x0,x1,x2,x3,x4,x5,x6,_) =>
 bif decide (x3<x2) then
 bif decide (0≤x3)&&decide (x3<(↑x1.length:Int)) then
 (f183 (x4,x5,x6,x0,x3,())).bind fun v =>
 bif v.1==2 then some (Sum.inr (Sum.inr (true,())))
 else
 bif v.1==0 then
 (f217 (x4,x5,x6,x1.getD x3.toNat 0,())).bind fun v =>
 bif !v.1 then some (Sum.inr (Sum.inr (true,())))
 else some (Sum.inl (x0,x1,x2,IntKind.i64.wrap (x3+1),x4,x5,x6,()))
 else some (Sum.inl (x0,x1,x2,IntKind.i64.wrap (x3+1),x4,x5,x6,()))
 else none
 else some (Sum.inr (Sum.inl ()))
def q7s:j6o:=qc (j5q j3p q2d) jd
theorem k6b:jg 0 (qd (code Tryz.f261) [1,0,1,0,0]) (y6p q7s):=zl2 w0d w3i w9j j5q j3p q2d v2p
def b3s (f261_l0:j6o):Ann:=(.seq .nil (.seq (.seq .nil (.blk (.loop (y6p f261_l0)))) .nil))
def x2t (f183:z4v) (f217:z4z) (f261_l0:j6o):x4d:=fun (x0,x1,x2,x3,_) =>
 (f261_l0 (x3,x3,(↑x3.length:Int),0,x0,x1,x2,())).bind fun v =>
 Sum.elim (fun v=>some (false,())) (fun v=>some (v.1,())) v
def x2b:x4d:=x2t j3p q2d q7s
theorem f6y:FO 261 (g8o x2b):=j3n Li9 qz w9j b3s x2t j3p q2d q7s v2p Tryz.func261 (And.intro k6b trivial)
abbrev x4c:=qp×qu×qv×List (Int)×Unit→Option (Bool×qp×qu×qv×List (Int)×Unit)
def g8n (f:x4c):FEnt:=⟨z0p,j2y,f⟩
def b1l (f261:x4d):=lk [(261,g8o f261)]
def x8u (f261:x4d):x4c:=fun (x0,x1,x2,x3,_) =>
 (f261 (x0,x1,x2,x3,())).bind fun v=>some (v.1,x0,x1,x2,x3,())
theorem b8j (f261:x4d):ye (b1l f261) 2 Tryz.f260 .nil z0p j2y (x8u f261):=fun v=>by kernel_rfl
def x2a:x4c:=x8u x2b
theorem f6x:FO 260 (g8n x2a) :=
 q0 (kc f6y kn) Tryz.func260 (b8j x2b)
abbrev j6g:=List (Int)×Int×Int×qp×qu×qv×List (Int)×List (Int)×Unit→Option (List (Int)×List (Int)×Unit)
def y5r (f:j6g):LEnt:=⟨w0e,w3k,f⟩
abbrev j4b:=qp×qu×qv×List (Int)×Unit→Option (Int×Int×Int×Int×Int×Int×Int×Int×Unit)
def w7h (f:j4b):FEnt:=⟨Li9,w3j,f⟩
def w8y (f218:z8e):=lk [(218,w7m f218)]
theorem v2h:zk Tryz.prog (w8y q5y):=(kc v4g kn)
def z3u (f218:z8e):yq (List (Int)×Int×Int×qp×qu×qv×List (Int)×List (Int)×Unit) (List (Int)×List (Int)×Unit):=fun (x0,x1,x2,x3,x4,x5,x6,x7,_) =>
 bif decide (x2<x1) then
 bif decide (0≤x2)&&decide (x2<(↑x0.length:Int)) then
 (f218 (x3,x4,x5,x0.getD x2.toNat 0,())).bind fun v =>
 bif decide (x7.length=8) then
 bif decide (0≤v.1)&&decide (v.1<(↑8:Int)) then
 bif decide (Int.toNat v.1<x7.length) then
 bif decide (x7.length=8) then
 bif decide (0≤v.1)&&decide (v.1<(↑8:Int)) then
 bif decide (Int.toNat v.1<x7.length) then
 some
 (Sum.inl
 (x0,x1,IntKind.i64.wrap (x2+1),x3,x4,x5,x6,
 x7.set (Int.toNat v.1)
 (IntKind.i64.wrap (x7.getD (Int.toNat v.1) 0+1)),
 ()))
 else none
 else none
 else none
 else none
 else none
 else none
 else none
 else some (Sum.inr (x6,x7,()))
def j4l:j6g:=qc (z3u q5y) jd
theorem k5d:jg 0 (qd (code Tryz.f185) [1,1,0,1,0,0]) (y5r j4l):=zl1 w0e w3k w8y z3u q5y v2h
def b3b (f185_l0:j6g):Ann:=(.seq .nil (.seq .nil (.seq (.seq .nil (.blk (.loop (y5r f185_l0)))) .nil)))
def v6y (f218:z8e) (f185_l0:j6g):j4b:=fun (x0,x1,x2,x3,_) =>
 (f185_l0 (x3,(↑x3.length:Int),0,x0,x1,x2,[0,0,0,0,0,0,0,0],[0,0,0,0,0,0,0,0],())).bind
 fun v =>
 bif decide (List.length v.2.1=8) then
 bif decide (List.length v.1=8) then
 some
 (v.2.1.getD 0 0,v.2.1.getD 1 0,v.2.1.getD 2 0,
 v.2.1.getD 3 0,v.2.1.getD 4 0,v.2.1.getD 5 0,
 v.2.1.getD 6 0,v.2.1.getD 7 0,())
 else none
 else none
def q7i:j4b:=v6y q5y j4l
theorem w6b:FO 185 (w7h q7i):=wn Li9 w3j w8y b3b v6y q5y j4l v2h Tryz.func185 (And.intro k5d trivial)
abbrev q5j:=qp×qu×qv×List (Int)×Unit→Option (Bool×Unit)
def v5y (f:q5j):FEnt:=⟨Li9,qz,f⟩
def b0c (f185:j4b):=lk [(185,w7h f185)]
def v6q (f185:j4b):q5j:=fun (x0,x1,x2,x3,_) =>
 (f185 (x0,x1,x2,x3,())).bind fun v =>
 some
 (decide
 (IntKind.i64.wrap
 (IntKind.i64.wrap
 ([v.1,v.2.1,v.2.2.1,v.2.2.2.1,v.2.2.2.2.1,
 v.2.2.2.2.2.1,v.2.2.2.2.2.2.1,
 v.2.2.2.2.2.2.2.1].getD
 2 0 +
 [v.1,v.2.1,v.2.2.1,v.2.2.2.1,v.2.2.2.2.1,
 v.2.2.2.2.2.1,v.2.2.2.2.2.2.1,
 v.2.2.2.2.2.2.2.1].getD
 3 0) +
 [v.1,v.2.1,v.2.2.1,v.2.2.2.1,v.2.2.2.2.1,
 v.2.2.2.2.2.1,v.2.2.2.2.2.2.1,
 v.2.2.2.2.2.2.2.1].getD
 5 0) >
 0),
 ())
def q5w:q5j:=v6q q7i
theorem v3z:FO 153 (v5y q5w):=ww Li9 qz b0c v6q q7i (kc w6b kn) Tryz.func153
abbrev j9z:=qp×qu×qv×List (Int)×Unit→Option (Int×Unit)
def g7i (f:j9z):FEnt:=⟨Li9,jf,f⟩
def b0p (f218:z8e):=lk [(218,w7m f218)]
def v6z (f218:z8e):j9z:=fun (x0,x1,x2,x3,_) =>
 bif (↑x3.length:Int)==0 then some (0,())
 else
 bif decide (0<(↑x3.length:Int)) then
 (f218 (x0,x1,x2,x3.getD 0 0,())).bind fun v =>
 bif v.1==2 then some (2,())
 else
 bif v.1==3 then some (2,())
 else bif v.1==1 then some (v.1,()) else some (0,())
 else none
def j7c:j9z:=v6z q5y
theorem f5s:FO 187 (g7i j7c):=ww Li9 jf b0p v6z q5y (kc v4g kn) Tryz.func187
abbrev q4i:=Bool×Bool×List (Int)×Unit→Option (Bool×Unit)
def y5k (f:q4i):LEnt:=⟨w0f,y8w,f⟩
abbrev q4j:=Int×Bool×List (Int)×Unit→Option (Bool×Unit)
def y5l (f:q4j):LEnt:=⟨w0g,y8w,f⟩
abbrev z4u:=qp×qu×qv×List (Int)×Unit→Option (Bool×Unit)
def w7d (f:z4u):FEnt:=⟨Li9,qz,f⟩
def v9l (f153:q5j) (f185:j4b) (f186:z4w) (f187:j9z):=lk [(153,v5y f153),(185,w7h f185),(186,g7h f186),(187,g7i f187)]
theorem y3j:zk Tryz.prog (v9l q5w q7i j3q j7c):=(kc v3z (kc w6b (kc f5r (kc f5s kn))))
def j4z (f153:q5j) (f185:j4b) (f186:z4w) (f187:j9z):q4i:=fun (x0,x1,x2,_) =>
 bif decide (x2.length=8) then
 bif decide (Int.toNat 1<x2.length) then
 bif x2.getD 1 0==0 then
 bif x1 then some (bif x0 then false else true,()) else some (false,())
 else some (false,())
 else none
 else none
theorem k2q (f153:q5j) (f185:j4b) (f186:z4w) (f187:j9z):AqC (v9l f153 f185 f186 f187) 0 (qd (code Tryz.f154) [1,1,0,1,0,1,0,1,1]) .nil w0f y8w (j4z f153 f185 f186 f187):=fun v=>by kernel_rfl
def q7e:q4i:=j4z q5w q7i j3q j7c
theorem k4w:zj 0 (qd (code Tryz.f154) [1,1,0,1,0,1,0,1,1]) (y5k q7e) :=
 frc y3j (k2q q5w q7i j3q j7c)
def k0s (f154_c0:q4i):Ann:=(.cut .nil (y5k f154_c0))
def j5a (f153:q5j) (f185:j4b) (f186:z4w) (f187:j9z) (f154_c0:q4i):q4j:=fun (x0,x1,x2,_) =>
 bif x0==2 then (f154_c0 (x1,true,x2,())).bind fun v=>some (v.1,())
 else
 bif x0==3 then (f154_c0 (x1,true,x2,())).bind fun v=>some (v.1,())
 else
 bif x0==4 then (f154_c0 (x1,true,x2,())).bind fun v=>some (v.1,())
 else (f154_c0 (x1,x0==5,x2,())).bind fun v=>some (v.1,())
theorem k2r (f153:q5j) (f185:j4b) (f186:z4w) (f187:j9z) (f154_c0:q4i):AqC (v9l f153 f185 f186 f187) 0 (qd (code Tryz.f154) [1,1,0,1,0,1,0,1]) (k0s f154_c0) w0g y8w (j5a f153 f185 f186 f187 f154_c0):=fun v=>by kernel_rfl
def j4j:q4j:=j5a q5w q7i j3q j7c q7e
theorem k4x:zj 0 (qd (code Tryz.f154) [1,1,0,1,0,1,0,1]) (y5l j4j) :=
 frd y3j (And.intro k4w trivial) (k2r q5w q7i j3q j7c q7e)
def b2w (f154_c1:q4j):Ann:=(.seq .nil (.seq .nil (.seq (.seq .nil (.blk (.seq .nil (.cond (.cut .nil (y5l f154_c1)) .nil)))) .nil)))
def w8a (f153:q5j) (f185:j4b) (f186:z4w) (f187:j9z) (f154_c1:q4j):z4u:=fun (x0,x1,x2,x3,_) =>
 (f185 (x0,x1,x2,x3,())).bind fun v =>
 (f186 (x0,x1,x2,x3,())).bind fun v1 =>
 (f187 (x0,x1,x2,x3,())).bind fun v2 =>
 bif v2.1==2 then
 bif
 decide
 ([v.1,v.2.1,v.2.2.1,v.2.2.2.1,v.2.2.2.2.1,
 v.2.2.2.2.2.1,v.2.2.2.2.2.2.1,
 v.2.2.2.2.2.2.2.1].getD
 4 0 >
 0) then
 (f154_c1
 (v1.1,
 decide
 ([v.1,v.2.1,v.2.2.1,v.2.2.2.1,v.2.2.2.2.1,
 v.2.2.2.2.2.1,v.2.2.2.2.2.2.1,
 v.2.2.2.2.2.2.2.1].getD
 5 0 >
 0),
 [v.1,v.2.1,v.2.2.1,v.2.2.2.1,v.2.2.2.2.1,
 v.2.2.2.2.2.1,v.2.2.2.2.2.2.1,v.2.2.2.2.2.2.2.1],
 ())).bind
 fun v=>some (v.1,())
 else
 (f154_c1
 (v1.1,false,
 [v.1,v.2.1,v.2.2.1,v.2.2.2.1,v.2.2.2.2.1,
 v.2.2.2.2.2.1,v.2.2.2.2.2.2.1,v.2.2.2.2.2.2.2.1],
 ())).bind
 fun v=>some (v.1,())
 else
 bif v2.1==1 then
 (f153 (x0,x1,x2,x3,())).bind fun v =>
 bif !v.1 then bif v1.1==1 then some (true,()) else some (v1.1==4,())
 else some (false,())
 else some ((↑x3.length:Int)==0,())
theorem b7u (f153:q5j) (f185:j4b) (f186:z4w) (f187:j9z) (f154_c1:q4j):ye (v9l f153 f185 f186 f187) 0 Tryz.f154 (b2w f154_c1) Li9 qz (w8a f153 f185 f186 f187 f154_c1):=fun v=>by kernel_rfl
def y1h:z4u:=w8a q5w q7i j3q j7c j4j
theorem w5x:FO 154 (w7d y1h) :=
 qo y3j Tryz.func154 (And.intro k4x trivial) (b7u q5w q7i j3q j7c j4j)
abbrev x4e:=qp×qu×qv×List (Int)×Unit→Option (Bool×qp×qu×qv×List (Int)×Unit)
def g8p (f:x4e):FEnt:=⟨z0p,j2y,f⟩
def b1m (f153:q5j) (f154:z4u):=lk [(153,v5y f153),(154,w7d f154)]
def w8h (f153:q5j) (f154:z4u):x4e:=fun (x0,x1,x2,x3,_) =>
 (f153 (x0,x1,x2,x3,())).bind fun v =>
 bif v.1 then
 (f154 (x0,x1,x2,x3,())).bind fun v=>some (bif v.1 then false else true,x0,x1,x2,x3,())
 else some (false,x0,x1,x2,x3,())
theorem b8k (f153:q5j) (f154:z4u):ye (b1m f153 f154) 2 Tryz.f262 .nil z0p j2y (w8h f153 f154):=fun v=>by kernel_rfl
def x6s:x4e:=w8h q5w y1h
theorem f6z:FO 262 (g8p x6s) :=
 q0 (kc v3z (kc w5x kn)) Tryz.func262 (b8k q5w y1h)
abbrev x4f:=List (Int)×qa×Bool×Unit→Option (Bool×List (Int)×qa×Bool×Unit)
def g8q (f:x4f):FEnt:=⟨w0h,w3l,f⟩
def b1n (f223:z5b):=lk [(223,w7n f223)]
def w8i (f223:z5b):x4f:=fun (x0,x1,x2,_) =>
 (f223 (x0,())).bind fun v=>some (bif v.2.1 then false else true,x0,v.1,v.2.1,())
theorem b8l (f223:z5b):ye (b1n f223) 3 Tryz.f263 .nil w0h w3l (w8i f223):=fun v=>by kernel_rfl
def x6t:x4f:=w8i x1w
theorem f7a:FO 263 (g8q x6t) :=
 q0 (kc w6g kn) Tryz.func263 (b8l x1w)
abbrev x4g:=qa×Unit→Option (Bool×qa×Unit)
def g8r (f:x4g):FEnt:=⟨q1v,q1x,f⟩
def w8j:x4g:=fun (x0,_) =>
 some (decide (IntKind.i64.wrap (4+(↑x0.length:Int))>63),x0,())
theorem b8m:ye vf 1 Tryz.f264 .nil q1v q1x (w8j):=fun v=>by kernel_rfl
def x6u:x4g:=w8j
theorem f7b:FO 264 (g8r x6u) :=
 q0 kn Tryz.func264 (b8m)
abbrev x9m:=Int×Int×Int×Int×Int×Int×Int×Int×Int×qa×qp×qu×qv×List (Int)×qa×Bool×Unit→Option (Int×Int×Int×Int×Int×Int×Int×Int×Int×Int×qa×qp×qu×qv×List (Int)×qa×Bool×Unit)
def g8h (f:x9m):FEnt:=⟨w0i,w3m,f⟩
def b1f (f254:x3x) (f255:x3y) (f257:x4a) (f259:x4b) (f260:x4c) (f262:x4e) (f263:x4f) (f264:x4g):=lk [(254,g8i f254),(255,g8j f255),(257,g8l f257),(259,g8m f259),(260,g8n f260),(262,g8p f262),(263,g8q f263),(264,g8r f264)]
def b3r:Ann:=(.seq .nil (.seq (.seq .nil (.blk (.unroll 10 .nil))) .nil))
def x8s (f254:x3x) (f255:x3y) (f257:x4a) (f259:x4b) (f260:x4c) (f262:x4e) (f263:x4f) (f264:x4g):x9m:=fun (x0,x1,x2,x3,x4,x5,x6,x7,x8,x9,x10,x11,x12,x13,x14,x15,_) =>
 (f254 (x8,())).bind fun v =>
 bif v.1 then some (x0,x0,x1,x2,x3,x4,x5,x6,x7,v.2.1,x9,x10,x11,x12,x13,x14,x15,())
 else
 (f255 (x9,x10,x11,x12,())).bind fun v1 =>
 bif v1.1 then
 some
 (x1,x0,x1,x2,x3,x4,x5,x6,x7,v.2.1,v1.2.1,v1.2.2.1,v1.2.2.2.1,
 v1.2.2.2.2.1,x13,x14,x15,())
 else
 (f257 (v1.2.1,())).bind fun v2 =>
 bif v2.1 then
 some
 (x2,x0,x1,x2,x3,x4,x5,x6,x7,v.2.1,v2.2.1,v1.2.2.1,v1.2.2.2.1,
 v1.2.2.2.2.1,x13,x14,x15,())
 else
 (f259 (v1.2.2.1,v1.2.2.2.1,v1.2.2.2.2.1,x13,())).bind fun v3 =>
 bif v3.1 then
 some
 (x3,x0,x1,x2,x3,x4,x5,x6,x7,v.2.1,v2.2.1,v3.2.1,v3.2.2.1,
 v3.2.2.2.1,v3.2.2.2.2.1,x14,x15,())
 else
 (f260 (v3.2.1,v3.2.2.1,v3.2.2.2.1,v3.2.2.2.2.1,())).bind
 fun v4 =>
 bif v4.1 then
 some
 (x4,x0,x1,x2,x3,x4,x5,x6,x7,v.2.1,v2.2.1,v4.2.1,v4.2.2.1,
 v4.2.2.2.1,v4.2.2.2.2.1,x14,x15,())
 else
 (f262 (v4.2.1,v4.2.2.1,v4.2.2.2.1,v4.2.2.2.2.1,())).bind
 fun v5 =>
 bif v5.1 then
 some
 (x5,x0,x1,x2,x3,x4,x5,x6,x7,v.2.1,v2.2.1,v5.2.1,
 v5.2.2.1,v5.2.2.2.1,v5.2.2.2.2.1,x14,x15,())
 else
 (f263 (v5.2.2.2.2.1,x14,x15,())).bind fun v6 =>
 bif v6.1 then
 some
 (x6,x0,x1,x2,x3,x4,x5,x6,x7,v.2.1,v2.2.1,v5.2.1,
 v5.2.2.1,v5.2.2.2.1,v6.2.1,v6.2.2.1,
 v6.2.2.2.1,())
 else
 (f264 (v6.2.2.1,())).bind fun v7 =>
 bif v7.1 then
 some
 (x7,x0,x1,x2,x3,x4,x5,x6,x7,v.2.1,v2.2.1,v5.2.1,
 v5.2.2.1,v5.2.2.2.1,v6.2.1,v7.2.1,
 v6.2.2.2.1,())
 else
 some
 (0,x0,x1,x2,x3,x4,x5,x6,x7,v.2.1,v2.2.1,v5.2.1,
 v5.2.2.1,v5.2.2.2.1,v6.2.1,v7.2.1,
 v6.2.2.2.1,())
theorem k3h (f254:x3x) (f255:x3y) (f257:x4a) (f259:x4b) (f260:x4c) (f262:x4e) (f263:x4f) (f264:x4g):ye (b1f f254 f255 f257 f259 f260 f262 f263 f264) 7 Tryz.f253 b3r w0i w3m (x8s f254 f255 f257 f259 f260 f262 f263 f264):=fun v=>by kernel_rfl
def z7m:x9m:=x8s x6q z7n y1o y1q x2a x6s x6t x6u
theorem f6r:FO 253 (g8h z7m) :=
 qo (kc f6s (kc f6t (kc f6v (kc f6w (kc f6x (kc f6z (kc f7a (kc f7b kn)))))))) Tryz.func253 trivial (k3h x6q z7n y1o y1q x2a x6s x6t x6u)
abbrev x3p:=qp×qu×qv×qa×Unit→Option (Int×Unit)
def g7r (f:x3p):FEnt:=⟨xj,jf,f⟩
def b0z (f253:x9m) (f83:T83):=lk [(253,g8h f253),(83,E83 f83)]
def x8r (f253:x9m) (f83:T83):x3p:=fun (x0,x1,x2,x3,_) =>
 (f83 (x3,())).bind fun v =>
 (f253 (7,4,11,10,8,9,12,5,v.2.1,x3,x0,x1,x2,v.1,[],false,())).bind fun v =>
 some (v.1,())
def z2s:x3p:=x8r z7m C83
theorem f6b:FO 224 (g7r z2s):=zq2 xj jf b0z x8r z7m C83 (kc f6r (kc y0g kn)) Tryz.func224
abbrev x4h:=qa×Unit→Option (Bool×qa×Unit)
def g8s (f:x4h):FEnt:=⟨q1v,q1x,f⟩
def f0m:x4h:=fun (x0,_) =>
 some (x0==[],x0,())
theorem b8n:ye vf 1 Tryz.f265 .nil q1v q1x (f0m):=fun v=>by kernel_rfl
def w6v:x4h:=f0m
theorem f7c:FO 265 (g8s w6v) :=
 q0 kn Tryz.func265 (b8n)
abbrev x4i:=qa×Unit→Option (Bool×qa×Unit)
def g8t (f:x4i):FEnt:=⟨q1v,q1x,f⟩
def f0n:x4i:=fun (x0,_) =>
 some (decide ((↑x0.length:Int)>63),x0,())
theorem b8o:ye vf 1 Tryz.f266 .nil q1v q1x (f0n):=fun v=>by kernel_rfl
def w6w:x4i:=f0n
theorem f7d:FO 266 (g8t w6w) :=
 q0 kn Tryz.func266 (b8o)
abbrev q4q:=Int×Bool×Unit→Option (Bool×Unit)
def y6q (f:q4q):LEnt:=⟨y8j,y8x,f⟩
abbrev q9o:=Int×Bool×Unit→Option (Bool×Unit)
def y6r (f:q9o):LEnt:=⟨y8j,y8x,f⟩
abbrev x4k:=Int×Unit→Option (Bool×Unit)
def g8v (f:x4k):FEnt:=⟨q5i,qz,f⟩
def z4e:q4q:=fun (x0,x1,_) =>
 bif x1 then some (true,())
 else
 bif decide (x0≥48) then bif decide (x0≤57) then some (true,()) else some (x0==45,())
 else some (x0==45,())
def q7t:q4q:=z4e
theorem k6c:zj 0 (qd (code Tryz.f268) [1,0,0,0,1,1,1]) (y6q q7t):=zc0 y8j y8x vf z4e kn
def k1b (f268_c0:q4q):Ann:=(.cond .nil (.cut .nil (y6q f268_c0)))
def z4f (f268_c0:q4q):q9o:=fun (x0,x1,_) =>
 bif x1 then some (true,())
 else
 bif decide (x0≥65) then (f268_c0 (x0,decide (x0≤90),())).bind fun v=>some (v.1,())
 else (f268_c0 (x0,false,())).bind fun v=>some (v.1,())
theorem k3i (f268_c0:q4q):AqC vf 0 (qd (code Tryz.f268) [1,0,0,0,1]) (k1b f268_c0) y8j y8x (z4f f268_c0):=fun v=>by kernel_rfl
def q7u:q9o:=z4f q7t
theorem k6d:zj 0 (qd (code Tryz.f268) [1,0,0,0,1]) (y6r q7u) :=
 frd kn (And.intro k6c trivial) (k3i q7t)
def b3t (f268_c1:q9o):Ann:=(.seq .nil (.seq (.blk (.seq (.cut .nil (y6r f268_c1)) .nil)) .nil))
def w8k (f268_c1:q9o):x4k:=fun (x0,_) =>
 bif decide (x0≥97) then
 (f268_c1 (x0,decide (x0≤122),())).bind fun v =>
 bif v.1 then some (false,()) else some (true,())
 else (f268_c1 (x0,false,())).bind fun v=>bif v.1 then some (false,()) else some (true,())
def j7g:x4k:=w8k q7u
theorem f7f:FO 268 (g8v j7g):=q5v q5i qz vf b3t w8k q7u kn Tryz.func268 (And.intro k6d trivial)
abbrev j6e:=Bool×(qa×Int)×Unit→Option ((Int×Unit)⊕Unit)
def y5m (f:j6e):LEnt:=⟨w0k,y8y,f⟩
abbrev x9c:=qa×Bool×Unit→Option (Int×Unit)
def g6z (f:x9c):FEnt:=⟨w0j,jf,f⟩
def w8v (f268:x4k):=lk [(268,g8v f268)]
theorem v2e:zk Tryz.prog (w8v j7g):=(kc f7f kn)
def j5b (f268:x4k):yq (Bool×(qa×Int)×Unit) ((Int×Unit)⊕Unit):=fun (x0,x1,_) =>
 bif decide (Int.toNat x1.2<List.length x1.1) then
 (f268 ((↑(kr x1.1 (Int.toNat x1.2)).1:Int),())).bind fun v =>
 bif v.1==x0 then some (Sum.inr (Sum.inl ((↑(Int.toNat x1.2):Int),())))
 else some (Sum.inl (x0,(x1.1,(↑(Int.toNat x1.2+(kr x1.1 (Int.toNat x1.2)).2):Int)),()))
 else some (Sum.inr (Sum.inr ()))
def z2g:j6e:=qc (j5b j7g) jd
theorem k4y:jg 0 (qd (code Tryz.f156) [1,0,1,0,0]) (y5m z2g):=zl1 w0k y8y w8v j5b j7g v2e
def b2x (f156_l0:j6e):Ann:=(.seq .nil (.seq (.seq .nil (.blk (.loop (y5m f156_l0)))) .nil))
def v6r (f268:x4k) (f156_l0:j6e):x9c:=fun (x0,x1,_) =>
 (f156_l0 (x1,(x0,(↑0:Int)),())).bind fun v =>
 Sum.elim (fun v=>some (v.1,())) (fun v=>some (-1,())) v
def y1i:x9c:=v6r j7g z2g
theorem f5g:FO 156 (g6z y1i):=wn w0j jf w8v b2x v6r j7g z2g v2e Tryz.func156 (And.intro k4y trivial)
abbrev x9a:=qa×Unit→Option (Int×Unit)
def g6o (f:x9a):FEnt:=⟨y8k,jf,f⟩
def f9v (f156:x9c):=lk [(156,g6z f156)]
def v6h (f156:x9c):x9a:=fun (x0,_) =>
 (f156 (x0,true,())).bind fun v=>some (v.1,())
def x6i:x9a:=v6h y1i
theorem f4u:FO 123 (g6o x6i):=ww y8k jf f9v v6h y1i (kc f5g kn) Tryz.func123
abbrev T84:=qa×Unit→Option (Bool×Unit)
def E84 (f:T84):FEnt:=⟨y8k,qz,f⟩
def K84 (f123:x9a):=lk [(123,g6o f123)]
def F84 (f123:x9a):T84:=fun (x0,_) =>
 (f123 (x0,())).bind fun v=>some (decide (v.1≥0),())
def C84:T84:=F84 x6i
theorem b9x:FO 84 (E84 C84):=ww y8k qz K84 F84 x6i (kc f4u kn) Tryz.func84
abbrev x4j:=qa×Unit→Option (Bool×qa×Unit)
def g8u (f:x4j):FEnt:=⟨q1v,q1x,f⟩
def b1o (f84:T84):=lk [(84,E84 f84)]
def v7z (f84:T84):x4j:=fun (x0,_) =>
 (f84 (x0,())).bind fun v=>some (v.1,x0,())
theorem b8p (f84:T84):ye (b1o f84) 1 Tryz.f267 .nil q1v q1x (v7z f84):=fun v=>by kernel_rfl
def x6v:x4j:=v7z C84
theorem f7e:FO 267 (g8u x6v) :=
 q0 (kc b9x kn) Tryz.func267 (b8p C84)
abbrev x4l:=qa×Unit→Option (Bool×qa×Unit)
def g8w (f:x4l):FEnt:=⟨q1v,q1x,f⟩
def b1p (f258:z5e):=lk [(258,w7s f258)]
def w8l (f258:z5e):x4l:=fun (x0,_) =>
 (f258 (x0,())).bind fun v=>some (v.1,x0,())
theorem b8q (f258:z5e):ye (b1p f258) 1 Tryz.f269 .nil q1v q1x (w8l f258):=fun v=>by kernel_rfl
def v5w:x4l:=w8l y1p
theorem f7g:FO 269 (g8w v5w) :=
 q0 (kc w6l kn) Tryz.func269 (b8q y1p)
abbrev j7y:=Int×Int×Int×Int×qa×Unit→Option (Int×Int×Int×Int×Int×qa×Unit)
def x7r (f:j7y):FEnt:=⟨w0l,w3n,f⟩
def w9i (f265:x4h) (f266:x4i) (f267:x4j) (f269:x4l):=lk [(265,g8s f265),(266,g8t f266),(267,g8u f267),(269,g8w f269)]
def g0d:Ann:=(.seq .nil (.seq (.seq .nil (.blk (.unroll 6 .nil))) .nil))
def z4d (f265:x4h) (f266:x4i) (f267:x4j) (f269:x4l):j7y:=fun (x0,x1,x2,x3,x4,_) =>
 (f265 (x4,())).bind fun v =>
 bif v.1 then some (x0,x0,x1,x2,x3,v.2.1,())
 else
 (f266 (v.2.1,())).bind fun v =>
 bif v.1 then some (x1,x0,x1,x2,x3,v.2.1,())
 else
 (f267 (v.2.1,())).bind fun v =>
 bif v.1 then some (x2,x0,x1,x2,x3,v.2.1,())
 else
 (f269 (v.2.1,())).bind fun v =>
 bif v.1 then some (x3,x0,x1,x2,x3,v.2.1,())
 else some (0,x0,x1,x2,x3,v.2.1,())
theorem g3j (f265:x4h) (f266:x4i) (f267:x4j) (f269:x4l):ye (w9i f265 f266 f267 f269) 2 Tryz.f253 g0d w0l w3n (z4d f265 f266 f267 f269):=fun v=>by kernel_rfl
def j7f:j7y:=z4d w6v w6w x6v v5w
theorem k7z:FO 253 (x7r j7f) :=
 qo (kc f7c (kc f7d (kc f7e (kc f7g kn)))) Tryz.func253 trivial (g3j w6v w6w x6v v5w)
abbrev x3q:=qa×Unit→Option (Int×Unit)
def g7s (f:x3q):FEnt:=⟨xh,jf,f⟩
def b1a (f253v1:j7y):=lk [(253,x7r f253v1)]
def v7j (f253v1:j7y):x3q:=fun (x0,_) =>
 (f253v1 (13,5,8,11,x0,())).bind fun v=>some (v.1,())
def z7j:x3q:=v7j j7f
theorem f6c:FO 225 (g7s z7j):=ww xh jf b1a v7j j7f (kc k7z kn) Tryz.func225
abbrev j6r:=qa×Int×Int×Unit→Option (Unit⊕(Int×Unit))
def y6z (f:j6r):LEnt:=⟨w0m,z0t,f⟩
abbrev x9q:=qa×Int×Unit→Option (Int×Unit)
def g9n (f:x9q):FEnt:=⟨j9x,jf,f⟩
def j5t:yq (qa×Int×Int×Unit) (Unit⊕(Int×Unit)):=fun (x0,x1,x2,_) =>
 bif decide (x2≥0) then
 bif decide (0≤x2)&&decide (x2<(↑x0.length:Int)) then
 bif (↑(x0.getD x2.toNat 0).toNat:Int)==x1 then some (Sum.inr (Sum.inr (x2,())))
 else some (Sum.inl (x0,x1,IntKind.i64.wrap (x2 - 1),()))
 else none
 else some (Sum.inr (Sum.inl ()))
def z3a:j6r:=qc (j5t) jd
theorem k6l:jg 0 (qd (code Tryz.f293) [1,0,1,0,0]) (y6z z3a):=zl0 w0m z0t vf j5t kn
def b4a (f293_l0:j6r):Ann:=(.seq .nil (.seq (.seq .nil (.blk (.loop (y6z f293_l0)))) .nil))
def v8q (f293_l0:j6r):x9q:=fun (x0,x1,_) =>
 (f293_l0 (x0,x1,IntKind.i64.wrap ((↑x0.length:Int) - 1),())).bind fun v =>
 Sum.elim (fun v=>some (-1,())) (fun v=>some (v.1,())) v
def x6z:x9q:=v8q z3a
theorem f7z:FO 293 (g9n x6z):=q5v j9x jf vf b4a v8q z3a kn Tryz.func293 (And.intro k6l trivial)
abbrev z0a:=qa×Int×Unit→Option (Int×Unit)
def g8x (f:z0a):FEnt:=⟨j9x,jf,f⟩
def b1q (f293:x9q):=lk [(293,g9n f293)]
def v8a (f293:x9q):z0a:=fun (x0,x1,_) =>
 (f293 (x0,x1,())).bind fun v=>some (v.1,())
def j3s:z0a:=v8a x6z
theorem f7h:FO 270 (g8x j3s):=ww j9x jf b1q v8a x6z (kc f7z kn) Tryz.func270
abbrev q4t:=Int×Bool×Unit→Option ((Int×Bool×Unit)⊕Unit)
def y7a (f:q4t):LEnt:=⟨w0n,y8z,f⟩
abbrev q9u:=Int×Bool×Unit→Option ((Int×Bool×Unit)⊕Unit)
def y7b (f:q9u):LEnt:=⟨w0o,y8z,f⟩
abbrev z5h:=Int×Unit→Option (Int×Bool×Unit)
def g9o (f:z5h):FEnt:=⟨j3x,y8u,f⟩
def z4k:q4t:=fun (x0,x1,_) =>
 bif x1 then some (Sum.inl (IntKind.i64.wrap (IntKind.u8.wrap (x0 - 65)),true,()))
 else
 bif decide (x0≥97) then
 bif decide (x0≤122) then some (Sum.inl (IntKind.i64.wrap (IntKind.u8.wrap (x0 - 97)),true,()))
 else some (Sum.inr ())
 else some (Sum.inr ())
def q7y:q4t:=z4k
theorem k6m:zj 0 (qd (code Tryz.f294) [1,0,0,1,1,1]) (y7a q7y):=zc0 w0n y8z vf z4k kn
def k1c (f294_c0:q4t):Ann:=(.cond .nil (.cut .nil (y7a f294_c0)))
def z4l (f294_c0:q4t):q9u:=fun (x0,x1,_) =>
 bif x1 then some (Sum.inl (IntKind.i64.wrap (IntKind.i64.wrap (IntKind.u8.wrap (x0 - 48))+26),true,()))
 else
 bif decide (x0≥65) then
 (f294_c0 (x0,decide (x0≤90),())).bind fun v =>
 Sum.elim (fun v=>some (Sum.inl (v.1,v.2.1,()))) (fun v=>some (Sum.inr ())) v
 else
 (f294_c0 (x0,false,())).bind fun v =>
 Sum.elim (fun v=>some (Sum.inl (v.1,v.2.1,()))) (fun v=>some (Sum.inr ())) v
theorem k3m (f294_c0:q4t):AqC vf 0 (qd (code Tryz.f294) [1,0,0,1]) (k1c f294_c0) w0o y8z (z4l f294_c0):=fun v=>by kernel_rfl
def q7z:q9u:=z4l q7y
theorem k6n:zj 0 (qd (code Tryz.f294) [1,0,0,1]) (y7b q7z) :=
 frd kn (And.intro k6m trivial) (k3m q7y)
def b4b (f294_c1:q9u):Ann:=(.seq .nil (.seq (.blk (.cut .nil (y7b f294_c1))) .nil))
def w8n (f294_c1:q9u):z5h:=fun (x0,_) =>
 bif decide (x0≥48) then
 (f294_c1 (x0,decide (x0≤57),())).bind fun v =>
 Sum.elim (fun v=>some (v.1,v.2.1,())) (fun v=>some (0,false,())) v
 else
 (f294_c1 (x0,false,())).bind fun v =>
 Sum.elim (fun v=>some (v.1,v.2.1,())) (fun v=>some (0,false,())) v
def j1u:z5h:=w8n q7z
theorem f8a:FO 294 (g9o j1u):=q5v j3x y8u vf b4b w8n q7z kn Tryz.func294 (And.intro k6n trivial)
abbrev q9q:=qa×Int×Int×Int×Int×Int×Unit→Option (Unit⊕Unit⊕(Int×qa×Unit))
def y6t (f:q9q):LEnt:=⟨w0p,w3p,f⟩
abbrev q9p:=Unit→Option (Int×qa×Unit)
def y6s (f:q9p):LEnt:=⟨z0q,y9a,f⟩
abbrev z0b:=qa×Int×Unit→Option (Int×qa×Unit)
def g8y (f:z0b):FEnt:=⟨y8l,w3o,f⟩
def v9r (f290:q9s) (f294:z5h):=lk [(290,w7w f290),(294,g9o f294)]
theorem y3p:zk Tryz.prog (v9r q2f j1u):=(kc w6o (kc f8a kn))
def j5r (f290:q9s) (f294:z5h):yq (qa×Int×Int×Int×Int×Int×Unit) (Unit⊕Unit⊕(Int×qa×Unit)):=fun (x0,x1,x2,x3,x4,x5,_) =>
 bif decide (x5<x4) then
 bif decide (0≤x5)&&decide (x5<(↑x0.length:Int)) then
 (f294 ((↑(x0.getD x5.toNat 0).toNat:Int),())).bind fun v =>
 bif !v.2.1 then some (Sum.inr (Sum.inr (Sum.inl ())))
 else
 bif decide (x3>2147483647) then some (Sum.inr (Sum.inr (Sum.inl ())))
 else
 bif decide (IntKind.i64.wrap (x2+IntKind.i64.wrap (v.1*x3))>2147483647) then
 some (Sum.inr (Sum.inr (Sum.inl ())))
 else
 (f290 (IntKind.i64.wrap (36*IntKind.i64.wrap (x5+1)),x1,())).bind fun v1 =>
 bif decide (v.1<v1.1) then
 bif
 decide (0≤IntKind.i64.wrap (x5+1)) &&
 decide (IntKind.i64.wrap (x5+1)≤(↑x0.length:Int)) then
 some
 (Sum.inr
 (Sum.inr
 (Sum.inr
 (IntKind.i64.wrap (x2+IntKind.i64.wrap (v.1*x3)),
 List.drop (IntKind.i64.wrap (x5+1)).toNat x0,()))))
 else none
 else
 some
 (Sum.inl
 (x0,x1,IntKind.i64.wrap (x2+IntKind.i64.wrap (v.1*x3)),
 IntKind.i64.wrap (x3*IntKind.i64.wrap (36 - v1.1)),x4,IntKind.i64.wrap (x5+1),
 ()))
 else none
 else some (Sum.inr (Sum.inl ()))
def j4r:q9q:=qc (j5r q2f j1u) jd
theorem k6f:jg 0 (qd (code Tryz.f271) [1,0,1,0,1,0,0]) (y6t j4r):=zl2 w0p w3p v9r j5r q2f j1u y3p
def q8f (f290:q9s) (f294:z5h):yq (Unit) (Int×qa×Unit):=fun (_) =>
 some (Sum.inr (-1,[],()))
theorem k3j (f290:q9s) (f294:z5h) (v:HS z0q):aev Γ (v9r f290 f294) 0 ((findLabel (qd (code Tryz.f271) [1,0]) 0).getD .skip) .nil (v5k z0q v) (wy 0 0 [] z0q y9a)=q8f f290 f294 v:=by kernel_rfl
def j4q:q9p:=qc (q8f q2f j1u) jd
theorem k6e:js Tryz.prog 0 (jp Tryz.prog (qd (code Tryz.f271) [1,0]) 0) (y6s j4q) :=
 yb (ins:=z0q) (os:=y9a) (C:=j4q) (q6i (ins:=z0q) (os:=y9a) (n := .nil) (ls:=[]) (F:=q8f q2f j1u) (rest:=((findLabel (qd (code Tryz.f271) [1,0]) 0).getD .skip)) hm hΓ y3p (fun _=>jd) (by kernel_rfl) (jm _) j0s (k3j q2f j1u)) rfl
def b3u (f271_g0:q9p) (f271_l0:q9q):Ann:=(.seq .nil (.scope (.seq .nil (.seq (.seq .nil (.blk (.loop (y6t f271_l0)))) .nil)) [(0,(y6s f271_g0))]))
def v8b (f290:q9s) (f294:z5h) (f271_g0:q9p) (f271_l0:q9q):z0b:=fun (x0,x1,_) =>
 (f271_l0 (x0,x1,0,1,(↑x0.length:Int),0,())).bind fun v =>
 Sum.elim (fun v=>some (-1,[],()))
 (fun v =>
 Sum.elim (fun v=>(f271_g0 ()).bind fun v=>some (v.1,v.2.1,()))
 (fun v=>some (v.1,v.2.1,())) v)
 v
theorem b8r (f290:q9s) (f294:z5h) (f271_g0:q9p) (f271_l0:q9q):ye (v9r f290 f294) 0 Tryz.f271 (b3u f271_g0 f271_l0) y8l w3o (v8b f290 f294 f271_g0 f271_l0):=fun v=>by kernel_rfl
def j3t:z0b:=v8b q2f j1u j4q j4r
theorem f7i:FO 271 (g8y j3t) :=
 qo y3p Tryz.func271 (And.intro k6f (And.intro k6e trivial)) (b8r q2f j1u j4q j4r)
abbrev q9g:=qa×Int×Int×Int×Bool×List (Int)×Unit→Option ((List (Int)×Unit)⊕(Bool×Unit))
def y6c (f:q9g):LEnt:=⟨w0q,w3r,f⟩
abbrev q4n:=qa×List (Int)×Unit→Option (Bool×List (Int)×Unit)
def y6b (f:q4n):LEnt:=⟨w0r,w3s,f⟩
abbrev x3r:=qa×Unit→Option (List (Int)×Bool×Unit)
def g7t (f:x3r):FEnt:=⟨xh,w3q,f⟩
def v9o (f155:kq) (f21:T21) (f252:q0i) (f270:z0a) (f271:z0b) (f272:z5f):=lk [(155,v5z f155),(21,E21 f21),(252,w7r f252),(270,g8x f270),(271,g8y f271),(272,w7t f272)]
theorem y3m:zk Tryz.prog (v9o xa C21 wo j3s j3t j1t):=(kc v4a (kc v4e (kc w6k (kc f7h (kc f7i (kc f7j kn))))))
def j5j (f155:kq) (f21:T21) (f252:q0i) (f270:z0a) (f271:z0b) (f272:z5f):yq (qa×Int×Int×Int×Bool×List (Int)×Unit) ((List (Int)×Unit)⊕(Bool×Unit)):=fun (x0,x1,x2,x3,x4,x5,_) =>
 bif !x0==[] then
 (f271 (x0,x3,())).bind fun v =>
 bif decide (v.1<0) then some (Sum.inr (Sum.inr (false,())))
 else
 bif decide (IntKind.i64.wrap (x2+v.1)>2147483647) then some (Sum.inr (Sum.inr (false,())))
 else
 (f252 (v.1,IntKind.i64.wrap ((↑x5.length:Int)+1),x4,())).bind fun v1 =>
 bif IntKind.i64.wrap ((↑x5.length:Int)+1) != 0 then
 bif
 decide
 (IntKind.i64.wrap
 (x1 +
 IntKind.i64.wrap
 ((IntKind.i64.wrap (x2+v.1)).tdiv (IntKind.i64.wrap ((↑x5.length:Int)+1)))) >
 1114111) then
 some (Sum.inr (Sum.inr (false,())))
 else
 (f155
 (IntKind.i32.wrap
 (IntKind.i64.wrap
 (x1 +
 IntKind.i64.wrap
 ((IntKind.i64.wrap (x2+v.1)).tdiv (IntKind.i64.wrap ((↑x5.length:Int)+1))))),
 ())).bind
 fun v2 =>
 bif !v2.1 then some (Sum.inr (Sum.inr (false,())))
 else
 bif IntKind.i64.wrap ((↑x5.length:Int)+1) != 0 then
 (f272
 ((IntKind.i64.wrap (x2+v.1)).tmod (IntKind.i64.wrap ((↑x5.length:Int)+1)),x5,
 [IntKind.i32.wrap
 (IntKind.i64.wrap
 (x1 +
 IntKind.i64.wrap
 ((IntKind.i64.wrap (x2+v.1)).tdiv
 (IntKind.i64.wrap ((↑x5.length:Int)+1)))))],
 ())).bind
 fun v3 =>
 some
 (Sum.inl
 (v.2.1,
 IntKind.i64.wrap
 (x1 +
 IntKind.i64.wrap
 ((IntKind.i64.wrap (x2+v.1)).tdiv (IntKind.i64.wrap ((↑x5.length:Int)+1)))),
 IntKind.i64.wrap
 ((IntKind.i64.wrap (x2+v.1)).tmod (IntKind.i64.wrap ((↑x5.length:Int)+1))+1),
 v1.1,false,v3.1,()))
 else none
 else none
 else some (Sum.inr (Sum.inl (x5,())))
theorem k3b (f155:kq) (f21:T21) (f252:q0i) (f270:z0a) (f271:z0b) (f272:z5f):AqL (v9o f155 f21 f252 f270 f271 f272) 0 (qd (code Tryz.f226) [1,1,1,1,1,0,1,0,0]) .nil w0q w3r (j5j f155 f21 f252 f270 f271 f272):=fun v=>by kernel_rfl
def j4n:q9g:=qc (j5j xa C21 wo j3s j3t j1t) jd
theorem k5o:jg 0 (qd (code Tryz.f226) [1,1,1,1,1,0,1,0,0]) (y6c j4n) :=
 frl y3m (k3b xa C21 wo j3s j3t j1t)
def k0x (f226_l0:q9g):Ann:=(.seq .nil (.seq (.seq .nil (.blk (.loop (y6c f226_l0)))) .nil))
def j5i (f155:kq) (f21:T21) (f252:q0i) (f270:z0a) (f271:z0b) (f272:z5f) (f226_l0:q9g):q4n:=fun (x0,x1,_) =>
 (f226_l0 (x0,128,0,72,true,x1,())).bind fun v =>
 Sum.elim (fun v=>some (true,v.1,())) (fun v=>some (v.1,[],())) v
theorem k3a (f155:kq) (f21:T21) (f252:q0i) (f270:z0a) (f271:z0b) (f272:z5f) (f226_l0:q9g):AqC (v9o f155 f21 f252 f270 f271 f272) 0 (qd (code Tryz.f226) [1,1,1,1]) (k0x f226_l0) w0r w3s (j5i f155 f21 f252 f270 f271 f272 f226_l0):=fun v=>by kernel_rfl
def q1c:q4n:=j5i xa C21 wo j3s j3t j1t j4n
theorem k5n:zj 0 (qd (code Tryz.f226) [1,1,1,1]) (y6b q1c) :=
 frd y3m (And.intro k5o trivial) (k3a xa C21 wo j3s j3t j1t j4n)
def b3h (f226_c0:q4n):Ann:=(.seq .nil (.seq .nil (.seq .nil (.cut .nil (y6b f226_c0)))))
def v7k (f155:kq) (f21:T21) (f252:q0i) (f270:z0a) (f271:z0b) (f272:z5f) (f226_c0:q4n):x3r:=fun (x0,_) =>
 (f21 (x0,())).bind fun v =>
 bif decide (v.1≥0) then some ([],false,())
 else
 (f270 (x0,45,())).bind fun v =>
 bif decide (v.1>0) then
 bif decide (0≤v.1)&&decide (v.1≤(↑x0.length:Int)) then
 bif
 decide ((List.take (Int.toNat v.1) x0).length≤70368744177664) &&
 (List.take (Int.toNat v.1) x0).all fun b=>decide (b.toNat<128) then
 bif
 decide (0≤IntKind.i64.wrap (v.1+1)) &&
 decide (IntKind.i64.wrap (v.1+1)≤(↑x0.length:Int)) then
 (f226_c0
 (List.drop (IntKind.i64.wrap (v.1+1)).toNat x0,
 List.map (fun b=>(↑b.toNat:Int)) (List.take (Int.toNat v.1) x0),())).bind
 fun v=>some (v.2.1,v.1,())
 else none
 else none
 else none
 else (f226_c0 (x0,[],())).bind fun v=>some (v.2.1,v.1,())
theorem b8b (f155:kq) (f21:T21) (f252:q0i) (f270:z0a) (f271:z0b) (f272:z5f) (f226_c0:q4n):ye (v9o f155 f21 f252 f270 f271 f272) 0 Tryz.f226 (b3h f226_c0) xh w3q (v7k f155 f21 f252 f270 f271 f272 f226_c0):=fun v=>by kernel_rfl
def y1m:x3r:=v7k xa C21 wo j3s j3t j1t q1c
theorem f6d:FO 226 (g7t y1m) :=
 qo y3m Tryz.func226 (And.intro k5n trivial) (b8b xa C21 wo j3s j3t j1t q1c)
abbrev y2g:=qp×qu×qv×qa×Unit→Option (qa×qa×Int×Unit)
def w7i (f:y2g):FEnt:=⟨xj,w9w,f⟩
def b0q (f132:x3g) (f151:j9y) (f178:j4a) (f21:T21) (f223:z5b) (f224:x3p) (f225:x3q) (f226:x3r) (f83:T83):=lk [(132,g6s f132),(151,w7c f151),(178,v6c f178),(21,E21 f21),(223,w7n f223),(224,g7r f224),(225,g7s f225),(226,g7t f226),(83,E83 f83)]
def v7a (f132:x3g) (f151:j9y) (f178:j4a) (f21:T21) (f223:z5b) (f224:x3p) (f225:x3q) (f226:x3r) (f83:T83):y2g:=fun (x0,x1,x2,x3,_) =>
 (f151 (x0,x1,x2,x3,())).bind fun v =>
 (f132 (v.1,[120,110,45,45],())).bind fun v1 =>
 bif !v.2.1 then some ([],[],7,())
 else
 (f21 (v.1,())).bind fun v2 =>
 bif decide (v2.1≥0) then
 (f83 (v.1,())).bind fun v3 =>
 (f223 (v3.1,())).bind fun v4 =>
 bif decide ([120,110,45,45].length+List.length v4.1≤9223372036854775807) then
 (f224 (x0,x1,x2,v.1,())).bind fun v5 =>
 some ([120,110,45,45]++v4.1,v.1,v5.1,())
 else none
 else
 bif !v1.2.1 then (f225 (v.1,())).bind fun v3=>some (v.1,v.1,v3.1,())
 else
 (f226 (v1.1,())).bind fun v3 =>
 bif !v3.2.1 then some ([],[],12,())
 else
 bif decide ((↑(List.length v.1):Int)>63) then some ([],[],5,())
 else
 (f178 (v3.1,())).bind fun v4 =>
 (f224 (x0,x1,x2,v4.1,())).bind fun v5 =>
 bif v5.1 != 0 then some ([],[],v5.1,())
 else
 (f223 (v3.1,())).bind fun v6 =>
 bif !v6.1==v1.1 then some ([],[],12,())
 else some (v.1,v4.1,0,())
theorem b7x (f132:x3g) (f151:j9y) (f178:j4a) (f21:T21) (f223:z5b) (f224:x3p) (f225:x3q) (f226:x3r) (f83:T83):ye (b0q f132 f151 f178 f21 f223 f224 f225 f226 f83) 0 Tryz.f192 .nil xj w9w (v7a f132 f151 f178 f21 f223 f224 f225 f226 f83):=fun v=>by kernel_rfl
def z2k:y2g:=v7a y1g j1o z2i C21 x1w z2s z7j y1m C83
theorem w6c:FO 192 (w7i z2k) :=
 q0 (kc f4z (kc v3y (kc v4d (kc v4e (kc w6g (kc f6b (kc f6c (kc f6d (kc y0g kn))))))))) Tryz.func192 (b7x y1g j1o z2i C21 x1w z2s z7j y1m C83)
abbrev k1h:=qp×qu×qv×qa×Unit→Option (qa×Int×Unit)
def f9p (f:k1h):FEnt:=⟨xj,q2n,f⟩
def b0d (f192:y2g):=lk [(192,w7i f192)]
def v6s (f192:y2g):k1h:=fun (x0,x1,x2,x3,_) =>
 (f192 (x0,x1,x2,x3,())).bind fun v =>
 bif v.2.2.1 != 0 then some ([],v.2.2.1,()) else some (v.1,0,())
def z2h:k1h:=v6s z2k
theorem f5h:FO 159 (f9p z2h):=ww xj q2n b0d v6s z2k (kc w6c kn) Tryz.func159
abbrev g0j:=qp×qu×qv×qa×Unit→Option (qa×Int×Unit)
def f9q (f:g0j):FEnt:=⟨xj,q2n,f⟩
def b0e (f192:y2g):=lk [(192,w7i f192)]
def w8b (f192:y2g):g0j:=fun (x0,x1,x2,x3,_) =>
 (f192 (x0,x1,x2,x3,())).bind fun v =>
 bif v.2.2.1 != 0 then some ([],v.2.2.1,()) else some (v.2.1,0,())
def y1j:g0j:=w8b z2k
theorem f5i:FO 160 (f9q y1j):=ww xj q2n b0e w8b z2k (kc w6c kn) Tryz.func160
abbrev z8c:=qa×Int×Unit→Option (Int×Unit)
def w7e (f:z8c):FEnt:=⟨j9x,jf,f⟩
def b0f (f196:g0k):=lk [(196,g7l f196)]
def v6u (f196:g0k):z8c:=fun (x0,x1,_) =>
 (f196 (x0,x1,())).bind fun v=>some (v.1,())
def j3o:z8c:=v6u w6u
theorem w5y:FO 162 (w7e j3o):=ww j9x jf b0f v6u w6u (kc f5v kn) Tryz.func162
abbrev q9b:=qa×qa×Int×Bool×Unit→Option (Int×Unit)
def y5v (f:q9b):LEnt:=⟨w0s,w3t,f⟩
abbrev y2h:=qa×qa×Unit→Option (Int×Unit)
def w7k (f:y2h):FEnt:=⟨zx,jf,f⟩
def w9a (f162:z8c):=lk [(162,w7e f162)]
theorem v2j:zk Tryz.prog (w9a j3o):=(kc w5y kn)
def j5f (f162:z8c):q9b:=fun (x0,x1,x2,x3,_) =>
 bif x3 then some (0,())
 else
 bif x2==1 then
 bif decide (0<(↑x1.length:Int)) then
 (f162 (x0,(↑(x1.getD 0 0).toNat:Int),())).bind fun v=>some (v.1,())
 else none
 else bif decide (x2≥(↑x0.length:Int)) then some (-1,()) else none
def q3k:q9b:=j5f j3o
theorem k5h:zj 0 (qd (code Tryz.f197) [1,1,0,0,1]) (y5v q3k):=zc1 w0s w3t w9a j5f j3o v2j
def b3e (f197_c0:q9b):Ann:=(.seq .nil (.seq .nil (.seq (.blk (.cut .nil (y5v f197_c0))) .nil)))
def x8q (f162:z8c) (f197_c0:q9b):y2h:=fun (x0,x1,_) =>
 bif (↑x1.length:Int)==0 then
 (f197_c0 (x0,x1,(↑x1.length:Int),true,())).bind fun v=>some (v.1,())
 else (f197_c0 (x0,x1,(↑x1.length:Int),x1==x0,())).bind fun v=>some (v.1,())
def z2p:y2h:=x8q j3o q3k
theorem w6e:FO 197 (w7k z2p):=wn zx jf w9a b3e x8q j3o q3k v2j Tryz.func197 (And.intro k5h trivial)
abbrev x9e:=qa×qa×Unit→Option (qa×qa×Bool×Unit)
def g7b (f:x9e):FEnt:=⟨zx,y9b,f⟩
def b0g (f197:y2h):=lk [(197,w7k f197)]
def v6v (f197:y2h):x9e:=fun (x0,x1,_) =>
 (f197 (x0,x1,())).bind fun v =>
 bif decide (v.1≥0) then
 bif decide (0≤v.1)&&decide (v.1≤(↑x0.length:Int)) then
 bif
 decide (0≤IntKind.i64.wrap (v.1+(↑x1.length:Int))) &&
 decide (IntKind.i64.wrap (v.1+(↑x1.length:Int))≤(↑x0.length:Int)) then
 some
 (List.take (Int.toNat v.1) x0,List.drop (IntKind.i64.wrap (v.1+(↑x1.length:Int))).toNat x0,true,
 ())
 else none
 else none
 else some (x0,[],false,())
def x6l:x9e:=v6v z2p
theorem f5k:FO 163 (g7b x6l):=ww zx y9b b0g v6v z2p (kc w6e kn) Tryz.func163
abbrev g0i:=qa×qa×Unit→Option (qa×qa×Bool×Unit)
def f9o (f:g0i):FEnt:=⟨zx,y9b,f⟩
def f9y (f163:x9e):=lk [(163,g7b f163)]
def v6k (f163:x9e):g0i:=fun (x0,x1,_) =>
 (f163 (x0,x1,())).bind fun v=>some (v.1,v.2.1,v.2.2.1,())
def z7a:g0i:=v6k x6l
theorem f4y:FO 129 (f9o z7a):=ww zx y9b f9y v6k x6l (kc f5k kn) Tryz.func129
end Go.Proofs.YtiacnhhmkdkpmaaGreatDoorA.W
namespace Go.Proofs.YtiacnhhmkdkpmaaGreatDoorA.W
open Go Go.Ae Go.RowKit
attribute [local go_sem] Oper.semAt_some
theorem v0q {s sep l r:List UInt8} {ok:Bool} (h:z7a (s,sep,())=some (l,r,ok,())) {w:World} (hg:GI w m0) :
 Calls Tryz.prog 129 #[.string ⟨⟨s⟩⟩,.string ⟨⟨sep⟩⟩] w fun e w'=>e = .returned (.tuple #[.string ⟨⟨l⟩⟩,.string ⟨⟨r⟩⟩,.bool ok])∧Below w.heap.size w w':=by
 refine (zc.call0 (v:=(s,sep,())) (y:=(l,r,ok,())) f4y Tryz.func129 (by kernel_rfl) (by kernel_rfl) hg (fun _ h=>h.elim) rfl ⟨_,_,rfl,rfl,_,_,rfl,rfl,rfl⟩ rfl h ?_).mono fun e w' ⟨rv,h1,h2,ax,l',u,h3,h4⟩ => ?_
 · intro ax l' u h3
   cases ji h3;rfl
 · cases ji h3
   obtain ⟨v,r',e1,⟨a,e2,e3⟩,e4⟩:=h4;have e4':r'=[]:=e4;subst e4';cases e1;subst h1 e2;refine ⟨?_,h2⟩;obtain ⟨v1,q1,f1,rfl,v2,q2,f2,rfl,v3,q3,f3,rfl,f4⟩:=e3;have f4':q3=[]:=f4;subst f4' f3 f2;cases a;cases f1;rfl
def vt:Nat→List UInt8→Option (List (List UInt8))
 | 0,_=>none
 | n+1,s=>(z7a (s,[46],())).bind fun a=>bif a.2.2.1 then (vt n a.2.1).map (a.1 :: ·) else some [a.1]
theorem z5q {W W':World} {b:Nat} {t:TypeId} {v:Value} (h:Boxed W b t v) (hk:W'.heap[b]? = W.heap[b]?):Boxed W' b t v:=hk.trans h
set_option maxHeartbeats 4000000 in
theorem x5z (n:Nat) (hn:1≤n) (Bs:Nat) (s:List UInt8) (xs:List (List UInt8)) (N:Nat) (hxs:vt N s=some xs) (w:World) (hb:Boxed w Bs 9 (.string ⟨⟨s⟩⟩)) (hg:GI w m0) (hnb:∀b∈q2l,b≠Bs) :
 x2y Fence.wide n Tryz.prog 222 #[.pointer (some ⟨Bs,0,none⟩)] (fun x:List UInt8 => #[.string ⟨⟨x⟩⟩]) (fun b=>b=Bs∨b∈q2l) Bs xs w:=by
 intro l J Jx W hW hJ hJx hY h0;have hb':Boxed W Bs 9 (.string ⟨⟨s⟩⟩):=(hW.block Bs hb.lt).trans hb;have hg':GI W m0:=za hg hW;refine callsIn_of_wp Tryz.func222 rfl trivial ?_ rfl;simp only [Tryz.ntmps222,List.size_toArray,List.length_cons,List.length_nil,Nat.reduceAdd,Nat.reduceSub,Array.replicate_succ,Array.replicate_zero,List.push_toArray,List.append_toArray,List.nil_append,List.cons_append]
 gi_wp2
 gi_loopg [] N (fun k wr=>∃(pre t:List (List UInt8)) (rest:List UInt8),xs=pre++t∧vt k rest=some t∧J pre wr∧Boxed wr Bs 9 (.string ⟨⟨rest⟩⟩)∧GI wr m0)
 case atStart=>exact ⟨[],xs,s,rfl,hxs,h0,hb',hg'⟩
 case round =>
  rename_i JJ KK hJJ hKK;obtain ⟨pre,t,rest,hx,hp,hJs,hbx,hgr⟩:=hrel;cases gk with
  | zero=>cases hp
  | succ k =>
   simp only [vt] at hp;obtain ⟨⟨lf,rt,ok,u⟩,hc,hp2⟩:=Option.bind_eq_some_iff.1 hp;simp only at hp2;have hcell:=hbx.cell;have hpre:pre++[lf] <+: xs:=by
    rw [hx];cases ok with
    | true =>
     obtain ⟨t',h1,rfl⟩:=Option.map_eq_some_iff.1 hp2;exact ⟨t',by simp⟩
    | false =>
     have:t=[lf]:=(Option.some.inj hp2).symm;exact ⟨[],by simp [this]⟩
   gi_wp2_with (refine ⟨trivial,?_⟩;gi_at_call 129;refine (callsIn_wide.2 (v0q hc hgr)).mono ?_;rintro e w' ⟨rfl,hbel⟩;obtain ⟨fn,tmps,assign,body,hy,hR⟩:=hY pre lf w' hpre (hJ _ _ _ hJs (Oth.of_below hbel)))
   refine hR.mono ?_;rintro e W3 (⟨rfl,hJ3,hs3,hk3⟩ | ⟨rfl,hJx3⟩)
   · have hbx3:Boxed W3 Bs 9 (.string ⟨⟨rest⟩⟩):=(hk3 Bs (.inl rfl)).trans ((hbel.block Bs hbx.lt).trans hbx)
     have hg3:GI W3 m0:=z5y (za hgr hbel) hs3 fun b hb=>hk3 b (.inr hb);have hc3:=hbx3.cell;have hf3:=hbx3.frozen;cases ok with
     | true =>
      obtain ⟨t',h1,rfl⟩:=Option.map_eq_some_iff.1 hp2
      gi_wp2
      gi_roundg k
      case rel=>exact ⟨pre++[lf],t',rt,by simp [hx],h1,hJ _ _ _ hJ3 (Oth.set Bs 0 W3 _),Boxed.set _ hbx3,z5y hg3 (by simp) fun b hb=>Below.heap_setCell _ _ _ _ (hnb b hb)⟩
      case measure=>omega
     | false =>
      have ht:t=[lf]:=(Option.some.inj hp2).symm;subst ht
      gi_wp2
      refine bodyPost_ret (results_none rfl _ _ _) rfl ?_;exact ⟨⟨_,rfl⟩,.inl (hx▸hJ3)⟩
   · gi_wp2
     refine bodyPost_ret (results_none rfl _ _ _) rfl ?_;exact ⟨⟨_,rfl⟩,.inr ⟨_,hpre,hJx3⟩⟩
def encS (x:List UInt8):Value := .string ⟨⟨x⟩⟩
theorem q0e {N Bs base:Nat} {A B:World} {e:TypeId} {size k:Nat} {v:Value} {xs:List Value} (hBs:Bs<base) (h:A.ownsRow base e size v k xs) (ho:OthR N Bs A B):B.ownsRow base e size v k xs:=by
 refine ⟨h.1,?_⟩;rcases h.2 with h | ⟨g,cap,cur,e1,h2,h3,h4⟩
 · exact .inl h
 · exact .inr ⟨g,cap,cur,e1,h2,ho.keep g _ h3 (by omega) (.inr rfl),h4⟩
theorem v4t {N Bs:Nat} {W0 A B:World} (hN:W0.heap.size≤N) (h:Oth Bs W0 A) (ho:OthR N Bs A B):Oth Bs W0 B :=
 ⟨ho.os.trans h.os,ho.tape.trans h.tape,ho.output.trans h.output,Nat.le_trans h.size ho.size,fun b hb hne=>by
  have h1:=h.keep b hb hne;obtain ⟨o,h2⟩:∃o,W0.heap[b]? = some o:=⟨_,Array.getElem?_eq_getElem hb⟩
  rw [h2] at h1 ⊢;exact ho.keep b o h1 hne (.inl (by omega))⟩
theorem z9k:(Tryz.prog.info? 9).map (fun i=>(i.zero,i.size,i.bytes))=some (some (.string ⟨#[]⟩),1,16):=by kernel_rfl
set_option maxHeartbeats 4000000 in
theorem z9h (gf:Nat) (hgf:∀args w,(callFunc gf args).run Tryz.prog w = .ok (.enter gf args) w) (Bs:Nat) (xs:List (List UInt8)) (w:World) (hBs:Bs<w.heap.size) (hg:GI w m0) (hlen:xs.length≤1000000000000)
 (hseq:∀W,Below w.heap.size w W→x2y Fence.wide 2 Tryz.prog gf #[.pointer (some ⟨Bs,0,none⟩)] (fun x:List UInt8 => #[Value.string ⟨⟨x⟩⟩]) (fun b=>b=Bs∨b∈q2l) Bs xs W) :
 CallsIn Fence.wide 3 Tryz.prog 221 #[.slice none 0 0,.func (.func gf) #[] #[.pointer (some ⟨Bs,0,none⟩)]] w fun e W' =>
  ∃v,e = .returned v∧W'.ownsRow w.heap.size 9 1 v xs.length (xs.map encS)∧Oth Bs w W':=by
 obtain ⟨i0,hi,hz0,hz1,hz2⟩:=info_parts z9k;refine callsIn_of_wp_marks Tryz.func221 rfl trivial ?_ rfl;simp only [Tryz.ntmps221,List.size_toArray,List.length_cons,List.length_nil,Nat.reduceAdd,Nat.reduceSub,Array.replicate_succ,Array.replicate_zero,List.push_toArray,List.append_toArray,List.nil_append,List.cons_append]
 gi_wp2
 have hB0:Below w.heap.size w (w.alloc (.cells #[.slice none 0 0] 89)):=(Below.refl _ w).alloc (Nat.le_refl _) _;refine yt (F:=Fence.wide) rfl (by omega) (gf:=gf) (lb := #[.pointer (some ⟨Bs,0,none⟩)]) rfl trivial hgf (hseq _ hB0)
  (by rintro b (rfl | hb);· (rw [World.size_alloc];omega)
      · (have:=(hg.b b hb).1;rw [World.size_alloc];omega)) (by rw [World.size_alloc];omega) (fun _=>rfl)
  (fun pre W=>(∃v,Boxed W w.heap.size 89 v∧W.ownsRow w.heap.size 9 1 v pre.length (pre.map encS))∧Oth Bs w W)
  (fun _ _ _=>False)
  (fun s A B hs ho=>by
   obtain ⟨⟨v,h1,h2⟩,h3⟩:=hs;exact ⟨⟨v,xl h1 (by omega) ho,q0e hBs h2 ho⟩,v4t (by rw [World.size_alloc];omega) h3 ho⟩)
  (fun _ _ _ _ hs _=>hs)
  ⟨⟨_,Boxed.new _ _ _,World.ownsRow_nil _ _ _ _⟩,Oth.of_below hB0⟩
  (fun x=>{ tmps := #[.slice none 0 0,.func (.func gf) #[] #[.pointer (some ⟨Bs,0,none⟩)],.pointer (some ⟨w.heap.size,0,none⟩),undef,.slice none 0 0,.string ⟨⟨x⟩⟩,.func (.func gf) #[] #[.pointer (some ⟨Bs,0,none⟩)],.string ⟨⟨x⟩⟩,undef,undef,undef,undef,undef],defers:=[] }) ?assign ?body ?done ?stop
 case assign =>
  intro l x W K hK
  gi_wp2
  exact hK
 case body =>
  rintro l pre x W hsz hpre ⟨⟨v,hv,hrow⟩,hoth⟩;have hc:=hv.cell;have hpl:pre.length<xs.length:=by have:=hpre.length_le;simp at this;omega
  have hsz2:=hoth.size
  gi_wp2_with (gi_at_builtin;refine wpListIn_append_own _ rfl _ _ 89 rfl w.heap.size 9 i0 (.string ⟨#[]⟩) 1 16 Tryz.underlying89 hi hz0 hz1 hz2 rfl (by decide) _ _ _ rfl (hrow.alloc _) ⟨W.heap.size,0,none⟩ 1 1 [.string ⟨⟨x⟩⟩] rfl rfl (cell_one_new _ _ _) (by simp [Value.oneCell']) (by simp only [maxLen];omega) (by omega) (by simp;omega) ?_;intro v' w1 hown' hgrow _;obtain ⟨g',cap',rfl⟩:=ownsRow_succ hown';obtain ⟨hv1,hv2,hr2,hk2,hb2⟩:=hv.appended (by decide) hrow hsz2 (Nat.le_refl _) hown' hgrow;have hc1:=hv1.cell;have hf1:=hv1.frozen)
  exact ⟨hk2.from _,fun b hb=>hb2.block b (by
   rcases hb with rfl | hb
   · exact hBs
   · exact (hg.b b hb).1),⟨_,hv2,by simpa [encS] using hr2⟩,hb2.os.trans hoth.os,hb2.tape.trans hoth.tape,hb2.output.trans hoth.output,Nat.le_trans hoth.size hb2.size,fun b hb hne=>(hb2.block b hb).trans (hoth.keep b hb hne)⟩
 case done =>
  rintro D W hD ⟨⟨v,hv,hrow⟩,hoth⟩ hK;have hc:=hv.cell
  gi_wp2
  refine ⟨by simp,.inl ⟨_,_,rfl,run_takeDeferred hK,?_⟩⟩;have hD':w.heap.size+1≤D:=by rw [World.size_alloc] at hD;exact hD
  exact ⟨_,results_tmp rfl _ _ _,v,rfl,ownsRow_putObj hrow _ hK rfl,hoth.os,hoth.tape,hoth.output,by simpa [World.putObj] using hoth.size,fun b hb hne=>(World.putObj_heap_other (by omega)).trans (hoth.keep b hb hne)⟩
 case stop =>
  rintro D c pre W _ _ h _;exact h.elim
set_option maxHeartbeats 4000000 in
theorem y0r (s:List UInt8) (w:World):Calls Tryz.prog 190 #[.string ⟨⟨s⟩⟩] w fun e w'=>e = .returned (.func (.func 222) #[] #[.pointer (some ⟨w.heap.size,0,none⟩)])∧w'=w.alloc (.cells #[.string ⟨⟨s⟩⟩] 9):=by
 go_enter Tryz.func190,Tryz.ntmps190
 go_wp2
 go_returns
 exact ⟨rfl,rfl⟩
theorem z5v (gf Bs:Nat) (hgf:∀args w,(callFunc gf args).run Tryz.prog w = .ok (.enter gf args) w) (xs:List (List UInt8)) (w:World) (hBs:Bs<w.heap.size) (hg:GI w m0) (hlen:xs.length≤1000000000000)
 (hseq:∀W,Below w.heap.size w W→x2y Fence.wide 2 Tryz.prog gf #[.pointer (some ⟨Bs,0,none⟩)] (fun x:List UInt8 => #[Value.string ⟨⟨x⟩⟩]) (fun b=>b=Bs∨b∈q2l) Bs xs W) :
 Calls Tryz.prog 189 #[.func (.func gf) #[] #[.pointer (some ⟨Bs,0,none⟩)]] w fun e W' =>
  ∃v,e = .returned v∧W'.ownsRow w.heap.size 9 1 v xs.length (xs.map encS)∧Oth Bs w W':=by
 go_enter Tryz.func189,Tryz.ntmps189
 go_wp2_with (go_at_call 221;refine (callsIn_wide.1 (z9h gf hgf Bs xs w hBs hg hlen hseq)).mono ?_;rintro e W' ⟨v,rfl,h1,h2⟩)
 go_returns
 exact ⟨v,rfl,h1,h2⟩
def q0c (f:List UInt8) (ok:Bool):Option (List (List UInt8)×Int) :=
 bif !ok then some ([],7) else bif f.isEmpty then some ([],13) else
 bif decide (f.length≤1000000000) then
  (vt (f.length+2) (Lib.replaceAll f [227,128,130] [46])).bind fun ps=>bif decide (ps.length≤1000000000000) then (bif decide (32<ps.length) then some ([],2) else some (ps,0)) else none
 else none
theorem k7l {w:World} (hg:GI w m0):∃m,w.cell? ⟨2,0,none⟩=some (.int .i64 m):=by first | exact hg.i | exact hg.i.1
theorem z6r (f:List UInt8) (hf:f.length≤1000000000) (w:World) (hg:GI w m0) :
 Calls Tryz.prog 188 #[.string ⟨⟨f⟩⟩,.string ⟨#[227,128,130]⟩,.string ⟨#[46]⟩] w fun e w'=>e = .returned (.string ⟨⟨Lib.replaceAll f [227,128,130] [46]⟩⟩)∧Below w.heap.size w w':=by
 obtain ⟨m,hm⟩:=k7l hg;have hcnt:=Lib.count_le f [227,128,130];refine (Go.Proofs.Any.strings_ReplaceAll Tryz.lays155 Tryz.Builder_Extra_155 ⟨⟨f⟩⟩ ⟨#[227,128,130]⟩ ⟨#[46]⟩ m w ?_ hm ?_ ?_).mono ?_
 · show f.length<_
   omega
 · decide
 · show f.length+Lib.count f [227,128,130]*1≤_
   omega
 · rintro e w' ⟨h1,h2⟩
   exact ⟨h1,h2⟩
theorem x4y {Bs B:Nat} {A W W':World} (h:Below B A W) (hB:B≤W.heap.size) (hBs:B≤Bs) (ho:Oth Bs W W'):Below B A W' :=
 h.trans ⟨ho.os,ho.tape,ho.output,ho.size,fun k hk=>ho.keep k (by omega) (by omega)⟩
theorem q0v {W:World} {base:Nat} {e:TypeId} {v:Value} {n:Nat} {xs:List Value} (h:W.ownsRow base e 1 v n xs):∃a cap,v = .slice a n cap:=by
 rcases h.2 with ⟨h1,h2⟩ | ⟨g,cap,cur,h1,_⟩
 · subst h2;exact ⟨_,_,h1⟩
 · exact ⟨_,_,h1⟩
set_option maxHeartbeats 4000000 in
theorem z9q (v0 v1 v2 v3 v4:Value) (s f:List UInt8) (ok:Bool) (ls:List (List UInt8)) (c:Int) (w:World) (hg:GI w m0) (hC:q0c f ok=some (ls,c))
 (hfold:∀W,Below w.heap.size w W→Calls Tryz.prog 151 #[.agg #[v0,v1,v2,v3,v4],.string ⟨⟨s⟩⟩] W fun e W'=>e = .returned (.tuple #[.string ⟨⟨f⟩⟩,.bool ok])∧Below W.heap.size W W') :
 Calls Tryz.prog 157 #[.agg #[v0,v1,v2,v3,v4],.string ⟨⟨s⟩⟩] w fun e w'=>∃v,e = .returned (.tuple #[v,.int .i64 c])∧Below w.heap.size w w'∧w'.ownsRow w.heap.size 9 1 v ls.length (ls.map encS):=by
 have hW0:Below w.heap.size w (w.alloc (.cells #[v0,v1,v2,v3,v4] 39)):=(Below.refl _ w).alloc (Nat.le_refl _) _;have hF:=hfold _ hW0;clear hfold;cases ok with
 | false =>
  have hC':(([]:List (List UInt8)),(7:Int))=(ls,c):=Option.some.inj hC;cases hC'
  go_enter Tryz.func157,Tryz.ntmps157
  go_wp2_with (go_at_call 151;refine hF.mono ?_;rintro e w1 ⟨rfl,hb1⟩)
  go_returns
  exact ⟨_,rfl,hW0.trans (hb1.mono hW0.size),World.ownsRow_nil _ _ _ _⟩
 | true =>
  cases f with
  | nil =>
   have hC':(([]:List (List UInt8)),(13:Int))=(ls,c):=Option.some.inj hC;cases hC'
   go_enter Tryz.func157,Tryz.ntmps157
   go_wp2_with (go_at_call 151;refine hF.mono ?_;rintro e w1 ⟨rfl,hb1⟩)
   go_returns
   exact ⟨_,rfl,hW0.trans (hb1.mono hW0.size),World.ownsRow_nil _ _ _ _⟩
  | cons f0 f1 =>
   have hC1:(bif decide ((f0::f1).length≤1000000000) then
    (vt ((f0::f1).length+2) (Lib.replaceAll (f0::f1) [227,128,130] [46])).bind fun ps=>bif decide (ps.length≤1000000000000) then (bif decide (32<ps.length) then some (([]:List (List UInt8)),(2:Int)) else some (ps,0)) else none
    else none)=some (ls,c):=hC
   rcases jb hC1 with ⟨hlen,hC2⟩ | ⟨_,hC2⟩
   case inr=>cases hC2
   have hlen':=of_decide_eq_true hlen;obtain ⟨ps,hps,hC3⟩:=Option.bind_eq_some_iff.1 hC2;rcases jb hC3 with ⟨hl2,hC4⟩ | ⟨_,hC4⟩
   case inr=>cases hC4
   have hl2':=of_decide_eq_true hl2;have hcc:∀W:World,GI W m0→Calls Tryz.prog 189 #[.func (.func 222) #[] #[.pointer (some ⟨W.heap.size,0,none⟩)]] (W.alloc (.cells #[.string ⟨⟨Lib.replaceAll (f0::f1) [227,128,130] [46]⟩⟩] 9)) fun e W' =>
    ∃v,e = .returned v∧W'.ownsRow (W.alloc (.cells #[.string ⟨⟨Lib.replaceAll (f0::f1) [227,128,130] [46]⟩⟩] 9)).heap.size 9 1 v ps.length (ps.map encS)∧Oth W.heap.size (W.alloc (.cells #[.string ⟨⟨Lib.replaceAll (f0::f1) [227,128,130] [46]⟩⟩] 9)) W':=fun W hgW=>by
    have hbW:Below W.heap.size W (W.alloc (.cells #[.string ⟨⟨Lib.replaceAll (f0::f1) [227,128,130] [46]⟩⟩] 9)):=(Below.refl _ W).alloc (Nat.le_refl _) _;have hgW':=za hgW hbW;refine z5v 222 W.heap.size (enters_of Tryz.func222 (by kernel_rfl) rfl) ps _ (by rw [World.size_alloc];omega) hgW' hl2' fun W2 hb2 => ?_;exact x5z 2 (by omega) W.heap.size _ ps _ hps W2 (z5q (Boxed.new _ _ _) (hb2.block _ (by rw [World.size_alloc];omega))) (za hgW' hb2) fun b hb=>by have:=(hgW.b b hb).1;omega
   have hg1:=fun W hb=>z6r (f0::f1) hlen' W (za hg hb);generalize Lib.replaceAll (f0::f1) [227,128,130] [46]=r at hps hcc hg1;have jy:∀{w1 w2 w4:World} {v:Value},Below (w.alloc (.cells #[v0,v1,v2,v3,v4] 39)).heap.size (w.alloc (.cells #[v0,v1,v2,v3,v4] 39)) w1→Below w1.heap.size w1 w2→w4.ownsRow (w2.alloc (.cells #[.string ⟨⟨r⟩⟩] 9)).heap.size 9 1 v ps.length (ps.map encS)→Oth w2.heap.size (w2.alloc (.cells #[.string ⟨⟨r⟩⟩] 9)) w4→Below w.heap.size w w4∧w4.ownsRow w.heap.size 9 1 v ps.length (ps.map encS):=by
    intro w1 w2 w4 v h1 h2 h3 h4;have b2:Below w.heap.size w w2:=(hW0.trans (h1.mono hW0.size)).trans (h2.mono (by have:=hW0.size;have:=h1.size;omega));have b3:Below w.heap.size w (w2.alloc (.cells #[.string ⟨⟨r⟩⟩] 9)):=b2.alloc b2.size _;refine ⟨x4y b3 b3.size b2.size h4,h3.1,?_⟩;rcases h3.2 with h | ⟨g,cap,cur,e1,e2,e3⟩
    · exact .inl h
    · exact .inr ⟨g,cap,cur,e1,Nat.le_trans b3.size e2,e3⟩
   have Fin:Hid _ := @jy;clear jy;by_cases h32:32<ps.length
   · rw [decide_eq_true h32,cond_true] at hC4
     have hC':(([]:List (List UInt8)),(2:Int))=(ls,c):=Option.some.inj hC4;cases hC';clear hC hC1 hC2 hC3 hC4
     go_enter Tryz.func157,Tryz.ntmps157
     go_wp2_with (first
      | (go_at_call 151;refine hF.mono ?_;rintro e w1 ⟨rfl,hb1⟩)
      | (go_at_call 188;refine (hg1 _ (hW0.trans (hb1.mono hW0.size))).mono ?_;rintro e w2 ⟨rfl,hb2⟩)
      | (go_at_call 190;refine (y0r r _).mono ?_;rintro e w3 ⟨rfl,rfl⟩)
      | (go_at_call 189;have hgw2:GI w2 m0:=za (za (za hg hW0) hb1) hb2;refine (hcc _ hgw2).mono ?_;rintro e w4 ⟨v,rfl,hrow,hoth⟩;obtain ⟨sa,sc,rfl⟩:=q0v hrow)
      | go_in)
     go_returns
     exact ⟨_,rfl,(Fin.out hb1 hb2 hrow hoth).1,World.ownsRow_nil _ _ _ _⟩
   · rw [decide_eq_false h32,cond_false] at hC4
     have hC':(ps,(0:Int))=(ls,c):=Option.some.inj hC4;cases hC';clear hC hC1 hC2 hC3 hC4
     go_enter Tryz.func157,Tryz.ntmps157
     go_wp2_with (first
      | (go_at_call 151;refine hF.mono ?_;rintro e w1 ⟨rfl,hb1⟩)
      | (go_at_call 188;refine (hg1 _ (hW0.trans (hb1.mono hW0.size))).mono ?_;rintro e w2 ⟨rfl,hb2⟩)
      | (go_at_call 190;refine (y0r r _).mono ?_;rintro e w3 ⟨rfl,rfl⟩)
      | (go_at_call 189;have hgw2:GI w2 m0:=za (za (za hg hW0) hb1) hb2;refine (hcc _ hgw2).mono ?_;rintro e w4 ⟨v,rfl,hrow,hoth⟩;obtain ⟨sa,sc,rfl⟩:=q0v hrow)
      | go_in)
     go_returns
     exact ⟨_,rfl,(Fin.out hb1 hb2 hrow hoth).1,(Fin.out hb1 hb2 hrow hoth).2⟩
set_option maxHeartbeats 4000000 in
theorem y4n (n:Nat) (hn:1≤n) (Bs base:Nat) (v:Value) (xs:List (List UInt8)) (K:Nat→Prop) (w:World) (hb:Boxed w Bs 89 v) (hrow:w.ownsRow base 9 1 v xs.length (xs.map encS)) (hlen:xs.length≤1000000000000) (hKb:K Bs) (hKv:∀b,v.ownBlock=some b→K b) (Bd:Nat) :
 x2y Fence.wide n Tryz.prog 191 #[.pointer (some ⟨Bs,0,none⟩)] (fun x:List UInt8 => #[Value.string ⟨⟨x⟩⟩]) K Bd xs w:=by
 intro l J Jx W hW hJ hJx hY h0;have hb':Boxed W Bs 89 v:=(hW.block Bs hb.lt).trans hb;have hc:=hb'.cell;rcases hrow.2 with ⟨rfl,hn0⟩ | ⟨g,cap,cur,rfl,hg1,hg2,hg3,hg4,hg5,hg6⟩
 · have hx:xs=[]:=List.eq_nil_of_length_eq_zero hn0
   subst hx;refine callsIn_of_wp Tryz.func191 rfl trivial ?_ rfl;simp only [Tryz.ntmps191,List.size_toArray,List.length_cons,List.length_nil,Nat.reduceAdd,Nat.reduceSub,Array.replicate_succ,Array.replicate_zero,List.push_toArray,List.append_toArray,List.nil_append,List.cons_append]
   gi_wp2
   gi_loopw [7] (fun i wr=>i = .int .i64 0∧J [] wr) (fun _ _=>0)
   case atStart=>exact ⟨rfl,h0⟩
   case round =>
    obtain ⟨rfl,hJs⟩:=hrel
    gi_wp2
    go_end0
    exact ⟨⟨_,rfl⟩,.inl hJs⟩
 · have hKg:K g:=hKv g rfl
   have hgW:W.heap[g]? = some (.cells cur 9 (0,0)):=(hW.block g (lt_of_some hg2)).trans hg2;have hcur:∀(k:Nat) x,xs[k]? = some x→cur[k]? = some (.string ⟨⟨x⟩⟩):=fun k x hk=>by
    have hlt:k<xs.length:=(List.getElem?_eq_some_iff.1 hk).1;have h1:(cur.toList.take (xs.length*1))[k]? = some (encS x):=by rw [hg6,List.getElem?_map,hk];rfl
    rw [List.getElem?_take_of_lt (by omega),Array.getElem?_toList] at h1;exact h1
   refine callsIn_of_wp Tryz.func191 rfl trivial ?_ rfl;simp only [Tryz.ntmps191,List.size_toArray,List.length_cons,List.length_nil,Nat.reduceAdd,Nat.reduceSub,Array.replicate_succ,Array.replicate_zero,List.push_toArray,List.append_toArray,List.nil_append,List.cons_append];generalize hN:xs.length=N at *
   gi_wp2
   gi_loopw [7] (fun i wr=>∃k:Nat,i = .int .i64 k∧k≤N∧Hid (J (xs.take k) wr)∧Hid (wr.heap[g]? = some (.cells cur 9 (0,0)))) (fun i _=>N - (intOf i).toNat)
   case atStart=>exact ⟨0,rfl,Nat.zero_le _,h0,hgW⟩
   case round =>
    obtain ⟨k,rfl,hk,hJs,hgr⟩:=hrel;by_cases hlt:k<N
    · obtain ⟨x,hx⟩:∃x,xs[k]? = some x:=⟨_,List.getElem?_eq_getElem (by omega)⟩
      have htk:xs.take (k+1)=xs.take k++[x]:=by rw [List.take_add_one,hx];rfl
      have hpre:xs.take k++[x] <+: xs:=htk▸List.take_prefix _ _;have hcx:wr.cell? ⟨g,k,none⟩=some (.string ⟨⟨x⟩⟩):=by simp only [World.cell?,hgr.out];exact hcur k x hx
      obtain ⟨fn,tmps,assign,body,hy,hR⟩:=hY _ x wr hpre hJs.out;clear hcur
      gi_wp2
      refine hR.mono ?_;rintro e W3 (⟨rfl,hJ3,hs3,hk3⟩ | ⟨rfl,hJx3⟩)
      · have hg3:Hid (W3.heap[g]? = some (.cells cur 9 (0,0))):=(hk3 g hKg).trans hgr.out
        have hJ4:Hid (J (xs.take (k+1)) W3):=by rw [htk];exact hJ3
        gi_wp2
        go_roundw
        case rel=>exact ⟨k+1,by simp,by omega,hJ4,hg3⟩
        case measure=>simp [intOf];omega
      · gi_wp2
        refine bodyPost_ret (results_none rfl _ _ _) rfl ?_;exact ⟨⟨_,rfl⟩,.inr ⟨_,hpre,hJx3⟩⟩
    · obtain rfl:k=N:=by omega
      gi_wp2
      go_end0
      exact ⟨⟨_,rfl⟩,.inl (by have:=hJs.out;rwa [List.take_of_length_le (by omega)] at this)⟩
set_option maxHeartbeats 4000000 in
theorem x6f (a:Option Addr) (n cap:Nat) (w:World):Calls Tryz.prog 158 #[.slice a n cap] w fun e w'=>e = .returned (.func (.func 191) #[] #[.pointer (some ⟨w.heap.size,0,none⟩)])∧w'=w.alloc (.cells #[.slice a n cap] 89):=by
 go_enter Tryz.func158,Tryz.ntmps158
 go_wp2
 go_returns
 exact ⟨rfl,rfl⟩
def K0:qn:=fun f=>Ae.lookA f []
theorem b9f:zk Tryz.prog K0:=y9w _
noncomputable def k1q:Code:=match qd (code Tryz.f124) [1,1,1,1,0,1,0] with | .rangeFunc _ _ _ b=>b | c=>c
noncomputable def z1n:Array Oper:=match qd k1q [0,1,1,1] with | .region _ ops _=>ops | _ => #[]
def t11 (x y:List UInt8):List AV:=[.top,.top,.top,.top,.top,.top,.top,.top,.top,.ptr 2 0,.ptr 3 0,.top,.str x,.top,.str y]++List.replicate 45 .top
def o11 (ps qs:List (List UInt8)):qj:=[[.rowc 9 .str ps],[.rowc 9 .str qs],[.row 0],[.row 1]]
def k7t (ps qs:List (List UInt8)) (x y:List UInt8):qj:=[[],[],[.row 5],[.row 7],[.rowc 9 .str [x]],[.rowc 9 .str (ps++[x])],[.rowc 9 .str [y]],[.rowc 9 .str (qs++[y])]]
theorem r11 (ps qs:List (List UInt8)) (x y:List UInt8):q0a Γ K0 z1n ⟨t11 x y,o11 ps qs⟩ (fun s=>some s.o) =
 bif decide (ps.length+1≤140737488355328/16) then (bif decide (qs.length+1≤140737488355328/16) then some (k7t ps qs x y) else none) else none:=by kernel_rfl
theorem b9g:∀(i:Nat) o,z1n[i]? = some o→∀c,o.op ≠ .defer c:=by
 have h:(z1n.toList.all fun o=>match o.op with | .defer _=>false | _=>true)=true:=by kernel_rfl
 intro i o ho c hc;have:=List.all_eq_true.1 h o (Array.mem_toList_iff.2 (Array.mem_of_getElem? ho));rw [hc] at this;cases this
theorem x1f {w:World} {m:Md} {g:List Value}:∀(av:List AV) (vs:List Value),av.length=vs.length→(∀(i:Nat) v,vs[i]? = some v→qg w m g (av.getD i .top) v)→qe w m g av vs
 | [],[],_,_=>rfl
 | a::av,v::vs,hl,h=>⟨v,vs,rfl,h 0 v rfl,x1f av vs (by simpa using hl) fun i u hu=>h (i+1) u hu⟩
structure Two (base A9 A10:Nat) (W:World) (ps qs:List (List UInt8)):Prop where
 ex:∃va vu t9 t10,Boxed W A9 t9 va∧Boxed W A10 t10 vu∧W.ownsRow base 9 1 va ps.length (ps.map encS)∧W.ownsRow base 9 1 vu qs.length (qs.map encS) ∧
  (∀b,va.ownBlock=some b→b≠A9∧b≠A10∧vu.ownBlock≠some b)∧∀b,vu.ownBlock=some b→b≠A9∧b≠A10
def k1i (A9 A10:Nat) (va vu:Value) (b:Nat):Prop:=b=A9∨b=A10∨va.ownBlock=some b∨vu.ownBlock=some b
theorem y0u {w:World} {m:Md} {l:List (List UInt8)} {xs:List Value} (h:yi w m .str l xs) (hl:xs.length=l.length*1):xs=l.map encS:=by
 apply List.ext_getElem?;intro j;rw [List.getElem?_map];by_cases hj:j<l.length
 · have h1:((xs.drop (j*1)).take 1)=[.string ⟨⟨l[j]⟩⟩]:=h j l[j] (List.getElem?_eq_getElem hj)
   have h2:((xs.drop (j*1)).take 1)[0]? = some (.string ⟨⟨l[j]⟩⟩):=by rw [h1];rfl
   rw [List.getElem?_take_of_lt (by omega),List.getElem?_drop] at h2;simp only [Nat.mul_one,Nat.add_zero] at h2;rw [h2,List.getElem?_eq_getElem hj];rfl
 · rw [List.getElem?_eq_none (by omega),List.getElem?_eq_none (by omega)]
   rfl
theorem v1k {w:World} {m:Md} (l:List (List UInt8)):yi w m .str l (l.map encS):=by
 intro j x hj
 change List UInt8 at x
 change l[j]? = some x at hj
 show ((l.map encS).drop (j*1)).take 1=[.string ⟨⟨x⟩⟩]
 have hlt:=(List.getElem?_eq_some_iff.1 hj).1;have:((l.map encS).drop j)=encS x::(l.map encS).drop (j+1):=by
  rw [←List.map_drop,List.drop_eq_getElem_cons hlt,List.map_cons,List.map_drop];rw [(List.getElem?_eq_some_iff.1 hj).2]
 rw [Nat.mul_one,this];rfl
theorem row_zero {W:World} {base:Nat} {e:TypeId} {size n:Nat} {v:Value} {xs:List Value} (h:W.ownsRow base e size v n xs):W.ownsRow 0 e size v n xs:=by
 refine ⟨h.1,?_⟩;rcases h.2 with h | ⟨g,cap,cur,e1,h2,h3⟩
 · exact .inl h
 · exact .inr ⟨g,cap,cur,e1,Nat.zero_le _,h3⟩
theorem y4d {W:World} {base:Nat} {e:TypeId} {size n:Nat} {v:Value} {xs:List Value} (h:W.ownsRow base e size v n xs):∀b,v.ownBlock=some b→base≤b∧b<W.heap.size∧∃o,W.heap[b]? = some o∧o.isCells=true:=by
 rcases h.2 with ⟨rfl,_⟩ | ⟨g,cap,cur,rfl,h2,h3,_⟩
 · intro b hb;cases hb
 · intro b hb;cases hb;exact ⟨h2,lt_of_some h3,_,h3,rfl⟩
theorem z8s {w:World} {m:Md} {g:List Value} {A:Nat} {t:TypeId} {v:Value} {i:Nat} (h:Boxed w A t v) (hi:g[i]? = some v) (hv:∃ao n c,v = .slice ao n c):RepO w m g (.pointer (some ⟨A,0,none⟩)) [.row i] :=
 ⟨fun _ _ _ e=>(by cases e),fun _ _ e=>(by cases e),fun _=>⟨A,t,_,rfl,h,v,[],rfl,⟨hi,hv⟩,rfl⟩,fun _ _ e=>(by cases e),trivial⟩
theorem y0x {w:World} {m:Md} {g:List Value} {base:Nat} {v:Value} {l:List (List UInt8)} (h:w.ownsRow base 9 1 v l.length (l.map encS)):RepO w m g v [.rowc 9 .str l] :=
 ⟨fun _ _ _ e=>(by cases e;exact ⟨_,row_zero h,v1k l⟩),fun _ _ e=>(by cases e),fun e=>(by cases e),fun _ _ e=>(by cases e),trivial⟩
theorem v4z (l n0:Nat) (ps qs:List (List UInt8)) (x y:List UInt8) (hp:ps.length≤1000000000000) (hq:qs.length≤1000000000000) (tm:List Value) (base R A9 A10:Nat) (hR:base≤R) (W:World) (hg:GI W m0) (hgb:∀b∈q2l,b<base)
 (hne:A9≠A10) (h9:base≤A9) (h10:base≤A10) (h:Two R A9 A10 W ps qs) (hlen:tm.length=60) (hbase:R≤W.heap.size)
 (e9:tm[9]? = some (.pointer (some ⟨A9,0,none⟩))) (e10:tm[10]? = some (.pointer (some ⟨A10,0,none⟩))) (e12:tm[12]? = some (.string ⟨⟨x⟩⟩)) (e14:tm[14]? = some (.string ⟨⟨y⟩⟩)) :
 (Code.region 11 z1n true).wpIn (Fence.wide.inRound l) n0 Tryz.prog (fun e a' w'=>e = .normal∧Two R A9 A10 w' (ps++[x]) (qs++[y])∧w'.os=W.os∧w'.tape=W.tape∧w'.output=W.output∧W.heap.size≤w'.heap.size ∧
  (∀b,b<R→b≠A9→b≠A10→w'.heap[b]? = W.heap[b]?)∧∀(b:Nat) (o:Obj),W.heap[b]? = some o→o.isCells=false→w'.heap[b]? = some o) { tmps:=tm.toArray,defers:=[] } W:=by
 obtain ⟨va,vu,t9,t10,b9,b10,r9,r10,s1,s2⟩:=h.ex;have g1:=y4d r9;have g2:=y4d r10;obtain ⟨sa1,sc1,es1⟩:=q0v r9;obtain ⟨sa2,sc2,es2⟩:=q0v r10;have hmu:∀b,k1i A9 A10 va vu b→base≤b∧b<W.heap.size∧∃o,W.heap[b]? = some o∧o.isCells=true:=by
  rintro b (rfl | rfl | hb | hb)
  · exact ⟨h9,b9.lt,_,b9,rfl⟩
  · exact ⟨h10,b10.lt,_,b10,rfl⟩
  · have:=g1 b hb;exact ⟨by omega,this.2⟩
  · have:=g2 b hb;exact ⟨by omega,this.2⟩
 have hrep:Rep W ⟨k1i A9 A10 va vu,k1i A9 A10 va vu⟩ [va,vu,.pointer (some ⟨A9,0,none⟩),.pointer (some ⟨A10,0,none⟩)] ⟨t11 x y,o11 ps qs⟩ { tmps:=tm.toArray,defers:=[] }:=by
  refine ⟨?_,rfl,?_⟩
  · refine x1f _ _ (by simp [t11,hlen]) fun i v hv => ?_
    have hv':tm[i]? = some v:=hv;have hi:i<60:=hlen▸(List.getElem?_eq_some_iff.1 hv').1;by_cases i9:i=9
    · subst i9;rw [e9] at hv';cases hv';exact ⟨A9,rfl,rfl⟩
    by_cases i10:i=10
    · subst i10;rw [e10] at hv';cases hv';exact ⟨A10,rfl,rfl⟩
    by_cases i12:i=12
    · subst i12;rw [e12] at hv';cases hv';rfl
    by_cases i14:i=14
    · subst i14;rw [e14] at hv';cases hv';rfl
    have ht:(t11 x y).getD i .top = .top:=by
     have hc:i=0∨i=1∨i=2∨i=3∨i=4∨i=5∨i=6∨i=7∨i=8∨i=11∨i=13∨15≤i:=by omega
     rcases hc with rfl | rfl | rfl | rfl | rfl | rfl | rfl | rfl | rfl | rfl | rfl | hc
     iterate 11 rfl
     unfold t11;rw [List.getD_eq_getElem?_getD,List.getElem?_append_right (by simpa using hc),List.getElem?_replicate];split<;>rfl
    rw [ht];trivial
  · refine ⟨⟨hg.i,fun b hb=>⟨(hg.b b hb).1,fun hc => ?_⟩⟩,rfl,?_,fun _ h=>h,fun b hb=>(hmu b hb).2.1,?_,?_⟩
    · have:=(hmu b hc).1;have:=hgb b hb;omega
    · rintro b ⟨i,gi,cs,k1,k2,k3⟩
      match i with
      | 0=>cases k1;cases k2;exact .inr (.inr (.inl k3))
      | 1=>cases k1;cases k2;exact .inr (.inr (.inr k3))
      | 2=>cases k1;cases k2;cases k3;exact .inl rfl
      | 3=>cases k1;cases k2;cases k3;exact .inr (.inl rfl)
      | i+4=>cases k1
    · intro i gi cs k1 k2
      match i with
      | 0=>cases k1;cases k2;exact y0x r9
      | 1=>cases k1;cases k2;exact y0x r10
      | 2=>cases k1;cases k2;exact z8s b9 rfl ⟨_,_,_,es1⟩
      | 3=>cases k1;cases k2;exact z8s b10 rfl ⟨_,_,_,es2⟩
      | i+4=>cases k1
    · intro i j gi gj ci cj b hij k1 k2 k3 k4 k5 k6
      match i,j with
      | 0,0 | 1,1 | 2,2 | 3,3=>exact hij rfl
      | 0,1=>cases k1;cases k2;cases k3;cases k4;exact (s1 b k5).2.2 k6
      | 1,0=>cases k1;cases k2;cases k3;cases k4;exact (s1 b k6).2.2 k5
      | 0,2=>cases k1;cases k2;cases k3;cases k4;cases k6;exact (s1 _ k5).1 rfl
      | 0,3=>cases k1;cases k2;cases k3;cases k4;cases k6;exact (s1 _ k5).2.1 rfl
      | 1,2=>cases k1;cases k2;cases k3;cases k4;cases k6;exact (s2 _ k5).1 rfl
      | 1,3=>cases k1;cases k2;cases k3;cases k4;cases k6;exact (s2 _ k5).2 rfl
      | 2,0=>cases k1;cases k2;cases k3;cases k4;cases k5;exact (s1 _ k6).1 rfl
      | 3,0=>cases k1;cases k2;cases k3;cases k4;cases k5;exact (s1 _ k6).2.1 rfl
      | 2,1=>cases k1;cases k2;cases k3;cases k4;cases k5;exact (s2 _ k6).1 rfl
      | 3,1=>cases k1;cases k2;cases k3;cases k4;cases k5;exact (s2 _ k6).2 rfl
      | 2,3=>cases k1;cases k2;cases k3;cases k4;cases k5;cases k6;exact hne rfl
      | 3,2=>cases k1;cases k2;cases k3;cases k4;cases k5;cases k6;exact hne rfl
      | i+4,_=>cases k1
      | _,j+4=>cases k3
 have hlim:(140737488355328:Nat)/16=8796093022208:=rfl;have hrun:q0a Γ K0 z1n ⟨t11 x y,o11 ps qs⟩ (fun s=>some s.o)=some (k7t ps qs x y):=by
  rw [r11,hlim,decide_eq_true (show ps.length+1≤8796093022208 by omega),decide_eq_true (show qs.length+1≤8796093022208 by omega)];rfl
 refine wpIn_mono (y2u l n0 b9g hm hΓ b9f hrep hrun (Q:=fun a' w'=>Two R A9 A10 w' (ps++[x]) (qs++[y])∧w'.os=W.os∧w'.tape=W.tape∧w'.output=W.output∧W.heap.size≤w'.heap.size ∧
  (∀b,b<R→b≠A9→b≠A10→w'.heap[b]? = W.heap[b]?)∧∀(b:Nat) (o:Obj),W.heap[b]? = some o→o.isCells=false→w'.heap[b]? = some o) ?_) fun e a' w' h=>h
 intro st' a' w' m' g' k1 k2 k3 k4;have ho:st'.o=k7t ps qs x y:=Option.some.inj k1;have hob:=k2.obj;rw [ho] at hob;have q2:g'[2]? = some (.pointer (some ⟨A9,0,none⟩)):=k4 2 _ rfl;have q3:g'[3]? = some (.pointer (some ⟨A10,0,none⟩)):=k4 3 _ rfl;have hlen8:g'.length=8:=hob.len;obtain ⟨v5,q5⟩:∃v,g'[5]? = some v:=⟨_,List.getElem?_eq_getElem (by omega)⟩
 obtain ⟨v7,q7⟩:∃v,g'[7]? = some v:=⟨_,List.getElem?_eq_getElem (by omega)⟩
 obtain ⟨b2,ty2,arr2,z1,z2,z3⟩:=(hob.obj 2 _ [.row 5] q2 rfl).box rfl;obtain ⟨b3,ty3,arr3,y1,y2,y3⟩:=(hob.obj 3 _ [.row 7] q3 rfl).box rfl;cases z1;cases y1;obtain ⟨u5,r5,z4,⟨z5,z6⟩,z7⟩:=z3;obtain ⟨u7,r7,y4,⟨y5,y6⟩,y7⟩:=y3;rw [q5] at z5;rw [q7] at y5;cases z5;cases y5;have z7':r5=[]:=z7;have y7':r7=[]:=y7;subst z7' y7';obtain ⟨xs5,o5,p5⟩:=(hob.obj 5 _ [.rowc 9 .str (ps++[x])] q5 rfl).rowc _ _ _ rfl;obtain ⟨xs7,o7,p7⟩:=(hob.obj 7 _ [.rowc 9 .str (qs++[y])] q7 rfl).rowc _ _ _ rfl;have hx5:=y0u p5 o5.1;have hx7:=y0u p7 o7.1;subst hx5 hx7;have hge:∀(i:Nat) gi cs b,i≠2→i≠3→g'[i]? = some gi→(k7t ps qs x y)[i]? = some cs→blk gi cs=some b→R≤b:=fun i gi cs b n2 n3 c1 c2 c3=>by
  by_cases hlt:b<W.heap.size
  · rcases k3.mutb b hlt (hob.nm b (hob.sub b ⟨i,gi,cs,c1,c2,c3⟩)) with h | h | h | h
    · exact (hob.sep i 2 _ _ _ _ _ n2 c1 c2 q2 rfl c3 (by rw [h];rfl)).elim
    · exact (hob.sep i 3 _ _ _ _ _ n3 c1 c2 q3 rfl c3 (by rw [h];rfl)).elim
    · exact (g1 b h).1
    · exact (g2 b h).1
  · omega
 have hkeep:∀(b:Nat) (o:Obj),W.heap[b]? = some o→¬k1i A9 A10 va vu b→w'.heap[b]? = some o:=fun b o hb hn=>(k3.keep b (lt_of_some hb) hn).trans hb;refine ⟨⟨v5,v7,ty2,ty3,?_,?_,?_,?_,?_,?_⟩,k3.os,k3.tape,k3.output,k3.size,?_,?_⟩
 · have:arr2 = #[v5]:=by cases arr2;simpa using z4
   subst this;exact z2
 · have:arr3 = #[v7]:=by cases arr3;simpa using y4
   subst this;exact y2
 · exact j9g o5 fun b hb=>hge 5 _ _ b (by decide) (by decide) q5 rfl hb
 · exact j9g o7 fun b hb=>hge 7 _ _ b (by decide) (by decide) q7 rfl hb
 · intro b hb
   refine ⟨?_,?_,fun hc => ?_⟩
   · rintro rfl;exact hob.sep 5 2 _ _ _ _ _ (by decide) q5 rfl q2 rfl hb rfl
   · rintro rfl;exact hob.sep 5 3 _ _ _ _ _ (by decide) q5 rfl q3 rfl hb rfl
   · exact hob.sep 5 7 _ _ _ _ _ (by decide) q5 rfl q7 rfl hb hc
 · intro b hb
   refine ⟨?_,?_⟩
   · rintro rfl;exact hob.sep 7 2 _ _ _ _ _ (by decide) q7 rfl q2 rfl hb rfl
   · rintro rfl;exact hob.sep 7 3 _ _ _ _ _ (by decide) q7 rfl q3 rfl hb rfl
 · intro b hb hn9 hn10
   refine k3.keep b (by omega) fun hc => ?_;rcases hc with h | h | h | h
   · exact hn9 h
   · exact hn10 h
   · have:=(g1 b h).1;omega
   · have:=(g2 b h).1;omega
 · intro b o hb hc
   refine hkeep b o hb fun hcc => ?_;obtain ⟨_,_,o',e1,e2⟩:=hmu b hcc;rw [hb] at e1;cases e1;rw [hc] at e2;cases e2
def q1y (A U:List UInt8→Option (List UInt8×Int)):List (List UInt8)→List (List UInt8)→List (List UInt8)→Option (Int×List (List UInt8)×List (List UInt8))
 | [],ps,qs=>some (0,ps,qs)
 | x::xs,ps,qs=>(A x).bind fun a=>bif a.2 != 0 then some (a.2,[],[]) else (U x).bind fun u=>q1y A U xs (ps++[a.1]) (qs++[u.1])
theorem y1b {N Bs R A9 A10:Nat} {W W':World} {ps qs:List (List UInt8)} (h:Two R A9 A10 W ps qs) (h9:A9≠Bs) (h10:A10≠Bs) (hR:Bs<R) (ho:OthR N Bs W W'):Two R A9 A10 W' ps qs:=by
 obtain ⟨va,vu,t9,t10,b9,b10,r9,r10,s1,s2⟩:=h.ex;exact ⟨va,vu,t9,t10,xl b9 h9 ho,xl b10 h10 ho,q0e hR r9 ho,q0e hR r10 ho,s1,s2⟩
theorem v5d {W:World} {base:Nat} {v:Value} {l:List (List UInt8)} (h:W.ownsRow base 9 1 v l.length (l.map encS)):qx W m0 (.lst .str) l [v]:=by
 rcases h.2 with ⟨rfl,h0⟩ | ⟨g,cap,cur,rfl,h2,h3,h4,h5,h6,h7⟩
 · have hl:l=[]:=List.eq_nil_of_length_eq_zero h0
   subst hl;exact ⟨none,0,rfl,Nat.le_refl _,by omega,fun _=>rfl,fun j x hj=>by
    have hj':([]:List (List UInt8))[j]? = some x:=hj;simp at hj'⟩
 · refine ⟨_,cap,rfl,h4,by simp only [maxLen] at h5;omega,fun e=>(by cases e),fun j x hj => ?_⟩
   change List UInt8 at x
   change l[j]? = some x at hj
   refine ⟨g,0,[.string ⟨⟨x⟩⟩],rfl,rfl,rfl,lt_of_some h3,fun hm=>hm,fun i u hu => ?_⟩;have hlt:=(List.getElem?_eq_some_iff.1 hj).1
   match i with
   | i+1=>cases hu
   | 0 =>
    cases hu;have h1:(cur.toList.take (l.length*1))[j]? = some (encS x):=by rw [h7,List.getElem?_map,hj];rfl
    rw [List.getElem?_take_of_lt (by omega),Array.getElem?_toList] at h1;simp only [World.cell?,h3];show cur[0+j*1+0]? = _;rw [show 0+j*1+0=j by omega];exact h1
theorem z1g {W:World} {base:Nat} {v:Value} {l:List (List UInt8)} {r:List UInt8} (h:W.ownsRow base 9 1 v l.length (l.map encS)) (hj:q5q (l,[46],())=some (r,())) (hg:GI W m0) :
 Calls Tryz.prog 73 #[v,.string ⟨#[46]⟩] W fun e W'=>e = .returned (.string ⟨⟨r⟩⟩)∧Below W.heap.size W W':=by
 have hj':C73 (l,[46],())=some (r,()):=hj;refine (zc.call0 (v:=(l,[46],())) (y:=(r,())) b9v Tryz.func73 (by kernel_rfl) (by kernel_rfl) hg (fun _ h=>h.elim) rfl ⟨v,_,rfl,v5d h,_,_,rfl,rfl,rfl⟩ rfl hj' ?_).mono fun e w' ⟨rv,h1,h2,ax,l',u,h3,h4⟩ => ?_
 · intro ax l' u h3
   cases ji h3;rfl
 · cases ji h3
   obtain ⟨v,r',e1,e2,e4⟩:=h4;have e4':r'=[]:=e4;subst e4';cases e1;subst h1 e2;exact ⟨rfl,h2⟩
def y0q (res:Int×List (List UInt8)×List (List UInt8)):Option (List UInt8×List UInt8×Int) :=
 bif res.1 != 0 then some ([],[],res.1) else (q5q (res.2.1,[46],())).bind fun ja=>bif decide (253<ja.1.length) then some ([],[],5) else (q5q (res.2.2,[46],())).bind fun ju=>some (ja.1,ju.1,0)
set_option maxHeartbeats 4000000 in
theorem x5a (v0 v1 v2 v3 v4:Value) (s:List UInt8) (ls:List (List UInt8)) (A U:List UInt8→Option (List UInt8×Int)) (res:Int×List (List UInt8)×List (List UInt8)) (w:World) (hg:GI w m0) (hll:ls.length≤32)
 (hres:q1y A U ls [] []=some res) (oa ou:List UInt8) (oc:Int) (hout:y0q res=some (oa,ou,oc))
 (hlab:∀W,Below w.heap.size w W→Calls Tryz.prog 157 #[.agg #[v0,v1,v2,v3,v4],.string ⟨⟨s⟩⟩] W fun e w'=>∃v,e = .returned (.tuple #[v,.int .i64 0])∧Below W.heap.size W w'∧w'.ownsRow W.heap.size 9 1 v ls.length (ls.map encS))
 (hA:∀x r,A x=some r→∀W,Below w.heap.size w W→Calls Tryz.prog 159 #[.agg #[v0,v1,v2,v3,v4],.string ⟨⟨x⟩⟩] W fun e W'=>e = .returned (.tuple #[.string ⟨⟨r.1⟩⟩,.int .i64 r.2])∧Below W.heap.size W W')
 (hU:∀x r,U x=some r→∀W,Below w.heap.size w W→Calls Tryz.prog 160 #[.agg #[v0,v1,v2,v3,v4],.string ⟨⟨x⟩⟩] W fun e W'=>e = .returned (.tuple #[.string ⟨⟨r.1⟩⟩,.int .i64 r.2])∧Below W.heap.size W W') :
 Calls Tryz.prog 124 #[.agg #[v0,v1,v2,v3,v4],.string ⟨⟨s⟩⟩] w fun e w'=>e = .returned (.tuple #[.string ⟨⟨oa⟩⟩,.string ⟨⟨ou⟩⟩,.int .i64 oc])∧Below w.heap.size w w':=by
 refine (callsIn_wide (n:=3)).1 ?_;refine callsIn_of_wp_marks Tryz.func124 rfl trivial ?_ rfl;simp only [Tryz.ntmps124,List.size_toArray,List.length_cons,List.length_nil,Nat.reduceAdd,Nat.reduceSub,Array.replicate_succ,Array.replicate_zero,List.push_toArray,List.append_toArray,List.nil_append,List.cons_append];have hW0:Below w.heap.size w ((((w.alloc (.cells #[v0,v1,v2,v3,v4] 39)).alloc (.cells #[.string ⟨#[]⟩] 9)).alloc (.cells #[.string ⟨#[]⟩] 9)).alloc (.cells #[.int .i64 0] 44)) :=
  ((((Below.refl _ w).alloc (Nat.le_refl _) _).alloc (by simp) _).alloc (by simp<;>omega) _).alloc (by simp<;>omega) _
 gi_wp2_with (first
  | (refine ⟨trivial,?_⟩;gi_at_call 157;refine (callsIn_wide.2 (hlab _ hW0)).mono ?_;rintro e w1 ⟨lv,rfl,hb1,hrow⟩;obtain ⟨la,lc,rfl⟩:=q0v hrow)
  | (refine ⟨trivial,?_⟩;gi_at_call 158;refine (callsIn_wide.2 (x6f _ _ _ _)).mono ?_;rintro e w2 ⟨rfl,rfl⟩))
 have hb0:Below w.heap.size w w1:=hW0.trans (hb1.mono hW0.size);have hsz1:w.heap.size+4≤w1.heap.size:=by have:=hb1.size;simp at this;omega
 have hT:∀X,Below w1.heap.size w1 X→X.cell? ⟨w.heap.size,0,none⟩=some v0∧X.cell? ⟨w.heap.size,1,none⟩=some v1∧X.cell? ⟨w.heap.size,2,none⟩=some v2∧X.cell? ⟨w.heap.size,3,none⟩=some v3∧X.cell? ⟨w.heap.size,4,none⟩=some v4:=fun X hX=>by
  have h1:X.heap[w.heap.size]? = some (.cells #[v0,v1,v2,v3,v4] 39):=by
   rw [hX.block _ (by omega),hb1.block _ (by simp<;>omega),Below.heap_alloc _ _ _ (by simp<;>omega),Below.heap_alloc _ _ _ (by simp<;>omega),Below.heap_alloc _ _ _ (by simp),heap_alloc_new]
  exact ⟨by rw [qf h1];rfl,by rw [qf h1];rfl,by rw [qf h1];rfl,by rw [qf h1];rfl,by rw [qf h1];rfl⟩
 have hR:∀X,Below w1.heap.size w1 X→Boxed X (w.heap.size+1) 9 (.string ⟨#[]⟩)∧Boxed X (w.heap.size+1+1) 9 (.string ⟨#[]⟩)∧Boxed X (w.heap.size+1+1+1) 44 (.int .i64 0):=fun X hX=>by
  refine ⟨?_,?_,?_⟩
  · show X.heap[_]? = _
    rw [hX.block _ (by omega),hb1.block _ (by simp<;>omega),Below.heap_alloc _ _ _ (by simp<;>omega),Below.heap_alloc _ _ _ (by simp)];have:=heap_alloc_new (w.alloc (.cells #[v0,v1,v2,v3,v4] 39)) (.cells #[.string ⟨#[]⟩] 9)
    rwa [World.size_alloc] at this
  · show X.heap[_]? = _
    rw [hX.block _ (by omega),hb1.block _ (by simp<;>omega),Below.heap_alloc _ _ _ (by simp)];have:=heap_alloc_new ((w.alloc (.cells #[v0,v1,v2,v3,v4] 39)).alloc (.cells #[.string ⟨#[]⟩] 9)) (.cells #[.string ⟨#[]⟩] 9)
    rwa [World.size_alloc,World.size_alloc] at this
  · show X.heap[_]? = _
    rw [hX.block _ (by omega),hb1.block _ (by simp)];have:=heap_alloc_new (((w.alloc (.cells #[v0,v1,v2,v3,v4] 39)).alloc (.cells #[.string ⟨#[]⟩] 9)).alloc (.cells #[.string ⟨#[]⟩] 9)) (.cells #[.int .i64 0] 44)
    rwa [World.size_alloc,World.size_alloc,World.size_alloc] at this
 have hg1:GI w1 m0:=za hg hb0;have hW2:Below w1.heap.size w1 (((w1.alloc (.cells #[.slice none 0 0] 89)).alloc (.cells #[.slice none 0 0] 89)).alloc (.cells #[.slice la ls.length lc] 89)) :=
  (((Below.refl _ w1).alloc (Nat.le_refl _) _).alloc (by simp) _).alloc (by simp<;>omega) _
 have hszN:(((w1.alloc (.cells #[.slice none 0 0] 89)).alloc (.cells #[.slice none 0 0] 89)).alloc (.cells #[.slice la ls.length lc] 89)).heap.size=w1.heap.size+3:=by simp
 have hbv:Boxed (((w1.alloc (.cells #[.slice none 0 0] 89)).alloc (.cells #[.slice none 0 0] 89)).alloc (.cells #[.slice la ls.length lc] 89)) (w1.heap.size+1+1) 89 (.slice la ls.length lc):=by
  have:=Boxed.new ((w1.alloc (.cells #[.slice none 0 0] 89)).alloc (.cells #[.slice none 0 0] 89)) 89 (.slice la ls.length lc)
  rwa [World.size_alloc,World.size_alloc] at this
 have hb9:Boxed (((w1.alloc (.cells #[.slice none 0 0] 89)).alloc (.cells #[.slice none 0 0] 89)).alloc (.cells #[.slice la ls.length lc] 89)) w1.heap.size 89 (.slice none 0 0) :=
  ((Boxed.new w1 89 (.slice none 0 0)).alloc _).alloc _
 have hb10:Boxed (((w1.alloc (.cells #[.slice none 0 0] 89)).alloc (.cells #[.slice none 0 0] 89)).alloc (.cells #[.slice la ls.length lc] 89)) (w1.heap.size+1) 89 (.slice none 0 0):=by
  have:=(Boxed.new (w1.alloc (.cells #[.slice none 0 0] 89)) 89 (.slice none 0 0)).alloc (.cells #[.slice la ls.length lc] 89)
  rwa [World.size_alloc] at this
 have hrow2:(((w1.alloc (.cells #[.slice none 0 0] 89)).alloc (.cells #[.slice none 0 0] 89)).alloc (.cells #[.slice la ls.length lc] 89)).ownsRow 0 9 1 (.slice la ls.length lc) ls.length (ls.map encS):=by
  have:=row_zero hrow;exact ((this.alloc _).alloc _).alloc _
 have hown:∀b,(Value.slice la ls.length lc).ownBlock=some b→b<w1.heap.size:=fun b hb=>((y4d hrow) b hb).2.1;clear hlab;refine yt (F:=Fence.wide) (n:=3) rfl (by omega) (gf:=191) (lb := #[.pointer (some ⟨w1.heap.size+1+1,0,none⟩)]) rfl trivial (enters_of Tryz.func191 (by kernel_rfl) rfl)
  (K:=fun b=>b=w1.heap.size+1+1∨(Value.slice la ls.length lc).ownBlock=some b)
  (y4n 2 (by omega) (w1.heap.size+1+1) 0 _ ls _ _ hbv hrow2 (by omega) (.inl rfl) (fun b hb => .inr hb) (w1.heap.size+1+1))
  (by rintro b (rfl | hb)
      · rw [hszN];omega
      · have:=hown b hb;rw [hszN];omega) (by rw [hszN];omega) (fun _=>rfl)
  (fun pre W=>∃ps qs rest,ls=pre++rest∧q1y A U rest ps qs=some res∧ps.length=pre.length∧qs.length=pre.length∧Two (w1.heap.size+3) w1.heap.size (w1.heap.size+1) W ps qs∧Below w1.heap.size w1 W)
  (fun c pre W=>c = .ret∧res.1≠0∧Boxed W (w.heap.size+1) 9 (.string ⟨#[]⟩)∧Boxed W (w.heap.size+1+1) 9 (.string ⟨#[]⟩)∧Boxed W (w.heap.size+1+1+1) 44 (.int .i64 res.1)∧Below w.heap.size w W)
  (fun pre X Y hs ho=>by
   obtain ⟨ps,qs,rest,h1,h2,h3,h4,h5,h6⟩:=hs;exact ⟨ps,qs,rest,h1,h2,h3,h4,y1b h5 (by omega) (by omega) (by omega) ho,q1h h6 (Nat.le_refl _) (by rw [hszN];omega) (by omega) ho⟩)
  (fun c pre X Y hs ho=>by
   obtain ⟨h1,h2,h3,h4,h5,h6⟩:=hs;exact ⟨h1,h2,xl h3 (by omega) ho,xl h4 (by omega) ho,xl h5 (by omega) ho,q1h h6 (Nat.le_refl _) (by rw [hszN];omega) (by omega) ho⟩)
  ⟨[],[],ls,rfl,hres,rfl,rfl,⟨_,_,_,_,hb9,hb10,World.ownsRow_nil _ _ _ _,World.ownsRow_nil _ _ _ _,fun b hb=>(by cases hb),fun b hb=>(by cases hb)⟩,hW2⟩
  (fun x=>{ tmps := #[.agg #[v0,v1,v2,v3,v4],.string ⟨⟨s⟩⟩,.pointer (some ⟨w.heap.size,0,none⟩),undef,.pointer (some ⟨w.heap.size+1,0,none⟩),.pointer (some ⟨w.heap.size+1+1,0,none⟩),.pointer (some ⟨w.heap.size+1+1+1,0,none⟩),.slice la ls.length lc,.int .i64 0,
   .pointer (some ⟨w1.heap.size,0,none⟩),.pointer (some ⟨w1.heap.size+1,0,none⟩),.string ⟨⟨x⟩⟩,undef,undef,undef,undef,undef,.tuple #[.slice la ls.length lc,.int .i64 0],.agg #[v0,v1,v2,v3,v4],.string ⟨⟨s⟩⟩,.tuple #[.slice la ls.length lc,.int .i64 0],.slice la ls.length lc,.int .i64 0,.int .i64 0,.bool false,undef,.slice la ls.length lc,
   .func (.func 191) #[] #[.pointer (some ⟨w1.heap.size+1+1,0,none⟩)],.string ⟨⟨x⟩⟩,undef,undef,undef,undef,undef,undef,undef,undef,undef,undef,undef,undef,undef,undef,undef,undef,undef,undef,undef,undef,undef,undef,undef,undef,undef,undef,undef,undef,undef,undef,undef],defers:=[] }) ?assign ?body ?done ?stop
 case assign =>
  intro l x W K hK
  gi_wp2
  exact hK
 case body =>
  rintro l pre x W hsz hpre ⟨ps,qs,rest,hls,hbf,hlp,hlq,hTwo,hbel⟩;obtain ⟨rest',rfl⟩:∃r,rest=x::r:=by
   obtain ⟨t,ht⟩:=hpre;rw [hls,List.append_assoc] at ht;have:=List.append_cancel_left ht;exact ⟨t,by simpa using this.symm⟩
  simp only [q1y] at hbf;obtain ⟨⟨a1,a2⟩,ha,hbf2⟩:=Option.bind_eq_some_iff.1 hbf;simp only at hbf2;rw [hszN] at hsz;have hWw:Below w.heap.size w W:=hb0.trans (hbel.mono (by omega));have hcA:=hA x _ ha W hWw;obtain ⟨t0,t1,t2,t3,t4⟩:=hT W hbel;by_cases hz:a2=0
  · subst hz
    have hbf3:((U x).bind fun u=>q1y A U rest' (ps++[a1]) (qs++[u.1]))=some res:=hbf2;obtain ⟨⟨u1,u2⟩,hu,hbf4⟩:=Option.bind_eq_some_iff.1 hbf3;simp only at hbf4;have hcU:=hU x _ hu
    gi_wp2_with (first
     | (refine ⟨trivial,?_⟩;gi_at_call 159;refine (CallsIn.inRound l (callsIn_wide.2 hcA)).mono ?_;rintro e W3 ⟨rfl,hb3⟩;have hbel3:Below w1.heap.size w1 W3:=hbel.trans (hb3.mono (by omega));obtain ⟨t5,t6,t7,t8,t9⟩:=hT W3 hbel3)
     | (refine ⟨trivial,?_⟩;gi_at_call 160;refine (CallsIn.inRound l (callsIn_wide.2 (hcU W3 (hb0.trans (hbel3.mono (by omega)))))).mono ?_;rintro e W4 ⟨rfl,hb4⟩))
    have hb34:Below W.heap.size W W4:=hb3.trans (hb4.mono hb3.size);have hTwo4:Two (w1.heap.size+3) w1.heap.size (w1.heap.size+1) W4 ps qs:=y1b (N:=0) (Bs:=w1.heap.size+1+1) hTwo (by omega) (by omega) (by omega) (Oth.of_below hb34).toR;have hll2:pre.length≤32:=by have:=hpre.length_le;simp at this;omega
    refine wpIn_mono (c:=Code.region 11 z1n true) (v4z l _ ps qs a1 u1 (by omega) (by omega) _ w1.heap.size (w1.heap.size+3) w1.heap.size (w1.heap.size+1) (by omega) W4 (za hg1 (hbel3.trans (hb4.mono (by have:=hbel3.size;omega)))) (fun b hb=>(hg1.b b hb).1) (by omega) (Nat.le_refl _) (by omega) hTwo4 rfl (by have:=hb34.size;omega) rfl rfl rfl rfl) ?_;rintro e a' w' ⟨rfl,hTwo',o1,o2,o3,o4,o5,o6⟩;refine ⟨⟨Nat.le_trans hb34.size o4,fun k o _ hk hc=>o6 k o ((hb34.block k (lt_of_some hk)).trans hk) hc⟩,?_,ps++[a1],qs++[u1],rest',by simp [hls],hbf4,by simp;omega,by simp;omega,hTwo',?_⟩
    · rintro b (rfl | hb)
      · rw [o5 _ (by omega) (by omega) (by omega),hb34.block _ (by omega)]
      · have:=hown b hb
        rw [o5 _ (by omega) (by omega) (by omega),hb34.block _ (by omega)]
    · exact (hbel.trans (hb34.mono (by omega))).trans ⟨o1,o2,o3,o4,fun k hk=>o5 k (by omega) (by omega) (by omega)⟩
  · have hbf3:some (a2,([]:List (List UInt8)),([]:List (List UInt8)))=some res:=by
     rw [←hbf2,show (a2 != 0)=true by simpa using hz];rfl
    cases hbf3
    gi_wp2_with (refine ⟨trivial,?_⟩;gi_at_call 159;refine (CallsIn.inRound l (callsIn_wide.2 hcA)).mono ?_;rintro e W3 ⟨rfl,hb3⟩;have hbel3:Below w1.heap.size w1 W3:=hbel.trans (hb3.mono (by omega));obtain ⟨q1,q2,q3⟩:=hR W3 hbel3;have q4:=q1.cell;have q5:=q1.frozen;have q6:=q2.cell;have q7:=q2.frozen;have q8:=q3.cell;have q9:=q3.frozen)
    refine ⟨KeepsFrom.trans ⟨hb3.size,fun k o _ h _=>(hb3.block k (lt_of_some h)).trans h⟩ ((((KeepsOthers.setCell _ _ _).trans (KeepsOthers.setCell _ _ _)).trans (KeepsOthers.setCell _ _ _)).from _),rfl,?_,?_,?_,?_⟩
    · exact zg (zg (Boxed.set _ q1) (by omega)) (by omega)
    · exact zg (Boxed.set _ (zg q2 (by omega))) (by omega)
    · exact Boxed.set _ (zg (zg q3 (by omega)) (by omega))
    · exact (((hb0.trans (hbel3.mono (by omega))).setCell (p:=⟨w.heap.size+1,0,none⟩) (show w.heap.size≤w.heap.size+1 by omega) _).setCell (p:=⟨w.heap.size+1+1,0,none⟩) (show w.heap.size≤w.heap.size+1+1 by omega) _).setCell (p:=⟨w.heap.size+1+1+1,0,none⟩) (show w.heap.size≤w.heap.size+1+1+1 by omega) _
 case done =>
  rintro D W hD ⟨ps,qs,rest,hls,hbf,hlp,hlq,hTwo,hbel⟩ hK;have hrest:rest=[]:=by
   have:=congrArg List.length hls;simp at this;exact this
  subst hrest;have hres':(0,ps,qs)=res:=Option.some.inj hbf;subst hres';have ho:((q5q (ps,[46],())).bind fun ja=>bif decide (253<ja.1.length) then some (([]:List UInt8),([]:List UInt8),(5:Int)) else (q5q (qs,[46],())).bind fun ju=>some (ja.1,ju.1,0))=some (oa,ou,oc):=hout;obtain ⟨⟨ja,ju0⟩,hja,ho2⟩:=Option.bind_eq_some_iff.1 ho;obtain ⟨va,vu,ta,tu,bx9,bx10,rw9,rw10,_,_⟩:=hTwo.ex;have hcj:=z1g rw9 hja (za hg1 hbel);have c9:=bx9.cell;have c10:=bx10.cell;have hDW:D<W.heap.size:=lt_of_some hK;rw [hszN] at hD;have hs8:w1.heap.size≤W.heap.size:=hbel.size;clear hls hbf hout ho hres hll hlp hlq;by_cases k3h:253<ja.length
  · have ho3:some (([]:List UInt8),([]:List UInt8),(5:Int))=some (oa,ou,oc):=by rw [←ho2];simp only;rw [decide_eq_true k3h];rfl
    cases ho3
    gi_wp2_with (refine ⟨trivial,?_⟩;gi_at_call 73;refine (callsIn_wide.2 hcj).mono ?_;rintro e W5 ⟨rfl,hb5⟩;have hbel5:Below w1.heap.size w1 W5:=hbel.trans (hb5.mono (by have:=hbel.size;omega));obtain ⟨q1,q2,q3⟩:=hR W5 hbel5;have q4:=q1.cell;have q5:=q1.frozen;have q6:=q2.cell;have q7:=q2.frozen;have q8:=q3.cell;have q9:=q3.frozen)
    have hKX:((((W5.setCell ⟨w.heap.size+1,0,none⟩ (.string ⟨#[]⟩)).setCell ⟨w.heap.size+1+1,0,none⟩ (.string ⟨#[]⟩)).setCell ⟨w.heap.size+1+1+1,0,none⟩ (.int .i64 5))).heap[D]? = some (.deferred (some [])):=by
     rw [Below.heap_setCell _ _ _ _ (show D≠w.heap.size+1+1+1 by omega),Below.heap_setCell _ _ _ _ (show D≠w.heap.size+1+1 by omega),Below.heap_setCell _ _ _ _ (show D≠w.heap.size+1 by omega)];exact (hb5.block D hDW).trans hK
    refine ⟨by simp,.inl ⟨_,_,rfl,run_takeDeferred hKX,?_⟩⟩;have e1:=zg (b':=w.heap.size+1+1+1) (u:=(.int .i64 5)) (zg (b':=w.heap.size+1+1) (u:=(.string ⟨#[]⟩)) (Boxed.set (.string ⟨#[]⟩) q1) (by omega)) (by omega);have e2:=zg (b':=w.heap.size+1+1+1) (u:=(.int .i64 5)) (Boxed.set (.string ⟨#[]⟩) (zg (b':=w.heap.size+1) (u:=(.string ⟨#[]⟩)) q2 (by omega))) (by omega);have e3:=Boxed.set (.int .i64 5) (zg (b':=w.heap.size+1+1) (u:=(.string ⟨#[]⟩)) (zg (b':=w.heap.size+1) (u:=(.string ⟨#[]⟩)) q3 (by omega)) (by omega));have hc1:=cell_kept e1.cell (grownBy_putObj' _ D (.deferred none)) (fun r e=>by cases e;exact ⟨_,hKX,rfl⟩);have hc2:=cell_kept e2.cell (grownBy_putObj' _ D (.deferred none)) (fun r e=>by cases e;exact ⟨_,hKX,rfl⟩);have hc3:=cell_kept e3.cell (grownBy_putObj' _ D (.deferred none)) (fun r e=>by cases e;exact ⟨_,hKX,rfl⟩);have hbX:=(((hb0.trans (hbel5.mono (show w.heap.size≤w1.heap.size by omega))).setCell (p:=⟨w.heap.size+1,0,none⟩) (show w.heap.size≤w.heap.size+1 by omega) (.string ⟨#[]⟩)).setCell (p:=⟨w.heap.size+1+1,0,none⟩) (show w.heap.size≤w.heap.size+1+1 by omega) (.string ⟨#[]⟩)).setCell (p:=⟨w.heap.size+1+1+1,0,none⟩) (show w.heap.size≤w.heap.size+1+1+1 by omega) (.int .i64 5);refine ⟨.tuple #[(.string ⟨#[]⟩),(.string ⟨#[]⟩),(.int .i64 5)],?_,rfl,hbX.trans (belowK_b (w:=w) (Nat.le_refl _) _ D _ _ (by omega) hKX rfl rfl)⟩;simp [results,Tryz.f124,go_sem,hc1,hc2,hc3]
  · have ho3:((q5q (qs,[46],())).bind fun ju=>some (ja,ju.1,(0:Int)))=some (oa,ou,oc):=by rw [←ho2];simp only;rw [decide_eq_false k3h];rfl
    obtain ⟨⟨ju,ju1⟩,hju,ho4⟩:=Option.bind_eq_some_iff.1 ho3;cases ho4
    gi_wp2_with (first
     | (refine ⟨trivial,?_⟩;gi_at_call 73;refine (callsIn_wide.2 hcj).mono ?_;clear hcj;rintro e W5 ⟨rfl,hb5⟩;have hbel5:Below w1.heap.size w1 W5:=hbel.trans (hb5.mono (by have:=hbel.size;omega));have c11:W5.cell? ⟨w1.heap.size+1,0,none⟩=some vu:=(hb5.cell (p:=⟨w1.heap.size+1,0,none⟩) bx10.lt).trans c10;have hcj2:=z1g (q0e (N:=0) (Bs:=w1.heap.size+1+1) (by omega) rw10 (Oth.of_below hb5).toR) hju (za hg1 hbel5))
     | (refine ⟨trivial,?_⟩;gi_at_call 73;refine (callsIn_wide.2 hcj2).mono ?_;clear hcj2;rintro e W6 ⟨rfl,hb6⟩;have hbel6:Below w1.heap.size w1 W6:=hbel5.trans (hb6.mono (by have:=hbel5.size;omega));obtain ⟨q1,q2,q3⟩:=hR W6 hbel6;have q4:=q1.cell;have q5:=q1.frozen;have q6:=q2.cell;have q7:=q2.frozen;have q8:=q3.cell;have q9:=q3.frozen))
    have hKX:((((W6.setCell ⟨w.heap.size+1,0,none⟩ (.string ⟨⟨oa⟩⟩)).setCell ⟨w.heap.size+1+1,0,none⟩ (.string ⟨⟨ju⟩⟩)).setCell ⟨w.heap.size+1+1+1,0,none⟩ (.int .i64 0))).heap[D]? = some (.deferred (some [])):=by
     rw [Below.heap_setCell _ _ _ _ (show D≠w.heap.size+1+1+1 by omega),Below.heap_setCell _ _ _ _ (show D≠w.heap.size+1+1 by omega),Below.heap_setCell _ _ _ _ (show D≠w.heap.size+1 by omega)];exact (hb6.block D (Nat.lt_of_lt_of_le hDW hb5.size)).trans ((hb5.block D hDW).trans hK)
    refine ⟨by simp,.inl ⟨_,_,rfl,run_takeDeferred hKX,?_⟩⟩;have e1:=zg (b':=w.heap.size+1+1+1) (u:=(.int .i64 0)) (zg (b':=w.heap.size+1+1) (u:=(.string ⟨⟨ju⟩⟩)) (Boxed.set (.string ⟨⟨oa⟩⟩) q1) (by omega)) (by omega);have e2:=zg (b':=w.heap.size+1+1+1) (u:=(.int .i64 0)) (Boxed.set (.string ⟨⟨ju⟩⟩) (zg (b':=w.heap.size+1) (u:=(.string ⟨⟨oa⟩⟩)) q2 (by omega))) (by omega);have e3:=Boxed.set (.int .i64 0) (zg (b':=w.heap.size+1+1) (u:=(.string ⟨⟨ju⟩⟩)) (zg (b':=w.heap.size+1) (u:=(.string ⟨⟨oa⟩⟩)) q3 (by omega)) (by omega));have hc1:=cell_kept e1.cell (grownBy_putObj' _ D (.deferred none)) (fun r e=>by cases e;exact ⟨_,hKX,rfl⟩);have hc2:=cell_kept e2.cell (grownBy_putObj' _ D (.deferred none)) (fun r e=>by cases e;exact ⟨_,hKX,rfl⟩);have hc3:=cell_kept e3.cell (grownBy_putObj' _ D (.deferred none)) (fun r e=>by cases e;exact ⟨_,hKX,rfl⟩);have hbX:=(((hb0.trans (hbel6.mono (show w.heap.size≤w1.heap.size by omega))).setCell (p:=⟨w.heap.size+1,0,none⟩) (show w.heap.size≤w.heap.size+1 by omega) (.string ⟨⟨oa⟩⟩)).setCell (p:=⟨w.heap.size+1+1,0,none⟩) (show w.heap.size≤w.heap.size+1+1 by omega) (.string ⟨⟨ju⟩⟩)).setCell (p:=⟨w.heap.size+1+1+1,0,none⟩) (show w.heap.size≤w.heap.size+1+1+1 by omega) (.int .i64 0);refine ⟨.tuple #[(.string ⟨⟨oa⟩⟩),(.string ⟨⟨ju⟩⟩),(.int .i64 0)],?_,rfl,hbX.trans (belowK_b (w:=w) (Nat.le_refl _) _ D _ _ (by omega) hKX rfl rfl)⟩;simp [results,Tryz.f124,go_sem,hc1,hc2,hc3]
 case stop =>
  rintro D c pre W hD hpre ⟨rfl,hne,h1,h2,h3,hbel⟩ hK;have ho:some (([]:List UInt8),([]:List UInt8),res.1)=some (oa,ou,oc):=by
   rw [←hout];unfold y0q;rw [show (res.1 != 0)=true by simpa using hne];rfl
  cases ho
  gi_wp2
  refine ⟨by simp,.inl ⟨_,_,rfl,run_takeDeferred hK,?_⟩⟩;have hc1:=cell_kept h1.cell (grownBy_putObj' _ D (.deferred none)) (fun r e=>by cases e;exact ⟨_,hK,rfl⟩);have hc2:=cell_kept h2.cell (grownBy_putObj' _ D (.deferred none)) (fun r e=>by cases e;exact ⟨_,hK,rfl⟩);have hc3:=cell_kept h3.cell (grownBy_putObj' _ D (.deferred none)) (fun r e=>by cases e;exact ⟨_,hK,rfl⟩);rw [hszN] at hD;refine ⟨.tuple #[.string ⟨#[]⟩,.string ⟨#[]⟩,.int .i64 res.1],?_,rfl,hbel.trans (belowK_b (w:=w) (Nat.le_refl _) W D _ _ (by omega) hK rfl rfl)⟩;simp [results,Tryz.f124,go_sem,hc1,hc2,hc3]
set_option maxHeartbeats 4000000 in
theorem v0d (v0 v1 v2 v3 v4:Value) (s:List UInt8) (c:Int) (hc:c≠0) (w:World)
 (hlab:∀W,Below w.heap.size w W→Calls Tryz.prog 157 #[.agg #[v0,v1,v2,v3,v4],.string ⟨⟨s⟩⟩] W fun e w'=>∃v,e = .returned (.tuple #[v,.int .i64 c])∧Below W.heap.size W w') :
 Calls Tryz.prog 124 #[.agg #[v0,v1,v2,v3,v4],.string ⟨⟨s⟩⟩] w fun e w'=>e = .returned (.tuple #[.string ⟨#[]⟩,.string ⟨#[]⟩,.int .i64 c])∧Below w.heap.size w w':=by
 have hW0:Below w.heap.size w ((((w.alloc (.cells #[v0,v1,v2,v3,v4] 39)).alloc (.cells #[.string ⟨#[]⟩] 9)).alloc (.cells #[.string ⟨#[]⟩] 9)).alloc (.cells #[.int .i64 0] 44)) :=
  ((((Below.refl _ w).alloc (Nat.le_refl _) _).alloc (by simp) _).alloc (by simp<;>omega) _).alloc (by simp<;>omega) _
 have hR:∀X,Below (w.heap.size+4) ((((w.alloc (.cells #[v0,v1,v2,v3,v4] 39)).alloc (.cells #[.string ⟨#[]⟩] 9)).alloc (.cells #[.string ⟨#[]⟩] 9)).alloc (.cells #[.int .i64 0] 44)) X→Boxed X (w.heap.size+1) 9 (.string ⟨#[]⟩)∧Boxed X (w.heap.size+1+1) 9 (.string ⟨#[]⟩)∧Boxed X (w.heap.size+1+1+1) 44 (.int .i64 0):=fun X hX=>by
  refine ⟨?_,?_,?_⟩
  · show X.heap[_]? = _
    rw [hX.block _ (by omega),Below.heap_alloc _ _ _ (by simp<;>omega),Below.heap_alloc _ _ _ (by simp)];have:=heap_alloc_new (w.alloc (.cells #[v0,v1,v2,v3,v4] 39)) (.cells #[.string ⟨#[]⟩] 9)
    rwa [World.size_alloc] at this
  · show X.heap[_]? = _
    rw [hX.block _ (by omega),Below.heap_alloc _ _ _ (by simp)];have:=heap_alloc_new ((w.alloc (.cells #[v0,v1,v2,v3,v4] 39)).alloc (.cells #[.string ⟨#[]⟩] 9)) (.cells #[.string ⟨#[]⟩] 9)
    rwa [World.size_alloc,World.size_alloc] at this
  · show X.heap[_]? = _
    rw [hX.block _ (by omega)];have:=heap_alloc_new (((w.alloc (.cells #[v0,v1,v2,v3,v4] 39)).alloc (.cells #[.string ⟨#[]⟩] 9)).alloc (.cells #[.string ⟨#[]⟩] 9)) (.cells #[.int .i64 0] 44)
    rwa [World.size_alloc,World.size_alloc,World.size_alloc] at this
 have hl:=hlab _ hW0;clear hlab
 go_enter Tryz.func124,Tryz.ntmps124
 go_wp2_with (go_at_call 157;refine hl.mono ?_;rintro e w1 ⟨lv,rfl,hb1⟩;obtain ⟨q1,q2,q3⟩:=hR w1 (hb1.mono (by simp));have q4:=q1.cell;have q5:=q1.frozen;have q6:=q2.cell;have q7:=q2.frozen;have q8:=q3.cell;have q9:=q3.frozen)
 have e1:=zg (b':=w.heap.size+1+1+1) (u:=(.int .i64 c)) (zg (b':=w.heap.size+1+1) (u:=(.string ⟨#[]⟩)) (Boxed.set (.string ⟨#[]⟩) q1) (by omega)) (by omega);have e2:=zg (b':=w.heap.size+1+1+1) (u:=(.int .i64 c)) (Boxed.set (.string ⟨#[]⟩) (zg (b':=w.heap.size+1) (u:=(.string ⟨#[]⟩)) q2 (by omega))) (by omega);have e3:=Boxed.set (.int .i64 c) (zg (b':=w.heap.size+1+1) (u:=(.string ⟨#[]⟩)) (zg (b':=w.heap.size+1) (u:=(.string ⟨#[]⟩)) q3 (by omega)) (by omega));have hc1:=e1.cell;have hc2:=e2.cell;have hc3:=e3.cell;have hbX:=(((hW0.trans (hb1.mono (by simp<;>omega))).setCell (p:=⟨w.heap.size+1,0,none⟩) (show w.heap.size≤w.heap.size+1 by omega) (.string ⟨#[]⟩)).setCell (p:=⟨w.heap.size+1+1,0,none⟩) (show w.heap.size≤w.heap.size+1+1 by omega) (.string ⟨#[]⟩)).setCell (p:=⟨w.heap.size+1+1+1,0,none⟩) (show w.heap.size≤w.heap.size+1+1+1 by omega) (.int .i64 c)
 (try simp only [Exit.inBlock,Exit.then])
 refine bodyPost_ret (by simp [results,Tryz.results124,go_sem,hc1,hc2,hc3];try rfl) rfl ?_;exact ⟨rfl,hbX⟩
theorem x1i {f:FuncId} {fn:Func} {F:k1h} (h:zc Tryz.prog f ⟨xj,q2n,F⟩) (hf:Tryz.prog.funcs[f]? = some fn) (hb:fn.body.isSome=true) (hname:(fn.name == "runtime.NumGoroutine")=false) {t0 t1 t2} {x r:List UInt8} {c:Int} (hF:F (t0,t1,t2,x,())=some (r,c,()))
 {w:World} {m:Md} (gi:GI w m) (hlt:∀b,m.a b→b<w.heap.size) {a:Array Value} (ht:qe w m [] (y4j t0 t1 t2) a.toList) :
 Calls Tryz.prog f #[.agg a,.string ⟨⟨x⟩⟩] w fun e w'=>e = .returned (.tuple #[.string ⟨⟨r⟩⟩,.int .i64 c])∧Below w.heap.size w w':=by
 refine (zc.call0 (v:=(t0,t1,t2,x,())) (y:=(r,c,())) h hf hb hname gi hlt rfl ⟨_,_,rfl,⟨a,rfl,ht⟩,_,_,rfl,rfl,rfl⟩ rfl hF ?_).mono fun e w' ⟨rv,h1,h2,ax,l',u,h3,h4⟩ => ?_
 · intro ax l' u h3
   cases ji h3;rfl
 · cases ji h3
   obtain ⟨v,r',e1,⟨b,e2,e3⟩,e4⟩:=h4;have e4':r'=[]:=e4;subst e4';cases e1;subst h1 e2;refine ⟨?_,h2⟩;obtain ⟨v1,q1,f1,rfl,v2,q2,f2,⟨rfl,_⟩,f4⟩:=e3;have f4':q2=[]:=f4;subst f4' f2;cases b;cases f1;rfl
theorem v5o {f:FuncId} {fn:Func} {F:j9y} (h:zc Tryz.prog f ⟨xj,q6c,F⟩) (hf:Tryz.prog.funcs[f]? = some fn) (hb:fn.body.isSome=true) (hname:(fn.name == "runtime.NumGoroutine")=false) {t0 t1 t2} {x r:List UInt8} {c:Bool} (hF:F (t0,t1,t2,x,())=some (r,c,()))
 {w:World} {m:Md} (gi:GI w m) (hlt:∀b,m.a b→b<w.heap.size) {a:Array Value} (ht:qe w m [] (y4j t0 t1 t2) a.toList) :
 Calls Tryz.prog f #[.agg a,.string ⟨⟨x⟩⟩] w fun e w'=>e = .returned (.tuple #[.string ⟨⟨r⟩⟩,.bool c])∧Below w.heap.size w w':=by
 refine (zc.call0 (v:=(t0,t1,t2,x,())) (y:=(r,c,())) h hf hb hname gi hlt rfl ⟨_,_,rfl,⟨a,rfl,ht⟩,_,_,rfl,rfl,rfl⟩ rfl hF ?_).mono fun e w' ⟨rv,h1,h2,ax,l',u,h3,h4⟩ => ?_
 · intro ax l' u h3
   cases ji h3;rfl
 · cases ji h3
   obtain ⟨v,r',e1,⟨b,e2,e3⟩,e4⟩:=h4;have e4':r'=[]:=e4;subst e4';cases e1;subst h1 e2;refine ⟨?_,h2⟩;obtain ⟨v1,q1,f1,rfl,v2,q2,f2,rfl,f4⟩:=e3;have f4':q2=[]:=f4;subst f4' f2;cases b;cases f1;rfl
def z2e:k1g:=fun (t0,t1,t2,s,_) =>
 (j1o (t0,t1,t2,s,())).bind fun f=>(q0c f.1 f.2.1).bind fun lc =>
  bif lc.2 != 0 then some ([],[],lc.2,()) else
  bif decide (lc.1.length≤32) then
   (q1y (fun x=>(z2h (t0,t1,t2,x,())).map fun r=>(r.1,r.2.1)) (fun x=>(y1j (t0,t1,t2,x,())).map fun r=>(r.1,r.2.1)) lc.1 [] []).bind fun res=>(y0q res).map fun o=>(o.1,o.2.1,o.2.2,())
  else none
theorem f4v:zc Tryz.prog 124 (g6p z2e):=by
 refine x5n Tryz.func124 (by kernel_rfl) (by kernel_rfl) (fun _=>rfl) (fun _=>rfl) ?_;rintro ⟨t0,t1,t2,s,u⟩ y hy w m args gi hn hlt hargs;obtain ⟨va,r1,e1,⟨a,rfl,ht⟩,vs,r2,e2,e3,e4⟩:=hargs;have e4':r2=[]:=e4;have e3':vs = .string ⟨⟨s⟩⟩:=e3;subst e4' e3' e2;have ha:args = #[.agg a,.string ⟨⟨s⟩⟩]:=by cases args;simpa using e1
 subst ha;have ht0:qe w m [] (y4j t0 t1 t2) a.toList:=ht;have hst:∀W,Below w.heap.size w W→Stp w m W m:=fun W hb=>yk hb fun b hb=>(hn b hb).elim;have htW:∀W,Below w.heap.size w W→qe W m [] (y4j t0 t1 t2) a.toList:=fun W hb=>qe.mono (hst W hb) (fun _ _ h=>h) _ _ ht0;have hltW:∀W,Below w.heap.size w W→∀b,m.a b→b<W.heap.size:=fun W hb b h=>Nat.lt_of_lt_of_le (hlt b h) hb.size;have g0:GI w m0:=⟨gi.i,fun b hb=>⟨(gi.b b hb).1,fun h=>h⟩⟩
 obtain ⟨v0,v1,v2,v3,v4,rfl⟩:∃v0 v1 v2 v3 v4,a = #[v0,v1,v2,v3,v4]:=by
  obtain ⟨w0,q0,f0,_,w1,q1,f1,_,w2,q2,f2,_,w3,q3,f3,_,w4,q4,f4,_,f5⟩:=ht0;have f5':q4=[]:=f5;subst f5' f4 f3 f2 f1;exact ⟨w0,w1,w2,w3,w4,by cases a;simpa using f0⟩
 have hy1:((j1o (t0,t1,t2,s,())).bind fun f=>(q0c f.1 f.2.1).bind fun lc =>
  bif lc.2 != 0 then some ([],[],lc.2,()) else
  bif decide (lc.1.length≤32) then
   (q1y (fun x=>(z2h (t0,t1,t2,x,())).map fun r=>(r.1,r.2.1)) (fun x=>(y1j (t0,t1,t2,x,())).map fun r=>(r.1,r.2.1)) lc.1 [] []).bind fun res=>(y0q res).map fun o=>(o.1,o.2.1,o.2.2,())
  else none)=some y:=hy
 obtain ⟨⟨f,ok,u0⟩,hf,hy2⟩:=Option.bind_eq_some_iff.1 hy1;obtain ⟨⟨ls,c⟩,hls,hy3⟩:=Option.bind_eq_some_iff.1 hy2;simp only at hls hy3;have hfold:∀W,Below w.heap.size w W→Calls Tryz.prog 151 #[.agg #[v0,v1,v2,v3,v4],.string ⟨⟨s⟩⟩] W fun e W'=>e = .returned (.tuple #[.string ⟨⟨f⟩⟩,.bool ok])∧Below W.heap.size W W' :=
  fun W hb=>v5o v3y Tryz.func151 (by kernel_rfl) (by kernel_rfl) hf (gi.mono (hst W hb)) (hltW W hb) (htW W hb)
 have hlab:∀W,Below w.heap.size w W→Calls Tryz.prog 157 #[.agg #[v0,v1,v2,v3,v4],.string ⟨⟨s⟩⟩] W fun e w'=>∃v,e = .returned (.tuple #[v,.int .i64 c])∧Below W.heap.size W w'∧w'.ownsRow W.heap.size 9 1 v ls.length (ls.map encS) :=
  fun W hb=>z9q v0 v1 v2 v3 v4 s f ok ls c W (za g0 hb) hls fun W2 hb2=>hfold W2 (hb.trans (hb2.mono hb.size))
 suffices hmain:∃oa ou oc,y=(oa,ou,oc,())∧Calls Tryz.prog 124 #[.agg #[v0,v1,v2,v3,v4],.string ⟨⟨s⟩⟩] w fun e w'=>e = .returned (.tuple #[.string ⟨⟨oa⟩⟩,.string ⟨⟨ou⟩⟩,.int .i64 oc])∧Below w.heap.size w w' by
  obtain ⟨oa,ou,oc,rfl,hc⟩:=hmain;refine hc.mono fun e w' ⟨k1,k2⟩=>⟨_,k1,k2,.ret,[.tuple 3,.str,.str,.int .i64],(oa,ou,oc,()),kz [.tuple 3,.str,.str,.int .i64] (oa,ou,oc,()),rfl,rfl,?_⟩
  exact ⟨_,[],rfl,⟨_,rfl,_,_,rfl,rfl,_,_,rfl,rfl,_,_,rfl,⟨rfl,fun h=>(by cases h)⟩,rfl⟩,rfl⟩
 by_cases hc:c=0
 · subst hc
   have hy4:(bif decide (ls.length≤32) then
    (q1y (fun x=>(z2h (t0,t1,t2,x,())).map fun r=>(r.1,r.2.1)) (fun x=>(y1j (t0,t1,t2,x,())).map fun r=>(r.1,r.2.1)) ls [] []).bind fun res=>(y0q res).map fun o=>(o.1,o.2.1,o.2.2,())
    else none)=some y:=hy3
   rcases jb hy4 with ⟨h32,hy5⟩ | ⟨_,hy5⟩
   case inr=>cases hy5
   obtain ⟨res,hres,hy6⟩:=Option.bind_eq_some_iff.1 hy5;obtain ⟨⟨oa,ou,oc⟩,hout,hy7⟩:=Option.map_eq_some_iff.1 hy6;refine ⟨oa,ou,oc,hy7.symm,?_⟩;refine x5a v0 v1 v2 v3 v4 s ls _ _ res w g0 (of_decide_eq_true h32) hres oa ou oc hout (fun W hb=>hlab W hb) ?_ ?_
   · intro x r hr W hb
     obtain ⟨⟨r1,r2,r3⟩,hq,rfl⟩:=Option.map_eq_some_iff.1 hr;exact x1i f5h Tryz.func159 (by kernel_rfl) (by kernel_rfl) hq (gi.mono (hst W hb)) (hltW W hb) (htW W hb)
   · intro x r hr W hb
     obtain ⟨⟨r1,r2,r3⟩,hq,rfl⟩:=Option.map_eq_some_iff.1 hr;exact x1i f5i Tryz.func160 (by kernel_rfl) (by kernel_rfl) hq (gi.mono (hst W hb)) (hltW W hb) (htW W hb)
 · rcases jb hy3 with ⟨_,hy4⟩ | ⟨h0,_⟩
   case inr=>exact (hc (by simpa using h0)).elim
   cases hy4;exact ⟨[],[],c,rfl,v0d v0 v1 v2 v3 v4 s c hc w fun W hb=>(hlab W hb).mono fun e w' ⟨v,k1,k2,_⟩=>⟨v,k1,k2⟩⟩
end Go.Proofs.YtiacnhhmkdkpmaaGreatDoorA.W
namespace Go.Proofs.YtiacnhhmkdkpmaaGreatDoorA.W
open Go Go.Ae
abbrev q6e:=qa×Int×Unit→Option (Int×Unit)
def v5x (f:q6e):FEnt:=⟨j9x,jf,f⟩
def f9x (f162:z8c):=lk [(162,w7e f162)]
def f0e (f162:z8c):q6e:=fun (x0,x1,_) =>
 (f162 (x0,x1,())).bind fun v=>some (v.1,())
def q2c:q6e:=f0e j3o
theorem v3x:FO 127 (v5x q2c):=ww j9x jf f9x f0e j3o (kc w5y kn) Tryz.func127
abbrev j2i:=Int×Bool×Unit→Option (Int×Bool×Unit)
def x8f (f:j2i):LEnt:=⟨y8m,y9c,f⟩
abbrev j8e:=Int×Bool×Unit→Option (Int×Bool×Unit)
def x8g (f:j8e):LEnt:=⟨y8m,y9c,f⟩
abbrev T90:=Int×Unit→Option (Bool×Unit)
def E90 (f:T90):FEnt:=⟨j3x,qz,f⟩
def K90 (f127:q6e):=lk [(127,v5x f127)]
theorem v2x:zk Tryz.prog (K90 q2c):=(kc v3x kn)
def x8w (f127:q6e):j2i:=fun (x0,x1,_) =>
 bif x1 then some (x0,true,())
 else
 bif decide (x0≥48) then
 bif decide (x0≤57) then some (x0,true,()) else some (x0,decide (x0≥128),())
 else some (x0,decide (x0≥128),())
def y1v:j2i:=x8w q2c
theorem g4h:zj 0 (qd (code Tryz.f90) [1,0,0,0,1,1,1]) (x8f y1v):=zc1 y8m y9c K90 x8w q2c v2x
def g0h (f90_c0:j2i):Ann:=(.cond .nil (.cut .nil (x8f f90_c0)))
def x8x (f127:q6e) (f90_c0:j2i):j8e:=fun (x0,x1,_) =>
 bif x1 then some (x0,true,())
 else
 bif decide (x0≥65) then (f90_c0 (x0,decide (x0≤90),())).bind fun v=>some (v.1,v.2.1,())
 else (f90_c0 (x0,false,())).bind fun v=>some (v.1,v.2.1,())
theorem g3o (f127:q6e) (f90_c0:j2i):AqC (K90 f127) 0 (qd (code Tryz.f90) [1,0,0,0,1]) (g0h f90_c0) y8m y9c (x8x f127 f90_c0):=fun v=>by kernel_rfl
def y1w:j8e:=x8x q2c y1v
theorem g4i:zj 0 (qd (code Tryz.f90) [1,0,0,0,1]) (x8g y1w) :=
 frd v2x (And.intro g4h trivial) (g3o q2c y1v)
def N90 (f90_c1:j8e):Ann:=(.seq .nil (.seq (.blk (.seq (.cut .nil (x8g f90_c1)) .nil)) .nil))
def F90 (f127:q6e) (f90_c1:j8e):T90:=fun (x0,_) =>
 bif decide (x0≥97) then
 (f90_c1 (x0,decide (x0≤122),())).bind fun v =>
 bif v.2.1 then some (true,())
 else
 (f127
 ([33,35,36,37,38,39,42,43,45,47,61,63,94,95,96,123,124,125,126],v.1,
 ())).bind
 fun v=>some (decide (v.1≥0),())
 else
 (f90_c1 (x0,false,())).bind fun v =>
 bif v.2.1 then some (true,())
 else
 (f127
 ([33,35,36,37,38,39,42,43,45,47,61,63,94,95,96,123,124,125,126],v.1,
 ())).bind
 fun v=>some (decide (v.1≥0),())
def C90:T90:=F90 q2c y1w
theorem g4t:FO 90 (E90 C90):=wn j3x qz K90 N90 F90 q2c y1w v2x Tryz.func90 (And.intro g4i trivial)
abbrev q4c:=Int×qa×Int×Int×Int×Unit→Option (Int×qa×Int×Int×Int×Unit)
def y4w (f:q4c):LEnt:=⟨y8n,w3u,f⟩
abbrev q8p:=Int×qa×Int×Int×Int×Unit→Option (Int×qa×Int×Int×Int×Unit)
def y4x (f:q8p):LEnt:=⟨y8n,w3v,f⟩
abbrev z7x:=qa×Int×Int×Int×Unit→Option (qa×qa×Int×Int×Int×Unit)
def g6t (f:z7x):FEnt:=⟨q1w,q5m,f⟩
def v9f (f90:T90):=lk [(90,E90 f90)]
theorem y3d:zk Tryz.prog (v9f C90):=(kc g4t kn)
def q8e (f90:T90):q4c:=fun (x0,x1,x2,x3,x4,_) =>
 some (x0,x1,IntKind.i64.wrap (x2+1),x3,x4,())
def q1b:q4c:=q8e C90
theorem k4i:zj 1 (qd (code Tryz.f136) [1,1,0,0,0,1]) (y4w q1b):=zc1 y8n w3u v9f q8e C90 y3d
def k0n (f136_c0:q4c):Ann:=(.cut .nil (y4w f136_c0))
def q3q (f90:T90) (f136_c0:q4c):yq (Int×qa×Int×Int×Int×Unit) (Int×qa×Int×Int×Int×Unit):=fun (x0,x1,x2,x3,x4,_) =>
 bif decide (x2<(↑x1.length:Int)) then
 bif decide (0≤x2)&&decide (x2<(↑x1.length:Int)) then
 (f90 ((↑(x1.getD x2.toNat 0).toNat:Int),())).bind fun v =>
 bif v.1 then
 (f136_c0 (x0,x1,x2,x3,x4,())).bind fun v =>
 some
 (Sum.inl (v.1,v.2.1,v.2.2.1,v.2.2.2.1,v.2.2.2.2.1,()))
 else some (Sum.inr (x0,x1,x2,x3,x4,()))
 else none
 else some (Sum.inr (x0,x1,x2,x3,x4,()))
theorem k2j (f90:T90) (f136_c0:q4c):AqL (v9f f90) 1 (qd (code Tryz.f136) [1,1,0,0,0]) (k0n f136_c0) y8n w3v (q3q f90 f136_c0):=fun v=>by kernel_rfl
def q6w:q8p:=qc (q3q C90 q1b) jd
theorem k4j:jg 1 (qd (code Tryz.f136) [1,1,0,0,0]) (y4x q6w) :=
 frm y3d (And.intro k4i trivial) (k2j C90 q1b)
def b2o (f136_l0:q8p):Ann:=(.seq .nil (.seq .nil (.seq (.blk (.loop (y4x f136_l0))) .nil)))
def v6n (f90:T90) (f136_l0:q8p):z7x:=fun (x0,x1,x2,x3,_) =>
 (f136_l0 (x1,x0,x1,x2,x3,())).bind fun v =>
 bif decide (0≤v.2.2.1)&&decide (v.2.2.1≤(↑(List.length v.2.1):Int)) then
 bif decide (0≤v.1)&&decide (v.1≤v.2.2.1) then
 some
 (List.drop (Int.toNat v.1) (List.take (Int.toNat v.2.2.1) v.2.1),v.2.1,
 v.2.2.1,v.2.2.2.1,v.2.2.2.2.1,())
 else none
 else none
theorem b7k (f90:T90) (f136_l0:q8p):ye (v9f f90) 1 Tryz.f136 (b2o f136_l0) q1w q5m (v6n f90 f136_l0):=fun v=>by kernel_rfl
def z7c:z7x:=v6n C90 q6w
theorem f5a:FO 136 (g6t z7c) :=
 qo y3d Tryz.func136 (And.intro k4j trivial) (b7k C90 q6w)
abbrev q2o:=Int×Unit→Option (Bool×Unit)
def v6b (f:q2o):FEnt:=⟨j3x,qz,f⟩
def b0j (f127:q6e):=lk [(127,v5x f127)]
def f0h (f127:q6e):q2o:=fun (x0,_) =>
 (f127 ([32,9],x0,())).bind fun v=>some (decide (v.1≥0),())
def xi:q2o:=f0h q2c
theorem v4c:FO 174 (v6b xi):=ww j3x qz b0j f0h q2c (kc v3x kn) Tryz.func174
abbrev wq:=Int×Unit→Option (Bool×Unit)
def v6a (f:wq):FEnt:=⟨j3x,qz,f⟩
def b0i (f174:q2o):=lk [(174,v6b f174)]
def f0g (f174:q2o):wq:=fun (x0,_) =>
 (f174 (x0,())).bind fun v =>
 bif v.1 then some (true,())
 else bif decide (x0>32) then some (bif x0==127 then false else true,()) else some (false,())
def yf:wq:=f0g xi
theorem v4b:FO 173 (v6a yf):=ww j3x qz b0i f0g xi (kc v4c kn) Tryz.func173
abbrev xk:=Int×Int×qa×Int×Int×Int×Unit→Option (qa×Int×Int×Int×Unit)
def x7j (f:xk):FEnt:=⟨w0t,w3w,f⟩
def f0f:xk:=fun (x0,x1,x2,x3,x4,x5,_) =>
 some (x2,x3,x0,x1,())
theorem b7p:ye vf 1 Tryz.f141 .nil w0t w3w (f0f):=fun v=>by kernel_rfl
def zv:xk:=f0f
theorem x0v:FO 141 (x7j zv) :=
 q0 kn Tryz.func141 (b7p)
abbrev q4d:=Int×qa×Int×Int×Int×qa×Unit→Option ((qa×qa×Int×Int×Int×Unit)⊕(Int×qa×Int×Int×Int×qa×Unit))
def y4y (f:q4d):LEnt:=⟨y8o,w3x,f⟩
abbrev q8q:=Int×qa×Int×Int×Int×qa×Unit→Option ((qa×Int×Int×Int×Unit)⊕(qa×qa×Int×Int×Int×Unit))
def y4z (f:q8q):LEnt:=⟨y8o,w3y,f⟩
abbrev z7y:=qa×Int×Int×Int×Unit→Option (qa×qa×Int×Int×Int×Unit)
def g6u (f:z7y):FEnt:=⟨q1w,q5m,f⟩
def v9g (f141:xk) (f173:wq):=lk [(141,x7j f141),(173,v6a f173)]
theorem y3e:zk Tryz.prog (v9g zv yf):=(kc x0v (kc v4b kn))
def z3i (f141:xk) (f173:wq):q4d:=fun (x0,x1,x2,x3,x4,x5,_) =>
 bif decide (0≤x0)&&decide (x0<(↑x1.length:Int)) then
 (f173 ((↑(x1.getD x0.toNat 0).toNat:Int),())).bind fun v =>
 bif !v.1 then
 (f141 (x0,4,x1,x2,x3,x4,())).bind fun v =>
 some (Sum.inl ([],v.1,v.2.1,v.2.2.1,v.2.2.2.1,()))
 else
 bif decide (0≤x0)&&decide (x0<(↑x1.length:Int)) then
 bif
 decide
 (x5.length+[UInt8.ofNat (↑(x1.getD x0.toNat 0).toNat:Int).toNat].length≤140737488355328/1) then
 some (Sum.inr (x0,x1,x2,x3,x4,x5++[UInt8.ofNat (↑(x1.getD x0.toNat 0).toNat:Int).toNat],()))
 else none
 else none
 else none
theorem k2k (f141:xk) (f173:wq):AqC (v9g f141 f173) 1 (qd (code Tryz.f137) [1,1,0,1,0,0,1,0,0,1,1,1]) .nil y8o w3x (z3i f141 f173):=fun v=>by kernel_rfl
def q3h:q4d:=z3i zv yf
theorem k4k:zj 1 (qd (code Tryz.f137) [1,1,0,1,0,0,1,0,0,1,1,1]) (y4y q3h) :=
 frc y3e (k2k zv yf)
def k0o (f137_c0:q4d):Ann:=(.seq .nil (.seq (.blk (.seq .nil (.seq .nil (.cut .nil (y4y f137_c0))))) .nil))
def vd (f141:xk) (f173:wq) (f137_c0:q4d):yq (Int×qa×Int×Int×Int×qa×Unit) ((qa×Int×Int×Int×Unit)⊕(qa×qa×Int×Int×Int×Unit)):=fun (x0,x1,x2,x3,x4,x5,_) =>
 bif decide (x0<(↑x1.length:Int)) then
 bif decide (0≤x0)&&decide (x0<(↑x1.length:Int)) then
 bif (↑(x1.getD x0.toNat 0).toNat:Int)==34 then
 some (Sum.inr (Sum.inr (x5,x1,IntKind.i64.wrap (x0+1),x3,x4,())))
 else
 bif (↑(x1.getD x0.toNat 0).toNat:Int)==92 then
 bif IntKind.i64.wrap (x0+1)==(↑x1.length:Int) then some (Sum.inr (Sum.inl (x1,x2,x3,x4,())))
 else
 (f137_c0 (IntKind.i64.wrap (x0+1),x1,x2,x3,x4,x5,())).bind fun v =>
 Sum.elim
 (fun v =>
 some
 (Sum.inr
 (Sum.inr
 (v.1,v.2.1,v.2.2.1,v.2.2.2.1,v.2.2.2.2.1,
 ()))))
 (fun v =>
 some
 (Sum.inl
 (IntKind.i64.wrap (v.1+1),v.2.1,v.2.2.1,v.2.2.2.1,
 v.2.2.2.2.1,v.2.2.2.2.2.1,())))
 v
 else
 (f137_c0 (x0,x1,x2,x3,x4,x5,())).bind fun v =>
 Sum.elim
 (fun v =>
 some
 (Sum.inr
 (Sum.inr
 (v.1,v.2.1,v.2.2.1,v.2.2.2.1,v.2.2.2.2.1,()))))
 (fun v =>
 some
 (Sum.inl
 (IntKind.i64.wrap (v.1+1),v.2.1,v.2.2.1,v.2.2.2.1,
 v.2.2.2.2.1,v.2.2.2.2.2.1,())))
 v
 else none
 else some (Sum.inr (Sum.inl (x1,x2,x3,x4,())))
theorem k2l (f141:xk) (f173:wq) (f137_c0:q4d):AqL (v9g f141 f173) 1 (qd (code Tryz.f137) [1,1,0,1,0,0]) (k0o f137_c0) y8o w3y (vd f141 f173 f137_c0):=fun v=>by kernel_rfl
def q6x:q8q:=qc (vd zv yf q3h) jd
theorem k4l:jg 1 (qd (code Tryz.f137) [1,1,0,1,0,0]) (y4z q6x) :=
 frm y3e (And.intro k4k trivial) (k2l zv yf q3h)
def b2p (f137_l0:q8q):Ann:=(.seq .nil (.seq .nil (.seq (.seq .nil (.blk (.loop (y4z f137_l0)))) .nil)))
def v6o (f141:xk) (f173:wq) (f137_l0:q8q):z7y:=fun (x0,x1,x2,x3,_) =>
 (f137_l0 (IntKind.i64.wrap (x1+1),x0,x1,x2,x3,[],())).bind fun v =>
 Sum.elim
 (fun v =>
 (f141 (v.2.1,4,v.1,v.2.1,v.2.2.1,v.2.2.2.1,())).bind fun v =>
 some ([],v.1,v.2.1,v.2.2.1,v.2.2.2.1,()))
 (fun v=>some (v.1,v.2.1,v.2.2.1,v.2.2.2.1,v.2.2.2.2.1,()))
 v
theorem b7l (f141:xk) (f173:wq) (f137_l0:q8q):ye (v9g f141 f173) 1 Tryz.f137 (b2p f137_l0) q1w q5m (v6o f141 f173 f137_l0):=fun v=>by kernel_rfl
def z7d:z7y:=v6o zv yf q6x
theorem f5b:FO 137 (g6u z7d) :=
 qo y3e Tryz.func137 (And.intro k4l trivial) (b7l zv yf q6x)
abbrev q4e:=Int×qa×qa×Int×Int×Int×Unit→Option (qa×qa×Int×Int×Int×Unit)
def y5a (f:q4e):LEnt:=⟨w0u,w3z,f⟩
abbrev q8r:=Int×qa×Int×Int×Int×Unit→Option ((qa×Int×Int×Int×Unit)⊕(qa×qa×Int×Int×Int×Unit))
def y5b (f:q8r):LEnt:=⟨w0v,w4a,f⟩
abbrev z7z:=qa×Int×Int×Int×Unit→Option (qa×qa×Int×Int×Int×Unit)
def g6v (f:z7z):FEnt:=⟨q1w,q5m,f⟩
def v9h (f141:xk) (f173:wq) (f174:q2o):=lk [(141,x7j f141),(173,v6a f173),(174,v6b f174)]
theorem y3f:zk Tryz.prog (v9h zv yf xi):=(kc x0v (kc v4b (kc v4c kn)))
def kg (f141:xk) (f173:wq) (f174:q2o):q4e:=fun (x0,x1,x2,x3,x4,x5,_) =>
 some (x1,x2,IntKind.i64.wrap (x0+1),x4,x5,())
def yz:q4e:=kg zv yf xi
theorem k4m:zj 1 (qd (code Tryz.f138) [1,0,1,0,0,1,0,0,1,0,1,0,1]) (y5a yz):=zc3 w0u w3z v9h kg zv yf xi y3f
def k0p (f138_c0:q4e):Ann:=(.seq .nil (.seq (.blk (.seq .nil (.blk (.seq .nil (.cond (.cut .nil (y5a f138_c0)) .nil))))) .nil))
def ve (f141:xk) (f173:wq) (f174:q2o) (f138_c0:q4e):yq (Int×qa×Int×Int×Int×Unit) ((qa×Int×Int×Int×Unit)⊕(qa×qa×Int×Int×Int×Unit)):=fun (x0,x1,x2,x3,x4,_) =>
 bif decide (x0<(↑x1.length:Int)) then
 bif decide (0≤x0)&&decide (x0<(↑x1.length:Int)) then
 bif (↑(x1.getD x0.toNat 0).toNat:Int)==93 then
 bif decide (0≤x0)&&decide (x0≤(↑x1.length:Int)) then
 bif decide (0≤IntKind.i64.wrap (x2+1))&&decide (IntKind.i64.wrap (x2+1)≤x0) then
 (f138_c0 (x0,List.drop (IntKind.i64.wrap (x2+1)).toNat (List.take x0.toNat x1),x1,x2,x3,x4,())).bind
 fun v =>
 some
 (Sum.inr
 (Sum.inr
 (v.1,v.2.1,v.2.2.1,v.2.2.2.1,v.2.2.2.2.1,())))
 else none
 else none
 else
 bif (↑(x1.getD x0.toNat 0).toNat:Int)==91 then
 (f141 (x0,4,x1,x2,x3,x4,())).bind fun v =>
 some (Sum.inr (Sum.inr ([],v.1,v.2.1,v.2.2.1,v.2.2.2.1,())))
 else
 bif (↑(x1.getD x0.toNat 0).toNat:Int)==92 then
 (f141 (x0,4,x1,x2,x3,x4,())).bind fun v =>
 some
 (Sum.inr (Sum.inr ([],v.1,v.2.1,v.2.2.1,v.2.2.2.1,())))
 else
 (f174 ((↑(x1.getD x0.toNat 0).toNat:Int),())).bind fun v =>
 bif v.1 then
 (f141 (x0,4,x1,x2,x3,x4,())).bind fun v =>
 some
 (Sum.inr
 (Sum.inr ([],v.1,v.2.1,v.2.2.1,v.2.2.2.1,())))
 else
 (f173 ((↑(x1.getD x0.toNat 0).toNat:Int),())).bind fun v =>
 bif !v.1 then
 (f141 (x0,4,x1,x2,x3,x4,())).bind fun v =>
 some
 (Sum.inr
 (Sum.inr ([],v.1,v.2.1,v.2.2.1,v.2.2.2.1,())))
 else some (Sum.inl (IntKind.i64.wrap (x0+1),x1,x2,x3,x4,()))
 else none
 else some (Sum.inr (Sum.inl (x1,x2,x3,x4,())))
theorem k2m (f141:xk) (f173:wq) (f174:q2o) (f138_c0:q4e):AqL (v9h f141 f173 f174) 1 (qd (code Tryz.f138) [1,0,1,0,0]) (k0p f138_c0) w0v w4a (ve f141 f173 f174 f138_c0):=fun v=>by kernel_rfl
def q6y:q8r:=qc (ve zv yf xi yz) jd
theorem k4n:jg 1 (qd (code Tryz.f138) [1,0,1,0,0]) (y5b q6y) :=
 frm y3f (And.intro k4m trivial) (k2m zv yf xi yz)
def b2q (f138_l0:q8r):Ann:=(.seq .nil (.seq (.seq .nil (.blk (.loop (y5b f138_l0)))) .nil))
def x2l (f141:xk) (f173:wq) (f174:q2o) (f138_l0:q8r):z7z:=fun (x0,x1,x2,x3,_) =>
 (f138_l0 (IntKind.i64.wrap (x1+1),x0,x1,x2,x3,())).bind fun v =>
 Sum.elim
 (fun v =>
 (f141 (v.2.1,4,v.1,v.2.1,v.2.2.1,v.2.2.2.1,())).bind fun v =>
 some ([],v.1,v.2.1,v.2.2.1,v.2.2.2.1,()))
 (fun v=>some (v.1,v.2.1,v.2.2.1,v.2.2.2.1,v.2.2.2.2.1,()))
 v
theorem b7m (f141:xk) (f173:wq) (f174:q2o) (f138_l0:q8r):ye (v9h f141 f173 f174) 1 Tryz.f138 (b2q f138_l0) q1w q5m (x2l f141 f173 f174 f138_l0):=fun v=>by kernel_rfl
def z7e:z7z:=x2l zv yf xi q6y
theorem f5c:FO 138 (g6v z7e) :=
 qo y3f Tryz.func138 (And.intro k4n trivial) (b7m zv yf xi q6y)
abbrev q8t:=Int×Int×Int×Int×qa×Int×Int×Int×Unit→Option ((Int×Int×qa×Int×Int×Int×Unit)⊕(Int×Int×qa×Int×Int×Int×Unit)⊕(qa×qa×Int×Int×Int×Unit))
def y5d (f:q8t):LEnt:=⟨w0w,w4b,f⟩
abbrev q8s:=Int×Int×qa×Int×Int×Int×Unit→Option (qa×qa×Int×Int×Int×Unit)
def y5c (f:q8s):LEnt:=⟨z0r,y9d,f⟩
abbrev z8a:=qa×Int×Int×Int×Unit→Option (qa×qa×Int×Int×Int×Unit)
def g6w (f:z8a):FEnt:=⟨q1w,q5m,f⟩
def v9i (f141:xk) (f173:wq):=lk [(141,x7j f141),(173,v6a f173)]
theorem y3g:zk Tryz.prog (v9i zv yf):=(kc x0v (kc v4b kn))
def zq (f141:xk) (f173:wq):yq (Int×Int×Int×Int×qa×Int×Int×Int×Unit) ((Int×Int×qa×Int×Int×Int×Unit)⊕(Int×Int×qa×Int×Int×Int×Unit)⊕(qa×qa×Int×Int×Int×Unit)):=fun (x0,x1,x2,x3,x4,x5,x6,x7,_) =>
 bif decide (x3<(↑x4.length:Int)) then
 bif decide (0≤x3)&&decide (x3<(↑x4.length:Int)) then
 bif (↑(x4.getD x3.toNat 0).toNat:Int)==40 then
 bif decide (IntKind.i64.wrap (x1+1)>32) then
 some (Sum.inr (Sum.inr (Sum.inl (6,x3,x4,x5,x6,x7,()))))
 else some (Sum.inl (x0,IntKind.i64.wrap (x1+1),x2,IntKind.i64.wrap (x3+1),x4,x5,x6,x7,()))
 else
 bif (↑(x4.getD x3.toNat 0).toNat:Int)==41 then
 bif IntKind.i64.wrap (x1 - 1)==0 then
 bif decide (0≤x3)&&decide (x3≤(↑x4.length:Int)) then
 bif decide (0≤IntKind.i64.wrap (x0+1))&&decide (IntKind.i64.wrap (x0+1)≤x3) then
 some
 (Sum.inr
 (Sum.inr
 (Sum.inr
 (List.drop (IntKind.i64.wrap (x0+1)).toNat (List.take x3.toNat x4),x4,
 IntKind.i64.wrap (x3+1),x6,x7,()))))
 else none
 else none
 else some (Sum.inl (x0,IntKind.i64.wrap (x1 - 1),x2,IntKind.i64.wrap (x3+1),x4,x5,x6,x7,()))
 else
 bif (↑(x4.getD x3.toNat 0).toNat:Int)==92 then
 bif IntKind.i64.wrap (x3+1)==(↑x4.length:Int) then
 some (Sum.inl (x0,x1,x2,IntKind.i64.wrap (IntKind.i64.wrap (x3+1)+1),x4,x5,x6,x7,()))
 else
 bif decide (0≤IntKind.i64.wrap (x3+1))&&decide (IntKind.i64.wrap (x3+1)<(↑x4.length:Int)) then
 (f173 ((↑(x4.getD (IntKind.i64.wrap (x3+1)).toNat 0).toNat:Int),())).bind fun v =>
 bif !v.1 then
 some (Sum.inr (Sum.inr (Sum.inl (x2,IntKind.i64.wrap (x3+1),x4,x5,x6,x7,()))))
 else
 some
 (Sum.inl (x0,x1,x2,IntKind.i64.wrap (IntKind.i64.wrap (x3+1)+1),x4,x5,x6,x7,()))
 else none
 else
 (f173 ((↑(x4.getD x3.toNat 0).toNat:Int),())).bind fun v =>
 bif !v.1 then some (Sum.inr (Sum.inr (Sum.inl (x2,x3,x4,x5,x6,x7,()))))
 else some (Sum.inl (x0,x1,x2,IntKind.i64.wrap (x3+1),x4,x5,x6,x7,()))
 else none
 else some (Sum.inr (Sum.inl (x0,x2,x4,x5,x6,x7,())))
def q6z:q8t:=qc (zq zv yf) jd
theorem k4p:jg 1 (qd (code Tryz.f139) [1,0,1,1,0,1,0,0]) (y5d q6z):=zl2 w0w w4b v9i zq zv yf y3g
def z3j (f141:xk) (f173:wq):yq (Int×Int×qa×Int×Int×Int×Unit) (qa×qa×Int×Int×Int×Unit):=fun (x0,x1,x2,x3,x4,x5,_) =>
 (f141 (x1,x0,x2,x3,x4,x5,())).bind fun v =>
 some (Sum.inr ([],v.1,v.2.1,v.2.2.1,v.2.2.2.1,()))
theorem k2n (f141:xk) (f173:wq) (v:HS z0r):aev Γ (v9i f141 f173) 1 ((findLabel (qd (code Tryz.f139) [1,0]) 0).getD .skip) .nil (v5k z0r v) (wy 1 0 [] z0r y9d)=z3j f141 f173 v:=by kernel_rfl
def q3i:q8s:=qc (z3j zv yf) jd
theorem k4o:js Tryz.prog 1 (jp Tryz.prog (qd (code Tryz.f139) [1,0]) 0) (y5c q3i) :=
 yb (ins:=z0r) (os:=y9d) (C:=q3i) (q6i (ins:=z0r) (os:=y9d) (n := .nil) (ls:=[]) (F:=z3j zv yf) (rest:=((findLabel (qd (code Tryz.f139) [1,0]) 0).getD .skip)) hm hΓ y3g (fun _=>jd) (by kernel_rfl) (jm _) j0s (k2n zv yf)) rfl
def b2r (f139_g0:q8s) (f139_l0:q8t):Ann:=(.seq .nil (.scope (.seq .nil (.seq .nil (.seq (.seq .nil (.blk (.loop (y5d f139_l0)))) .nil))) [(0,(y5c f139_g0))]))
def x2m (f141:xk) (f173:wq) (f139_g0:q8s) (f139_l0:q8t):z8a:=fun (x0,x1,x2,x3,_) =>
 (f139_l0 (x1,0,4,x1,x0,x1,x2,x3,())).bind fun v =>
 Sum.elim
 (fun v =>
 (f141
 (v.1,v.2.1,v.2.2.1,v.2.2.2.1,v.2.2.2.2.1,
 v.2.2.2.2.2.1,())).bind
 fun v=>some ([],v.1,v.2.1,v.2.2.1,v.2.2.2.1,()))
 (fun v =>
 Sum.elim
 (fun v =>
 (f139_g0
 (v.1,v.2.1,v.2.2.1,v.2.2.2.1,v.2.2.2.2.1,
 v.2.2.2.2.2.1,())).bind
 fun v =>
 some (v.1,v.2.1,v.2.2.1,v.2.2.2.1,v.2.2.2.2.1,()))
 (fun v =>
 some (v.1,v.2.1,v.2.2.1,v.2.2.2.1,v.2.2.2.2.1,()))
 v)
 v
theorem b7n (f141:xk) (f173:wq) (f139_g0:q8s) (f139_l0:q8t):ye (v9i f141 f173) 1 Tryz.f139 (b2r f139_g0 f139_l0) q1w q5m (x2m f141 f173 f139_g0 f139_l0):=fun v=>by kernel_rfl
def z7f:z8a:=x2m zv yf q3i q6z
theorem f5d:FO 139 (g6w z7f) :=
 qo y3g Tryz.func139 (And.intro k4p (And.intro k4o trivial)) (b7n zv yf q3i q6z)
abbrev q4f:=Int×Bool×qa×Int×Int×Int×Unit→Option ((Int×qa×Int×Int×Int×Unit)⊕(qa×qa×Int×Int×Int×Unit))
def y5e (f:q4f):LEnt:=⟨w0x,w4c,f⟩
abbrev q8u:=Int×qa×Int×Int×Int×Unit→Option ((Int×qa×Int×Int×Int×Unit)⊕(qa×qa×Int×Int×Int×Unit))
def y5f (f:q8u):LEnt:=⟨w0y,w4d,f⟩
abbrev z8b:=qa×Int×Int×Int×Unit→Option (qa×qa×Int×Int×Int×Unit)
def g6x (f:z8b):FEnt:=⟨q1w,q5m,f⟩
def v9j (f174:q2o):=lk [(174,v6b f174)]
theorem y3h:zk Tryz.prog (v9j xi):=(kc v4c kn)
def j4y (f174:q2o):q4f:=fun (x0,x1,x2,x3,x4,x5,_) =>
 bif x1 then some (Sum.inl (x0,x2,IntKind.i64.wrap (x3+3),x4,x5,()))
 else
 bif decide (0≤x3)&&decide (x3≤(↑x2.length:Int)) then
 bif decide (0≤x0)&&decide (x0≤x3) then
 some (Sum.inr (List.drop x0.toNat (List.take x3.toNat x2),x2,x3,x4,x5,()))
 else none
 else none
def xu:q4f:=j4y xi
theorem k4q:zj 1 (qd (code Tryz.f140) [1,1,0,0,0,1,0,1,0,1,1,1]) (y5e xu):=zc1 w0x w4c v9j j4y xi y3h
def k0q (f140_c0:q4f):Ann:=(.seq .nil (.blk (.seq .nil (.blk (.seq .nil (.cond .nil (.cut .nil (y5e f140_c0))))))))
def yg (f174:q2o) (f140_c0:q4f):yq (Int×qa×Int×Int×Int×Unit) ((Int×qa×Int×Int×Int×Unit)⊕(qa×qa×Int×Int×Int×Unit)):=fun (x0,x1,x2,x3,x4,_) =>
 bif decide (x2<(↑x1.length:Int)) then
 bif decide (0≤x2)&&decide (x2≤(↑x1.length:Int)) then
 bif decide (0<(↑(List.drop x2.toNat x1).length:Int)) then
 (f174 ((↑((List.drop x2.toNat x1).getD 0 0).toNat:Int),())).bind fun v =>
 bif v.1 then some (Sum.inl (x0,x1,IntKind.i64.wrap (x2+1),x3,x4,()))
 else
 bif decide ((↑(List.drop x2.toNat x1).length:Int)>2) then
 bif decide (2≤(↑(List.drop x2.toNat x1).length:Int)) then
 bif List.take 2 (List.drop x2.toNat x1)==[13,10] then
 bif decide (2<(↑(List.drop x2.toNat x1).length:Int)) then
 (f174 ((↑((List.drop x2.toNat x1).getD 2 0).toNat:Int),())).bind fun v =>
 (f140_c0 (x0,v.1,x1,x2,x3,x4,())).bind fun v =>
 Sum.elim
 (fun v =>
 some
 (Sum.inl
 (v.1,v.2.1,v.2.2.1,v.2.2.2.1,v.2.2.2.2.1,
 ())))
 (fun v =>
 some
 (Sum.inr
 (Sum.inr
 (v.1,v.2.1,v.2.2.1,v.2.2.2.1,v.2.2.2.2.1,
 ()))))
 v
 else none
 else
 (f140_c0 (x0,false,x1,x2,x3,x4,())).bind fun v =>
 Sum.elim
 (fun v =>
 some
 (Sum.inl
 (v.1,v.2.1,v.2.2.1,v.2.2.2.1,v.2.2.2.2.1,
 ())))
 (fun v =>
 some
 (Sum.inr
 (Sum.inr
 (v.1,v.2.1,v.2.2.1,v.2.2.2.1,v.2.2.2.2.1,
 ()))))
 v
 else none
 else
 (f140_c0 (x0,false,x1,x2,x3,x4,())).bind fun v =>
 Sum.elim
 (fun v =>
 some
 (Sum.inl
 (v.1,v.2.1,v.2.2.1,v.2.2.2.1,v.2.2.2.2.1,
 ())))
 (fun v =>
 some
 (Sum.inr
 (Sum.inr
 (v.1,v.2.1,v.2.2.1,v.2.2.2.1,v.2.2.2.2.1,
 ()))))
 v
 else none
 else none
 else some (Sum.inr (Sum.inl (x0,x1,x2,x3,x4,())))
theorem k2o (f174:q2o) (f140_c0:q4f):AqL (v9j f174) 1 (qd (code Tryz.f140) [1,1,0,0,0]) (k0q f140_c0) w0y w4d (yg f174 f140_c0):=fun v=>by kernel_rfl
def q3j:q8u:=qc (yg xi xu) jd
theorem k4r:jg 1 (qd (code Tryz.f140) [1,1,0,0,0]) (y5f q3j) :=
 frm y3h (And.intro k4q trivial) (k2o xi xu)
def b2s (f140_l0:q8u):Ann:=(.seq .nil (.seq .nil (.seq (.blk (.loop (y5f f140_l0))) .nil)))
def x8j (f174:q2o) (f140_l0:q8u):z8b:=fun (x0,x1,x2,x3,_) =>
 (f140_l0 (x1,x0,x1,x2,x3,())).bind fun v =>
 Sum.elim
 (fun v =>
 bif decide (0≤v.2.2.1)&&decide (v.2.2.1≤(↑(List.length v.2.1):Int)) then
 bif decide (0≤v.1)&&decide (v.1≤v.2.2.1) then
 some
 (List.drop (Int.toNat v.1) (List.take (Int.toNat v.2.2.1) v.2.1),v.2.1,
 v.2.2.1,v.2.2.2.1,v.2.2.2.2.1,())
 else none
 else none)
 (fun v=>some (v.1,v.2.1,v.2.2.1,v.2.2.2.1,v.2.2.2.2.1,()))
 v
theorem b7o (f174:q2o) (f140_l0:q8u):ye (v9j f174) 1 Tryz.f140 (b2s f140_l0) q1w q5m (x8j f174 f140_l0):=fun v=>by kernel_rfl
def z7g:z8b:=x8j xi q3j
theorem f5e:FO 140 (g6x z7g) :=
 qo y3h Tryz.func140 (And.intro k4r trivial) (b7o xi q3j)
abbrev q3y:=Int×Int×qa×Int×Int×Int×Int×qa×Int×Unit→Option (qa×Int×Int×Int×Int×qa×Int×Unit)
def y4p (f:q3y):LEnt:=⟨w0z,w4f,f⟩
abbrev x2z:=qa×Int×Int×Int×Unit→Option (Int×qa×Int×qa×Int×Int×Int×Unit)
def g6g (f:x2z):FEnt:=⟨q1w,w4e,f⟩
def w8p (f127:q6e) (f136:z7x) (f137:z7y) (f138:z7z) (f139:z8a) (f140:z8b) (f141:xk) (f90:T90):=lk [(127,v5x f127),(136,g6t f136),(137,g6u f137),(138,g6v f138),(139,g6w f139),(140,g6x f140),(141,x7j f141),(90,E90 f90)]
theorem v1z:zk Tryz.prog (w8p q2c z7c z7d z7e z7f z7g zv C90):=(kc v3x (kc f5a (kc f5b (kc f5c (kc f5d (kc f5e (kc x0v (kc g4t kn))))))))
def ke (f127:q6e) (f136:z7x) (f137:z7y) (f138:z7z) (f139:z8a) (f140:z8b) (f141:xk) (f90:T90):q3y:=fun (x0,x1,x2,x3,x4,x5,x6,x7,x8,_) =>
 (f90 (x1,())).bind fun v =>
 bif v.1 then
 (f136 (x2,x3,x4,x5,())).bind fun v =>
 some (v.2.1,v.2.2.1,v.2.2.2.1,v.2.2.2.2.1,0,v.1,x0,())
 else
 (f127 ([60,62,58,59,64,44,46],x1,())).bind fun v =>
 bif decide (v.1≥0) then
 bif decide (0≤IntKind.i64.wrap (x3+1))&&decide (IntKind.i64.wrap (x3+1)≤(↑x2.length:Int)) then
 bif decide (0≤x0)&&decide (x0≤IntKind.i64.wrap (x3+1)) then
 some
 (x2,IntKind.i64.wrap (x3+1),x4,x5,2,
 List.drop x0.toNat (List.take (IntKind.i64.wrap (x3+1)).toNat x2),x0,())
 else none
 else none
 else
 bif x1==34 then
 (f137 (x2,x3,x4,x5,())).bind fun v =>
 some
 (v.2.1,v.2.2.1,v.2.2.2.1,v.2.2.2.2.1,1,v.1,x0,())
 else
 bif x1==91 then
 (f138 (x2,x3,x4,x5,())).bind fun v =>
 some
 (v.2.1,v.2.2.1,v.2.2.2.1,v.2.2.2.2.1,5,v.1,x0,())
 else
 bif x1==40 then
 (f139 (x2,x3,x4,x5,())).bind fun v =>
 some
 (v.2.1,v.2.2.1,v.2.2.2.1,v.2.2.2.2.1,3,v.1,x0,
 ())
 else
 (f140 (x2,x3,x4,x5,())).bind fun v =>
 bif v.1==[] then
 (f141 (x0,4,v.2.1,v.2.2.1,v.2.2.2.1,v.2.2.2.2.1,())).bind
 fun v1 =>
 some
 (v1.1,v1.2.1,v1.2.2.1,v1.2.2.2.1,4,v.1,x0,())
 else
 some
 (v.2.1,v.2.2.1,v.2.2.2.1,v.2.2.2.2.1,4,v.1,x0,
 ())
theorem k2g (f127:q6e) (f136:z7x) (f137:z7y) (f138:z7z) (f139:z8a) (f140:z8b) (f141:xk) (f90:T90):AqC (w8p f127 f136 f137 f138 f139 f140 f141 f90) 1 (qd (code Tryz.f105) [1,1]) .nil w0z w4f (ke f127 f136 f137 f138 f139 f140 f141 f90):=fun v=>by kernel_rfl
def yx:q3y:=ke q2c z7c z7d z7e z7f z7g zv C90
theorem k4b:zj 1 (qd (code Tryz.f105) [1,1]) (y4p yx) :=
 frc v1z (k2g q2c z7c z7d z7e z7f z7g zv C90)
def b2i (f105_c0:q3y):Ann:=(.seq .nil (.cut .nil (y4p f105_c0)))
def j9v (f127:q6e) (f136:z7x) (f137:z7y) (f138:z7z) (f139:z8a) (f140:z8b) (f141:xk) (f90:T90) (f105_c0:q3y):x2z:=fun (x0,x1,x2,x3,_) =>
 bif decide (0≤x1)&&decide (x1<(↑x0.length:Int)) then
 (f105_c0 (x1,(↑(x0.getD x1.toNat 0).toNat:Int),x0,x1,x2,x3,0,[],0,())).bind fun v =>
 some
 (v.2.2.2.2.1,v.2.2.2.2.2.1,v.2.2.2.2.2.2.1,v.1,v.2.1,
 v.2.2.1,v.2.2.2.1,())
 else none
theorem b7e (f127:q6e) (f136:z7x) (f137:z7y) (f138:z7z) (f139:z8a) (f140:z8b) (f141:xk) (f90:T90) (f105_c0:q3y):ye (w8p f127 f136 f137 f138 f139 f140 f141 f90) 1 Tryz.f105 (b2i f105_c0) q1w w4e (j9v f127 f136 f137 f138 f139 f140 f141 f90 f105_c0):=fun v=>by kernel_rfl
def z2d:x2z:=j9v q2c z7c z7d z7e z7f z7g zv C90 yx
theorem f4m:FO 105 (g6g z2d) :=
 qo v1z Tryz.func105 (And.intro k4b trivial) (b7e q2c z7c z7d z7e z7f z7g zv C90 yx)
abbrev z5k:=qa×LqD×qa×Int×Int×Int×Unit→Option ((LqD×Unit)⊕(Int×Int×Unit))
def x7y (f:z5k):LEnt:=⟨w1a,w4h,f⟩
abbrev T67:=qa×Unit→Option (LqD×Int×Int×Unit)
def E67 (f:T67):FEnt:=⟨xh,w4g,f⟩
def K67 (f105:x2z) (f83:T83):=lk [(105,g6g f105),(83,E83 f83)]
theorem w5o:zk Tryz.prog (K67 z2d C83):=(kc f4m (kc y0g kn))
def q2j (f105:x2z) (f83:T83):yq (qa×LqD×qa×Int×Int×Int×Unit) ((LqD×Unit)⊕(Int×Int×Unit)):=fun (x0,x1,x2,x3,x4,x5,_) =>
 bif decide (x3<(↑x0.length:Int)) then
 (f105 (x2,x3,x4,x5,())).bind fun v =>
 bif decide (x1.length+[(v.1,v.2.1,v.2.2.1)].length≤140737488355328/32) then
 bif v.2.2.2.2.2.2.1 != 0 then
 some (Sum.inr (Sum.inr (v.2.2.2.2.2.1,v.2.2.2.2.2.2.1,())))
 else
 some
 (Sum.inl
 (x0,x1++[(v.1,v.2.1,v.2.2.1)],v.2.2.2.1,v.2.2.2.2.1,
 v.2.2.2.2.2.1,v.2.2.2.2.2.2.1,()))
 else none
 else some (Sum.inr (Sum.inl (x1,())))
def j7l:z5k:=qc (q2j z2d C83) jd
theorem g4a:jg 0 (qd (code Tryz.f67) [1,1,1,1,1,0,0,0]) (x7y j7l):=zl2 w1a w4h K67 q2j z2d C83 w5o
def N67 (f67_l0:z5k):Ann:=(.seq .nil (.seq .nil (.seq .nil (.seq .nil (.seq .nil (.seq (.blk (.loop (x7y f67_l0))) .nil))))))
def F67 (f105:x2z) (f83:T83) (f67_l0:z5k):T67:=fun (x0,_) =>
 bif decide ((↑x0.length:Int)>2000) then some ([],0,5,())
 else
 (f83 (x0,())).bind fun v =>
 bif decide (v.2.1≥0) then some ([],v.2.1,7,())
 else
 (f67_l0 (x0,[],x0,0,0,0,())).bind fun v =>
 Sum.elim (fun v=>some (v.1,0,0,())) (fun v=>some ([],v.1,v.2.1,()))
 v
def C67:T67:=F67 z2d C83 j7l
theorem f8t:FO 67 (E67 C67):=j3n xh w4g K67 N67 F67 z2d C83 j7l w5o Tryz.func67 (And.intro g4a trivial)
abbrev q4g:=Int×LqD×Int×qa×qa×Unit→Option (Int×LqD×Int×qa×qa×Unit)
def y5g (f:q4g):LEnt:=⟨w1c,w4j,f⟩
abbrev vq:=Int×LqD×Int×qa×qa×Unit→Option (Int×LqD×Int×qa×qa×Unit)
def x2i (f:vq):FEnt:=⟨w1b,w4i,f⟩
def z3p:q4g:=fun (x0,x1,x2,x3,x4,_) =>
 bif decide (0≤IntKind.i64.wrap (x2+x0))&&decide (IntKind.i64.wrap (x2+x0)<(↑x1.length:Int)) then
 some
 ((x1.getD (IntKind.i64.wrap (x2+x0)).toNat
 (0,([],0))).1,
 x1,x2,x3,x4,())
 else none
def q7a:q4g:=z3p
theorem k4s:zj 1 (qd (code Tryz.f146) [1,1]) (y5g q7a):=zc0 w1c w4j vf z3p kn
def b2t (f146_c0:q4g):Ann:=(.seq .nil (.cut .nil (y5g f146_c0)))
def v6p (f146_c0:q4g):vq:=fun (x0,x1,x2,x3,x4,_) =>
 bif decide (IntKind.i64.wrap (x2+x0)≥(↑x1.length:Int)) then some (-1,x1,x2,x3,x4,())
 else
 (f146_c0 (x0,x1,x2,x3,x4,())).bind fun v =>
 some (v.1,v.2.1,v.2.2.1,v.2.2.2.1,v.2.2.2.2.1,())
theorem b7q (f146_c0:q4g):ye vf 1 Tryz.f146 (b2t f146_c0) w1b w4i (v6p f146_c0):=fun v=>by kernel_rfl
def yl:vq:=v6p q7a
theorem y0e:FO 146 (x2i yl) :=
 qo kn Tryz.func146 (And.intro k4s trivial) (b7q q7a)
end Go.Proofs.YtiacnhhmkdkpmaaGreatDoorA.W
