/- The texts of the proof, one behind the other: W4, W5, W6, W7, W8, XDom, W9. -/
import Derived.Test.YtiacnhhmkdkpmaaGreatDoorAMr3
import Derived.RangeFuncBox
import Derived.OwnWalkIn
import Derived.TacticsInMore
import Derived.LoopNIn
import Derived.LoopIn
import Derived.Sort.LoopGhostIn
import Derived.Maps.AppendAt
set_option maxRecDepth 100000
set_option linter.unusedVariables false
namespace Go.Proofs.YtiacnhhmkdkpmaaGreatDoorA.W
open Go Go.Ae
abbrev j0i:=(Int×Int)×Int×Int×Int×List (Int)×qq×qu×qv×Unit→Option ((Int×Int)×Int×Int×List (Int)×qq×qu×qv×Unit)
def y7f (f:j0i):LEnt:=⟨f0o,f1h,f⟩
abbrev ww:=(Int×Int)×Int×Int×Int×List (Int)×qq×qu×qv×Unit→Option (List (Int)×qq×qu×qv×Unit)
def g8w (f:ww):FEnt:=⟨y1o,j1y,f⟩
def w9b (f316:y1x):=lk [(316,g8x f316)]
theorem v2i:zj Tryz.prog (w9b j9h):=(kc f7k kn)
def j5t (f316:y1x):yq ((Int×Int)×Int×Int×Int×List (Int)×qq×qu×qv×Unit) ((Int×Int)×Int×Int×List (Int)×qq×qu×qv×Unit):=fun (x0,x1,x2,x3,x4,x5,x6,x7,_) =>
 bif x2 != x3 then
 bif decide (x2>x3) then
 (f316
 (((↑(Int.toNat x0.1):Int),(↑(Int.toNat x0.2):Int)),IntKind.i64.wrap (x1 - x2),x1,x3,x4,x5,x6,
 x7,())).bind
 fun v =>
 some
 (Sum.inl
 (((↑(Int.toNat x0.1):Int),(↑(Int.toNat x0.2):Int)),x1,IntKind.i64.wrap (x2 - x3),x3,v.1,
 v.2.1,v.2.2.1,v.2.2.2.1,()))
 else
 (f316
 (((↑(Int.toNat x0.1):Int),(↑(Int.toNat x0.2):Int)),IntKind.i64.wrap (x1 - x2),
 IntKind.i64.wrap (IntKind.i64.wrap (x1+x3) - x2),x2,x4,x5,x6,x7,())).bind
 fun v =>
 some
 (Sum.inl
 (((↑(Int.toNat x0.1):Int),(↑(Int.toNat x0.2):Int)),x1,x2,IntKind.i64.wrap (x3 - x2),v.1,
 v.2.1,v.2.2.1,v.2.2.2.1,()))
 else some (Sum.inr (((↑(Int.toNat x0.1):Int),(↑(Int.toNat x0.2):Int)),x1,x2,x4,x5,x6,x7,()))
def z2r:j0i:=qc (j5t j9h) je
theorem k6t:jf 2 (qe (code Tryz.f315) [1,1,0,0,0]) (y7f z2r):=zl1 f0o f1h w9b j5t j9h v2i
def b3f (f315_l0:j0i):Ann:=(.seq .nil (.seq .nil (.seq (.blk (.loop (y7f f315_l0))) .nil)))
def v8o (f316:y1x) (f315_l0:j0i):ww:=fun (x0,x1,x2,x3,x4,x5,x6,x7,_) =>
 (f315_l0
 (((↑(Int.toNat x0.1):Int),(↑(Int.toNat x0.2):Int)),x2,IntKind.i64.wrap (x2 - x1),
 IntKind.i64.wrap (x3 - x2),x4,x5,x6,x7,())).bind
 fun v =>
 (f316
 (((↑(Int.toNat v.1.1):Int),(↑(Int.toNat v.1.2):Int)),
 IntKind.i64.wrap (v.2.1 - v.2.2.1),v.2.1,v.2.2.1,v.2.2.2.1,
 v.2.2.2.2.1,v.2.2.2.2.2.1,v.2.2.2.2.2.2.1,())).bind
 fun v=>some (v.1,v.2.1,v.2.2.1,v.2.2.2.1,())
theorem b7y (f316:y1x) (f315_l0:j0i):ye (w9b f316) 2 Tryz.f315 (b3f f315_l0) y1o j1y (v8o f316 f315_l0):=fun v=>by kernel_rfl
def zu:ww:=v8o j9h z2r
theorem f7j:FO 315 (g8w zu) :=
 qo v2i Tryz.func315 (And.intro k6t trivial) (b7y j9h z2r)
abbrev j0d:=(Int×Int)×Int×Int×Int×List (Int)×qq×qu×qv×Unit→Option ((Int×Int)×Int×Int×List (Int)×qq×qu×qv×Unit)
def y7a (f:j0d):LEnt:=⟨v9g,v9s,f⟩
abbrev j0e:=(Int×Int)×Int×Int×List (Int)×qq×qu×qv×Unit→Option (List (Int)×qq×qu×qv×Unit)
def y7b (f:j0e):LEnt:=⟨v9h,v9t,f⟩
abbrev j0f:=(Int×Int)×Int×Int×Int×List (Int)×qq×qu×qv×Unit→Option ((Int×Int)×Int×Int×List (Int)×qq×qu×qv×Unit)
def y7c (f:j0f):LEnt:=⟨v9i,v9u,f⟩
abbrev j0g:=(Int×Int)×Int×Int×List (Int)×qq×qu×qv×Unit→Option (List (Int)×qq×qu×qv×Unit)
def y7d (f:j0g):LEnt:=⟨v9j,v9v,f⟩
abbrev j0h:=(Int×Int)×Int×Int×Int×Int×Int×Int×Int×Int×List (Int)×qq×qu×qv×Unit→Option ((Int×Int)×Int×Int×Int×Int×Int×Int×List (Int)×qq×qu×qv×Unit)
def y7e (f:j0h):LEnt:=⟨v9k,v9w,f⟩
abbrev q4w:=(Int×Int)×Int×Int×Int×List (Int)×qq×qu×qv×Unit→Option (List (Int)×qq×qu×qv×Unit)
def y6x (f:q4w):LEnt:=⟨w9e,z4b,f⟩
abbrev q4x:=(Int×Int)×Int×Int×Int×Int×Int×List (Int)×qq×qu×qv×Unit→Option (List (Int)×qq×qu×qv×Unit)
def y6y (f:q4x):LEnt:=⟨w9f,z4b,f⟩
abbrev q4y:=(Int×Int)×Int×Int×Int×Int×Int×Int×Int×List (Int)×qq×qu×qv×Unit→Option (List (Int)×qq×qu×qv×Unit)
def y6z (f:q4y):LEnt:=⟨w9g,z4b,f⟩
abbrev jc:=(Int×Int)×Int×Int×Int×List (Int)×qq×qu×qv×Unit→Option (List (Int)×qq×qu×qv×Unit)
def j3p (f:jc):FEnt:=⟨y1o,j1y,f⟩
def j9j (f278:yx) (f311:jc) (f315:ww):=lk [(278,w7j f278),(311,j3p f311),(315,g8w f315)]
theorem q1m (G:jc) (hG:zf Tryz.prog 311 (j3p G)):zj Tryz.prog (j9j zi G zu):=(kc w5y (kc hG (kc f7j kn)))
def q8f (f278:yx) (f311:jc) (f315:ww):yq ((Int×Int)×Int×Int×Int×List (Int)×qq×qu×qv×Unit) ((Int×Int)×Int×Int×List (Int)×qq×qu×qv×Unit):=fun (x0,x1,x2,x3,x4,x5,x6,x7,_) =>
 bif decide (x2<x3) then
 bif
 decide
 (0 ≤
 IntKind.i64.wrap
 ((IntKind.u64.wrap (IntKind.i64.wrap (x2+x3))).fdiv (2^min 1 IntKind.u64.bits))) &&
 decide
 (IntKind.i64.wrap
 ((IntKind.u64.wrap (IntKind.i64.wrap (x2+x3))).fdiv (2^min 1 IntKind.u64.bits)) <
 (↑(Int.toNat x0.2):Int)) then
 bif decide (0≤x1)&&decide (x1<(↑(Int.toNat x0.2):Int)) then
 (f278
 (x4.getD
 (Int.toNat x0.1 +
 (IntKind.i64.wrap
 ((IntKind.u64.wrap (IntKind.i64.wrap (x2+x3))).fdiv
 (2^min 1 IntKind.u64.bits))).toNat)
 0,
 x4.getD (Int.toNat x0.1+x1.toNat) 0,x5,x6,x7,())).bind
 fun v =>
 bif decide (v.1<0) then
 some
 (Sum.inl
 (((↑(Int.toNat x0.1):Int),(↑(Int.toNat x0.2):Int)),x1,
 IntKind.i64.wrap
 (IntKind.i64.wrap
 ((IntKind.u64.wrap (IntKind.i64.wrap (x2+x3))).fdiv (2^min 1 IntKind.u64.bits)) +
 1),
 x3,x4,v.2.1,v.2.2.1,v.2.2.2.1,()))
 else
 some
 (Sum.inl
 (((↑(Int.toNat x0.1):Int),(↑(Int.toNat x0.2):Int)),x1,x2,
 IntKind.i64.wrap
 ((IntKind.u64.wrap (IntKind.i64.wrap (x2+x3))).fdiv (2^min 1 IntKind.u64.bits)),
 x4,v.2.1,v.2.2.1,v.2.2.2.1,()))
 else none
 else none
 else some (Sum.inr (((↑(Int.toNat x0.1):Int),(↑(Int.toNat x0.2):Int)),x1,x2,x4,x5,x6,x7,()))
theorem k3f (f278:yx) (f311:jc) (f315:ww):AqL (j9j f278 f311 f315) 2 (qe (code Tryz.f311) [0,1,0,1,1,0,0,0]) .nil v9g v9s (q8f f278 f311 f315):=fun v=>by kernel_rfl
def xw (G:jc):j0d:=qc (q8f zi G zu) je
theorem k6o (G:jc) (hG:zf Tryz.prog 311 (j3p G)):jf 2 (qe (code Tryz.f311) [0,1,0,1,1,0,0,0]) (y7a (xw G)) :=
 yb (ins:=v9g) (os:=v9s) (C:=(xw G)) (xq (ins:=v9g) (os:=v9s) (n := .nil) (F:=q8f zi G zu) hm hΓ (q1m G hG) (fun _=>je) (jm _) (k3f zi G zu)) rfl
def q8g (f278:yx) (f311:jc) (f315:ww):yq ((Int×Int)×Int×Int×List (Int)×qq×qu×qv×Unit) (List (Int)×qq×qu×qv×Unit):=fun (x0,x1,x2,x3,x4,x5,x6,_) =>
 bif decide (x2<IntKind.i64.wrap (x1 - 1)) then
 bif decide (0≤IntKind.i64.wrap (x2+1))&&decide (IntKind.i64.wrap (x2+1)<(↑(Int.toNat x0.2):Int)) then
 bif decide (0≤x2)&&decide (x2<(↑(Int.toNat x0.2):Int)) then
 bif decide (0≤x2)&&decide (x2<(↑(Int.toNat x0.2):Int)) then
 bif
 decide (0≤IntKind.i64.wrap (x2+1)) &&
 decide (IntKind.i64.wrap (x2+1)<(↑(Int.toNat x0.2):Int)) then
 some
 (Sum.inl
 (((↑(Int.toNat x0.1):Int),(↑(Int.toNat x0.2):Int)),x1,IntKind.i64.wrap (x2+1),
 (x3.set (Int.toNat x0.1+x2.toNat)
 (x3.getD (Int.toNat x0.1+(IntKind.i64.wrap (x2+1)).toNat) 0)).set
 (Int.toNat x0.1+(IntKind.i64.wrap (x2+1)).toNat)
 (x3.getD (Int.toNat x0.1+x2.toNat) 0),
 x4,x5,x6,()))
 else none
 else none
 else none
 else none
 else some (Sum.inr (x3,x4,x5,x6,()))
theorem k3g (f278:yx) (f311:jc) (f315:ww):AqL (j9j f278 f311 f315) 2 (qe (code Tryz.f311) [0,1,0,1,1,1,0,1,0,0]) .nil v9h v9t (q8g f278 f311 f315):=fun v=>by kernel_rfl
def xx (G:jc):j0e:=qc (q8g zi G zu) je
theorem k6p (G:jc) (hG:zf Tryz.prog 311 (j3p G)):jf 2 (qe (code Tryz.f311) [0,1,0,1,1,1,0,1,0,0]) (y7b (xx G)) :=
 yb (ins:=v9h) (os:=v9t) (C:=(xx G)) (xq (ins:=v9h) (os:=v9t) (n := .nil) (F:=q8g zi G zu) hm hΓ (q1m G hG) (fun _=>je) (jm _) (k3g zi G zu)) rfl
def q8h (f278:yx) (f311:jc) (f315:ww):yq ((Int×Int)×Int×Int×Int×List (Int)×qq×qu×qv×Unit) ((Int×Int)×Int×Int×List (Int)×qq×qu×qv×Unit):=fun (x0,x1,x2,x3,x4,x5,x6,x7,_) =>
 bif decide (x2<x3) then
 bif decide (0≤x1)&&decide (x1<(↑(Int.toNat x0.2):Int)) then
 bif
 decide
 (0 ≤
 IntKind.i64.wrap
 ((IntKind.u64.wrap (IntKind.i64.wrap (x2+x3))).fdiv (2^min 1 IntKind.u64.bits))) &&
 decide
 (IntKind.i64.wrap
 ((IntKind.u64.wrap (IntKind.i64.wrap (x2+x3))).fdiv (2^min 1 IntKind.u64.bits)) <
 (↑(Int.toNat x0.2):Int)) then
 (f278
 (x4.getD (Int.toNat x0.1+x1.toNat) 0,
 x4.getD
 (Int.toNat x0.1 +
 (IntKind.i64.wrap
 ((IntKind.u64.wrap (IntKind.i64.wrap (x2+x3))).fdiv
 (2^min 1 IntKind.u64.bits))).toNat)
 0,
 x5,x6,x7,())).bind
 fun v =>
 bif !decide (v.1<0) then
 some
 (Sum.inl
 (((↑(Int.toNat x0.1):Int),(↑(Int.toNat x0.2):Int)),x1,
 IntKind.i64.wrap
 (IntKind.i64.wrap
 ((IntKind.u64.wrap (IntKind.i64.wrap (x2+x3))).fdiv (2^min 1 IntKind.u64.bits)) +
 1),
 x3,x4,v.2.1,v.2.2.1,v.2.2.2.1,()))
 else
 some
 (Sum.inl
 (((↑(Int.toNat x0.1):Int),(↑(Int.toNat x0.2):Int)),x1,x2,
 IntKind.i64.wrap
 ((IntKind.u64.wrap (IntKind.i64.wrap (x2+x3))).fdiv (2^min 1 IntKind.u64.bits)),
 x4,v.2.1,v.2.2.1,v.2.2.2.1,()))
 else none
 else none
 else some (Sum.inr (((↑(Int.toNat x0.1):Int),(↑(Int.toNat x0.2):Int)),x1,x2,x4,x5,x6,x7,()))
theorem k3h (f278:yx) (f311:jc) (f315:ww):AqL (j9j f278 f311 f315) 2 (qe (code Tryz.f311) [1,0,1,0,1,1,0,0,0]) .nil v9i v9u (q8h f278 f311 f315):=fun v=>by kernel_rfl
def xy (G:jc):j0f:=qc (q8h zi G zu) je
theorem k6q (G:jc) (hG:zf Tryz.prog 311 (j3p G)):jf 2 (qe (code Tryz.f311) [1,0,1,0,1,1,0,0,0]) (y7c (xy G)) :=
 yb (ins:=v9i) (os:=v9u) (C:=(xy G)) (xq (ins:=v9i) (os:=v9u) (n := .nil) (F:=q8h zi G zu) hm hΓ (q1m G hG) (fun _=>je) (jm _) (k3h zi G zu)) rfl
def q8i (f278:yx) (f311:jc) (f315:ww):yq ((Int×Int)×Int×Int×List (Int)×qq×qu×qv×Unit) (List (Int)×qq×qu×qv×Unit):=fun (x0,x1,x2,x3,x4,x5,x6,_) =>
 bif decide (x2>x1) then
 bif decide (0≤IntKind.i64.wrap (x2 - 1))&&decide (IntKind.i64.wrap (x2 - 1)<(↑(Int.toNat x0.2):Int)) then
 bif decide (0≤x2)&&decide (x2<(↑(Int.toNat x0.2):Int)) then
 bif decide (0≤x2)&&decide (x2<(↑(Int.toNat x0.2):Int)) then
 bif
 decide (0≤IntKind.i64.wrap (x2 - 1)) &&
 decide (IntKind.i64.wrap (x2 - 1)<(↑(Int.toNat x0.2):Int)) then
 some
 (Sum.inl
 (((↑(Int.toNat x0.1):Int),(↑(Int.toNat x0.2):Int)),x1,IntKind.i64.wrap (x2 - 1),
 (x3.set (Int.toNat x0.1+x2.toNat)
 (x3.getD (Int.toNat x0.1+(IntKind.i64.wrap (x2 - 1)).toNat) 0)).set
 (Int.toNat x0.1+(IntKind.i64.wrap (x2 - 1)).toNat)
 (x3.getD (Int.toNat x0.1+x2.toNat) 0),
 x4,x5,x6,()))
 else none
 else none
 else none
 else none
 else some (Sum.inr (x3,x4,x5,x6,()))
theorem k3i (f278:yx) (f311:jc) (f315:ww):AqL (j9j f278 f311 f315) 2 (qe (code Tryz.f311) [1,0,1,0,1,1,1,0,1,0,0]) .nil v9j v9v (q8i f278 f311 f315):=fun v=>by kernel_rfl
def xz (G:jc):j0g:=qc (q8i zi G zu) je
theorem k6r (G:jc) (hG:zf Tryz.prog 311 (j3p G)):jf 2 (qe (code Tryz.f311) [1,0,1,0,1,1,1,0,1,0,0]) (y7d (xz G)) :=
 yb (ins:=v9j) (os:=v9v) (C:=(xz G)) (xq (ins:=v9j) (os:=v9v) (n := .nil) (F:=q8i zi G zu) hm hΓ (q1m G hG) (fun _=>je) (jm _) (k3i zi G zu)) rfl
def q8j (f278:yx) (f311:jc) (f315:ww):yq ((Int×Int)×Int×Int×Int×Int×Int×Int×Int×Int×List (Int)×qq×qu×qv×Unit) ((Int×Int)×Int×Int×Int×Int×Int×Int×List (Int)×qq×qu×qv×Unit):=fun (x0,x1,x2,x3,x4,x5,x6,x7,x8,x9,x10,x11,x12,_) =>
 bif decide (x6<x7) then
 bif
 decide
 (0 ≤
 IntKind.i64.wrap
 (x8 -
 IntKind.i64.wrap
 ((IntKind.u64.wrap (IntKind.i64.wrap (x6+x7))).fdiv (2^min 1 IntKind.u64.bits)))) &&
 decide
 (IntKind.i64.wrap
 (x8 -
 IntKind.i64.wrap
 ((IntKind.u64.wrap (IntKind.i64.wrap (x6+x7))).fdiv (2^min 1 IntKind.u64.bits))) <
 (↑(Int.toNat x0.2):Int)) then
 bif
 decide
 (0 ≤
 IntKind.i64.wrap
 ((IntKind.u64.wrap (IntKind.i64.wrap (x6+x7))).fdiv (2^min 1 IntKind.u64.bits))) &&
 decide
 (IntKind.i64.wrap
 ((IntKind.u64.wrap (IntKind.i64.wrap (x6+x7))).fdiv (2^min 1 IntKind.u64.bits)) <
 (↑(Int.toNat x0.2):Int)) then
 (f278
 (x9.getD
 (Int.toNat x0.1 +
 (IntKind.i64.wrap
 (x8 -
 IntKind.i64.wrap
 ((IntKind.u64.wrap (IntKind.i64.wrap (x6+x7))).fdiv
 (2^min 1 IntKind.u64.bits)))).toNat)
 0,
 x9.getD
 (Int.toNat x0.1 +
 (IntKind.i64.wrap
 ((IntKind.u64.wrap (IntKind.i64.wrap (x6+x7))).fdiv
 (2^min 1 IntKind.u64.bits))).toNat)
 0,
 x10,x11,x12,())).bind
 fun v =>
 bif !decide (v.1<0) then
 some
 (Sum.inl
 (((↑(Int.toNat x0.1):Int),(↑(Int.toNat x0.2):Int)),x1,x2,x3,x4,x5,
 IntKind.i64.wrap
 (IntKind.i64.wrap
 ((IntKind.u64.wrap (IntKind.i64.wrap (x6+x7))).fdiv (2^min 1 IntKind.u64.bits)) +
 1),
 x7,x8,x9,v.2.1,v.2.2.1,v.2.2.2.1,()))
 else
 some
 (Sum.inl
 (((↑(Int.toNat x0.1):Int),(↑(Int.toNat x0.2):Int)),x1,x2,x3,x4,x5,x6,
 IntKind.i64.wrap
 ((IntKind.u64.wrap (IntKind.i64.wrap (x6+x7))).fdiv (2^min 1 IntKind.u64.bits)),
 x8,x9,v.2.1,v.2.2.1,v.2.2.2.1,()))
 else none
 else none
 else
 some
 (Sum.inr
 (((↑(Int.toNat x0.1):Int),(↑(Int.toNat x0.2):Int)),x1,x2,x3,x4,x5,x6,x9,x10,x11,x12,
 ()))
theorem k3j (f278:yx) (f311:jc) (f315:ww):AqL (j9j f278 f311 f315) 2 (qe (code Tryz.f311) [1,1,1,1,1,1,1,0,0,0]) .nil v9k v9w (q8j f278 f311 f315):=fun v=>by kernel_rfl
def kb (G:jc):j0h:=qc (q8j zi G zu) je
theorem k6s (G:jc) (hG:zf Tryz.prog 311 (j3p G)):jf 2 (qe (code Tryz.f311) [1,1,1,1,1,1,1,0,0,0]) (y7e (kb G)) :=
 yb (ins:=v9k) (os:=v9w) (C:=(kb G)) (xq (ins:=v9k) (os:=v9w) (n := .nil) (F:=q8j zi G zu) hm hΓ (q1m G hG) (fun _=>je) (jm _) (k3j zi G zu)) rfl
def q3w (f278:yx) (f311:jc) (f315:ww):q4w:=fun (x0,x1,x2,x3,x4,x5,x6,x7,_) =>
 bif decide (x2<x3) then
 bif decide (x3<x1) then
 (f311 (((↑(Int.toNat x0.1):Int),(↑(Int.toNat x0.2):Int)),x2,x3,x1,x4,x5,x6,x7,())).bind fun v =>
 some (v.1,v.2.1,v.2.2.1,v.2.2.2.1,())
 else some (x4,x5,x6,x7,())
 else some (x4,x5,x6,x7,())
theorem k3c (f278:yx) (f311:jc) (f315:ww):AqC (j9j f278 f311 f315) 2 (qe (code Tryz.f311) [1,1,1,1,1,1,1,1,1,1,1]) .nil w9e z4b (q3w f278 f311 f315):=fun v=>by kernel_rfl
def xd (G:jc):q4w:=q3w zi G zu
theorem k6l (G:jc) (hG:zf Tryz.prog 311 (j3p G)):zp 2 (qe (code Tryz.f311) [1,1,1,1,1,1,1,1,1,1,1]) (y6x (xd G)) :=
 ko (ins:=w9e) (os:=z4b) (n := .nil) (F:=(xd G)) hm hΓ (q1m G hG) (jm _) (k3c zi G zu)
def y8u (f311_c0:q4w):Ann:=(.cut .nil (y6x f311_c0))
def q3x (f278:yx) (f311:jc) (f315:ww) (f311_c0:q4w):q4x:=fun (x0,x1,x2,x3,x4,x5,x6,x7,x8,x9,_) =>
 bif decide (x1<x4) then
 bif decide (x4<x3) then
 (f311 (((↑(Int.toNat x0.1):Int),(↑(Int.toNat x0.2):Int)),x1,x4,x3,x6,x7,x8,x9,())).bind fun v =>
 (f311_c0
 (((↑(Int.toNat x0.1):Int),(↑(Int.toNat x0.2):Int)),x2,x3,x5,v.1,v.2.1,
 v.2.2.1,v.2.2.2.1,())).bind
 fun v=>some (v.1,v.2.1,v.2.2.1,v.2.2.2.1,())
 else
 (f311_c0 (((↑(Int.toNat x0.1):Int),(↑(Int.toNat x0.2):Int)),x2,x3,x5,x6,x7,x8,x9,())).bind
 fun v=>some (v.1,v.2.1,v.2.2.1,v.2.2.2.1,())
 else
 (f311_c0 (((↑(Int.toNat x0.1):Int),(↑(Int.toNat x0.2):Int)),x2,x3,x5,x6,x7,x8,x9,())).bind fun v =>
 some (v.1,v.2.1,v.2.2.1,v.2.2.2.1,())
theorem k3d (f278:yx) (f311:jc) (f315:ww) (f311_c0:q4w):AqC (j9j f278 f311 f315) 2 (qe (code Tryz.f311) [1,1,1,1,1,1,1,1,1,1]) (y8u f311_c0) w9f z4b (q3x f278 f311 f315 f311_c0):=fun v=>by kernel_rfl
def xe (G:jc):q4x:=q3x zi G zu (xd G)
theorem k6m (G:jc) (hG:zf Tryz.prog 311 (j3p G)):zp 2 (qe (code Tryz.f311) [1,1,1,1,1,1,1,1,1,1]) (y6y (xe G)) :=
 ko (ins:=w9f) (os:=z4b) (n:=(y8u (xd G))) (F:=(xe G)) hm hΓ (q1m G hG) (ki (And.intro (k6l G hG) trivial) (by kernel_rfl)) (k3d zi G zu (xd G))
def y8v (f311_c1:q4x) (f311_l4:j0h):Ann:=(.seq .nil (.seq (.blk (.loop (y7e f311_l4))) (.seq .nil (.cut .nil (y6y f311_c1)))))
def q3y (f278:yx) (f311:jc) (f315:ww) (f311_c1:q4x) (f311_l4:j0h):q4y:=fun (x0,x1,x2,x3,x4,x5,x6,x7,x8,x9,x10,x11,_) =>
 (f311_l4
 (((↑(Int.toNat x0.1):Int),(↑(Int.toNat x0.2):Int)),x1,x2,x3,x4,x5,x6,x7,
 IntKind.i64.wrap (x5 - 1),x8,x9,x10,x11,())).bind
 fun v =>
 bif decide (v.2.2.2.2.2.2.1<v.2.2.1) then
 bif decide (v.2.2.1<IntKind.i64.wrap (v.2.2.2.2.2.1 - v.2.2.2.2.2.2.1)) then
 (f315
 (((↑(Int.toNat v.1.1):Int),(↑(Int.toNat v.1.2):Int)),v.2.2.2.2.2.2.1,
 v.2.2.1,IntKind.i64.wrap (v.2.2.2.2.2.1 - v.2.2.2.2.2.2.1),
 v.2.2.2.2.2.2.2.1,v.2.2.2.2.2.2.2.2.1,
 v.2.2.2.2.2.2.2.2.2.1,v.2.2.2.2.2.2.2.2.2.2.1,())).bind
 fun v1 =>
 (f311_c1
 (((↑(Int.toNat v.1.1):Int),(↑(Int.toNat v.1.2):Int)),v.2.1,v.2.2.2.1,
 v.2.2.2.2.1,v.2.2.2.2.2.2.1,
 IntKind.i64.wrap (v.2.2.2.2.2.1 - v.2.2.2.2.2.2.1),v1.1,
 v1.2.1,v1.2.2.1,v1.2.2.2.1,())).bind
 fun v=>some (v.1,v.2.1,v.2.2.1,v.2.2.2.1,())
 else
 (f311_c1
 (((↑(Int.toNat v.1.1):Int),(↑(Int.toNat v.1.2):Int)),v.2.1,v.2.2.2.1,
 v.2.2.2.2.1,v.2.2.2.2.2.2.1,
 IntKind.i64.wrap (v.2.2.2.2.2.1 - v.2.2.2.2.2.2.1),
 v.2.2.2.2.2.2.2.1,v.2.2.2.2.2.2.2.2.1,
 v.2.2.2.2.2.2.2.2.2.1,v.2.2.2.2.2.2.2.2.2.2.1,())).bind
 fun v=>some (v.1,v.2.1,v.2.2.1,v.2.2.2.1,())
 else
 (f311_c1
 (((↑(Int.toNat v.1.1):Int),(↑(Int.toNat v.1.2):Int)),v.2.1,v.2.2.2.1,
 v.2.2.2.2.1,v.2.2.2.2.2.2.1,
 IntKind.i64.wrap (v.2.2.2.2.2.1 - v.2.2.2.2.2.2.1),
 v.2.2.2.2.2.2.2.1,v.2.2.2.2.2.2.2.2.1,
 v.2.2.2.2.2.2.2.2.2.1,v.2.2.2.2.2.2.2.2.2.2.1,())).bind
 fun v=>some (v.1,v.2.1,v.2.2.1,v.2.2.2.1,())
theorem k3e (f278:yx) (f311:jc) (f315:ww) (f311_c1:q4x) (f311_l4:j0h):AqC (j9j f278 f311 f315) 2 (qe (code Tryz.f311) [1,1,1,1,1,1]) (y8v f311_c1 f311_l4) w9g z4b (q3y f278 f311 f315 f311_c1 f311_l4):=fun v=>by kernel_rfl
def xv (G:jc):q4y:=q3y zi G zu (xe G) (kb G)
theorem k6n (G:jc) (hG:zf Tryz.prog 311 (j3p G)):zp 2 (qe (code Tryz.f311) [1,1,1,1,1,1]) (y6z (xv G)) :=
 ko (ins:=w9g) (os:=z4b) (n:=(y8v (xe G) (kb G))) (F:=(xv G)) hm hΓ (q1m G hG) (ki (And.intro (k6s G hG) (And.intro (k6m G hG) trivial)) (by kernel_rfl)) (k3e zi G zu (xe G) (kb G))
def b3e (f311_c2:q4y) (f311_l0:j0d) (f311_l1:j0e) (f311_l2:j0f) (f311_l3:j0g):Ann:=(.seq (.seq .nil (.cond (.seq .nil (.seq .nil (.seq (.blk (.loop (y7a f311_l0))) (.seq (.seq .nil (.blk (.loop (y7b f311_l1)))) .nil)))) .nil)) (.seq (.seq .nil (.cond (.seq .nil (.seq .nil (.seq (.blk (.loop (y7c f311_l2))) (.seq (.seq .nil (.blk (.loop (y7d f311_l3)))) .nil)))) .nil)) (.seq .nil (.seq .nil (.seq .nil (.cut .nil (y6z f311_c2)))))))
def z7b (f278:yx) (f311:jc) (f315:ww) (f311_c2:q4y) (f311_l0:j0d) (f311_l1:j0e) (f311_l2:j0f) (f311_l3:j0g):jc:=fun (x0,x1,x2,x3,x4,x5,x6,x7,_) =>
 bif IntKind.i64.wrap (x2 - x1)==1 then
 (f311_l0 (((↑(Int.toNat x0.1):Int),(↑(Int.toNat x0.2):Int)),x1,x2,x3,x4,x5,x6,x7,())).bind fun v =>
 (f311_l1
 (((↑(Int.toNat v.1.1):Int),(↑(Int.toNat v.1.2):Int)),v.2.2.1,v.2.1,
 v.2.2.2.1,v.2.2.2.2.1,v.2.2.2.2.2.1,v.2.2.2.2.2.2.1,
 ())).bind
 fun v=>some (v.1,v.2.1,v.2.2.1,v.2.2.2.1,())
 else
 bif IntKind.i64.wrap (x3 - x2)==1 then
 (f311_l2 (((↑(Int.toNat x0.1):Int),(↑(Int.toNat x0.2):Int)),x2,x1,x2,x4,x5,x6,x7,())).bind
 fun v =>
 (f311_l3
 (((↑(Int.toNat v.1.1):Int),(↑(Int.toNat v.1.2):Int)),v.2.2.1,v.2.1,
 v.2.2.2.1,v.2.2.2.2.1,v.2.2.2.2.2.1,
 v.2.2.2.2.2.2.1,())).bind
 fun v=>some (v.1,v.2.1,v.2.2.1,v.2.2.2.1,())
 else
 bif
 decide
 (x2 >
 IntKind.i64.wrap
 ((IntKind.u64.wrap (IntKind.i64.wrap (x1+x3))).fdiv (2^min 1 IntKind.u64.bits))) then
 (f311_c2
 (((↑(Int.toNat x0.1):Int),(↑(Int.toNat x0.2):Int)),x1,x2,x3,
 IntKind.i64.wrap
 ((IntKind.u64.wrap (IntKind.i64.wrap (x1+x3))).fdiv (2^min 1 IntKind.u64.bits)),
 IntKind.i64.wrap
 (IntKind.i64.wrap
 ((IntKind.u64.wrap (IntKind.i64.wrap (x1+x3))).fdiv (2^min 1 IntKind.u64.bits)) +
 x2),
 IntKind.i64.wrap
 (IntKind.i64.wrap
 (IntKind.i64.wrap
 ((IntKind.u64.wrap (IntKind.i64.wrap (x1+x3))).fdiv
 (2^min 1 IntKind.u64.bits)) +
 x2) -
 x3),
 IntKind.i64.wrap
 ((IntKind.u64.wrap (IntKind.i64.wrap (x1+x3))).fdiv (2^min 1 IntKind.u64.bits)),
 x4,x5,x6,x7,())).bind
 fun v=>some (v.1,v.2.1,v.2.2.1,v.2.2.2.1,())
 else
 (f311_c2
 (((↑(Int.toNat x0.1):Int),(↑(Int.toNat x0.2):Int)),x1,x2,x3,
 IntKind.i64.wrap
 ((IntKind.u64.wrap (IntKind.i64.wrap (x1+x3))).fdiv (2^min 1 IntKind.u64.bits)),
 IntKind.i64.wrap
 (IntKind.i64.wrap
 ((IntKind.u64.wrap (IntKind.i64.wrap (x1+x3))).fdiv (2^min 1 IntKind.u64.bits)) +
 x2),
 x1,x2,x4,x5,x6,x7,())).bind
 fun v=>some (v.1,v.2.1,v.2.2.1,v.2.2.2.1,())
theorem b7x (f278:yx) (f311:jc) (f315:ww) (f311_c2:q4y) (f311_l0:j0d) (f311_l1:j0e) (f311_l2:j0f) (f311_l3:j0g):ye (j9j f278 f311 f315) 2 Tryz.f311 (b3e f311_c2 f311_l0 f311_l1 f311_l2 f311_l3) y1o j1y (z7b f278 f311 f315 f311_c2 f311_l0 f311_l1 f311_l2 f311_l3):=fun v=>by kernel_rfl
def j3o:jc:=q0v (fun G=>z7b zi G zu (xv G) (xw G) (xx G) (xy G) (xz G)) je
theorem f7g:FO 311 (j3p j3o) :=
 y2j (ins:=y1o) (os:=j1y) (F:=fun G=>z7b zi G zu (xv G) (xw G) (xx G) (xy G) (xz G)) (fun G hG=>qo (q1m G hG) Tryz.func311 (And.intro (k6o G hG) (And.intro (k6p G hG) (And.intro (k6q G hG) (And.intro (k6r G hG) (And.intro (k6n G hG) trivial))))) (b7x zi G zu (xv G) (xw G) (xx G) (xy G) (xz G))) je
abbrev q9v:=(Int×Int)×Int×Int×Int×Int×List (Int)×qq×qu×qv×Unit→Option ((Int×Int)×Int×Int×Int×List (Int)×qq×qu×qv×Unit)
def y6o (f:q9v):LEnt:=⟨v9l,f1i,f⟩
abbrev q9w:=(Int×Int)×Int×Int×Int×Int×List (Int)×qq×qu×qv×Unit→Option ((Int×Int)×Int×Int×Int×List (Int)×qq×qu×qv×Unit)
def y6p (f:q9w):LEnt:=⟨v9l,w1s,f⟩
abbrev q9x:=(Int×Int)×Int×Int×List (Int)×qq×qu×qv×Unit→Option (List (Int)×qq×qu×qv×Unit)
def y6q (f:q9x):LEnt:=⟨k8m,w1t,f⟩
abbrev x4i:=(Int×Int)×Int×List (Int)×qq×qu×qv×Unit→Option (List (Int)×qq×qu×qv×Unit)
def g8m (f:x4i):FEnt:=⟨f0p,j1y,f⟩
def x8l (f310:j9q) (f311:jc):=lk [(310,g8t f310),(311,j3p f311)]
theorem z5l:zj Tryz.prog (x8l q8b j3o):=(kc f7f (kc f7g kn))
def j5n (f310:j9q) (f311:jc):yq ((Int×Int)×Int×Int×Int×Int×List (Int)×qq×qu×qv×Unit) ((Int×Int)×Int×Int×Int×List (Int)×qq×qu×qv×Unit):=fun (x0,x1,x2,x3,x4,x5,x6,x7,x8,_) =>
 bif decide (x4≤x1) then
 (f310 (((↑(Int.toNat x0.1):Int),(↑(Int.toNat x0.2):Int)),x3,x4,x5,x6,x7,x8,())).bind fun v =>
 some
 (Sum.inl
 (((↑(Int.toNat x0.1):Int),(↑(Int.toNat x0.2):Int)),x1,x2,x4,IntKind.i64.wrap (x4+x2),v.1,
 v.2.1,v.2.2.1,v.2.2.2.1,()))
 else some (Sum.inr (((↑(Int.toNat x0.1):Int),(↑(Int.toNat x0.2):Int)),x1,x2,x3,x5,x6,x7,x8,()))
def q7z:q9v:=qc (j5n q8b j3o) je
theorem k6c:jf 2 (qe (code Tryz.f299) [1,1,0,0,0]) (y6o q7z):=zl2 v9l f1i x8l j5n q8b j3o z5l
def j5o (f310:j9q) (f311:jc):yq ((Int×Int)×Int×Int×Int×Int×List (Int)×qq×qu×qv×Unit) ((Int×Int)×Int×Int×Int×List (Int)×qq×qu×qv×Unit):=fun (x0,x1,x2,x3,x4,x5,x6,x7,x8,_) =>
 bif decide (x4≤x1) then
 (f311
 (((↑(Int.toNat x0.1):Int),(↑(Int.toNat x0.2):Int)),x3,IntKind.i64.wrap (x3+x2),x4,x5,x6,x7,x8,
 ())).bind
 fun v =>
 some
 (Sum.inl
 (((↑(Int.toNat x0.1):Int),(↑(Int.toNat x0.2):Int)),x1,x2,x4,
 IntKind.i64.wrap (x4+IntKind.i64.wrap (2*x2)),v.1,v.2.1,v.2.2.1,v.2.2.2.1,
 ()))
 else some (Sum.inr (((↑(Int.toNat x0.1):Int),(↑(Int.toNat x0.2):Int)),x1,x2,x3,x5,x6,x7,x8,()))
def q8a:q9w:=qc (j5o q8b j3o) je
theorem k6d:jf 2 (qe (code Tryz.f299) [1,1,1,1,0,0,1,0,1,0,0,0]) (y6p q8a):=zl2 v9l w1s x8l j5o q8b j3o z5l
def k0p (f299_l1:q9w):Ann:=(.seq .nil (.blk (.seq .nil (.seq (.blk (.loop (y6p f299_l1))) .nil))))
def j5p (f310:j9q) (f311:jc) (f299_l1:q9w):yq ((Int×Int)×Int×Int×List (Int)×qq×qu×qv×Unit) (List (Int)×qq×qu×qv×Unit):=fun (x0,x1,x2,x3,x4,x5,x6,_) =>
 bif decide (x2<x1) then
 (f299_l1
 (((↑(Int.toNat x0.1):Int),(↑(Int.toNat x0.2):Int)),x1,x2,0,IntKind.i64.wrap (2*x2),x3,x4,x5,
 x6,())).bind
 fun v =>
 bif decide (IntKind.i64.wrap (v.2.2.2.1+v.2.2.1)<v.2.1) then
 (f311
 (((↑(Int.toNat v.1.1):Int),(↑(Int.toNat v.1.2):Int)),v.2.2.2.1,
 IntKind.i64.wrap (v.2.2.2.1+v.2.2.1),v.2.1,v.2.2.2.2.1,
 v.2.2.2.2.2.1,v.2.2.2.2.2.2.1,v.2.2.2.2.2.2.2.1,
 ())).bind
 fun v1 =>
 some
 (Sum.inl
 (((↑(Int.toNat v.1.1):Int),(↑(Int.toNat v.1.2):Int)),v.2.1,
 IntKind.i64.wrap (v.2.2.1*2),v1.1,v1.2.1,v1.2.2.1,
 v1.2.2.2.1,()))
 else
 some
 (Sum.inl
 (((↑(Int.toNat v.1.1):Int),(↑(Int.toNat v.1.2):Int)),v.2.1,
 IntKind.i64.wrap (v.2.2.1*2),v.2.2.2.2.1,v.2.2.2.2.2.1,
 v.2.2.2.2.2.2.1,v.2.2.2.2.2.2.2.1,()))
 else some (Sum.inr (x3,x4,x5,x6,()))
theorem k2z (f310:j9q) (f311:jc) (f299_l1:q9w):AqL (x8l f310 f311) 2 (qe (code Tryz.f299) [1,1,1,1,0,0]) (k0p f299_l1) k8m w1t (j5p f310 f311 f299_l1):=fun v=>by kernel_rfl
def z2p:q9x:=qc (j5p q8b j3o q8a) je
theorem k6e:jf 2 (qe (code Tryz.f299) [1,1,1,1,0,0]) (y6q z2p) :=
 frm z5l (And.intro k6d trivial) (k2z q8b j3o q8a)
def b3a (f299_l0:q9v) (f299_l2:q9x):Ann:=(.seq .nil (.seq .nil (.seq (.blk (.loop (y6o f299_l0))) (.seq .nil (.blk (.loop (y6q f299_l2)))))))
def v8f (f310:j9q) (f311:jc) (f299_l0:q9v) (f299_l2:q9x):x4i:=fun (x0,x1,x2,x3,x4,x5,_) =>
 (f299_l0 (((↑(Int.toNat x0.1):Int),(↑(Int.toNat x0.2):Int)),x1,20,0,20,x2,x3,x4,x5,())).bind
 fun v =>
 (f310
 (((↑(Int.toNat v.1.1):Int),(↑(Int.toNat v.1.2):Int)),v.2.2.2.1,v.2.1,
 v.2.2.2.2.1,v.2.2.2.2.2.1,v.2.2.2.2.2.2.1,
 v.2.2.2.2.2.2.2.1,())).bind
 fun v1 =>
 (f299_l2
 (((↑(Int.toNat v.1.1):Int),(↑(Int.toNat v.1.2):Int)),v.2.1,v.2.2.1,
 v1.1,v1.2.1,v1.2.2.1,v1.2.2.2.1,())).bind
 fun v=>some (v.1,v.2.1,v.2.2.1,v.2.2.2.1,())
theorem b7t (f310:j9q) (f311:jc) (f299_l0:q9v) (f299_l2:q9x):ye (x8l f310 f311) 2 Tryz.f299 (b3a f299_l0 f299_l2) f0p j1y (v8f f310 f311 f299_l0 f299_l2):=fun v=>by kernel_rfl
def y1a:x4i:=v8f q8b j3o q7z z2p
theorem f6y:FO 299 (g8m y1a) :=
 qo z5l Tryz.func299 (And.intro k6c (And.intro k6e trivial)) (b7t q8b j3o q7z z2p)
abbrev z7n:=(Int×Int)×List (Int)×qq×qu×qv×Unit→Option (List (Int)×qq×qu×qv×Unit)
def g7w (f:z7n):FEnt:=⟨k8n,j1y,f⟩
def b0p (f299:x4i):=lk [(299,g8m f299)]
def v7p (f299:x4i):z7n:=fun (x0,x1,x2,x3,x4,_) =>
 (f299
 (((↑(Int.toNat x0.1):Int),(↑(Int.toNat x0.2):Int)),(↑(Int.toNat x0.2):Int),x1,x2,x3,x4,
 ())).bind
 fun v=>some (v.1,v.2.1,v.2.2.1,v.2.2.2.1,())
theorem b7o (f299:x4i):ye (b0p f299) 2 Tryz.f277 .nil k8n j1y (v7p f299):=fun v=>by kernel_rfl
def j3n:z7n:=v7p y1a
theorem f6h:FO 277 (g7w j3n) :=
 q0 (kc f6y kn) Tryz.func277 (b7o y1a)
abbrev q4p:=Int×Int×qq×qu×qv×List (Int)×Unit→Option (Int×Int×qq×qu×qv×List (Int)×Unit)
def y5r (f:q4p):LEnt:=⟨y7q,w1u,f⟩
abbrev j6d:=Int×Int×qq×qu×qv×List (Int)×Unit→Option (List (Int)×Unit)
def y5s (f:j6d):LEnt:=⟨y7q,w1v,f⟩
abbrev x3h:=qq×qu×qv×List (Int)×Unit→Option (List (Int)×Unit)
def g6t (f:x3h):FEnt:=⟨Li9,q0j,f⟩
def v9b (f275:y1t) (f276:q1h) (f277:z7n):=lk [(275,g7v f275),(276,x7d f276),(277,g7w f277)]
theorem y2x:zj Tryz.prog (v9b j9e xc j3n):=(kc f6g (kc x0k (kc f6h kn)))
def j5d (f275:y1t) (f276:q1h) (f277:z7n):q4p:=fun (x0,x1,x2,x3,x4,x5,_) =>
 bif decide (0≤x1)&&decide (x1≤(↑x5.length:Int)) then
 bif decide (0≤x0)&&decide (x0≤x1) then
 (f277 (((↑x0.toNat:Int),(↑(x1.toNat - x0.toNat):Int)),x5,x2,x3,x4,())).bind fun v =>
 some (IntKind.i64.wrap (x1+1),x1,v.2.1,v.2.2.1,v.2.2.2.1,v.1,())
 else none
 else none
def vz:q4p:=j5d j9e xc j3n
theorem k5f:zp 0 (qe (code Tryz.f239) [1,1,1,0,1,0,0,1,0,0,1]) (y5r vz):=zc3 y7q w1u v9b j5d j9e xc j3n y2x
def k0k (f239_c0:q4p):Ann:=(.seq .nil (.seq (.blk (.cut .nil (y5r f239_c0))) .nil))
def j5e (f275:y1t) (f276:q1h) (f277:z7n) (f239_c0:q4p):yq (Int×Int×qq×qu×qv×List (Int)×Unit) (List (Int)×Unit):=fun (x0,x1,x2,x3,x4,x5,_) =>
 bif decide (x1≤(↑x5.length:Int)) then
 bif decide (x1<(↑x5.length:Int)) then
 bif decide (0≤x1)&&decide (x1<(↑x5.length:Int)) then
 (f276 (x2,x3,x4,x5.getD x1.toNat 0,())).bind fun v =>
 bif decide (v.1>0) then some (Sum.inl (x0,IntKind.i64.wrap (x1+1),x2,x3,x4,x5,()))
 else
 (f239_c0 (x0,x1,x2,x3,x4,x5,())).bind fun v =>
 some
 (Sum.inl
 (v.1,IntKind.i64.wrap (v.2.1+1),v.2.2.1,v.2.2.2.1,
 v.2.2.2.2.1,v.2.2.2.2.2.1,()))
 else none
 else
 (f239_c0 (x0,x1,x2,x3,x4,x5,())).bind fun v =>
 some
 (Sum.inl
 (v.1,IntKind.i64.wrap (v.2.1+1),v.2.2.1,v.2.2.2.1,v.2.2.2.2.1,
 v.2.2.2.2.2.1,()))
 else some (Sum.inr (x5,()))
theorem k2o (f275:y1t) (f276:q1h) (f277:z7n) (f239_c0:q4p):AqL (v9b f275 f276 f277) 0 (qe (code Tryz.f239) [1,1,1,0,1,0,0]) (k0k f239_c0) y7q w1v (j5e f275 f276 f277 f239_c0):=fun v=>by kernel_rfl
def z2j:j6d:=qc (j5e j9e xc j3n vz) je
theorem k5g:jf 0 (qe (code Tryz.f239) [1,1,1,0,1,0,0]) (y5s z2j) :=
 frm y2x (And.intro k5f trivial) (k2o j9e xc j3n vz)
def b2i (f239_l0:j6d):Ann:=(.seq .nil (.seq .nil (.seq .nil (.seq (.seq .nil (.blk (.loop (y5s f239_l0)))) .nil))))
def v6z (f275:y1t) (f276:q1h) (f277:z7n) (f239_l0:j6d):x3h:=fun (x0,x1,x2,x3,_) =>
 (f275 (x3,())).bind fun v=>(f239_l0 (0,0,x0,x1,x2,v.1,())).bind fun v=>some (v.1,())
def y0w:x3h:=v6z j9e xc j3n z2j
theorem f5d:FO 239 (g6t y0w):=y0o Li9 q0j v9b b2i v6z j9e xc j3n z2j y2x Tryz.func239 (And.intro k5g trivial)
abbrev j3w:=Int×Int×Int×Unit→Option (Bool×Unit)
def w7m (f:j3w):FEnt:=⟨f0b,qz,f⟩
def z7a:j3w:=fun (x0,x1,x2,_) =>
 bif decide (x0≥x1) then some (decide (x0<IntKind.i32.wrap (x1+IntKind.i32.wrap x2)),())
 else some (false,())
def zz:j3w:=z7a
theorem w6b:FO 300 (w7m zz):=zq0 f0b qz vf z7a kn Tryz.func300
abbrev z7q:=Int×Unit→Option (List (Int)×Unit)
def g8n (f:z7q):FEnt:=⟨q5i,q0j,f⟩
def v8g:z7q:=fun (x0,_) =>
 bif decide ((IntKind.i32.wrap (x0 - 44032)).tmod 28>0) then
 some
 ([IntKind.i32.wrap (4352+IntKind.i32.wrap ((IntKind.i32.wrap (x0 - 44032)).tdiv 588)),
 IntKind.i32.wrap (4449+(IntKind.i32.wrap ((IntKind.i32.wrap (x0 - 44032)).tdiv 28)).tmod 21)] ++
 [IntKind.i32.wrap (4519+(IntKind.i32.wrap (x0 - 44032)).tmod 28)],
 ())
 else
 some
 ([IntKind.i32.wrap (4352+IntKind.i32.wrap ((IntKind.i32.wrap (x0 - 44032)).tdiv 588)),
 IntKind.i32.wrap (4449+(IntKind.i32.wrap ((IntKind.i32.wrap (x0 - 44032)).tdiv 28)).tmod 21)],
 ())
def vm:z7q:=v8g
theorem f6z:FO 301 (g8n vm):=zq0 q5i q0j vf v8g kn Tryz.func301
abbrev q9y:=List (List (Int))×Int×List (List (Int))×Int×Int×Unit→Option (List (List (Int))×Int×Unit)
def y6r (f:q9y):LEnt:=⟨f0d,f0z,f⟩
abbrev q9z:=List (List (Int))×Int×Int×List (Int)×Unit→Option (List (Int)×Unit)
def y6s (f:q9z):LEnt:=⟨f0e,f1a,f⟩
abbrev z7r:=List (List (Int))×Unit→Option (List (Int)×Unit)
def g8o (f:z7r):FEnt:=⟨f0c,q0j,f⟩
def v9e (f312:y1w):=lk [(312,g8u f312)]
theorem y3a:zj Tryz.prog (v9e j9g):=(kc f7h kn)
def z3v (f312:y1w):yq (List (List (Int))×Int×List (List (Int))×Int×Int×Unit) (List (List (Int))×Int×Unit):=fun (x0,x1,x2,x3,x4,_) =>
 bif decide (x4<x3) then
 bif decide (0≤x4)&&decide (x4<(↑x2.length:Int)) then
 bif
 decide
 (IntKind.i64.wrap (x1+(↑(List.length (x2.getD x4.toNat [])):Int))<0) then
 none
 else
 some
 (Sum.inl
 (x0,IntKind.i64.wrap (x1+(↑(List.length (x2.getD x4.toNat [])):Int)),x2,x3,
 IntKind.i64.wrap (x4+1),()))
 else none
 else some (Sum.inr (x0,x1,()))
def j4o:q9y:=qc (z3v j9g) je
theorem k6f:jf 0 (qe (code Tryz.f302) [1,1,0,1,0,0]) (y6r j4o):=zl1 f0d f0z v9e z3v j9g y3a
def z3w (f312:y1w):yq (List (List (Int))×Int×Int×List (Int)×Unit) (List (Int)×Unit):=fun (x0,x1,x2,x3,_) =>
 bif decide (x2<x1) then
 bif decide (0≤x2)&&decide (x2<(↑x0.length:Int)) then
 bif decide (x3.length+List.length (x0.getD x2.toNat [])≤140737488355328/4) then
 some
 (Sum.inl (x0,x1,IntKind.i64.wrap (x2+1),x3++x0.getD x2.toNat [],()))
 else none
 else none
 else some (Sum.inr (x3,()))
def j4p:q9z:=qc (z3w j9g) je
theorem k6g:jf 0 (qe (code Tryz.f302) [1,1,1,1,0,1,0,0]) (y6s j4p):=zl1 f0e f1a v9e z3w j9g y3a
def b3b (f302_l0:q9y) (f302_l1:q9z):Ann:=(.seq .nil (.seq .nil (.seq (.seq .nil (.blk (.loop (y6r f302_l0)))) (.seq .nil (.seq (.seq .nil (.blk (.loop (y6s f302_l1)))) .nil)))))
def v8h (f312:y1w) (f302_l0:q9y) (f302_l1:q9z):z7r:=fun (x0,_) =>
 (f302_l0 (x0,0,x0,(↑x0.length:Int),0,())).bind fun v =>
 (f312 (v.2.1,())).bind fun v1 =>
 (f302_l1 (v.1,(↑(List.length v.1):Int),0,v1.1,())).bind fun v=>some (v.1,())
theorem b7u (f312:y1w) (f302_l0:q9y) (f302_l1:q9z):ye (v9e f312) 0 Tryz.f302 (b3b f302_l0 f302_l1) f0c q0j (v8h f312 f302_l0 f302_l1):=fun v=>by kernel_rfl
def vh:z7r:=v8h j9g j4o j4p
theorem f7a:FO 302 (g8o vh) :=
 qo y3a Tryz.func302 (And.intro k6f (And.intro k6g trivial)) (b7u j9g j4o j4p)
abbrev q4s:=Int×Bool×Bool×qq×qu×qv×Int×Int×Int×Bool×Bool×Unit→Option ((List (Int)×Unit)⊕(Bool×qq×qu×qv×Int×Int×Int×Bool×Bool×Unit))
def y6f (f:q4s):LEnt:=⟨w9d,w9i,f⟩
abbrev q6f:=qq×qu×qv×Int×Bool×Unit→Option (List (Int)×Unit)
def x7e (f:q6f):FEnt:=⟨w9c,q0j,f⟩
def w8v (f216:q9b) (f279:q6f) (f300:j3w) (f301:z7q) (f302:z7r):=lk [(216,x6x f216),(279,x7e f279),(300,w7m f300),(301,g8n f301),(302,g8o f302)]
theorem v2c (G:q6f) (hG:zf Tryz.prog 279 (x7e G)):zj Tryz.prog (w8v zl G zz vm vh):=(kc x0i (kc hG (kc w6b (kc f6z (kc f7a kn)))))
def yh (f216:q9b) (f279:q6f) (f300:j3w) (f301:z7q) (f302:z7r):q4s:=fun (x0,x1,x2,x3,x4,x5,x6,x7,x8,x9,x10,_) =>
 bif x2 then some (Sum.inl ([x0],()))
 else
 bif x8==0 then (f279 (x3,x4,x5,x7,x1,())).bind fun v=>some (Sum.inl (v.1,()))
 else some (Sum.inr (x1,x3,x4,x5,x6,x7,x8,x9,x10,()))
theorem k2w (f216:q9b) (f279:q6f) (f300:j3w) (f301:z7q) (f302:z7r):AqC (w8v f216 f279 f300 f301 f302) 0 (qe (code Tryz.f279) [1,1,0,0,1,1,1]) .nil w9d w9i (yh f216 f279 f300 f301 f302):=fun v=>by kernel_rfl
def q7u (G:q6f):q4s:=yh zl G zz vm vh
theorem k5t (G:q6f) (hG:zf Tryz.prog 279 (x7e G)):zp 0 (qe (code Tryz.f279) [1,1,0,0,1,1,1]) (y6f (q7u G)) :=
 ko (ins:=w9d) (os:=w9i) (n := .nil) (F:=(q7u G)) hm hΓ (v2c G hG) (jm _) (k2w zl G zz vm vh)
def b2s (f279_c0:q4s):Ann:=(.seq .nil (.seq .nil (.seq (.blk (.seq .nil (.cond .nil (.cut .nil (y6f f279_c0))))) .nil)))
def j1v (f216:q9b) (f279:q6f) (f300:j3w) (f301:z7q) (f302:z7r) (f279_c0:q4s):q6f:=fun (x0,x1,x2,x3,x4,_) =>
 (f216 (x0,x1,x2,x3,())).bind fun v =>
 (f300 (x3,44032,11172,())).bind fun v1 =>
 bif v1.1 then (f301 (x3,())).bind fun v=>some (v.1,())
 else
 bif !v.2.2.2.2.2.1 then
 (f279_c0
 (x3,x4,true,x0,x1,x2,v.1,v.2.1,v.2.2.1,v.2.2.2.1,
 v.2.2.2.2.1,())).bind
 fun v =>
 Sum.elim (fun v=>some (v.1,()))
 (fun v =>
 (f279 (v.2.1,v.2.2.1,v.2.2.2.1,v.2.2.2.2.2.1,v.1,())).bind
 fun v2 =>
 (f279
 (v.2.1,v.2.2.1,v.2.2.2.1,v.2.2.2.2.2.2.1,v.1,
 ())).bind
 fun v=>(f302 ([v2.1,v.1],())).bind fun v=>some (v.1,()))
 v
 else
 bif v.2.2.2.1 then
 (f279_c0
 (x3,x4,!x4,x0,x1,x2,v.1,v.2.1,v.2.2.1,v.2.2.2.1,
 v.2.2.2.2.1,())).bind
 fun v =>
 Sum.elim (fun v=>some (v.1,()))
 (fun v =>
 (f279
 (v.2.1,v.2.2.1,v.2.2.2.1,v.2.2.2.2.2.1,v.1,
 ())).bind
 fun v2 =>
 (f279
 (v.2.1,v.2.2.1,v.2.2.2.1,v.2.2.2.2.2.2.1,v.1,
 ())).bind
 fun v=>(f302 ([v2.1,v.1],())).bind fun v=>some (v.1,()))
 v
 else
 (f279_c0
 (x3,x4,false,x0,x1,x2,v.1,v.2.1,v.2.2.1,v.2.2.2.1,
 v.2.2.2.2.1,())).bind
 fun v =>
 Sum.elim (fun v=>some (v.1,()))
 (fun v =>
 (f279
 (v.2.1,v.2.2.1,v.2.2.2.1,v.2.2.2.2.2.1,v.1,
 ())).bind
 fun v2 =>
 (f279
 (v.2.1,v.2.2.1,v.2.2.2.1,v.2.2.2.2.2.2.1,v.1,
 ())).bind
 fun v=>(f302 ([v2.1,v.1],())).bind fun v=>some (v.1,()))
 v
theorem b7q (f216:q9b) (f279:q6f) (f300:j3w) (f301:z7q) (f302:z7r) (f279_c0:q4s):ye (w8v f216 f279 f300 f301 f302) 0 Tryz.f279 (b2s f279_c0) w9c q0j (j1v f216 f279 f300 f301 f302 f279_c0):=fun v=>by kernel_rfl
def j9f:q6f:=q0v (fun G=>j1v zl G zz vm vh (q7u G)) je
theorem f6i:FO 279 (x7e j9f) :=
 y2j (ins:=w9c) (os:=q0j) (F:=fun G=>j1v zl G zz vm vh (q7u G)) (fun G hG=>qo (v2c G hG) Tryz.func279 (And.intro (k5t G hG) trivial) (b7q zl G zz vm vh (q7u G))) je
abbrev j6e:=Bool×List (Int)×Int×Int×qq×qu×qv×List (Int)×Unit→Option (List (Int)×Unit)
def y5t (f:j6e):LEnt:=⟨f0g,f1b,f⟩
abbrev x3i:=qq×qu×qv×List (Int)×Bool×Unit→Option (List (Int)×Unit)
def g6u (f:x3i):FEnt:=⟨f0f,q0j,f⟩
def w8p (f279:q6f):=lk [(279,x7e f279)]
theorem v1z:zj Tryz.prog (w8p j9f):=(kc f6i kn)
def j5f (f279:q6f):yq (Bool×List (Int)×Int×Int×qq×qu×qv×List (Int)×Unit) (List (Int)×Unit):=fun (x0,x1,x2,x3,x4,x5,x6,x7,_) =>
 bif decide (x3<x2) then
 bif decide (0≤x3)&&decide (x3<(↑x1.length:Int)) then
 (f279 (x4,x5,x6,x1.getD x3.toNat 0,x0,())).bind fun v =>
 bif decide (x7.length+List.length v.1≤140737488355328/4) then
 some (Sum.inl (x0,x1,x2,IntKind.i64.wrap (x3+1),x4,x5,x6,x7++v.1,()))
 else none
 else none
 else some (Sum.inr (x7,()))
def q7m:j6e:=qc (j5f j9f) je
theorem k5h:jf 0 (qe (code Tryz.f240) [1,1,0,1,0,0]) (y5t q7m):=zl1 f0g f1b w8p j5f j9f v1z
def b2j (f240_l0:j6e):Ann:=(.seq .nil (.seq .nil (.seq (.seq .nil (.blk (.loop (y5t f240_l0)))) .nil)))
def x2g (f279:q6f) (f240_l0:j6e):x3i:=fun (x0,x1,x2,x3,x4,_) =>
 (f240_l0 (x4,x3,(↑x3.length:Int),0,x0,x1,x2,[],())).bind fun v=>some (v.1,())
def x6d:x3i:=x2g j9f q7m
theorem f5e:FO 240 (g6u x6d):=wq f0f q0j w8p b2j x2g j9f q7m v1z Tryz.func240 (And.intro k5h trivial)
abbrev q9q:=Int×Int×Bool×qq×qu×qv×Unit→Option ((Int×Bool×Unit)⊕(Int×Int×qq×qu×qv×Unit))
def y6g (f:q9q):LEnt:=⟨k8o,w1w,f⟩
abbrev z4o:=qq×qu×qv×Int×Int×Unit→Option (Int×Bool×Unit)
def g7x (f:z4o):FEnt:=⟨Li5,Lo6,f⟩
def w8w (f300:j3w) (f303:x4j):=lk [(300,w7m f300),(303,g8p f303)]
theorem v2d:zj Tryz.prog (w8w zz q2h):=(kc w6b (kc f7b kn))
def q3v (f300:j3w) (f303:x4j):q9q:=fun (x0,x1,x2,x3,x4,x5,_) =>
 bif x2 then
 some
 (Sum.inl
 (IntKind.i32.wrap
 (44032 +
 IntKind.i32.wrap
 (IntKind.i32.wrap (IntKind.i32.wrap (IntKind.i32.wrap (IntKind.i32.wrap (x0 - 4352)*21)+x1) - 4449) *
 28)),
 true,()))
 else
 (f300 (x0,44032,11172,())).bind fun v =>
 bif v.1 then
 bif (IntKind.i32.wrap (x0 - 44032)).tmod 28==0 then
 (f300 (x1,4520,27,())).bind fun v =>
 bif v.1 then some (Sum.inl (IntKind.i32.wrap (IntKind.i32.wrap (x0+x1) - 4519),true,()))
 else some (Sum.inr (x0,x1,x3,x4,x5,()))
 else some (Sum.inr (x0,x1,x3,x4,x5,()))
 else some (Sum.inr (x0,x1,x3,x4,x5,()))
theorem k2x (f300:j3w) (f303:x4j):AqC (w8w f300 f303) 0 (qe (code Tryz.f280) [1,0,0,1]) .nil k8o w1w (q3v f300 f303):=fun v=>by kernel_rfl
def ka:q9q:=q3v zz q2h
theorem k5u:zp 0 (qe (code Tryz.f280) [1,0,0,1]) (y6g ka) :=
 frc v2d (k2x zz q2h)
def b2t (f280_c0:q9q):Ann:=(.seq .nil (.seq (.blk (.cut .nil (y6g f280_c0))) .nil))
def x2j (f300:j3w) (f303:x4j) (f280_c0:q9q):z4o:=fun (x0,x1,x2,x3,x4,_) =>
 (f300 (x3,4352,19,())).bind fun v =>
 bif v.1 then
 (f300 (x4,4449,21,())).bind fun v =>
 (f280_c0 (x3,x4,v.1,x0,x1,x2,())).bind fun v =>
 Sum.elim (fun v=>some (v.1,v.2.1,()))
 (fun v =>
 (f303 (v.2.2.1,v.2.2.2.1,v.2.2.2.2.1,v.1,v.2.1,())).bind
 fun v=>some (v.1,v.2.1,()))
 v
 else
 (f280_c0 (x3,x4,false,x0,x1,x2,())).bind fun v =>
 Sum.elim (fun v=>some (v.1,v.2.1,()))
 (fun v =>
 (f303 (v.2.2.1,v.2.2.2.1,v.2.2.2.2.1,v.1,v.2.1,())).bind
 fun v=>some (v.1,v.2.1,()))
 v
def q7v:z4o:=x2j zz q2h ka
theorem f6j:FO 280 (g7x q7v):=j3g Li5 Lo6 w8w b2t x2j zz q2h ka v2d Tryz.func280 (And.intro k5u trivial)
abbrev q4q:=Int×Int×Int×Int×List (Int)×Int×Int×Bool×qq×qu×qv×List (Int)×Unit→Option ((Int×Int×List (Int)×Int×Int×qq×qu×qv×List (Int)×Unit)⊕(Int×Int×Int×Int×List (Int)×Int×Int×qq×qu×qv×List (Int)×Unit))
def y5u (f:q4q):LEnt:=⟨k8p,w1x,f⟩
abbrev j6f:=Int×Int×List (Int)×Int×Int×qq×qu×qv×List (Int)×Unit→Option (List (Int)×Unit)
def y5v (f:j6f):LEnt:=⟨k8q,w1y,f⟩
abbrev x3j:=qq×qu×qv×List (Int)×Unit→Option (List (Int)×Unit)
def g6v (f:x3j):FEnt:=⟨Li9,q0j,f⟩
def v9c (f276:q1h) (f280:z4o):=lk [(276,x7d f276),(280,g7x f280)]
theorem y2y:zj Tryz.prog (v9c xc q7v):=(kc x0k (kc f6j kn))
def q3u (f276:q1h) (f280:z4o):q4q:=fun (x0,x1,x2,x3,x4,x5,x6,x7,x8,x9,x10,x11,_) =>
 bif x7 then
 bif decide (0≤x0)&&decide (x0<(↑x11.length:Int)) then
 (f280 (x8,x9,x10,x11.getD x0.toNat 0,x2,())).bind fun v =>
 bif v.2.1 then
 bif decide (0≤x0)&&decide (x0<(↑x11.length:Int)) then
 some (Sum.inl (x0,x1,x4,x5,x6,x8,x9,x10,x11.set x0.toNat v.1,()))
 else none
 else some (Sum.inr (x0,x1,x2,x3,x4,x5,x6,x8,x9,x10,x11,()))
 else none
 else some (Sum.inr (x0,x1,x2,x3,x4,x5,x6,x8,x9,x10,x11,()))
theorem k2p (f276:q1h) (f280:z4o):AqC (v9c f276 f280) 0 (qe (code Tryz.f241) [1,1,1,0,1,0,0,1,1,0,0,1,1,0,1]) .nil k8p w1x (q3u f276 f280):=fun v=>by kernel_rfl
def q1e:q4q:=q3u xc q7v
theorem k5i:zp 0 (qe (code Tryz.f241) [1,1,1,0,1,0,0,1,1,0,0,1,1,0,1]) (y5u q1e) :=
 frc y2y (k2p xc q7v)
def k0l (f241_c0:q4q):Ann:=(.seq .nil (.seq .nil (.seq (.blk (.seq .nil (.seq .nil (.seq (.cut .nil (y5u f241_c0)) .nil)))) .nil)))
def j5g (f276:q1h) (f280:z4o) (f241_c0:q4q):yq (Int×Int×List (Int)×Int×Int×qq×qu×qv×List (Int)×Unit) (List (Int)×Unit):=fun (x0,x1,x2,x3,x4,x5,x6,x7,x8,_) =>
 bif decide (x4<x3) then
 bif decide (0≤x4)&&decide (x4<(↑x2.length:Int)) then
 (f276 (x5,x6,x7,x2.getD x4.toNat 0,())).bind fun v =>
 bif decide (x0≥0) then
 bif decide (x1<v.1) then
 (f241_c0
 (x0,x1,x2.getD x4.toNat 0,v.1,x2,x3,x4,true,x5,x6,x7,x8,
 ())).bind
 fun v =>
 Sum.elim
 (fun v =>
 some
 (Sum.inl
 (v.1,v.2.1,v.2.2.1,v.2.2.2.1,
 IntKind.i64.wrap (v.2.2.2.2.1+1),v.2.2.2.2.2.1,
 v.2.2.2.2.2.2.1,v.2.2.2.2.2.2.2.1,
 v.2.2.2.2.2.2.2.2.1,())))
 (fun v =>
 bif
 decide
 (List.length v.2.2.2.2.2.2.2.2.2.2.1+[v.2.2.1].length ≤
 140737488355328/4) then
 bif v.2.2.2.1==0 then
 some
 (Sum.inl
 (IntKind.i64.wrap
 ((↑(v.2.2.2.2.2.2.2.2.2.2.1++[v.2.2.1]).length:Int) -
 1),
 0,v.2.2.2.2.1,v.2.2.2.2.2.1,
 IntKind.i64.wrap (v.2.2.2.2.2.2.1+1),v.2.2.2.2.2.2.2.1,
 v.2.2.2.2.2.2.2.2.1,v.2.2.2.2.2.2.2.2.2.1,
 v.2.2.2.2.2.2.2.2.2.2.1++[v.2.2.1],()))
 else
 some
 (Sum.inl
 (v.1,if v.2.2.2.1>v.2.1 then v.2.2.2.1 else v.2.1,
 v.2.2.2.2.1,v.2.2.2.2.2.1,
 IntKind.i64.wrap (v.2.2.2.2.2.2.1+1),v.2.2.2.2.2.2.2.1,
 v.2.2.2.2.2.2.2.2.1,v.2.2.2.2.2.2.2.2.2.1,
 v.2.2.2.2.2.2.2.2.2.2.1++[v.2.2.1],()))
 else none)
 v
 else
 (f241_c0
 (x0,x1,x2.getD x4.toNat 0,v.1,x2,x3,x4,
 x0==IntKind.i64.wrap ((↑x8.length:Int) - 1),x5,x6,x7,x8,())).bind
 fun v =>
 Sum.elim
 (fun v =>
 some
 (Sum.inl
 (v.1,v.2.1,v.2.2.1,v.2.2.2.1,
 IntKind.i64.wrap (v.2.2.2.2.1+1),v.2.2.2.2.2.1,
 v.2.2.2.2.2.2.1,v.2.2.2.2.2.2.2.1,
 v.2.2.2.2.2.2.2.2.1,())))
 (fun v =>
 bif
 decide
 (List.length v.2.2.2.2.2.2.2.2.2.2.1+[v.2.2.1].length ≤
 140737488355328/4) then
 bif v.2.2.2.1==0 then
 some
 (Sum.inl
 (IntKind.i64.wrap
 ((↑(v.2.2.2.2.2.2.2.2.2.2.1++[v.2.2.1]).length:Int) -
 1),
 0,v.2.2.2.2.1,v.2.2.2.2.2.1,
 IntKind.i64.wrap (v.2.2.2.2.2.2.1+1),v.2.2.2.2.2.2.2.1,
 v.2.2.2.2.2.2.2.2.1,v.2.2.2.2.2.2.2.2.2.1,
 v.2.2.2.2.2.2.2.2.2.2.1++[v.2.2.1],()))
 else
 some
 (Sum.inl
 (v.1,if v.2.2.2.1>v.2.1 then v.2.2.2.1 else v.2.1,
 v.2.2.2.2.1,v.2.2.2.2.2.1,
 IntKind.i64.wrap (v.2.2.2.2.2.2.1+1),v.2.2.2.2.2.2.2.1,
 v.2.2.2.2.2.2.2.2.1,v.2.2.2.2.2.2.2.2.2.1,
 v.2.2.2.2.2.2.2.2.2.2.1++[v.2.2.1],()))
 else none)
 v
 else
 (f241_c0
 (x0,x1,x2.getD x4.toNat 0,v.1,x2,x3,x4,false,x5,x6,x7,x8,())).bind
 fun v =>
 Sum.elim
 (fun v =>
 some
 (Sum.inl
 (v.1,v.2.1,v.2.2.1,v.2.2.2.1,
 IntKind.i64.wrap (v.2.2.2.2.1+1),v.2.2.2.2.2.1,
 v.2.2.2.2.2.2.1,v.2.2.2.2.2.2.2.1,
 v.2.2.2.2.2.2.2.2.1,())))
 (fun v =>
 bif
 decide
 (List.length v.2.2.2.2.2.2.2.2.2.2.1+[v.2.2.1].length ≤
 140737488355328/4) then
 bif v.2.2.2.1==0 then
 some
 (Sum.inl
 (IntKind.i64.wrap
 ((↑(v.2.2.2.2.2.2.2.2.2.2.1++[v.2.2.1]).length:Int) - 1),
 0,v.2.2.2.2.1,v.2.2.2.2.2.1,
 IntKind.i64.wrap (v.2.2.2.2.2.2.1+1),v.2.2.2.2.2.2.2.1,
 v.2.2.2.2.2.2.2.2.1,v.2.2.2.2.2.2.2.2.2.1,
 v.2.2.2.2.2.2.2.2.2.2.1++[v.2.2.1],()))
 else
 some
 (Sum.inl
 (v.1,if v.2.2.2.1>v.2.1 then v.2.2.2.1 else v.2.1,
 v.2.2.2.2.1,v.2.2.2.2.2.1,
 IntKind.i64.wrap (v.2.2.2.2.2.2.1+1),v.2.2.2.2.2.2.2.1,
 v.2.2.2.2.2.2.2.2.1,v.2.2.2.2.2.2.2.2.2.1,
 v.2.2.2.2.2.2.2.2.2.2.1++[v.2.2.1],()))
 else none)
 v
 else none
 else some (Sum.inr (x8,()))
theorem k2q (f276:q1h) (f280:z4o) (f241_c0:q4q):AqL (v9c f276 f280) 0 (qe (code Tryz.f241) [1,1,1,0,1,0,0]) (k0l f241_c0) k8q w1y (j5g f276 f280 f241_c0):=fun v=>by kernel_rfl
def q7n:j6f:=qc (j5g xc q7v q1e) je
theorem k5j:jf 0 (qe (code Tryz.f241) [1,1,1,0,1,0,0]) (y5v q7n) :=
 frm y2y (And.intro k5i trivial) (k2q xc q7v q1e)
def b2k (f241_l0:j6f):Ann:=(.seq .nil (.seq .nil (.seq .nil (.seq (.seq .nil (.blk (.loop (y5v f241_l0)))) .nil))))
def x2h (f276:q1h) (f280:z4o) (f241_l0:j6f):x3j:=fun (x0,x1,x2,x3,_) =>
 (f241_l0 (-1,0,x3,(↑x3.length:Int),0,x0,x1,x2,[],())).bind fun v=>some (v.1,())
def x6e:x3j:=x2h xc q7v q7n
theorem f5f:FO 241 (g6v x6e):=j3g Li9 q0j v9c b2k x2h xc q7v q7n y2y Tryz.func241 (And.intro k5j trivial)
abbrev q4c:=Int×Bool×Unit→Option ((Int×Int×Unit)⊕Unit)
def y4e (f:q4c):LEnt:=⟨g9p,v9m,f⟩
abbrev q8m:=Int×Bool×Unit→Option ((Int×Int×Unit)⊕Unit)
def y4f (f:q8m):LEnt:=⟨g9q,v9m,f⟩
abbrev j7c:=Int×Unit→Option (Int×Int×Unit)
def g5i (f:j7c):FEnt:=⟨j3q,f0u,f⟩
def q3p:q4c:=fun (x0,x1,_) =>
 bif x1 then some (Sum.inl (2,IntKind.i32.wrap (intBits BinOp.and IntKind.u8 x0 15),()))
 else
 bif decide (x0≥240) then
 bif decide (x0<245) then some (Sum.inl (3,IntKind.i32.wrap (intBits BinOp.and IntKind.u8 x0 7),()))
 else some (Sum.inr ())
 else some (Sum.inr ())
def q1a:q4c:=q3p
theorem k3s:zp 0 (qe (code Tryz.f121) [1,0,0,1,1,1,1,1]) (y4e q1a):=zc0 g9p v9m vf q3p kn
def v9y (f121_c0:q4c):Ann:=(.cond .nil (.cut .nil (y4e f121_c0)))
def q3q (f121_c0:q4c):q8m:=fun (x0,x1,_) =>
 bif x1 then some (Sum.inl (1,IntKind.i32.wrap (intBits BinOp.and IntKind.u8 x0 31),()))
 else
 bif decide (x0≥224) then
 (f121_c0 (x0,decide (x0<240),())).bind fun v =>
 Sum.elim (fun v=>some (Sum.inl (v.1,v.2.1,()))) (fun v=>some (Sum.inr ())) v
 else
 (f121_c0 (x0,false,())).bind fun v =>
 Sum.elim (fun v=>some (Sum.inl (v.1,v.2.1,()))) (fun v=>some (Sum.inr ())) v
theorem k1u (f121_c0:q4c):AqC vf 0 (qe (code Tryz.f121) [1,0,0,1,1,1]) (v9y f121_c0) g9q v9m (q3q f121_c0):=fun v=>by kernel_rfl
def q1b:q8m:=q3q q1a
theorem k3t:zp 0 (qe (code Tryz.f121) [1,0,0,1,1,1]) (y4f q1b) :=
 frd kn (And.intro k3s trivial) (k1u q1a)
def b1j (f121_c1:q8m):Ann:=(.seq .nil (.seq (.blk (.seq .nil (.cond .nil (.cut .nil (y4f f121_c1))))) .nil))
def x1z (f121_c1:q8m):j7c:=fun (x0,_) =>
 bif decide (x0<128) then some (0,IntKind.i32.wrap x0,())
 else
 bif decide (x0≥194) then
 (f121_c1 (x0,decide (x0<224),())).bind fun v =>
 Sum.elim (fun v=>some (v.1,v.2.1,())) (fun v=>some (-1,0,())) v
 else
 (f121_c1 (x0,false,())).bind fun v =>
 Sum.elim (fun v=>some (v.1,v.2.1,())) (fun v=>some (-1,0,())) v
def vy:j7c:=x1z q1b
theorem f3o:FO 121 (g5i vy):=q5v j3q f0u vf b1j x1z q1b kn Tryz.func121 (And.intro k3t trivial)
abbrev j7o:=qa×Int×Int×Int×Int×List (Int)×Unit→Option ((qa×Int×Int×Int×List (Int)×Unit)⊕(Int×List (Int)×Unit))
def x7n (f:j7o):LEnt:=⟨g9r,f0w,f⟩
abbrev j7p:=qa×Int×List (Int)×Unit→Option ((List (Int)×Unit)⊕(Int×List (Int)×Unit))
def x7o (f:j7p):LEnt:=⟨g9s,f0x,f⟩
abbrev j7n:=Int×List (Int)×Unit→Option (Int×List (Int)×Unit)
def x7m (f:j7n):LEnt:=⟨x2l,v9n,f⟩
abbrev T83:=qa×Unit→Option (List (Int)×Int×Unit)
def E83 (f:T83):FEnt:=⟨xi,f0v,f⟩
def K83 (f121:j7c) (f122:q8n):=lk [(121,g5i f121),(122,w6n f122)]
theorem y9i:zj Tryz.prog (K83 vy yz):=(kc f3o (kc w5f kn))
def q2l (f121:j7c) (f122:q8n):yq (qa×Int×Int×Int×Int×List (Int)×Unit) ((qa×Int×Int×Int×List (Int)×Unit)⊕(Int×List (Int)×Unit)):=fun (x0,x1,x2,x3,x4,x5,_) =>
 bif decide (x4≤IntKind.i64.wrap (x3+x1)) then
 bif decide (0≤x4)&&decide (x4<(↑x0.length:Int)) then
 bif intBits BinOp.andNot IntKind.u8 (↑(x0.getD x4.toNat 0).toNat:Int) 63 != 128 then
 some (Sum.inr (Sum.inr (x3,x5,())))
 else
 bif decide (0≤x4)&&decide (x4<(↑x0.length:Int)) then
 some
 (Sum.inl
 (x0,x1,
 intBits BinOp.or IntKind.i32 (IntKind.i32.wrap (x2*2^min 6 IntKind.i32.bits))
 (IntKind.i32.wrap (intBits BinOp.and IntKind.u8 (↑(x0.getD x4.toNat 0).toNat:Int) 63)),
 x3,IntKind.i64.wrap (x4+1),x5,()))
 else none
 else none
 else some (Sum.inr (Sum.inl (x0,x1,x2,x3,x5,())))
def q2j:j7o:=qc (q2l vy yz) je
theorem g2z:jf 0 (qe (code Tryz.f83) [1,0,1,1,1,1,0,0,0,1,0,1,1,0,1,0,0]) (x7n q2j):=zl2 g9r f0w K83 q2l vy yz y9i
def w9o (f83_l0:j7o):Ann:=(.seq .nil (.blk (.seq .nil (.seq .nil (.seq (.seq .nil (.blk (.loop (x7n f83_l0)))) .nil)))))
def vo (f121:j7c) (f122:q8n) (f83_l0:j7o):yq (qa×Int×List (Int)×Unit) ((List (Int)×Unit)⊕(Int×List (Int)×Unit)):=fun (x0,x1,x2,_) =>
 bif decide (x1<(↑x0.length:Int)) then
 bif decide (0≤x1)&&decide (x1<(↑x0.length:Int)) then
 (f121 ((↑(x0.getD x1.toNat 0).toNat:Int),())).bind fun v =>
 bif decide (v.1<0) then some (Sum.inr (Sum.inr (x1,x2,())))
 else
 bif decide (IntKind.i64.wrap ((↑x0.length:Int) - x1)≤v.1) then
 some (Sum.inr (Sum.inr (x1,x2,())))
 else
 (f83_l0 (x0,v.1,v.2.1,x1,IntKind.i64.wrap (x1+1),x2,())).bind fun v =>
 Sum.elim
 (fun v =>
 (f122 (v.2.2.1,())).bind fun v1 =>
 bif v1.1 != IntKind.i64.wrap (v.2.1+1) then
 some (Sum.inr (Sum.inr (v.2.2.2.1,v.2.2.2.2.1,())))
 else
 bif
 decide
 (List.length v.2.2.2.2.1+[v.2.2.1].length≤140737488355328/4) then
 some
 (Sum.inl
 (v.1,IntKind.i64.wrap (v.2.2.2.1+IntKind.i64.wrap (v.2.1+1)),
 v.2.2.2.2.1++[v.2.2.1],()))
 else none)
 (fun v=>some (Sum.inr (Sum.inr (v.1,v.2.1,())))) v
 else none
 else some (Sum.inr (Sum.inl (x2,())))
theorem g2m (f121:j7c) (f122:q8n) (f83_l0:j7o):AqL (K83 f121 f122) 0 (qe (code Tryz.f83) [1,0,1,1,1,1,0,0,0]) (w9o f83_l0) g9s f0x (vo f121 f122 f83_l0):=fun v=>by kernel_rfl
def q6b:j7p:=qc (vo vy yz q2j) je
theorem g3a:jf 0 (qe (code Tryz.f83) [1,0,1,1,1,1,0,0,0]) (x7o q6b) :=
 frm y9i (And.intro g2z trivial) (g2m vy yz q2j)
def y1j (f121:j7c) (f122:q8n):yq (Int×List (Int)×Unit) (Int×List (Int)×Unit):=fun (x0,x1,_) =>
 some (Sum.inr (x0,x1,()))
theorem g2l (f121:j7c) (f122:q8n) (v:HS x2l):aev Γ (K83 f121 f122) 0 ((findLabel (qe (code Tryz.f83) [1,0]) 0).getD .skip) .nil (v4x x2l v) (q0a 0 0 [] x2l v9n)=y1j f121 f122 v:=by kernel_rfl
def q2i:j7n:=qc (y1j vy yz) je
theorem g2y:jv Tryz.prog 0 (js Tryz.prog (qe (code Tryz.f83) [1,0]) 0) (x7m q2i) :=
 yb (ins:=x2l) (os:=v9n) (C:=q2i) (q6i (ins:=x2l) (os:=v9n) (n := .nil) (ls:=[]) (F:=y1j vy yz) (rest:=((findLabel (qe (code Tryz.f83) [1,0]) 0).getD .skip)) hm hΓ y9i (fun _=>je) (by kernel_rfl) (jm _) j0r (g2l vy yz)) rfl
def N83 (f83_g0:j7n) (f83_l1:j7p):Ann:=(.seq .nil (.scope (.seq .nil (.seq .nil (.seq .nil (.seq .nil (.seq (.blk (.loop (x7o f83_l1))) .nil))))) [(0,(x7m f83_g0))]))
def F83 (f121:j7c) (f122:q8n) (f83_g0:j7n) (f83_l1:j7p):T83:=fun (x0,_) =>
 (f83_l1 (x0,0,[],())).bind fun v =>
 Sum.elim (fun v=>some (v.1,-1,()))
 (fun v=>(f83_g0 (v.1,v.2.1,())).bind fun v=>some (v.2.1,v.1,())) v
theorem h83 (f121:j7c) (f122:q8n) (f83_g0:j7n) (f83_l1:j7p):ye (K83 f121 f122) 0 Tryz.f83 (N83 f83_g0 f83_l1) xi f0v (F83 f121 f122 f83_g0 f83_l1):=fun v=>by kernel_rfl
def C83:T83:=F83 vy yz q2i q6b
theorem z9o:FO 83 (E83 C83) :=
 qo y9i Tryz.func83 (And.intro g3a (And.intro g2y trivial)) (h83 vy yz q2i q6b)
abbrev x8u:=qq×qu×qv×qa×Bool×Bool×Unit→Option (qa×Bool×Unit)
def g6k (f:x8u):FEnt:=⟨k8r,q6c,f⟩
def f9r (f178:j3t) (f239:x3h) (f240:x3i) (f241:x3j) (f83:T83):=lk [(178,v5o f178),(239,g6t f239),(240,g6u f240),(241,g6v f241),(83,E83 f83)]
def v6p (f178:j3t) (f239:x3h) (f240:x3i) (f241:x3j) (f83:T83):x8u:=fun (x0,x1,x2,x3,x4,x5,_) =>
 (f83 (x3,())).bind fun v =>
 bif decide (v.2.1≥0) then some ([],false,())
 else
 (f240 (x0,x1,x2,v.1,x4,())).bind fun v =>
 (f239 (x0,x1,x2,v.1,())).bind fun v =>
 bif x5 then
 (f241 (x0,x1,x2,v.1,())).bind fun v =>
 (f178 (v.1,())).bind fun v=>some (v.1,v.2.1,())
 else (f178 (v.1,())).bind fun v=>some (v.1,v.2.1,())
theorem b6u (f178:j3t) (f239:x3h) (f240:x3i) (f241:x3j) (f83:T83):ye (f9r f178 f239 f240 f241 f83) 0 Tryz.f213 .nil k8r q6c (v6p f178 f239 f240 f241 f83):=fun v=>by kernel_rfl
def y0u:x8u:=v6p z1v y0w x6d x6e C83
theorem f4u:FO 213 (g6k y0u) :=
 q0 (kc v3r (kc f5d (kc f5e (kc f5f (kc z9o kn))))) Tryz.func213 (b6u z1v y0w x6d x6e C83)
abbrev z7k:=qq×qu×qv×qa×Unit→Option (qa×Bool×Unit)
def w6u (f:z7k):FEnt:=⟨xk,q6c,f⟩
def f9j (f213:x8u):=lk [(213,g6k f213)]
def v6j (f213:x8u):z7k:=fun (x0,x1,x2,x3,_) =>
 (f213 (x0,x1,x2,x3,false,true,())).bind fun v=>some (v.1,v.2.1,())
def z1w:z7k:=v6j y0u
theorem w5l:FO 181 (w6u z1w):=wy xk q6c f9j v6j y0u (kc f4u kn) Tryz.func181
abbrev j9l:=qq×qu×qv×qa×Unit→Option (qa×Bool×Unit)
def w6r (f:j9l):FEnt:=⟨xk,q6c,f⟩
def f8y (f178:j3t) (f179:x2x) (f180:x2y) (f181:z7k) (f83:T83):=lk [(178,v5o f178),(179,g5y f179),(180,g5z f180),(181,w6u f181),(83,E83 f83)]
def x7x (f178:j3t) (f179:x2x) (f180:x2y) (f181:z7k) (f83:T83):j9l:=fun (x0,x1,x2,x3,_) =>
 (f83 (x3,())).bind fun v =>
 bif decide (v.2.1≥0) then some ([],false,())
 else
 (f180 (x0,x1,x2,v.1,())).bind fun v =>
 (f179 (x0,x1,x2,v.1,())).bind fun v =>
 (f178 (v.1,())).bind fun v =>
 (f181 (x0,x1,x2,v.1,())).bind fun v=>some (v.1,v.2.1,())
theorem b6p (f178:j3t) (f179:x2x) (f180:x2y) (f181:z7k) (f83:T83):ye (f8y f178 f179 f180 f181 f83) 0 Tryz.f151 .nil xk q6c (x7x f178 f179 f180 f181 f83):=fun v=>by kernel_rfl
def j1n:j9l:=x7x z1v x1h x1i z1w C83
theorem v3m:FO 151 (w6r j1n) :=
 q0 (kc v3r (kc f4h (kc f4j (kc w5l (kc z9o kn))))) Tryz.func151 (b6p z1v x1h x1i z1w C83)
abbrev z4i:=qa×Int×Int×Unit→Option (Unit⊕(Int×Unit))
def x6y (f:z4i):LEnt:=⟨k8s,w1z,f⟩
abbrev T21:=qa×Unit→Option (Int×Unit)
def E21 (f:T21):FEnt:=⟨xi,jd,f⟩
def y1i:yq (qa×Int×Int×Unit) (Unit⊕(Int×Unit)):=fun (x0,x1,x2,_) =>
 bif decide (x2<x1) then
 bif decide (0≤x2)&&decide (x2<(↑x0.length:Int)) then
 bif decide ((↑(x0.getD x2.toNat 0).toNat:Int)≥128) then some (Sum.inr (Sum.inr (x2,())))
 else some (Sum.inl (x0,x1,IntKind.i64.wrap (x2+1),()))
 else none
 else some (Sum.inr (Sum.inl ()))
def z2f:z4i:=qc (y1i) je
theorem g2s:jf 0 (qe (code Tryz.f21) [1,0,1,0,0]) (x6y z2f):=zl0 k8s w1z vf y1i kn
def N21 (f21_l0:z4i):Ann:=(.seq .nil (.seq (.seq .nil (.blk (.loop (x6y f21_l0)))) .nil))
def F21 (f21_l0:z4i):T21:=fun (x0,_) =>
 (f21_l0 (x0,(↑x0.length:Int),0,())).bind fun v =>
 Sum.elim (fun v=>some (-1,())) (fun v=>some (v.1,())) v
def C21:T21:=F21 z2f
theorem x5l:FO 21 (E21 C21):=q5v xi jd vf N21 F21 z2f kn Tryz.func21 (And.intro g2s trivial)
abbrev j6g:=Int×Int×List (Int)×Int×Int×Unit→Option (Int×Unit)
def y5w (f:j6g):LEnt:=⟨k8u,w2a,f⟩
abbrev q9i:=List (Int)×Int×Unit→Option (Int×Unit)
def g7a (f:q9i):FEnt:=⟨k8t,z7c,f⟩
def z3j:yq (Int×Int×List (Int)×Int×Int×Unit) (Int×Unit):=fun (x0,x1,x2,x3,x4,_) =>
 bif decide (x4<x3) then
 bif decide (0≤x4)&&decide (x4<(↑x2.length:Int)) then
 bif decide (x2.getD x4.toNat 0≥x0) then
 bif decide (x1<0) then
 some (Sum.inl (x0,x2.getD (x4.toNat) 0,x2,x3,IntKind.i64.wrap (x4+1),()))
 else
 bif decide (x2.getD x4.toNat 0<x1) then
 some (Sum.inl (x0,x2.getD (x4.toNat) 0,x2,x3,IntKind.i64.wrap (x4+1),()))
 else some (Sum.inl (x0,x1,x2,x3,IntKind.i64.wrap (x4+1),()))
 else some (Sum.inl (x0,x1,x2,x3,IntKind.i64.wrap (x4+1),()))
 else none
 else some (Sum.inr (x1,()))
def j4i:j6g:=qc (z3j) je
theorem k5k:jf 0 (qe (code Tryz.f250) [1,1,0,1,0,0]) (y5w j4i):=zl0 k8u w2a vf z3j kn
def b2l (f250_l0:j6g):Ann:=(.seq .nil (.seq .nil (.seq (.seq .nil (.blk (.loop (y5w f250_l0)))) .nil)))
def v7g (f250_l0:j6g):q9i:=fun (x0,x1,_) =>
 (f250_l0 (x1,-1,x0,(↑x0.length:Int),0,())).bind fun v=>some (v.1,())
def q5z:q9i:=v7g j4i
theorem f5k:FO 250 (g7a q5z):=q5v k8t z7c vf b2l v7g j4i kn Tryz.func250 (And.intro k5k trivial)
abbrev q9r:=Int×Int×Unit→Option (Int×Unit)
def w7l (f:q9r):FEnt:=⟨k8v,jd,f⟩
def v8a:q9r:=fun (x0,x1,_) =>
 some
 (if (if 26<IntKind.i64.wrap (x0 - x1) then 26 else IntKind.i64.wrap (x0 - x1))>1 then
 if 26<IntKind.i64.wrap (x0 - x1) then 26 else IntKind.i64.wrap (x0 - x1)
 else 1,
 ())
def q2g:q9r:=v8a
theorem w6a:FO 290 (w7l q2g):=zq0 k8v jd vf v8a kn Tryz.func290
abbrev q9s:=Int×Bool×Unit→Option ((Int×Bool×Unit)⊕Unit)
def y6j (f:q9s):LEnt:=⟨k8x,w2c,f⟩
abbrev z7p:=Int×Unit→Option (Int×Bool×Unit)
def g8g (f:z7p):FEnt:=⟨k8w,w2b,f⟩
def j5l:q9s:=fun (x0,x1,_) =>
 bif x1 then some (Sum.inl (IntKind.u8.wrap (97+IntKind.u8.wrap x0),true,()))
 else
 bif decide (x0≥26) then
 bif decide (x0<36) then
 some (Sum.inl (IntKind.u8.wrap (48+IntKind.u8.wrap (IntKind.i64.wrap (x0 - 26))),true,()))
 else some (Sum.inr ())
 else some (Sum.inr ())
def q7w:q9s:=j5l
theorem k5x:zp 0 (qe (code Tryz.f291) [1,0,0,1]) (y6j q7w):=zc0 k8x w2c vf j5l kn
def b2w (f291_c0:q9s):Ann:=(.seq .nil (.seq (.blk (.cut .nil (y6j f291_c0))) .nil))
def v8b (f291_c0:q9s):z7p:=fun (x0,_) =>
 bif decide (x0≥0) then
 (f291_c0 (x0,decide (x0<26),())).bind fun v =>
 Sum.elim (fun v=>some (v.1,v.2.1,())) (fun v=>some (0,false,())) v
 else
 (f291_c0 (x0,false,())).bind fun v =>
 Sum.elim (fun v=>some (v.1,v.2.1,())) (fun v=>some (0,false,())) v
def z2n:z7p:=v8b q7w
theorem f6s:FO 291 (g8g z2n):=q5v k8w w2b vf b2w v8b q7w kn Tryz.func291 (And.intro k5x trivial)
abbrev q9k:=Int×Int×Int×qa×Unit→Option (qa×Unit)
def y5x (f:q9k):LEnt:=⟨y7r,y8g,f⟩
abbrev q9j:=Int×Int×qa×Unit→Option (qa×Unit)
def g7b (f:q9j):FEnt:=⟨k8y,w2d,f⟩
def w8s (f290:q9r) (f291:z7p):=lk [(290,w7l f290),(291,g8g f291)]
theorem v2a:zj Tryz.prog (w8s q2g z2n):=(kc w6a (kc f6s kn))
def j5h (f290:q9r) (f291:z7p):yq (Int×Int×Int×qa×Unit) (qa×Unit):=fun (x0,x1,x2,x3,_) =>
 (f290 (x2,x1,())).bind fun v =>
 bif decide (x0<v.1) then
 (f291 (x0,())).bind fun v =>
 bif decide (x3.length+[UInt8.ofNat (Int.toNat v.1)].length≤140737488355328/1) then
 some (Sum.inr (x3++[UInt8.ofNat (Int.toNat v.1)],()))
 else none
 else
 bif IntKind.i64.wrap (36 - v.1) != 0 then
 (f291
 (IntKind.i64.wrap (v.1+(IntKind.i64.wrap (x0 - v.1)).tmod (IntKind.i64.wrap (36 - v.1))),
 ())).bind
 fun v1 =>
 bif decide (x3.length+[UInt8.ofNat (Int.toNat v1.1)].length≤140737488355328/1) then
 bif IntKind.i64.wrap (36 - v.1) != 0 then
 some
 (Sum.inl
 (IntKind.i64.wrap ((IntKind.i64.wrap (x0 - v.1)).tdiv (IntKind.i64.wrap (36 - v.1))),x1,
 IntKind.i64.wrap (x2+36),x3++[UInt8.ofNat (Int.toNat v1.1)],()))
 else none
 else none
 else none
theorem k2r (f290:q9r) (f291:z7p):AqL (w8s f290 f291) 1 (qe (code Tryz.f251) [1,1,0,0]) .nil y7r y8g (j5h f290 f291):=fun v=>by kernel_rfl
def q3m:q9k:=qc (j5h q2g z2n) je
theorem k5l:jv Tryz.prog 1 (q2n Tryz.prog (qe (code Tryz.f251) [1,1,0,0])) (y5x q3m) :=
 yb (ins:=y7r) (os:=y8g) (C:=q3m) (z8m (ins:=y7r) (os:=y8g) (n := .nil) (F:=j5h q2g z2n) hm hΓ v2a (fun _=>je) (jm _) (k2r q2g z2n)) rfl
def b2m (f251_l0:q9k):Ann:=(.seq .nil (.seq .nil (.blk (.peel .nil (y5x f251_l0)))))
def v7h (f290:q9r) (f291:z7p) (f251_l0:q9k):q9j:=fun (x0,x1,x2,_) =>
 (f290 (36,x1,())).bind fun v =>
 bif decide (x0<v.1) then
 (f291 (x0,())).bind fun v =>
 bif decide (x2.length+[UInt8.ofNat (Int.toNat v.1)].length≤140737488355328/1) then
 some (x2++[UInt8.ofNat (Int.toNat v.1)],())
 else none
 else
 bif IntKind.i64.wrap (36 - v.1) != 0 then
 (f291
 (IntKind.i64.wrap (v.1+(IntKind.i64.wrap (x0 - v.1)).tmod (IntKind.i64.wrap (36 - v.1))),
 ())).bind
 fun v1 =>
 bif decide (x2.length+[UInt8.ofNat (Int.toNat v1.1)].length≤140737488355328/1) then
 bif IntKind.i64.wrap (36 - v.1) != 0 then
 (f251_l0
 (IntKind.i64.wrap ((IntKind.i64.wrap (x0 - v.1)).tdiv (IntKind.i64.wrap (36 - v.1))),x1,
 IntKind.i64.wrap (36+36),x2++[UInt8.ofNat (Int.toNat v1.1)],())).bind
 fun v=>some (v.1,())
 else none
 else none
 else none
theorem b7a (f290:q9r) (f291:z7p) (f251_l0:q9k):ye (w8s f290 f291) 1 Tryz.f251 (b2m f251_l0) k8y w2d (v7h f290 f291 f251_l0):=fun v=>by kernel_rfl
def q6a:q9j:=v7h q2g z2n q3m
theorem f5l:FO 251 (g7b q6a) :=
 qo v2a Tryz.func251 (And.intro k5l trivial) (b7a q2g z2n q3m)
abbrev q9m:=Int×Int×Unit→Option (Int×Int×Unit)
def y5z (f:q9m):LEnt:=⟨k9a,w2e,f⟩
abbrev q9l:=Int×Int×Unit→Option (Int×Unit)
def y5y (f:q9l):LEnt:=⟨k9b,w2f,f⟩
abbrev q0k:=Int×Int×Bool×Unit→Option (Int×Unit)
def w7g (f:q0k):FEnt:=⟨k8z,jd,f⟩
def z3k:yq (Int×Int×Unit) (Int×Int×Unit):=fun (x0,x1,_) =>
 bif decide (x0>455) then some (Sum.inl (IntKind.i64.wrap (x0.tdiv 35),IntKind.i64.wrap (x1+36),()))
 else some (Sum.inr (x0,x1,()))
def q7q:q9m:=qc (z3k) je
theorem k5n:jf 0 (qe (code Tryz.f252) [1,1,1,1,0,0,0]) (y5z q7q):=zl0 k9a w2e vf z3k kn
def k0m (f252_l0:q9m):Ann:=(.seq .nil (.seq .nil (.seq (.blk (.loop (y5z f252_l0))) .nil)))
def j5i (f252_l0:q9m):q9l:=fun (x0,x1,_) =>
 bif (if x1>1 then x1 else 1) != 0 then
 (f252_l0 (IntKind.i64.wrap (x0+IntKind.i64.wrap (x0.tdiv (if x1>1 then x1 else 1))),0,())).bind fun v =>
 bif IntKind.i64.wrap (v.1+38) != 0 then
 some
 (IntKind.i64.wrap
 (v.2.1+IntKind.i64.wrap ((IntKind.i64.wrap (36*v.1)).tdiv (IntKind.i64.wrap (v.1+38)))),
 ())
 else none
 else none
theorem k2s (f252_l0:q9m):AqC vf 0 (qe (code Tryz.f252) [1,1]) (k0m f252_l0) k9b w2f (j5i f252_l0):=fun v=>by kernel_rfl
def q7p:q9l:=j5i q7q
theorem k5m:zp 0 (qe (code Tryz.f252) [1,1]) (y5y q7p) :=
 frd kn (And.intro k5n trivial) (k2s q7q)
def b2n (f252_c0:q9l):Ann:=(.seq .nil (.cut .nil (y5y f252_c0)))
def v7i (f252_c0:q9l):q0k:=fun (x0,x1,x2,_) =>
 bif x2 then (f252_c0 (IntKind.i64.wrap (x0.tdiv 700),x1,())).bind fun v=>some (v.1,())
 else (f252_c0 (IntKind.i64.wrap (x0.tdiv 2),x1,())).bind fun v=>some (v.1,())
def wu:q0k:=v7i q7p
theorem w5w:FO 252 (w7g wu):=q5v k8z jd vf b2n v7i q7p kn Tryz.func252 (And.intro k5m trivial)
abbrev q9c:=List (Int)×List (Int)×Int×Int×qa×Unit→Option ((List (Int)×qa×Unit)⊕(qa×Bool×Unit))
def y5j (f:q9c):LEnt:=⟨k9c,w2g,f⟩
abbrev q9d:=List (Int)×Int×Int×Int×Int×Int×List (Int)×Int×Int×qa×Unit→Option (List (Int)×Int×Int×Int×Int×Int×qa×Unit)
def y5k (f:q9d):LEnt:=⟨k9d,w2h,f⟩
abbrev q9e:=List (Int)×Int×Int×Int×Int×Int×qa×Unit→Option ((qa×Unit)⊕(qa×Bool×Unit))
def y5l (f:q9e):LEnt:=⟨k9e,w2i,f⟩
abbrev q4n:=List (Int)×Int×qa×Unit→Option (qa×Bool×Unit)
def y5i (f:q4n):LEnt:=⟨k9f,w2j,f⟩
abbrev z4j:=List (Int)×Unit→Option (qa×Bool×Unit)
def w7c (f:z4j):FEnt:=⟨Li4,q6c,f⟩
def x2k (f155:kr) (f250:q9i) (f251:q9j) (f252:q0k):=lk [(155,v5l f155),(250,g7a f250),(251,g7b f251),(252,w7g f252)]
theorem j8h:zj Tryz.prog (x2k xb q5z q6a wu):=(kc v3o (kc f5k (kc f5l (kc w5w kn))))
def z3d (f155:kr) (f250:q9i) (f251:q9j) (f252:q0k):yq (List (Int)×List (Int)×Int×Int×qa×Unit) ((List (Int)×qa×Unit)⊕(qa×Bool×Unit)):=fun (x0,x1,x2,x3,x4,_) =>
 bif decide (x3<x2) then
 bif decide (0≤x3)&&decide (x3<(↑x1.length:Int)) then
 (f155 (x1.getD x3.toNat 0,())).bind fun v =>
 bif !v.1 then some (Sum.inr (Sum.inr ([],false,())))
 else
 bif decide (x1.getD x3.toNat 0<128) then
 bif
 decide
 (x4.length+[UInt8.ofNat (IntKind.u8.wrap (x1.getD x3.toNat 0)).toNat].length ≤
 140737488355328/1) then
 some
 (Sum.inl
 (x0,x1,x2,IntKind.i64.wrap (x3+1),
 x4++[UInt8.ofNat (IntKind.u8.wrap (x1.getD x3.toNat 0)).toNat],()))
 else none
 else some (Sum.inl (x0,x1,x2,IntKind.i64.wrap (x3+1),x4,()))
 else none
 else some (Sum.inr (Sum.inl (x0,x4,())))
theorem k2j (f155:kr) (f250:q9i) (f251:q9j) (f252:q0k):AqL (x2k f155 f250 f251 f252) 0 (qe (code Tryz.f223) [1,1,0,1,0,0]) .nil k9c w2g (z3d f155 f250 f251 f252):=fun v=>by kernel_rfl
def q7k:q9c:=qc (z3d xb q5z q6a wu) je
theorem k4x:jf 0 (qe (code Tryz.f223) [1,1,0,1,0,0]) (y5j q7k) :=
 frl j8h (k2j xb q5z q6a wu)
def z3e (f155:kr) (f250:q9i) (f251:q9j) (f252:q0k):yq (List (Int)×Int×Int×Int×Int×Int×List (Int)×Int×Int×qa×Unit) (List (Int)×Int×Int×Int×Int×Int×qa×Unit):=fun (x0,x1,x2,x3,x4,x5,x6,x7,x8,x9,_) =>
 bif decide (x8<x7) then
 bif decide (0≤x8)&&decide (x8<(↑x6.length:Int)) then
 bif decide (x6.getD x8.toNat 0<x2) then
 some (Sum.inl (x0,x1,x2,IntKind.i64.wrap (x3+1),x4,x5,x6,x7,IntKind.i64.wrap (x8+1),x9,()))
 else
 bif x6.getD x8.toNat 0==x2 then
 (f251 (x3,x4,x9,())).bind fun v =>
 (f252 (x3,IntKind.i64.wrap (x5+1),x5==x1,())).bind fun v1 =>
 some
 (Sum.inl
 (x0,x1,x2,0,v1.1,IntKind.i64.wrap (x5+1),x6,x7,IntKind.i64.wrap (x8+1),v.1,
 ()))
 else some (Sum.inl (x0,x1,x2,x3,x4,x5,x6,x7,IntKind.i64.wrap (x8+1),x9,()))
 else none
 else some (Sum.inr (x0,x1,x2,x3,x4,x5,x9,()))
theorem k2k (f155:kr) (f250:q9i) (f251:q9j) (f252:q0k):AqL (x2k f155 f250 f251 f252) 0 (qe (code Tryz.f223) [1,1,1,1,1,1,0,1,0,0,1,0,1,1,1,1,0,1,0,0]) .nil k9d w2h (z3e f155 f250 f251 f252):=fun v=>by kernel_rfl
def j4f:q9d:=qc (z3e xb q5z q6a wu) je
theorem k4y:jf 0 (qe (code Tryz.f223) [1,1,1,1,1,1,0,1,0,0,1,0,1,1,1,1,0,1,0,0]) (y5k j4f) :=
 frl j8h (k2k xb q5z q6a wu)
def k0i (f223_l1:q9d):Ann:=(.seq .nil (.blk (.seq .nil (.seq .nil (.seq .nil (.seq .nil (.seq (.seq .nil (.blk (.loop (y5k f223_l1)))) .nil)))))))
def z3f (f155:kr) (f250:q9i) (f251:q9j) (f252:q0k) (f223_l1:q9d):yq (List (Int)×Int×Int×Int×Int×Int×qa×Unit) ((qa×Unit)⊕(qa×Bool×Unit)):=fun (x0,x1,x2,x3,x4,x5,x6,_) =>
 bif decide (x5<(↑x0.length:Int)) then
 (f250 (x0,x2,())).bind fun v =>
 bif
 decide
 (IntKind.i64.wrap
 (x3+IntKind.i64.wrap (IntKind.i64.wrap (IntKind.i32.wrap (v.1 - x2))*IntKind.i64.wrap (x5+1))) >
 2147483647) then
 some (Sum.inr (Sum.inr ([],false,())))
 else
 (f223_l1
 (x0,x1,v.1,
 IntKind.i64.wrap
 (x3 +
 IntKind.i64.wrap (IntKind.i64.wrap (IntKind.i32.wrap (v.1 - x2))*IntKind.i64.wrap (x5+1))),
 x4,x5,x0,(↑x0.length:Int),0,x6,())).bind
 fun v =>
 some
 (Sum.inl
 (v.1,v.2.1,IntKind.i32.wrap (v.2.2.1+1),IntKind.i64.wrap (v.2.2.2.1+1),
 v.2.2.2.2.1,v.2.2.2.2.2.1,v.2.2.2.2.2.2.1,()))
 else some (Sum.inr (Sum.inl (x6,())))
theorem k2l (f155:kr) (f250:q9i) (f251:q9j) (f252:q0k) (f223_l1:q9d):AqL (x2k f155 f250 f251 f252) 0 (qe (code Tryz.f223) [1,1,1,1,1,1,0,1,0,0]) (k0i f223_l1) k9e w2i (z3f f155 f250 f251 f252 f223_l1):=fun v=>by kernel_rfl
def q7l:q9e:=qc (z3f xb q5z q6a wu j4f) je
theorem k4z:jf 0 (qe (code Tryz.f223) [1,1,1,1,1,1,0,1,0,0]) (y5l q7l) :=
 frm j8h (And.intro k4y trivial) (k2l xb q5z q6a wu j4f)
def k0h (f223_l2:q9e):Ann:=(.seq .nil (.seq (.seq .nil (.blk (.loop (y5l f223_l2)))) .nil))
def j5a (f155:kr) (f250:q9i) (f251:q9j) (f252:q0k) (f223_l2:q9e):q4n:=fun (x0,x1,x2,_) =>
 (f223_l2 (x0,x1,128,0,72,x1,x2,())).bind fun v =>
 Sum.elim (fun v=>some (v.1,true,())) (fun v=>some (v.1,v.2.1,())) v
theorem k2i (f155:kr) (f250:q9i) (f251:q9j) (f252:q0k) (f223_l2:q9e):AqC (x2k f155 f250 f251 f252) 0 (qe (code Tryz.f223) [1,1,1,1,1]) (k0h f223_l2) k9f w2j (j5a f155 f250 f251 f252 f223_l2):=fun v=>by kernel_rfl
def q7j:q4n:=j5a xb q5z q6a wu q7l
theorem k4w:zp 0 (qe (code Tryz.f223) [1,1,1,1,1]) (y5i q7j) :=
 frd j8h (And.intro k4z trivial) (k2i xb q5z q6a wu q7l)
def b2d (f223_c0:q4n) (f223_l0:q9c):Ann:=(.seq .nil (.seq .nil (.seq (.seq .nil (.blk (.loop (y5j f223_l0)))) (.seq .nil (.cut .nil (y5i f223_c0))))))
def v6u (f155:kr) (f250:q9i) (f251:q9j) (f252:q0k) (f223_c0:q4n) (f223_l0:q9c):z4j:=fun (x0,_) =>
 (f223_l0 (x0,x0,(↑x0.length:Int),0,[],())).bind fun v =>
 Sum.elim
 (fun v =>
 bif decide ((↑(List.length v.2.1):Int)>0) then
 bif decide (List.length v.2.1+[45].length≤140737488355328/1) then
 (f223_c0 (v.1,(↑(List.length v.2.1):Int),v.2.1++[45],())).bind
 fun v=>some (v.1,v.2.1,())
 else none
 else
 (f223_c0 (v.1,(↑(List.length v.2.1):Int),v.2.1,())).bind fun v =>
 some (v.1,v.2.1,()))
 (fun v=>some (v.1,v.2.1,())) v
theorem b6w (f155:kr) (f250:q9i) (f251:q9j) (f252:q0k) (f223_c0:q4n) (f223_l0:q9c):ye (x2k f155 f250 f251 f252) 0 Tryz.f223 (b2d f223_c0 f223_l0) Li4 q6c (v6u f155 f250 f251 f252 f223_c0 f223_l0):=fun v=>by kernel_rfl
def x1l:z4j:=v6u xb q5z q6a wu q7j q7k
theorem w5s:FO 223 (w7c x1l) :=
 qo j8h Tryz.func223 (And.intro k4x (And.intro k4w trivial)) (b6w xb q5z q6a wu q7j q7k)
abbrev x3m:=Int×Unit→Option (Bool×Int×Unit)
def g7d (f:x3m):FEnt:=⟨k9g,w2k,f⟩
def w7p:x3m:=fun (x0,_) =>
 some (decide (x0≥0),x0,())
theorem b7b:ye vf 1 Tryz.f254 .nil k9g w2k (w7p):=fun v=>by kernel_rfl
def x6f:x3m:=w7p
theorem f5n:FO 254 (g7d x6f) :=
 q0 kn Tryz.func254 (b7b)
abbrev x3o:=qq×qu×qv×qa×Unit→Option (Bool×Unit)
def g7f (f:x3o):FEnt:=⟨xk,qz,f⟩
def b0e (f181:z7k):=lk [(181,w6u f181)]
def w7q (f181:z7k):x3o:=fun (x0,x1,x2,x3,_) =>
 (f181 (x0,x1,x2,x3,())).bind fun v =>
 bif v.2.1 then some (v.1==x3,()) else some (false,())
def x6g:x3o:=w7q z1w
theorem f5p:FO 256 (g7f x6g):=wy xk qz b0e w7q z1w (kc w5l kn) Tryz.func256
abbrev x3n:=qa×qq×qu×qv×Unit→Option (Bool×qa×qq×qu×qv×Unit)
def g7e (f:x3n):FEnt:=⟨k9h,w2l,f⟩
def b0d (f21:T21) (f256:x3o):=lk [(21,E21 f21),(256,g7f f256)]
def x8e (f21:T21) (f256:x3o):x3n:=fun (x0,x1,x2,x3,_) =>
 (f21 (x0,())).bind fun v =>
 bif decide (v.1<0) then some (true,x0,x1,x2,x3,())
 else (f256 (x1,x2,x3,x0,())).bind fun v=>some (bif v.1 then false else true,x0,x1,x2,x3,())
theorem b7c (f21:T21) (f256:x3o):ye (b0d f21 f256) 2 Tryz.f255 .nil k9h w2l (x8e f21 f256):=fun v=>by kernel_rfl
def z6u:x3n:=x8e C21 x6g
theorem f5o:FO 255 (g7e z6u) :=
 q0 (kc x5l (kc f5p kn)) Tryz.func255 (b7c C21 x6g)
abbrev x9g:=qa×qa×Unit→Option (Bool×Unit)
def g8s (f:x9g):FEnt:=⟨zx,qz,f⟩
def w7z:x9g:=fun (x0,x1,_) =>
 bif decide ((↑x0.length:Int)≥(↑x1.length:Int)) then
 bif
 decide (0≤IntKind.i64.wrap ((↑x0.length:Int) - (↑x1.length:Int))) &&
 decide (IntKind.i64.wrap ((↑x0.length:Int) - (↑x1.length:Int))≤(↑x0.length:Int)) then
 some (List.drop (IntKind.i64.wrap ((↑x0.length:Int) - (↑x1.length:Int))).toNat x0==x1,())
 else none
 else some (false,())
def x6r:x9g:=w7z
theorem f7e:FO 308 (g8s x6r):=zq0 zx qz vf w7z kn Tryz.func308
abbrev x9c:=qa×qa×Unit→Option (Bool×Unit)
def g8h (f:x9c):FEnt:=⟨zx,qz,f⟩
def b0x (f308:x9g):=lk [(308,g8s f308)]
def w7x (f308:x9g):x9c:=fun (x0,x1,_) =>
 (f308 (x0,x1,())).bind fun v=>some (v.1,())
def x6n:x9c:=w7x x6r
theorem f6t:FO 292 (g8h x6n):=wy zx qz b0x w7x x6r (kc f7e kn) Tryz.func292
abbrev T96:=qa×qa×Unit→Option (Bool×Unit)
def E96 (f:T96):FEnt:=⟨zx,qz,f⟩
def K96 (f131:y1p):=lk [(131,w6o f131)]
def F96 (f131:y1p):T96:=fun (x0,x1,_) =>
 (f131 (x0,x1,())).bind fun v=>some (v.1,())
def C96:T96:=F96 z6j
theorem f7s:FO 96 (E96 C96):=wy zx qz K96 F96 z6j (kc w5g kn) Tryz.func96
abbrev z4m:=qa×Unit→Option (Bool×Unit)
def w7h (f:z4m):FEnt:=⟨xi,qz,f⟩
def b0g (f292:x9c) (f96:T96):=lk [(292,g8h f292),(96,E96 f96)]
def w7r (f292:x9c) (f96:T96):z4m:=fun (x0,_) =>
 (f96 (x0,[45],())).bind fun v =>
 bif v.1 then some (true,())
 else
 (f292 (x0,[45],())).bind fun v =>
 bif v.1 then some (true,())
 else
 bif decide ((↑x0.length:Int)>3) then
 bif decide (4≤(↑x0.length:Int)) then
 some (List.drop 2 (List.take 4 x0)==[45,45],())
 else none
 else some (false,())
def y0y:z4m:=w7r x6n C96
theorem w5x:FO 258 (w7h y0y):=zq2 xi qz b0g w7r x6n C96 (kc f6t (kc f7s kn)) Tryz.func258
abbrev x3p:=qa×Unit→Option (Bool×qa×Unit)
def g7g (f:x3p):FEnt:=⟨q1w,q1y,f⟩
def b0f (f258:z4m):=lk [(258,w7h f258)]
def v7j (f258:z4m):x3p:=fun (x0,_) =>
 (f258 (x0,())).bind fun v=>some (v.1,x0,())
theorem b7d (f258:z4m):ye (b0f f258) 1 Tryz.f257 .nil q1w q1y (v7j f258):=fun v=>by kernel_rfl
def y0x:x3p:=v7j y0y
theorem f5q:FO 257 (g7g y0x) :=
 q0 (kc w5x kn) Tryz.func257 (b7d y0y)
abbrev j7g:=qq×qu×qv×Int×Unit→Option (Int×Unit)
def v5p (f:j7g):FEnt:=⟨Li0,jd,f⟩
def f9t (f248:j7j):=lk [(248,x7b f248)]
def v6r (f248:j7j):j7g:=fun (x0,x1,x2,x3,_) =>
 (f248 (x0,x1,x2,x3,())).bind fun v=>some (v.2.2.1,())
def j3k:j7g:=v6r q7o
theorem v3s:FO 215 (v5p j3k):=wy Li0 jd f9t v6r q7o (kc x0j kn) Tryz.func215
abbrev x3q:=qq×qu×qv×List (Int)×Unit→Option (Bool×qq×qu×qv×List (Int)×Unit)
def g7h (f:x3q):FEnt:=⟨z0d,j2t,f⟩
def b0h (f215:j7g):=lk [(215,v5p f215)]
def v7k (f215:j7g):x3q:=fun (x0,x1,x2,x3,_) =>
 bif decide (0<(↑x3.length:Int)) then
 (f215 (x0,x1,x2,x3.getD 0 0,())).bind fun v =>
 some (v.1==4,x0,x1,x2,x3,())
 else none
theorem b7e (f215:j7g):ye (b0h f215) 2 Tryz.f259 .nil z0d j2t (v7k f215):=fun v=>by kernel_rfl
def y0z:x3q:=v7k j3k
theorem f5r:FO 259 (g7h y0z) :=
 q0 (kc v3s kn) Tryz.func259 (b7e j3k)
abbrev z4k:=Int×Unit→Option (Bool×Unit)
def w7e (f:z4k):FEnt:=⟨q5i,qz,f⟩
def v7a:z4k:=fun (x0,_) =>
 bif decide (x0≥1632) then some (decide (x0≤1641),()) else some (false,())
def j6s:z4k:=v7a
theorem w5u:FO 242 (w7e j6s):=zq0 q5i qz vf v7a kn Tryz.func242
abbrev z4l:=Int×Unit→Option (Bool×Unit)
def w7f (f:z4l):FEnt:=⟨q5i,qz,f⟩
def v7d:z4l:=fun (x0,_) =>
 bif decide (x0≥1776) then some (decide (x0≤1785),()) else some (false,())
def j6t:z4l:=v7d
theorem w5v:FO 245 (w7f j6t):=zq0 q5i qz vf v7d kn Tryz.func245
abbrev x3d:=Int×Unit→Option (Unit⊕Unit⊕Unit⊕Unit⊕Unit⊕Unit⊕Unit⊕Unit⊕Unit)
def g6l (f:x3d):FEnt:=⟨q5i,w2o,f⟩
def f9s (f242:z4k) (f245:z4l) (f247:x8y):=lk [(242,w7e f242),(245,w7f f245),(247,g6z f247)]
def v6q (f242:z4k) (f245:z4l) (f247:x8y):x3d:=fun (x0,_) =>
 (f242 (x0,())).bind fun v =>
 bif v.1 then some (Sum.inl ())
 else
 (f245 (x0,())).bind fun v =>
 bif v.1 then some (Sum.inr (Sum.inl ()))
 else
 (f247 ()).bind fun v =>
 bif decide (x0=8205) then some (Sum.inr (Sum.inr (Sum.inl ())))
 else
 bif decide (x0=8204) then some (Sum.inr (Sum.inr (Sum.inr (Sum.inl ()))))
 else
 bif decide (x0=183) then some (Sum.inr (Sum.inr (Sum.inr (Sum.inr (Sum.inl ())))))
 else
 bif decide (x0=885) then some (Sum.inr (Sum.inr (Sum.inr (Sum.inr (Sum.inr (Sum.inl ()))))))
 else
 bif decide (x0=1523) then
 some (Sum.inr (Sum.inr (Sum.inr (Sum.inr (Sum.inr (Sum.inr (Sum.inl ())))))))
 else
 bif decide (x0=1524) then
 some (Sum.inr (Sum.inr (Sum.inr (Sum.inr (Sum.inr (Sum.inr (Sum.inl ())))))))
 else
 bif decide (x0=12539) then
 some (Sum.inr (Sum.inr (Sum.inr (Sum.inr (Sum.inr (Sum.inr (Sum.inr (Sum.inl ()))))))))
 else
 some (Sum.inr (Sum.inr (Sum.inr (Sum.inr (Sum.inr (Sum.inr (Sum.inr (Sum.inr ()))))))))
theorem b6v (f242:z4k) (f245:z4l) (f247:x8y):ye (f9s f242 f245 f247) 0 Tryz.f214 .nil q5i w2o (v6q f242 f245 f247):=fun v=>by kernel_rfl
def z2e:x3d:=v6q j6s j6t v5h
theorem f4v:FO 214 (g6l z2e) :=
 q0 (kc w5u (kc w5v (kc f5j kn))) Tryz.func214 (b6v j6s j6t v5h)
abbrev j6i:=List (Int)×Int×Int×Unit→Option (Unit⊕(Int×Unit))
def y6h (f:j6i):LEnt:=⟨k9l,z0h,f⟩
abbrev x9a:=List (Int)×Unit→Option (Int×Unit)
def g7y (f:x9a):FEnt:=⟨y7s,jd,f⟩
def w8x (f245:z4l):=lk [(245,w7f f245)]
theorem v2e:zj Tryz.prog (w8x j6t):=(kc w5v kn)
def z3o (f245:z4l):yq (List (Int)×Int×Int×Unit) (Unit⊕(Int×Unit)):=fun (x0,x1,x2,_) =>
 bif decide (x2<x1) then
 bif decide (0≤x2)&&decide (x2<(↑x0.length:Int)) then
 (f245 (x0.getD x2.toNat 0,())).bind fun v =>
 bif v.1 then some (Sum.inr (Sum.inr (x2,())))
 else some (Sum.inl (x0,x1,IntKind.i64.wrap (x2+1),()))
 else none
 else some (Sum.inr (Sum.inl ()))
def j4l:j6i:=qc (z3o j6t) je
theorem k5v:jf 0 (qe (code Tryz.f281) [1,0,1,0,0]) (y6h j4l):=zl1 k9l z0h w8x z3o j6t v2e
def b2u (f281_l0:j6i):Ann:=(.seq .nil (.seq (.seq .nil (.blk (.loop (y6h f281_l0)))) .nil))
def v7r (f245:z4l) (f281_l0:j6i):x9a:=fun (x0,_) =>
 (f281_l0 (x0,(↑x0.length:Int),0,())).bind fun v =>
 Sum.elim (fun v=>some (-1,())) (fun v=>some (v.1,())) v
def x6l:x9a:=v7r j6t j4l
theorem f6k:FO 281 (g7y x6l):=wq y7s jd w8x b2u v7r j6t j4l v2e Tryz.func281 (And.intro k5v trivial)
abbrev x8x:=List (Int)×Unit→Option (Bool×Unit)
def g6x (f:x8x):FEnt:=⟨y7s,qz,f⟩
def f9z (f281:x9a):=lk [(281,g7y f281)]
def v7c (f281:x9a):x8x:=fun (x0,_) =>
 (f281 (x0,())).bind fun v=>some (decide (v.1≥0),())
def v5g:x8x:=v7c x6l
theorem f5h:FO 244 (g6x v5g):=wy y7s qz f9z v7c x6l (kc f6k kn) Tryz.func244
abbrev x3k:=qq×qu×qv×List (Int)×Int×Unit→Option (Bool×Unit)
def g6w (f:x3k):FEnt:=⟨vv,qz,f⟩
def f9y (f244:x8x):=lk [(244,g6x f244)]
def v7b (f244:x8x):x3k:=fun (x0,x1,x2,x3,x4,_) =>
 (f244 (x3,())).bind fun v=>some (bif v.1 then false else true,())
def x1n:x3k:=v7b v5g
theorem f5g:FO 243 (g6w x1n):=wy vv qz f9y v7b v5g (kc f5h kn) Tryz.func243
abbrev q4t:=List (Int)×Int×Int×Unit→Option (Unit⊕(Int×Unit))
def z0b (f:q4t):LEnt:=⟨k9m,z0h,f⟩
abbrev j7l:=List (Int)×Unit→Option (Int×Unit)
def x7f (f:j7l):FEnt:=⟨y7t,jd,f⟩
def y1m (f242:z4k):=lk [(242,w7e f242)]
theorem z8v:zj Tryz.prog (y1m j6s):=(kc w5u kn)
def j1w (f242:z4k):yq (List (Int)×Int×Int×Unit) (Unit⊕(Int×Unit)):=fun (x0,x1,x2,_) =>
 bif decide (x2<x1) then
 bif decide (0≤x2)&&decide (x2<(↑x0.length:Int)) then
 (f242 (x0.getD x2.toNat 0,())).bind fun v =>
 bif v.1 then some (Sum.inr (Sum.inr (x2,())))
 else some (Sum.inl (x0,x1,IntKind.i64.wrap (x2+1),()))
 else none
 else some (Sum.inr (Sum.inl ()))
def q3n:q4t:=qc (j1w j6s) je
theorem x5g:jf 0 (qe (code Tryz.f281) [1,0,1,0,0]) (z0b q3n):=zl1 k9m z0h y1m j1w j6s z8v
def w9m (f281v1_l0:q4t):Ann:=(.seq .nil (.seq (.seq .nil (.blk (.loop (z0b f281v1_l0)))) .nil))
def z3p (f242:z4k) (f281v1_l0:q4t):j7l:=fun (x0,_) =>
 (f281v1_l0 (x0,(↑x0.length:Int),0,())).bind fun v =>
 Sum.elim (fun v=>some (-1,())) (fun v=>some (v.1,())) v
def j6w:j7l:=z3p j6s q3n
theorem k7m:FO 281 (x7f j6w):=wq y7t jd y1m w9m z3p j6s q3n z8v Tryz.func281 (And.intro x5g trivial)
abbrev j7h:=List (Int)×Unit→Option (Bool×Unit)
def x6z (f:j7h):FEnt:=⟨y7t,qz,f⟩
def w8q (f281v1:j7l):=lk [(281,x7f f281v1)]
def z3h (f281v1:j7l):j7h:=fun (x0,_) =>
 (f281v1 (x0,())).bind fun v=>some (decide (v.1≥0),())
def z2k:j7h:=z3h j6w
theorem k7j:FO 244 (x6z z2k):=wy y7t qz w8q z3h j6w (kc k7m kn) Tryz.func244
abbrev x3l:=qq×qu×qv×List (Int)×Int×Unit→Option (Bool×Unit)
def g6y (f:x3l):FEnt:=⟨vv,qz,f⟩
def b0a (f244v1:j7h):=lk [(244,x6z f244v1)]
def v7e (f244v1:j7h):x3l:=fun (x0,x1,x2,x3,x4,_) =>
 (f244v1 (x3,())).bind fun v=>some (bif v.1 then false else true,())
def x1o:x3l:=v7e z2k
theorem f5i:FO 246 (g6y x1o):=wy vv qz b0a v7e z2k (kc k7j kn) Tryz.func246
abbrev j0a:=qq×qu×qv×List (Int)×Int×Int×Unit→Option (Int×Unit)
def x1y (f:j0a):FEnt:=⟨y7u,z7c,f⟩
def v8i:j0a:=fun (x0,x1,x2,x3,x4,x5,_) =>
 bif decide (IntKind.i64.wrap (x4+x5)<0) then some (-1,())
 else
 bif decide (IntKind.i64.wrap (x4+x5)≥(↑x3.length:Int)) then some (-1,())
 else
 bif decide (0≤IntKind.i64.wrap (x4+x5))&&decide (IntKind.i64.wrap (x4+x5)<(↑x3.length:Int)) then
 some (x3.getD ((IntKind.i64.wrap (x4+x5)).toNat) 0,())
 else none
def q0n:j0a:=v8i
theorem z9n:FO 304 (x1y q0n):=zq0 y7u z7c vf v8i kn Tryz.func304
abbrev z7o:=qq×qu×qv×List (Int)×Int×Unit→Option (Bool×Unit)
def w7k (f:z7o):FEnt:=⟨vv,qz,f⟩
def b0r (f276:q1h) (f304:j0a):=lk [(276,x7d f276),(304,x1y f304)]
def v7s (f276:q1h) (f304:j0a):z7o:=fun (x0,x1,x2,x3,x4,_) =>
 (f304 (x0,x1,x2,x3,x4,-1,())).bind fun v =>
 (f276 (x0,x1,x2,v.1,())).bind fun v=>some (v.1==9,())
def z2m:z7o:=v7s xc q0n
theorem w5z:FO 282 (w7k z2m):=zq2 vv qz b0r v7s xc q0n (kc x0k (kc z9n kn)) Tryz.func282
abbrev x4k:=qq×qu×qv×Int×Unit→Option (Int×Unit)
def g8v (f:x4k):FEnt:=⟨Li0,jd,f⟩
def b1a (f248:j7j):=lk [(248,x7b f248)]
def v8n (f248:j7j):x4k:=fun (x0,x1,x2,x3,_) =>
 (f248 (x0,x1,x2,x3,())).bind fun v=>some (v.2.2.2.2.1,())
def z6y:x4k:=v8n q7o
theorem f7i:FO 313 (g8v z6y):=wy Li0 jd b1a v8n q7o (kc x0j kn) Tryz.func313
abbrev j6l:=Int×Int×qq×qu×qv×List (Int)×Int×Unit→Option (Unit⊕(Int×Unit))
def y6t (f:j6l):LEnt:=⟨k9n,w2p,f⟩
abbrev x9f:=qq×qu×qv×List (Int)×Int×Int×Unit→Option (Int×Unit)
def g8q (f:x9f):FEnt:=⟨y7u,jd,f⟩
def w9a (f304:j0a) (f313:x4k):=lk [(304,x1y f304),(313,g8v f313)]
theorem v2h:zj Tryz.prog (w9a q0n z6y):=(kc z9n (kc f7i kn))
def z3x (f304:j0a) (f313:x4k):yq (Int×Int×qq×qu×qv×List (Int)×Int×Unit) (Unit⊕(Int×Unit)):=fun (x0,x1,x2,x3,x4,x5,x6,_) =>
 (f304 (x2,x3,x4,x5,x6,x1,())).bind fun v =>
 bif decide (v.1≥0) then
 (f304 (x2,x3,x4,x5,x6,x1,())).bind fun v =>
 (f313 (x2,x3,x4,v.1,())).bind fun v =>
 bif v.1 != 3 then some (Sum.inr (Sum.inr (v.1,())))
 else some (Sum.inl (x0,IntKind.i64.wrap (x1+x0),x2,x3,x4,x5,x6,()))
 else some (Sum.inr (Sum.inl ()))
def j4q:j6l:=qc (z3x q0n z6y) je
theorem k6h:jf 0 (qe (code Tryz.f305) [1,0,1,0,0]) (y6t j4q):=zl2 k9n w2p w9a z3x q0n z6y v2h
def b3c (f305_l0:j6l):Ann:=(.seq .nil (.seq (.seq .nil (.blk (.loop (y6t f305_l0)))) .nil))
def v8j (f304:j0a) (f313:x4k) (f305_l0:j6l):x9f:=fun (x0,x1,x2,x3,x4,x5,_) =>
 (f305_l0 (x5,x5,x0,x1,x2,x3,x4,())).bind fun v =>
 Sum.elim (fun v=>some (0,())) (fun v=>some (v.1,())) v
def x6q:x9f:=v8j q0n z6y j4q
theorem f7c:FO 305 (g8q x6q):=j3g y7u jd w9a b3c v8j q0n z6y j4q v2h Tryz.func305 (And.intro k6h trivial)
abbrev x4c:=qq×qu×qv×List (Int)×Int×Unit→Option (Bool×Unit)
def g7z (f:x4c):FEnt:=⟨vv,qz,f⟩
def b0s (f282:z7o) (f305:x9f):=lk [(282,w7k f282),(305,g8q f305)]
def v7t (f282:z7o) (f305:x9f):x4c:=fun (x0,x1,x2,x3,x4,_) =>
 (f305 (x0,x1,x2,x3,x4,1,())).bind fun v =>
 (f282 (x0,x1,x2,x3,x4,())).bind fun v1 =>
 bif v1.1 then some (true,())
 else
 (f305 (x0,x1,x2,x3,x4,-1,())).bind fun v2 =>
 bif v2.1==1 then bif v.1==1 then some (true,()) else some (v.1==2,())
 else some (false,())
def x1s:x4c:=v7t z2m x6q
theorem f6l:FO 283 (g7z x1s):=zq2 vv qz b0s v7t z2m x6q (kc w5z (kc f7c kn)) Tryz.func283
abbrev x4d:=qq×qu×qv×List (Int)×Int×Unit→Option (Bool×Unit)
def g8a (f:x4d):FEnt:=⟨vv,qz,f⟩
def b0t (f304:j0a):=lk [(304,x1y f304)]
def v7u (f304:j0a):x4d:=fun (x0,x1,x2,x3,x4,_) =>
 (f304 (x0,x1,x2,x3,x4,-1,())).bind fun v =>
 bif v.1==108 then (f304 (x0,x1,x2,x3,x4,1,())).bind fun v=>some (v.1==108,())
 else some (false,())
def x1t:x4d:=v7u q0n
theorem f6m:FO 284 (g8a x1t):=wy vv qz b0t v7u q0n (kc z9n kn) Tryz.func284
abbrev j9p:=qq×qu×qv×Int×Unit→Option (Int×Unit)
def v5q (f:j9p):FEnt:=⟨Li0,jd,f⟩
def b0y (f248:j7j):=lk [(248,x7b f248)]
def v8k (f248:j7j):j9p:=fun (x0,x1,x2,x3,_) =>
 (f248 (x0,x1,x2,x3,())).bind fun v=>some (v.2.2.2.2.2.1,())
def j6y:j9p:=v8k q7o
theorem v3v:FO 306 (v5q j6y):=wy Li0 jd b0y v8k q7o (kc x0j kn) Tryz.func306
abbrev x4e:=qq×qu×qv×List (Int)×Int×Unit→Option (Bool×Unit)
def g8b (f:x4e):FEnt:=⟨vv,qz,f⟩
def b0u (f304:j0a) (f306:j9p):=lk [(304,x1y f304),(306,v5q f306)]
def v7v (f304:j0a) (f306:j9p):x4e:=fun (x0,x1,x2,x3,x4,_) =>
 (f304 (x0,x1,x2,x3,x4,1,())).bind fun v =>
 (f306 (x0,x1,x2,v.1,())).bind fun v=>some (v.1==2,())
def x1u:x4e:=v7v q0n j6y
theorem f6n:FO 285 (g8b x1u):=zq2 vv qz b0u v7v q0n j6y (kc z9n (kc v3v kn)) Tryz.func285
abbrev x4f:=qq×qu×qv×List (Int)×Int×Unit→Option (Bool×Unit)
def g8c (f:x4f):FEnt:=⟨vv,qz,f⟩
def b0v (f304:j0a) (f306:j9p):=lk [(304,x1y f304),(306,v5q f306)]
def v7w (f304:j0a) (f306:j9p):x4f:=fun (x0,x1,x2,x3,x4,_) =>
 (f304 (x0,x1,x2,x3,x4,-1,())).bind fun v =>
 (f306 (x0,x1,x2,v.1,())).bind fun v=>some (v.1==4,())
def x1v:x4f:=v7w q0n j6y
theorem f6o:FO 286 (g8c x1v):=zq2 vv qz b0v v7w q0n j6y (kc z9n (kc v3v kn)) Tryz.func286
abbrev y1v:=Int×qq×qu×qv×List (Int)×Int×Unit→Option (Bool×qq×qu×qv×List (Int)×Int×Unit)
def g8r (f:y1v):FEnt:=⟨k9o,y8i,f⟩
def b0z (f306:j9p):=lk [(306,v5q f306)]
def v8l (f306:j9p):y1v:=fun (x0,x1,x2,x3,x4,x5,_) =>
 (f306 (x1,x2,x3,x0,())).bind fun v =>
 bif v.1==7 then some (true,x1,x2,x3,x4,x5,())
 else some (v.1==8,x1,x2,x3,x4,x5,())
theorem b7v (f306:j9p):ye (b0z f306) 1 Tryz.f307 .nil k9o y8i (v8l f306):=fun v=>by kernel_rfl
def z6x:y1v:=v8l j6y
theorem f7d:FO 307 (g8r z6x) :=
 q0 (kc v3v kn) Tryz.func307 (b7v j6y)
abbrev q0o:=List (Int)×Int×Int×qq×qu×qv×List (Int)×Int×Unit→Option ((qq×qu×qv×List (Int)×Int×Unit)⊕(Int×qq×qu×qv×List (Int)×Int×Unit))
def z0c (f:q0o):LEnt:=⟨k9p,w2r,f⟩
abbrev j2b:=List (Int)×qq×qu×qv×List (Int)×Int×Unit→Option (Int×qq×qu×qv×List (Int)×Int×Unit)
def x7g (f:j2b):FEnt:=⟨y7v,w2q,f⟩
def y1n (f307:y1v):=lk [(307,g8r f307)]
theorem z8w:zj Tryz.prog (y1n z6x):=(kc f7d kn)
def j1x (f307:y1v):yq (List (Int)×Int×Int×qq×qu×qv×List (Int)×Int×Unit) ((qq×qu×qv×List (Int)×Int×Unit)⊕(Int×qq×qu×qv×List (Int)×Int×Unit)):=fun (x0,x1,x2,x3,x4,x5,x6,x7,_) =>
 bif decide (x2<x1) then
 bif decide (0≤x2)&&decide (x2<(↑x0.length:Int)) then
 (f307 (x0.getD x2.toNat 0,x3,x4,x5,x6,x7,())).bind fun v =>
 bif v.1 then
 some
 (Sum.inr
 (Sum.inr
 (x2,v.2.1,v.2.2.1,v.2.2.2.1,v.2.2.2.2.1,
 v.2.2.2.2.2.1,())))
 else
 some
 (Sum.inl
 (x0,x1,IntKind.i64.wrap (x2+1),v.2.1,v.2.2.1,v.2.2.2.1,
 v.2.2.2.2.1,v.2.2.2.2.2.1,()))
 else none
 else some (Sum.inr (Sum.inl (x3,x4,x5,x6,x7,())))
def q3o:q0o:=qc (j1x z6x) je
theorem x5h:jf 1 (qe (code Tryz.f281) [1,0,1,0,0]) (z0c q3o):=zl1 k9p w2r y1n j1x z6x z8w
def w9n (f281v2_l0:q0o):Ann:=(.seq .nil (.seq (.seq .nil (.blk (.loop (z0c f281v2_l0)))) .nil))
def z3q (f307:y1v) (f281v2_l0:q0o):j2b:=fun (x0,x1,x2,x3,x4,x5,_) =>
 (f281v2_l0 (x0,(↑x0.length:Int),0,x1,x2,x3,x4,x5,())).bind fun v =>
 Sum.elim
 (fun v =>
 some (-1,v.1,v.2.1,v.2.2.1,v.2.2.2.1,v.2.2.2.2.1,()))
 (fun v =>
 some
 (v.1,v.2.1,v.2.2.1,v.2.2.2.1,v.2.2.2.2.1,
 v.2.2.2.2.2.1,()))
 v
theorem g2j (f307:y1v) (f281v2_l0:q0o):ye (y1n f307) 1 Tryz.f281 (w9n f281v2_l0) y7v w2q (z3q f307 f281v2_l0):=fun v=>by kernel_rfl
def j6x:j2b:=z3q z6x q3o
theorem k7n:FO 281 (x7g j6x) :=
 qo z8w Tryz.func281 (And.intro x5h trivial) (g2j z6x q3o)
abbrev j7i:=List (Int)×qq×qu×qv×List (Int)×Int×Unit→Option (Bool×qq×qu×qv×List (Int)×Int×Unit)
def x7a (f:j7i):FEnt:=⟨y7v,y8i,f⟩
def w8r (f281v2:j2b):=lk [(281,x7g f281v2)]
def z3i (f281v2:j2b):j7i:=fun (x0,x1,x2,x3,x4,x5,_) =>
 (f281v2 (x0,x1,x2,x3,x4,x5,())).bind fun v =>
 some
 (decide (v.1≥0),v.2.1,v.2.2.1,v.2.2.2.1,v.2.2.2.2.1,
 v.2.2.2.2.2.1,())
theorem g2h (f281v2:j2b):ye (w8r f281v2) 1 Tryz.f244 .nil y7v y8i (z3i f281v2):=fun v=>by kernel_rfl
def z2l:j7i:=z3i j6x
theorem k7k:FO 244 (x7a z2l) :=
 q0 (kc k7n kn) Tryz.func244 (g2h j6x)
abbrev x4g:=qq×qu×qv×List (Int)×Int×Unit→Option (Bool×Unit)
def g8d (f:x4g):FEnt:=⟨vv,qz,f⟩
def b0w (f244v2:j7i):=lk [(244,x7a f244v2)]
def v7x (f244v2:j7i):x4g:=fun (x0,x1,x2,x3,x4,_) =>
 (f244v2 (x3,x0,x1,x2,x3,x4,())).bind fun v=>some (v.1,())
def x1w:x4g:=v7x z2l
theorem f6p:FO 287 (g8d x1w):=wy vv qz b0w v7x z2l (kc k7k kn) Tryz.func287
abbrev z4d:=qq×qu×qv×List (Int)×Int×Unit→Option (Int×Unit)
def w6v (f:z4d):FEnt:=⟨k9q,jd,f⟩
def f9l (f214:x3d) (f243:x3k) (f246:x3l) (f282:z7o) (f283:x4c) (f284:x4d) (f285:x4e) (f286:x4f) (f287:x4g):=lk [(214,g6l f214),(243,g6w f243),(246,g6y f246),(282,w7k f282),(283,g7z f283),(284,g8a f284),(285,g8b f285),(286,g8c f286),(287,g8d f287)]
def x2d (f214:x3d) (f243:x3k) (f246:x3l) (f282:z7o) (f283:x4c) (f284:x4d) (f285:x4e) (f286:x4f) (f287:x4g):z4d:=fun (x0,x1,x2,x3,x4,_) =>
 bif decide (x4<0) then some (0,())
 else
 bif decide (x4≥(↑x3.length:Int)) then some (0,())
 else
 bif decide (0≤x4)&&decide (x4<(↑x3.length:Int)) then
 (f214 (x3.getD x4.toNat 0,())).bind fun v =>
 Sum.elim
 (fun v =>
 (f243 (x0,x1,x2,x3,x4,())).bind fun v =>
 bif v.1 then some (1,()) else some (2,()))
 (fun v =>
 Sum.elim
 (fun v =>
 (f246 (x0,x1,x2,x3,x4,())).bind fun v =>
 bif v.1 then some (1,()) else some (2,()))
 (fun v =>
 Sum.elim
 (fun v =>
 (f282 (x0,x1,x2,x3,x4,())).bind fun v =>
 bif v.1 then some (1,()) else some (2,()))
 (fun v =>
 Sum.elim
 (fun v =>
 (f283 (x0,x1,x2,x3,x4,())).bind fun v =>
 bif v.1 then some (1,()) else some (2,()))
 (fun v =>
 Sum.elim
 (fun v =>
 (f284 (x0,x1,x2,x3,x4,())).bind fun v =>
 bif v.1 then some (1,()) else some (2,()))
 (fun v =>
 Sum.elim
 (fun v =>
 (f285 (x0,x1,x2,x3,x4,())).bind fun v =>
 bif v.1 then some (1,()) else some (2,()))
 (fun v =>
 Sum.elim
 (fun v =>
 (f286 (x0,x1,x2,x3,x4,())).bind fun v =>
 bif v.1 then some (1,()) else some (2,()))
 (fun v =>
 Sum.elim
 (fun v =>
 (f287 (x0,x1,x2,x3,x4,())).bind fun v =>
 bif v.1 then some (1,()) else some (2,()))
 (fun v=>some (0,())) v)
 v)
 v)
 v)
 v)
 v)
 v)
 v
 else none
theorem b6s (f214:x3d) (f243:x3k) (f246:x3l) (f282:z7o) (f283:x4c) (f284:x4d) (f285:x4e) (f286:x4f) (f287:x4g):ye (f9l f214 f243 f246 f282 f283 f284 f285 f286 f287) 0 Tryz.f183 .nil k9q jd (x2d f214 f243 f246 f282 f283 f284 f285 f286 f287):=fun v=>by kernel_rfl
def j3i:z4d:=x2d z2e x1n x1o z2m x1s x1t x1u x1v x1w
theorem w5m:FO 183 (w6v j3i) :=
 q0 (kc f4v (kc f5g (kc f5i (kc w5z (kc f6l (kc f6m (kc f6n (kc f6o (kc f6p kn))))))))) Tryz.func183 (b6s z2e x1n x1o z2m x1s x1t x1u x1v x1w)
abbrev z4h:=qq×qu×qv×Int×Unit→Option (Bool×Unit)
def w7a (f:z4h):FEnt:=⟨Li0,qz,f⟩
def f9u (f215:j7g) (f216:q9b):=lk [(215,v5p f215),(216,x6x f216)]
def v6s (f215:j7g) (f216:q9b):z4h:=fun (x0,x1,x2,x3,_) =>
 (f216 (x0,x1,x2,x3,())).bind fun v =>
 bif v.2.2.2.2.2.1 then
 bif v.2.2.2.1 then some (false,())
 else
 bif v.2.2.2.2.1 then some (false,())
 else
 (f215 (x0,x1,x2,x3,())).bind fun v =>
 bif v.1==2 then some (true,())
 else
 bif v.1==3 then some (true,())
 else
 bif v.1==4 then some (true,())
 else bif v.1==5 then some (true,()) else some (x3==45,())
 else
 (f215 (x0,x1,x2,x3,())).bind fun v =>
 bif v.1==2 then some (true,())
 else
 bif v.1==3 then some (true,())
 else
 bif v.1==4 then some (true,())
 else bif v.1==5 then some (true,()) else some (x3==45,())
def q2e:z4h:=v6s j3k zl
theorem w5r:FO 217 (w7a q2e):=zq2 Li0 qz f9u v6s j3k zl (kc v3s (kc x0i kn)) Tryz.func217
abbrev j6h:=List (Int)×List (Int)×Int×Int×qq×qu×qv×Unit→Option (Unit⊕(Bool×Unit))
def y6a (f:j6h):LEnt:=⟨k9r,w2s,f⟩
abbrev x3s:=qq×qu×qv×List (Int)×Unit→Option (Bool×Unit)
def g7j (f:x3s):FEnt:=⟨Li9,qz,f⟩
def w8u (f183:z4d) (f217:z4h):=lk [(183,w6v f183),(217,w7a f217)]
theorem v2b:zj Tryz.prog (w8u j3i q2e):=(kc w5m (kc w5r kn))
def j5j (f183:z4d) (f217:z4h):yq (List (Int)×List (Int)×Int×Int×qq×qu×qv×Unit) (Unit⊕(Bool×Unit)):=fun (x0,x1,x2,x3,x4,x5,x6,_) =>
 bif decide (x3<x2) then
 bif decide (0≤x3)&&decide (x3<(↑x1.length:Int)) then
 (f183 (x4,x5,x6,x0,x3,())).bind fun v =>
 bif v.1==2 then some (Sum.inr (Sum.inr (true,())))
 else
 bif v.1==0 then
 (f217 (x4,x5,x6,x1.getD x3.toNat 0,())).bind fun v =>
 bif !v.1 then some (Sum.inr (Sum.inr (true,())))
 else some (Sum.inl (x0,x1,x2,IntKind.i64.wrap (x3+1),x4,x5,x6,()))
 else some (Sum.inl (x0,x1,x2,IntKind.i64.wrap (x3+1),x4,x5,x6,()))
 else none
 else some (Sum.inr (Sum.inl ()))
def q7r:j6h:=qc (j5j j3i q2e) je
theorem k5o:jf 0 (qe (code Tryz.f261) [1,0,1,0,0]) (y6a q7r):=zl2 k9r w2s w8u j5j j3i q2e v2b
def b2p (f261_l0:j6h):Ann:=(.seq .nil (.seq (.seq .nil (.blk (.loop (y6a f261_l0)))) .nil))
def x2i (f183:z4d) (f217:z4h) (f261_l0:j6h):x3s:=fun (x0,x1,x2,x3,_) =>
 (f261_l0 (x3,x3,(↑x3.length:Int),0,x0,x1,x2,())).bind fun v =>
 Sum.elim (fun v=>some (false,())) (fun v=>some (v.1,())) v
def x1q:x3s:=x2i j3i q2e q7r
theorem f5t:FO 261 (g7j x1q):=j3g Li9 qz w8u b2p x2i j3i q2e q7r v2b Tryz.func261 (And.intro k5o trivial)
abbrev x3r:=qq×qu×qv×List (Int)×Unit→Option (Bool×qq×qu×qv×List (Int)×Unit)
def g7i (f:x3r):FEnt:=⟨z0d,j2t,f⟩
def b0i (f261:x3s):=lk [(261,g7j f261)]
def x8f (f261:x3s):x3r:=fun (x0,x1,x2,x3,_) =>
 (f261 (x0,x1,x2,x3,())).bind fun v=>some (v.1,x0,x1,x2,x3,())
theorem b7f (f261:x3s):ye (b0i f261) 2 Tryz.f260 .nil z0d j2t (x8f f261):=fun v=>by kernel_rfl
def x1p:x3r:=x8f x1q
theorem f5s:FO 260 (g7i x1p) :=
 q0 (kc f5t kn) Tryz.func260 (b7f x1q)
abbrev j5z:=List (Int)×Int×Int×qq×qu×qv×List (Int)×List (Int)×Unit→Option (List (Int)×List (Int)×Unit)
def y5c (f:j5z):LEnt:=⟨k9s,w2u,f⟩
abbrev j3u:=qq×qu×qv×List (Int)×Unit→Option (Int×Int×Int×Int×Int×Int×Int×Int×Unit)
def w6w (f:j3u):FEnt:=⟨Li9,w2t,f⟩
def w8j (f218:z7l):=lk [(218,w7b f218)]
theorem v1t:zj Tryz.prog (w8j q5y):=(kc v3t kn)
def z3c (f218:z7l):yq (List (Int)×Int×Int×qq×qu×qv×List (Int)×List (Int)×Unit) (List (Int)×List (Int)×Unit):=fun (x0,x1,x2,x3,x4,x5,x6,x7,_) =>
 bif decide (x2<x1) then
 bif decide (0≤x2)&&decide (x2<(↑x0.length:Int)) then
 (f218 (x3,x4,x5,x0.getD x2.toNat 0,())).bind fun v =>
 bif decide (x7.length=8) then
 bif decide (0≤v.1)&&decide (v.1<(↑8:Int)) then
 bif decide (Int.toNat v.1<x7.length) then
 bif decide (x7.length=8) then
 bif decide (0≤v.1)&&decide (v.1<(↑8:Int)) then
 bif decide (Int.toNat v.1<x7.length) then
 some
 (Sum.inl
 (x0,x1,IntKind.i64.wrap (x2+1),x3,x4,x5,x6,
 x7.set (Int.toNat v.1)
 (IntKind.i64.wrap (x7.getD (Int.toNat v.1) 0+1)),
 ()))
 else none
 else none
 else none
 else none
 else none
 else none
 else none
 else some (Sum.inr (x6,x7,()))
def j4e:j5z:=qc (z3c q5y) je
theorem k4q:jf 0 (qe (code Tryz.f185) [1,1,0,1,0,0]) (y5c j4e):=zl1 k9s w2u w8j z3c q5y v1t
def b1y (f185_l0:j5z):Ann:=(.seq .nil (.seq .nil (.seq (.seq .nil (.blk (.loop (y5c f185_l0)))) .nil)))
def v6k (f218:z7l) (f185_l0:j5z):j3u:=fun (x0,x1,x2,x3,_) =>
 (f185_l0 (x3,(↑x3.length:Int),0,x0,x1,x2,[0,0,0,0,0,0,0,0],[0,0,0,0,0,0,0,0],())).bind
 fun v =>
 bif decide (List.length v.2.1=8) then
 bif decide (List.length v.1=8) then
 some
 (v.2.1.getD 0 0,v.2.1.getD 1 0,v.2.1.getD 2 0,
 v.2.1.getD 3 0,v.2.1.getD 4 0,v.2.1.getD 5 0,
 v.2.1.getD 6 0,v.2.1.getD 7 0,())
 else none
 else none
def q7h:j3u:=v6k q5y j4e
theorem w5n:FO 185 (w6w q7h):=wq Li9 w2t w8j b1y v6k q5y j4e v1t Tryz.func185 (And.intro k4q trivial)
abbrev q5j:=qq×qu×qv×List (Int)×Unit→Option (Bool×Unit)
def v5k (f:q5j):FEnt:=⟨Li9,qz,f⟩
def f8z (f185:j3u):=lk [(185,w6w f185)]
def v6c (f185:j3u):q5j:=fun (x0,x1,x2,x3,_) =>
 (f185 (x0,x1,x2,x3,())).bind fun v =>
 some
 (decide
 (IntKind.i64.wrap
 (IntKind.i64.wrap
 ([v.1,v.2.1,v.2.2.1,v.2.2.2.1,v.2.2.2.2.1,
 v.2.2.2.2.2.1,v.2.2.2.2.2.2.1,
 v.2.2.2.2.2.2.2.1].getD
 2 0 +
 [v.1,v.2.1,v.2.2.1,v.2.2.2.1,v.2.2.2.2.1,
 v.2.2.2.2.2.1,v.2.2.2.2.2.2.1,
 v.2.2.2.2.2.2.2.1].getD
 3 0) +
 [v.1,v.2.1,v.2.2.1,v.2.2.2.1,v.2.2.2.2.1,
 v.2.2.2.2.2.1,v.2.2.2.2.2.2.1,
 v.2.2.2.2.2.2.2.1].getD
 5 0) >
 0),
 ())
def q5w:q5j:=v6c q7h
theorem v3n:FO 153 (v5k q5w):=wy Li9 qz f8z v6c q7h (kc w5n kn) Tryz.func153
abbrev j9m:=qq×qu×qv×List (Int)×Unit→Option (Int×Unit)
def g6d (f:j9m):FEnt:=⟨Li9,jd,f⟩
def f9m (f218:z7l):=lk [(218,w7b f218)]
def v6l (f218:z7l):j9m:=fun (x0,x1,x2,x3,_) =>
 bif (↑x3.length:Int)==0 then some (0,())
 else
 bif decide (0<(↑x3.length:Int)) then
 (f218 (x0,x1,x2,x3.getD 0 0,())).bind fun v =>
 bif v.1==2 then some (2,())
 else
 bif v.1==3 then some (2,())
 else bif v.1==1 then some (v.1,()) else some (0,())
 else none
def j6r:j9m:=v6l q5y
theorem f4n:FO 187 (g6d j6r):=wy Li9 jd f9m v6l q5y (kc v3t kn) Tryz.func187
abbrev q4j:=Bool×Bool×List (Int)×Unit→Option (Bool×Unit)
def y4v (f:q4j):LEnt:=⟨k9t,y8j,f⟩
abbrev q4k:=Int×Bool×List (Int)×Unit→Option (Bool×Unit)
def y4w (f:q4k):LEnt:=⟨k9u,y8j,f⟩
abbrev z4c:=qq×qu×qv×List (Int)×Unit→Option (Bool×Unit)
def w6s (f:z4c):FEnt:=⟨Li9,qz,f⟩
def v8x (f153:q5j) (f185:j3u) (f186:z4e) (f187:j9m):=lk [(153,v5k f153),(185,w6w f185),(186,g6c f186),(187,g6d f187)]
theorem y2t:zj Tryz.prog (v8x q5w q7h j3j j6r):=(kc v3n (kc w5n (kc f4m (kc f4n kn))))
def j4s (f153:q5j) (f185:j3u) (f186:z4e) (f187:j9m):q4j:=fun (x0,x1,x2,_) =>
 bif decide (x2.length=8) then
 bif decide (Int.toNat 1<x2.length) then
 bif x2.getD 1 0==0 then
 bif x1 then some (bif x0 then false else true,()) else some (false,())
 else some (false,())
 else none
 else none
theorem k2c (f153:q5j) (f185:j3u) (f186:z4e) (f187:j9m):AqC (v8x f153 f185 f186 f187) 0 (qe (code Tryz.f154) [1,1,0,1,0,1,0,1,1]) .nil k9t y8j (j4s f153 f185 f186 f187):=fun v=>by kernel_rfl
def q7e:q4j:=j4s q5w q7h j3j j6r
theorem k4j:zp 0 (qe (code Tryz.f154) [1,1,0,1,0,1,0,1,1]) (y4v q7e) :=
 frc y2t (k2c q5w q7h j3j j6r)
def k0e (f154_c0:q4j):Ann:=(.cut .nil (y4v f154_c0))
def j4t (f153:q5j) (f185:j3u) (f186:z4e) (f187:j9m) (f154_c0:q4j):q4k:=fun (x0,x1,x2,_) =>
 bif x0==2 then (f154_c0 (x1,true,x2,())).bind fun v=>some (v.1,())
 else
 bif x0==3 then (f154_c0 (x1,true,x2,())).bind fun v=>some (v.1,())
 else
 bif x0==4 then (f154_c0 (x1,true,x2,())).bind fun v=>some (v.1,())
 else (f154_c0 (x1,x0==5,x2,())).bind fun v=>some (v.1,())
theorem k2d (f153:q5j) (f185:j3u) (f186:z4e) (f187:j9m) (f154_c0:q4j):AqC (v8x f153 f185 f186 f187) 0 (qe (code Tryz.f154) [1,1,0,1,0,1,0,1]) (k0e f154_c0) k9u y8j (j4t f153 f185 f186 f187 f154_c0):=fun v=>by kernel_rfl
def j4c:q4k:=j4t q5w q7h j3j j6r q7e
theorem k4k:zp 0 (qe (code Tryz.f154) [1,1,0,1,0,1,0,1]) (y4w j4c) :=
 frd y2t (And.intro k4j trivial) (k2d q5w q7h j3j j6r q7e)
def b1t (f154_c1:q4k):Ann:=(.seq .nil (.seq .nil (.seq (.seq .nil (.blk (.seq .nil (.cond (.cut .nil (y4w f154_c1)) .nil)))) .nil)))
def w7n (f153:q5j) (f185:j3u) (f186:z4e) (f187:j9m) (f154_c1:q4k):z4c:=fun (x0,x1,x2,x3,_) =>
 (f185 (x0,x1,x2,x3,())).bind fun v =>
 (f186 (x0,x1,x2,x3,())).bind fun v1 =>
 (f187 (x0,x1,x2,x3,())).bind fun v2 =>
 bif v2.1==2 then
 bif
 decide
 ([v.1,v.2.1,v.2.2.1,v.2.2.2.1,v.2.2.2.2.1,
 v.2.2.2.2.2.1,v.2.2.2.2.2.2.1,
 v.2.2.2.2.2.2.2.1].getD
 4 0 >
 0) then
 (f154_c1
 (v1.1,
 decide
 ([v.1,v.2.1,v.2.2.1,v.2.2.2.1,v.2.2.2.2.1,
 v.2.2.2.2.2.1,v.2.2.2.2.2.2.1,
 v.2.2.2.2.2.2.2.1].getD
 5 0 >
 0),
 [v.1,v.2.1,v.2.2.1,v.2.2.2.1,v.2.2.2.2.1,
 v.2.2.2.2.2.1,v.2.2.2.2.2.2.1,v.2.2.2.2.2.2.2.1],
 ())).bind
 fun v=>some (v.1,())
 else
 (f154_c1
 (v1.1,false,
 [v.1,v.2.1,v.2.2.1,v.2.2.2.1,v.2.2.2.2.1,
 v.2.2.2.2.2.1,v.2.2.2.2.2.2.1,v.2.2.2.2.2.2.2.1],
 ())).bind
 fun v=>some (v.1,())
 else
 bif v2.1==1 then
 (f153 (x0,x1,x2,x3,())).bind fun v =>
 bif !v.1 then bif v1.1==1 then some (true,()) else some (v1.1==4,())
 else some (false,())
 else some ((↑x3.length:Int)==0,())
theorem b6q (f153:q5j) (f185:j3u) (f186:z4e) (f187:j9m) (f154_c1:q4k):ye (v8x f153 f185 f186 f187) 0 Tryz.f154 (b1t f154_c1) Li9 qz (w7n f153 f185 f186 f187 f154_c1):=fun v=>by kernel_rfl
def y0q:z4c:=w7n q5w q7h j3j j6r j4c
theorem w5j:FO 154 (w6s y0q) :=
 qo y2t Tryz.func154 (And.intro k4k trivial) (b6q q5w q7h j3j j6r j4c)
abbrev x3t:=qq×qu×qv×List (Int)×Unit→Option (Bool×qq×qu×qv×List (Int)×Unit)
def g7k (f:x3t):FEnt:=⟨z0d,j2t,f⟩
def b0j (f153:q5j) (f154:z4c):=lk [(153,v5k f153),(154,w6s f154)]
def w7s (f153:q5j) (f154:z4c):x3t:=fun (x0,x1,x2,x3,_) =>
 (f153 (x0,x1,x2,x3,())).bind fun v =>
 bif v.1 then
 (f154 (x0,x1,x2,x3,())).bind fun v=>some (bif v.1 then false else true,x0,x1,x2,x3,())
 else some (false,x0,x1,x2,x3,())
theorem b7g (f153:q5j) (f154:z4c):ye (b0j f153 f154) 2 Tryz.f262 .nil z0d j2t (w7s f153 f154):=fun v=>by kernel_rfl
def x6h:x3t:=w7s q5w y0q
theorem f5u:FO 262 (g7k x6h) :=
 q0 (kc v3n (kc w5j kn)) Tryz.func262 (b7g q5w y0q)
abbrev x3u:=List (Int)×qa×Bool×Unit→Option (Bool×List (Int)×qa×Bool×Unit)
def g7l (f:x3u):FEnt:=⟨k9v,w2v,f⟩
def b0k (f223:z4j):=lk [(223,w7c f223)]
def w7t (f223:z4j):x3u:=fun (x0,x1,x2,_) =>
 (f223 (x0,())).bind fun v=>some (bif v.2.1 then false else true,x0,v.1,v.2.1,())
theorem b7h (f223:z4j):ye (b0k f223) 3 Tryz.f263 .nil k9v w2v (w7t f223):=fun v=>by kernel_rfl
def x6i:x3u:=w7t x1l
theorem f5v:FO 263 (g7l x6i) :=
 q0 (kc w5s kn) Tryz.func263 (b7h x1l)
abbrev x3v:=qa×Unit→Option (Bool×qa×Unit)
def g7m (f:x3v):FEnt:=⟨q1w,q1y,f⟩
def w7u:x3v:=fun (x0,_) =>
 some (decide (IntKind.i64.wrap (4+(↑x0.length:Int))>63),x0,())
theorem b7i:ye vf 1 Tryz.f264 .nil q1w q1y (w7u):=fun v=>by kernel_rfl
def x6j:x3v:=w7u
theorem f5w:FO 264 (g7m x6j) :=
 q0 kn Tryz.func264 (b7i)
abbrev x8z:=Int×Int×Int×Int×Int×Int×Int×Int×Int×qa×qq×qu×qv×List (Int)×qa×Bool×Unit→Option (Int×Int×Int×Int×Int×Int×Int×Int×Int×Int×qa×qq×qu×qv×List (Int)×qa×Bool×Unit)
def g7c (f:x8z):FEnt:=⟨k9w,w2w,f⟩
def b0c (f254:x3m) (f255:x3n) (f257:x3p) (f259:x3q) (f260:x3r) (f262:x3t) (f263:x3u) (f264:x3v):=lk [(254,g7d f254),(255,g7e f255),(257,g7g f257),(259,g7h f259),(260,g7i f260),(262,g7k f262),(263,g7l f263),(264,g7m f264)]
def b2o:Ann:=(.seq .nil (.seq (.seq .nil (.blk (.unroll 10 .nil))) .nil))
def x8d (f254:x3m) (f255:x3n) (f257:x3p) (f259:x3q) (f260:x3r) (f262:x3t) (f263:x3u) (f264:x3v):x8z:=fun (x0,x1,x2,x3,x4,x5,x6,x7,x8,x9,x10,x11,x12,x13,x14,x15,_) =>
 (f254 (x8,())).bind fun v =>
 bif v.1 then some (x0,x0,x1,x2,x3,x4,x5,x6,x7,v.2.1,x9,x10,x11,x12,x13,x14,x15,())
 else
 (f255 (x9,x10,x11,x12,())).bind fun v1 =>
 bif v1.1 then
 some
 (x1,x0,x1,x2,x3,x4,x5,x6,x7,v.2.1,v1.2.1,v1.2.2.1,v1.2.2.2.1,
 v1.2.2.2.2.1,x13,x14,x15,())
 else
 (f257 (v1.2.1,())).bind fun v2 =>
 bif v2.1 then
 some
 (x2,x0,x1,x2,x3,x4,x5,x6,x7,v.2.1,v2.2.1,v1.2.2.1,v1.2.2.2.1,
 v1.2.2.2.2.1,x13,x14,x15,())
 else
 (f259 (v1.2.2.1,v1.2.2.2.1,v1.2.2.2.2.1,x13,())).bind fun v3 =>
 bif v3.1 then
 some
 (x3,x0,x1,x2,x3,x4,x5,x6,x7,v.2.1,v2.2.1,v3.2.1,v3.2.2.1,
 v3.2.2.2.1,v3.2.2.2.2.1,x14,x15,())
 else
 (f260 (v3.2.1,v3.2.2.1,v3.2.2.2.1,v3.2.2.2.2.1,())).bind
 fun v4 =>
 bif v4.1 then
 some
 (x4,x0,x1,x2,x3,x4,x5,x6,x7,v.2.1,v2.2.1,v4.2.1,v4.2.2.1,
 v4.2.2.2.1,v4.2.2.2.2.1,x14,x15,())
 else
 (f262 (v4.2.1,v4.2.2.1,v4.2.2.2.1,v4.2.2.2.2.1,())).bind
 fun v5 =>
 bif v5.1 then
 some
 (x5,x0,x1,x2,x3,x4,x5,x6,x7,v.2.1,v2.2.1,v5.2.1,
 v5.2.2.1,v5.2.2.2.1,v5.2.2.2.2.1,x14,x15,())
 else
 (f263 (v5.2.2.2.2.1,x14,x15,())).bind fun v6 =>
 bif v6.1 then
 some
 (x6,x0,x1,x2,x3,x4,x5,x6,x7,v.2.1,v2.2.1,v5.2.1,
 v5.2.2.1,v5.2.2.2.1,v6.2.1,v6.2.2.1,
 v6.2.2.2.1,())
 else
 (f264 (v6.2.2.1,())).bind fun v7 =>
 bif v7.1 then
 some
 (x7,x0,x1,x2,x3,x4,x5,x6,x7,v.2.1,v2.2.1,v5.2.1,
 v5.2.2.1,v5.2.2.2.1,v6.2.1,v7.2.1,
 v6.2.2.2.1,())
 else
 some
 (0,x0,x1,x2,x3,x4,x5,x6,x7,v.2.1,v2.2.1,v5.2.1,
 v5.2.2.1,v5.2.2.2.1,v6.2.1,v7.2.1,
 v6.2.2.2.1,())
theorem k2t (f254:x3m) (f255:x3n) (f257:x3p) (f259:x3q) (f260:x3r) (f262:x3t) (f263:x3u) (f264:x3v):ye (b0c f254 f255 f257 f259 f260 f262 f263 f264) 7 Tryz.f253 b2o k9w w2w (x8d f254 f255 f257 f259 f260 f262 f263 f264):=fun v=>by kernel_rfl
def z6t:x8z:=x8d x6f z6u y0x y0z x1p x6h x6i x6j
theorem f5m:FO 253 (g7c z6t) :=
 qo (kc f5n (kc f5o (kc f5q (kc f5r (kc f5s (kc f5u (kc f5v (kc f5w kn)))))))) Tryz.func253 trivial (k2t x6f z6u y0x y0z x1p x6h x6i x6j)
abbrev x3e:=qq×qu×qv×qa×Unit→Option (Int×Unit)
def g6m (f:x3e):FEnt:=⟨xk,jd,f⟩
def f9w (f253:x8z) (f83:T83):=lk [(253,g7c f253),(83,E83 f83)]
def x8c (f253:x8z) (f83:T83):x3e:=fun (x0,x1,x2,x3,_) =>
 (f83 (x3,())).bind fun v =>
 (f253 (7,4,11,10,8,9,12,5,v.2.1,x3,x0,x1,x2,v.1,[],false,())).bind fun v =>
 some (v.1,())
def z2g:x3e:=x8c z6t C83
theorem f4w:FO 224 (g6m z2g):=zq2 xk jd f9w x8c z6t C83 (kc f5m (kc z9o kn)) Tryz.func224
abbrev x3w:=qa×Unit→Option (Bool×qa×Unit)
def g7n (f:x3w):FEnt:=⟨q1w,q1y,f⟩
def g9l:x3w:=fun (x0,_) =>
 some (x0==[],x0,())
theorem b7j:ye vf 1 Tryz.f265 .nil q1w q1y (g9l):=fun v=>by kernel_rfl
def w6k:x3w:=g9l
theorem f5x:FO 265 (g7n w6k) :=
 q0 kn Tryz.func265 (b7j)
abbrev x3x:=qa×Unit→Option (Bool×qa×Unit)
def g7o (f:x3x):FEnt:=⟨q1w,q1y,f⟩
def g9m:x3x:=fun (x0,_) =>
 some (decide ((↑x0.length:Int)>63),x0,())
theorem b7k:ye vf 1 Tryz.f266 .nil q1w q1y (g9m):=fun v=>by kernel_rfl
def w6l:x3x:=g9m
theorem f5y:FO 266 (g7o w6l) :=
 q0 kn Tryz.func266 (b7k)
abbrev q4r:=Int×Bool×Unit→Option (Bool×Unit)
def y6b (f:q4r):LEnt:=⟨y7w,y8k,f⟩
abbrev q9n:=Int×Bool×Unit→Option (Bool×Unit)
def y6c (f:q9n):LEnt:=⟨y7w,y8k,f⟩
abbrev x3z:=Int×Unit→Option (Bool×Unit)
def g7q (f:x3z):FEnt:=⟨q5i,qz,f⟩
def z3m:q4r:=fun (x0,x1,_) =>
 bif x1 then some (true,())
 else
 bif decide (x0≥48) then bif decide (x0≤57) then some (true,()) else some (x0==45,())
 else some (x0==45,())
def q7s:q4r:=z3m
theorem k5p:zp 0 (qe (code Tryz.f268) [1,0,0,0,1,1,1]) (y6b q7s):=zc0 y7w y8k vf z3m kn
def k0n (f268_c0:q4r):Ann:=(.cond .nil (.cut .nil (y6b f268_c0)))
def z3n (f268_c0:q4r):q9n:=fun (x0,x1,_) =>
 bif x1 then some (true,())
 else
 bif decide (x0≥65) then (f268_c0 (x0,decide (x0≤90),())).bind fun v=>some (v.1,())
 else (f268_c0 (x0,false,())).bind fun v=>some (v.1,())
theorem k2u (f268_c0:q4r):AqC vf 0 (qe (code Tryz.f268) [1,0,0,0,1]) (k0n f268_c0) y7w y8k (z3n f268_c0):=fun v=>by kernel_rfl
def q7t:q9n:=z3n q7s
theorem k5q:zp 0 (qe (code Tryz.f268) [1,0,0,0,1]) (y6c q7t) :=
 frd kn (And.intro k5p trivial) (k2u q7s)
def b2q (f268_c1:q9n):Ann:=(.seq .nil (.seq (.blk (.seq (.cut .nil (y6c f268_c1)) .nil)) .nil))
def w7v (f268_c1:q9n):x3z:=fun (x0,_) =>
 bif decide (x0≥97) then
 (f268_c1 (x0,decide (x0≤122),())).bind fun v =>
 bif v.1 then some (false,()) else some (true,())
 else (f268_c1 (x0,false,())).bind fun v=>bif v.1 then some (false,()) else some (true,())
def j6v:x3z:=w7v q7t
theorem f6a:FO 268 (g7q j6v):=q5v q5i qz vf b2q w7v q7t kn Tryz.func268 (And.intro k5q trivial)
abbrev j5x:=Bool×(qa×Int)×Unit→Option ((Int×Unit)⊕Unit)
def y4x (f:j5x):LEnt:=⟨k9y,y8l,f⟩
abbrev x8p:=qa×Bool×Unit→Option (Int×Unit)
def g5u (f:x8p):FEnt:=⟨k9x,jd,f⟩
def w8g (f268:x3z):=lk [(268,g7q f268)]
theorem v1q:zj Tryz.prog (w8g j6v):=(kc f6a kn)
def j4u (f268:x3z):yq (Bool×(qa×Int)×Unit) ((Int×Unit)⊕Unit):=fun (x0,x1,_) =>
 bif decide (Int.toNat x1.2<List.length x1.1) then
 (f268 ((↑(kw x1.1 (Int.toNat x1.2)).1:Int),())).bind fun v =>
 bif v.1==x0 then some (Sum.inr (Sum.inl ((↑(Int.toNat x1.2):Int),())))
 else some (Sum.inl (x0,(x1.1,(↑(Int.toNat x1.2+(kw x1.1 (Int.toNat x1.2)).2):Int)),()))
 else some (Sum.inr (Sum.inr ()))
def z1t:j5x:=qc (j4u j6v) je
theorem k4l:jf 0 (qe (code Tryz.f156) [1,0,1,0,0]) (y4x z1t):=zl1 k9y y8l w8g j4u j6v v1q
def b1u (f156_l0:j5x):Ann:=(.seq .nil (.seq (.seq .nil (.blk (.loop (y4x f156_l0)))) .nil))
def v6d (f268:x3z) (f156_l0:j5x):x8p:=fun (x0,x1,_) =>
 (f156_l0 (x1,(x0,(↑0:Int)),())).bind fun v =>
 Sum.elim (fun v=>some (v.1,())) (fun v=>some (-1,())) v
def y0r:x8p:=v6d j6v z1t
theorem f4b:FO 156 (g5u y0r):=wq k9x jd w8g b1u v6d j6v z1t v1q Tryz.func156 (And.intro k4l trivial)
abbrev x8n:=qa×Unit→Option (Int×Unit)
def g5j (f:x8n):FEnt:=⟨y7x,jd,f⟩
def f8s (f156:x8p):=lk [(156,g5u f156)]
def v5t (f156:x8p):x8n:=fun (x0,_) =>
 (f156 (x0,true,())).bind fun v=>some (v.1,())
def x5z:x8n:=v5t y0r
theorem f3p:FO 123 (g5j x5z):=wy y7x jd f8s v5t y0r (kc f4b kn) Tryz.func123
abbrev T84:=qa×Unit→Option (Bool×Unit)
def E84 (f:T84):FEnt:=⟨y7x,qz,f⟩
def K84 (f123:x8n):=lk [(123,g5j f123)]
def F84 (f123:x8n):T84:=fun (x0,_) =>
 (f123 (x0,())).bind fun v=>some (decide (v.1≥0),())
def C84:T84:=F84 x5z
theorem b8u:FO 84 (E84 C84):=wy y7x qz K84 F84 x5z (kc f3p kn) Tryz.func84
abbrev x3y:=qa×Unit→Option (Bool×qa×Unit)
def g7p (f:x3y):FEnt:=⟨q1w,q1y,f⟩
def b0l (f84:T84):=lk [(84,E84 f84)]
def v7l (f84:T84):x3y:=fun (x0,_) =>
 (f84 (x0,())).bind fun v=>some (v.1,x0,())
theorem b7l (f84:T84):ye (b0l f84) 1 Tryz.f267 .nil q1w q1y (v7l f84):=fun v=>by kernel_rfl
def x6k:x3y:=v7l C84
theorem f5z:FO 267 (g7p x6k) :=
 q0 (kc b8u kn) Tryz.func267 (b7l C84)
abbrev x4a:=qa×Unit→Option (Bool×qa×Unit)
def g7r (f:x4a):FEnt:=⟨q1w,q1y,f⟩
def b0m (f258:z4m):=lk [(258,w7h f258)]
def w7w (f258:z4m):x4a:=fun (x0,_) =>
 (f258 (x0,())).bind fun v=>some (v.1,x0,())
theorem b7m (f258:z4m):ye (b0m f258) 1 Tryz.f269 .nil q1w q1y (w7w f258):=fun v=>by kernel_rfl
def v5i:x4a:=w7w y0y
theorem f6b:FO 269 (g7r v5i) :=
 q0 (kc w5x kn) Tryz.func269 (b7m y0y)
abbrev j7k:=Int×Int×Int×Int×qa×Unit→Option (Int×Int×Int×Int×Int×qa×Unit)
def x7c (f:j7k):FEnt:=⟨k9z,w2x,f⟩
def w8t (f265:x3w) (f266:x3x) (f267:x3y) (f269:x4a):=lk [(265,g7n f265),(266,g7o f266),(267,g7p f267),(269,g7r f269)]
def w9l:Ann:=(.seq .nil (.seq (.seq .nil (.blk (.unroll 6 .nil))) .nil))
def z3l (f265:x3w) (f266:x3x) (f267:x3y) (f269:x4a):j7k:=fun (x0,x1,x2,x3,x4,_) =>
 (f265 (x4,())).bind fun v =>
 bif v.1 then some (x0,x0,x1,x2,x3,v.2.1,())
 else
 (f266 (v.2.1,())).bind fun v =>
 bif v.1 then some (x1,x0,x1,x2,x3,v.2.1,())
 else
 (f267 (v.2.1,())).bind fun v =>
 bif v.1 then some (x2,x0,x1,x2,x3,v.2.1,())
 else
 (f269 (v.2.1,())).bind fun v =>
 bif v.1 then some (x3,x0,x1,x2,x3,v.2.1,())
 else some (0,x0,x1,x2,x3,v.2.1,())
theorem g2i (f265:x3w) (f266:x3x) (f267:x3y) (f269:x4a):ye (w8t f265 f266 f267 f269) 2 Tryz.f253 w9l k9z w2x (z3l f265 f266 f267 f269):=fun v=>by kernel_rfl
def j6u:j7k:=z3l w6k w6l x6k v5i
theorem k7l:FO 253 (x7c j6u) :=
 qo (kc f5x (kc f5y (kc f5z (kc f6b kn)))) Tryz.func253 trivial (g2i w6k w6l x6k v5i)
abbrev x3f:=qa×Unit→Option (Int×Unit)
def g6n (f:x3f):FEnt:=⟨xi,jd,f⟩
def f9x (f253v1:j7k):=lk [(253,x7c f253v1)]
def v6v (f253v1:j7k):x3f:=fun (x0,_) =>
 (f253v1 (13,5,8,11,x0,())).bind fun v=>some (v.1,())
def z6q:x3f:=v6v j6u
theorem f4x:FO 225 (g6n z6q):=wy xi jd f9x v6v j6u (kc k7l kn) Tryz.func225
abbrev j6k:=qa×Int×Int×Unit→Option (Unit⊕(Int×Unit))
def y6k (f:j6k):LEnt:=⟨w0a,z0h,f⟩
abbrev x9d:=qa×Int×Unit→Option (Int×Unit)
def g8i (f:x9d):FEnt:=⟨j9k,jd,f⟩
def j5m:yq (qa×Int×Int×Unit) (Unit⊕(Int×Unit)):=fun (x0,x1,x2,_) =>
 bif decide (x2≥0) then
 bif decide (0≤x2)&&decide (x2<(↑x0.length:Int)) then
 bif (↑(x0.getD x2.toNat 0).toNat:Int)==x1 then some (Sum.inr (Sum.inr (x2,())))
 else some (Sum.inl (x0,x1,IntKind.i64.wrap (x2 - 1),()))
 else none
 else some (Sum.inr (Sum.inl ()))
def z2o:j6k:=qc (j5m) je
theorem k5y:jf 0 (qe (code Tryz.f293) [1,0,1,0,0]) (y6k z2o):=zl0 w0a z0h vf j5m kn
def b2x (f293_l0:j6k):Ann:=(.seq .nil (.seq (.seq .nil (.blk (.loop (y6k f293_l0)))) .nil))
def v8c (f293_l0:j6k):x9d:=fun (x0,x1,_) =>
 (f293_l0 (x0,x1,IntKind.i64.wrap ((↑x0.length:Int) - 1),())).bind fun v =>
 Sum.elim (fun v=>some (-1,())) (fun v=>some (v.1,())) v
def x6o:x9d:=v8c z2o
theorem f6u:FO 293 (g8i x6o):=q5v j9k jd vf b2x v8c z2o kn Tryz.func293 (And.intro k5y trivial)
abbrev j9n:=qa×Int×Unit→Option (Int×Unit)
def g7s (f:j9n):FEnt:=⟨j9k,jd,f⟩
def b0n (f293:x9d):=lk [(293,g8i f293)]
def v7m (f293:x9d):j9n:=fun (x0,x1,_) =>
 (f293 (x0,x1,())).bind fun v=>some (v.1,())
def j3l:j9n:=v7m x6o
theorem f6c:FO 270 (g7s j3l):=wy j9k jd b0n v7m x6o (kc f6u kn) Tryz.func270
abbrev q4u:=Int×Bool×Unit→Option ((Int×Bool×Unit)⊕Unit)
def y6l (f:q4u):LEnt:=⟨w0b,y8m,f⟩
abbrev q9t:=Int×Bool×Unit→Option ((Int×Bool×Unit)⊕Unit)
def y6m (f:q9t):LEnt:=⟨w0c,y8m,f⟩
abbrev z4p:=Int×Unit→Option (Int×Bool×Unit)
def g8j (f:z4p):FEnt:=⟨j3q,y8h,f⟩
def z3s:q4u:=fun (x0,x1,_) =>
 bif x1 then some (Sum.inl (IntKind.i64.wrap (IntKind.u8.wrap (x0 - 65)),true,()))
 else
 bif decide (x0≥97) then
 bif decide (x0≤122) then some (Sum.inl (IntKind.i64.wrap (IntKind.u8.wrap (x0 - 97)),true,()))
 else some (Sum.inr ())
 else some (Sum.inr ())
def q7x:q4u:=z3s
theorem k5z:zp 0 (qe (code Tryz.f294) [1,0,0,1,1,1]) (y6l q7x):=zc0 w0b y8m vf z3s kn
def k0o (f294_c0:q4u):Ann:=(.cond .nil (.cut .nil (y6l f294_c0)))
def z3t (f294_c0:q4u):q9t:=fun (x0,x1,_) =>
 bif x1 then some (Sum.inl (IntKind.i64.wrap (IntKind.i64.wrap (IntKind.u8.wrap (x0 - 48))+26),true,()))
 else
 bif decide (x0≥65) then
 (f294_c0 (x0,decide (x0≤90),())).bind fun v =>
 Sum.elim (fun v=>some (Sum.inl (v.1,v.2.1,()))) (fun v=>some (Sum.inr ())) v
 else
 (f294_c0 (x0,false,())).bind fun v =>
 Sum.elim (fun v=>some (Sum.inl (v.1,v.2.1,()))) (fun v=>some (Sum.inr ())) v
theorem k2y (f294_c0:q4u):AqC vf 0 (qe (code Tryz.f294) [1,0,0,1]) (k0o f294_c0) w0c y8m (z3t f294_c0):=fun v=>by kernel_rfl
def q7y:q9t:=z3t q7x
theorem k6a:zp 0 (qe (code Tryz.f294) [1,0,0,1]) (y6m q7y) :=
 frd kn (And.intro k5z trivial) (k2y q7x)
def b2y (f294_c1:q9t):Ann:=(.seq .nil (.seq (.blk (.cut .nil (y6m f294_c1))) .nil))
def w7y (f294_c1:q9t):z4p:=fun (x0,_) =>
 bif decide (x0≥48) then
 (f294_c1 (x0,decide (x0≤57),())).bind fun v =>
 Sum.elim (fun v=>some (v.1,v.2.1,())) (fun v=>some (0,false,())) v
 else
 (f294_c1 (x0,false,())).bind fun v =>
 Sum.elim (fun v=>some (v.1,v.2.1,())) (fun v=>some (0,false,())) v
def j1t:z4p:=w7y q7y
theorem f6v:FO 294 (g8j j1t):=q5v j3q y8h vf b2y w7y q7y kn Tryz.func294 (And.intro k6a trivial)
abbrev q9p:=qa×Int×Int×Int×Int×Int×Unit→Option (Unit⊕Unit⊕(Int×qa×Unit))
def y6e (f:q9p):LEnt:=⟨w0d,w2z,f⟩
abbrev q9o:=Unit→Option (Int×qa×Unit)
def y6d (f:q9o):LEnt:=⟨z0e,y8n,f⟩
abbrev j9o:=qa×Int×Unit→Option (Int×qa×Unit)
def g7t (f:j9o):FEnt:=⟨y7y,w2y,f⟩
def v9d (f290:q9r) (f294:z4p):=lk [(290,w7l f290),(294,g8j f294)]
theorem y2z:zj Tryz.prog (v9d q2g j1t):=(kc w6a (kc f6v kn))
def j5k (f290:q9r) (f294:z4p):yq (qa×Int×Int×Int×Int×Int×Unit) (Unit⊕Unit⊕(Int×qa×Unit)):=fun (x0,x1,x2,x3,x4,x5,_) =>
 bif decide (x5<x4) then
 bif decide (0≤x5)&&decide (x5<(↑x0.length:Int)) then
 (f294 ((↑(x0.getD x5.toNat 0).toNat:Int),())).bind fun v =>
 bif !v.2.1 then some (Sum.inr (Sum.inr (Sum.inl ())))
 else
 bif decide (x3>2147483647) then some (Sum.inr (Sum.inr (Sum.inl ())))
 else
 bif decide (IntKind.i64.wrap (x2+IntKind.i64.wrap (v.1*x3))>2147483647) then
 some (Sum.inr (Sum.inr (Sum.inl ())))
 else
 (f290 (IntKind.i64.wrap (36*IntKind.i64.wrap (x5+1)),x1,())).bind fun v1 =>
 bif decide (v.1<v1.1) then
 bif
 decide (0≤IntKind.i64.wrap (x5+1)) &&
 decide (IntKind.i64.wrap (x5+1)≤(↑x0.length:Int)) then
 some
 (Sum.inr
 (Sum.inr
 (Sum.inr
 (IntKind.i64.wrap (x2+IntKind.i64.wrap (v.1*x3)),
 List.drop (IntKind.i64.wrap (x5+1)).toNat x0,()))))
 else none
 else
 some
 (Sum.inl
 (x0,x1,IntKind.i64.wrap (x2+IntKind.i64.wrap (v.1*x3)),
 IntKind.i64.wrap (x3*IntKind.i64.wrap (36 - v1.1)),x4,IntKind.i64.wrap (x5+1),
 ()))
 else none
 else some (Sum.inr (Sum.inl ()))
def j4k:q9p:=qc (j5k q2g j1t) je
theorem k5s:jf 0 (qe (code Tryz.f271) [1,0,1,0,1,0,0]) (y6e j4k):=zl2 w0d w2z v9d j5k q2g j1t y2z
def q8e (f290:q9r) (f294:z4p):yq (Unit) (Int×qa×Unit):=fun (_) =>
 some (Sum.inr (-1,[],()))
theorem k2v (f290:q9r) (f294:z4p) (v:HS z0e):aev Γ (v9d f290 f294) 0 ((findLabel (qe (code Tryz.f271) [1,0]) 0).getD .skip) .nil (v4x z0e v) (q0a 0 0 [] z0e y8n)=q8e f290 f294 v:=by kernel_rfl
def j4j:q9o:=qc (q8e q2g j1t) je
theorem k5r:jv Tryz.prog 0 (js Tryz.prog (qe (code Tryz.f271) [1,0]) 0) (y6d j4j) :=
 yb (ins:=z0e) (os:=y8n) (C:=j4j) (q6i (ins:=z0e) (os:=y8n) (n := .nil) (ls:=[]) (F:=q8e q2g j1t) (rest:=((findLabel (qe (code Tryz.f271) [1,0]) 0).getD .skip)) hm hΓ y2z (fun _=>je) (by kernel_rfl) (jm _) j0r (k2v q2g j1t)) rfl
def b2r (f271_g0:q9o) (f271_l0:q9p):Ann:=(.seq .nil (.scope (.seq .nil (.seq (.seq .nil (.blk (.loop (y6e f271_l0)))) .nil)) [(0,(y6d f271_g0))]))
def v7n (f290:q9r) (f294:z4p) (f271_g0:q9o) (f271_l0:q9p):j9o:=fun (x0,x1,_) =>
 (f271_l0 (x0,x1,0,1,(↑x0.length:Int),0,())).bind fun v =>
 Sum.elim (fun v=>some (-1,[],()))
 (fun v =>
 Sum.elim (fun v=>(f271_g0 ()).bind fun v=>some (v.1,v.2.1,()))
 (fun v=>some (v.1,v.2.1,())) v)
 v
theorem b7n (f290:q9r) (f294:z4p) (f271_g0:q9o) (f271_l0:q9p):ye (v9d f290 f294) 0 Tryz.f271 (b2r f271_g0 f271_l0) y7y w2y (v7n f290 f294 f271_g0 f271_l0):=fun v=>by kernel_rfl
def j3m:j9o:=v7n q2g j1t j4j j4k
theorem f6d:FO 271 (g7t j3m) :=
 qo y2z Tryz.func271 (And.intro k5s (And.intro k5r trivial)) (b7n q2g j1t j4j j4k)
abbrev q9f:=qa×Int×Int×Int×Bool×List (Int)×Unit→Option ((List (Int)×Unit)⊕(Bool×Unit))
def y5n (f:q9f):LEnt:=⟨w0e,w3b,f⟩
abbrev q4o:=qa×List (Int)×Unit→Option (Bool×List (Int)×Unit)
def y5m (f:q4o):LEnt:=⟨w0f,w3c,f⟩
abbrev x3g:=qa×Unit→Option (List (Int)×Bool×Unit)
def g6o (f:x3g):FEnt:=⟨xi,w3a,f⟩
def v9a (f155:kr) (f21:T21) (f252:q0k) (f270:j9n) (f271:j9o) (f272:z4n):=lk [(155,v5l f155),(21,E21 f21),(252,w7g f252),(270,g7s f270),(271,g7t f271),(272,w7i f272)]
theorem y2w:zj Tryz.prog (v9a xb C21 wu j3l j3m j1s):=(kc v3o (kc x5l (kc w5w (kc f6c (kc f6d (kc f6e kn))))))
def j5c (f155:kr) (f21:T21) (f252:q0k) (f270:j9n) (f271:j9o) (f272:z4n):yq (qa×Int×Int×Int×Bool×List (Int)×Unit) ((List (Int)×Unit)⊕(Bool×Unit)):=fun (x0,x1,x2,x3,x4,x5,_) =>
 bif !x0==[] then
 (f271 (x0,x3,())).bind fun v =>
 bif decide (v.1<0) then some (Sum.inr (Sum.inr (false,())))
 else
 bif decide (IntKind.i64.wrap (x2+v.1)>2147483647) then some (Sum.inr (Sum.inr (false,())))
 else
 (f252 (v.1,IntKind.i64.wrap ((↑x5.length:Int)+1),x4,())).bind fun v1 =>
 bif IntKind.i64.wrap ((↑x5.length:Int)+1) != 0 then
 bif
 decide
 (IntKind.i64.wrap
 (x1 +
 IntKind.i64.wrap
 ((IntKind.i64.wrap (x2+v.1)).tdiv (IntKind.i64.wrap ((↑x5.length:Int)+1)))) >
 1114111) then
 some (Sum.inr (Sum.inr (false,())))
 else
 (f155
 (IntKind.i32.wrap
 (IntKind.i64.wrap
 (x1 +
 IntKind.i64.wrap
 ((IntKind.i64.wrap (x2+v.1)).tdiv (IntKind.i64.wrap ((↑x5.length:Int)+1))))),
 ())).bind
 fun v2 =>
 bif !v2.1 then some (Sum.inr (Sum.inr (false,())))
 else
 bif IntKind.i64.wrap ((↑x5.length:Int)+1) != 0 then
 (f272
 ((IntKind.i64.wrap (x2+v.1)).tmod (IntKind.i64.wrap ((↑x5.length:Int)+1)),x5,
 [IntKind.i32.wrap
 (IntKind.i64.wrap
 (x1 +
 IntKind.i64.wrap
 ((IntKind.i64.wrap (x2+v.1)).tdiv
 (IntKind.i64.wrap ((↑x5.length:Int)+1)))))],
 ())).bind
 fun v3 =>
 some
 (Sum.inl
 (v.2.1,
 IntKind.i64.wrap
 (x1 +
 IntKind.i64.wrap
 ((IntKind.i64.wrap (x2+v.1)).tdiv (IntKind.i64.wrap ((↑x5.length:Int)+1)))),
 IntKind.i64.wrap
 ((IntKind.i64.wrap (x2+v.1)).tmod (IntKind.i64.wrap ((↑x5.length:Int)+1))+1),
 v1.1,false,v3.1,()))
 else none
 else none
 else some (Sum.inr (Sum.inl (x5,())))
theorem k2n (f155:kr) (f21:T21) (f252:q0k) (f270:j9n) (f271:j9o) (f272:z4n):AqL (v9a f155 f21 f252 f270 f271 f272) 0 (qe (code Tryz.f226) [1,1,1,1,1,0,1,0,0]) .nil w0e w3b (j5c f155 f21 f252 f270 f271 f272):=fun v=>by kernel_rfl
def j4g:q9f:=qc (j5c xb C21 wu j3l j3m j1s) je
theorem k5b:jf 0 (qe (code Tryz.f226) [1,1,1,1,1,0,1,0,0]) (y5n j4g) :=
 frl y2w (k2n xb C21 wu j3l j3m j1s)
def k0j (f226_l0:q9f):Ann:=(.seq .nil (.seq (.seq .nil (.blk (.loop (y5n f226_l0)))) .nil))
def j5b (f155:kr) (f21:T21) (f252:q0k) (f270:j9n) (f271:j9o) (f272:z4n) (f226_l0:q9f):q4o:=fun (x0,x1,_) =>
 (f226_l0 (x0,128,0,72,true,x1,())).bind fun v =>
 Sum.elim (fun v=>some (true,v.1,())) (fun v=>some (v.1,[],())) v
theorem k2m (f155:kr) (f21:T21) (f252:q0k) (f270:j9n) (f271:j9o) (f272:z4n) (f226_l0:q9f):AqC (v9a f155 f21 f252 f270 f271 f272) 0 (qe (code Tryz.f226) [1,1,1,1]) (k0j f226_l0) w0f w3c (j5b f155 f21 f252 f270 f271 f272 f226_l0):=fun v=>by kernel_rfl
def q1d:q4o:=j5b xb C21 wu j3l j3m j1s j4g
theorem k5a:zp 0 (qe (code Tryz.f226) [1,1,1,1]) (y5m q1d) :=
 frd y2w (And.intro k5b trivial) (k2m xb C21 wu j3l j3m j1s j4g)
def b2e (f226_c0:q4o):Ann:=(.seq .nil (.seq .nil (.seq .nil (.cut .nil (y5m f226_c0)))))
def v6w (f155:kr) (f21:T21) (f252:q0k) (f270:j9n) (f271:j9o) (f272:z4n) (f226_c0:q4o):x3g:=fun (x0,_) =>
 (f21 (x0,())).bind fun v =>
 bif decide (v.1≥0) then some ([],false,())
 else
 (f270 (x0,45,())).bind fun v =>
 bif decide (v.1>0) then
 bif decide (0≤v.1)&&decide (v.1≤(↑x0.length:Int)) then
 bif
 decide ((List.take (Int.toNat v.1) x0).length≤70368744177664) &&
 (List.take (Int.toNat v.1) x0).all fun b=>decide (b.toNat<128) then
 bif
 decide (0≤IntKind.i64.wrap (v.1+1)) &&
 decide (IntKind.i64.wrap (v.1+1)≤(↑x0.length:Int)) then
 (f226_c0
 (List.drop (IntKind.i64.wrap (v.1+1)).toNat x0,
 List.map (fun b=>(↑b.toNat:Int)) (List.take (Int.toNat v.1) x0),())).bind
 fun v=>some (v.2.1,v.1,())
 else none
 else none
 else none
 else (f226_c0 (x0,[],())).bind fun v=>some (v.2.1,v.1,())
theorem b6x (f155:kr) (f21:T21) (f252:q0k) (f270:j9n) (f271:j9o) (f272:z4n) (f226_c0:q4o):ye (v9a f155 f21 f252 f270 f271 f272) 0 Tryz.f226 (b2e f226_c0) xi w3a (v6w f155 f21 f252 f270 f271 f272 f226_c0):=fun v=>by kernel_rfl
def y0v:x3g:=v6w xb C21 wu j3l j3m j1s q1d
theorem f4y:FO 226 (g6o y0v) :=
 qo y2w Tryz.func226 (And.intro k5a trivial) (b6x xb C21 wu j3l j3m j1s q1d)
abbrev y1q:=qq×qu×qv×qa×Unit→Option (qa×qa×Int×Unit)
def w6x (f:y1q):FEnt:=⟨xk,w9h,f⟩
def f9n (f132:x2v) (f151:j9l) (f178:j3t) (f21:T21) (f223:z4j) (f224:x3e) (f225:x3f) (f226:x3g) (f83:T83):=lk [(132,g5n f132),(151,w6r f151),(178,v5o f178),(21,E21 f21),(223,w7c f223),(224,g6m f224),(225,g6n f225),(226,g6o f226),(83,E83 f83)]
def v6m (f132:x2v) (f151:j9l) (f178:j3t) (f21:T21) (f223:z4j) (f224:x3e) (f225:x3f) (f226:x3g) (f83:T83):y1q:=fun (x0,x1,x2,x3,_) =>
 (f151 (x0,x1,x2,x3,())).bind fun v =>
 (f132 (v.1,[120,110,45,45],())).bind fun v1 =>
 bif !v.2.1 then some ([],[],7,())
 else
 (f21 (v.1,())).bind fun v2 =>
 bif decide (v2.1≥0) then
 (f83 (v.1,())).bind fun v3 =>
 (f223 (v3.1,())).bind fun v4 =>
 bif decide ([120,110,45,45].length+List.length v4.1≤9223372036854775807) then
 (f224 (x0,x1,x2,v.1,())).bind fun v5 =>
 some ([120,110,45,45]++v4.1,v.1,v5.1,())
 else none
 else
 bif !v1.2.1 then (f225 (v.1,())).bind fun v3=>some (v.1,v.1,v3.1,())
 else
 (f226 (v1.1,())).bind fun v3 =>
 bif !v3.2.1 then some ([],[],12,())
 else
 bif decide ((↑(List.length v.1):Int)>63) then some ([],[],5,())
 else
 (f178 (v3.1,())).bind fun v4 =>
 (f224 (x0,x1,x2,v4.1,())).bind fun v5 =>
 bif v5.1 != 0 then some ([],[],v5.1,())
 else
 (f223 (v3.1,())).bind fun v6 =>
 bif !v6.1==v1.1 then some ([],[],12,())
 else some (v.1,v4.1,0,())
theorem b6t (f132:x2v) (f151:j9l) (f178:j3t) (f21:T21) (f223:z4j) (f224:x3e) (f225:x3f) (f226:x3g) (f83:T83):ye (f9n f132 f151 f178 f21 f223 f224 f225 f226 f83) 0 Tryz.f192 .nil xk w9h (v6m f132 f151 f178 f21 f223 f224 f225 f226 f83):=fun v=>by kernel_rfl
def z1y:y1q:=v6m y0p j1n z1v C21 x1l z2g z6q y0v C83
theorem w5o:FO 192 (w6x z1y) :=
 q0 (kc f3u (kc v3m (kc v3r (kc x5l (kc w5s (kc f4w (kc f4x (kc f4y (kc z9o kn))))))))) Tryz.func192 (b6t y0p j1n z1v C21 x1l z2g z6q y0v C83)
abbrev k0t:=qq×qu×qv×qa×Unit→Option (qa×Int×Unit)
def f8m (f:k0t):FEnt:=⟨xk,q2o,f⟩
def f9a (f192:y1q):=lk [(192,w6x f192)]
def v6e (f192:y1q):k0t:=fun (x0,x1,x2,x3,_) =>
 (f192 (x0,x1,x2,x3,())).bind fun v =>
 bif v.2.2.1 != 0 then some ([],v.2.2.1,()) else some (v.1,0,())
def z1u:k0t:=v6e z1y
theorem f4c:FO 159 (f8m z1u):=wy xk q2o f9a v6e z1y (kc w5o kn) Tryz.func159
abbrev w9r:=qq×qu×qv×qa×Unit→Option (qa×Int×Unit)
def f8n (f:w9r):FEnt:=⟨xk,q2o,f⟩
def f9b (f192:y1q):=lk [(192,w6x f192)]
def w7o (f192:y1q):w9r:=fun (x0,x1,x2,x3,_) =>
 (f192 (x0,x1,x2,x3,())).bind fun v =>
 bif v.2.2.1 != 0 then some ([],v.2.2.1,()) else some (v.2.1,0,())
def y0s:w9r:=w7o z1y
theorem f4d:FO 160 (f8n y0s):=wy xk q2o f9b w7o z1y (kc w5o kn) Tryz.func160
abbrev z7j:=qa×Int×Unit→Option (Int×Unit)
def w6t (f:z7j):FEnt:=⟨j9k,jd,f⟩
def f9c (f196:w9s):=lk [(196,g6g f196)]
def v6g (f196:w9s):z7j:=fun (x0,x1,_) =>
 (f196 (x0,x1,())).bind fun v=>some (v.1,())
def j3h:z7j:=v6g w6j
theorem w5k:FO 162 (w6t j3h):=wy j9k jd f9c v6g w6j (kc f4q kn) Tryz.func162
abbrev q9a:=qa×qa×Int×Bool×Unit→Option (Int×Unit)
def y5g (f:q9a):LEnt:=⟨w0g,w3d,f⟩
abbrev y1r:=qa×qa×Unit→Option (Int×Unit)
def w6z (f:y1r):FEnt:=⟨zx,jd,f⟩
def w8l (f162:z7j):=lk [(162,w6t f162)]
theorem v1v:zj Tryz.prog (w8l j3h):=(kc w5k kn)
def j4y (f162:z7j):q9a:=fun (x0,x1,x2,x3,_) =>
 bif x3 then some (0,())
 else
 bif x2==1 then
 bif decide (0<(↑x1.length:Int)) then
 (f162 (x0,(↑(x1.getD 0 0).toNat:Int),())).bind fun v=>some (v.1,())
 else none
 else bif decide (x2≥(↑x0.length:Int)) then some (-1,()) else none
def q3l:q9a:=j4y j3h
theorem k4u:zp 0 (qe (code Tryz.f197) [1,1,0,0,1]) (y5g q3l):=zc1 w0g w3d w8l j4y j3h v1v
def b2b (f197_c0:q9a):Ann:=(.seq .nil (.seq .nil (.seq (.blk (.cut .nil (y5g f197_c0))) .nil)))
def x8b (f162:z7j) (f197_c0:q9a):y1r:=fun (x0,x1,_) =>
 bif (↑x1.length:Int)==0 then
 (f197_c0 (x0,x1,(↑x1.length:Int),true,())).bind fun v=>some (v.1,())
 else (f197_c0 (x0,x1,(↑x1.length:Int),x1==x0,())).bind fun v=>some (v.1,())
def z2d:y1r:=x8b j3h q3l
theorem w5q:FO 197 (w6z z2d):=wq zx jd w8l b2b x8b j3h q3l v1v Tryz.func197 (And.intro k4u trivial)
abbrev x8r:=qa×qa×Unit→Option (qa×qa×Bool×Unit)
def g5w (f:x8r):FEnt:=⟨zx,y8o,f⟩
def f9d (f197:y1r):=lk [(197,w6z f197)]
def v6h (f197:y1r):x8r:=fun (x0,x1,_) =>
 (f197 (x0,x1,())).bind fun v =>
 bif decide (v.1≥0) then
 bif decide (0≤v.1)&&decide (v.1≤(↑x0.length:Int)) then
 bif
 decide (0≤IntKind.i64.wrap (v.1+(↑x1.length:Int))) &&
 decide (IntKind.i64.wrap (v.1+(↑x1.length:Int))≤(↑x0.length:Int)) then
 some
 (List.take (Int.toNat v.1) x0,List.drop (IntKind.i64.wrap (v.1+(↑x1.length:Int))).toNat x0,true,
 ())
 else none
 else none
 else some (x0,[],false,())
def x6b:x8r:=v6h z2d
theorem f4f:FO 163 (g5w x6b):=wy zx y8o f9d v6h z2d (kc w5q kn) Tryz.func163
abbrev w9q:=qa×qa×Unit→Option (qa×qa×Bool×Unit)
def f8l (f:w9q):FEnt:=⟨zx,y8o,f⟩
def f8v (f163:x8r):=lk [(163,g5w f163)]
def v5w (f163:x8r):w9q:=fun (x0,x1,_) =>
 (f163 (x0,x1,())).bind fun v=>some (v.1,v.2.1,v.2.2.1,())
def z6i:w9q:=v5w x6b
theorem f3t:FO 129 (f8l z6i):=wy zx y8o f8v v5w x6b (kc f4f kn) Tryz.func129
end Go.Proofs.YtiacnhhmkdkpmaaGreatDoorA.W
namespace Go.Proofs.YtiacnhhmkdkpmaaGreatDoorA.W
open Go Go.Ae Go.RowKit
attribute [local go_sem] Oper.semAt_some
theorem v0e {s sep l r:List UInt8} {ok:Bool} (h:z6i (s,sep,())=some (l,r,ok,())) {w:World} (hg:GI w m0) :
 Calls Tryz.prog 129 #[.string ⟨⟨s⟩⟩,.string ⟨⟨sep⟩⟩] w fun e w'=>e = .returned (.tuple #[.string ⟨⟨l⟩⟩,.string ⟨⟨r⟩⟩,.bool ok])∧Below w.heap.size w w':=by
 refine (zf.call0 (v:=(s,sep,())) (y:=(l,r,ok,())) f3t Tryz.func129 (by kernel_rfl) (by kernel_rfl) hg (fun _ h=>h.elim) rfl ⟨_,_,rfl,rfl,_,_,rfl,rfl,rfl⟩ rfl h ?_).mono fun e w' ⟨rv,h1,h2,ax,l',u,h3,h4⟩ => ?_
 · intro ax l' u h3
   cases jh h3;rfl
 · cases jh h3
   obtain ⟨v,r',e1,⟨a,e2,e3⟩,e4⟩:=h4;have e4':r'=[]:=e4;subst e4';cases e1;subst h1 e2;refine ⟨?_,h2⟩;obtain ⟨v1,q1,f1,rfl,v2,q2,f2,rfl,v3,q3,f3,rfl,f4⟩:=e3;have f4':q3=[]:=f4;subst f4' f3 f2;cases a;cases f1;rfl
def vt:Nat→List UInt8→Option (List (List UInt8))
 | 0,_=>none
 | n+1,s=>(z6i (s,[46],())).bind fun a=>bif a.2.2.1 then (vt n a.2.1).map (a.1 :: ·) else some [a.1]
theorem z4z {W W':World} {b:Nat} {t:TypeId} {v:Value} (h:Boxed W b t v) (hk:W'.heap[b]? = W.heap[b]?):Boxed W' b t v:=hk.trans h
set_option maxHeartbeats 4000000 in
theorem x5p (n:Nat) (hn:1≤n) (Bs:Nat) (s:List UInt8) (xs:List (List UInt8)) (N:Nat) (hxs:vt N s=some xs) (w:World) (hb:Boxed w Bs 9 (.string ⟨⟨s⟩⟩)) (hg:GI w m0) (hnb:∀b∈q2m,b≠Bs) :
 x2n Fence.wide n Tryz.prog 222 #[.pointer (some ⟨Bs,0,none⟩)] (fun x:List UInt8 => #[.string ⟨⟨x⟩⟩]) (fun b=>b=Bs∨b∈q2m) Bs xs w:=by
 intro l J Jx W hW hJ hJx hY h0;have hb':Boxed W Bs 9 (.string ⟨⟨s⟩⟩):=(hW.block Bs hb.lt).trans hb;have hg':GI W m0:=zd hg hW;refine callsIn_of_wp Tryz.func222 rfl trivial ?_ rfl;simp only [Tryz.ntmps222,List.size_toArray,List.length_cons,List.length_nil,Nat.reduceAdd,Nat.reduceSub,Array.replicate_succ,Array.replicate_zero,List.push_toArray,List.append_toArray,List.nil_append,List.cons_append]
 gi_wp2
 gi_loopg [] N (fun k wr=>∃(pre t:List (List UInt8)) (rest:List UInt8),xs=pre++t∧vt k rest=some t∧J pre wr∧Boxed wr Bs 9 (.string ⟨⟨rest⟩⟩)∧GI wr m0)
 case atStart=>exact ⟨[],xs,s,rfl,hxs,h0,hb',hg'⟩
 case round =>
  rename_i JJ KK hJJ hKK;obtain ⟨pre,t,rest,hx,hp,hJs,hbx,hgr⟩:=hrel;cases gk with
  | zero=>cases hp
  | succ k =>
   simp only [vt] at hp;obtain ⟨⟨lf,rt,ok,u⟩,hc,hp2⟩:=Option.bind_eq_some_iff.1 hp;simp only at hp2;have hcell:=hbx.cell;have hpre:pre++[lf] <+: xs:=by
    rw [hx];cases ok with
    | true =>
     obtain ⟨t',h1,rfl⟩:=Option.map_eq_some_iff.1 hp2;exact ⟨t',by simp⟩
    | false =>
     have:t=[lf]:=(Option.some.inj hp2).symm;exact ⟨[],by simp [this]⟩
   gi_wp2_with (refine ⟨trivial,?_⟩;gi_at_call 129;refine (callsIn_wide.2 (v0e hc hgr)).mono ?_;rintro e w' ⟨rfl,hbel⟩;obtain ⟨fn,tmps,assign,body,hy,hR⟩:=hY pre lf w' hpre (hJ _ _ _ hJs (Oth.of_below hbel)))
   refine hR.mono ?_;rintro e W3 (⟨rfl,hJ3,hs3,hk3⟩ | ⟨rfl,hJx3⟩)
   · have hbx3:Boxed W3 Bs 9 (.string ⟨⟨rest⟩⟩):=(hk3 Bs (.inl rfl)).trans ((hbel.block Bs hbx.lt).trans hbx)
     have hg3:GI W3 m0:=z5h (zd hgr hbel) hs3 fun b hb=>hk3 b (.inr hb);have hc3:=hbx3.cell;have hf3:=hbx3.frozen;cases ok with
     | true =>
      obtain ⟨t',h1,rfl⟩:=Option.map_eq_some_iff.1 hp2
      gi_wp2
      gi_roundg k
      case rel=>exact ⟨pre++[lf],t',rt,by simp [hx],h1,hJ _ _ _ hJ3 (Oth.set Bs 0 W3 _),Boxed.set _ hbx3,z5h hg3 (by simp) fun b hb=>Below.heap_setCell _ _ _ _ (hnb b hb)⟩
      case measure=>omega
     | false =>
      have ht:t=[lf]:=(Option.some.inj hp2).symm;subst ht
      gi_wp2
      refine bodyPost_ret (results_none rfl _ _ _) rfl ?_;exact ⟨⟨_,rfl⟩,.inl (hx▸hJ3)⟩
   · gi_wp2
     refine bodyPost_ret (results_none rfl _ _ _) rfl ?_;exact ⟨⟨_,rfl⟩,.inr ⟨_,hpre,hJx3⟩⟩
def encS (x:List UInt8):Value := .string ⟨⟨x⟩⟩
theorem q0g {N Bs base:Nat} {A B:World} {e:TypeId} {size k:Nat} {v:Value} {xs:List Value} (hBs:Bs<base) (h:A.ownsRow base e size v k xs) (ho:OthR N Bs A B):B.ownsRow base e size v k xs:=by
 refine ⟨h.1,?_⟩;rcases h.2 with h | ⟨g,cap,cur,e1,h2,h3,h4⟩
 · exact .inl h
 · exact .inr ⟨g,cap,cur,e1,h2,ho.keep g _ h3 (by omega) (.inr rfl),h4⟩
theorem v4g {N Bs:Nat} {W0 A B:World} (hN:W0.heap.size≤N) (h:Oth Bs W0 A) (ho:OthR N Bs A B):Oth Bs W0 B :=
 ⟨ho.os.trans h.os,ho.tape.trans h.tape,ho.output.trans h.output,Nat.le_trans h.size ho.size,fun b hb hne=>by
  have h1:=h.keep b hb hne;obtain ⟨o,h2⟩:∃o,W0.heap[b]? = some o:=⟨_,Array.getElem?_eq_getElem hb⟩
  rw [h2] at h1 ⊢;exact ho.keep b o h1 hne (.inl (by omega))⟩
theorem z8r:(Tryz.prog.info? 9).map (fun i=>(i.zero,i.size,i.bytes))=some (some (.string ⟨#[]⟩),1,16):=by kernel_rfl
set_option maxHeartbeats 4000000 in
theorem z8o (gf:Nat) (hgf:∀args w,(callFunc gf args).run Tryz.prog w = .ok (.enter gf args) w) (Bs:Nat) (xs:List (List UInt8)) (w:World) (hBs:Bs<w.heap.size) (hg:GI w m0) (hlen:xs.length≤1000000000000)
 (hseq:∀W,Below w.heap.size w W→x2n Fence.wide 2 Tryz.prog gf #[.pointer (some ⟨Bs,0,none⟩)] (fun x:List UInt8 => #[Value.string ⟨⟨x⟩⟩]) (fun b=>b=Bs∨b∈q2m) Bs xs W) :
 CallsIn Fence.wide 3 Tryz.prog 221 #[.slice none 0 0,.func (.func gf) #[] #[.pointer (some ⟨Bs,0,none⟩)]] w fun e W' =>
  ∃v,e = .returned v∧W'.ownsRow w.heap.size 9 1 v xs.length (xs.map encS)∧Oth Bs w W':=by
 obtain ⟨i0,hi,hz0,hz1,hz2⟩:=info_parts z8r;refine callsIn_of_wp_marks Tryz.func221 rfl trivial ?_ rfl;simp only [Tryz.ntmps221,List.size_toArray,List.length_cons,List.length_nil,Nat.reduceAdd,Nat.reduceSub,Array.replicate_succ,Array.replicate_zero,List.push_toArray,List.append_toArray,List.nil_append,List.cons_append]
 gi_wp2
 have hB0:Below w.heap.size w (w.alloc (.cells #[.slice none 0 0] 89)):=(Below.refl _ w).alloc (Nat.le_refl _) _;refine yu (F:=Fence.wide) rfl (by omega) (gf:=gf) (lb := #[.pointer (some ⟨Bs,0,none⟩)]) rfl trivial hgf (hseq _ hB0)
  (by rintro b (rfl | hb);· (rw [World.size_alloc];omega)
      · (have:=(hg.b b hb).1;rw [World.size_alloc];omega)) (by rw [World.size_alloc];omega) (fun _=>rfl)
  (fun pre W=>(∃v,Boxed W w.heap.size 89 v∧W.ownsRow w.heap.size 9 1 v pre.length (pre.map encS))∧Oth Bs w W)
  (fun _ _ _=>False)
  (fun s A B hs ho=>by
   obtain ⟨⟨v,h1,h2⟩,h3⟩:=hs;exact ⟨⟨v,xm h1 (by omega) ho,q0g hBs h2 ho⟩,v4g (by rw [World.size_alloc];omega) h3 ho⟩)
  (fun _ _ _ _ hs _=>hs)
  ⟨⟨_,Boxed.new _ _ _,World.ownsRow_nil _ _ _ _⟩,Oth.of_below hB0⟩
  (fun x=>{ tmps := #[.slice none 0 0,.func (.func gf) #[] #[.pointer (some ⟨Bs,0,none⟩)],.pointer (some ⟨w.heap.size,0,none⟩),undef,.slice none 0 0,.string ⟨⟨x⟩⟩,.func (.func gf) #[] #[.pointer (some ⟨Bs,0,none⟩)],.string ⟨⟨x⟩⟩,undef,undef,undef,undef,undef],defers:=[] }) ?assign ?body ?done ?stop
 case assign =>
  intro l x W K hK
  gi_wp2
  exact hK
 case body =>
  rintro l pre x W hsz hpre ⟨⟨v,hv,hrow⟩,hoth⟩;have hc:=hv.cell;have hpl:pre.length<xs.length:=by have:=hpre.length_le;simp at this;omega
  have hsz2:=hoth.size
  gi_wp2_with (gi_at_builtin;refine wpListIn_append_own _ rfl _ _ 89 rfl w.heap.size 9 i0 (.string ⟨#[]⟩) 1 16 Tryz.underlying89 hi hz0 hz1 hz2 rfl (by decide) _ _ _ rfl (hrow.alloc _) ⟨W.heap.size,0,none⟩ 1 1 [.string ⟨⟨x⟩⟩] rfl rfl (cell_one_new _ _ _) (by simp [Value.oneCell']) (by simp only [maxLen];omega) (by omega) (by simp;omega) ?_;intro v' w1 hown' hgrow _;obtain ⟨g',cap',rfl⟩:=ownsRow_succ hown';obtain ⟨hv1,hv2,hr2,hk2,hb2⟩:=hv.appended (by decide) hrow hsz2 (Nat.le_refl _) hown' hgrow;have hc1:=hv1.cell;have hf1:=hv1.frozen)
  exact ⟨hk2.from _,fun b hb=>hb2.block b (by
   rcases hb with rfl | hb
   · exact hBs
   · exact (hg.b b hb).1),⟨_,hv2,by simpa [encS] using hr2⟩,hb2.os.trans hoth.os,hb2.tape.trans hoth.tape,hb2.output.trans hoth.output,Nat.le_trans hoth.size hb2.size,fun b hb hne=>(hb2.block b hb).trans (hoth.keep b hb hne)⟩
 case done =>
  rintro D W hD ⟨⟨v,hv,hrow⟩,hoth⟩ hK;have hc:=hv.cell
  gi_wp2
  refine ⟨by simp,.inl ⟨_,_,rfl,run_takeDeferred hK,?_⟩⟩;have hD':w.heap.size+1≤D:=by rw [World.size_alloc] at hD;exact hD
  exact ⟨_,results_tmp rfl _ _ _,v,rfl,ownsRow_putObj hrow _ hK rfl,hoth.os,hoth.tape,hoth.output,by simpa [World.putObj] using hoth.size,fun b hb hne=>(World.putObj_heap_other (by omega)).trans (hoth.keep b hb hne)⟩
 case stop =>
  rintro D c pre W _ _ h _;exact h.elim
set_option maxHeartbeats 4000000 in
theorem z9z (s:List UInt8) (w:World):Calls Tryz.prog 190 #[.string ⟨⟨s⟩⟩] w fun e w'=>e = .returned (.func (.func 222) #[] #[.pointer (some ⟨w.heap.size,0,none⟩)])∧w'=w.alloc (.cells #[.string ⟨⟨s⟩⟩] 9):=by
 go_enter Tryz.func190,Tryz.ntmps190
 go_wp2
 go_returns
 exact ⟨rfl,rfl⟩
theorem z5e (gf Bs:Nat) (hgf:∀args w,(callFunc gf args).run Tryz.prog w = .ok (.enter gf args) w) (xs:List (List UInt8)) (w:World) (hBs:Bs<w.heap.size) (hg:GI w m0) (hlen:xs.length≤1000000000000)
 (hseq:∀W,Below w.heap.size w W→x2n Fence.wide 2 Tryz.prog gf #[.pointer (some ⟨Bs,0,none⟩)] (fun x:List UInt8 => #[Value.string ⟨⟨x⟩⟩]) (fun b=>b=Bs∨b∈q2m) Bs xs W) :
 Calls Tryz.prog 189 #[.func (.func gf) #[] #[.pointer (some ⟨Bs,0,none⟩)]] w fun e W' =>
  ∃v,e = .returned v∧W'.ownsRow w.heap.size 9 1 v xs.length (xs.map encS)∧Oth Bs w W':=by
 go_enter Tryz.func189,Tryz.ntmps189
 go_wp2_with (go_at_call 221;refine (callsIn_wide.1 (z8o gf hgf Bs xs w hBs hg hlen hseq)).mono ?_;rintro e W' ⟨v,rfl,h1,h2⟩)
 go_returns
 exact ⟨v,rfl,h1,h2⟩
def q0e (f:List UInt8) (ok:Bool):Option (List (List UInt8)×Int) :=
 bif !ok then some ([],7) else bif f.isEmpty then some ([],13) else
 bif decide (f.length≤1000000000) then
  (vt (f.length+2) (Lib.replaceAll f [227,128,130] [46])).bind fun ps=>bif decide (ps.length≤1000000000000) then (bif decide (32<ps.length) then some ([],2) else some (ps,0)) else none
 else none
theorem k6z {w:World} (hg:GI w m0):∃m,w.cell? ⟨2,0,none⟩=some (.int .i64 m):=by first | exact hg.i | exact hg.i.1
theorem z6b (f:List UInt8) (hf:f.length≤1000000000) (w:World) (hg:GI w m0) :
 Calls Tryz.prog 188 #[.string ⟨⟨f⟩⟩,.string ⟨#[227,128,130]⟩,.string ⟨#[46]⟩] w fun e w'=>e = .returned (.string ⟨⟨Lib.replaceAll f [227,128,130] [46]⟩⟩)∧Below w.heap.size w w':=by
 obtain ⟨m,hm⟩:=k6z hg;have hcnt:=Lib.count_le f [227,128,130];refine (Go.Proofs.Any.strings_ReplaceAll Tryz.lays155 Tryz.Builder_Extra_155 ⟨⟨f⟩⟩ ⟨#[227,128,130]⟩ ⟨#[46]⟩ m w ?_ hm ?_ ?_).mono ?_
 · show f.length<_
   omega
 · decide
 · show f.length+Lib.count f [227,128,130]*1≤_
   omega
 · rintro e w' ⟨h1,h2⟩
   exact ⟨h1,h2⟩
theorem x4n {Bs B:Nat} {A W W':World} (h:Below B A W) (hB:B≤W.heap.size) (hBs:B≤Bs) (ho:Oth Bs W W'):Below B A W' :=
 h.trans ⟨ho.os,ho.tape,ho.output,ho.size,fun k hk=>ho.keep k (by omega) (by omega)⟩
theorem q0w {W:World} {base:Nat} {e:TypeId} {v:Value} {n:Nat} {xs:List Value} (h:W.ownsRow base e 1 v n xs):∃a cap,v = .slice a n cap:=by
 rcases h.2 with ⟨h1,h2⟩ | ⟨g,cap,cur,h1,_⟩
 · subst h2;exact ⟨_,_,h1⟩
 · exact ⟨_,_,h1⟩
set_option maxHeartbeats 4000000 in
theorem z8x (v0 v1 v2 v3 v4:Value) (s f:List UInt8) (ok:Bool) (ls:List (List UInt8)) (c:Int) (w:World) (hg:GI w m0) (hC:q0e f ok=some (ls,c))
 (hfold:∀W,Below w.heap.size w W→Calls Tryz.prog 151 #[.agg #[v0,v1,v2,v3,v4],.string ⟨⟨s⟩⟩] W fun e W'=>e = .returned (.tuple #[.string ⟨⟨f⟩⟩,.bool ok])∧Below W.heap.size W W') :
 Calls Tryz.prog 157 #[.agg #[v0,v1,v2,v3,v4],.string ⟨⟨s⟩⟩] w fun e w'=>∃v,e = .returned (.tuple #[v,.int .i64 c])∧Below w.heap.size w w'∧w'.ownsRow w.heap.size 9 1 v ls.length (ls.map encS):=by
 have hW0:Below w.heap.size w (w.alloc (.cells #[v0,v1,v2,v3,v4] 39)):=(Below.refl _ w).alloc (Nat.le_refl _) _;have hF:=hfold _ hW0;clear hfold;cases ok with
 | false =>
  have hC':(([]:List (List UInt8)),(7:Int))=(ls,c):=Option.some.inj hC;cases hC'
  go_enter Tryz.func157,Tryz.ntmps157
  go_wp2_with (go_at_call 151;refine hF.mono ?_;rintro e w1 ⟨rfl,hb1⟩)
  go_returns
  exact ⟨_,rfl,hW0.trans (hb1.mono hW0.size),World.ownsRow_nil _ _ _ _⟩
 | true =>
  cases f with
  | nil =>
   have hC':(([]:List (List UInt8)),(13:Int))=(ls,c):=Option.some.inj hC;cases hC'
   go_enter Tryz.func157,Tryz.ntmps157
   go_wp2_with (go_at_call 151;refine hF.mono ?_;rintro e w1 ⟨rfl,hb1⟩)
   go_returns
   exact ⟨_,rfl,hW0.trans (hb1.mono hW0.size),World.ownsRow_nil _ _ _ _⟩
  | cons f0 f1 =>
   have hC1:(bif decide ((f0::f1).length≤1000000000) then
    (vt ((f0::f1).length+2) (Lib.replaceAll (f0::f1) [227,128,130] [46])).bind fun ps=>bif decide (ps.length≤1000000000000) then (bif decide (32<ps.length) then some (([]:List (List UInt8)),(2:Int)) else some (ps,0)) else none
    else none)=some (ls,c):=hC
   rcases jb hC1 with ⟨hlen,hC2⟩ | ⟨_,hC2⟩
   case inr=>cases hC2
   have hlen':=of_decide_eq_true hlen;obtain ⟨ps,hps,hC3⟩:=Option.bind_eq_some_iff.1 hC2;rcases jb hC3 with ⟨hl2,hC4⟩ | ⟨_,hC4⟩
   case inr=>cases hC4
   have hl2':=of_decide_eq_true hl2;have hcc:∀W:World,GI W m0→Calls Tryz.prog 189 #[.func (.func 222) #[] #[.pointer (some ⟨W.heap.size,0,none⟩)]] (W.alloc (.cells #[.string ⟨⟨Lib.replaceAll (f0::f1) [227,128,130] [46]⟩⟩] 9)) fun e W' =>
    ∃v,e = .returned v∧W'.ownsRow (W.alloc (.cells #[.string ⟨⟨Lib.replaceAll (f0::f1) [227,128,130] [46]⟩⟩] 9)).heap.size 9 1 v ps.length (ps.map encS)∧Oth W.heap.size (W.alloc (.cells #[.string ⟨⟨Lib.replaceAll (f0::f1) [227,128,130] [46]⟩⟩] 9)) W':=fun W hgW=>by
    have hbW:Below W.heap.size W (W.alloc (.cells #[.string ⟨⟨Lib.replaceAll (f0::f1) [227,128,130] [46]⟩⟩] 9)):=(Below.refl _ W).alloc (Nat.le_refl _) _;have hgW':=zd hgW hbW;refine z5e 222 W.heap.size (enters_of Tryz.func222 (by kernel_rfl) rfl) ps _ (by rw [World.size_alloc];omega) hgW' hl2' fun W2 hb2 => ?_;exact x5p 2 (by omega) W.heap.size _ ps _ hps W2 (z4z (Boxed.new _ _ _) (hb2.block _ (by rw [World.size_alloc];omega))) (zd hgW' hb2) fun b hb=>by have:=(hgW.b b hb).1;omega
   have hg1:=fun W hb=>z6b (f0::f1) hlen' W (zd hg hb);generalize Lib.replaceAll (f0::f1) [227,128,130] [46]=r at hps hcc hg1;have za:∀{w1 w2 w4:World} {v:Value},Below (w.alloc (.cells #[v0,v1,v2,v3,v4] 39)).heap.size (w.alloc (.cells #[v0,v1,v2,v3,v4] 39)) w1→Below w1.heap.size w1 w2→w4.ownsRow (w2.alloc (.cells #[.string ⟨⟨r⟩⟩] 9)).heap.size 9 1 v ps.length (ps.map encS)→Oth w2.heap.size (w2.alloc (.cells #[.string ⟨⟨r⟩⟩] 9)) w4→Below w.heap.size w w4∧w4.ownsRow w.heap.size 9 1 v ps.length (ps.map encS):=by
    intro w1 w2 w4 v h1 h2 h3 h4;have b2:Below w.heap.size w w2:=(hW0.trans (h1.mono hW0.size)).trans (h2.mono (by have:=hW0.size;have:=h1.size;omega));have b3:Below w.heap.size w (w2.alloc (.cells #[.string ⟨⟨r⟩⟩] 9)):=b2.alloc b2.size _;refine ⟨x4n b3 b3.size b2.size h4,h3.1,?_⟩;rcases h3.2 with h | ⟨g,cap,cur,e1,e2,e3⟩
    · exact .inl h
    · exact .inr ⟨g,cap,cur,e1,Nat.le_trans b3.size e2,e3⟩
   have Fin:Hid _ := @za;clear za;by_cases h32:32<ps.length
   · rw [decide_eq_true h32,cond_true] at hC4
     have hC':(([]:List (List UInt8)),(2:Int))=(ls,c):=Option.some.inj hC4;cases hC';clear hC hC1 hC2 hC3 hC4
     go_enter Tryz.func157,Tryz.ntmps157
     go_wp2_with (first
      | (go_at_call 151;refine hF.mono ?_;rintro e w1 ⟨rfl,hb1⟩)
      | (go_at_call 188;refine (hg1 _ (hW0.trans (hb1.mono hW0.size))).mono ?_;rintro e w2 ⟨rfl,hb2⟩)
      | (go_at_call 190;refine (z9z r _).mono ?_;rintro e w3 ⟨rfl,rfl⟩)
      | (go_at_call 189;have hgw2:GI w2 m0:=zd (zd (zd hg hW0) hb1) hb2;refine (hcc _ hgw2).mono ?_;rintro e w4 ⟨v,rfl,hrow,hoth⟩;obtain ⟨sa,sc,rfl⟩:=q0w hrow)
      | go_in)
     go_returns
     exact ⟨_,rfl,(Fin.out hb1 hb2 hrow hoth).1,World.ownsRow_nil _ _ _ _⟩
   · rw [decide_eq_false h32,cond_false] at hC4
     have hC':(ps,(0:Int))=(ls,c):=Option.some.inj hC4;cases hC';clear hC hC1 hC2 hC3 hC4
     go_enter Tryz.func157,Tryz.ntmps157
     go_wp2_with (first
      | (go_at_call 151;refine hF.mono ?_;rintro e w1 ⟨rfl,hb1⟩)
      | (go_at_call 188;refine (hg1 _ (hW0.trans (hb1.mono hW0.size))).mono ?_;rintro e w2 ⟨rfl,hb2⟩)
      | (go_at_call 190;refine (z9z r _).mono ?_;rintro e w3 ⟨rfl,rfl⟩)
      | (go_at_call 189;have hgw2:GI w2 m0:=zd (zd (zd hg hW0) hb1) hb2;refine (hcc _ hgw2).mono ?_;rintro e w4 ⟨v,rfl,hrow,hoth⟩;obtain ⟨sa,sc,rfl⟩:=q0w hrow)
      | go_in)
     go_returns
     exact ⟨_,rfl,(Fin.out hb1 hb2 hrow hoth).1,(Fin.out hb1 hb2 hrow hoth).2⟩
set_option maxHeartbeats 4000000 in
theorem y3y (n:Nat) (hn:1≤n) (Bs base:Nat) (v:Value) (xs:List (List UInt8)) (K:Nat→Prop) (w:World) (hb:Boxed w Bs 89 v) (hrow:w.ownsRow base 9 1 v xs.length (xs.map encS)) (hlen:xs.length≤1000000000000) (hKb:K Bs) (hKv:∀b,v.ownBlock=some b→K b) (Bd:Nat) :
 x2n Fence.wide n Tryz.prog 191 #[.pointer (some ⟨Bs,0,none⟩)] (fun x:List UInt8 => #[Value.string ⟨⟨x⟩⟩]) K Bd xs w:=by
 intro l J Jx W hW hJ hJx hY h0;have hb':Boxed W Bs 89 v:=(hW.block Bs hb.lt).trans hb;have hc:=hb'.cell;rcases hrow.2 with ⟨rfl,hn0⟩ | ⟨g,cap,cur,rfl,hg1,hg2,hg3,hg4,hg5,hg6⟩
 · have hx:xs=[]:=List.eq_nil_of_length_eq_zero hn0
   subst hx;refine callsIn_of_wp Tryz.func191 rfl trivial ?_ rfl;simp only [Tryz.ntmps191,List.size_toArray,List.length_cons,List.length_nil,Nat.reduceAdd,Nat.reduceSub,Array.replicate_succ,Array.replicate_zero,List.push_toArray,List.append_toArray,List.nil_append,List.cons_append]
   gi_wp2
   gi_loopw [7] (fun i wr=>i = .int .i64 0∧J [] wr) (fun _ _=>0)
   case atStart=>exact ⟨rfl,h0⟩
   case round =>
    obtain ⟨rfl,hJs⟩:=hrel
    gi_wp2
    go_end0
    exact ⟨⟨_,rfl⟩,.inl hJs⟩
 · have hKg:K g:=hKv g rfl
   have hgW:W.heap[g]? = some (.cells cur 9 (0,0)):=(hW.block g (lt_of_some hg2)).trans hg2;have hcur:∀(k:Nat) x,xs[k]? = some x→cur[k]? = some (.string ⟨⟨x⟩⟩):=fun k x hk=>by
    have hlt:k<xs.length:=(List.getElem?_eq_some_iff.1 hk).1;have h1:(cur.toList.take (xs.length*1))[k]? = some (encS x):=by rw [hg6,List.getElem?_map,hk];rfl
    rw [List.getElem?_take_of_lt (by omega),Array.getElem?_toList] at h1;exact h1
   refine callsIn_of_wp Tryz.func191 rfl trivial ?_ rfl;simp only [Tryz.ntmps191,List.size_toArray,List.length_cons,List.length_nil,Nat.reduceAdd,Nat.reduceSub,Array.replicate_succ,Array.replicate_zero,List.push_toArray,List.append_toArray,List.nil_append,List.cons_append];generalize hN:xs.length=N at *
   gi_wp2
   gi_loopw [7] (fun i wr=>∃k:Nat,i = .int .i64 k∧k≤N∧Hid (J (xs.take k) wr)∧Hid (wr.heap[g]? = some (.cells cur 9 (0,0)))) (fun i _=>N - (intOf i).toNat)
   case atStart=>exact ⟨0,rfl,Nat.zero_le _,h0,hgW⟩
   case round =>
    obtain ⟨k,rfl,hk,hJs,hgr⟩:=hrel;by_cases hlt:k<N
    · obtain ⟨x,hx⟩:∃x,xs[k]? = some x:=⟨_,List.getElem?_eq_getElem (by omega)⟩
      have htk:xs.take (k+1)=xs.take k++[x]:=by rw [List.take_add_one,hx];rfl
      have hpre:xs.take k++[x] <+: xs:=htk▸List.take_prefix _ _;have hcx:wr.cell? ⟨g,k,none⟩=some (.string ⟨⟨x⟩⟩):=by simp only [World.cell?,hgr.out];exact hcur k x hx
      obtain ⟨fn,tmps,assign,body,hy,hR⟩:=hY _ x wr hpre hJs.out;clear hcur
      gi_wp2
      refine hR.mono ?_;rintro e W3 (⟨rfl,hJ3,hs3,hk3⟩ | ⟨rfl,hJx3⟩)
      · have hg3:Hid (W3.heap[g]? = some (.cells cur 9 (0,0))):=(hk3 g hKg).trans hgr.out
        have hJ4:Hid (J (xs.take (k+1)) W3):=by rw [htk];exact hJ3
        gi_wp2
        go_roundw
        case rel=>exact ⟨k+1,by simp,by omega,hJ4,hg3⟩
        case measure=>simp [intOf];omega
      · gi_wp2
        refine bodyPost_ret (results_none rfl _ _ _) rfl ?_;exact ⟨⟨_,rfl⟩,.inr ⟨_,hpre,hJx3⟩⟩
    · obtain rfl:k=N:=by omega
      gi_wp2
      go_end0
      exact ⟨⟨_,rfl⟩,.inl (by have:=hJs.out;rwa [List.take_of_length_le (by omega)] at this)⟩
set_option maxHeartbeats 4000000 in
theorem x5w (a:Option Addr) (n cap:Nat) (w:World):Calls Tryz.prog 158 #[.slice a n cap] w fun e w'=>e = .returned (.func (.func 191) #[] #[.pointer (some ⟨w.heap.size,0,none⟩)])∧w'=w.alloc (.cells #[.slice a n cap] 89):=by
 go_enter Tryz.func158,Tryz.ntmps158
 go_wp2
 go_returns
 exact ⟨rfl,rfl⟩
def K0:qn:=fun f=>Ae.lookA f []
theorem b8b:zj Tryz.prog K0:=y9j _
noncomputable def k1c:Code:=match qe (code Tryz.f124) [1,1,1,1,0,1,0] with | .rangeFunc _ _ _ b=>b | c=>c
noncomputable def z1a:Array Oper:=match qe k1c [0,1,1,1] with | .region _ ops _=>ops | _ => #[]
def t11 (x y:List UInt8):List AV:=[.top,.top,.top,.top,.top,.top,.top,.top,.top,.ptr 2 0,.ptr 3 0,.top,.str x,.top,.str y]++List.replicate 45 .top
def o11 (ps qs:List (List UInt8)):qj:=[[.rowc 9 .str ps],[.rowc 9 .str qs],[.row 0],[.row 1]]
def k7f (ps qs:List (List UInt8)) (x y:List UInt8):qj:=[[],[],[.row 5],[.row 7],[.rowc 9 .str [x]],[.rowc 9 .str (ps++[x])],[.rowc 9 .str [y]],[.rowc 9 .str (qs++[y])]]
theorem r11 (ps qs:List (List UInt8)) (x y:List UInt8):q0c Γ K0 z1a ⟨t11 x y,o11 ps qs⟩ (fun s=>some s.o) =
 bif decide (ps.length+1≤140737488355328/16) then (bif decide (qs.length+1≤140737488355328/16) then some (k7f ps qs x y) else none) else none:=by kernel_rfl
theorem b8c:∀(i:Nat) o,z1a[i]? = some o→∀c,o.op ≠ .defer c:=by
 have h:(z1a.toList.all fun o=>match o.op with | .defer _=>false | _=>true)=true:=by kernel_rfl
 intro i o ho c hc;have:=List.all_eq_true.1 h o (Array.mem_toList_iff.2 (Array.mem_of_getElem? ho));rw [hc] at this;cases this
theorem x0r {w:World} {m:Md} {g:List Value}:∀(av:List AV) (vs:List Value),av.length=vs.length→(∀(i:Nat) v,vs[i]? = some v→qg w m g (av.getD i .top) v)→qd w m g av vs
 | [],[],_,_=>rfl
 | a::av,v::vs,hl,h=>⟨v,vs,rfl,h 0 v rfl,x0r av vs (by simpa using hl) fun i u hu=>h (i+1) u hu⟩
structure Two (base A9 A10:Nat) (W:World) (ps qs:List (List UInt8)):Prop where
 ex:∃va vu t9 t10,Boxed W A9 t9 va∧Boxed W A10 t10 vu∧W.ownsRow base 9 1 va ps.length (ps.map encS)∧W.ownsRow base 9 1 vu qs.length (qs.map encS) ∧
  (∀b,va.ownBlock=some b→b≠A9∧b≠A10∧vu.ownBlock≠some b)∧∀b,vu.ownBlock=some b→b≠A9∧b≠A10
def k0u (A9 A10:Nat) (va vu:Value) (b:Nat):Prop:=b=A9∨b=A10∨va.ownBlock=some b∨vu.ownBlock=some b
theorem y0c {w:World} {m:Md} {l:List (List UInt8)} {xs:List Value} (h:yi w m .str l xs) (hl:xs.length=l.length*1):xs=l.map encS:=by
 apply List.ext_getElem?;intro j;rw [List.getElem?_map];by_cases hj:j<l.length
 · have h1:((xs.drop (j*1)).take 1)=[.string ⟨⟨l[j]⟩⟩]:=h j l[j] (List.getElem?_eq_getElem hj)
   have h2:((xs.drop (j*1)).take 1)[0]? = some (.string ⟨⟨l[j]⟩⟩):=by rw [h1];rfl
   rw [List.getElem?_take_of_lt (by omega),List.getElem?_drop] at h2;simp only [Nat.mul_one,Nat.add_zero] at h2;rw [h2,List.getElem?_eq_getElem hj];rfl
 · rw [List.getElem?_eq_none (by omega),List.getElem?_eq_none (by omega)]
   rfl
theorem v0v {w:World} {m:Md} (l:List (List UInt8)):yi w m .str l (l.map encS):=by
 intro j x hj
 change List UInt8 at x
 change l[j]? = some x at hj
 show ((l.map encS).drop (j*1)).take 1=[.string ⟨⟨x⟩⟩]
 have hlt:=(List.getElem?_eq_some_iff.1 hj).1;have:((l.map encS).drop j)=encS x::(l.map encS).drop (j+1):=by
  rw [←List.map_drop,List.drop_eq_getElem_cons hlt,List.map_cons,List.map_drop];rw [(List.getElem?_eq_some_iff.1 hj).2]
 rw [Nat.mul_one,this];rfl
theorem row_zero {W:World} {base:Nat} {e:TypeId} {size n:Nat} {v:Value} {xs:List Value} (h:W.ownsRow base e size v n xs):W.ownsRow 0 e size v n xs:=by
 refine ⟨h.1,?_⟩;rcases h.2 with h | ⟨g,cap,cur,e1,h2,h3⟩
 · exact .inl h
 · exact .inr ⟨g,cap,cur,e1,Nat.zero_le _,h3⟩
theorem y3o {W:World} {base:Nat} {e:TypeId} {size n:Nat} {v:Value} {xs:List Value} (h:W.ownsRow base e size v n xs):∀b,v.ownBlock=some b→base≤b∧b<W.heap.size∧∃o,W.heap[b]? = some o∧o.isCells=true:=by
 rcases h.2 with ⟨rfl,_⟩ | ⟨g,cap,cur,rfl,h2,h3,_⟩
 · intro b hb;cases hb
 · intro b hb;cases hb;exact ⟨h2,lt_of_some h3,_,h3,rfl⟩
theorem z7z {w:World} {m:Md} {g:List Value} {A:Nat} {t:TypeId} {v:Value} {i:Nat} (h:Boxed w A t v) (hi:g[i]? = some v) (hv:∃ao n c,v = .slice ao n c):RepO w m g (.pointer (some ⟨A,0,none⟩)) [.row i] :=
 ⟨fun _ _ _ e=>(by cases e),fun _ _ e=>(by cases e),fun _=>⟨A,t,_,rfl,h,v,[],rfl,⟨hi,hv⟩,rfl⟩,fun _ _ e=>(by cases e),trivial⟩
theorem y0f {w:World} {m:Md} {g:List Value} {base:Nat} {v:Value} {l:List (List UInt8)} (h:w.ownsRow base 9 1 v l.length (l.map encS)):RepO w m g v [.rowc 9 .str l] :=
 ⟨fun _ _ _ e=>(by cases e;exact ⟨_,row_zero h,v0v l⟩),fun _ _ e=>(by cases e),fun e=>(by cases e),fun _ _ e=>(by cases e),trivial⟩
theorem v4n (l n0:Nat) (ps qs:List (List UInt8)) (x y:List UInt8) (hp:ps.length≤1000000000000) (hq:qs.length≤1000000000000) (tm:List Value) (base R A9 A10:Nat) (hR:base≤R) (W:World) (hg:GI W m0) (hgb:∀b∈q2m,b<base)
 (hne:A9≠A10) (h9:base≤A9) (h10:base≤A10) (h:Two R A9 A10 W ps qs) (hlen:tm.length=60) (hbase:R≤W.heap.size)
 (e9:tm[9]? = some (.pointer (some ⟨A9,0,none⟩))) (e10:tm[10]? = some (.pointer (some ⟨A10,0,none⟩))) (e12:tm[12]? = some (.string ⟨⟨x⟩⟩)) (e14:tm[14]? = some (.string ⟨⟨y⟩⟩)) :
 (Code.region 11 z1a true).wpIn (Fence.wide.inRound l) n0 Tryz.prog (fun e a' w'=>e = .normal∧Two R A9 A10 w' (ps++[x]) (qs++[y])∧w'.os=W.os∧w'.tape=W.tape∧w'.output=W.output∧W.heap.size≤w'.heap.size ∧
  (∀b,b<R→b≠A9→b≠A10→w'.heap[b]? = W.heap[b]?)∧∀(b:Nat) (o:Obj),W.heap[b]? = some o→o.isCells=false→w'.heap[b]? = some o) { tmps:=tm.toArray,defers:=[] } W:=by
 obtain ⟨va,vu,t9,t10,b9,b10,r9,r10,s1,s2⟩:=h.ex;have g1:=y3o r9;have g2:=y3o r10;obtain ⟨sa1,sc1,es1⟩:=q0w r9;obtain ⟨sa2,sc2,es2⟩:=q0w r10;have hmu:∀b,k0u A9 A10 va vu b→base≤b∧b<W.heap.size∧∃o,W.heap[b]? = some o∧o.isCells=true:=by
  rintro b (rfl | rfl | hb | hb)
  · exact ⟨h9,b9.lt,_,b9,rfl⟩
  · exact ⟨h10,b10.lt,_,b10,rfl⟩
  · have:=g1 b hb;exact ⟨by omega,this.2⟩
  · have:=g2 b hb;exact ⟨by omega,this.2⟩
 have hrep:Rep W ⟨k0u A9 A10 va vu,k0u A9 A10 va vu⟩ [va,vu,.pointer (some ⟨A9,0,none⟩),.pointer (some ⟨A10,0,none⟩)] ⟨t11 x y,o11 ps qs⟩ { tmps:=tm.toArray,defers:=[] }:=by
  refine ⟨?_,rfl,?_⟩
  · refine x0r _ _ (by simp [t11,hlen]) fun i v hv => ?_
    have hv':tm[i]? = some v:=hv;have hi:i<60:=hlen▸(List.getElem?_eq_some_iff.1 hv').1;by_cases i9:i=9
    · subst i9;rw [e9] at hv';cases hv';exact ⟨A9,rfl,rfl⟩
    by_cases i10:i=10
    · subst i10;rw [e10] at hv';cases hv';exact ⟨A10,rfl,rfl⟩
    by_cases i12:i=12
    · subst i12;rw [e12] at hv';cases hv';rfl
    by_cases i14:i=14
    · subst i14;rw [e14] at hv';cases hv';rfl
    have ht:(t11 x y).getD i .top = .top:=by
     have hc:i=0∨i=1∨i=2∨i=3∨i=4∨i=5∨i=6∨i=7∨i=8∨i=11∨i=13∨15≤i:=by omega
     rcases hc with rfl | rfl | rfl | rfl | rfl | rfl | rfl | rfl | rfl | rfl | rfl | hc
     iterate 11 rfl
     unfold t11;rw [List.getD_eq_getElem?_getD,List.getElem?_append_right (by simpa using hc),List.getElem?_replicate];split<;>rfl
    rw [ht];trivial
  · refine ⟨⟨hg.i,fun b hb=>⟨(hg.b b hb).1,fun hc => ?_⟩⟩,rfl,?_,fun _ h=>h,fun b hb=>(hmu b hb).2.1,?_,?_⟩
    · have:=(hmu b hc).1;have:=hgb b hb;omega
    · rintro b ⟨i,gi,cs,k1,k2,k3⟩
      match i with
      | 0=>cases k1;cases k2;exact .inr (.inr (.inl k3))
      | 1=>cases k1;cases k2;exact .inr (.inr (.inr k3))
      | 2=>cases k1;cases k2;cases k3;exact .inl rfl
      | 3=>cases k1;cases k2;cases k3;exact .inr (.inl rfl)
      | i+4=>cases k1
    · intro i gi cs k1 k2
      match i with
      | 0=>cases k1;cases k2;exact y0f r9
      | 1=>cases k1;cases k2;exact y0f r10
      | 2=>cases k1;cases k2;exact z7z b9 rfl ⟨_,_,_,es1⟩
      | 3=>cases k1;cases k2;exact z7z b10 rfl ⟨_,_,_,es2⟩
      | i+4=>cases k1
    · intro i j gi gj ci cj b hij k1 k2 k3 k4 k5 k6
      match i,j with
      | 0,0 | 1,1 | 2,2 | 3,3=>exact hij rfl
      | 0,1=>cases k1;cases k2;cases k3;cases k4;exact (s1 b k5).2.2 k6
      | 1,0=>cases k1;cases k2;cases k3;cases k4;exact (s1 b k6).2.2 k5
      | 0,2=>cases k1;cases k2;cases k3;cases k4;cases k6;exact (s1 _ k5).1 rfl
      | 0,3=>cases k1;cases k2;cases k3;cases k4;cases k6;exact (s1 _ k5).2.1 rfl
      | 1,2=>cases k1;cases k2;cases k3;cases k4;cases k6;exact (s2 _ k5).1 rfl
      | 1,3=>cases k1;cases k2;cases k3;cases k4;cases k6;exact (s2 _ k5).2 rfl
      | 2,0=>cases k1;cases k2;cases k3;cases k4;cases k5;exact (s1 _ k6).1 rfl
      | 3,0=>cases k1;cases k2;cases k3;cases k4;cases k5;exact (s1 _ k6).2.1 rfl
      | 2,1=>cases k1;cases k2;cases k3;cases k4;cases k5;exact (s2 _ k6).1 rfl
      | 3,1=>cases k1;cases k2;cases k3;cases k4;cases k5;exact (s2 _ k6).2 rfl
      | 2,3=>cases k1;cases k2;cases k3;cases k4;cases k5;cases k6;exact hne rfl
      | 3,2=>cases k1;cases k2;cases k3;cases k4;cases k5;cases k6;exact hne rfl
      | i+4,_=>cases k1
      | _,j+4=>cases k3
 have hlim:(140737488355328:Nat)/16=8796093022208:=rfl;have hrun:q0c Γ K0 z1a ⟨t11 x y,o11 ps qs⟩ (fun s=>some s.o)=some (k7f ps qs x y):=by
  rw [r11,hlim,decide_eq_true (show ps.length+1≤8796093022208 by omega),decide_eq_true (show qs.length+1≤8796093022208 by omega)];rfl
 refine wpIn_mono (y2e l n0 b8c hm hΓ b8b hrep hrun (Q:=fun a' w'=>Two R A9 A10 w' (ps++[x]) (qs++[y])∧w'.os=W.os∧w'.tape=W.tape∧w'.output=W.output∧W.heap.size≤w'.heap.size ∧
  (∀b,b<R→b≠A9→b≠A10→w'.heap[b]? = W.heap[b]?)∧∀(b:Nat) (o:Obj),W.heap[b]? = some o→o.isCells=false→w'.heap[b]? = some o) ?_) fun e a' w' h=>h
 intro st' a' w' m' g' k1 k2 k3 k4;have ho:st'.o=k7f ps qs x y:=Option.some.inj k1;have hob:=k2.obj;rw [ho] at hob;have q2:g'[2]? = some (.pointer (some ⟨A9,0,none⟩)):=k4 2 _ rfl;have q3:g'[3]? = some (.pointer (some ⟨A10,0,none⟩)):=k4 3 _ rfl;have hlen8:g'.length=8:=hob.len;obtain ⟨v5,q5⟩:∃v,g'[5]? = some v:=⟨_,List.getElem?_eq_getElem (by omega)⟩
 obtain ⟨v7,q7⟩:∃v,g'[7]? = some v:=⟨_,List.getElem?_eq_getElem (by omega)⟩
 obtain ⟨b2,ty2,arr2,z1,z2,z3⟩:=(hob.obj 2 _ [.row 5] q2 rfl).box rfl;obtain ⟨b3,ty3,arr3,y1,y2,y3⟩:=(hob.obj 3 _ [.row 7] q3 rfl).box rfl;cases z1;cases y1;obtain ⟨u5,r5,z4,⟨z5,z6⟩,z7⟩:=z3;obtain ⟨u7,r7,y4,⟨y5,y6⟩,y7⟩:=y3;rw [q5] at z5;rw [q7] at y5;cases z5;cases y5;have z7':r5=[]:=z7;have y7':r7=[]:=y7;subst z7' y7';obtain ⟨xs5,o5,p5⟩:=(hob.obj 5 _ [.rowc 9 .str (ps++[x])] q5 rfl).rowc _ _ _ rfl;obtain ⟨xs7,o7,p7⟩:=(hob.obj 7 _ [.rowc 9 .str (qs++[y])] q7 rfl).rowc _ _ _ rfl;have hx5:=y0c p5 o5.1;have hx7:=y0c p7 o7.1;subst hx5 hx7;have hge:∀(i:Nat) gi cs b,i≠2→i≠3→g'[i]? = some gi→(k7f ps qs x y)[i]? = some cs→blk gi cs=some b→R≤b:=fun i gi cs b n2 n3 c1 c2 c3=>by
  by_cases hlt:b<W.heap.size
  · rcases k3.mutb b hlt (hob.nm b (hob.sub b ⟨i,gi,cs,c1,c2,c3⟩)) with h | h | h | h
    · exact (hob.sep i 2 _ _ _ _ _ n2 c1 c2 q2 rfl c3 (by rw [h];rfl)).elim
    · exact (hob.sep i 3 _ _ _ _ _ n3 c1 c2 q3 rfl c3 (by rw [h];rfl)).elim
    · exact (g1 b h).1
    · exact (g2 b h).1
  · omega
 have hkeep:∀(b:Nat) (o:Obj),W.heap[b]? = some o→¬k0u A9 A10 va vu b→w'.heap[b]? = some o:=fun b o hb hn=>(k3.keep b (lt_of_some hb) hn).trans hb;refine ⟨⟨v5,v7,ty2,ty3,?_,?_,?_,?_,?_,?_⟩,k3.os,k3.tape,k3.output,k3.size,?_,?_⟩
 · have:arr2 = #[v5]:=by cases arr2;simpa using z4
   subst this;exact z2
 · have:arr3 = #[v7]:=by cases arr3;simpa using y4
   subst this;exact y2
 · exact j8r o5 fun b hb=>hge 5 _ _ b (by decide) (by decide) q5 rfl hb
 · exact j8r o7 fun b hb=>hge 7 _ _ b (by decide) (by decide) q7 rfl hb
 · intro b hb
   refine ⟨?_,?_,fun hc => ?_⟩
   · rintro rfl;exact hob.sep 5 2 _ _ _ _ _ (by decide) q5 rfl q2 rfl hb rfl
   · rintro rfl;exact hob.sep 5 3 _ _ _ _ _ (by decide) q5 rfl q3 rfl hb rfl
   · exact hob.sep 5 7 _ _ _ _ _ (by decide) q5 rfl q7 rfl hb hc
 · intro b hb
   refine ⟨?_,?_⟩
   · rintro rfl;exact hob.sep 7 2 _ _ _ _ _ (by decide) q7 rfl q2 rfl hb rfl
   · rintro rfl;exact hob.sep 7 3 _ _ _ _ _ (by decide) q7 rfl q3 rfl hb rfl
 · intro b hb hn9 hn10
   refine k3.keep b (by omega) fun hc => ?_;rcases hc with h | h | h | h
   · exact hn9 h
   · exact hn10 h
   · have:=(g1 b h).1;omega
   · have:=(g2 b h).1;omega
 · intro b o hb hc
   refine hkeep b o hb fun hcc => ?_;obtain ⟨_,_,o',e1,e2⟩:=hmu b hcc;rw [hb] at e1;cases e1;rw [hc] at e2;cases e2
def q1z (A U:List UInt8→Option (List UInt8×Int)):List (List UInt8)→List (List UInt8)→List (List UInt8)→Option (Int×List (List UInt8)×List (List UInt8))
 | [],ps,qs=>some (0,ps,qs)
 | x::xs,ps,qs=>(A x).bind fun a=>bif a.2 != 0 then some (a.2,[],[]) else (U x).bind fun u=>q1z A U xs (ps++[a.1]) (qs++[u.1])
theorem y0k {N Bs R A9 A10:Nat} {W W':World} {ps qs:List (List UInt8)} (h:Two R A9 A10 W ps qs) (h9:A9≠Bs) (h10:A10≠Bs) (hR:Bs<R) (ho:OthR N Bs W W'):Two R A9 A10 W' ps qs:=by
 obtain ⟨va,vu,t9,t10,b9,b10,r9,r10,s1,s2⟩:=h.ex;exact ⟨va,vu,t9,t10,xm b9 h9 ho,xm b10 h10 ho,q0g hR r9 ho,q0g hR r10 ho,s1,s2⟩
theorem v4r {W:World} {base:Nat} {v:Value} {l:List (List UInt8)} (h:W.ownsRow base 9 1 v l.length (l.map encS)):qx W m0 (.lst .str) l [v]:=by
 rcases h.2 with ⟨rfl,h0⟩ | ⟨g,cap,cur,rfl,h2,h3,h4,h5,h6,h7⟩
 · have hl:l=[]:=List.eq_nil_of_length_eq_zero h0
   subst hl;exact ⟨none,0,rfl,Nat.le_refl _,by omega,fun _=>rfl,fun j x hj=>by
    have hj':([]:List (List UInt8))[j]? = some x:=hj;simp at hj'⟩
 · refine ⟨_,cap,rfl,h4,by simp only [maxLen] at h5;omega,fun e=>(by cases e),fun j x hj => ?_⟩
   change List UInt8 at x
   change l[j]? = some x at hj
   refine ⟨g,0,[.string ⟨⟨x⟩⟩],rfl,rfl,rfl,lt_of_some h3,fun hm=>hm,fun i u hu => ?_⟩;have hlt:=(List.getElem?_eq_some_iff.1 hj).1
   match i with
   | i+1=>cases hu
   | 0 =>
    cases hu;have h1:(cur.toList.take (l.length*1))[j]? = some (encS x):=by rw [h7,List.getElem?_map,hj];rfl
    rw [List.getElem?_take_of_lt (by omega),Array.getElem?_toList] at h1;simp only [World.cell?,h3];show cur[0+j*1+0]? = _;rw [show 0+j*1+0=j by omega];exact h1
theorem z0u {W:World} {base:Nat} {v:Value} {l:List (List UInt8)} {r:List UInt8} (h:W.ownsRow base 9 1 v l.length (l.map encS)) (hj:q5q (l,[46],())=some (r,())) (hg:GI W m0) :
 Calls Tryz.prog 73 #[v,.string ⟨#[46]⟩] W fun e W'=>e = .returned (.string ⟨⟨r⟩⟩)∧Below W.heap.size W W':=by
 have hj':C73 (l,[46],())=some (r,()):=hj;refine (zf.call0 (v:=(l,[46],())) (y:=(r,())) b8s Tryz.func73 (by kernel_rfl) (by kernel_rfl) hg (fun _ h=>h.elim) rfl ⟨v,_,rfl,v4r h,_,_,rfl,rfl,rfl⟩ rfl hj' ?_).mono fun e w' ⟨rv,h1,h2,ax,l',u,h3,h4⟩ => ?_
 · intro ax l' u h3
   cases jh h3;rfl
 · cases jh h3
   obtain ⟨v,r',e1,e2,e4⟩:=h4;have e4':r'=[]:=e4;subst e4';cases e1;subst h1 e2;exact ⟨rfl,h2⟩
def z9y (res:Int×List (List UInt8)×List (List UInt8)):Option (List UInt8×List UInt8×Int) :=
 bif res.1 != 0 then some ([],[],res.1) else (q5q (res.2.1,[46],())).bind fun ja=>bif decide (253<ja.1.length) then some ([],[],5) else (q5q (res.2.2,[46],())).bind fun ju=>some (ja.1,ju.1,0)
set_option maxHeartbeats 4000000 in
theorem x4p (v0 v1 v2 v3 v4:Value) (s:List UInt8) (ls:List (List UInt8)) (A U:List UInt8→Option (List UInt8×Int)) (res:Int×List (List UInt8)×List (List UInt8)) (w:World) (hg:GI w m0) (hll:ls.length≤32)
 (hres:q1z A U ls [] []=some res) (oa ou:List UInt8) (oc:Int) (hout:z9y res=some (oa,ou,oc))
 (hlab:∀W,Below w.heap.size w W→Calls Tryz.prog 157 #[.agg #[v0,v1,v2,v3,v4],.string ⟨⟨s⟩⟩] W fun e w'=>∃v,e = .returned (.tuple #[v,.int .i64 0])∧Below W.heap.size W w'∧w'.ownsRow W.heap.size 9 1 v ls.length (ls.map encS))
 (hA:∀x r,A x=some r→∀W,Below w.heap.size w W→Calls Tryz.prog 159 #[.agg #[v0,v1,v2,v3,v4],.string ⟨⟨x⟩⟩] W fun e W'=>e = .returned (.tuple #[.string ⟨⟨r.1⟩⟩,.int .i64 r.2])∧Below W.heap.size W W')
 (hU:∀x r,U x=some r→∀W,Below w.heap.size w W→Calls Tryz.prog 160 #[.agg #[v0,v1,v2,v3,v4],.string ⟨⟨x⟩⟩] W fun e W'=>e = .returned (.tuple #[.string ⟨⟨r.1⟩⟩,.int .i64 r.2])∧Below W.heap.size W W') :
 Calls Tryz.prog 124 #[.agg #[v0,v1,v2,v3,v4],.string ⟨⟨s⟩⟩] w fun e w'=>e = .returned (.tuple #[.string ⟨⟨oa⟩⟩,.string ⟨⟨ou⟩⟩,.int .i64 oc])∧Below w.heap.size w w':=by
 refine (callsIn_wide (n:=3)).1 ?_;refine callsIn_of_wp_marks Tryz.func124 rfl trivial ?_ rfl;simp only [Tryz.ntmps124,List.size_toArray,List.length_cons,List.length_nil,Nat.reduceAdd,Nat.reduceSub,Array.replicate_succ,Array.replicate_zero,List.push_toArray,List.append_toArray,List.nil_append,List.cons_append];have hW0:Below w.heap.size w ((((w.alloc (.cells #[v0,v1,v2,v3,v4] 39)).alloc (.cells #[.string ⟨#[]⟩] 9)).alloc (.cells #[.string ⟨#[]⟩] 9)).alloc (.cells #[.int .i64 0] 44)) :=
  ((((Below.refl _ w).alloc (Nat.le_refl _) _).alloc (by simp) _).alloc (by simp<;>omega) _).alloc (by simp<;>omega) _
 gi_wp2_with (first
  | (refine ⟨trivial,?_⟩;gi_at_call 157;refine (callsIn_wide.2 (hlab _ hW0)).mono ?_;rintro e w1 ⟨lv,rfl,hb1,hrow⟩;obtain ⟨la,lc,rfl⟩:=q0w hrow)
  | (refine ⟨trivial,?_⟩;gi_at_call 158;refine (callsIn_wide.2 (x5w _ _ _ _)).mono ?_;rintro e w2 ⟨rfl,rfl⟩))
 have hb0:Below w.heap.size w w1:=hW0.trans (hb1.mono hW0.size);have hsz1:w.heap.size+4≤w1.heap.size:=by have:=hb1.size;simp at this;omega
 have hT:∀X,Below w1.heap.size w1 X→X.cell? ⟨w.heap.size,0,none⟩=some v0∧X.cell? ⟨w.heap.size,1,none⟩=some v1∧X.cell? ⟨w.heap.size,2,none⟩=some v2∧X.cell? ⟨w.heap.size,3,none⟩=some v3∧X.cell? ⟨w.heap.size,4,none⟩=some v4:=fun X hX=>by
  have h1:X.heap[w.heap.size]? = some (.cells #[v0,v1,v2,v3,v4] 39):=by
   rw [hX.block _ (by omega),hb1.block _ (by simp<;>omega),Below.heap_alloc _ _ _ (by simp<;>omega),Below.heap_alloc _ _ _ (by simp<;>omega),Below.heap_alloc _ _ _ (by simp),heap_alloc_new]
  exact ⟨by rw [qf h1];rfl,by rw [qf h1];rfl,by rw [qf h1];rfl,by rw [qf h1];rfl,by rw [qf h1];rfl⟩
 have hR:∀X,Below w1.heap.size w1 X→Boxed X (w.heap.size+1) 9 (.string ⟨#[]⟩)∧Boxed X (w.heap.size+1+1) 9 (.string ⟨#[]⟩)∧Boxed X (w.heap.size+1+1+1) 44 (.int .i64 0):=fun X hX=>by
  refine ⟨?_,?_,?_⟩
  · show X.heap[_]? = _
    rw [hX.block _ (by omega),hb1.block _ (by simp<;>omega),Below.heap_alloc _ _ _ (by simp<;>omega),Below.heap_alloc _ _ _ (by simp)];have:=heap_alloc_new (w.alloc (.cells #[v0,v1,v2,v3,v4] 39)) (.cells #[.string ⟨#[]⟩] 9)
    rwa [World.size_alloc] at this
  · show X.heap[_]? = _
    rw [hX.block _ (by omega),hb1.block _ (by simp<;>omega),Below.heap_alloc _ _ _ (by simp)];have:=heap_alloc_new ((w.alloc (.cells #[v0,v1,v2,v3,v4] 39)).alloc (.cells #[.string ⟨#[]⟩] 9)) (.cells #[.string ⟨#[]⟩] 9)
    rwa [World.size_alloc,World.size_alloc] at this
  · show X.heap[_]? = _
    rw [hX.block _ (by omega),hb1.block _ (by simp)];have:=heap_alloc_new (((w.alloc (.cells #[v0,v1,v2,v3,v4] 39)).alloc (.cells #[.string ⟨#[]⟩] 9)).alloc (.cells #[.string ⟨#[]⟩] 9)) (.cells #[.int .i64 0] 44)
    rwa [World.size_alloc,World.size_alloc,World.size_alloc] at this
 have hg1:GI w1 m0:=zd hg hb0;have hW2:Below w1.heap.size w1 (((w1.alloc (.cells #[.slice none 0 0] 89)).alloc (.cells #[.slice none 0 0] 89)).alloc (.cells #[.slice la ls.length lc] 89)) :=
  (((Below.refl _ w1).alloc (Nat.le_refl _) _).alloc (by simp) _).alloc (by simp<;>omega) _
 have hszN:(((w1.alloc (.cells #[.slice none 0 0] 89)).alloc (.cells #[.slice none 0 0] 89)).alloc (.cells #[.slice la ls.length lc] 89)).heap.size=w1.heap.size+3:=by simp
 have hbv:Boxed (((w1.alloc (.cells #[.slice none 0 0] 89)).alloc (.cells #[.slice none 0 0] 89)).alloc (.cells #[.slice la ls.length lc] 89)) (w1.heap.size+1+1) 89 (.slice la ls.length lc):=by
  have:=Boxed.new ((w1.alloc (.cells #[.slice none 0 0] 89)).alloc (.cells #[.slice none 0 0] 89)) 89 (.slice la ls.length lc)
  rwa [World.size_alloc,World.size_alloc] at this
 have hb9:Boxed (((w1.alloc (.cells #[.slice none 0 0] 89)).alloc (.cells #[.slice none 0 0] 89)).alloc (.cells #[.slice la ls.length lc] 89)) w1.heap.size 89 (.slice none 0 0) :=
  ((Boxed.new w1 89 (.slice none 0 0)).alloc _).alloc _
 have hb10:Boxed (((w1.alloc (.cells #[.slice none 0 0] 89)).alloc (.cells #[.slice none 0 0] 89)).alloc (.cells #[.slice la ls.length lc] 89)) (w1.heap.size+1) 89 (.slice none 0 0):=by
  have:=(Boxed.new (w1.alloc (.cells #[.slice none 0 0] 89)) 89 (.slice none 0 0)).alloc (.cells #[.slice la ls.length lc] 89)
  rwa [World.size_alloc] at this
 have hrow2:(((w1.alloc (.cells #[.slice none 0 0] 89)).alloc (.cells #[.slice none 0 0] 89)).alloc (.cells #[.slice la ls.length lc] 89)).ownsRow 0 9 1 (.slice la ls.length lc) ls.length (ls.map encS):=by
  have:=row_zero hrow;exact ((this.alloc _).alloc _).alloc _
 have hown:∀b,(Value.slice la ls.length lc).ownBlock=some b→b<w1.heap.size:=fun b hb=>((y3o hrow) b hb).2.1;clear hlab;refine yu (F:=Fence.wide) (n:=3) rfl (by omega) (gf:=191) (lb := #[.pointer (some ⟨w1.heap.size+1+1,0,none⟩)]) rfl trivial (enters_of Tryz.func191 (by kernel_rfl) rfl)
  (K:=fun b=>b=w1.heap.size+1+1∨(Value.slice la ls.length lc).ownBlock=some b)
  (y3y 2 (by omega) (w1.heap.size+1+1) 0 _ ls _ _ hbv hrow2 (by omega) (.inl rfl) (fun b hb => .inr hb) (w1.heap.size+1+1))
  (by rintro b (rfl | hb)
      · rw [hszN];omega
      · have:=hown b hb;rw [hszN];omega) (by rw [hszN];omega) (fun _=>rfl)
  (fun pre W=>∃ps qs rest,ls=pre++rest∧q1z A U rest ps qs=some res∧ps.length=pre.length∧qs.length=pre.length∧Two (w1.heap.size+3) w1.heap.size (w1.heap.size+1) W ps qs∧Below w1.heap.size w1 W)
  (fun c pre W=>c = .ret∧res.1≠0∧Boxed W (w.heap.size+1) 9 (.string ⟨#[]⟩)∧Boxed W (w.heap.size+1+1) 9 (.string ⟨#[]⟩)∧Boxed W (w.heap.size+1+1+1) 44 (.int .i64 res.1)∧Below w.heap.size w W)
  (fun pre X Y hs ho=>by
   obtain ⟨ps,qs,rest,h1,h2,h3,h4,h5,h6⟩:=hs;exact ⟨ps,qs,rest,h1,h2,h3,h4,y0k h5 (by omega) (by omega) (by omega) ho,q1i h6 (Nat.le_refl _) (by rw [hszN];omega) (by omega) ho⟩)
  (fun c pre X Y hs ho=>by
   obtain ⟨h1,h2,h3,h4,h5,h6⟩:=hs;exact ⟨h1,h2,xm h3 (by omega) ho,xm h4 (by omega) ho,xm h5 (by omega) ho,q1i h6 (Nat.le_refl _) (by rw [hszN];omega) (by omega) ho⟩)
  ⟨[],[],ls,rfl,hres,rfl,rfl,⟨_,_,_,_,hb9,hb10,World.ownsRow_nil _ _ _ _,World.ownsRow_nil _ _ _ _,fun b hb=>(by cases hb),fun b hb=>(by cases hb)⟩,hW2⟩
  (fun x=>{ tmps := #[.agg #[v0,v1,v2,v3,v4],.string ⟨⟨s⟩⟩,.pointer (some ⟨w.heap.size,0,none⟩),undef,.pointer (some ⟨w.heap.size+1,0,none⟩),.pointer (some ⟨w.heap.size+1+1,0,none⟩),.pointer (some ⟨w.heap.size+1+1+1,0,none⟩),.slice la ls.length lc,.int .i64 0,
   .pointer (some ⟨w1.heap.size,0,none⟩),.pointer (some ⟨w1.heap.size+1,0,none⟩),.string ⟨⟨x⟩⟩,undef,undef,undef,undef,undef,.tuple #[.slice la ls.length lc,.int .i64 0],.agg #[v0,v1,v2,v3,v4],.string ⟨⟨s⟩⟩,.tuple #[.slice la ls.length lc,.int .i64 0],.slice la ls.length lc,.int .i64 0,.int .i64 0,.bool false,undef,.slice la ls.length lc,
   .func (.func 191) #[] #[.pointer (some ⟨w1.heap.size+1+1,0,none⟩)],.string ⟨⟨x⟩⟩,undef,undef,undef,undef,undef,undef,undef,undef,undef,undef,undef,undef,undef,undef,undef,undef,undef,undef,undef,undef,undef,undef,undef,undef,undef,undef,undef,undef,undef,undef,undef],defers:=[] }) ?assign ?body ?done ?stop
 case assign =>
  intro l x W K hK
  gi_wp2
  exact hK
 case body =>
  rintro l pre x W hsz hpre ⟨ps,qs,rest,hls,hbf,hlp,hlq,hTwo,hbel⟩;obtain ⟨rest',rfl⟩:∃r,rest=x::r:=by
   obtain ⟨t,ht⟩:=hpre;rw [hls,List.append_assoc] at ht;have:=List.append_cancel_left ht;exact ⟨t,by simpa using this.symm⟩
  simp only [q1z] at hbf;obtain ⟨⟨a1,a2⟩,ha,hbf2⟩:=Option.bind_eq_some_iff.1 hbf;simp only at hbf2;rw [hszN] at hsz;have hWw:Below w.heap.size w W:=hb0.trans (hbel.mono (by omega));have hcA:=hA x _ ha W hWw;obtain ⟨t0,t1,t2,t3,t4⟩:=hT W hbel;by_cases hz:a2=0
  · subst hz
    have hbf3:((U x).bind fun u=>q1z A U rest' (ps++[a1]) (qs++[u.1]))=some res:=hbf2;obtain ⟨⟨u1,u2⟩,hu,hbf4⟩:=Option.bind_eq_some_iff.1 hbf3;simp only at hbf4;have hcU:=hU x _ hu
    gi_wp2_with (first
     | (refine ⟨trivial,?_⟩;gi_at_call 159;refine (CallsIn.inRound l (callsIn_wide.2 hcA)).mono ?_;rintro e W3 ⟨rfl,hb3⟩;have hbel3:Below w1.heap.size w1 W3:=hbel.trans (hb3.mono (by omega));obtain ⟨t5,t6,t7,t8,t9⟩:=hT W3 hbel3)
     | (refine ⟨trivial,?_⟩;gi_at_call 160;refine (CallsIn.inRound l (callsIn_wide.2 (hcU W3 (hb0.trans (hbel3.mono (by omega)))))).mono ?_;rintro e W4 ⟨rfl,hb4⟩))
    have hb34:Below W.heap.size W W4:=hb3.trans (hb4.mono hb3.size);have hTwo4:Two (w1.heap.size+3) w1.heap.size (w1.heap.size+1) W4 ps qs:=y0k (N:=0) (Bs:=w1.heap.size+1+1) hTwo (by omega) (by omega) (by omega) (Oth.of_below hb34).toR;have hll2:pre.length≤32:=by have:=hpre.length_le;simp at this;omega
    refine wpIn_mono (c:=Code.region 11 z1a true) (v4n l _ ps qs a1 u1 (by omega) (by omega) _ w1.heap.size (w1.heap.size+3) w1.heap.size (w1.heap.size+1) (by omega) W4 (zd hg1 (hbel3.trans (hb4.mono (by have:=hbel3.size;omega)))) (fun b hb=>(hg1.b b hb).1) (by omega) (Nat.le_refl _) (by omega) hTwo4 rfl (by have:=hb34.size;omega) rfl rfl rfl rfl) ?_;rintro e a' w' ⟨rfl,hTwo',o1,o2,o3,o4,o5,o6⟩;refine ⟨⟨Nat.le_trans hb34.size o4,fun k o _ hk hc=>o6 k o ((hb34.block k (lt_of_some hk)).trans hk) hc⟩,?_,ps++[a1],qs++[u1],rest',by simp [hls],hbf4,by simp;omega,by simp;omega,hTwo',?_⟩
    · rintro b (rfl | hb)
      · rw [o5 _ (by omega) (by omega) (by omega),hb34.block _ (by omega)]
      · have:=hown b hb
        rw [o5 _ (by omega) (by omega) (by omega),hb34.block _ (by omega)]
    · exact (hbel.trans (hb34.mono (by omega))).trans ⟨o1,o2,o3,o4,fun k hk=>o5 k (by omega) (by omega) (by omega)⟩
  · have hbf3:some (a2,([]:List (List UInt8)),([]:List (List UInt8)))=some res:=by
     rw [←hbf2,show (a2 != 0)=true by simpa using hz];rfl
    cases hbf3
    gi_wp2_with (refine ⟨trivial,?_⟩;gi_at_call 159;refine (CallsIn.inRound l (callsIn_wide.2 hcA)).mono ?_;rintro e W3 ⟨rfl,hb3⟩;have hbel3:Below w1.heap.size w1 W3:=hbel.trans (hb3.mono (by omega));obtain ⟨q1,q2,q3⟩:=hR W3 hbel3;have q4:=q1.cell;have q5:=q1.frozen;have q6:=q2.cell;have q7:=q2.frozen;have q8:=q3.cell;have q9:=q3.frozen)
    refine ⟨KeepsFrom.trans ⟨hb3.size,fun k o _ h _=>(hb3.block k (lt_of_some h)).trans h⟩ ((((KeepsOthers.setCell _ _ _).trans (KeepsOthers.setCell _ _ _)).trans (KeepsOthers.setCell _ _ _)).from _),rfl,?_,?_,?_,?_⟩
    · exact zh (zh (Boxed.set _ q1) (by omega)) (by omega)
    · exact zh (Boxed.set _ (zh q2 (by omega))) (by omega)
    · exact Boxed.set _ (zh (zh q3 (by omega)) (by omega))
    · exact (((hb0.trans (hbel3.mono (by omega))).setCell (p:=⟨w.heap.size+1,0,none⟩) (show w.heap.size≤w.heap.size+1 by omega) _).setCell (p:=⟨w.heap.size+1+1,0,none⟩) (show w.heap.size≤w.heap.size+1+1 by omega) _).setCell (p:=⟨w.heap.size+1+1+1,0,none⟩) (show w.heap.size≤w.heap.size+1+1+1 by omega) _
 case done =>
  rintro D W hD ⟨ps,qs,rest,hls,hbf,hlp,hlq,hTwo,hbel⟩ hK;have hrest:rest=[]:=by
   have:=congrArg List.length hls;simp at this;exact this
  subst hrest;have hres':(0,ps,qs)=res:=Option.some.inj hbf;subst hres';have ho:((q5q (ps,[46],())).bind fun ja=>bif decide (253<ja.1.length) then some (([]:List UInt8),([]:List UInt8),(5:Int)) else (q5q (qs,[46],())).bind fun ju=>some (ja.1,ju.1,0))=some (oa,ou,oc):=hout;obtain ⟨⟨ja,ju0⟩,hja,ho2⟩:=Option.bind_eq_some_iff.1 ho;obtain ⟨va,vu,ta,tu,bx9,bx10,rw9,rw10,_,_⟩:=hTwo.ex;have hcj:=z0u rw9 hja (zd hg1 hbel);have c9:=bx9.cell;have c10:=bx10.cell;have hDW:D<W.heap.size:=lt_of_some hK;rw [hszN] at hD;have hs8:w1.heap.size≤W.heap.size:=hbel.size;clear hls hbf hout ho hres hll hlp hlq;by_cases k2t:253<ja.length
  · have ho3:some (([]:List UInt8),([]:List UInt8),(5:Int))=some (oa,ou,oc):=by rw [←ho2];simp only;rw [decide_eq_true k2t];rfl
    cases ho3
    gi_wp2_with (refine ⟨trivial,?_⟩;gi_at_call 73;refine (callsIn_wide.2 hcj).mono ?_;rintro e W5 ⟨rfl,hb5⟩;have hbel5:Below w1.heap.size w1 W5:=hbel.trans (hb5.mono (by have:=hbel.size;omega));obtain ⟨q1,q2,q3⟩:=hR W5 hbel5;have q4:=q1.cell;have q5:=q1.frozen;have q6:=q2.cell;have q7:=q2.frozen;have q8:=q3.cell;have q9:=q3.frozen)
    have hKX:((((W5.setCell ⟨w.heap.size+1,0,none⟩ (.string ⟨#[]⟩)).setCell ⟨w.heap.size+1+1,0,none⟩ (.string ⟨#[]⟩)).setCell ⟨w.heap.size+1+1+1,0,none⟩ (.int .i64 5))).heap[D]? = some (.deferred (some [])):=by
     rw [Below.heap_setCell _ _ _ _ (show D≠w.heap.size+1+1+1 by omega),Below.heap_setCell _ _ _ _ (show D≠w.heap.size+1+1 by omega),Below.heap_setCell _ _ _ _ (show D≠w.heap.size+1 by omega)];exact (hb5.block D hDW).trans hK
    refine ⟨by simp,.inl ⟨_,_,rfl,run_takeDeferred hKX,?_⟩⟩;have e1:=zh (b':=w.heap.size+1+1+1) (u:=(.int .i64 5)) (zh (b':=w.heap.size+1+1) (u:=(.string ⟨#[]⟩)) (Boxed.set (.string ⟨#[]⟩) q1) (by omega)) (by omega);have e2:=zh (b':=w.heap.size+1+1+1) (u:=(.int .i64 5)) (Boxed.set (.string ⟨#[]⟩) (zh (b':=w.heap.size+1) (u:=(.string ⟨#[]⟩)) q2 (by omega))) (by omega);have e3:=Boxed.set (.int .i64 5) (zh (b':=w.heap.size+1+1) (u:=(.string ⟨#[]⟩)) (zh (b':=w.heap.size+1) (u:=(.string ⟨#[]⟩)) q3 (by omega)) (by omega));have hc1:=cell_kept e1.cell (grownBy_putObj' _ D (.deferred none)) (fun r e=>by cases e;exact ⟨_,hKX,rfl⟩);have hc2:=cell_kept e2.cell (grownBy_putObj' _ D (.deferred none)) (fun r e=>by cases e;exact ⟨_,hKX,rfl⟩);have hc3:=cell_kept e3.cell (grownBy_putObj' _ D (.deferred none)) (fun r e=>by cases e;exact ⟨_,hKX,rfl⟩);have hbX:=(((hb0.trans (hbel5.mono (show w.heap.size≤w1.heap.size by omega))).setCell (p:=⟨w.heap.size+1,0,none⟩) (show w.heap.size≤w.heap.size+1 by omega) (.string ⟨#[]⟩)).setCell (p:=⟨w.heap.size+1+1,0,none⟩) (show w.heap.size≤w.heap.size+1+1 by omega) (.string ⟨#[]⟩)).setCell (p:=⟨w.heap.size+1+1+1,0,none⟩) (show w.heap.size≤w.heap.size+1+1+1 by omega) (.int .i64 5);refine ⟨.tuple #[(.string ⟨#[]⟩),(.string ⟨#[]⟩),(.int .i64 5)],?_,rfl,hbX.trans (belowK_b (w:=w) (Nat.le_refl _) _ D _ _ (by omega) hKX rfl rfl)⟩;simp [results,Tryz.f124,go_sem,hc1,hc2,hc3]
  · have ho3:((q5q (qs,[46],())).bind fun ju=>some (ja,ju.1,(0:Int)))=some (oa,ou,oc):=by rw [←ho2];simp only;rw [decide_eq_false k2t];rfl
    obtain ⟨⟨ju,ju1⟩,hju,ho4⟩:=Option.bind_eq_some_iff.1 ho3;cases ho4
    gi_wp2_with (first
     | (refine ⟨trivial,?_⟩;gi_at_call 73;refine (callsIn_wide.2 hcj).mono ?_;clear hcj;rintro e W5 ⟨rfl,hb5⟩;have hbel5:Below w1.heap.size w1 W5:=hbel.trans (hb5.mono (by have:=hbel.size;omega));have c11:W5.cell? ⟨w1.heap.size+1,0,none⟩=some vu:=(hb5.cell (p:=⟨w1.heap.size+1,0,none⟩) bx10.lt).trans c10;have hcj2:=z0u (q0g (N:=0) (Bs:=w1.heap.size+1+1) (by omega) rw10 (Oth.of_below hb5).toR) hju (zd hg1 hbel5))
     | (refine ⟨trivial,?_⟩;gi_at_call 73;refine (callsIn_wide.2 hcj2).mono ?_;clear hcj2;rintro e W6 ⟨rfl,hb6⟩;have hbel6:Below w1.heap.size w1 W6:=hbel5.trans (hb6.mono (by have:=hbel5.size;omega));obtain ⟨q1,q2,q3⟩:=hR W6 hbel6;have q4:=q1.cell;have q5:=q1.frozen;have q6:=q2.cell;have q7:=q2.frozen;have q8:=q3.cell;have q9:=q3.frozen))
    have hKX:((((W6.setCell ⟨w.heap.size+1,0,none⟩ (.string ⟨⟨oa⟩⟩)).setCell ⟨w.heap.size+1+1,0,none⟩ (.string ⟨⟨ju⟩⟩)).setCell ⟨w.heap.size+1+1+1,0,none⟩ (.int .i64 0))).heap[D]? = some (.deferred (some [])):=by
     rw [Below.heap_setCell _ _ _ _ (show D≠w.heap.size+1+1+1 by omega),Below.heap_setCell _ _ _ _ (show D≠w.heap.size+1+1 by omega),Below.heap_setCell _ _ _ _ (show D≠w.heap.size+1 by omega)];exact (hb6.block D (Nat.lt_of_lt_of_le hDW hb5.size)).trans ((hb5.block D hDW).trans hK)
    refine ⟨by simp,.inl ⟨_,_,rfl,run_takeDeferred hKX,?_⟩⟩;have e1:=zh (b':=w.heap.size+1+1+1) (u:=(.int .i64 0)) (zh (b':=w.heap.size+1+1) (u:=(.string ⟨⟨ju⟩⟩)) (Boxed.set (.string ⟨⟨oa⟩⟩) q1) (by omega)) (by omega);have e2:=zh (b':=w.heap.size+1+1+1) (u:=(.int .i64 0)) (Boxed.set (.string ⟨⟨ju⟩⟩) (zh (b':=w.heap.size+1) (u:=(.string ⟨⟨oa⟩⟩)) q2 (by omega))) (by omega);have e3:=Boxed.set (.int .i64 0) (zh (b':=w.heap.size+1+1) (u:=(.string ⟨⟨ju⟩⟩)) (zh (b':=w.heap.size+1) (u:=(.string ⟨⟨oa⟩⟩)) q3 (by omega)) (by omega));have hc1:=cell_kept e1.cell (grownBy_putObj' _ D (.deferred none)) (fun r e=>by cases e;exact ⟨_,hKX,rfl⟩);have hc2:=cell_kept e2.cell (grownBy_putObj' _ D (.deferred none)) (fun r e=>by cases e;exact ⟨_,hKX,rfl⟩);have hc3:=cell_kept e3.cell (grownBy_putObj' _ D (.deferred none)) (fun r e=>by cases e;exact ⟨_,hKX,rfl⟩);have hbX:=(((hb0.trans (hbel6.mono (show w.heap.size≤w1.heap.size by omega))).setCell (p:=⟨w.heap.size+1,0,none⟩) (show w.heap.size≤w.heap.size+1 by omega) (.string ⟨⟨oa⟩⟩)).setCell (p:=⟨w.heap.size+1+1,0,none⟩) (show w.heap.size≤w.heap.size+1+1 by omega) (.string ⟨⟨ju⟩⟩)).setCell (p:=⟨w.heap.size+1+1+1,0,none⟩) (show w.heap.size≤w.heap.size+1+1+1 by omega) (.int .i64 0);refine ⟨.tuple #[(.string ⟨⟨oa⟩⟩),(.string ⟨⟨ju⟩⟩),(.int .i64 0)],?_,rfl,hbX.trans (belowK_b (w:=w) (Nat.le_refl _) _ D _ _ (by omega) hKX rfl rfl)⟩;simp [results,Tryz.f124,go_sem,hc1,hc2,hc3]
 case stop =>
  rintro D c pre W hD hpre ⟨rfl,hne,h1,h2,h3,hbel⟩ hK;have ho:some (([]:List UInt8),([]:List UInt8),res.1)=some (oa,ou,oc):=by
   rw [←hout];unfold z9y;rw [show (res.1 != 0)=true by simpa using hne];rfl
  cases ho
  gi_wp2
  refine ⟨by simp,.inl ⟨_,_,rfl,run_takeDeferred hK,?_⟩⟩;have hc1:=cell_kept h1.cell (grownBy_putObj' _ D (.deferred none)) (fun r e=>by cases e;exact ⟨_,hK,rfl⟩);have hc2:=cell_kept h2.cell (grownBy_putObj' _ D (.deferred none)) (fun r e=>by cases e;exact ⟨_,hK,rfl⟩);have hc3:=cell_kept h3.cell (grownBy_putObj' _ D (.deferred none)) (fun r e=>by cases e;exact ⟨_,hK,rfl⟩);rw [hszN] at hD;refine ⟨.tuple #[.string ⟨#[]⟩,.string ⟨#[]⟩,.int .i64 res.1],?_,rfl,hbel.trans (belowK_b (w:=w) (Nat.le_refl _) W D _ _ (by omega) hK rfl rfl)⟩;simp [results,Tryz.f124,go_sem,hc1,hc2,hc3]
set_option maxHeartbeats 4000000 in
theorem x9r (v0 v1 v2 v3 v4:Value) (s:List UInt8) (c:Int) (hc:c≠0) (w:World)
 (hlab:∀W,Below w.heap.size w W→Calls Tryz.prog 157 #[.agg #[v0,v1,v2,v3,v4],.string ⟨⟨s⟩⟩] W fun e w'=>∃v,e = .returned (.tuple #[v,.int .i64 c])∧Below W.heap.size W w') :
 Calls Tryz.prog 124 #[.agg #[v0,v1,v2,v3,v4],.string ⟨⟨s⟩⟩] w fun e w'=>e = .returned (.tuple #[.string ⟨#[]⟩,.string ⟨#[]⟩,.int .i64 c])∧Below w.heap.size w w':=by
 have hW0:Below w.heap.size w ((((w.alloc (.cells #[v0,v1,v2,v3,v4] 39)).alloc (.cells #[.string ⟨#[]⟩] 9)).alloc (.cells #[.string ⟨#[]⟩] 9)).alloc (.cells #[.int .i64 0] 44)) :=
  ((((Below.refl _ w).alloc (Nat.le_refl _) _).alloc (by simp) _).alloc (by simp<;>omega) _).alloc (by simp<;>omega) _
 have hR:∀X,Below (w.heap.size+4) ((((w.alloc (.cells #[v0,v1,v2,v3,v4] 39)).alloc (.cells #[.string ⟨#[]⟩] 9)).alloc (.cells #[.string ⟨#[]⟩] 9)).alloc (.cells #[.int .i64 0] 44)) X→Boxed X (w.heap.size+1) 9 (.string ⟨#[]⟩)∧Boxed X (w.heap.size+1+1) 9 (.string ⟨#[]⟩)∧Boxed X (w.heap.size+1+1+1) 44 (.int .i64 0):=fun X hX=>by
  refine ⟨?_,?_,?_⟩
  · show X.heap[_]? = _
    rw [hX.block _ (by omega),Below.heap_alloc _ _ _ (by simp<;>omega),Below.heap_alloc _ _ _ (by simp)];have:=heap_alloc_new (w.alloc (.cells #[v0,v1,v2,v3,v4] 39)) (.cells #[.string ⟨#[]⟩] 9)
    rwa [World.size_alloc] at this
  · show X.heap[_]? = _
    rw [hX.block _ (by omega),Below.heap_alloc _ _ _ (by simp)];have:=heap_alloc_new ((w.alloc (.cells #[v0,v1,v2,v3,v4] 39)).alloc (.cells #[.string ⟨#[]⟩] 9)) (.cells #[.string ⟨#[]⟩] 9)
    rwa [World.size_alloc,World.size_alloc] at this
  · show X.heap[_]? = _
    rw [hX.block _ (by omega)];have:=heap_alloc_new (((w.alloc (.cells #[v0,v1,v2,v3,v4] 39)).alloc (.cells #[.string ⟨#[]⟩] 9)).alloc (.cells #[.string ⟨#[]⟩] 9)) (.cells #[.int .i64 0] 44)
    rwa [World.size_alloc,World.size_alloc,World.size_alloc] at this
 have hl:=hlab _ hW0;clear hlab
 go_enter Tryz.func124,Tryz.ntmps124
 go_wp2_with (go_at_call 157;refine hl.mono ?_;rintro e w1 ⟨lv,rfl,hb1⟩;obtain ⟨q1,q2,q3⟩:=hR w1 (hb1.mono (by simp));have q4:=q1.cell;have q5:=q1.frozen;have q6:=q2.cell;have q7:=q2.frozen;have q8:=q3.cell;have q9:=q3.frozen)
 have e1:=zh (b':=w.heap.size+1+1+1) (u:=(.int .i64 c)) (zh (b':=w.heap.size+1+1) (u:=(.string ⟨#[]⟩)) (Boxed.set (.string ⟨#[]⟩) q1) (by omega)) (by omega);have e2:=zh (b':=w.heap.size+1+1+1) (u:=(.int .i64 c)) (Boxed.set (.string ⟨#[]⟩) (zh (b':=w.heap.size+1) (u:=(.string ⟨#[]⟩)) q2 (by omega))) (by omega);have e3:=Boxed.set (.int .i64 c) (zh (b':=w.heap.size+1+1) (u:=(.string ⟨#[]⟩)) (zh (b':=w.heap.size+1) (u:=(.string ⟨#[]⟩)) q3 (by omega)) (by omega));have hc1:=e1.cell;have hc2:=e2.cell;have hc3:=e3.cell;have hbX:=(((hW0.trans (hb1.mono (by simp<;>omega))).setCell (p:=⟨w.heap.size+1,0,none⟩) (show w.heap.size≤w.heap.size+1 by omega) (.string ⟨#[]⟩)).setCell (p:=⟨w.heap.size+1+1,0,none⟩) (show w.heap.size≤w.heap.size+1+1 by omega) (.string ⟨#[]⟩)).setCell (p:=⟨w.heap.size+1+1+1,0,none⟩) (show w.heap.size≤w.heap.size+1+1+1 by omega) (.int .i64 c)
 (try simp only [Exit.inBlock,Exit.then])
 refine bodyPost_ret (by simp [results,Tryz.results124,go_sem,hc1,hc2,hc3];try rfl) rfl ?_;exact ⟨rfl,hbX⟩
theorem x0u {f:FuncId} {fn:Func} {F:k0t} (h:zf Tryz.prog f ⟨xk,q2o,F⟩) (hf:Tryz.prog.funcs[f]? = some fn) (hb:fn.body.isSome=true) (hname:(fn.name == "runtime.NumGoroutine")=false) {t0 t1 t2} {x r:List UInt8} {c:Int} (hF:F (t0,t1,t2,x,())=some (r,c,()))
 {w:World} {m:Md} (gi:GI w m) (hlt:∀b,m.a b→b<w.heap.size) {a:Array Value} (ht:qd w m [] (y3u t0 t1 t2) a.toList) :
 Calls Tryz.prog f #[.agg a,.string ⟨⟨x⟩⟩] w fun e w'=>e = .returned (.tuple #[.string ⟨⟨r⟩⟩,.int .i64 c])∧Below w.heap.size w w':=by
 refine (zf.call0 (v:=(t0,t1,t2,x,())) (y:=(r,c,())) h hf hb hname gi hlt rfl ⟨_,_,rfl,⟨a,rfl,ht⟩,_,_,rfl,rfl,rfl⟩ rfl hF ?_).mono fun e w' ⟨rv,h1,h2,ax,l',u,h3,h4⟩ => ?_
 · intro ax l' u h3
   cases jh h3;rfl
 · cases jh h3
   obtain ⟨v,r',e1,⟨b,e2,e3⟩,e4⟩:=h4;have e4':r'=[]:=e4;subst e4';cases e1;subst h1 e2;refine ⟨?_,h2⟩;obtain ⟨v1,q1,f1,rfl,v2,q2,f2,⟨rfl,_⟩,f4⟩:=e3;have f4':q2=[]:=f4;subst f4' f2;cases b;cases f1;rfl
theorem v5a {f:FuncId} {fn:Func} {F:j9l} (h:zf Tryz.prog f ⟨xk,q6c,F⟩) (hf:Tryz.prog.funcs[f]? = some fn) (hb:fn.body.isSome=true) (hname:(fn.name == "runtime.NumGoroutine")=false) {t0 t1 t2} {x r:List UInt8} {c:Bool} (hF:F (t0,t1,t2,x,())=some (r,c,()))
 {w:World} {m:Md} (gi:GI w m) (hlt:∀b,m.a b→b<w.heap.size) {a:Array Value} (ht:qd w m [] (y3u t0 t1 t2) a.toList) :
 Calls Tryz.prog f #[.agg a,.string ⟨⟨x⟩⟩] w fun e w'=>e = .returned (.tuple #[.string ⟨⟨r⟩⟩,.bool c])∧Below w.heap.size w w':=by
 refine (zf.call0 (v:=(t0,t1,t2,x,())) (y:=(r,c,())) h hf hb hname gi hlt rfl ⟨_,_,rfl,⟨a,rfl,ht⟩,_,_,rfl,rfl,rfl⟩ rfl hF ?_).mono fun e w' ⟨rv,h1,h2,ax,l',u,h3,h4⟩ => ?_
 · intro ax l' u h3
   cases jh h3;rfl
 · cases jh h3
   obtain ⟨v,r',e1,⟨b,e2,e3⟩,e4⟩:=h4;have e4':r'=[]:=e4;subst e4';cases e1;subst h1 e2;refine ⟨?_,h2⟩;obtain ⟨v1,q1,f1,rfl,v2,q2,f2,rfl,f4⟩:=e3;have f4':q2=[]:=f4;subst f4' f2;cases b;cases f1;rfl
def z1r:k0s:=fun (t0,t1,t2,s,_) =>
 (j1n (t0,t1,t2,s,())).bind fun f=>(q0e f.1 f.2.1).bind fun lc =>
  bif lc.2 != 0 then some ([],[],lc.2,()) else
  bif decide (lc.1.length≤32) then
   (q1z (fun x=>(z1u (t0,t1,t2,x,())).map fun r=>(r.1,r.2.1)) (fun x=>(y0s (t0,t1,t2,x,())).map fun r=>(r.1,r.2.1)) lc.1 [] []).bind fun res=>(z9y res).map fun o=>(o.1,o.2.1,o.2.2,())
  else none
theorem f3q:zf Tryz.prog 124 (g5k z1r):=by
 refine x5c Tryz.func124 (by kernel_rfl) (by kernel_rfl) (fun _=>rfl) (fun _=>rfl) ?_;rintro ⟨t0,t1,t2,s,u⟩ y hy w m args gi hn hlt hargs;obtain ⟨va,r1,e1,⟨a,rfl,ht⟩,vs,r2,e2,e3,e4⟩:=hargs;have e4':r2=[]:=e4;have e3':vs = .string ⟨⟨s⟩⟩:=e3;subst e4' e3' e2;have ha:args = #[.agg a,.string ⟨⟨s⟩⟩]:=by cases args;simpa using e1
 subst ha;have ht0:qd w m [] (y3u t0 t1 t2) a.toList:=ht;have hst:∀W,Below w.heap.size w W→Stp w m W m:=fun W hb=>yk hb fun b hb=>(hn b hb).elim;have htW:∀W,Below w.heap.size w W→qd W m [] (y3u t0 t1 t2) a.toList:=fun W hb=>qd.mono (hst W hb) (fun _ _ h=>h) _ _ ht0;have hltW:∀W,Below w.heap.size w W→∀b,m.a b→b<W.heap.size:=fun W hb b h=>Nat.lt_of_lt_of_le (hlt b h) hb.size;have g0:GI w m0:=⟨gi.i,fun b hb=>⟨(gi.b b hb).1,fun h=>h⟩⟩
 obtain ⟨v0,v1,v2,v3,v4,rfl⟩:∃v0 v1 v2 v3 v4,a = #[v0,v1,v2,v3,v4]:=by
  obtain ⟨w0,q0,f0,_,w1,q1,f1,_,w2,q2,f2,_,w3,q3,f3,_,w4,q4,f4,_,f5⟩:=ht0;have f5':q4=[]:=f5;subst f5' f4 f3 f2 f1;exact ⟨w0,w1,w2,w3,w4,by cases a;simpa using f0⟩
 have hy1:((j1n (t0,t1,t2,s,())).bind fun f=>(q0e f.1 f.2.1).bind fun lc =>
  bif lc.2 != 0 then some ([],[],lc.2,()) else
  bif decide (lc.1.length≤32) then
   (q1z (fun x=>(z1u (t0,t1,t2,x,())).map fun r=>(r.1,r.2.1)) (fun x=>(y0s (t0,t1,t2,x,())).map fun r=>(r.1,r.2.1)) lc.1 [] []).bind fun res=>(z9y res).map fun o=>(o.1,o.2.1,o.2.2,())
  else none)=some y:=hy
 obtain ⟨⟨f,ok,u0⟩,hf,hy2⟩:=Option.bind_eq_some_iff.1 hy1;obtain ⟨⟨ls,c⟩,hls,hy3⟩:=Option.bind_eq_some_iff.1 hy2;simp only at hls hy3;have hfold:∀W,Below w.heap.size w W→Calls Tryz.prog 151 #[.agg #[v0,v1,v2,v3,v4],.string ⟨⟨s⟩⟩] W fun e W'=>e = .returned (.tuple #[.string ⟨⟨f⟩⟩,.bool ok])∧Below W.heap.size W W' :=
  fun W hb=>v5a v3m Tryz.func151 (by kernel_rfl) (by kernel_rfl) hf (gi.mono (hst W hb)) (hltW W hb) (htW W hb)
 have hlab:∀W,Below w.heap.size w W→Calls Tryz.prog 157 #[.agg #[v0,v1,v2,v3,v4],.string ⟨⟨s⟩⟩] W fun e w'=>∃v,e = .returned (.tuple #[v,.int .i64 c])∧Below W.heap.size W w'∧w'.ownsRow W.heap.size 9 1 v ls.length (ls.map encS) :=
  fun W hb=>z8x v0 v1 v2 v3 v4 s f ok ls c W (zd g0 hb) hls fun W2 hb2=>hfold W2 (hb.trans (hb2.mono hb.size))
 suffices hmain:∃oa ou oc,y=(oa,ou,oc,())∧Calls Tryz.prog 124 #[.agg #[v0,v1,v2,v3,v4],.string ⟨⟨s⟩⟩] w fun e w'=>e = .returned (.tuple #[.string ⟨⟨oa⟩⟩,.string ⟨⟨ou⟩⟩,.int .i64 oc])∧Below w.heap.size w w' by
  obtain ⟨oa,ou,oc,rfl,hc⟩:=hmain;refine hc.mono fun e w' ⟨k1,k2⟩=>⟨_,k1,k2,.ret,[.tuple 3,.str,.str,.int .i64],(oa,ou,oc,()),wb [.tuple 3,.str,.str,.int .i64] (oa,ou,oc,()),rfl,rfl,?_⟩
  exact ⟨_,[],rfl,⟨_,rfl,_,_,rfl,rfl,_,_,rfl,rfl,_,_,rfl,⟨rfl,fun h=>(by cases h)⟩,rfl⟩,rfl⟩
 by_cases hc:c=0
 · subst hc
   have hy4:(bif decide (ls.length≤32) then
    (q1z (fun x=>(z1u (t0,t1,t2,x,())).map fun r=>(r.1,r.2.1)) (fun x=>(y0s (t0,t1,t2,x,())).map fun r=>(r.1,r.2.1)) ls [] []).bind fun res=>(z9y res).map fun o=>(o.1,o.2.1,o.2.2,())
    else none)=some y:=hy3
   rcases jb hy4 with ⟨h32,hy5⟩ | ⟨_,hy5⟩
   case inr=>cases hy5
   obtain ⟨res,hres,hy6⟩:=Option.bind_eq_some_iff.1 hy5;obtain ⟨⟨oa,ou,oc⟩,hout,hy7⟩:=Option.map_eq_some_iff.1 hy6;refine ⟨oa,ou,oc,hy7.symm,?_⟩;refine x4p v0 v1 v2 v3 v4 s ls _ _ res w g0 (of_decide_eq_true h32) hres oa ou oc hout (fun W hb=>hlab W hb) ?_ ?_
   · intro x r hr W hb
     obtain ⟨⟨r1,r2,r3⟩,hq,rfl⟩:=Option.map_eq_some_iff.1 hr;exact x0u f4c Tryz.func159 (by kernel_rfl) (by kernel_rfl) hq (gi.mono (hst W hb)) (hltW W hb) (htW W hb)
   · intro x r hr W hb
     obtain ⟨⟨r1,r2,r3⟩,hq,rfl⟩:=Option.map_eq_some_iff.1 hr;exact x0u f4d Tryz.func160 (by kernel_rfl) (by kernel_rfl) hq (gi.mono (hst W hb)) (hltW W hb) (htW W hb)
 · rcases jb hy3 with ⟨_,hy4⟩ | ⟨h0,_⟩
   case inr=>exact (hc (by simpa using h0)).elim
   cases hy4;exact ⟨[],[],c,rfl,x9r v0 v1 v2 v3 v4 s c hc w fun W hb=>(hlab W hb).mono fun e w' ⟨v,k1,k2,_⟩=>⟨v,k1,k2⟩⟩
end Go.Proofs.YtiacnhhmkdkpmaaGreatDoorA.W
namespace Go.Proofs.YtiacnhhmkdkpmaaGreatDoorA.W
open Go Go.Ae
abbrev q6e:=qa×Int×Unit→Option (Int×Unit)
def v5j (f:q6e):FEnt:=⟨j9k,jd,f⟩
def f8u (f162:z7j):=lk [(162,w6t f162)]
def g9a (f162:z7j):q6e:=fun (x0,x1,_) =>
 (f162 (x0,x1,())).bind fun v=>some (v.1,())
def q2d:q6e:=g9a j3h
theorem v3l:FO 127 (v5j q2d):=wy j9k jd f8u g9a j3h (kc w5k kn) Tryz.func127
abbrev j2d:=Int×Bool×Unit→Option (Int×Bool×Unit)
def x7q (f:j2d):LEnt:=⟨y7z,y8p,f⟩
abbrev j7q:=Int×Bool×Unit→Option (Int×Bool×Unit)
def x7r (f:j7q):LEnt:=⟨y7z,y8p,f⟩
abbrev T90:=Int×Unit→Option (Bool×Unit)
def E90 (f:T90):FEnt:=⟨j3q,qz,f⟩
def K90 (f127:q6e):=lk [(127,v5j f127)]
theorem v2j:zj Tryz.prog (K90 q2d):=(kc v3l kn)
def x8j (f127:q6e):j2d:=fun (x0,x1,_) =>
 bif x1 then some (x0,true,())
 else
 bif decide (x0≥48) then
 bif decide (x0≤57) then some (x0,true,()) else some (x0,decide (x0≥128),())
 else some (x0,decide (x0≥128),())
def y1g:j2d:=x8j q2d
theorem g3c:zp 0 (qe (code Tryz.f90) [1,0,0,0,1,1,1]) (x7q y1g):=zc1 y7z y8p K90 x8j q2d v2j
def w9p (f90_c0:j2d):Ann:=(.cond .nil (.cut .nil (x7q f90_c0)))
def x8k (f127:q6e) (f90_c0:j2d):j7q:=fun (x0,x1,_) =>
 bif x1 then some (x0,true,())
 else
 bif decide (x0≥65) then (f90_c0 (x0,decide (x0≤90),())).bind fun v=>some (v.1,v.2.1,())
 else (f90_c0 (x0,false,())).bind fun v=>some (v.1,v.2.1,())
theorem g2n (f127:q6e) (f90_c0:j2d):AqC (K90 f127) 0 (qe (code Tryz.f90) [1,0,0,0,1]) (w9p f90_c0) y7z y8p (x8k f127 f90_c0):=fun v=>by kernel_rfl
def y1h:j7q:=x8k q2d y1g
theorem g3d:zp 0 (qe (code Tryz.f90) [1,0,0,0,1]) (x7r y1h) :=
 frd v2j (And.intro g3c trivial) (g2n q2d y1g)
def N90 (f90_c1:j7q):Ann:=(.seq .nil (.seq (.blk (.seq (.cut .nil (x7r f90_c1)) .nil)) .nil))
def F90 (f127:q6e) (f90_c1:j7q):T90:=fun (x0,_) =>
 bif decide (x0≥97) then
 (f90_c1 (x0,decide (x0≤122),())).bind fun v =>
 bif v.2.1 then some (true,())
 else
 (f127
 ([33,35,36,37,38,39,42,43,45,47,61,63,94,95,96,123,124,125,126],v.1,
 ())).bind
 fun v=>some (decide (v.1≥0),())
 else
 (f90_c1 (x0,false,())).bind fun v =>
 bif v.2.1 then some (true,())
 else
 (f127
 ([33,35,36,37,38,39,42,43,45,47,61,63,94,95,96,123,124,125,126],v.1,
 ())).bind
 fun v=>some (decide (v.1≥0),())
def C90:T90:=F90 q2d y1h
theorem g3o:FO 90 (E90 C90):=wq j3q qz K90 N90 F90 q2d y1h v2j Tryz.func90 (And.intro g3d trivial)
abbrev q4d:=Int×qa×Int×Int×Int×Unit→Option (Int×qa×Int×Int×Int×Unit)
def y4h (f:q4d):LEnt:=⟨y8a,w3e,f⟩
abbrev q8o:=Int×qa×Int×Int×Int×Unit→Option (Int×qa×Int×Int×Int×Unit)
def y4i (f:q8o):LEnt:=⟨y8a,w3f,f⟩
abbrev z7e:=qa×Int×Int×Int×Unit→Option (qa×qa×Int×Int×Int×Unit)
def g5o (f:z7e):FEnt:=⟨q1x,q5m,f⟩
def v8r (f90:T90):=lk [(90,E90 f90)]
theorem y2n:zj Tryz.prog (v8r C90):=(kc g3o kn)
def q8d (f90:T90):q4d:=fun (x0,x1,x2,x3,x4,_) =>
 some (x0,x1,IntKind.i64.wrap (x2+1),x3,x4,())
def q1c:q4d:=q8d C90
theorem k3v:zp 1 (qe (code Tryz.f136) [1,1,0,0,0,1]) (y4h q1c):=zc1 y8a w3e v8r q8d C90 y2n
def v9z (f136_c0:q4d):Ann:=(.cut .nil (y4h f136_c0))
def q3r (f90:T90) (f136_c0:q4d):yq (Int×qa×Int×Int×Int×Unit) (Int×qa×Int×Int×Int×Unit):=fun (x0,x1,x2,x3,x4,_) =>
 bif decide (x2<(↑x1.length:Int)) then
 bif decide (0≤x2)&&decide (x2<(↑x1.length:Int)) then
 (f90 ((↑(x1.getD x2.toNat 0).toNat:Int),())).bind fun v =>
 bif v.1 then
 (f136_c0 (x0,x1,x2,x3,x4,())).bind fun v =>
 some
 (Sum.inl (v.1,v.2.1,v.2.2.1,v.2.2.2.1,v.2.2.2.2.1,()))
 else some (Sum.inr (x0,x1,x2,x3,x4,()))
 else none
 else some (Sum.inr (x0,x1,x2,x3,x4,()))
theorem k1v (f90:T90) (f136_c0:q4d):AqL (v8r f90) 1 (qe (code Tryz.f136) [1,1,0,0,0]) (v9z f136_c0) y8a w3f (q3r f90 f136_c0):=fun v=>by kernel_rfl
def q6w:q8o:=qc (q3r C90 q1c) je
theorem k3w:jf 1 (qe (code Tryz.f136) [1,1,0,0,0]) (y4i q6w) :=
 frm y2n (And.intro k3v trivial) (k1v C90 q1c)
def b1l (f136_l0:q8o):Ann:=(.seq .nil (.seq .nil (.seq (.blk (.loop (y4i f136_l0))) .nil)))
def v5z (f90:T90) (f136_l0:q8o):z7e:=fun (x0,x1,x2,x3,_) =>
 (f136_l0 (x1,x0,x1,x2,x3,())).bind fun v =>
 bif decide (0≤v.2.2.1)&&decide (v.2.2.1≤(↑(List.length v.2.1):Int)) then
 bif decide (0≤v.1)&&decide (v.1≤v.2.2.1) then
 some
 (List.drop (Int.toNat v.1) (List.take (Int.toNat v.2.2.1) v.2.1),v.2.1,
 v.2.2.1,v.2.2.2.1,v.2.2.2.2.1,())
 else none
 else none
theorem b6g (f90:T90) (f136_l0:q8o):ye (v8r f90) 1 Tryz.f136 (b1l f136_l0) q1x q5m (v5z f90 f136_l0):=fun v=>by kernel_rfl
def z6k:z7e:=v5z C90 q6w
theorem f3v:FO 136 (g5o z6k) :=
 qo y2n Tryz.func136 (And.intro k3w trivial) (b6g C90 q6w)
abbrev q2p:=Int×Unit→Option (Bool×Unit)
def v5n (f:q2p):FEnt:=⟨j3q,qz,f⟩
def f9g (f127:q6e):=lk [(127,v5j f127)]
def g9e (f127:q6e):q2p:=fun (x0,_) =>
 (f127 ([32,9],x0,())).bind fun v=>some (decide (v.1≥0),())
def xj:q2p:=g9e q2d
theorem v3q:FO 174 (v5n xj):=wy j3q qz f9g g9e q2d (kc v3l kn) Tryz.func174
abbrev wv:=Int×Unit→Option (Bool×Unit)
def v5m (f:wv):FEnt:=⟨j3q,qz,f⟩
def f9f (f174:q2p):=lk [(174,v5n f174)]
def g9d (f174:q2p):wv:=fun (x0,_) =>
 (f174 (x0,())).bind fun v =>
 bif v.1 then some (true,())
 else bif decide (x0>32) then some (bif x0==127 then false else true,()) else some (false,())
def yf:wv:=g9d xj
theorem v3p:FO 173 (v5m yf):=wy j3q qz f9f g9d xj (kc v3q kn) Tryz.func173
abbrev xl:=Int×Int×qa×Int×Int×Int×Unit→Option (qa×Int×Int×Int×Unit)
def x6t (f:xl):FEnt:=⟨w0h,w3g,f⟩
def g9b:xl:=fun (x0,x1,x2,x3,x4,x5,_) =>
 some (x2,x3,x0,x1,())
theorem b6l:ye vf 1 Tryz.f141 .nil w0h w3g (g9b):=fun v=>by kernel_rfl
def zv:xl:=g9b
theorem x0h:FO 141 (x6t zv) :=
 q0 kn Tryz.func141 (b6l)
abbrev q4e:=Int×qa×Int×Int×Int×qa×Unit→Option ((qa×qa×Int×Int×Int×Unit)⊕(Int×qa×Int×Int×Int×qa×Unit))
def y4j (f:q4e):LEnt:=⟨y8b,w3h,f⟩
abbrev q8p:=Int×qa×Int×Int×Int×qa×Unit→Option ((qa×Int×Int×Int×Unit)⊕(qa×qa×Int×Int×Int×Unit))
def y4k (f:q8p):LEnt:=⟨y8b,w3i,f⟩
abbrev z7f:=qa×Int×Int×Int×Unit→Option (qa×qa×Int×Int×Int×Unit)
def g5p (f:z7f):FEnt:=⟨q1x,q5m,f⟩
def v8s (f141:xl) (f173:wv):=lk [(141,x6t f141),(173,v5m f173)]
theorem y2o:zj Tryz.prog (v8s zv yf):=(kc x0h (kc v3p kn))
def z2w (f141:xl) (f173:wv):q4e:=fun (x0,x1,x2,x3,x4,x5,_) =>
 bif decide (0≤x0)&&decide (x0<(↑x1.length:Int)) then
 (f173 ((↑(x1.getD x0.toNat 0).toNat:Int),())).bind fun v =>
 bif !v.1 then
 (f141 (x0,4,x1,x2,x3,x4,())).bind fun v =>
 some (Sum.inl ([],v.1,v.2.1,v.2.2.1,v.2.2.2.1,()))
 else
 bif decide (0≤x0)&&decide (x0<(↑x1.length:Int)) then
 bif
 decide
 (x5.length+[UInt8.ofNat (↑(x1.getD x0.toNat 0).toNat:Int).toNat].length≤140737488355328/1) then
 some (Sum.inr (x0,x1,x2,x3,x4,x5++[UInt8.ofNat (↑(x1.getD x0.toNat 0).toNat:Int).toNat],()))
 else none
 else none
 else none
theorem k1w (f141:xl) (f173:wv):AqC (v8s f141 f173) 1 (qe (code Tryz.f137) [1,1,0,1,0,0,1,0,0,1,1,1]) .nil y8b w3h (z2w f141 f173):=fun v=>by kernel_rfl
def q3i:q4e:=z2w zv yf
theorem k3x:zp 1 (qe (code Tryz.f137) [1,1,0,1,0,0,1,0,0,1,1,1]) (y4j q3i) :=
 frc y2o (k1w zv yf)
def k0a (f137_c0:q4e):Ann:=(.seq .nil (.seq (.blk (.seq .nil (.seq .nil (.cut .nil (y4j f137_c0))))) .nil))
def vd (f141:xl) (f173:wv) (f137_c0:q4e):yq (Int×qa×Int×Int×Int×qa×Unit) ((qa×Int×Int×Int×Unit)⊕(qa×qa×Int×Int×Int×Unit)):=fun (x0,x1,x2,x3,x4,x5,_) =>
 bif decide (x0<(↑x1.length:Int)) then
 bif decide (0≤x0)&&decide (x0<(↑x1.length:Int)) then
 bif (↑(x1.getD x0.toNat 0).toNat:Int)==34 then
 some (Sum.inr (Sum.inr (x5,x1,IntKind.i64.wrap (x0+1),x3,x4,())))
 else
 bif (↑(x1.getD x0.toNat 0).toNat:Int)==92 then
 bif IntKind.i64.wrap (x0+1)==(↑x1.length:Int) then some (Sum.inr (Sum.inl (x1,x2,x3,x4,())))
 else
 (f137_c0 (IntKind.i64.wrap (x0+1),x1,x2,x3,x4,x5,())).bind fun v =>
 Sum.elim
 (fun v =>
 some
 (Sum.inr
 (Sum.inr
 (v.1,v.2.1,v.2.2.1,v.2.2.2.1,v.2.2.2.2.1,
 ()))))
 (fun v =>
 some
 (Sum.inl
 (IntKind.i64.wrap (v.1+1),v.2.1,v.2.2.1,v.2.2.2.1,
 v.2.2.2.2.1,v.2.2.2.2.2.1,())))
 v
 else
 (f137_c0 (x0,x1,x2,x3,x4,x5,())).bind fun v =>
 Sum.elim
 (fun v =>
 some
 (Sum.inr
 (Sum.inr
 (v.1,v.2.1,v.2.2.1,v.2.2.2.1,v.2.2.2.2.1,()))))
 (fun v =>
 some
 (Sum.inl
 (IntKind.i64.wrap (v.1+1),v.2.1,v.2.2.1,v.2.2.2.1,
 v.2.2.2.2.1,v.2.2.2.2.2.1,())))
 v
 else none
 else some (Sum.inr (Sum.inl (x1,x2,x3,x4,())))
theorem k1x (f141:xl) (f173:wv) (f137_c0:q4e):AqL (v8s f141 f173) 1 (qe (code Tryz.f137) [1,1,0,1,0,0]) (k0a f137_c0) y8b w3i (vd f141 f173 f137_c0):=fun v=>by kernel_rfl
def q6x:q8p:=qc (vd zv yf q3i) je
theorem k3y:jf 1 (qe (code Tryz.f137) [1,1,0,1,0,0]) (y4k q6x) :=
 frm y2o (And.intro k3x trivial) (k1x zv yf q3i)
def b1m (f137_l0:q8p):Ann:=(.seq .nil (.seq .nil (.seq (.seq .nil (.blk (.loop (y4k f137_l0)))) .nil)))
def v6a (f141:xl) (f173:wv) (f137_l0:q8p):z7f:=fun (x0,x1,x2,x3,_) =>
 (f137_l0 (IntKind.i64.wrap (x1+1),x0,x1,x2,x3,[],())).bind fun v =>
 Sum.elim
 (fun v =>
 (f141 (v.2.1,4,v.1,v.2.1,v.2.2.1,v.2.2.2.1,())).bind fun v =>
 some ([],v.1,v.2.1,v.2.2.1,v.2.2.2.1,()))
 (fun v=>some (v.1,v.2.1,v.2.2.1,v.2.2.2.1,v.2.2.2.2.1,()))
 v
theorem b6h (f141:xl) (f173:wv) (f137_l0:q8p):ye (v8s f141 f173) 1 Tryz.f137 (b1m f137_l0) q1x q5m (v6a f141 f173 f137_l0):=fun v=>by kernel_rfl
def z6l:z7f:=v6a zv yf q6x
theorem f3w:FO 137 (g5p z6l) :=
 qo y2o Tryz.func137 (And.intro k3y trivial) (b6h zv yf q6x)
abbrev q4f:=Int×qa×qa×Int×Int×Int×Unit→Option (qa×qa×Int×Int×Int×Unit)
def y4l (f:q4f):LEnt:=⟨w0i,w3j,f⟩
abbrev q8q:=Int×qa×Int×Int×Int×Unit→Option ((qa×Int×Int×Int×Unit)⊕(qa×qa×Int×Int×Int×Unit))
def y4m (f:q8q):LEnt:=⟨w0j,w3k,f⟩
abbrev z7g:=qa×Int×Int×Int×Unit→Option (qa×qa×Int×Int×Int×Unit)
def g5q (f:z7g):FEnt:=⟨q1x,q5m,f⟩
def v8t (f141:xl) (f173:wv) (f174:q2p):=lk [(141,x6t f141),(173,v5m f173),(174,v5n f174)]
theorem y2p:zj Tryz.prog (v8t zv yf xj):=(kc x0h (kc v3p (kc v3q kn)))
def kg (f141:xl) (f173:wv) (f174:q2p):q4f:=fun (x0,x1,x2,x3,x4,x5,_) =>
 some (x1,x2,IntKind.i64.wrap (x0+1),x4,x5,())
def xa:q4f:=kg zv yf xj
theorem k3z:zp 1 (qe (code Tryz.f138) [1,0,1,0,0,1,0,0,1,0,1,0,1]) (y4l xa):=zc3 w0i w3j v8t kg zv yf xj y2p
def k0b (f138_c0:q4f):Ann:=(.seq .nil (.seq (.blk (.seq .nil (.blk (.seq .nil (.cond (.cut .nil (y4l f138_c0)) .nil))))) .nil))
def ve (f141:xl) (f173:wv) (f174:q2p) (f138_c0:q4f):yq (Int×qa×Int×Int×Int×Unit) ((qa×Int×Int×Int×Unit)⊕(qa×qa×Int×Int×Int×Unit)):=fun (x0,x1,x2,x3,x4,_) =>
 bif decide (x0<(↑x1.length:Int)) then
 bif decide (0≤x0)&&decide (x0<(↑x1.length:Int)) then
 bif (↑(x1.getD x0.toNat 0).toNat:Int)==93 then
 bif decide (0≤x0)&&decide (x0≤(↑x1.length:Int)) then
 bif decide (0≤IntKind.i64.wrap (x2+1))&&decide (IntKind.i64.wrap (x2+1)≤x0) then
 (f138_c0 (x0,List.drop (IntKind.i64.wrap (x2+1)).toNat (List.take x0.toNat x1),x1,x2,x3,x4,())).bind
 fun v =>
 some
 (Sum.inr
 (Sum.inr
 (v.1,v.2.1,v.2.2.1,v.2.2.2.1,v.2.2.2.2.1,())))
 else none
 else none
 else
 bif (↑(x1.getD x0.toNat 0).toNat:Int)==91 then
 (f141 (x0,4,x1,x2,x3,x4,())).bind fun v =>
 some (Sum.inr (Sum.inr ([],v.1,v.2.1,v.2.2.1,v.2.2.2.1,())))
 else
 bif (↑(x1.getD x0.toNat 0).toNat:Int)==92 then
 (f141 (x0,4,x1,x2,x3,x4,())).bind fun v =>
 some
 (Sum.inr (Sum.inr ([],v.1,v.2.1,v.2.2.1,v.2.2.2.1,())))
 else
 (f174 ((↑(x1.getD x0.toNat 0).toNat:Int),())).bind fun v =>
 bif v.1 then
 (f141 (x0,4,x1,x2,x3,x4,())).bind fun v =>
 some
 (Sum.inr
 (Sum.inr ([],v.1,v.2.1,v.2.2.1,v.2.2.2.1,())))
 else
 (f173 ((↑(x1.getD x0.toNat 0).toNat:Int),())).bind fun v =>
 bif !v.1 then
 (f141 (x0,4,x1,x2,x3,x4,())).bind fun v =>
 some
 (Sum.inr
 (Sum.inr ([],v.1,v.2.1,v.2.2.1,v.2.2.2.1,())))
 else some (Sum.inl (IntKind.i64.wrap (x0+1),x1,x2,x3,x4,()))
 else none
 else some (Sum.inr (Sum.inl (x1,x2,x3,x4,())))
theorem k1y (f141:xl) (f173:wv) (f174:q2p) (f138_c0:q4f):AqL (v8t f141 f173 f174) 1 (qe (code Tryz.f138) [1,0,1,0,0]) (k0b f138_c0) w0j w3k (ve f141 f173 f174 f138_c0):=fun v=>by kernel_rfl
def q6y:q8q:=qc (ve zv yf xj xa) je
theorem k4a:jf 1 (qe (code Tryz.f138) [1,0,1,0,0]) (y4m q6y) :=
 frm y2p (And.intro k3z trivial) (k1y zv yf xj xa)
def b1n (f138_l0:q8q):Ann:=(.seq .nil (.seq (.seq .nil (.blk (.loop (y4m f138_l0)))) .nil))
def x2a (f141:xl) (f173:wv) (f174:q2p) (f138_l0:q8q):z7g:=fun (x0,x1,x2,x3,_) =>
 (f138_l0 (IntKind.i64.wrap (x1+1),x0,x1,x2,x3,())).bind fun v =>
 Sum.elim
 (fun v =>
 (f141 (v.2.1,4,v.1,v.2.1,v.2.2.1,v.2.2.2.1,())).bind fun v =>
 some ([],v.1,v.2.1,v.2.2.1,v.2.2.2.1,()))
 (fun v=>some (v.1,v.2.1,v.2.2.1,v.2.2.2.1,v.2.2.2.2.1,()))
 v
theorem b6i (f141:xl) (f173:wv) (f174:q2p) (f138_l0:q8q):ye (v8t f141 f173 f174) 1 Tryz.f138 (b1n f138_l0) q1x q5m (x2a f141 f173 f174 f138_l0):=fun v=>by kernel_rfl
def z6m:z7g:=x2a zv yf xj q6y
theorem f3x:FO 138 (g5q z6m) :=
 qo y2p Tryz.func138 (And.intro k4a trivial) (b6i zv yf xj q6y)
abbrev q8s:=Int×Int×Int×Int×qa×Int×Int×Int×Unit→Option ((Int×Int×qa×Int×Int×Int×Unit)⊕(Int×Int×qa×Int×Int×Int×Unit)⊕(qa×qa×Int×Int×Int×Unit))
def y4o (f:q8s):LEnt:=⟨w0k,w3l,f⟩
abbrev q8r:=Int×Int×qa×Int×Int×Int×Unit→Option (qa×qa×Int×Int×Int×Unit)
def y4n (f:q8r):LEnt:=⟨z0f,y8q,f⟩
abbrev z7h:=qa×Int×Int×Int×Unit→Option (qa×qa×Int×Int×Int×Unit)
def g5r (f:z7h):FEnt:=⟨q1x,q5m,f⟩
def v8u (f141:xl) (f173:wv):=lk [(141,x6t f141),(173,v5m f173)]
theorem y2q:zj Tryz.prog (v8u zv yf):=(kc x0h (kc v3p kn))
def zq (f141:xl) (f173:wv):yq (Int×Int×Int×Int×qa×Int×Int×Int×Unit) ((Int×Int×qa×Int×Int×Int×Unit)⊕(Int×Int×qa×Int×Int×Int×Unit)⊕(qa×qa×Int×Int×Int×Unit)):=fun (x0,x1,x2,x3,x4,x5,x6,x7,_) =>
 bif decide (x3<(↑x4.length:Int)) then
 bif decide (0≤x3)&&decide (x3<(↑x4.length:Int)) then
 bif (↑(x4.getD x3.toNat 0).toNat:Int)==40 then
 bif decide (IntKind.i64.wrap (x1+1)>32) then
 some (Sum.inr (Sum.inr (Sum.inl (6,x3,x4,x5,x6,x7,()))))
 else some (Sum.inl (x0,IntKind.i64.wrap (x1+1),x2,IntKind.i64.wrap (x3+1),x4,x5,x6,x7,()))
 else
 bif (↑(x4.getD x3.toNat 0).toNat:Int)==41 then
 bif IntKind.i64.wrap (x1 - 1)==0 then
 bif decide (0≤x3)&&decide (x3≤(↑x4.length:Int)) then
 bif decide (0≤IntKind.i64.wrap (x0+1))&&decide (IntKind.i64.wrap (x0+1)≤x3) then
 some
 (Sum.inr
 (Sum.inr
 (Sum.inr
 (List.drop (IntKind.i64.wrap (x0+1)).toNat (List.take x3.toNat x4),x4,
 IntKind.i64.wrap (x3+1),x6,x7,()))))
 else none
 else none
 else some (Sum.inl (x0,IntKind.i64.wrap (x1 - 1),x2,IntKind.i64.wrap (x3+1),x4,x5,x6,x7,()))
 else
 bif (↑(x4.getD x3.toNat 0).toNat:Int)==92 then
 bif IntKind.i64.wrap (x3+1)==(↑x4.length:Int) then
 some (Sum.inl (x0,x1,x2,IntKind.i64.wrap (IntKind.i64.wrap (x3+1)+1),x4,x5,x6,x7,()))
 else
 bif decide (0≤IntKind.i64.wrap (x3+1))&&decide (IntKind.i64.wrap (x3+1)<(↑x4.length:Int)) then
 (f173 ((↑(x4.getD (IntKind.i64.wrap (x3+1)).toNat 0).toNat:Int),())).bind fun v =>
 bif !v.1 then
 some (Sum.inr (Sum.inr (Sum.inl (x2,IntKind.i64.wrap (x3+1),x4,x5,x6,x7,()))))
 else
 some
 (Sum.inl (x0,x1,x2,IntKind.i64.wrap (IntKind.i64.wrap (x3+1)+1),x4,x5,x6,x7,()))
 else none
 else
 (f173 ((↑(x4.getD x3.toNat 0).toNat:Int),())).bind fun v =>
 bif !v.1 then some (Sum.inr (Sum.inr (Sum.inl (x2,x3,x4,x5,x6,x7,()))))
 else some (Sum.inl (x0,x1,x2,IntKind.i64.wrap (x3+1),x4,x5,x6,x7,()))
 else none
 else some (Sum.inr (Sum.inl (x0,x2,x4,x5,x6,x7,())))
def q6z:q8s:=qc (zq zv yf) je
theorem k4c:jf 1 (qe (code Tryz.f139) [1,0,1,1,0,1,0,0]) (y4o q6z):=zl2 w0k w3l v8u zq zv yf y2q
def z2x (f141:xl) (f173:wv):yq (Int×Int×qa×Int×Int×Int×Unit) (qa×qa×Int×Int×Int×Unit):=fun (x0,x1,x2,x3,x4,x5,_) =>
 (f141 (x1,x0,x2,x3,x4,x5,())).bind fun v =>
 some (Sum.inr ([],v.1,v.2.1,v.2.2.1,v.2.2.2.1,()))
theorem k1z (f141:xl) (f173:wv) (v:HS z0f):aev Γ (v8u f141 f173) 1 ((findLabel (qe (code Tryz.f139) [1,0]) 0).getD .skip) .nil (v4x z0f v) (q0a 1 0 [] z0f y8q)=z2x f141 f173 v:=by kernel_rfl
def q3j:q8r:=qc (z2x zv yf) je
theorem k4b:jv Tryz.prog 1 (js Tryz.prog (qe (code Tryz.f139) [1,0]) 0) (y4n q3j) :=
 yb (ins:=z0f) (os:=y8q) (C:=q3j) (q6i (ins:=z0f) (os:=y8q) (n := .nil) (ls:=[]) (F:=z2x zv yf) (rest:=((findLabel (qe (code Tryz.f139) [1,0]) 0).getD .skip)) hm hΓ y2q (fun _=>je) (by kernel_rfl) (jm _) j0r (k1z zv yf)) rfl
def b1o (f139_g0:q8r) (f139_l0:q8s):Ann:=(.seq .nil (.scope (.seq .nil (.seq .nil (.seq (.seq .nil (.blk (.loop (y4o f139_l0)))) .nil))) [(0,(y4n f139_g0))]))
def x2b (f141:xl) (f173:wv) (f139_g0:q8r) (f139_l0:q8s):z7h:=fun (x0,x1,x2,x3,_) =>
 (f139_l0 (x1,0,4,x1,x0,x1,x2,x3,())).bind fun v =>
 Sum.elim
 (fun v =>
 (f141
 (v.1,v.2.1,v.2.2.1,v.2.2.2.1,v.2.2.2.2.1,
 v.2.2.2.2.2.1,())).bind
 fun v=>some ([],v.1,v.2.1,v.2.2.1,v.2.2.2.1,()))
 (fun v =>
 Sum.elim
 (fun v =>
 (f139_g0
 (v.1,v.2.1,v.2.2.1,v.2.2.2.1,v.2.2.2.2.1,
 v.2.2.2.2.2.1,())).bind
 fun v =>
 some (v.1,v.2.1,v.2.2.1,v.2.2.2.1,v.2.2.2.2.1,()))
 (fun v =>
 some (v.1,v.2.1,v.2.2.1,v.2.2.2.1,v.2.2.2.2.1,()))
 v)
 v
theorem b6j (f141:xl) (f173:wv) (f139_g0:q8r) (f139_l0:q8s):ye (v8u f141 f173) 1 Tryz.f139 (b1o f139_g0 f139_l0) q1x q5m (x2b f141 f173 f139_g0 f139_l0):=fun v=>by kernel_rfl
def z6n:z7h:=x2b zv yf q3j q6z
theorem f3y:FO 139 (g5r z6n) :=
 qo y2q Tryz.func139 (And.intro k4c (And.intro k4b trivial)) (b6j zv yf q3j q6z)
abbrev q4g:=Int×Bool×qa×Int×Int×Int×Unit→Option ((Int×qa×Int×Int×Int×Unit)⊕(qa×qa×Int×Int×Int×Unit))
def y4p (f:q4g):LEnt:=⟨w0l,w3m,f⟩
abbrev q8t:=Int×qa×Int×Int×Int×Unit→Option ((Int×qa×Int×Int×Int×Unit)⊕(qa×qa×Int×Int×Int×Unit))
def y4q (f:q8t):LEnt:=⟨w0m,w3n,f⟩
abbrev z7i:=qa×Int×Int×Int×Unit→Option (qa×qa×Int×Int×Int×Unit)
def g5s (f:z7i):FEnt:=⟨q1x,q5m,f⟩
def v8v (f174:q2p):=lk [(174,v5n f174)]
theorem y2r:zj Tryz.prog (v8v xj):=(kc v3q kn)
def j4r (f174:q2p):q4g:=fun (x0,x1,x2,x3,x4,x5,_) =>
 bif x1 then some (Sum.inl (x0,x2,IntKind.i64.wrap (x3+3),x4,x5,()))
 else
 bif decide (0≤x3)&&decide (x3≤(↑x2.length:Int)) then
 bif decide (0≤x0)&&decide (x0≤x3) then
 some (Sum.inr (List.drop x0.toNat (List.take x3.toNat x2),x2,x3,x4,x5,()))
 else none
 else none
def xu:q4g:=j4r xj
theorem k4d:zp 1 (qe (code Tryz.f140) [1,1,0,0,0,1,0,1,0,1,1,1]) (y4p xu):=zc1 w0l w3m v8v j4r xj y2r
def k0c (f140_c0:q4g):Ann:=(.seq .nil (.blk (.seq .nil (.blk (.seq .nil (.cond .nil (.cut .nil (y4p f140_c0))))))))
def yg (f174:q2p) (f140_c0:q4g):yq (Int×qa×Int×Int×Int×Unit) ((Int×qa×Int×Int×Int×Unit)⊕(qa×qa×Int×Int×Int×Unit)):=fun (x0,x1,x2,x3,x4,_) =>
 bif decide (x2<(↑x1.length:Int)) then
 bif decide (0≤x2)&&decide (x2≤(↑x1.length:Int)) then
 bif decide (0<(↑(List.drop x2.toNat x1).length:Int)) then
 (f174 ((↑((List.drop x2.toNat x1).getD 0 0).toNat:Int),())).bind fun v =>
 bif v.1 then some (Sum.inl (x0,x1,IntKind.i64.wrap (x2+1),x3,x4,()))
 else
 bif decide ((↑(List.drop x2.toNat x1).length:Int)>2) then
 bif decide (2≤(↑(List.drop x2.toNat x1).length:Int)) then
 bif List.take 2 (List.drop x2.toNat x1)==[13,10] then
 bif decide (2<(↑(List.drop x2.toNat x1).length:Int)) then
 (f174 ((↑((List.drop x2.toNat x1).getD 2 0).toNat:Int),())).bind fun v =>
 (f140_c0 (x0,v.1,x1,x2,x3,x4,())).bind fun v =>
 Sum.elim
 (fun v =>
 some
 (Sum.inl
 (v.1,v.2.1,v.2.2.1,v.2.2.2.1,v.2.2.2.2.1,
 ())))
 (fun v =>
 some
 (Sum.inr
 (Sum.inr
 (v.1,v.2.1,v.2.2.1,v.2.2.2.1,v.2.2.2.2.1,
 ()))))
 v
 else none
 else
 (f140_c0 (x0,false,x1,x2,x3,x4,())).bind fun v =>
 Sum.elim
 (fun v =>
 some
 (Sum.inl
 (v.1,v.2.1,v.2.2.1,v.2.2.2.1,v.2.2.2.2.1,
 ())))
 (fun v =>
 some
 (Sum.inr
 (Sum.inr
 (v.1,v.2.1,v.2.2.1,v.2.2.2.1,v.2.2.2.2.1,
 ()))))
 v
 else none
 else
 (f140_c0 (x0,false,x1,x2,x3,x4,())).bind fun v =>
 Sum.elim
 (fun v =>
 some
 (Sum.inl
 (v.1,v.2.1,v.2.2.1,v.2.2.2.1,v.2.2.2.2.1,
 ())))
 (fun v =>
 some
 (Sum.inr
 (Sum.inr
 (v.1,v.2.1,v.2.2.1,v.2.2.2.1,v.2.2.2.2.1,
 ()))))
 v
 else none
 else none
 else some (Sum.inr (Sum.inl (x0,x1,x2,x3,x4,())))
theorem k2a (f174:q2p) (f140_c0:q4g):AqL (v8v f174) 1 (qe (code Tryz.f140) [1,1,0,0,0]) (k0c f140_c0) w0m w3n (yg f174 f140_c0):=fun v=>by kernel_rfl
def q3k:q8t:=qc (yg xj xu) je
theorem k4e:jf 1 (qe (code Tryz.f140) [1,1,0,0,0]) (y4q q3k) :=
 frm y2r (And.intro k4d trivial) (k2a xj xu)
def b1p (f140_l0:q8t):Ann:=(.seq .nil (.seq .nil (.seq (.blk (.loop (y4q f140_l0))) .nil)))
def x7u (f174:q2p) (f140_l0:q8t):z7i:=fun (x0,x1,x2,x3,_) =>
 (f140_l0 (x1,x0,x1,x2,x3,())).bind fun v =>
 Sum.elim
 (fun v =>
 bif decide (0≤v.2.2.1)&&decide (v.2.2.1≤(↑(List.length v.2.1):Int)) then
 bif decide (0≤v.1)&&decide (v.1≤v.2.2.1) then
 some
 (List.drop (Int.toNat v.1) (List.take (Int.toNat v.2.2.1) v.2.1),v.2.1,
 v.2.2.1,v.2.2.2.1,v.2.2.2.2.1,())
 else none
 else none)
 (fun v=>some (v.1,v.2.1,v.2.2.1,v.2.2.2.1,v.2.2.2.2.1,()))
 v
theorem b6k (f174:q2p) (f140_l0:q8t):ye (v8v f174) 1 Tryz.f140 (b1p f140_l0) q1x q5m (x7u f174 f140_l0):=fun v=>by kernel_rfl
def z6o:z7i:=x7u xj q3k
theorem f3z:FO 140 (g5s z6o) :=
 qo y2r Tryz.func140 (And.intro k4e trivial) (b6k xj q3k)
abbrev q3z:=Int×Int×qa×Int×Int×Int×Int×qa×Int×Unit→Option (qa×Int×Int×Int×Int×qa×Int×Unit)
def y4a (f:q3z):LEnt:=⟨w0n,w3p,f⟩
abbrev x2o:=qa×Int×Int×Int×Unit→Option (Int×qa×Int×qa×Int×Int×Int×Unit)
def g5b (f:x2o):FEnt:=⟨q1x,w3o,f⟩
def w8a (f127:q6e) (f136:z7e) (f137:z7f) (f138:z7g) (f139:z7h) (f140:z7i) (f141:xl) (f90:T90):=lk [(127,v5j f127),(136,g5o f136),(137,g5p f137),(138,g5q f138),(139,g5r f139),(140,g5s f140),(141,x6t f141),(90,E90 f90)]
theorem v1l:zj Tryz.prog (w8a q2d z6k z6l z6m z6n z6o zv C90):=(kc v3l (kc f3v (kc f3w (kc f3x (kc f3y (kc f3z (kc x0h (kc g3o kn))))))))
def ke (f127:q6e) (f136:z7e) (f137:z7f) (f138:z7g) (f139:z7h) (f140:z7i) (f141:xl) (f90:T90):q3z:=fun (x0,x1,x2,x3,x4,x5,x6,x7,x8,_) =>
 (f90 (x1,())).bind fun v =>
 bif v.1 then
 (f136 (x2,x3,x4,x5,())).bind fun v =>
 some (v.2.1,v.2.2.1,v.2.2.2.1,v.2.2.2.2.1,0,v.1,x0,())
 else
 (f127 ([60,62,58,59,64,44,46],x1,())).bind fun v =>
 bif decide (v.1≥0) then
 bif decide (0≤IntKind.i64.wrap (x3+1))&&decide (IntKind.i64.wrap (x3+1)≤(↑x2.length:Int)) then
 bif decide (0≤x0)&&decide (x0≤IntKind.i64.wrap (x3+1)) then
 some
 (x2,IntKind.i64.wrap (x3+1),x4,x5,2,
 List.drop x0.toNat (List.take (IntKind.i64.wrap (x3+1)).toNat x2),x0,())
 else none
 else none
 else
 bif x1==34 then
 (f137 (x2,x3,x4,x5,())).bind fun v =>
 some
 (v.2.1,v.2.2.1,v.2.2.2.1,v.2.2.2.2.1,1,v.1,x0,())
 else
 bif x1==91 then
 (f138 (x2,x3,x4,x5,())).bind fun v =>
 some
 (v.2.1,v.2.2.1,v.2.2.2.1,v.2.2.2.2.1,5,v.1,x0,())
 else
 bif x1==40 then
 (f139 (x2,x3,x4,x5,())).bind fun v =>
 some
 (v.2.1,v.2.2.1,v.2.2.2.1,v.2.2.2.2.1,3,v.1,x0,
 ())
 else
 (f140 (x2,x3,x4,x5,())).bind fun v =>
 bif v.1==[] then
 (f141 (x0,4,v.2.1,v.2.2.1,v.2.2.2.1,v.2.2.2.2.1,())).bind
 fun v1 =>
 some
 (v1.1,v1.2.1,v1.2.2.1,v1.2.2.2.1,4,v.1,x0,())
 else
 some
 (v.2.1,v.2.2.1,v.2.2.2.1,v.2.2.2.2.1,4,v.1,x0,
 ())
theorem k1s (f127:q6e) (f136:z7e) (f137:z7f) (f138:z7g) (f139:z7h) (f140:z7i) (f141:xl) (f90:T90):AqC (w8a f127 f136 f137 f138 f139 f140 f141 f90) 1 (qe (code Tryz.f105) [1,1]) .nil w0n w3p (ke f127 f136 f137 f138 f139 f140 f141 f90):=fun v=>by kernel_rfl
def yy:q3z:=ke q2d z6k z6l z6m z6n z6o zv C90
theorem k3o:zp 1 (qe (code Tryz.f105) [1,1]) (y4a yy) :=
 frc v1l (k1s q2d z6k z6l z6m z6n z6o zv C90)
def b1f (f105_c0:q3z):Ann:=(.seq .nil (.cut .nil (y4a f105_c0)))
def j9i (f127:q6e) (f136:z7e) (f137:z7f) (f138:z7g) (f139:z7h) (f140:z7i) (f141:xl) (f90:T90) (f105_c0:q3z):x2o:=fun (x0,x1,x2,x3,_) =>
 bif decide (0≤x1)&&decide (x1<(↑x0.length:Int)) then
 (f105_c0 (x1,(↑(x0.getD x1.toNat 0).toNat:Int),x0,x1,x2,x3,0,[],0,())).bind fun v =>
 some
 (v.2.2.2.2.1,v.2.2.2.2.2.1,v.2.2.2.2.2.2.1,v.1,v.2.1,
 v.2.2.1,v.2.2.2.1,())
 else none
theorem b6a (f127:q6e) (f136:z7e) (f137:z7f) (f138:z7g) (f139:z7h) (f140:z7i) (f141:xl) (f90:T90) (f105_c0:q3z):ye (w8a f127 f136 f137 f138 f139 f140 f141 f90) 1 Tryz.f105 (b1f f105_c0) q1x w3o (j9i f127 f136 f137 f138 f139 f140 f141 f90 f105_c0):=fun v=>by kernel_rfl
def z1q:x2o:=j9i q2d z6k z6l z6m z6n z6o zv C90 yy
theorem f3h:FO 105 (g5b z1q) :=
 qo v1l Tryz.func105 (And.intro k3o trivial) (b6a q2d z6k z6l z6m z6n z6o zv C90 yy)
abbrev z4s:=qa×LqD×qa×Int×Int×Int×Unit→Option ((LqD×Unit)⊕(Int×Int×Unit))
def x7j (f:z4s):LEnt:=⟨w0o,w3r,f⟩
abbrev T67:=qa×Unit→Option (LqD×Int×Int×Unit)
def E67 (f:T67):FEnt:=⟨xi,w3q,f⟩
def K67 (f105:x2o) (f83:T83):=lk [(105,g5b f105),(83,E83 f83)]
theorem w5a:zj Tryz.prog (K67 z1q C83):=(kc f3h (kc z9o kn))
def q2k (f105:x2o) (f83:T83):yq (qa×LqD×qa×Int×Int×Int×Unit) ((LqD×Unit)⊕(Int×Int×Unit)):=fun (x0,x1,x2,x3,x4,x5,_) =>
 bif decide (x3<(↑x0.length:Int)) then
 (f105 (x2,x3,x4,x5,())).bind fun v =>
 bif decide (x1.length+[(v.1,v.2.1,v.2.2.1)].length≤140737488355328/32) then
 bif v.2.2.2.2.2.2.1 != 0 then
 some (Sum.inr (Sum.inr (v.2.2.2.2.2.1,v.2.2.2.2.2.2.1,())))
 else
 some
 (Sum.inl
 (x0,x1++[(v.1,v.2.1,v.2.2.1)],v.2.2.2.1,v.2.2.2.2.1,
 v.2.2.2.2.2.1,v.2.2.2.2.2.2.1,()))
 else none
 else some (Sum.inr (Sum.inl (x1,())))
def j6z:z4s:=qc (q2k z1q C83) je
theorem g2v:jf 0 (qe (code Tryz.f67) [1,1,1,1,1,0,0,0]) (x7j j6z):=zl2 w0o w3r K67 q2k z1q C83 w5a
def N67 (f67_l0:z4s):Ann:=(.seq .nil (.seq .nil (.seq .nil (.seq .nil (.seq .nil (.seq (.blk (.loop (x7j f67_l0))) .nil))))))
def F67 (f105:x2o) (f83:T83) (f67_l0:z4s):T67:=fun (x0,_) =>
 bif decide ((↑x0.length:Int)>2000) then some ([],0,5,())
 else
 (f83 (x0,())).bind fun v =>
 bif decide (v.2.1≥0) then some ([],v.2.1,7,())
 else
 (f67_l0 (x0,[],x0,0,0,0,())).bind fun v =>
 Sum.elim (fun v=>some (v.1,0,0,())) (fun v=>some ([],v.1,v.2.1,()))
 v
def C67:T67:=F67 z1q C83 j6z
theorem f7o:FO 67 (E67 C67):=j3g xi w3q K67 N67 F67 z1q C83 j6z w5a Tryz.func67 (And.intro g2v trivial)
abbrev q4h:=Int×LqD×Int×qa×qa×Unit→Option (Int×LqD×Int×qa×qa×Unit)
def y4r (f:q4h):LEnt:=⟨w0q,w3t,f⟩
abbrev vq:=Int×LqD×Int×qa×qa×Unit→Option (Int×LqD×Int×qa×qa×Unit)
def x1x (f:vq):FEnt:=⟨w0p,w3s,f⟩
def z2y:q4h:=fun (x0,x1,x2,x3,x4,_) =>
 bif decide (0≤IntKind.i64.wrap (x2+x0))&&decide (IntKind.i64.wrap (x2+x0)<(↑x1.length:Int)) then
 some
 ((x1.getD (IntKind.i64.wrap (x2+x0)).toNat
 (0,([],0))).1,
 x1,x2,x3,x4,())
 else none
def q7a:q4h:=z2y
theorem k4f:zp 1 (qe (code Tryz.f146) [1,1]) (y4r q7a):=zc0 w0q w3t vf z2y kn
def b1q (f146_c0:q4h):Ann:=(.seq .nil (.cut .nil (y4r f146_c0)))
def v6b (f146_c0:q4h):vq:=fun (x0,x1,x2,x3,x4,_) =>
 bif decide (IntKind.i64.wrap (x2+x0)≥(↑x1.length:Int)) then some (-1,x1,x2,x3,x4,())
 else
 (f146_c0 (x0,x1,x2,x3,x4,())).bind fun v =>
 some (v.1,v.2.1,v.2.2.1,v.2.2.2.1,v.2.2.2.2.1,())
theorem b6m (f146_c0:q4h):ye vf 1 Tryz.f146 (b1q f146_c0) w0p w3s (v6b f146_c0):=fun v=>by kernel_rfl
def yl:vq:=v6b q7a
theorem z9m:FO 146 (x1x yl) :=
 qo kn Tryz.func146 (And.intro k4f trivial) (b6m q7a)
end Go.Proofs.YtiacnhhmkdkpmaaGreatDoorA.W
