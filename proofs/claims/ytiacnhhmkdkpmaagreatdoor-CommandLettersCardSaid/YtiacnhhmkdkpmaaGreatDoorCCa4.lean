/- The texts of the proof, one behind the other: W4, W5, W6, W7, W8, XDom, W9, W10. -/
import Derived.Test.YtiacnhhmkdkpmaaGreatDoorCCa3
import Derived.RangeFuncBox
import Derived.OwnWalkIn
import Derived.TacticsInMore
import Derived.LoopNIn
import Derived.LoopIn
import Derived.Sort.LoopGhostIn
import Derived.Maps.AppendAt
set_option maxRecDepth 100000
set_option linter.unusedVariables false
namespace Go.Proofs.YtiacnhhmkdkpmaaGreatDoorC.W
open Go Go.Ae
abbrev j0k:=(Int×Int)×Int×Int×Int×List (Int)×qq×qu×qv×Unit→Option ((Int×Int)×Int×Int×List (Int)×qq×qu×qv×Unit)
def x0b (f:j0k):LEnt:=⟨f6e,f6x,f⟩
abbrev wi:=(Int×Int)×Int×Int×Int×List (Int)×qq×qu×qv×Unit→Option (List (Int)×qq×qu×qv×Unit)
def f4q (f:wi):FEnt:=⟨y4e,j1u,f⟩
def g4p (f316:y4o):=lk [(316,f4r f316)]
theorem v5m:zb Tryz.prog (g4p z8v):=(kc b3q kn)
def z5p (f316:y4o):yh ((Int×Int)×Int×Int×Int×List (Int)×qq×qu×qv×Unit) ((Int×Int)×Int×Int×List (Int)×qq×qu×qv×Unit):=fun (x0,x1,x2,x3,x4,x5,x6,x7,_)=>bif x2 != x3 then bif decide (x2>x3) then (f316 (((↑(Int.toNat x0.1):Int),(↑(Int.toNat x0.2):Int)),IntKind.i64.wrap (x1-x2),x1,x3,x4,x5,x6,x7,())).bind fun v=>some (Sum.inl (((↑(Int.toNat x0.1):Int),(↑(Int.toNat x0.2):Int)),x1,IntKind.i64.wrap (x2-x3),x3,v.1,v.2.1,v.2.2.1,v.2.2.2.1,())) else (f316 (((↑(Int.toNat x0.1):Int),(↑(Int.toNat x0.2):Int)),IntKind.i64.wrap (x1-x2),IntKind.i64.wrap (IntKind.i64.wrap (x1+x3)-x2),x2,x4,x5,x6,x7,())).bind fun v=>some (Sum.inl (((↑(Int.toNat x0.1):Int),(↑(Int.toNat x0.2):Int)),x1,x2,IntKind.i64.wrap (x3-x2),v.1,v.2.1,v.2.2.1,v.2.2.2.1,())) else some (Sum.inr (((↑(Int.toNat x0.1):Int),(↑(Int.toNat x0.2):Int)),x1,x2,x4,x5,x6,x7,()))
def z3l:j0k:=qc (z5p z8v) jc
theorem k9y:jf 2 (qe (code Tryz.f315) [1,1,0,0,0]) (x0b z3l):=zl1 f6e f6x g4p z5p z8v v5m
def b9d (f315_l0:j0k):Ann:=(.seq .nil (.seq .nil (.seq (.blk (.loop (x0b f315_l0))) .nil)))
def g3l (f316:y4o) (f315_l0:j0k):wi:=fun (x0,x1,x2,x3,x4,x5,x6,x7,_)=>(f315_l0 (((↑(Int.toNat x0.1):Int),(↑(Int.toNat x0.2):Int)),x2,IntKind.i64.wrap (x2-x1),IntKind.i64.wrap (x3-x2),x4,x5,x6,x7,())).bind fun v=>(f316 (((↑(Int.toNat v.1.1):Int),(↑(Int.toNat v.1.2):Int)),IntKind.i64.wrap (v.2.1-v.2.2.1),v.2.1,v.2.2.1,v.2.2.2.1,v.2.2.2.2.1,v.2.2.2.2.2.1,v.2.2.2.2.2.2.1,())).bind fun v=>some (v.1,v.2.1,v.2.2.1,v.2.2.2.1,())
theorem d4w (f316:y4o) (f315_l0:j0k):zw (g4p f316) 2 Tryz.f315 (b9d f315_l0) y4e j1u (g3l f316 f315_l0):=fun v=>by kernel_rfl
def yn:wi:=g3l z8v z3l
theorem b3p:FO 315 (f4q yn) :=
 qo v5m Tryz.func315 (And.intro k9y trivial) (d4w z8v z3l)
abbrev j0f:=(Int×Int)×Int×Int×Int×List (Int)×qq×qu×qv×Unit→Option ((Int×Int)×Int×Int×List (Int)×qq×qu×qv×Unit)
def y9w (f:j0f):LEnt:=⟨k2h,k2t,f⟩
abbrev j0g:=(Int×Int)×Int×Int×List (Int)×qq×qu×qv×Unit→Option (List (Int)×qq×qu×qv×Unit)
def y9x (f:j0g):LEnt:=⟨k2i,k2u,f⟩
abbrev j0h:=(Int×Int)×Int×Int×Int×List (Int)×qq×qu×qv×Unit→Option ((Int×Int)×Int×Int×List (Int)×qq×qu×qv×Unit)
def y9y (f:j0h):LEnt:=⟨k2j,k2v,f⟩
abbrev j0i:=(Int×Int)×Int×Int×List (Int)×qq×qu×qv×Unit→Option (List (Int)×qq×qu×qv×Unit)
def y9z (f:j0i):LEnt:=⟨k2k,k2w,f⟩
abbrev j0j:=(Int×Int)×Int×Int×Int×Int×Int×Int×Int×Int×List (Int)×qq×qu×qv×Unit→Option ((Int×Int)×Int×Int×Int×Int×Int×Int×List (Int)×qq×qu×qv×Unit)
def x0a (f:j0j):LEnt:=⟨k2l,k2x,f⟩
abbrev q5a:=(Int×Int)×Int×Int×Int×List (Int)×qq×qu×qv×Unit→Option (List (Int)×qq×qu×qv×Unit)
def y9t (f:q5a):LEnt:=⟨g4s,z5s,f⟩
abbrev q5b:=(Int×Int)×Int×Int×Int×Int×Int×List (Int)×qq×qu×qv×Unit→Option (List (Int)×qq×qu×qv×Unit)
def y9u (f:q5b):LEnt:=⟨g4t,z5s,f⟩
abbrev q5c:=(Int×Int)×Int×Int×Int×Int×Int×Int×Int×List (Int)×qq×qu×qv×Unit→Option (List (Int)×qq×qu×qv×Unit)
def y9v (f:q5c):LEnt:=⟨g4u,z5s,f⟩
abbrev jr:=(Int×Int)×Int×Int×Int×List (Int)×qq×qu×qv×Unit→Option (List (Int)×qq×qu×qv×Unit)
def j3o (f:jr):FEnt:=⟨y4e,j1u,f⟩
def j9w (f278:xa) (f311:jr) (f315:wi):=lk [(278,g1p f278),(311,j3o f311),(315,f4q f315)]
theorem q1q (G:jr) (hG:za Tryz.prog 311 (j3o G)):zb Tryz.prog (j9w zr G yn):=(kc g0m (kc hG (kc b3p kn)))
def j5j (f278:xa) (f311:jr) (f315:wi):yh ((Int×Int)×Int×Int×Int×List (Int)×qq×qu×qv×Unit) ((Int×Int)×Int×Int×List (Int)×qq×qu×qv×Unit):=fun (x0,x1,x2,x3,x4,x5,x6,x7,_)=>bif decide (x2<x3) then bif decide (0≤IntKind.i64.wrap ((IntKind.u64.wrap (IntKind.i64.wrap (x2+x3))).fdiv (2^min 1 IntKind.u64.bits)))&&decide (IntKind.i64.wrap ((IntKind.u64.wrap (IntKind.i64.wrap (x2+x3))).fdiv (2^min 1 IntKind.u64.bits))<(↑(Int.toNat x0.2):Int)) then bif decide (0≤x1)&&decide (x1<(↑(Int.toNat x0.2):Int)) then (f278 (x4.getD (Int.toNat x0.1+(IntKind.i64.wrap ((IntKind.u64.wrap (IntKind.i64.wrap (x2+x3))).fdiv (2^min 1 IntKind.u64.bits))).toNat) 0,x4.getD (Int.toNat x0.1+x1.toNat) 0,x5,x6,x7,())).bind fun v=>bif decide (v.1<0) then some (Sum.inl (((↑(Int.toNat x0.1):Int),(↑(Int.toNat x0.2):Int)),x1,IntKind.i64.wrap (IntKind.i64.wrap ((IntKind.u64.wrap (IntKind.i64.wrap (x2+x3))).fdiv (2^min 1 IntKind.u64.bits))+1),x3,x4,v.2.1,v.2.2.1,v.2.2.2.1,())) else some (Sum.inl (((↑(Int.toNat x0.1):Int),(↑(Int.toNat x0.2):Int)),x1,x2,IntKind.i64.wrap ((IntKind.u64.wrap (IntKind.i64.wrap (x2+x3))).fdiv (2^min 1 IntKind.u64.bits)),x4,v.2.1,v.2.2.1,v.2.2.2.1,())) else none else none else some (Sum.inr (((↑(Int.toNat x0.1):Int),(↑(Int.toNat x0.2):Int)),x1,x2,x4,x5,x6,x7,()))
theorem k6h (f278:xa) (f311:jr) (f315:wi):AqL (j9w f278 f311 f315) 2 (qe (code Tryz.f311) [0,1,0,1,1,0,0,0]) .nil k2h k2t (j5j f278 f311 f315):=fun v=>by kernel_rfl
def wt (G:jr):j0f:=qc (j5j zr G yn) jc
theorem k9t (G:jr) (hG:za Tryz.prog 311 (j3o G)):jf 2 (qe (code Tryz.f311) [0,1,0,1,1,0,0,0]) (y9w (wt G)) :=
 zz (ins:=k2h) (os:=k2t) (C:=(wt G)) (xn (ins:=k2h) (os:=k2t) (n := .nil) (F:=j5j zr G yn) hm hΓ (q1q G hG) (fun _=>jc) (jh _) (k6h zr G yn)) rfl
def j5k (f278:xa) (f311:jr) (f315:wi):yh ((Int×Int)×Int×Int×List (Int)×qq×qu×qv×Unit) (List (Int)×qq×qu×qv×Unit):=fun (x0,x1,x2,x3,x4,x5,x6,_)=>bif decide (x2<IntKind.i64.wrap (x1-1)) then bif decide (0≤IntKind.i64.wrap (x2+1))&&decide (IntKind.i64.wrap (x2+1)<(↑(Int.toNat x0.2):Int)) then bif decide (0≤x2)&&decide (x2<(↑(Int.toNat x0.2):Int)) then bif decide (0≤x2)&&decide (x2<(↑(Int.toNat x0.2):Int)) then bif decide (0≤IntKind.i64.wrap (x2+1))&&decide (IntKind.i64.wrap (x2+1)<(↑(Int.toNat x0.2):Int)) then some (Sum.inl (((↑(Int.toNat x0.1):Int),(↑(Int.toNat x0.2):Int)),x1,IntKind.i64.wrap (x2+1),(x3.set (Int.toNat x0.1+x2.toNat) (x3.getD (Int.toNat x0.1+(IntKind.i64.wrap (x2+1)).toNat) 0)).set (Int.toNat x0.1+(IntKind.i64.wrap (x2+1)).toNat) (x3.getD (Int.toNat x0.1+x2.toNat) 0),x4,x5,x6,())) else none else none else none else none else some (Sum.inr (x3,x4,x5,x6,()))
theorem k6i (f278:xa) (f311:jr) (f315:wi):AqL (j9w f278 f311 f315) 2 (qe (code Tryz.f311) [0,1,0,1,1,1,0,1,0,0]) .nil k2i k2u (j5k f278 f311 f315):=fun v=>by kernel_rfl
def wu (G:jr):j0g:=qc (j5k zr G yn) jc
theorem k9u (G:jr) (hG:za Tryz.prog 311 (j3o G)):jf 2 (qe (code Tryz.f311) [0,1,0,1,1,1,0,1,0,0]) (y9x (wu G)) :=
 zz (ins:=k2i) (os:=k2u) (C:=(wu G)) (xn (ins:=k2i) (os:=k2u) (n := .nil) (F:=j5k zr G yn) hm hΓ (q1q G hG) (fun _=>jc) (jh _) (k6i zr G yn)) rfl
def j5l (f278:xa) (f311:jr) (f315:wi):yh ((Int×Int)×Int×Int×Int×List (Int)×qq×qu×qv×Unit) ((Int×Int)×Int×Int×List (Int)×qq×qu×qv×Unit):=fun (x0,x1,x2,x3,x4,x5,x6,x7,_)=>bif decide (x2<x3) then bif decide (0≤x1)&&decide (x1<(↑(Int.toNat x0.2):Int)) then bif decide (0≤IntKind.i64.wrap ((IntKind.u64.wrap (IntKind.i64.wrap (x2+x3))).fdiv (2^min 1 IntKind.u64.bits)))&&decide (IntKind.i64.wrap ((IntKind.u64.wrap (IntKind.i64.wrap (x2+x3))).fdiv (2^min 1 IntKind.u64.bits))<(↑(Int.toNat x0.2):Int)) then (f278 (x4.getD (Int.toNat x0.1+x1.toNat) 0,x4.getD (Int.toNat x0.1+(IntKind.i64.wrap ((IntKind.u64.wrap (IntKind.i64.wrap (x2+x3))).fdiv (2^min 1 IntKind.u64.bits))).toNat) 0,x5,x6,x7,())).bind fun v=>bif !decide (v.1<0) then some (Sum.inl (((↑(Int.toNat x0.1):Int),(↑(Int.toNat x0.2):Int)),x1,IntKind.i64.wrap (IntKind.i64.wrap ((IntKind.u64.wrap (IntKind.i64.wrap (x2+x3))).fdiv (2^min 1 IntKind.u64.bits))+1),x3,x4,v.2.1,v.2.2.1,v.2.2.2.1,())) else some (Sum.inl (((↑(Int.toNat x0.1):Int),(↑(Int.toNat x0.2):Int)),x1,x2,IntKind.i64.wrap ((IntKind.u64.wrap (IntKind.i64.wrap (x2+x3))).fdiv (2^min 1 IntKind.u64.bits)),x4,v.2.1,v.2.2.1,v.2.2.2.1,())) else none else none else some (Sum.inr (((↑(Int.toNat x0.1):Int),(↑(Int.toNat x0.2):Int)),x1,x2,x4,x5,x6,x7,()))
theorem k6j (f278:xa) (f311:jr) (f315:wi):AqL (j9w f278 f311 f315) 2 (qe (code Tryz.f311) [1,0,1,0,1,1,0,0,0]) .nil k2j k2v (j5l f278 f311 f315):=fun v=>by kernel_rfl
def wv (G:jr):j0h:=qc (j5l zr G yn) jc
theorem k9v (G:jr) (hG:za Tryz.prog 311 (j3o G)):jf 2 (qe (code Tryz.f311) [1,0,1,0,1,1,0,0,0]) (y9y (wv G)) :=
 zz (ins:=k2j) (os:=k2v) (C:=(wv G)) (xn (ins:=k2j) (os:=k2v) (n := .nil) (F:=j5l zr G yn) hm hΓ (q1q G hG) (fun _=>jc) (jh _) (k6j zr G yn)) rfl
def j5m (f278:xa) (f311:jr) (f315:wi):yh ((Int×Int)×Int×Int×List (Int)×qq×qu×qv×Unit) (List (Int)×qq×qu×qv×Unit):=fun (x0,x1,x2,x3,x4,x5,x6,_)=>bif decide (x2>x1) then bif decide (0≤IntKind.i64.wrap (x2-1))&&decide (IntKind.i64.wrap (x2-1)<(↑(Int.toNat x0.2):Int)) then bif decide (0≤x2)&&decide (x2<(↑(Int.toNat x0.2):Int)) then bif decide (0≤x2)&&decide (x2<(↑(Int.toNat x0.2):Int)) then bif decide (0≤IntKind.i64.wrap (x2-1))&&decide (IntKind.i64.wrap (x2-1)<(↑(Int.toNat x0.2):Int)) then some (Sum.inl (((↑(Int.toNat x0.1):Int),(↑(Int.toNat x0.2):Int)),x1,IntKind.i64.wrap (x2-1),(x3.set (Int.toNat x0.1+x2.toNat) (x3.getD (Int.toNat x0.1+(IntKind.i64.wrap (x2-1)).toNat) 0)).set (Int.toNat x0.1+(IntKind.i64.wrap (x2-1)).toNat) (x3.getD (Int.toNat x0.1+x2.toNat) 0),x4,x5,x6,())) else none else none else none else none else some (Sum.inr (x3,x4,x5,x6,()))
theorem k6k (f278:xa) (f311:jr) (f315:wi):AqL (j9w f278 f311 f315) 2 (qe (code Tryz.f311) [1,0,1,0,1,1,1,0,1,0,0]) .nil k2k k2w (j5m f278 f311 f315):=fun v=>by kernel_rfl
def ww (G:jr):j0i:=qc (j5m zr G yn) jc
theorem k9w (G:jr) (hG:za Tryz.prog 311 (j3o G)):jf 2 (qe (code Tryz.f311) [1,0,1,0,1,1,1,0,1,0,0]) (y9z (ww G)) :=
 zz (ins:=k2k) (os:=k2w) (C:=(ww G)) (xn (ins:=k2k) (os:=k2w) (n := .nil) (F:=j5m zr G yn) hm hΓ (q1q G hG) (fun _=>jc) (jh _) (k6k zr G yn)) rfl
def j5n (f278:xa) (f311:jr) (f315:wi):yh ((Int×Int)×Int×Int×Int×Int×Int×Int×Int×Int×List (Int)×qq×qu×qv×Unit) ((Int×Int)×Int×Int×Int×Int×Int×Int×List (Int)×qq×qu×qv×Unit):=fun (x0,x1,x2,x3,x4,x5,x6,x7,x8,x9,x10,x11,x12,_)=>bif decide (x6<x7) then bif decide (0≤IntKind.i64.wrap (x8-IntKind.i64.wrap ((IntKind.u64.wrap (IntKind.i64.wrap (x6+x7))).fdiv (2^min 1 IntKind.u64.bits))))&&decide (IntKind.i64.wrap (x8-IntKind.i64.wrap ((IntKind.u64.wrap (IntKind.i64.wrap (x6+x7))).fdiv (2^min 1 IntKind.u64.bits)))<(↑(Int.toNat x0.2):Int)) then bif decide (0≤IntKind.i64.wrap ((IntKind.u64.wrap (IntKind.i64.wrap (x6+x7))).fdiv (2^min 1 IntKind.u64.bits)))&&decide (IntKind.i64.wrap ((IntKind.u64.wrap (IntKind.i64.wrap (x6+x7))).fdiv (2^min 1 IntKind.u64.bits))<(↑(Int.toNat x0.2):Int)) then (f278 (x9.getD (Int.toNat x0.1+(IntKind.i64.wrap (x8-IntKind.i64.wrap ((IntKind.u64.wrap (IntKind.i64.wrap (x6+x7))).fdiv (2^min 1 IntKind.u64.bits)))).toNat) 0,x9.getD (Int.toNat x0.1+(IntKind.i64.wrap ((IntKind.u64.wrap (IntKind.i64.wrap (x6+x7))).fdiv (2^min 1 IntKind.u64.bits))).toNat) 0,x10,x11,x12,())).bind fun v=>bif !decide (v.1<0) then some (Sum.inl (((↑(Int.toNat x0.1):Int),(↑(Int.toNat x0.2):Int)),x1,x2,x3,x4,x5,IntKind.i64.wrap (IntKind.i64.wrap ((IntKind.u64.wrap (IntKind.i64.wrap (x6+x7))).fdiv (2^min 1 IntKind.u64.bits))+1),x7,x8,x9,v.2.1,v.2.2.1,v.2.2.2.1,())) else some (Sum.inl (((↑(Int.toNat x0.1):Int),(↑(Int.toNat x0.2):Int)),x1,x2,x3,x4,x5,x6,IntKind.i64.wrap ((IntKind.u64.wrap (IntKind.i64.wrap (x6+x7))).fdiv (2^min 1 IntKind.u64.bits)),x8,x9,v.2.1,v.2.2.1,v.2.2.2.1,())) else none else none else some (Sum.inr (((↑(Int.toNat x0.1):Int),(↑(Int.toNat x0.2):Int)),x1,x2,x3,x4,x5,x6,x9,x10,x11,x12,()))
theorem k6l (f278:xa) (f311:jr) (f315:wi):AqL (j9w f278 f311 f315) 2 (qe (code Tryz.f311) [1,1,1,1,1,1,1,0,0,0]) .nil k2l k2x (j5n f278 f311 f315):=fun v=>by kernel_rfl
def q1e (G:jr):j0j:=qc (j5n zr G yn) jc
theorem k9x (G:jr) (hG:za Tryz.prog 311 (j3o G)):jf 2 (qe (code Tryz.f311) [1,1,1,1,1,1,1,0,0,0]) (x0a (q1e G)) :=
 zz (ins:=k2l) (os:=k2x) (C:=(q1e G)) (xn (ins:=k2l) (os:=k2x) (n := .nil) (F:=j5n zr G yn) hm hΓ (q1q G hG) (fun _=>jc) (jh _) (k6l zr G yn)) rfl
def j5g (f278:xa) (f311:jr) (f315:wi):q5a:=fun (x0,x1,x2,x3,x4,x5,x6,x7,_)=>bif decide (x2<x3) then bif decide (x3<x1) then (f311 (((↑(Int.toNat x0.1):Int),(↑(Int.toNat x0.2):Int)),x2,x3,x1,x4,x5,x6,x7,())).bind fun v=>some (v.1,v.2.1,v.2.2.1,v.2.2.2.1,()) else some (x4,x5,x6,x7,()) else some (x4,x5,x6,x7,())
theorem k6e (f278:xa) (f311:jr) (f315:wi):AqC (j9w f278 f311 f315) 2 (qe (code Tryz.f311) [1,1,1,1,1,1,1,1,1,1,1]) .nil g4s z5s (j5g f278 f311 f315):=fun v=>by kernel_rfl
def wn (G:jr):q5a:=j5g zr G yn
theorem k9q (G:jr) (hG:za Tryz.prog 311 (j3o G)):jy 2 (qe (code Tryz.f311) [1,1,1,1,1,1,1,1,1,1,1]) (y9t (wn G)) :=
 kb (ins:=g4s) (os:=z5s) (n := .nil) (F:=(wn G)) hm hΓ (q1q G hG) (jh _) (k6e zr G yn)
def x1u (f311_c0:q5a):Ann:=(.cut .nil (y9t f311_c0))
def j5h (f278:xa) (f311:jr) (f315:wi) (f311_c0:q5a):q5b:=fun (x0,x1,x2,x3,x4,x5,x6,x7,x8,x9,_)=>bif decide (x1<x4) then bif decide (x4<x3) then (f311 (((↑(Int.toNat x0.1):Int),(↑(Int.toNat x0.2):Int)),x1,x4,x3,x6,x7,x8,x9,())).bind fun v=>(f311_c0 (((↑(Int.toNat x0.1):Int),(↑(Int.toNat x0.2):Int)),x2,x3,x5,v.1,v.2.1,v.2.2.1,v.2.2.2.1,())).bind fun v=>some (v.1,v.2.1,v.2.2.1,v.2.2.2.1,()) else (f311_c0 (((↑(Int.toNat x0.1):Int),(↑(Int.toNat x0.2):Int)),x2,x3,x5,x6,x7,x8,x9,())).bind fun v=>some (v.1,v.2.1,v.2.2.1,v.2.2.2.1,()) else (f311_c0 (((↑(Int.toNat x0.1):Int),(↑(Int.toNat x0.2):Int)),x2,x3,x5,x6,x7,x8,x9,())).bind fun v=>some (v.1,v.2.1,v.2.2.1,v.2.2.2.1,())
theorem k6f (f278:xa) (f311:jr) (f315:wi) (f311_c0:q5a):AqC (j9w f278 f311 f315) 2 (qe (code Tryz.f311) [1,1,1,1,1,1,1,1,1,1]) (x1u f311_c0) g4t z5s (j5h f278 f311 f315 f311_c0):=fun v=>by kernel_rfl
def wo (G:jr):q5b:=j5h zr G yn (wn G)
theorem k9r (G:jr) (hG:za Tryz.prog 311 (j3o G)):jy 2 (qe (code Tryz.f311) [1,1,1,1,1,1,1,1,1,1]) (y9u (wo G)) :=
 kb (ins:=g4t) (os:=z5s) (n:=(x1u (wn G))) (F:=(wo G)) hm hΓ (q1q G hG) (wz (And.intro (k9q G hG) trivial) (by kernel_rfl)) (k6f zr G yn (wn G))
def x1v (f311_c1:q5b) (f311_l4:j0j):Ann:=(.seq .nil (.seq (.blk (.loop (x0a f311_l4))) (.seq .nil (.cut .nil (y9u f311_c1)))))
def j5i (f278:xa) (f311:jr) (f315:wi) (f311_c1:q5b) (f311_l4:j0j):q5c:=fun (x0,x1,x2,x3,x4,x5,x6,x7,x8,x9,x10,x11,_)=>(f311_l4 (((↑(Int.toNat x0.1):Int),(↑(Int.toNat x0.2):Int)),x1,x2,x3,x4,x5,x6,x7,IntKind.i64.wrap (x5-1),x8,x9,x10,x11,())).bind fun v=>bif decide (v.2.2.2.2.2.2.1<v.2.2.1) then bif decide (v.2.2.1<IntKind.i64.wrap (v.2.2.2.2.2.1-v.2.2.2.2.2.2.1)) then (f315 (((↑(Int.toNat v.1.1):Int),(↑(Int.toNat v.1.2):Int)),v.2.2.2.2.2.2.1,v.2.2.1,IntKind.i64.wrap (v.2.2.2.2.2.1-v.2.2.2.2.2.2.1),v.2.2.2.2.2.2.2.1,v.2.2.2.2.2.2.2.2.1,v.2.2.2.2.2.2.2.2.2.1,v.2.2.2.2.2.2.2.2.2.2.1,())).bind fun v1=>(f311_c1 (((↑(Int.toNat v.1.1):Int),(↑(Int.toNat v.1.2):Int)),v.2.1,v.2.2.2.1,v.2.2.2.2.1,v.2.2.2.2.2.2.1,IntKind.i64.wrap (v.2.2.2.2.2.1-v.2.2.2.2.2.2.1),v1.1,v1.2.1,v1.2.2.1,v1.2.2.2.1,())).bind fun v=>some (v.1,v.2.1,v.2.2.1,v.2.2.2.1,()) else (f311_c1 (((↑(Int.toNat v.1.1):Int),(↑(Int.toNat v.1.2):Int)),v.2.1,v.2.2.2.1,v.2.2.2.2.1,v.2.2.2.2.2.2.1,IntKind.i64.wrap (v.2.2.2.2.2.1-v.2.2.2.2.2.2.1),v.2.2.2.2.2.2.2.1,v.2.2.2.2.2.2.2.2.1,v.2.2.2.2.2.2.2.2.2.1,v.2.2.2.2.2.2.2.2.2.2.1,())).bind fun v=>some (v.1,v.2.1,v.2.2.1,v.2.2.2.1,()) else (f311_c1 (((↑(Int.toNat v.1.1):Int),(↑(Int.toNat v.1.2):Int)),v.2.1,v.2.2.2.1,v.2.2.2.2.1,v.2.2.2.2.2.2.1,IntKind.i64.wrap (v.2.2.2.2.2.1-v.2.2.2.2.2.2.1),v.2.2.2.2.2.2.2.1,v.2.2.2.2.2.2.2.2.1,v.2.2.2.2.2.2.2.2.2.1,v.2.2.2.2.2.2.2.2.2.2.1,())).bind fun v=>some (v.1,v.2.1,v.2.2.1,v.2.2.2.1,())
theorem k6g (f278:xa) (f311:jr) (f315:wi) (f311_c1:q5b) (f311_l4:j0j):AqC (j9w f278 f311 f315) 2 (qe (code Tryz.f311) [1,1,1,1,1,1]) (x1v f311_c1 f311_l4) g4u z5s (j5i f278 f311 f315 f311_c1 f311_l4):=fun v=>by kernel_rfl
def wq (G:jr):q5c:=j5i zr G yn (wo G) (q1e G)
theorem k9s (G:jr) (hG:za Tryz.prog 311 (j3o G)):jy 2 (qe (code Tryz.f311) [1,1,1,1,1,1]) (y9v (wq G)) :=
 kb (ins:=g4u) (os:=z5s) (n:=(x1v (wo G) (q1e G))) (F:=(wq G)) hm hΓ (q1q G hG) (wz (And.intro (k9x G hG) (And.intro (k9r G hG) trivial)) (by kernel_rfl)) (k6g zr G yn (wo G) (q1e G))
def b9c (f311_c2:q5c) (f311_l0:j0f) (f311_l1:j0g) (f311_l2:j0h) (f311_l3:j0i):Ann:=(.seq (.seq .nil (.cond (.seq .nil (.seq .nil (.seq (.blk (.loop (y9w f311_l0))) (.seq (.seq .nil (.blk (.loop (y9x f311_l1)))) .nil)))) .nil)) (.seq (.seq .nil (.cond (.seq .nil (.seq .nil (.seq (.blk (.loop (y9y f311_l2))) (.seq (.seq .nil (.blk (.loop (y9z f311_l3)))) .nil)))) .nil)) (.seq .nil (.seq .nil (.seq .nil (.cut .nil (y9v f311_c2)))))))
def x4r (f278:xa) (f311:jr) (f315:wi) (f311_c2:q5c) (f311_l0:j0f) (f311_l1:j0g) (f311_l2:j0h) (f311_l3:j0i):jr:=fun (x0,x1,x2,x3,x4,x5,x6,x7,_)=>bif IntKind.i64.wrap (x2-x1)==1 then (f311_l0 (((↑(Int.toNat x0.1):Int),(↑(Int.toNat x0.2):Int)),x1,x2,x3,x4,x5,x6,x7,())).bind fun v=>(f311_l1 (((↑(Int.toNat v.1.1):Int),(↑(Int.toNat v.1.2):Int)),v.2.2.1,v.2.1,v.2.2.2.1,v.2.2.2.2.1,v.2.2.2.2.2.1,v.2.2.2.2.2.2.1,())).bind fun v=>some (v.1,v.2.1,v.2.2.1,v.2.2.2.1,()) else bif IntKind.i64.wrap (x3-x2)==1 then (f311_l2 (((↑(Int.toNat x0.1):Int),(↑(Int.toNat x0.2):Int)),x2,x1,x2,x4,x5,x6,x7,())).bind fun v=>(f311_l3 (((↑(Int.toNat v.1.1):Int),(↑(Int.toNat v.1.2):Int)),v.2.2.1,v.2.1,v.2.2.2.1,v.2.2.2.2.1,v.2.2.2.2.2.1,v.2.2.2.2.2.2.1,())).bind fun v=>some (v.1,v.2.1,v.2.2.1,v.2.2.2.1,()) else bif decide (x2>IntKind.i64.wrap ((IntKind.u64.wrap (IntKind.i64.wrap (x1+x3))).fdiv (2^min 1 IntKind.u64.bits))) then (f311_c2 (((↑(Int.toNat x0.1):Int),(↑(Int.toNat x0.2):Int)),x1,x2,x3,IntKind.i64.wrap ((IntKind.u64.wrap (IntKind.i64.wrap (x1+x3))).fdiv (2^min 1 IntKind.u64.bits)),IntKind.i64.wrap (IntKind.i64.wrap ((IntKind.u64.wrap (IntKind.i64.wrap (x1+x3))).fdiv (2^min 1 IntKind.u64.bits))+x2),IntKind.i64.wrap (IntKind.i64.wrap (IntKind.i64.wrap ((IntKind.u64.wrap (IntKind.i64.wrap (x1+x3))).fdiv (2^min 1 IntKind.u64.bits))+x2)-x3),IntKind.i64.wrap ((IntKind.u64.wrap (IntKind.i64.wrap (x1+x3))).fdiv (2^min 1 IntKind.u64.bits)),x4,x5,x6,x7,())).bind fun v=>some (v.1,v.2.1,v.2.2.1,v.2.2.2.1,()) else (f311_c2 (((↑(Int.toNat x0.1):Int),(↑(Int.toNat x0.2):Int)),x1,x2,x3,IntKind.i64.wrap ((IntKind.u64.wrap (IntKind.i64.wrap (x1+x3))).fdiv (2^min 1 IntKind.u64.bits)),IntKind.i64.wrap (IntKind.i64.wrap ((IntKind.u64.wrap (IntKind.i64.wrap (x1+x3))).fdiv (2^min 1 IntKind.u64.bits))+x2),x1,x2,x4,x5,x6,x7,())).bind fun v=>some (v.1,v.2.1,v.2.2.1,v.2.2.2.1,())
theorem d4v (f278:xa) (f311:jr) (f315:wi) (f311_c2:q5c) (f311_l0:j0f) (f311_l1:j0g) (f311_l2:j0h) (f311_l3:j0i):zw (j9w f278 f311 f315) 2 Tryz.f311 (b9c f311_c2 f311_l0 f311_l1 f311_l2 f311_l3) y4e j1u (x4r f278 f311 f315 f311_c2 f311_l0 f311_l1 f311_l2 f311_l3):=fun v=>by kernel_rfl
def j6x:jr:=j2s (fun G=>x4r zr G yn (wq G) (wt G) (wu G) (wv G) (ww G)) jc
theorem b3m:FO 311 (j3o j6x) :=
 y5a (ins:=y4e) (os:=j1u) (F:=fun G=>x4r zr G yn (wq G) (wt G) (wu G) (wv G) (ww G)) (fun G hG=>qo (q1q G hG) Tryz.func311 (And.intro (k9t G hG) (And.intro (k9u G hG) (And.intro (k9v G hG) (And.intro (k9w G hG) (And.intro (k9s G hG) trivial))))) (d4v zr G yn (wq G) (wt G) (wu G) (wv G) (ww G))) jc
abbrev q9x:=(Int×Int)×Int×Int×Int×Int×List (Int)×qq×qu×qv×Unit→Option ((Int×Int)×Int×Int×Int×List (Int)×qq×qu×qv×Unit)
def y9k (f:q9x):LEnt:=⟨k2m,f6y,f⟩
abbrev q9y:=(Int×Int)×Int×Int×Int×Int×List (Int)×qq×qu×qv×Unit→Option ((Int×Int)×Int×Int×Int×List (Int)×qq×qu×qv×Unit)
def y9l (f:q9y):LEnt:=⟨k2m,w5g,f⟩
abbrev q9z:=(Int×Int)×Int×Int×List (Int)×qq×qu×qv×Unit→Option (List (Int)×qq×qu×qv×Unit)
def y9m (f:q9z):LEnt:=⟨w1l,w5h,f⟩
abbrev x6t:=(Int×Int)×Int×List (Int)×qq×qu×qv×Unit→Option (List (Int)×qq×qu×qv×Unit)
def f4g (f:x6t):FEnt:=⟨f6f,j1u,f⟩
def v1u (f310:z0f) (f311:jr):=lk [(310,f4n f310),(311,j3o f311)]
theorem z7c:zb Tryz.prog (v1u j3n j6x):=(kc b3l (kc b3m kn))
def z5g (f310:z0f) (f311:jr):yh ((Int×Int)×Int×Int×Int×Int×List (Int)×qq×qu×qv×Unit) ((Int×Int)×Int×Int×Int×List (Int)×qq×qu×qv×Unit):=fun (x0,x1,x2,x3,x4,x5,x6,x7,x8,_)=>bif decide (x4≤x1) then (f310 (((↑(Int.toNat x0.1):Int),(↑(Int.toNat x0.2):Int)),x3,x4,x5,x6,x7,x8,())).bind fun v=>some (Sum.inl (((↑(Int.toNat x0.1):Int),(↑(Int.toNat x0.2):Int)),x1,x2,x4,IntKind.i64.wrap (x4+x2),v.1,v.2.1,v.2.2.1,v.2.2.2.1,())) else some (Sum.inr (((↑(Int.toNat x0.1):Int),(↑(Int.toNat x0.2):Int)),x1,x2,x3,x5,x6,x7,x8,()))
def j4n:q9x:=qc (z5g j3n j6x) jc
theorem k9h:jf 2 (qe (code Tryz.f299) [1,1,0,0,0]) (y9k j4n):=zl2 k2m f6y v1u z5g j3n j6x z7c
def z5h (f310:z0f) (f311:jr):yh ((Int×Int)×Int×Int×Int×Int×List (Int)×qq×qu×qv×Unit) ((Int×Int)×Int×Int×Int×List (Int)×qq×qu×qv×Unit):=fun (x0,x1,x2,x3,x4,x5,x6,x7,x8,_)=>bif decide (x4≤x1) then (f311 (((↑(Int.toNat x0.1):Int),(↑(Int.toNat x0.2):Int)),x3,IntKind.i64.wrap (x3+x2),x4,x5,x6,x7,x8,())).bind fun v=>some (Sum.inl (((↑(Int.toNat x0.1):Int),(↑(Int.toNat x0.2):Int)),x1,x2,x4,IntKind.i64.wrap (x4+IntKind.i64.wrap (2*x2)),v.1,v.2.1,v.2.2.1,v.2.2.2.1,())) else some (Sum.inr (((↑(Int.toNat x0.1):Int),(↑(Int.toNat x0.2):Int)),x1,x2,x3,x5,x6,x7,x8,()))
def j4o:q9y:=qc (z5h j3n j6x) jc
theorem k9i:jf 2 (qe (code Tryz.f299) [1,1,1,1,0,0,1,0,1,0,0,0]) (y9l j4o):=zl2 k2m w5g v1u z5h j3n j6x z7c
def k3s (f299_l1:q9y):Ann:=(.seq .nil (.blk (.seq .nil (.seq (.blk (.loop (y9l f299_l1))) .nil))))
def z5i (f310:z0f) (f311:jr) (f299_l1:q9y):yh ((Int×Int)×Int×Int×List (Int)×qq×qu×qv×Unit) (List (Int)×qq×qu×qv×Unit):=fun (x0,x1,x2,x3,x4,x5,x6,_)=>bif decide (x2<x1) then (f299_l1 (((↑(Int.toNat x0.1):Int),(↑(Int.toNat x0.2):Int)),x1,x2,0,IntKind.i64.wrap (2*x2),x3,x4,x5,x6,())).bind fun v=>bif decide (IntKind.i64.wrap (v.2.2.2.1+v.2.2.1)<v.2.1) then (f311 (((↑(Int.toNat v.1.1):Int),(↑(Int.toNat v.1.2):Int)),v.2.2.2.1,IntKind.i64.wrap (v.2.2.2.1+v.2.2.1),v.2.1,v.2.2.2.2.1,v.2.2.2.2.2.1,v.2.2.2.2.2.2.1,v.2.2.2.2.2.2.2.1,())).bind fun v1=>some (Sum.inl (((↑(Int.toNat v.1.1):Int),(↑(Int.toNat v.1.2):Int)),v.2.1,IntKind.i64.wrap (v.2.2.1*2),v1.1,v1.2.1,v1.2.2.1,v1.2.2.2.1,())) else some (Sum.inl (((↑(Int.toNat v.1.1):Int),(↑(Int.toNat v.1.2):Int)),v.2.1,IntKind.i64.wrap (v.2.2.1*2),v.2.2.2.2.1,v.2.2.2.2.2.1,v.2.2.2.2.2.2.1,v.2.2.2.2.2.2.2.1,())) else some (Sum.inr (x3,x4,x5,x6,()))
theorem k6b (f310:z0f) (f311:jr) (f299_l1:q9y):AqL (v1u f310 f311) 2 (qe (code Tryz.f299) [1,1,1,1,0,0]) (k3s f299_l1) w1l w5h (z5i f310 f311 f299_l1):=fun v=>by kernel_rfl
def z3j:q9z:=qc (z5i j3n j6x j4o) jc
theorem k9j:jf 2 (qe (code Tryz.f299) [1,1,1,1,0,0]) (y9m z3j) :=
 frm z7c (And.intro k9i trivial) (k6b j3n j6x j4o)
def b8y (f299_l0:q9x) (f299_l2:q9z):Ann:=(.seq .nil (.seq .nil (.seq (.blk (.loop (y9k f299_l0))) (.seq .nil (.blk (.loop (y9m f299_l2)))))))
def g3i (f310:z0f) (f311:jr) (f299_l0:q9x) (f299_l2:q9z):x6t:=fun (x0,x1,x2,x3,x4,x5,_)=>(f299_l0 (((↑(Int.toNat x0.1):Int),(↑(Int.toNat x0.2):Int)),x1,20,0,20,x2,x3,x4,x5,())).bind fun v=>(f310 (((↑(Int.toNat v.1.1):Int),(↑(Int.toNat v.1.2):Int)),v.2.2.2.1,v.2.1,v.2.2.2.2.1,v.2.2.2.2.2.1,v.2.2.2.2.2.2.1,v.2.2.2.2.2.2.2.1,())).bind fun v1=>(f299_l2 (((↑(Int.toNat v.1.1):Int),(↑(Int.toNat v.1.2):Int)),v.2.1,v.2.2.1,v1.1,v1.2.1,v1.2.2.1,v1.2.2.2.1,())).bind fun v=>some (v.1,v.2.1,v.2.2.1,v.2.2.2.1,())
theorem d4r (f310:z0f) (f311:jr) (f299_l0:q9x) (f299_l2:q9z):zw (v1u f310 f311) 2 Tryz.f299 (b8y f299_l0 f299_l2) f6f j1u (g3i f310 f311 f299_l0 f299_l2):=fun v=>by kernel_rfl
def x9n:x6t:=g3i j3n j6x j4n z3j
theorem b3e:FO 299 (f4g x9n) :=
 qo z7c Tryz.func299 (And.intro k9h (And.intro k9j trivial)) (d4r j3n j6x j4n z3j)
abbrev z6c:=(Int×Int)×List (Int)×qq×qu×qv×Unit→Option (List (Int)×qq×qu×qv×Unit)
def f3q (f:z6c):FEnt:=⟨w1m,j1u,f⟩
def b6l (f299:x6t):=lk [(299,f4g f299)]
def g3d (f299:x6t):z6c:=fun (x0,x1,x2,x3,x4,_)=>(f299 (((↑(Int.toNat x0.1):Int),(↑(Int.toNat x0.2):Int)),(↑(Int.toNat x0.2):Int),x1,x2,x3,x4,())).bind fun v=>some (v.1,v.2.1,v.2.2.1,v.2.2.2.1,())
theorem d4m (f299:x6t):zw (b6l f299) 2 Tryz.f277 .nil w1m j1u (g3d f299):=fun v=>by kernel_rfl
def j9r:z6c:=g3d x9n
theorem b2n:FO 277 (f3q j9r) :=
 q0 (kc b3e kn) Tryz.func277 (d4m x9n)
abbrev q4t:=Int×Int×qq×qu×qv×List (Int)×Unit→Option (Int×Int×qq×qu×qv×List (Int)×Unit)
def y8n (f:q4t):LEnt:=⟨x0k,w5i,f⟩
abbrev q9j:=Int×Int×qq×qu×qv×List (Int)×Unit→Option (List (Int)×Unit)
def y8o (f:q9j):LEnt:=⟨x0k,w5j,f⟩
abbrev x5s:=qq×qu×qv×List (Int)×Unit→Option (List (Int)×Unit)
def f2n (f:x5s):FEnt:=⟨Li9,q0i,f⟩
def k2c (f275:z9l) (f276:q1i) (f277:z6c):=lk [(275,f3p f275),(276,v0c f276),(277,f3q f277)]
theorem y5p:zb Tryz.prog (k2c z3g kh j9r):=(kc b2m (kc x3m (kc b2n kn)))
def z4m (f275:z9l) (f276:q1i) (f277:z6c):q4t:=fun (x0,x1,x2,x3,x4,x5,_)=>bif decide (0≤x1)&&decide (x1≤(↑x5.length:Int)) then bif decide (0≤x0)&&decide (x0≤x1) then (f277 (((↑x0.toNat:Int),(↑(x1.toNat-x0.toNat):Int)),x5,x2,x3,x4,())).bind fun v=>some (IntKind.i64.wrap (x1+1),x1,v.2.1,v.2.2.1,v.2.2.2.1,v.1,()) else none else none
def q3q:q4t:=z4m z3g kh j9r
theorem k8k:jy 0 (qe (code Tryz.f239) [1,1,1,0,1,0,0,1,0,0,1]) (y8n q3q):=zc3 x0k w5i k2c z4m z3g kh j9r y5p
def k3n (f239_c0:q4t):Ann:=(.seq .nil (.seq (.blk (.cut .nil (y8n f239_c0))) .nil))
def z4n (f275:z9l) (f276:q1i) (f277:z6c) (f239_c0:q4t):yh (Int×Int×qq×qu×qv×List (Int)×Unit) (List (Int)×Unit):=fun (x0,x1,x2,x3,x4,x5,_)=>bif decide (x1≤(↑x5.length:Int)) then bif decide (x1<(↑x5.length:Int)) then bif decide (0≤x1)&&decide (x1<(↑x5.length:Int)) then (f276 (x2,x3,x4,x5.getD x1.toNat 0,())).bind fun v=>bif decide (v.1>0) then some (Sum.inl (x0,IntKind.i64.wrap (x1+1),x2,x3,x4,x5,())) else (f239_c0 (x0,x1,x2,x3,x4,x5,())).bind fun v=>some (Sum.inl (v.1,IntKind.i64.wrap (v.2.1+1),v.2.2.1,v.2.2.2.1,v.2.2.2.2.1,v.2.2.2.2.2.1,())) else none else (f239_c0 (x0,x1,x2,x3,x4,x5,())).bind fun v=>some (Sum.inl (v.1,IntKind.i64.wrap (v.2.1+1),v.2.2.1,v.2.2.2.1,v.2.2.2.2.1,v.2.2.2.2.2.1,())) else some (Sum.inr (x5,()))
theorem k5s (f275:z9l) (f276:q1i) (f277:z6c) (f239_c0:q4t):AqL (k2c f275 f276 f277) 0 (qe (code Tryz.f239) [1,1,1,0,1,0,0]) (k3n f239_c0) x0k w5j (z4n f275 f276 f277 f239_c0):=fun v=>by kernel_rfl
def z3c:q9j:=qc (z4n z3g kh j9r q3q) jc
theorem k8l:jf 0 (qe (code Tryz.f239) [1,1,1,0,1,0,0]) (y8o z3c) :=
 frm y5p (And.intro k8k trivial) (k5s z3g kh j9r q3q)
def b8g (f239_l0:q9j):Ann:=(.seq .nil (.seq .nil (.seq .nil (.seq (.seq .nil (.blk (.loop (y8o f239_l0)))) .nil))))
def g2n (f275:z9l) (f276:q1i) (f277:z6c) (f239_l0:q9j):x5s:=fun (x0,x1,x2,x3,_)=>(f275 (x3,())).bind fun v=>(f239_l0 (0,0,x0,x1,x2,v.1,())).bind fun v=>some (v.1,())
theorem d3x (f275:z9l) (f276:q1i) (f277:z6c) (f239_l0:q9j):zw (k2c f275 f276 f277) 0 Tryz.f239 (b8g f239_l0) Li9 q0i (g2n f275 f276 f277 f239_l0):=fun v=>by kernel_rfl
def x8r:x5s:=g2n z3g kh j9r z3c
theorem b1i:FO 239 (f2n x8r) :=
 qo y5p Tryz.func239 (And.intro k8l trivial) (d3x z3g kh j9r z3c)
abbrev j7t:=Int×Int×Int×Unit→Option (Bool×Unit)
def g1s (f:j7t):FEnt:=⟨f5r,qw,f⟩
def k1i:j7t:=fun (x0,x1,x2,_)=>bif decide (x0≥x1) then some (decide (x0<IntKind.i32.wrap (x1+IntKind.i32.wrap x2)),()) else some (false,())
def xh:j7t:=k1i
theorem g0p:FO 300 (g1s xh):=zq0 f5r qw yp k1i kn Tryz.func300
abbrev z9p:=Int×Unit→Option (List (Int)×Unit)
def f4h (f:z9p):FEnt:=⟨q2k,q0i,f⟩
def k1j:z9p:=fun (x0,_)=>bif decide ((IntKind.i32.wrap (x0-44032)).tmod 28>0) then some ([IntKind.i32.wrap (4352+IntKind.i32.wrap ((IntKind.i32.wrap (x0-44032)).tdiv 588)),IntKind.i32.wrap (4449+(IntKind.i32.wrap ((IntKind.i32.wrap (x0-44032)).tdiv 28)).tmod 21)]++[IntKind.i32.wrap (4519+(IntKind.i32.wrap (x0-44032)).tmod 28)],()) else some ([IntKind.i32.wrap (4352+IntKind.i32.wrap ((IntKind.i32.wrap (x0-44032)).tdiv 588)),IntKind.i32.wrap (4449+(IntKind.i32.wrap ((IntKind.i32.wrap (x0-44032)).tdiv 28)).tmod 21)],())
def q0h:z9p:=k1j
theorem b3f:FO 301 (f4h q0h):=zq0 q2k q0i yp k1j kn Tryz.func301
abbrev j0a:=List (List (Int))×Int×List (List (Int))×Int×Int×Unit→Option (List (List (Int))×Int×Unit)
def y9n (f:j0a):LEnt:=⟨f5t,f6p,f⟩
abbrev j0b:=List (List (Int))×Int×Int×List (Int)×Unit→Option (List (Int)×Unit)
def y9o (f:j0b):LEnt:=⟨f5u,f6q,f⟩
abbrev z9q:=List (List (Int))×Unit→Option (List (Int)×Unit)
def f4i (f:z9q):FEnt:=⟨f5s,q0i,f⟩
def k2f (f312:y4n):=lk [(312,f4o f312)]
theorem y5s:zb Tryz.prog (k2f j9s):=(kc b3n kn)
def z5j (f312:y4n):yh (List (List (Int))×Int×List (List (Int))×Int×Int×Unit) (List (List (Int))×Int×Unit):=fun (x0,x1,x2,x3,x4,_)=>bif decide (x4<x3) then bif decide (0≤x4)&&decide (x4<(↑x2.length:Int)) then bif decide (IntKind.i64.wrap (x1+(↑(List.length (x2.getD x4.toNat [])):Int))<0) then none else some (Sum.inl (x0,IntKind.i64.wrap (x1+(↑(List.length (x2.getD x4.toNat [])):Int)),x2,x3,IntKind.i64.wrap (x4+1),())) else none else some (Sum.inr (x0,x1,()))
def j4p:j0a:=qc (z5j j9s) jc
theorem k9k:jf 0 (qe (code Tryz.f302) [1,1,0,1,0,0]) (y9n j4p):=zl1 f5t f6p k2f z5j j9s y5s
def z5k (f312:y4n):yh (List (List (Int))×Int×Int×List (Int)×Unit) (List (Int)×Unit):=fun (x0,x1,x2,x3,_)=>bif decide (x2<x1) then bif decide (0≤x2)&&decide (x2<(↑x0.length:Int)) then bif decide (x3.length+List.length (x0.getD x2.toNat [])≤140737488355328/4) then some (Sum.inl (x0,x1,IntKind.i64.wrap (x2+1),x3++x0.getD x2.toNat [],())) else none else none else some (Sum.inr (x3,()))
def j4q:j0b:=qc (z5k j9s) jc
theorem k9l:jf 0 (qe (code Tryz.f302) [1,1,1,1,0,1,0,0]) (y9o j4q):=zl1 f5u f6q k2f z5k j9s y5s
def b8z (f302_l0:j0a) (f302_l1:j0b):Ann:=(.seq .nil (.seq .nil (.seq (.seq .nil (.blk (.loop (y9n f302_l0)))) (.seq .nil (.seq (.seq .nil (.blk (.loop (y9o f302_l1)))) .nil)))))
def k1k (f312:y4n) (f302_l0:j0a) (f302_l1:j0b):z9q:=fun (x0,_)=>(f302_l0 (x0,0,x0,(↑x0.length:Int),0,())).bind fun v=>(f312 (v.2.1,())).bind fun v1=>(f302_l1 (v.1,(↑(List.length v.1):Int),0,v1.1,())).bind fun v=>some (v.1,())
theorem d4s (f312:y4n) (f302_l0:j0a) (f302_l1:j0b):zw (k2f f312) 0 Tryz.f302 (b8z f302_l0 f302_l1) f5s q0i (k1k f312 f302_l0 f302_l1):=fun v=>by kernel_rfl
def wh:z9q:=k1k j9s j4p j4q
theorem b3g:FO 302 (f4i wh) :=
 qo y5s Tryz.func302 (And.intro k9k (And.intro k9l trivial)) (d4s j9s j4p j4q)
abbrev q4w:=Int×Bool×Bool×qq×qu×qv×Int×Int×Int×Bool×Bool×Unit→Option ((List (Int)×Unit)⊕(Bool×qq×qu×qv×Int×Int×Int×Bool×Bool×Unit))
def y9b (f:q4w):LEnt:=⟨g4r,g4w,f⟩
abbrev q6i:=qq×qu×qv×Int×Bool×Unit→Option (List (Int)×Unit)
def v0d (f:q6i):FEnt:=⟨g4q,q0i,f⟩
def g4j (f216:j7m) (f279:q6i) (f300:j7t) (f301:z9p) (f302:z9q):=lk [(216,v9g f216),(279,v0d f279),(300,g1s f300),(301,f4h f301),(302,f4i f302)]
theorem v5g (G:q6i) (hG:za Tryz.prog 279 (v0d G)):zb Tryz.prog (g4j yd G xh q0h wh):=(kc v7e (kc hG (kc g0p (kc b3f (kc b3g kn)))))
def xw (f216:j7m) (f279:q6i) (f300:j7t) (f301:z9p) (f302:z9q):q4w:=fun (x0,x1,x2,x3,x4,x5,x6,x7,x8,x9,x10,_)=>bif x2 then some (Sum.inl ([x0],())) else bif x8==0 then (f279 (x3,x4,x5,x7,x1,())).bind fun v=>some (Sum.inl (v.1,())) else some (Sum.inr (x1,x3,x4,x5,x6,x7,x8,x9,x10,()))
theorem k5z (f216:j7m) (f279:q6i) (f300:j7t) (f301:z9p) (f302:z9q):AqC (g4j f216 f279 f300 f301 f302) 0 (qe (code Tryz.f279) [1,1,0,0,1,1,1]) .nil g4r g4w (xw f216 f279 f300 f301 f302):=fun v=>by kernel_rfl
def q8d (G:q6i):q4w:=xw yd G xh q0h wh
theorem k8y (G:q6i) (hG:za Tryz.prog 279 (v0d G)):jy 0 (qe (code Tryz.f279) [1,1,0,0,1,1,1]) (y9b (q8d G)) :=
 kb (ins:=g4r) (os:=g4w) (n := .nil) (F:=(q8d G)) hm hΓ (v5g G hG) (jh _) (k5z yd G xh q0h wh)
def b8q (f279_c0:q4w):Ann:=(.seq .nil (.seq .nil (.seq (.blk (.seq .nil (.cond .nil (.cut .nil (y9b f279_c0))))) .nil)))
def j9v (f216:j7m) (f279:q6i) (f300:j7t) (f301:z9p) (f302:z9q) (f279_c0:q4w):q6i:=fun (x0,x1,x2,x3,x4,_)=>(f216 (x0,x1,x2,x3,())).bind fun v=>(f300 (x3,44032,11172,())).bind fun v1=>bif v1.1 then (f301 (x3,())).bind fun v=>some (v.1,()) else bif !v.2.2.2.2.2.1 then (f279_c0 (x3,x4,true,x0,x1,x2,v.1,v.2.1,v.2.2.1,v.2.2.2.1,v.2.2.2.2.1,())).bind fun v=>Sum.elim (fun v=>some (v.1,())) (fun v=>(f279 (v.2.1,v.2.2.1,v.2.2.2.1,v.2.2.2.2.2.1,v.1,())).bind fun v2=>(f279 (v.2.1,v.2.2.1,v.2.2.2.1,v.2.2.2.2.2.2.1,v.1,())).bind fun v=>(f302 ([v2.1,v.1],())).bind fun v=>some (v.1,())) v else bif v.2.2.2.1 then (f279_c0 (x3,x4,!x4,x0,x1,x2,v.1,v.2.1,v.2.2.1,v.2.2.2.1,v.2.2.2.2.1,())).bind fun v=>Sum.elim (fun v=>some (v.1,())) (fun v=>(f279 (v.2.1,v.2.2.1,v.2.2.2.1,v.2.2.2.2.2.1,v.1,())).bind fun v2=>(f279 (v.2.1,v.2.2.1,v.2.2.2.1,v.2.2.2.2.2.2.1,v.1,())).bind fun v=>(f302 ([v2.1,v.1],())).bind fun v=>some (v.1,())) v else (f279_c0 (x3,x4,false,x0,x1,x2,v.1,v.2.1,v.2.2.1,v.2.2.2.1,v.2.2.2.2.1,())).bind fun v=>Sum.elim (fun v=>some (v.1,())) (fun v=>(f279 (v.2.1,v.2.2.1,v.2.2.2.1,v.2.2.2.2.2.1,v.1,())).bind fun v2=>(f279 (v.2.1,v.2.2.1,v.2.2.2.1,v.2.2.2.2.2.2.1,v.1,())).bind fun v=>(f302 ([v2.1,v.1],())).bind fun v=>some (v.1,())) v
theorem d4o (f216:j7m) (f279:q6i) (f300:j7t) (f301:z9p) (f302:z9q) (f279_c0:q4w):zw (g4j f216 f279 f300 f301 f302) 0 Tryz.f279 (b8q f279_c0) g4q q0i (j9v f216 f279 f300 f301 f302 f279_c0):=fun v=>by kernel_rfl
def z8p:q6i:=j2s (fun G=>j9v yd G xh q0h wh (q8d G)) jc
theorem b2o:FO 279 (v0d z8p) :=
 y5a (ins:=g4q) (os:=q0i) (F:=fun G=>j9v yd G xh q0h wh (q8d G)) (fun G hG=>qo (v5g G hG) Tryz.func279 (And.intro (k8y G hG) trivial) (d4o yd G xh q0h wh (q8d G))) jc
abbrev j5x:=Bool×List (Int)×Int×Int×qq×qu×qv×List (Int)×Unit→Option (List (Int)×Unit)
def y8p (f:j5x):LEnt:=⟨f5w,f6r,f⟩
abbrev x5t:=qq×qu×qv×List (Int)×Bool×Unit→Option (List (Int)×Unit)
def f2o (f:x5t):FEnt:=⟨f5v,q0i,f⟩
def g4d (f279:q6i):=lk [(279,v0d f279)]
theorem v5c:zb Tryz.prog (g4d z8p):=(kc b2o kn)
def z4o (f279:q6i):yh (Bool×List (Int)×Int×Int×qq×qu×qv×List (Int)×Unit) (List (Int)×Unit):=fun (x0,x1,x2,x3,x4,x5,x6,x7,_)=>bif decide (x3<x2) then bif decide (0≤x3)&&decide (x3<(↑x1.length:Int)) then (f279 (x4,x5,x6,x1.getD x3.toNat 0,x0,())).bind fun v=>bif decide (x7.length+List.length v.1≤140737488355328/4) then some (Sum.inl (x0,x1,x2,IntKind.i64.wrap (x3+1),x4,x5,x6,x7++v.1,())) else none else none else some (Sum.inr (x7,()))
def j4e:j5x:=qc (z4o z8p) jc
theorem k8m:jf 0 (qe (code Tryz.f240) [1,1,0,1,0,0]) (y8p j4e):=zl1 f5w f6r g4d z4o z8p v5c
def b8h (f240_l0:j5x):Ann:=(.seq .nil (.seq .nil (.seq (.seq .nil (.blk (.loop (y8p f240_l0)))) .nil)))
def k0g (f279:q6i) (f240_l0:j5x):x5t:=fun (x0,x1,x2,x3,x4,_)=>(f240_l0 (x4,x3,(↑x3.length:Int),0,x0,x1,x2,[],())).bind fun v=>some (v.1,())
def v8s:x5t:=k0g z8p j4e
theorem b1k:FO 240 (f2o v8s):=ve f5v q0i g4d b8h k0g z8p j4e v5c Tryz.func240 (And.intro k8m trivial)
abbrev q9s:=Int×Int×Bool×qq×qu×qv×Unit→Option ((Int×Bool×Unit)⊕(Int×Int×qq×qu×qv×Unit))
def y9c (f:q9s):LEnt:=⟨w1n,w5k,f⟩
abbrev z9m:=qq×qu×qv×Int×Int×Unit→Option (Int×Bool×Unit)
def f3r (f:z9m):FEnt:=⟨Li5,Lo6,f⟩
def g4k (f300:j7t) (f303:v2p):=lk [(300,g1s f300),(303,f4j f303)]
theorem v5h:zb Tryz.prog (g4k xh j3m):=(kc g0p (kc b3h kn))
def j5e (f300:j7t) (f303:v2p):q9s:=fun (x0,x1,x2,x3,x4,x5,_)=>bif x2 then some (Sum.inl (IntKind.i32.wrap (44032+IntKind.i32.wrap (IntKind.i32.wrap (IntKind.i32.wrap (IntKind.i32.wrap (IntKind.i32.wrap (x0-4352)*21)+x1)-4449)*28)),true,())) else (f300 (x0,44032,11172,())).bind fun v=>bif v.1 then bif (IntKind.i32.wrap (x0-44032)).tmod 28==0 then (f300 (x1,4520,27,())).bind fun v=>bif v.1 then some (Sum.inl (IntKind.i32.wrap (IntKind.i32.wrap (x0+x1)-4519),true,())) else some (Sum.inr (x0,x1,x3,x4,x5,())) else some (Sum.inr (x0,x1,x3,x4,x5,())) else some (Sum.inr (x0,x1,x3,x4,x5,()))
def q3s:q9s:=j5e xh j3m
theorem k8z:jy 0 (qe (code Tryz.f280) [1,0,0,1]) (y9c q3s):=zc2 w1n w5k g4k j5e xh j3m v5h
def b8r (f280_c0:q9s):Ann:=(.seq .nil (.seq (.blk (.cut .nil (y9c f280_c0))) .nil))
def k0u (f300:j7t) (f303:v2p) (f280_c0:q9s):z9m:=fun (x0,x1,x2,x3,x4,_)=>(f300 (x3,4352,19,())).bind fun v=>bif v.1 then (f300 (x4,4449,21,())).bind fun v=>(f280_c0 (x3,x4,v.1,x0,x1,x2,())).bind fun v=>Sum.elim (fun v=>some (v.1,v.2.1,())) (fun v=>(f303 (v.2.2.1,v.2.2.2.1,v.2.2.2.2.1,v.1,v.2.1,())).bind fun v=>some (v.1,v.2.1,())) v else (f280_c0 (x3,x4,false,x0,x1,x2,())).bind fun v=>Sum.elim (fun v=>some (v.1,v.2.1,())) (fun v=>(f303 (v.2.2.1,v.2.2.2.1,v.2.2.2.2.1,v.1,v.2.1,())).bind fun v=>some (v.1,v.2.1,())) v
def j6s:z9m:=k0u xh j3m q3s
theorem b2p:FO 280 (f3r j6s):=q5y Li5 Lo6 g4k b8r k0u xh j3m q3s v5h Tryz.func280 (And.intro k8z trivial)
abbrev q4u:=Int×Int×Int×Int×List (Int)×Int×Int×Bool×qq×qu×qv×List (Int)×Unit→Option ((Int×Int×List (Int)×Int×Int×qq×qu×qv×List (Int)×Unit)⊕(Int×Int×Int×Int×List (Int)×Int×Int×qq×qu×qv×List (Int)×Unit))
def y8q (f:q4u):LEnt:=⟨w1o,w5l,f⟩
abbrev j5y:=Int×Int×List (Int)×Int×Int×qq×qu×qv×List (Int)×Unit→Option (List (Int)×Unit)
def y8r (f:j5y):LEnt:=⟨w1p,w5m,f⟩
abbrev x5u:=qq×qu×qv×List (Int)×Unit→Option (List (Int)×Unit)
def f2p (f:x5u):FEnt:=⟨Li9,q0i,f⟩
def k2d (f276:q1i) (f280:z9m):=lk [(276,v0c f276),(280,f3r f280)]
theorem y5q:zb Tryz.prog (k2d kh j6s):=(kc x3m (kc b2p kn))
def j5a (f276:q1i) (f280:z9m):q4u:=fun (x0,x1,x2,x3,x4,x5,x6,x7,x8,x9,x10,x11,_)=>bif x7 then bif decide (0≤x0)&&decide (x0<(↑x11.length:Int)) then (f280 (x8,x9,x10,x11.getD x0.toNat 0,x2,())).bind fun v=>bif v.2.1 then bif decide (0≤x0)&&decide (x0<(↑x11.length:Int)) then some (Sum.inl (x0,x1,x4,x5,x6,x8,x9,x10,x11.set x0.toNat v.1,())) else none else some (Sum.inr (x0,x1,x2,x3,x4,x5,x6,x8,x9,x10,x11,())) else none else some (Sum.inr (x0,x1,x2,x3,x4,x5,x6,x8,x9,x10,x11,()))
def q7x:q4u:=j5a kh j6s
theorem k8n:jy 0 (qe (code Tryz.f241) [1,1,1,0,1,0,0,1,1,0,0,1,1,0,1]) (y8q q7x):=zc2 w1o w5l k2d j5a kh j6s y5q
def k3o (f241_c0:q4u):Ann:=(.seq .nil (.seq .nil (.seq (.blk (.seq .nil (.seq .nil (.seq (.cut .nil (y8q f241_c0)) .nil)))) .nil)))
def z4p (f276:q1i) (f280:z9m) (f241_c0:q4u):yh (Int×Int×List (Int)×Int×Int×qq×qu×qv×List (Int)×Unit) (List (Int)×Unit):=fun (x0,x1,x2,x3,x4,x5,x6,x7,x8,_)=>bif decide (x4<x3) then bif decide (0≤x4)&&decide (x4<(↑x2.length:Int)) then (f276 (x5,x6,x7,x2.getD x4.toNat 0,())).bind fun v=>bif decide (x0≥0) then bif decide (x1<v.1) then (f241_c0 (x0,x1,x2.getD x4.toNat 0,v.1,x2,x3,x4,true,x5,x6,x7,x8,())).bind fun v=>Sum.elim (fun v=>some (Sum.inl (v.1,v.2.1,v.2.2.1,v.2.2.2.1,IntKind.i64.wrap (v.2.2.2.2.1+1),v.2.2.2.2.2.1,v.2.2.2.2.2.2.1,v.2.2.2.2.2.2.2.1,v.2.2.2.2.2.2.2.2.1,()))) (fun v=>bif decide (List.length v.2.2.2.2.2.2.2.2.2.2.1+[v.2.2.1].length≤140737488355328/4) then bif v.2.2.2.1==0 then some (Sum.inl (IntKind.i64.wrap ((↑(v.2.2.2.2.2.2.2.2.2.2.1++[v.2.2.1]).length:Int)-1),0,v.2.2.2.2.1,v.2.2.2.2.2.1,IntKind.i64.wrap (v.2.2.2.2.2.2.1+1),v.2.2.2.2.2.2.2.1,v.2.2.2.2.2.2.2.2.1,v.2.2.2.2.2.2.2.2.2.1,v.2.2.2.2.2.2.2.2.2.2.1++[v.2.2.1],())) else some (Sum.inl (v.1,if v.2.2.2.1>v.2.1 then v.2.2.2.1 else v.2.1,v.2.2.2.2.1,v.2.2.2.2.2.1,IntKind.i64.wrap (v.2.2.2.2.2.2.1+1),v.2.2.2.2.2.2.2.1,v.2.2.2.2.2.2.2.2.1,v.2.2.2.2.2.2.2.2.2.1,v.2.2.2.2.2.2.2.2.2.2.1++[v.2.2.1],())) else none) v else (f241_c0 (x0,x1,x2.getD x4.toNat 0,v.1,x2,x3,x4,x0==IntKind.i64.wrap ((↑x8.length:Int)-1),x5,x6,x7,x8,())).bind fun v=>Sum.elim (fun v=>some (Sum.inl (v.1,v.2.1,v.2.2.1,v.2.2.2.1,IntKind.i64.wrap (v.2.2.2.2.1+1),v.2.2.2.2.2.1,v.2.2.2.2.2.2.1,v.2.2.2.2.2.2.2.1,v.2.2.2.2.2.2.2.2.1,()))) (fun v=>bif decide (List.length v.2.2.2.2.2.2.2.2.2.2.1+[v.2.2.1].length≤140737488355328/4) then bif v.2.2.2.1==0 then some (Sum.inl (IntKind.i64.wrap ((↑(v.2.2.2.2.2.2.2.2.2.2.1++[v.2.2.1]).length:Int)-1),0,v.2.2.2.2.1,v.2.2.2.2.2.1,IntKind.i64.wrap (v.2.2.2.2.2.2.1+1),v.2.2.2.2.2.2.2.1,v.2.2.2.2.2.2.2.2.1,v.2.2.2.2.2.2.2.2.2.1,v.2.2.2.2.2.2.2.2.2.2.1++[v.2.2.1],())) else some (Sum.inl (v.1,if v.2.2.2.1>v.2.1 then v.2.2.2.1 else v.2.1,v.2.2.2.2.1,v.2.2.2.2.2.1,IntKind.i64.wrap (v.2.2.2.2.2.2.1+1),v.2.2.2.2.2.2.2.1,v.2.2.2.2.2.2.2.2.1,v.2.2.2.2.2.2.2.2.2.1,v.2.2.2.2.2.2.2.2.2.2.1++[v.2.2.1],())) else none) v else (f241_c0 (x0,x1,x2.getD x4.toNat 0,v.1,x2,x3,x4,false,x5,x6,x7,x8,())).bind fun v=>Sum.elim (fun v=>some (Sum.inl (v.1,v.2.1,v.2.2.1,v.2.2.2.1,IntKind.i64.wrap (v.2.2.2.2.1+1),v.2.2.2.2.2.1,v.2.2.2.2.2.2.1,v.2.2.2.2.2.2.2.1,v.2.2.2.2.2.2.2.2.1,()))) (fun v=>bif decide (List.length v.2.2.2.2.2.2.2.2.2.2.1+[v.2.2.1].length≤140737488355328/4) then bif v.2.2.2.1==0 then some (Sum.inl (IntKind.i64.wrap ((↑(v.2.2.2.2.2.2.2.2.2.2.1++[v.2.2.1]).length:Int)-1),0,v.2.2.2.2.1,v.2.2.2.2.2.1,IntKind.i64.wrap (v.2.2.2.2.2.2.1+1),v.2.2.2.2.2.2.2.1,v.2.2.2.2.2.2.2.2.1,v.2.2.2.2.2.2.2.2.2.1,v.2.2.2.2.2.2.2.2.2.2.1++[v.2.2.1],())) else some (Sum.inl (v.1,if v.2.2.2.1>v.2.1 then v.2.2.2.1 else v.2.1,v.2.2.2.2.1,v.2.2.2.2.2.1,IntKind.i64.wrap (v.2.2.2.2.2.2.1+1),v.2.2.2.2.2.2.2.1,v.2.2.2.2.2.2.2.2.1,v.2.2.2.2.2.2.2.2.2.1,v.2.2.2.2.2.2.2.2.2.2.1++[v.2.2.1],())) else none) v else none else some (Sum.inr (x8,()))
theorem k5t (f276:q1i) (f280:z9m) (f241_c0:q4u):AqL (k2d f276 f280) 0 (qe (code Tryz.f241) [1,1,1,0,1,0,0]) (k3o f241_c0) w1p w5m (z4p f276 f280 f241_c0):=fun v=>by kernel_rfl
def j4f:j5y:=qc (z4p kh j6s q7x) jc
theorem k8o:jf 0 (qe (code Tryz.f241) [1,1,1,0,1,0,0]) (y8r j4f) :=
 frm y5q (And.intro k8n trivial) (k5t kh j6s q7x)
def b8i (f241_l0:j5y):Ann:=(.seq .nil (.seq .nil (.seq .nil (.seq (.seq .nil (.blk (.loop (y8r f241_l0)))) .nil))))
def k0h (f276:q1i) (f280:z9m) (f241_l0:j5y):x5u:=fun (x0,x1,x2,x3,_)=>(f241_l0 (-1,0,x3,(↑x3.length:Int),0,x0,x1,x2,[],())).bind fun v=>some (v.1,())
def v8t:x5u:=k0h kh j6s j4f
theorem b1l:FO 241 (f2p v8t):=q5y Li9 q0i k2d b8i k0h kh j6s j4f y5q Tryz.func241 (And.intro k8o trivial)
abbrev q4b:=Int×Bool×Unit→Option ((Int×Int×Unit)⊕Unit)
def y6w (f:q4b):LEnt:=⟨f5f,k2n,f⟩
abbrev q8n:=Int×Bool×Unit→Option ((Int×Int×Unit)⊕Unit)
def y6x (f:q8n):LEnt:=⟨f5g,k2n,f⟩
abbrev j7d:=Int×Unit→Option (Int×Int×Unit)
def f0y (f:j7d):FEnt:=⟨j3p,f6k,f⟩
def j4t:q4b:=fun (x0,x1,_)=>bif x1 then some (Sum.inl (2,IntKind.i32.wrap (intBits BinOp.and IntKind.u8 x0 15),())) else bif decide (x0≥240) then bif decide (x0<245) then some (Sum.inl (3,IntKind.i32.wrap (intBits BinOp.and IntKind.u8 x0 7),())) else some (Sum.inr ()) else some (Sum.inr ())
def q7d:q4b:=j4t
theorem k6t:jy 0 (qe (code Tryz.f121) [1,0,0,1,1,1,1,1]) (y6w q7d):=zc0 f5f k2n yp j4t kn
def k2z (f121_c0:q4b):Ann:=(.cond .nil (.cut .nil (y6w f121_c0)))
def j4u (f121_c0:q4b):q8n:=fun (x0,x1,_)=>bif x1 then some (Sum.inl (1,IntKind.i32.wrap (intBits BinOp.and IntKind.u8 x0 31),())) else bif decide (x0≥224) then (f121_c0 (x0,decide (x0<240),())).bind fun v=>Sum.elim (fun v=>some (Sum.inl (v.1,v.2.1,()))) (fun v=>some (Sum.inr ())) v else (f121_c0 (x0,false,())).bind fun v=>Sum.elim (fun v=>some (Sum.inl (v.1,v.2.1,()))) (fun v=>some (Sum.inr ())) v
theorem k4w (f121_c0:q4b):AqC yp 0 (qe (code Tryz.f121) [1,0,0,1,1,1]) (k2z f121_c0) f5g k2n (j4u f121_c0):=fun v=>by kernel_rfl
def q7e:q8n:=j4u q7d
theorem k6u:jy 0 (qe (code Tryz.f121) [1,0,0,1,1,1]) (y6x q7e) :=
 frd kn (And.intro k6t trivial) (k4w q7d)
def b7f (f121_c1:q8n):Ann:=(.seq .nil (.seq (.blk (.seq .nil (.cond .nil (.cut .nil (y6x f121_c1))))) .nil))
def v9k (f121_c1:q8n):j7d:=fun (x0,_)=>bif decide (x0<128) then some (0,IntKind.i32.wrap x0,()) else bif decide (x0≥194) then (f121_c1 (x0,decide (x0<224),())).bind fun v=>Sum.elim (fun v=>some (v.1,v.2.1,())) (fun v=>some (-1,0,())) v else (f121_c1 (x0,false,())).bind fun v=>Sum.elim (fun v=>some (v.1,v.2.1,())) (fun v=>some (-1,0,())) v
def vg:j7d:=v9k q7e
theorem f9s:FO 121 (f0y vg):=q1a j3p f6k yp b7f v9k q7e kn Tryz.func121 (And.intro k6u trivial)
abbrev j7w:=qa×Int×Int×Int×Int×List (Int)×Unit→Option ((qa×Int×Int×Int×List (Int)×Unit)⊕(Int×List (Int)×Unit))
def v0s (f:j7w):LEnt:=⟨f5h,f6m,f⟩
abbrev j7x:=qa×Int×List (Int)×Unit→Option ((List (Int)×Unit)⊕(Int×List (Int)×Unit))
def v0t (f:j7x):LEnt:=⟨f5i,f6n,f⟩
abbrev j7v:=Int×List (Int)×Unit→Option (Int×List (Int)×Unit)
def v0r (f:j7v):LEnt:=⟨x4t,k2o,f⟩
abbrev T83:=qa×Unit→Option (List (Int)×Int×Unit)
def E83 (f:T83):FEnt:=⟨zy,f6l,f⟩
def K83 (f121:j7d) (f122:q8o):=lk [(121,f0y f121),(122,g0t f122)]
theorem x2j:zb Tryz.prog (K83 vg xc):=(kc f9s (kc w9q kn))
def q1h (f121:j7d) (f122:q8o):yh (qa×Int×Int×Int×Int×List (Int)×Unit) ((qa×Int×Int×Int×List (Int)×Unit)⊕(Int×List (Int)×Unit)):=fun (x0,x1,x2,x3,x4,x5,_)=>bif decide (x4≤IntKind.i64.wrap (x3+x1)) then bif decide (0≤x4)&&decide (x4<(↑x0.length:Int)) then bif intBits BinOp.andNot IntKind.u8 (↑(x0.getD x4.toNat 0).toNat:Int) 63 != 128 then some (Sum.inr (Sum.inr (x3,x5,()))) else bif decide (0≤x4)&&decide (x4<(↑x0.length:Int)) then some (Sum.inl (x0,x1,intBits BinOp.or IntKind.i32 (IntKind.i32.wrap (x2*2^min 6 IntKind.i32.bits)) (IntKind.i32.wrap (intBits BinOp.and IntKind.u8 (↑(x0.getD x4.toNat 0).toNat:Int) 63)),x3,IntKind.i64.wrap (x4+1),x5,())) else none else none else some (Sum.inr (Sum.inl (x0,x1,x2,x3,x5,())))
def q1f:j7w:=qc (q1h vg xc) jc
theorem g8z:jf 0 (qe (code Tryz.f83) [1,0,1,1,1,1,0,0,0,1,0,1,1,0,1,0,0]) (v0s q1f):=zl2 f5h f6m K83 q1h vg xc x2j
def g5g (f83_l0:j7w):Ann:=(.seq .nil (.blk (.seq .nil (.seq .nil (.seq (.seq .nil (.blk (.loop (v0s f83_l0)))) .nil)))))
def xe (f121:j7d) (f122:q8o) (f83_l0:j7w):yh (qa×Int×List (Int)×Unit) ((List (Int)×Unit)⊕(Int×List (Int)×Unit)):=fun (x0,x1,x2,_)=>bif decide (x1<(↑x0.length:Int)) then bif decide (0≤x1)&&decide (x1<(↑x0.length:Int)) then (f121 ((↑(x0.getD x1.toNat 0).toNat:Int),())).bind fun v=>bif decide (v.1<0) then some (Sum.inr (Sum.inr (x1,x2,()))) else bif decide (IntKind.i64.wrap ((↑x0.length:Int)-x1)≤v.1) then some (Sum.inr (Sum.inr (x1,x2,()))) else (f83_l0 (x0,v.1,v.2.1,x1,IntKind.i64.wrap (x1+1),x2,())).bind fun v=>Sum.elim (fun v=>(f122 (v.2.2.1,())).bind fun v1=>bif v1.1 != IntKind.i64.wrap (v.2.1+1) then some (Sum.inr (Sum.inr (v.2.2.2.1,v.2.2.2.2.1,()))) else bif decide (List.length v.2.2.2.2.1+[v.2.2.1].length≤140737488355328/4) then some (Sum.inl (v.1,IntKind.i64.wrap (v.2.2.2.1+IntKind.i64.wrap (v.2.1+1)),v.2.2.2.2.1++[v.2.2.1],())) else none) (fun v=>some (Sum.inr (Sum.inr (v.1,v.2.1,())))) v else none else some (Sum.inr (Sum.inl (x2,())))
theorem g8i (f121:j7d) (f122:q8o) (f83_l0:j7w):AqL (K83 f121 f122) 0 (qe (code Tryz.f83) [1,0,1,1,1,1,0,0,0]) (g5g f83_l0) f5i f6n (xe f121 f122 f83_l0):=fun v=>by kernel_rfl
def q2p:j7x:=qc (xe vg xc q1f) jc
theorem g9a:jf 0 (qe (code Tryz.f83) [1,0,1,1,1,1,0,0,0]) (v0t q2p) :=
 frm x2j (And.intro g8z trivial) (g8i vg xc q1f)
def y3w (f121:j7d) (f122:q8o):yh (Int×List (Int)×Unit) (Int×List (Int)×Unit):=fun (x0,x1,_)=>some (Sum.inr (x0,x1,()))
theorem g8h (f121:j7d) (f122:q8o) (v:HS x4t):aev Γ (K83 f121 f122) 0 ((findLabel (qe (code Tryz.f83) [1,0]) 0).getD .skip) .nil (x8d x4t v) (vy 0 0 [] x4t k2o)=y3w f121 f122 v:=by kernel_rfl
def q2o:j7v:=qc (y3w vg xc) jc
theorem g8y:jo Tryz.prog 0 (jn Tryz.prog (qe (code Tryz.f83) [1,0]) 0) (v0r q2o) :=
 zz (ins:=x4t) (os:=k2o) (C:=q2o) (q1n (ins:=x4t) (os:=k2o) (n := .nil) (ls:=[]) (F:=y3w vg xc) (rest:=((findLabel (qe (code Tryz.f83) [1,0]) 0).getD .skip)) hm hΓ x2j (fun _=>jc) (by kernel_rfl) (jh _) q3c (g8h vg xc)) rfl
def N83 (f83_g0:j7v) (f83_l1:j7x):Ann:=(.seq .nil (.scope (.seq .nil (.seq .nil (.seq .nil (.seq .nil (.seq (.blk (.loop (v0t f83_l1))) .nil))))) [(0,(v0r f83_g0))]))
def F83 (f121:j7d) (f122:q8o) (f83_g0:j7v) (f83_l1:j7x):T83:=fun (x0,_)=>(f83_l1 (x0,0,[],())).bind fun v=>Sum.elim (fun v=>some (v.1,-1,())) (fun v=>(f83_g0 (v.1,v.2.1,())).bind fun v=>some (v.2.1,v.1,())) v
theorem h83 (f121:j7d) (f122:q8o) (f83_g0:j7v) (f83_l1:j7x):zw (K83 f121 f122) 0 Tryz.f83 (N83 f83_g0 f83_l1) zy f6l (F83 f121 f122 f83_g0 f83_l1):=fun v=>by kernel_rfl
def C83:T83:=F83 vg xc q2o q2p
theorem x7v:FO 83 (E83 C83) :=
 qo x2j Tryz.func83 (And.intro g9a (And.intro g8y trivial)) (h83 vg xc q2o q2p)
abbrev v2f:=qq×qu×qv×qa×Bool×Bool×Unit→Option (qa×Bool×Unit)
def f2d (f:v2f):FEnt:=⟨w1q,q2u,f⟩
def b5n (f178:j3r) (f239:x5s) (f240:x5t) (f241:x5u) (f83:T83):=lk [(178,v9f f178),(239,f2n f239),(240,f2o f240),(241,f2p f241),(83,E83 f83)]
def g2j (f178:j3r) (f239:x5s) (f240:x5t) (f241:x5u) (f83:T83):v2f:=fun (x0,x1,x2,x3,x4,x5,_)=>(f83 (x3,())).bind fun v=>bif decide (v.2.1≥0) then some ([],false,()) else (f240 (x0,x1,x2,v.1,x4,())).bind fun v=>(f239 (x0,x1,x2,v.1,())).bind fun v=>bif x5 then (f241 (x0,x1,x2,v.1,())).bind fun v=>(f178 (v.1,())).bind fun v=>some (v.1,v.2.1,()) else (f178 (v.1,())).bind fun v=>some (v.1,v.2.1,())
theorem d3r (f178:j3r) (f239:x5s) (f240:x5t) (f241:x5u) (f83:T83):zw (b5n f178 f239 f240 f241 f83) 0 Tryz.f213 .nil w1q q2u (g2j f178 f239 f240 f241 f83):=fun v=>by kernel_rfl
def x8l:v2f:=g2j j9n x8r v8s v8t C83
theorem b0y:FO 213 (f2d x8l) :=
 q0 (kc v7c (kc b1i (kc b1k (kc b1l (kc x7v kn))))) Tryz.func213 (d3r j9n x8r v8s v8t C83)
abbrev z9h:=qq×qu×qv×qa×Unit→Option (qa×Bool×Unit)
def g1b (f:z9h):FEnt:=⟨ki,q2u,f⟩
def b5g (f213:v2f):=lk [(213,f2d f213)]
def g2g (f213:v2f):z9h:=fun (x0,x1,x2,x3,_)=>(f213 (x0,x1,x2,x3,false,true,())).bind fun v=>some (v.1,v.2.1,())
def z2t:z9h:=g2g x8l
theorem g0a:FO 181 (g1b z2t):=vf ki q2u b5g g2g x8l (kc b0y kn) Tryz.func181
abbrev y4h:=qq×qu×qv×qa×Unit→Option (qa×Bool×Unit)
def f1j (f:y4h):FEnt:=⟨ki,q2u,f⟩
def b4v (f178:j3r) (f179:x5h) (f180:x5i) (f181:z9h) (f83:T83):=lk [(178,v9f f178),(179,f1r f179),(180,f1s f180),(181,g1b f181),(83,E83 f83)]
def x4n (f178:j3r) (f179:x5h) (f180:x5i) (f181:z9h) (f83:T83):y4h:=fun (x0,x1,x2,x3,_)=>(f83 (x3,())).bind fun v=>bif decide (v.2.1≥0) then some ([],false,()) else (f180 (x0,x1,x2,v.1,())).bind fun v=>(f179 (x0,x1,x2,v.1,())).bind fun v=>(f178 (v.1,())).bind fun v=>(f181 (x0,x1,x2,v.1,())).bind fun v=>some (v.1,v.2.1,())
theorem d3k (f178:j3r) (f179:x5h) (f180:x5i) (f181:z9h) (f83:T83):zw (b4v f178 f179 f180 f181 f83) 0 Tryz.f151 .nil ki q2u (x4n f178 f179 f180 f181 f83):=fun v=>by kernel_rfl
def z2p:y4h:=x4n j9n z8j y2z z2t C83
theorem w9x:FO 151 (f1j z2p) :=
 q0 (kc v7c (kc b0l (kc b0n (kc g0a (kc x7v kn))))) Tryz.func151 (d3k j9n z8j y2z z2t C83)
abbrev z5w:=qa×Int×Int×Unit→Option (Unit⊕(Int×Unit))
def x9x (f:z5w):LEnt:=⟨w1r,w5n,f⟩
abbrev T21:=qa×Unit→Option (Int×Unit)
def E21 (f:T21):FEnt:=⟨zy,jb,f⟩
def z4f:yh (qa×Int×Int×Unit) (Unit⊕(Int×Unit)):=fun (x0,x1,x2,_)=>bif decide (x2<x1) then bif decide (0≤x2)&&decide (x2<(↑x0.length:Int)) then bif decide ((↑(x0.getD x2.toNat 0).toNat:Int)≥128) then some (Sum.inr (Sum.inr (x2,()))) else some (Sum.inl (x0,x1,IntKind.i64.wrap (x2+1),())) else none else some (Sum.inr (Sum.inl ()))
def z2z:z5w:=qc (z4f) jc
theorem g8m:jf 0 (qe (code Tryz.f21) [1,0,1,0,0]) (x9x z2z):=zl0 w1r w5n yp z4f kn
def N21 (f21_l0:z5w):Ann:=(.seq .nil (.seq (.seq .nil (.blk (.loop (x9x f21_l0)))) .nil))
def F21 (f21_l0:z5w):T21:=fun (x0,_)=>(f21_l0 (x0,(↑x0.length:Int),0,())).bind fun v=>Sum.elim (fun v=>some (-1,())) (fun v=>some (v.1,())) v
def C21:T21:=F21 z2z
theorem v7d:FO 21 (E21 C21):=q1a zy jb yp N21 F21 z2z kn Tryz.func21 (And.intro g8m trivial)
abbrev j5z:=Int×Int×List (Int)×Int×Int×Unit→Option (Int×Unit)
def y8s (f:j5z):LEnt:=⟨w1t,w5o,f⟩
abbrev q9k:=List (Int)×Int×Unit→Option (Int×Unit)
def f2u (f:q9k):FEnt:=⟨w1s,z8z,f⟩
def z4s:yh (Int×Int×List (Int)×Int×Int×Unit) (Int×Unit):=fun (x0,x1,x2,x3,x4,_)=>bif decide (x4<x3) then bif decide (0≤x4)&&decide (x4<(↑x2.length:Int)) then bif decide (x2.getD x4.toNat 0≥x0) then bif decide (x1<0) then some (Sum.inl (x0,x2.getD (x4.toNat) 0,x2,x3,IntKind.i64.wrap (x4+1),())) else bif decide (x2.getD x4.toNat 0<x1) then some (Sum.inl (x0,x2.getD (x4.toNat) 0,x2,x3,IntKind.i64.wrap (x4+1),())) else some (Sum.inl (x0,x1,x2,x3,IntKind.i64.wrap (x4+1),())) else some (Sum.inl (x0,x1,x2,x3,IntKind.i64.wrap (x4+1),())) else none else some (Sum.inr (x1,()))
def j4g:j5z:=qc (z4s) jc
theorem k8p:jf 0 (qe (code Tryz.f250) [1,1,0,1,0,0]) (y8s j4g):=zl0 w1t w5o yp z4s kn
def b8j (f250_l0:j5z):Ann:=(.seq .nil (.seq .nil (.seq (.seq .nil (.blk (.loop (y8s f250_l0)))) .nil)))
def k0o (f250_l0:j5z):q9k:=fun (x0,x1,_)=>(f250_l0 (x1,-1,x0,(↑x0.length:Int),0,())).bind fun v=>some (v.1,())
def q6c:q9k:=k0o j4g
theorem b1q:FO 250 (f2u q6c):=q1a w1s z8z yp b8j k0o j4g kn Tryz.func250 (And.intro k8p trivial)
abbrev q9t:=Int×Int×Unit→Option (Int×Unit)
def g1r (f:q9t):FEnt:=⟨w1u,jb,f⟩
def k1e:q9t:=fun (x0,x1,_)=>some (if (if 26<IntKind.i64.wrap (x0-x1) then 26 else IntKind.i64.wrap (x0-x1))>1 then if 26<IntKind.i64.wrap (x0-x1) then 26 else IntKind.i64.wrap (x0-x1) else 1,())
def q2m:q9t:=k1e
theorem g0o:FO 290 (g1r q2m):=zq0 w1u jb yp k1e kn Tryz.func290
abbrev q9u:=Int×Bool×Unit→Option ((Int×Bool×Unit)⊕Unit)
def y9f (f:q9u):LEnt:=⟨w1v,w5q,f⟩
abbrev z9o:=Int×Unit→Option (Int×Bool×Unit)
def f4a (f:z9o):FEnt:=⟨x0l,w5p,f⟩
def j5f:q9u:=fun (x0,x1,_)=>bif x1 then some (Sum.inl (IntKind.u8.wrap (97+IntKind.u8.wrap x0),true,())) else bif decide (x0≥26) then bif decide (x0<36) then some (Sum.inl (IntKind.u8.wrap (48+IntKind.u8.wrap (IntKind.i64.wrap (x0-26))),true,())) else some (Sum.inr ()) else some (Sum.inr ())
def q8e:q9u:=j5f
theorem k9c:jy 0 (qe (code Tryz.f291) [1,0,0,1]) (y9f q8e):=zc0 w1v w5q yp j5f kn
def b8u (f291_c0:q9u):Ann:=(.seq .nil (.seq (.blk (.cut .nil (y9f f291_c0))) .nil))
def k1f (f291_c0:q9u):z9o:=fun (x0,_)=>bif decide (x0≥0) then (f291_c0 (x0,decide (x0<26),())).bind fun v=>Sum.elim (fun v=>some (v.1,v.2.1,())) (fun v=>some (0,false,())) v else (f291_c0 (x0,false,())).bind fun v=>Sum.elim (fun v=>some (v.1,v.2.1,())) (fun v=>some (0,false,())) v
def z3h:z9o:=k1f q8e
theorem b2y:FO 291 (f4a z3h):=q1a x0l w5p yp b8u k1f q8e kn Tryz.func291 (And.intro k9c trivial)
abbrev q9m:=Int×Int×Int×qa×Unit→Option (qa×Unit)
def y8t (f:q9m):LEnt:=⟨x0m,x1g,f⟩
abbrev q9l:=Int×Int×qa×Unit→Option (qa×Unit)
def f2v (f:q9l):FEnt:=⟨w1w,w5r,f⟩
def g4g (f290:q9t) (f291:z9o):=lk [(290,g1r f290),(291,f4a f291)]
theorem v5d:zb Tryz.prog (g4g q2m z3h):=(kc g0o (kc b2y kn))
def j5b (f290:q9t) (f291:z9o):yh (Int×Int×Int×qa×Unit) (qa×Unit):=fun (x0,x1,x2,x3,_)=>(f290 (x2,x1,())).bind fun v=>bif decide (x0<v.1) then (f291 (x0,())).bind fun v=>bif decide (x3.length+[UInt8.ofNat (Int.toNat v.1)].length≤140737488355328/1) then some (Sum.inr (x3++[UInt8.ofNat (Int.toNat v.1)],())) else none else bif IntKind.i64.wrap (36-v.1) != 0 then (f291 (IntKind.i64.wrap (v.1+(IntKind.i64.wrap (x0-v.1)).tmod (IntKind.i64.wrap (36-v.1))),())).bind fun v1=>bif decide (x3.length+[UInt8.ofNat (Int.toNat v1.1)].length≤140737488355328/1) then bif IntKind.i64.wrap (36-v.1) != 0 then some (Sum.inl (IntKind.i64.wrap ((IntKind.i64.wrap (x0-v.1)).tdiv (IntKind.i64.wrap (36-v.1))),x1,IntKind.i64.wrap (x2+36),x3++[UInt8.ofNat (Int.toNat v1.1)],())) else none else none else none
theorem k5u (f290:q9t) (f291:z9o):AqL (g4g f290 f291) 1 (qe (code Tryz.f251) [1,1,0,0]) .nil x0m x1g (j5b f290 f291):=fun v=>by kernel_rfl
def q3r:q9m:=qc (j5b q2m z3h) jc
theorem k8q:jo Tryz.prog 1 (q2t Tryz.prog (qe (code Tryz.f251) [1,1,0,0])) (y8t q3r) :=
 zz (ins:=x0m) (os:=x1g) (C:=q3r) (y0n (ins:=x0m) (os:=x1g) (n := .nil) (F:=j5b q2m z3h) hm hΓ v5d (fun _=>jc) (jh _) (k5u q2m z3h)) rfl
def b8k (f251_l0:q9m):Ann:=(.seq .nil (.seq .nil (.blk (.peel .nil (y8t f251_l0)))))
def k0p (f290:q9t) (f291:z9o) (f251_l0:q9m):q9l:=fun (x0,x1,x2,_)=>(f290 (36,x1,())).bind fun v=>bif decide (x0<v.1) then (f291 (x0,())).bind fun v=>bif decide (x2.length+[UInt8.ofNat (Int.toNat v.1)].length≤140737488355328/1) then some (x2++[UInt8.ofNat (Int.toNat v.1)],()) else none else bif IntKind.i64.wrap (36-v.1) != 0 then (f291 (IntKind.i64.wrap (v.1+(IntKind.i64.wrap (x0-v.1)).tmod (IntKind.i64.wrap (36-v.1))),())).bind fun v1=>bif decide (x2.length+[UInt8.ofNat (Int.toNat v1.1)].length≤140737488355328/1) then bif IntKind.i64.wrap (36-v.1) != 0 then (f251_l0 (IntKind.i64.wrap ((IntKind.i64.wrap (x0-v.1)).tdiv (IntKind.i64.wrap (36-v.1))),x1,IntKind.i64.wrap (36+36),x2++[UInt8.ofNat (Int.toNat v1.1)],())).bind fun v=>some (v.1,()) else none else none else none
theorem d3y (f290:q9t) (f291:z9o) (f251_l0:q9m):zw (g4g f290 f291) 1 Tryz.f251 (b8k f251_l0) w1w w5r (k0p f290 f291 f251_l0):=fun v=>by kernel_rfl
def q6d:q9l:=k0p q2m z3h q3r
theorem b1r:FO 251 (f2v q6d) :=
 qo v5d Tryz.func251 (And.intro k8q trivial) (d3y q2m z3h q3r)
abbrev q9o:=Int×Int×Unit→Option (Int×Int×Unit)
def y8v (f:q9o):LEnt:=⟨w1y,w5s,f⟩
abbrev q9n:=Int×Int×Unit→Option (Int×Unit)
def y8u (f:q9n):LEnt:=⟨w1z,w5t,f⟩
abbrev q0k:=Int×Int×Bool×Unit→Option (Int×Unit)
def g1m (f:q0k):FEnt:=⟨w1x,jb,f⟩
def z4t:yh (Int×Int×Unit) (Int×Int×Unit):=fun (x0,x1,_)=>bif decide (x0>455) then some (Sum.inl (IntKind.i64.wrap (x0.tdiv 35),IntKind.i64.wrap (x1+36),())) else some (Sum.inr (x0,x1,()))
def q8a:q9o:=qc (z4t) jc
theorem k8s:jf 0 (qe (code Tryz.f252) [1,1,1,1,0,0,0]) (y8v q8a):=zl0 w1y w5s yp z4t kn
def k3p (f252_l0:q9o):Ann:=(.seq .nil (.seq .nil (.seq (.blk (.loop (y8v f252_l0))) .nil)))
def j5c (f252_l0:q9o):q9n:=fun (x0,x1,_)=>bif (if x1>1 then x1 else 1) != 0 then (f252_l0 (IntKind.i64.wrap (x0+IntKind.i64.wrap (x0.tdiv (if x1>1 then x1 else 1))),0,())).bind fun v=>bif IntKind.i64.wrap (v.1+38) != 0 then some (IntKind.i64.wrap (v.2.1+IntKind.i64.wrap ((IntKind.i64.wrap (36*v.1)).tdiv (IntKind.i64.wrap (v.1+38)))),()) else none else none
theorem k5v (f252_l0:q9o):AqC yp 0 (qe (code Tryz.f252) [1,1]) (k3p f252_l0) w1z w5t (j5c f252_l0):=fun v=>by kernel_rfl
def q7z:q9n:=j5c q8a
theorem k8r:jy 0 (qe (code Tryz.f252) [1,1]) (y8u q7z) :=
 frd kn (And.intro k8s trivial) (k5v q8a)
def b8l (f252_c0:q9n):Ann:=(.seq .nil (.cut .nil (y8u f252_c0)))
def k0q (f252_c0:q9n):q0k:=fun (x0,x1,x2,_)=>bif x2 then (f252_c0 (IntKind.i64.wrap (x0.tdiv 700),x1,())).bind fun v=>some (v.1,()) else (f252_c0 (IntKind.i64.wrap (x0.tdiv 2),x1,())).bind fun v=>some (v.1,())
def wg:q0k:=k0q q7z
theorem g0k:FO 252 (g1m wg):=q1a w1x jb yp b8l k0q q7z kn Tryz.func252 (And.intro k8r trivial)
abbrev q9d:=List (Int)×List (Int)×Int×Int×qa×Unit→Option ((List (Int)×qa×Unit)⊕(qa×Bool×Unit))
def y8f (f:q9d):LEnt:=⟨w2a,w5u,f⟩
abbrev q9e:=List (Int)×Int×Int×Int×Int×Int×List (Int)×Int×Int×qa×Unit→Option (List (Int)×Int×Int×Int×Int×Int×qa×Unit)
def y8g (f:q9e):LEnt:=⟨w2b,w5v,f⟩
abbrev q9f:=List (Int)×Int×Int×Int×Int×Int×qa×Unit→Option ((qa×Unit)⊕(qa×Bool×Unit))
def y8h (f:q9f):LEnt:=⟨w2c,w5w,f⟩
abbrev q4r:=List (Int)×Int×qa×Unit→Option (qa×Bool×Unit)
def y8e (f:q4r):LEnt:=⟨w2d,w5x,f⟩
abbrev z5x:=List (Int)×Unit→Option (qa×Bool×Unit)
def g1i (f:z5x):FEnt:=⟨Li4,q2u,f⟩
def x4s (f155:kj) (f250:q9k) (f251:q9l) (f252:q0k):=lk [(155,v9c f155),(250,f2u f250),(251,f2v f251),(252,g1m f252)]
theorem j8s:zb Tryz.prog (x4s xg q6c q6d wg):=(kc v6z (kc b1q (kc b1r (kc g0k kn))))
def z4g (f155:kj) (f250:q9k) (f251:q9l) (f252:q0k):yh (List (Int)×List (Int)×Int×Int×qa×Unit) ((List (Int)×qa×Unit)⊕(qa×Bool×Unit)):=fun (x0,x1,x2,x3,x4,_)=>bif decide (x3<x2) then bif decide (0≤x3)&&decide (x3<(↑x1.length:Int)) then (f155 (x1.getD x3.toNat 0,())).bind fun v=>bif !v.1 then some (Sum.inr (Sum.inr ([],false,()))) else bif decide (x1.getD x3.toNat 0<128) then bif decide (x4.length+[UInt8.ofNat (IntKind.u8.wrap (x1.getD x3.toNat 0)).toNat].length≤140737488355328/1) then some (Sum.inl (x0,x1,x2,IntKind.i64.wrap (x3+1),x4++[UInt8.ofNat (IntKind.u8.wrap (x1.getD x3.toNat 0)).toNat],())) else none else some (Sum.inl (x0,x1,x2,IntKind.i64.wrap (x3+1),x4,())) else none else some (Sum.inr (Sum.inl (x0,x4,())))
theorem k5n (f155:kj) (f250:q9k) (f251:q9l) (f252:q0k):AqL (x4s f155 f250 f251 f252) 0 (qe (code Tryz.f223) [1,1,0,1,0,0]) .nil w2a w5u (z4g f155 f250 f251 f252):=fun v=>by kernel_rfl
def q7u:q9d:=qc (z4g xg q6c q6d wg) jc
theorem k8c:jf 0 (qe (code Tryz.f223) [1,1,0,1,0,0]) (y8f q7u) :=
 frl j8s (k5n xg q6c q6d wg)
def z4h (f155:kj) (f250:q9k) (f251:q9l) (f252:q0k):yh (List (Int)×Int×Int×Int×Int×Int×List (Int)×Int×Int×qa×Unit) (List (Int)×Int×Int×Int×Int×Int×qa×Unit):=fun (x0,x1,x2,x3,x4,x5,x6,x7,x8,x9,_)=>bif decide (x8<x7) then bif decide (0≤x8)&&decide (x8<(↑x6.length:Int)) then bif decide (x6.getD x8.toNat 0<x2) then some (Sum.inl (x0,x1,x2,IntKind.i64.wrap (x3+1),x4,x5,x6,x7,IntKind.i64.wrap (x8+1),x9,())) else bif x6.getD x8.toNat 0==x2 then (f251 (x3,x4,x9,())).bind fun v=>(f252 (x3,IntKind.i64.wrap (x5+1),x5==x1,())).bind fun v1=>some (Sum.inl (x0,x1,x2,0,v1.1,IntKind.i64.wrap (x5+1),x6,x7,IntKind.i64.wrap (x8+1),v.1,())) else some (Sum.inl (x0,x1,x2,x3,x4,x5,x6,x7,IntKind.i64.wrap (x8+1),x9,())) else none else some (Sum.inr (x0,x1,x2,x3,x4,x5,x9,()))
theorem k5o (f155:kj) (f250:q9k) (f251:q9l) (f252:q0k):AqL (x4s f155 f250 f251 f252) 0 (qe (code Tryz.f223) [1,1,1,1,1,1,0,1,0,0,1,0,1,1,1,1,0,1,0,0]) .nil w2b w5v (z4h f155 f250 f251 f252):=fun v=>by kernel_rfl
def j4b:q9e:=qc (z4h xg q6c q6d wg) jc
theorem k8d:jf 0 (qe (code Tryz.f223) [1,1,1,1,1,1,0,1,0,0,1,0,1,1,1,1,0,1,0,0]) (y8g j4b) :=
 frl j8s (k5o xg q6c q6d wg)
def k3l (f223_l1:q9e):Ann:=(.seq .nil (.blk (.seq .nil (.seq .nil (.seq .nil (.seq .nil (.seq (.seq .nil (.blk (.loop (y8g f223_l1)))) .nil)))))))
def z4i (f155:kj) (f250:q9k) (f251:q9l) (f252:q0k) (f223_l1:q9e):yh (List (Int)×Int×Int×Int×Int×Int×qa×Unit) ((qa×Unit)⊕(qa×Bool×Unit)):=fun (x0,x1,x2,x3,x4,x5,x6,_)=>bif decide (x5<(↑x0.length:Int)) then (f250 (x0,x2,())).bind fun v=>bif decide (IntKind.i64.wrap (x3+IntKind.i64.wrap (IntKind.i64.wrap (IntKind.i32.wrap (v.1-x2))*IntKind.i64.wrap (x5+1)))>2147483647) then some (Sum.inr (Sum.inr ([],false,()))) else (f223_l1 (x0,x1,v.1,IntKind.i64.wrap (x3+IntKind.i64.wrap (IntKind.i64.wrap (IntKind.i32.wrap (v.1-x2))*IntKind.i64.wrap (x5+1))),x4,x5,x0,(↑x0.length:Int),0,x6,())).bind fun v=>some (Sum.inl (v.1,v.2.1,IntKind.i32.wrap (v.2.2.1+1),IntKind.i64.wrap (v.2.2.2.1+1),v.2.2.2.2.1,v.2.2.2.2.2.1,v.2.2.2.2.2.2.1,())) else some (Sum.inr (Sum.inl (x6,())))
theorem k5p (f155:kj) (f250:q9k) (f251:q9l) (f252:q0k) (f223_l1:q9e):AqL (x4s f155 f250 f251 f252) 0 (qe (code Tryz.f223) [1,1,1,1,1,1,0,1,0,0]) (k3l f223_l1) w2c w5w (z4i f155 f250 f251 f252 f223_l1):=fun v=>by kernel_rfl
def q7v:q9f:=qc (z4i xg q6c q6d wg j4b) jc
theorem k8e:jf 0 (qe (code Tryz.f223) [1,1,1,1,1,1,0,1,0,0]) (y8h q7v) :=
 frm j8s (And.intro k8d trivial) (k5p xg q6c q6d wg j4b)
def k3k (f223_l2:q9f):Ann:=(.seq .nil (.seq (.seq .nil (.blk (.loop (y8h f223_l2)))) .nil))
def j4z (f155:kj) (f250:q9k) (f251:q9l) (f252:q0k) (f223_l2:q9f):q4r:=fun (x0,x1,x2,_)=>(f223_l2 (x0,x1,128,0,72,x1,x2,())).bind fun v=>Sum.elim (fun v=>some (v.1,true,())) (fun v=>some (v.1,v.2.1,())) v
theorem k5m (f155:kj) (f250:q9k) (f251:q9l) (f252:q0k) (f223_l2:q9f):AqC (x4s f155 f250 f251 f252) 0 (qe (code Tryz.f223) [1,1,1,1,1]) (k3k f223_l2) w2d w5x (j4z f155 f250 f251 f252 f223_l2):=fun v=>by kernel_rfl
def q7t:q4r:=j4z xg q6c q6d wg q7v
theorem k8b:jy 0 (qe (code Tryz.f223) [1,1,1,1,1]) (y8e q7t) :=
 frd j8s (And.intro k8e trivial) (k5m xg q6c q6d wg q7v)
def b8b (f223_c0:q4r) (f223_l0:q9d):Ann:=(.seq .nil (.seq .nil (.seq (.seq .nil (.blk (.loop (y8f f223_l0)))) (.seq .nil (.cut .nil (y8e f223_c0))))))
def k0d (f155:kj) (f250:q9k) (f251:q9l) (f252:q0k) (f223_c0:q4r) (f223_l0:q9d):z5x:=fun (x0,_)=>(f223_l0 (x0,x0,(↑x0.length:Int),0,[],())).bind fun v=>Sum.elim (fun v=>bif decide ((↑(List.length v.2.1):Int)>0) then bif decide (List.length v.2.1+[45].length≤140737488355328/1) then (f223_c0 (v.1,(↑(List.length v.2.1):Int),v.2.1++[45],())).bind fun v=>some (v.1,v.2.1,()) else none else (f223_c0 (v.1,(↑(List.length v.2.1):Int),v.2.1,())).bind fun v=>some (v.1,v.2.1,())) (fun v=>some (v.1,v.2.1,())) v
theorem d3t (f155:kj) (f250:q9k) (f251:q9l) (f252:q0k) (f223_c0:q4r) (f223_l0:q9d):zw (x4s f155 f250 f251 f252) 0 Tryz.f223 (b8b f223_c0 f223_l0) Li4 q2u (k0d f155 f250 f251 f252 f223_c0 f223_l0):=fun v=>by kernel_rfl
def x4f:z5x:=k0d xg q6c q6d wg q7t q7u
theorem g0g:FO 223 (g1i x4f) :=
 qo j8s Tryz.func223 (And.intro k8c (And.intro k8b trivial)) (d3t xg q6c q6d wg q7t q7u)
abbrev x5x:=Int×Unit→Option (Bool×Int×Unit)
def f2x (f:x5x):FEnt:=⟨w2e,w5y,f⟩
def g2p:x5x:=fun (x0,_)=>some (decide (x0≥0),x0,())
theorem d3z:zw yp 1 Tryz.f254 .nil w2e w5y (g2p):=fun v=>by kernel_rfl
def x8v:x5x:=g2p
theorem b1t:FO 254 (f2x x8v) :=
 q0 kn Tryz.func254 (d3z)
abbrev x5z:=qq×qu×qv×qa×Unit→Option (Bool×Unit)
def f2z (f:x5z):FEnt:=⟨ki,qw,f⟩
def b6a (f181:z9h):=lk [(181,g1b f181)]
def g2r (f181:z9h):x5z:=fun (x0,x1,x2,x3,_)=>(f181 (x0,x1,x2,x3,())).bind fun v=>bif v.2.1 then some (v.1==x3,()) else some (false,())
def x8x:x5z:=g2r z2t
theorem b1v:FO 256 (f2z x8x):=vf ki qw b6a g2r z2t (kc g0a kn) Tryz.func256
abbrev x5y:=qa×qq×qu×qv×Unit→Option (Bool×qa×qq×qu×qv×Unit)
def f2y (f:x5y):FEnt:=⟨w2f,w5z,f⟩
def b5z (f21:T21) (f256:x5z):=lk [(21,E21 f21),(256,f2z f256)]
def g2q (f21:T21) (f256:x5z):x5y:=fun (x0,x1,x2,x3,_)=>(f21 (x0,())).bind fun v=>bif decide (v.1<0) then some (true,x0,x1,x2,x3,()) else (f256 (x1,x2,x3,x0,())).bind fun v=>some (bif v.1 then false else true,x0,x1,x2,x3,())
theorem d4a (f21:T21) (f256:x5z):zw (b5z f21 f256) 2 Tryz.f255 .nil w2f w5z (g2q f21 f256):=fun v=>by kernel_rfl
def x8w:x5y:=g2q C21 x8x
theorem b1u:FO 255 (f2y x8w) :=
 q0 (kc v7d (kc b1v kn)) Tryz.func255 (d4a C21 x8x)
abbrev v2r:=qa×qa×Unit→Option (Bool×Unit)
def f4m (f:v2r):FEnt:=⟨zu,qw,f⟩
def g3j:v2r:=fun (x0,x1,_)=>bif decide ((↑x0.length:Int)≥(↑x1.length:Int)) then bif decide (0≤IntKind.i64.wrap ((↑x0.length:Int)-(↑x1.length:Int)))&&decide (IntKind.i64.wrap ((↑x0.length:Int)-(↑x1.length:Int))≤(↑x0.length:Int)) then some (List.drop (IntKind.i64.wrap ((↑x0.length:Int)-(↑x1.length:Int))).toNat x0==x1,()) else none else some (false,())
def x9p:v2r:=g3j
theorem b3k:FO 308 (f4m x9p):=zq0 zu qw yp g3j kn Tryz.func308
abbrev v2m:=qa×qa×Unit→Option (Bool×Unit)
def f4b (f:v2m):FEnt:=⟨zu,qw,f⟩
def b6t (f308:v2r):=lk [(308,f4m f308)]
def g3f (f308:v2r):v2m:=fun (x0,x1,_)=>(f308 (x0,x1,())).bind fun v=>some (v.1,())
def x9l:v2m:=g3f x9p
theorem b2z:FO 292 (f4b x9l):=vf zu qw b6t g3f x9p (kc b3k kn) Tryz.func292
abbrev T96:=qa×qa×Unit→Option (Bool×Unit)
def E96 (f:T96):FEnt:=⟨zu,qw,f⟩
def K96 (f131:y4f):=lk [(131,g0v f131)]
def F96 (f131:y4f):T96:=fun (x0,x1,_)=>(f131 (x0,x1,())).bind fun v=>some (v.1,())
def C96:T96:=F96 q6a
theorem g9y:FO 96 (E96 C96):=vf zu qw K96 F96 q6a (kc w9t kn) Tryz.func96
abbrev z6a:=qa×Unit→Option (Bool×Unit)
def g1n (f:z6a):FEnt:=⟨zy,qw,f⟩
def b6c (f292:v2m) (f96:T96):=lk [(292,f4b f292),(96,E96 f96)]
def g2t (f292:v2m) (f96:T96):z6a:=fun (x0,_)=>(f96 (x0,[45],())).bind fun v=>bif v.1 then some (true,()) else (f292 (x0,[45],())).bind fun v=>bif v.1 then some (true,()) else bif decide ((↑x0.length:Int)>3) then bif decide (4≤(↑x0.length:Int)) then some (List.drop 2 (List.take 4 x0)==[45,45],()) else none else some (false,())
def y3e:z6a:=g2t x9l C96
theorem g0l:FO 258 (g1n y3e):=zq2 zy qw b6c g2t x9l C96 (kc b2z (kc g9y kn)) Tryz.func258
abbrev x6a:=qa×Unit→Option (Bool×qa×Unit)
def f3a (f:x6a):FEnt:=⟨q2c,q2e,f⟩
def b6b (f258:z6a):=lk [(258,g1n f258)]
def g2s (f258:z6a):x6a:=fun (x0,_)=>(f258 (x0,())).bind fun v=>some (v.1,x0,())
theorem d4b (f258:z6a):zw (b6b f258) 1 Tryz.f257 .nil q2c q2e (g2s f258):=fun v=>by kernel_rfl
def x8y:x6a:=g2s y3e
theorem b1w:FO 257 (f3a x8y) :=
 q0 (kc g0l kn) Tryz.func257 (d4b y3e)
abbrev z9i:=qq×qu×qv×Int×Unit→Option (Int×Unit)
def g1g (f:z9i):FEnt:=⟨Li0,jb,f⟩
def b5p (f248:j7p):=lk [(248,v0a f248)]
def k0a (f248:j7p):z9i:=fun (x0,x1,x2,x3,_)=>(f248 (x0,x1,x2,x3,())).bind fun v=>some (v.2.2.1,())
def y3d:z9i:=k0a q7y
theorem g0f:FO 215 (g1g y3d):=vf Li0 jb b5p k0a q7y (kc x3l kn) Tryz.func215
abbrev x6b:=qq×qu×qv×List (Int)×Unit→Option (Bool×qq×qu×qv×List (Int)×Unit)
def f3b (f:x6b):FEnt:=⟨z0w,z1a,f⟩
def b6d (f215:z9i):=lk [(215,g1g f215)]
def g2u (f215:z9i):x6b:=fun (x0,x1,x2,x3,_)=>bif decide (0<(↑x3.length:Int)) then (f215 (x0,x1,x2,x3.getD 0 0,())).bind fun v=>some (v.1==4,x0,x1,x2,x3,()) else none
theorem d4c (f215:z9i):zw (b6d f215) 2 Tryz.f259 .nil z0w z1a (g2u f215):=fun v=>by kernel_rfl
def x8z:x6b:=g2u y3d
theorem b1x:FO 259 (f3b x8z) :=
 q0 (kc g0f kn) Tryz.func259 (d4c y3d)
abbrev z5y:=Int×Unit→Option (Bool×Unit)
def g1k (f:z5y):FEnt:=⟨q2k,qw,f⟩
def k0i:z5y:=fun (x0,_)=>bif decide (x0≥1632) then some (decide (x0≤1641),()) else some (false,())
def j6p:z5y:=k0i
theorem g0i:FO 242 (g1k j6p):=zq0 q2k qw yp k0i kn Tryz.func242
abbrev z5z:=Int×Unit→Option (Bool×Unit)
def g1l (f:z5z):FEnt:=⟨q2k,qw,f⟩
def k0l:z5z:=fun (x0,_)=>bif decide (x0≥1776) then some (decide (x0≤1785),()) else some (false,())
def j6q:z5z:=k0l
theorem g0j:FO 245 (g1l j6q):=zq0 q2k qw yp k0l kn Tryz.func245
abbrev x5m:=Int×Unit→Option (Unit⊕Unit⊕Unit⊕Unit⊕Unit⊕Unit⊕Unit⊕Unit⊕Unit)
def f2e (f:x5m):FEnt:=⟨q2k,w6c,f⟩
def b5o (f242:z5y) (f245:z5z) (f247:v2i):=lk [(242,g1k f242),(245,g1l f245),(247,f2t f247)]
def v9z (f242:z5y) (f245:z5z) (f247:v2i):x5m:=fun (x0,_)=>(f242 (x0,())).bind fun v=>bif v.1 then some (Sum.inl ()) else (f245 (x0,())).bind fun v=>bif v.1 then some (Sum.inr (Sum.inl ())) else (f247 ()).bind fun v=>bif decide (x0=8205) then some (Sum.inr (Sum.inr (Sum.inl ()))) else bif decide (x0=8204) then some (Sum.inr (Sum.inr (Sum.inr (Sum.inl ())))) else bif decide (x0=183) then some (Sum.inr (Sum.inr (Sum.inr (Sum.inr (Sum.inl ()))))) else bif decide (x0=885) then some (Sum.inr (Sum.inr (Sum.inr (Sum.inr (Sum.inr (Sum.inl ())))))) else bif decide (x0=1523) then some (Sum.inr (Sum.inr (Sum.inr (Sum.inr (Sum.inr (Sum.inr (Sum.inl ()))))))) else bif decide (x0=1524) then some (Sum.inr (Sum.inr (Sum.inr (Sum.inr (Sum.inr (Sum.inr (Sum.inl ()))))))) else bif decide (x0=12539) then some (Sum.inr (Sum.inr (Sum.inr (Sum.inr (Sum.inr (Sum.inr (Sum.inr (Sum.inl ())))))))) else some (Sum.inr (Sum.inr (Sum.inr (Sum.inr (Sum.inr (Sum.inr (Sum.inr (Sum.inr ()))))))))
theorem d3s (f242:z5y) (f245:z5z) (f247:v2i):zw (b5o f242 f245 f247) 0 Tryz.f214 .nil q2k w6c (v9z f242 f245 f247):=fun v=>by kernel_rfl
def x8m:x5m:=v9z j6p j6q v8v
theorem b0z:FO 214 (f2e x8m) :=
 q0 (kc g0i (kc g0j (kc b1p kn))) Tryz.func214 (d3s j6p j6q v8v)
abbrev j6b:=List (Int)×Int×Int×Unit→Option (Unit⊕(Int×Unit))
def y9d (f:j6b):LEnt:=⟨w2j,j2w,f⟩
abbrev v2k:=List (Int)×Unit→Option (Int×Unit)
def f3s (f:v2k):FEnt:=⟨x0n,jb,f⟩
def g4l (f245:z5z):=lk [(245,g1l f245)]
theorem v5i:zb Tryz.prog (g4l j6q):=(kc g0j kn)
def z4y (f245:z5z):yh (List (Int)×Int×Int×Unit) (Unit⊕(Int×Unit)):=fun (x0,x1,x2,_)=>bif decide (x2<x1) then bif decide (0≤x2)&&decide (x2<(↑x0.length:Int)) then (f245 (x0.getD x2.toNat 0,())).bind fun v=>bif v.1 then some (Sum.inr (Sum.inr (x2,()))) else some (Sum.inl (x0,x1,IntKind.i64.wrap (x2+1),())) else none else some (Sum.inr (Sum.inl ()))
def j4k:j6b:=qc (z4y j6q) jc
theorem k9a:jf 0 (qe (code Tryz.f281) [1,0,1,0,0]) (y9d j4k):=zl1 w2j j2w g4l z4y j6q v5i
def b8s (f281_l0:j6b):Ann:=(.seq .nil (.seq (.seq .nil (.blk (.loop (y9d f281_l0)))) .nil))
def k0v (f245:z5z) (f281_l0:j6b):v2k:=fun (x0,_)=>(f281_l0 (x0,(↑x0.length:Int),0,())).bind fun v=>Sum.elim (fun v=>some (-1,())) (fun v=>some (v.1,())) v
def x9e:v2k:=k0v j6q j4k
theorem b2q:FO 281 (f3s x9e):=ve x0n jb g4l b8s k0v j6q j4k v5i Tryz.func281 (And.intro k9a trivial)
abbrev v2h:=List (Int)×Unit→Option (Bool×Unit)
def f2r (f:v2h):FEnt:=⟨x0n,qw,f⟩
def b5v (f281:v2k):=lk [(281,f3s f281)]
def k0k (f281:v2k):v2h:=fun (x0,_)=>(f281 (x0,())).bind fun v=>some (decide (v.1≥0),())
def v8u:v2h:=k0k x9e
theorem b1n:FO 244 (f2r v8u):=vf x0n qw b5v k0k x9e (kc b2q kn) Tryz.func244
abbrev x5v:=qq×qu×qv×List (Int)×Int×Unit→Option (Bool×Unit)
def f2q (f:x5v):FEnt:=⟨vm,qw,f⟩
def b5u (f244:v2h):=lk [(244,f2r f244)]
def k0j (f244:v2h):x5v:=fun (x0,x1,x2,x3,x4,_)=>(f244 (x3,())).bind fun v=>some (bif v.1 then false else true,())
def x8s:x5v:=k0j v8u
theorem b1m:FO 243 (f2q x8s):=vf vm qw b5u k0j v8u (kc b1n kn) Tryz.func243
abbrev q4x:=List (Int)×Int×Int×Unit→Option (Unit⊕(Int×Unit))
def z0u (f:q4x):LEnt:=⟨w2k,j2w,f⟩
abbrev j7r:=List (Int)×Unit→Option (Int×Unit)
def v0g (f:j7r):FEnt:=⟨x0o,jb,f⟩
def y4c (f242:z5y):=lk [(242,g1k f242)]
theorem y0w:zb Tryz.prog (y4c j6p):=(kc g0i kn)
def j1s (f242:z5y):yh (List (Int)×Int×Int×Unit) (Unit⊕(Int×Unit)):=fun (x0,x1,x2,_)=>bif decide (x2<x1) then bif decide (0≤x2)&&decide (x2<(↑x0.length:Int)) then (f242 (x0.getD x2.toNat 0,())).bind fun v=>bif v.1 then some (Sum.inr (Sum.inr (x2,()))) else some (Sum.inl (x0,x1,IntKind.i64.wrap (x2+1),())) else none else some (Sum.inr (Sum.inl ()))
def q3t:q4x:=qc (j1s j6p) jc
theorem x7r:jf 0 (qe (code Tryz.f281) [1,0,1,0,0]) (z0u q3t):=zl1 w2k j2w y4c j1s j6p y0w
def g5c (f281v1_l0:q4x):Ann:=(.seq .nil (.seq (.seq .nil (.blk (.loop (z0u f281v1_l0)))) .nil))
def z4z (f242:z5y) (f281v1_l0:q4x):j7r:=fun (x0,_)=>(f281v1_l0 (x0,(↑x0.length:Int),0,())).bind fun v=>Sum.elim (fun v=>some (-1,())) (fun v=>some (v.1,())) v
def j6t:j7r:=z4z j6p q3t
theorem w0s:FO 281 (v0g j6t):=ve x0o jb y4c g5c z4z j6p q3t y0w Tryz.func281 (And.intro x7r trivial)
abbrev j7n:=List (Int)×Unit→Option (Bool×Unit)
def x9y (f:j7n):FEnt:=⟨x0o,qw,f⟩
def g4e (f281v1:j7r):=lk [(281,v0g f281v1)]
def z4q (f281v1:j7r):j7n:=fun (x0,_)=>(f281v1 (x0,())).bind fun v=>some (decide (v.1≥0),())
def z3d:j7n:=z4q j6t
theorem w0o:FO 244 (x9y z3d):=vf x0o qw g4e z4q j6t (kc w0s kn) Tryz.func244
abbrev x5w:=qq×qu×qv×List (Int)×Int×Unit→Option (Bool×Unit)
def f2s (f:x5w):FEnt:=⟨vm,qw,f⟩
def b5w (f244v1:j7n):=lk [(244,x9y f244v1)]
def k0m (f244v1:j7n):x5w:=fun (x0,x1,x2,x3,x4,_)=>(f244v1 (x3,())).bind fun v=>some (bif v.1 then false else true,())
def x8t:x5w:=k0m z3d
theorem b1o:FO 246 (f2s x8t):=vf vm qw b5w k0m z3d (kc w0o kn) Tryz.func246
abbrev j0c:=qq×qu×qv×List (Int)×Int×Int×Unit→Option (Int×Unit)
def x4j (f:j0c):FEnt:=⟨x0p,z8z,f⟩
def k1l:j0c:=fun (x0,x1,x2,x3,x4,x5,_)=>bif decide (IntKind.i64.wrap (x4+x5)<0) then some (-1,()) else bif decide (IntKind.i64.wrap (x4+x5)≥(↑x3.length:Int)) then some (-1,()) else bif decide (0≤IntKind.i64.wrap (x4+x5))&&decide (IntKind.i64.wrap (x4+x5)<(↑x3.length:Int)) then some (x3.getD ((IntKind.i64.wrap (x4+x5)).toNat) 0,()) else none
def q0n:j0c:=k1l
theorem y1s:FO 304 (x4j q0n):=zq0 x0p z8z yp k1l kn Tryz.func304
abbrev z9n:=qq×qu×qv×List (Int)×Int×Unit→Option (Bool×Unit)
def g1q (f:z9n):FEnt:=⟨vm,qw,f⟩
def b6n (f276:q1i) (f304:j0c):=lk [(276,v0c f276),(304,x4j f304)]
def k0w (f276:q1i) (f304:j0c):z9n:=fun (x0,x1,x2,x3,x4,_)=>(f304 (x0,x1,x2,x3,x4,-1,())).bind fun v=>(f276 (x0,x1,x2,v.1,())).bind fun v=>some (v.1==9,())
def z8q:z9n:=k0w kh q0n
theorem g0n:FO 282 (g1q z8q):=zq2 vm qw b6n k0w kh q0n (kc x3m (kc y1s kn)) Tryz.func282
abbrev x6u:=qq×qu×qv×Int×Unit→Option (Int×Unit)
def f4p (f:x6u):FEnt:=⟨Li0,jb,f⟩
def b6w (f248:j7p):=lk [(248,v0a f248)]
def k1p (f248:j7p):x6u:=fun (x0,x1,x2,x3,_)=>(f248 (x0,x1,x2,x3,())).bind fun v=>some (v.2.2.2.2.1,())
def z8u:x6u:=k1p q7y
theorem b3o:FO 313 (f4p z8u):=vf Li0 jb b6w k1p q7y (kc x3l kn) Tryz.func313
abbrev j6e:=Int×Int×qq×qu×qv×List (Int)×Int×Unit→Option (Unit⊕(Int×Unit))
def y9p (f:j6e):LEnt:=⟨w2l,w6d,f⟩
abbrev v2q:=qq×qu×qv×List (Int)×Int×Int×Unit→Option (Int×Unit)
def f4k (f:v2q):FEnt:=⟨x0p,jb,f⟩
def g4o (f304:j0c) (f313:x6u):=lk [(304,x4j f304),(313,f4p f313)]
theorem v5l:zb Tryz.prog (g4o q0n z8u):=(kc y1s (kc b3o kn))
def z5l (f304:j0c) (f313:x6u):yh (Int×Int×qq×qu×qv×List (Int)×Int×Unit) (Unit⊕(Int×Unit)):=fun (x0,x1,x2,x3,x4,x5,x6,_)=>(f304 (x2,x3,x4,x5,x6,x1,())).bind fun v=>bif decide (v.1≥0) then (f304 (x2,x3,x4,x5,x6,x1,())).bind fun v=>(f313 (x2,x3,x4,v.1,())).bind fun v=>bif v.1 != 3 then some (Sum.inr (Sum.inr (v.1,()))) else some (Sum.inl (x0,IntKind.i64.wrap (x1+x0),x2,x3,x4,x5,x6,())) else some (Sum.inr (Sum.inl ()))
def j4r:j6e:=qc (z5l q0n z8u) jc
theorem k9m:jf 0 (qe (code Tryz.f305) [1,0,1,0,0]) (y9p j4r):=zl2 w2l w6d g4o z5l q0n z8u v5l
def b9a (f305_l0:j6e):Ann:=(.seq .nil (.seq (.seq .nil (.blk (.loop (y9p f305_l0)))) .nil))
def k1m (f304:j0c) (f313:x6u) (f305_l0:j6e):v2q:=fun (x0,x1,x2,x3,x4,x5,_)=>(f305_l0 (x5,x5,x0,x1,x2,x3,x4,())).bind fun v=>Sum.elim (fun v=>some (0,())) (fun v=>some (v.1,())) v
def x9o:v2q:=k1m q0n z8u j4r
theorem b3i:FO 305 (f4k x9o):=q5y x0p jb g4o b9a k1m q0n z8u j4r v5l Tryz.func305 (And.intro k9m trivial)
abbrev x6n:=qq×qu×qv×List (Int)×Int×Unit→Option (Bool×Unit)
def f3t (f:x6n):FEnt:=⟨vm,qw,f⟩
def b6o (f282:z9n) (f305:v2q):=lk [(282,g1q f282),(305,f4k f305)]
def k0x (f282:z9n) (f305:v2q):x6n:=fun (x0,x1,x2,x3,x4,_)=>(f305 (x0,x1,x2,x3,x4,1,())).bind fun v=>(f282 (x0,x1,x2,x3,x4,())).bind fun v1=>bif v1.1 then some (true,()) else (f305 (x0,x1,x2,x3,x4,-1,())).bind fun v2=>bif v2.1==1 then bif v.1==1 then some (true,()) else some (v.1==2,()) else some (false,())
def x9f:x6n:=k0x z8q x9o
theorem b2r:FO 283 (f3t x9f):=zq2 vm qw b6o k0x z8q x9o (kc g0n (kc b3i kn)) Tryz.func283
abbrev x6o:=qq×qu×qv×List (Int)×Int×Unit→Option (Bool×Unit)
def f3u (f:x6o):FEnt:=⟨vm,qw,f⟩
def b6p (f304:j0c):=lk [(304,x4j f304)]
def k0y (f304:j0c):x6o:=fun (x0,x1,x2,x3,x4,_)=>(f304 (x0,x1,x2,x3,x4,-1,())).bind fun v=>bif v.1==108 then (f304 (x0,x1,x2,x3,x4,1,())).bind fun v=>some (v.1==108,()) else some (false,())
def x9g:x6o:=k0y q0n
theorem b2s:FO 284 (f3u x9g):=vf vm qw b6p k0y q0n (kc y1s kn) Tryz.func284
abbrev z0e:=qq×qu×qv×Int×Unit→Option (Int×Unit)
def v9h (f:z0e):FEnt:=⟨Li0,jb,f⟩
def b6u (f248:j7p):=lk [(248,v0a f248)]
def k1n (f248:j7p):z0e:=fun (x0,x1,x2,x3,_)=>(f248 (x0,x1,x2,x3,())).bind fun v=>some (v.2.2.2.2.2.1,())
def j6w:z0e:=k1n q7y
theorem v7h:FO 306 (v9h j6w):=vf Li0 jb b6u k1n q7y (kc x3l kn) Tryz.func306
abbrev x6p:=qq×qu×qv×List (Int)×Int×Unit→Option (Bool×Unit)
def f3v (f:x6p):FEnt:=⟨vm,qw,f⟩
def b6q (f304:j0c) (f306:z0e):=lk [(304,x4j f304),(306,v9h f306)]
def k0z (f304:j0c) (f306:z0e):x6p:=fun (x0,x1,x2,x3,x4,_)=>(f304 (x0,x1,x2,x3,x4,1,())).bind fun v=>(f306 (x0,x1,x2,v.1,())).bind fun v=>some (v.1==2,())
def x9h:x6p:=k0z q0n j6w
theorem b2t:FO 285 (f3v x9h):=zq2 vm qw b6q k0z q0n j6w (kc y1s (kc v7h kn)) Tryz.func285
abbrev x6q:=qq×qu×qv×List (Int)×Int×Unit→Option (Bool×Unit)
def f3w (f:x6q):FEnt:=⟨vm,qw,f⟩
def b6r (f304:j0c) (f306:z0e):=lk [(304,x4j f304),(306,v9h f306)]
def k1a (f304:j0c) (f306:z0e):x6q:=fun (x0,x1,x2,x3,x4,_)=>(f304 (x0,x1,x2,x3,x4,-1,())).bind fun v=>(f306 (x0,x1,x2,v.1,())).bind fun v=>some (v.1==4,())
def x9i:x6q:=k1a q0n j6w
theorem b2u:FO 286 (f3w x9i):=zq2 vm qw b6r k1a q0n j6w (kc y1s (kc v7h kn)) Tryz.func286
abbrev y4m:=Int×qq×qu×qv×List (Int)×Int×Unit→Option (Bool×qq×qu×qv×List (Int)×Int×Unit)
def f4l (f:y4m):FEnt:=⟨w2m,x1i,f⟩
def b6v (f306:z0e):=lk [(306,v9h f306)]
def k1o (f306:z0e):y4m:=fun (x0,x1,x2,x3,x4,x5,_)=>(f306 (x1,x2,x3,x0,())).bind fun v=>bif v.1==7 then some (true,x1,x2,x3,x4,x5,()) else some (v.1==8,x1,x2,x3,x4,x5,())
theorem d4t (f306:z0e):zw (b6v f306) 1 Tryz.f307 .nil w2m x1i (k1o f306):=fun v=>by kernel_rfl
def z8t:y4m:=k1o j6w
theorem b3j:FO 307 (f4l z8t) :=
 q0 (kc v7h kn) Tryz.func307 (d4t j6w)
abbrev q0o:=List (Int)×Int×Int×qq×qu×qv×List (Int)×Int×Unit→Option ((qq×qu×qv×List (Int)×Int×Unit)⊕(Int×qq×qu×qv×List (Int)×Int×Unit))
def z0v (f:q0o):LEnt:=⟨w2n,w6f,f⟩
abbrev j1z:=List (Int)×qq×qu×qv×List (Int)×Int×Unit→Option (Int×qq×qu×qv×List (Int)×Int×Unit)
def v0h (f:j1z):FEnt:=⟨x0q,w6e,f⟩
def y4d (f307:y4m):=lk [(307,f4l f307)]
theorem y0x:zb Tryz.prog (y4d z8t):=(kc b3j kn)
def j1t (f307:y4m):yh (List (Int)×Int×Int×qq×qu×qv×List (Int)×Int×Unit) ((qq×qu×qv×List (Int)×Int×Unit)⊕(Int×qq×qu×qv×List (Int)×Int×Unit)):=fun (x0,x1,x2,x3,x4,x5,x6,x7,_)=>bif decide (x2<x1) then bif decide (0≤x2)&&decide (x2<(↑x0.length:Int)) then (f307 (x0.getD x2.toNat 0,x3,x4,x5,x6,x7,())).bind fun v=>bif v.1 then some (Sum.inr (Sum.inr (x2,v.2.1,v.2.2.1,v.2.2.2.1,v.2.2.2.2.1,v.2.2.2.2.2.1,()))) else some (Sum.inl (x0,x1,IntKind.i64.wrap (x2+1),v.2.1,v.2.2.1,v.2.2.2.1,v.2.2.2.2.1,v.2.2.2.2.2.1,())) else none else some (Sum.inr (Sum.inl (x3,x4,x5,x6,x7,())))
def q3u:q0o:=qc (j1t z8t) jc
theorem x7s:jf 1 (qe (code Tryz.f281) [1,0,1,0,0]) (z0v q3u):=zl1 w2n w6f y4d j1t z8t y0x
def g5d (f281v2_l0:q0o):Ann:=(.seq .nil (.seq (.seq .nil (.blk (.loop (z0v f281v2_l0)))) .nil))
def z5a (f307:y4m) (f281v2_l0:q0o):j1z:=fun (x0,x1,x2,x3,x4,x5,_)=>(f281v2_l0 (x0,(↑x0.length:Int),0,x1,x2,x3,x4,x5,())).bind fun v=>Sum.elim (fun v=>some (-1,v.1,v.2.1,v.2.2.1,v.2.2.2.1,v.2.2.2.2.1,())) (fun v=>some (v.1,v.2.1,v.2.2.1,v.2.2.2.1,v.2.2.2.2.1,v.2.2.2.2.2.1,())) v
theorem g8c (f307:y4m) (f281v2_l0:q0o):zw (y4d f307) 1 Tryz.f281 (g5d f281v2_l0) x0q w6e (z5a f307 f281v2_l0):=fun v=>by kernel_rfl
def j6u:j1z:=z5a z8t q3u
theorem w0t:FO 281 (v0h j6u) :=
 qo y0x Tryz.func281 (And.intro x7s trivial) (g8c z8t q3u)
abbrev j7o:=List (Int)×qq×qu×qv×List (Int)×Int×Unit→Option (Bool×qq×qu×qv×List (Int)×Int×Unit)
def x9z (f:j7o):FEnt:=⟨x0q,x1i,f⟩
def g4f (f281v2:j1z):=lk [(281,v0h f281v2)]
def z4r (f281v2:j1z):j7o:=fun (x0,x1,x2,x3,x4,x5,_)=>(f281v2 (x0,x1,x2,x3,x4,x5,())).bind fun v=>some (decide (v.1≥0),v.2.1,v.2.2.1,v.2.2.2.1,v.2.2.2.2.1,v.2.2.2.2.2.1,())
theorem g7z (f281v2:j1z):zw (g4f f281v2) 1 Tryz.f244 .nil x0q x1i (z4r f281v2):=fun v=>by kernel_rfl
def z3e:j7o:=z4r j6u
theorem w0p:FO 244 (x9z z3e) :=
 q0 (kc w0t kn) Tryz.func244 (g7z j6u)
abbrev x6r:=qq×qu×qv×List (Int)×Int×Unit→Option (Bool×Unit)
def f3x (f:x6r):FEnt:=⟨vm,qw,f⟩
def b6s (f244v2:j7o):=lk [(244,x9z f244v2)]
def k1b (f244v2:j7o):x6r:=fun (x0,x1,x2,x3,x4,_)=>(f244v2 (x3,x0,x1,x2,x3,x4,())).bind fun v=>some (v.1,())
def x9j:x6r:=k1b z3e
theorem b2v:FO 287 (f3x x9j):=vf vm qw b6s k1b z3e (kc w0p kn) Tryz.func287
abbrev x5j:=qq×qu×qv×List (Int)×Int×Unit→Option (Int×Unit)
def f1t (f:x5j):FEnt:=⟨w2o,jb,f⟩
def b5h (f214:x5m) (f243:x5v) (f246:x5w) (f282:z9n) (f283:x6n) (f284:x6o) (f285:x6p) (f286:x6q) (f287:x6r):=lk [(214,f2e f214),(243,f2q f243),(246,f2s f246),(282,g1q f282),(283,f3t f283),(284,f3u f284),(285,f3v f285),(286,f3w f286),(287,f3x f287)]
def v9u (f214:x5m) (f243:x5v) (f246:x5w) (f282:z9n) (f283:x6n) (f284:x6o) (f285:x6p) (f286:x6q) (f287:x6r):x5j:=fun (x0,x1,x2,x3,x4,_)=>bif decide (x4<0) then some (0,()) else bif decide (x4≥(↑x3.length:Int)) then some (0,()) else bif decide (0≤x4)&&decide (x4<(↑x3.length:Int)) then (f214 (x3.getD x4.toNat 0,())).bind fun v=>Sum.elim (fun v=>(f243 (x0,x1,x2,x3,x4,())).bind fun v=>bif v.1 then some (1,()) else some (2,())) (fun v=>Sum.elim (fun v=>(f246 (x0,x1,x2,x3,x4,())).bind fun v=>bif v.1 then some (1,()) else some (2,())) (fun v=>Sum.elim (fun v=>(f282 (x0,x1,x2,x3,x4,())).bind fun v=>bif v.1 then some (1,()) else some (2,())) (fun v=>Sum.elim (fun v=>(f283 (x0,x1,x2,x3,x4,())).bind fun v=>bif v.1 then some (1,()) else some (2,())) (fun v=>Sum.elim (fun v=>(f284 (x0,x1,x2,x3,x4,())).bind fun v=>bif v.1 then some (1,()) else some (2,())) (fun v=>Sum.elim (fun v=>(f285 (x0,x1,x2,x3,x4,())).bind fun v=>bif v.1 then some (1,()) else some (2,())) (fun v=>Sum.elim (fun v=>(f286 (x0,x1,x2,x3,x4,())).bind fun v=>bif v.1 then some (1,()) else some (2,())) (fun v=>Sum.elim (fun v=>(f287 (x0,x1,x2,x3,x4,())).bind fun v=>bif v.1 then some (1,()) else some (2,())) (fun v=>some (0,())) v) v) v) v) v) v) v) v else none
theorem d3o (f214:x5m) (f243:x5v) (f246:x5w) (f282:z9n) (f283:x6n) (f284:x6o) (f285:x6p) (f286:x6q) (f287:x6r):zw (b5h f214 f243 f246 f282 f283 f284 f285 f286 f287) 0 Tryz.f183 .nil w2o jb (v9u f214 f243 f246 f282 f283 f284 f285 f286 f287):=fun v=>by kernel_rfl
def z8k:x5j:=v9u x8m x8s x8t z8q x9f x9g x9h x9i x9j
theorem b0o:FO 183 (f1t z8k) :=
 q0 (kc b0z (kc b1m (kc b1o (kc g0n (kc b2r (kc b2s (kc b2t (kc b2u (kc b2v kn))))))))) Tryz.func183 (d3o x8m x8s x8t z8q x9f x9g x9h x9i x9j)
abbrev x5n:=qq×qu×qv×Int×Unit→Option (Bool×Unit)
def f2f (f:x5n):FEnt:=⟨Li0,qw,f⟩
def b5q (f215:z9i) (f216:j7m):=lk [(215,g1g f215),(216,v9g f216)]
def k0b (f215:z9i) (f216:j7m):x5n:=fun (x0,x1,x2,x3,_)=>(f216 (x0,x1,x2,x3,())).bind fun v=>bif v.2.2.2.2.2.1 then bif v.2.2.2.1 then some (false,()) else bif v.2.2.2.2.1 then some (false,()) else (f215 (x0,x1,x2,x3,())).bind fun v=>bif v.1==2 then some (true,()) else bif v.1==3 then some (true,()) else bif v.1==4 then some (true,()) else bif v.1==5 then some (true,()) else some (x3==45,()) else (f215 (x0,x1,x2,x3,())).bind fun v=>bif v.1==2 then some (true,()) else bif v.1==3 then some (true,()) else bif v.1==4 then some (true,()) else bif v.1==5 then some (true,()) else some (x3==45,())
def z8l:x5n:=k0b y3d yd
theorem b1a:FO 217 (f2f z8l):=zq2 Li0 qw b5q k0b y3d yd (kc g0f (kc v7e kn)) Tryz.func217
abbrev j6a:=List (Int)×List (Int)×Int×Int×qq×qu×qv×Unit→Option (Unit⊕(Bool×Unit))
def y8w (f:j6a):LEnt:=⟨w2p,w6g,f⟩
abbrev x6d:=qq×qu×qv×List (Int)×Unit→Option (Bool×Unit)
def f3d (f:x6d):FEnt:=⟨Li9,qw,f⟩
def g4i (f183:x5j) (f217:x5n):=lk [(183,f1t f183),(217,f2f f217)]
theorem v5e:zb Tryz.prog (g4i z8k z8l):=(kc b0o (kc b1a kn))
def z4u (f183:x5j) (f217:x5n):yh (List (Int)×List (Int)×Int×Int×qq×qu×qv×Unit) (Unit⊕(Bool×Unit)):=fun (x0,x1,x2,x3,x4,x5,x6,_)=>bif decide (x3<x2) then bif decide (0≤x3)&&decide (x3<(↑x1.length:Int)) then (f183 (x4,x5,x6,x0,x3,())).bind fun v=>bif v.1==2 then some (Sum.inr (Sum.inr (true,()))) else bif v.1==0 then (f217 (x4,x5,x6,x1.getD x3.toNat 0,())).bind fun v=>bif !v.1 then some (Sum.inr (Sum.inr (true,()))) else some (Sum.inl (x0,x1,x2,IntKind.i64.wrap (x3+1),x4,x5,x6,())) else some (Sum.inl (x0,x1,x2,IntKind.i64.wrap (x3+1),x4,x5,x6,())) else none else some (Sum.inr (Sum.inl ()))
def j4h:j6a:=qc (z4u z8k z8l) jc
theorem k8t:jf 0 (qe (code Tryz.f261) [1,0,1,0,0]) (y8w j4h):=zl2 w2p w6g g4i z4u z8k z8l v5e
def b8n (f261_l0:j6a):Ann:=(.seq .nil (.seq (.seq .nil (.blk (.loop (y8w f261_l0)))) .nil))
def k0s (f183:x5j) (f217:x5n) (f261_l0:j6a):x6d:=fun (x0,x1,x2,x3,_)=>(f261_l0 (x3,x3,(↑x3.length:Int),0,x0,x1,x2,())).bind fun v=>Sum.elim (fun v=>some (false,())) (fun v=>some (v.1,())) v
def x9a:x6d:=k0s z8k z8l j4h
theorem b1z:FO 261 (f3d x9a):=q5y Li9 qw g4i b8n k0s z8k z8l j4h v5e Tryz.func261 (And.intro k8t trivial)
abbrev x6c:=qq×qu×qv×List (Int)×Unit→Option (Bool×qq×qu×qv×List (Int)×Unit)
def f3c (f:x6c):FEnt:=⟨z0w,z1a,f⟩
def b6e (f261:x6d):=lk [(261,f3d f261)]
def k0r (f261:x6d):x6c:=fun (x0,x1,x2,x3,_)=>(f261 (x0,x1,x2,x3,())).bind fun v=>some (v.1,x0,x1,x2,x3,())
theorem d4d (f261:x6d):zw (b6e f261) 2 Tryz.f260 .nil z0w z1a (k0r f261):=fun v=>by kernel_rfl
def v8w:x6c:=k0r x9a
theorem b1y:FO 260 (f3c v8w) :=
 q0 (kc b1z kn) Tryz.func260 (d4d x9a)
abbrev j5t:=List (Int)×Int×Int×qq×qu×qv×List (Int)×List (Int)×Unit→Option (List (Int)×List (Int)×Unit)
def y7x (f:j5t):LEnt:=⟨w2q,w6i,f⟩
abbrev j3s:=qq×qu×qv×List (Int)×Unit→Option (Int×Int×Int×Int×Int×Int×Int×Int×Unit)
def g1c (f:j3s):FEnt:=⟨Li9,w6h,f⟩
def g3x (f218:z9j):=lk [(218,g1h f218)]
theorem v4w:zb Tryz.prog (g3x q6b):=(kc v7f kn)
def z4d (f218:z9j):yh (List (Int)×Int×Int×qq×qu×qv×List (Int)×List (Int)×Unit) (List (Int)×List (Int)×Unit):=fun (x0,x1,x2,x3,x4,x5,x6,x7,_)=>bif decide (x2<x1) then bif decide (0≤x2)&&decide (x2<(↑x0.length:Int)) then (f218 (x3,x4,x5,x0.getD x2.toNat 0,())).bind fun v=>bif decide (x7.length=8) then bif decide (0≤v.1)&&decide (v.1<(↑8:Int)) then bif decide (Int.toNat v.1<x7.length) then bif decide (x7.length=8) then bif decide (0≤v.1)&&decide (v.1<(↑8:Int)) then bif decide (Int.toNat v.1<x7.length) then some (Sum.inl (x0,x1,IntKind.i64.wrap (x2+1),x3,x4,x5,x6,x7.set (Int.toNat v.1) (IntKind.i64.wrap (x7.getD (Int.toNat v.1) 0+1)),())) else none else none else none else none else none else none else none else some (Sum.inr (x6,x7,()))
def j4a:j5t:=qc (z4d q6b) jc
theorem k7u:jf 0 (qe (code Tryz.f185) [1,1,0,1,0,0]) (y7x j4a):=zl1 w2q w6i g3x z4d q6b v4w
def b7v (f185_l0:j5t):Ann:=(.seq .nil (.seq .nil (.seq (.seq .nil (.blk (.loop (y7x f185_l0)))) .nil)))
def v9v (f218:z9j) (f185_l0:j5t):j3s:=fun (x0,x1,x2,x3,_)=>(f185_l0 (x3,(↑x3.length:Int),0,x0,x1,x2,[0,0,0,0,0,0,0,0],[0,0,0,0,0,0,0,0],())).bind fun v=>bif decide (List.length v.2.1=8) then bif decide (List.length v.1=8) then some (v.2.1.getD 0 0,v.2.1.getD 1 0,v.2.1.getD 2 0,v.2.1.getD 3 0,v.2.1.getD 4 0,v.2.1.getD 5 0,v.2.1.getD 6 0,v.2.1.getD 7 0,()) else none else none
def q7s:j3s:=v9v q6b j4a
theorem g0b:FO 185 (g1c q7s):=ve Li9 w6h g3x b7v v9v q6b j4a v4w Tryz.func185 (And.intro k7u trivial)
abbrev j1v:=qq×qu×qv×List (Int)×Unit→Option (Bool×Unit)
def g0z (f:j1v):FEnt:=⟨Li9,qw,f⟩
def b4w (f185:j3s):=lk [(185,g1c f185)]
def v9q (f185:j3s):j1v:=fun (x0,x1,x2,x3,_)=>(f185 (x0,x1,x2,x3,())).bind fun v=>some (decide (IntKind.i64.wrap (IntKind.i64.wrap ([v.1,v.2.1,v.2.2.1,v.2.2.2.1,v.2.2.2.2.1,v.2.2.2.2.2.1,v.2.2.2.2.2.2.1,v.2.2.2.2.2.2.2.1].getD 2 0+[v.1,v.2.1,v.2.2.1,v.2.2.2.1,v.2.2.2.2.1,v.2.2.2.2.2.1,v.2.2.2.2.2.2.1,v.2.2.2.2.2.2.2.1].getD 3 0)+[v.1,v.2.1,v.2.2.1,v.2.2.2.1,v.2.2.2.2.1,v.2.2.2.2.2.1,v.2.2.2.2.2.2.1,v.2.2.2.2.2.2.2.1].getD 5 0)>0),())
def j1j:j1v:=v9q q7s
theorem w9y:FO 153 (g0z j1j):=vf Li9 qw b4w v9q q7s (kc g0b kn) Tryz.func153
abbrev j9z:=qq×qu×qv×List (Int)×Unit→Option (Int×Unit)
def f1v (f:j9z):FEnt:=⟨Li9,jb,f⟩
def b5i (f218:z9j):=lk [(218,g1h f218)]
def v9w (f218:z9j):j9z:=fun (x0,x1,x2,x3,_)=>bif (↑x3.length:Int)==0 then some (0,()) else bif decide (0<(↑x3.length:Int)) then (f218 (x0,x1,x2,x3.getD 0 0,())).bind fun v=>bif v.1==2 then some (2,()) else bif v.1==3 then some (2,()) else bif v.1==1 then some (v.1,()) else some (0,()) else none
def j6m:j9z:=v9w q6b
theorem b0q:FO 187 (f1v j6m):=vf Li9 jb b5i v9w q6b (kc v7f kn) Tryz.func187
abbrev q4i:=Bool×Bool×List (Int)×Unit→Option (Bool×Unit)
def y7n (f:q4i):LEnt:=⟨w2r,x1j,f⟩
abbrev q4j:=Int×Bool×List (Int)×Unit→Option (Bool×Unit)
def y7o (f:q4j):LEnt:=⟨w2s,x1j,f⟩
abbrev x5f:=qq×qu×qv×List (Int)×Unit→Option (Bool×Unit)
def f1k (f:x5f):FEnt:=⟨Li9,qw,f⟩
def k1x (f153:j1v) (f185:j3s) (f186:z5u) (f187:j9z):=lk [(153,g0z f153),(185,g1c f185),(186,f1u f186),(187,f1v f187)]
theorem y5k:zb Tryz.prog (k1x j1j q7s j3l j6m):=(kc w9y (kc g0b (kc b0p (kc b0q kn))))
def j4w (f153:j1v) (f185:j3s) (f186:z5u) (f187:j9z):q4i:=fun (x0,x1,x2,_)=>bif decide (x2.length=8) then bif decide (Int.toNat 1<x2.length) then bif x2.getD 1 0==0 then bif x1 then some (bif x0 then false else true,()) else some (false,()) else some (false,()) else none else none
theorem k5e (f153:j1v) (f185:j3s) (f186:z5u) (f187:j9z):AqC (k1x f153 f185 f186 f187) 0 (qe (code Tryz.f154) [1,1,0,1,0,1,0,1,1]) .nil w2r x1j (j4w f153 f185 f186 f187):=fun v=>by kernel_rfl
def q7o:q4i:=j4w j1j q7s j3l j6m
theorem k7k:jy 0 (qe (code Tryz.f154) [1,1,0,1,0,1,0,1,1]) (y7n q7o) :=
 frc y5k (k5e j1j q7s j3l j6m)
def k3f (f154_c0:q4i):Ann:=(.cut .nil (y7n f154_c0))
def j4x (f153:j1v) (f185:j3s) (f186:z5u) (f187:j9z) (f154_c0:q4i):q4j:=fun (x0,x1,x2,_)=>bif x0==2 then (f154_c0 (x1,true,x2,())).bind fun v=>some (v.1,()) else bif x0==3 then (f154_c0 (x1,true,x2,())).bind fun v=>some (v.1,()) else bif x0==4 then (f154_c0 (x1,true,x2,())).bind fun v=>some (v.1,()) else (f154_c0 (x1,x0==5,x2,())).bind fun v=>some (v.1,())
theorem k5f (f153:j1v) (f185:j3s) (f186:z5u) (f187:j9z) (f154_c0:q4i):AqC (k1x f153 f185 f186 f187) 0 (qe (code Tryz.f154) [1,1,0,1,0,1,0,1]) (k3f f154_c0) w2s x1j (j4x f153 f185 f186 f187 f154_c0):=fun v=>by kernel_rfl
def j3y:q4j:=j4x j1j q7s j3l j6m q7o
theorem k7l:jy 0 (qe (code Tryz.f154) [1,1,0,1,0,1,0,1]) (y7o j3y) :=
 frd y5k (And.intro k7k trivial) (k5f j1j q7s j3l j6m q7o)
def b7p (f154_c1:q4j):Ann:=(.seq .nil (.seq .nil (.seq (.seq .nil (.blk (.seq .nil (.cond (.cut .nil (y7o f154_c1)) .nil)))) .nil)))
def g2b (f153:j1v) (f185:j3s) (f186:z5u) (f187:j9z) (f154_c1:q4j):x5f:=fun (x0,x1,x2,x3,_)=>(f185 (x0,x1,x2,x3,())).bind fun v=>(f186 (x0,x1,x2,x3,())).bind fun v1=>(f187 (x0,x1,x2,x3,())).bind fun v2=>bif v2.1==2 then bif decide ([v.1,v.2.1,v.2.2.1,v.2.2.2.1,v.2.2.2.2.1,v.2.2.2.2.2.1,v.2.2.2.2.2.2.1,v.2.2.2.2.2.2.2.1].getD 4 0>0) then (f154_c1 (v1.1,decide ([v.1,v.2.1,v.2.2.1,v.2.2.2.1,v.2.2.2.2.1,v.2.2.2.2.2.1,v.2.2.2.2.2.2.1,v.2.2.2.2.2.2.2.1].getD 5 0>0),[v.1,v.2.1,v.2.2.1,v.2.2.2.1,v.2.2.2.2.1,v.2.2.2.2.2.1,v.2.2.2.2.2.2.1,v.2.2.2.2.2.2.2.1],())).bind fun v=>some (v.1,()) else (f154_c1 (v1.1,false,[v.1,v.2.1,v.2.2.1,v.2.2.2.1,v.2.2.2.2.1,v.2.2.2.2.2.1,v.2.2.2.2.2.2.1,v.2.2.2.2.2.2.2.1],())).bind fun v=>some (v.1,()) else bif v2.1==1 then (f153 (x0,x1,x2,x3,())).bind fun v=>bif !v.1 then bif v1.1==1 then some (true,()) else some (v1.1==4,()) else some (false,()) else some ((↑x3.length:Int)==0,())
theorem d3l (f153:j1v) (f185:j3s) (f186:z5u) (f187:j9z) (f154_c1:q4j):zw (k1x f153 f185 f186 f187) 0 Tryz.f154 (b7p f154_c1) Li9 qw (g2b f153 f185 f186 f187 f154_c1):=fun v=>by kernel_rfl
def x8i:x5f:=g2b j1j q7s j3l j6m j3y
theorem b0c:FO 154 (f1k x8i) :=
 qo y5k Tryz.func154 (And.intro k7l trivial) (d3l j1j q7s j3l j6m j3y)
abbrev x6e:=qq×qu×qv×List (Int)×Unit→Option (Bool×qq×qu×qv×List (Int)×Unit)
def f3e (f:x6e):FEnt:=⟨z0w,z1a,f⟩
def b6f (f153:j1v) (f154:x5f):=lk [(153,g0z f153),(154,f1k f154)]
def g2v (f153:j1v) (f154:x5f):x6e:=fun (x0,x1,x2,x3,_)=>(f153 (x0,x1,x2,x3,())).bind fun v=>bif v.1 then (f154 (x0,x1,x2,x3,())).bind fun v=>some (bif v.1 then false else true,x0,x1,x2,x3,()) else some (false,x0,x1,x2,x3,())
theorem d4e (f153:j1v) (f154:x5f):zw (b6f f153 f154) 2 Tryz.f262 .nil z0w z1a (g2v f153 f154):=fun v=>by kernel_rfl
def x9b:x6e:=g2v j1j x8i
theorem b2a:FO 262 (f3e x9b) :=
 q0 (kc w9y (kc b0c kn)) Tryz.func262 (d4e j1j x8i)
abbrev x6f:=List (Int)×qa×Bool×Unit→Option (Bool×List (Int)×qa×Bool×Unit)
def f3f (f:x6f):FEnt:=⟨w2t,w6j,f⟩
def b6g (f223:z5x):=lk [(223,g1i f223)]
def g2w (f223:z5x):x6f:=fun (x0,x1,x2,_)=>(f223 (x0,())).bind fun v=>some (bif v.2.1 then false else true,x0,v.1,v.2.1,())
theorem d4f (f223:z5x):zw (b6g f223) 3 Tryz.f263 .nil w2t w6j (g2w f223):=fun v=>by kernel_rfl
def x9c:x6f:=g2w x4f
theorem b2b:FO 263 (f3f x9c) :=
 q0 (kc g0g kn) Tryz.func263 (d4f x4f)
abbrev x6g:=qa×Unit→Option (Bool×qa×Unit)
def f3g (f:x6g):FEnt:=⟨q2c,q2e,f⟩
def g2x:x6g:=fun (x0,_)=>some (decide (IntKind.i64.wrap (4+(↑x0.length:Int))>63),x0,())
theorem d4g:zw yp 1 Tryz.f264 .nil q2c q2e (g2x):=fun v=>by kernel_rfl
def x9d:x6g:=g2x
theorem b2c:FO 264 (f3g x9d) :=
 q0 kn Tryz.func264 (d4g)
abbrev v2j:=Int×Int×Int×Int×Int×Int×Int×Int×Int×qa×qq×qu×qv×List (Int)×qa×Bool×Unit→Option (Int×Int×Int×Int×Int×Int×Int×Int×Int×Int×qa×qq×qu×qv×List (Int)×qa×Bool×Unit)
def f2w (f:v2j):FEnt:=⟨w2u,w6k,f⟩
def b5y (f254:x5x) (f255:x5y) (f257:x6a) (f259:x6b) (f260:x6c) (f262:x6e) (f263:x6f) (f264:x6g):=lk [(254,f2x f254),(255,f2y f255),(257,f3a f257),(259,f3b f259),(260,f3c f260),(262,f3e f262),(263,f3f f263),(264,f3g f264)]
def b8m:Ann:=(.seq .nil (.seq (.seq .nil (.blk (.unroll 10 .nil))) .nil))
def g2o (f254:x5x) (f255:x5y) (f257:x6a) (f259:x6b) (f260:x6c) (f262:x6e) (f263:x6f) (f264:x6g):v2j:=fun (x0,x1,x2,x3,x4,x5,x6,x7,x8,x9,x10,x11,x12,x13,x14,x15,_)=>(f254 (x8,())).bind fun v=>bif v.1 then some (x0,x0,x1,x2,x3,x4,x5,x6,x7,v.2.1,x9,x10,x11,x12,x13,x14,x15,()) else (f255 (x9,x10,x11,x12,())).bind fun v1=>bif v1.1 then some (x1,x0,x1,x2,x3,x4,x5,x6,x7,v.2.1,v1.2.1,v1.2.2.1,v1.2.2.2.1,v1.2.2.2.2.1,x13,x14,x15,()) else (f257 (v1.2.1,())).bind fun v2=>bif v2.1 then some (x2,x0,x1,x2,x3,x4,x5,x6,x7,v.2.1,v2.2.1,v1.2.2.1,v1.2.2.2.1,v1.2.2.2.2.1,x13,x14,x15,()) else (f259 (v1.2.2.1,v1.2.2.2.1,v1.2.2.2.2.1,x13,())).bind fun v3=>bif v3.1 then some (x3,x0,x1,x2,x3,x4,x5,x6,x7,v.2.1,v2.2.1,v3.2.1,v3.2.2.1,v3.2.2.2.1,v3.2.2.2.2.1,x14,x15,()) else (f260 (v3.2.1,v3.2.2.1,v3.2.2.2.1,v3.2.2.2.2.1,())).bind fun v4=>bif v4.1 then some (x4,x0,x1,x2,x3,x4,x5,x6,x7,v.2.1,v2.2.1,v4.2.1,v4.2.2.1,v4.2.2.2.1,v4.2.2.2.2.1,x14,x15,()) else (f262 (v4.2.1,v4.2.2.1,v4.2.2.2.1,v4.2.2.2.2.1,())).bind fun v5=>bif v5.1 then some (x5,x0,x1,x2,x3,x4,x5,x6,x7,v.2.1,v2.2.1,v5.2.1,v5.2.2.1,v5.2.2.2.1,v5.2.2.2.2.1,x14,x15,()) else (f263 (v5.2.2.2.2.1,x14,x15,())).bind fun v6=>bif v6.1 then some (x6,x0,x1,x2,x3,x4,x5,x6,x7,v.2.1,v2.2.1,v5.2.1,v5.2.2.1,v5.2.2.2.1,v6.2.1,v6.2.2.1,v6.2.2.2.1,()) else (f264 (v6.2.2.1,())).bind fun v7=>bif v7.1 then some (x7,x0,x1,x2,x3,x4,x5,x6,x7,v.2.1,v2.2.1,v5.2.1,v5.2.2.1,v5.2.2.2.1,v6.2.1,v7.2.1,v6.2.2.2.1,()) else some (0,x0,x1,x2,x3,x4,x5,x6,x7,v.2.1,v2.2.1,v5.2.1,v5.2.2.1,v5.2.2.2.1,v6.2.1,v7.2.1,v6.2.2.2.1,())
theorem k5w (f254:x5x) (f255:x5y) (f257:x6a) (f259:x6b) (f260:x6c) (f262:x6e) (f263:x6f) (f264:x6g):zw (b5y f254 f255 f257 f259 f260 f262 f263 f264) 7 Tryz.f253 b8m w2u w6k (g2o f254 f255 f257 f259 f260 f262 f263 f264):=fun v=>by kernel_rfl
def x8u:v2j:=g2o x8v x8w x8y x8z v8w x9b x9c x9d
theorem b1s:FO 253 (f2w x8u) :=
 qo (kc b1t (kc b1u (kc b1w (kc b1x (kc b1y (kc b2a (kc b2b (kc b2c kn)))))))) Tryz.func253 trivial (k5w x8v x8w x8y x8z v8w x9b x9c x9d)
abbrev x5o:=qq×qu×qv×qa×Unit→Option (Int×Unit)
def f2g (f:x5o):FEnt:=⟨ki,jb,f⟩
def b5s (f253:v2j) (f83:T83):=lk [(253,f2w f253),(83,E83 f83)]
def g2k (f253:v2j) (f83:T83):x5o:=fun (x0,x1,x2,x3,_)=>(f83 (x3,())).bind fun v=>(f253 (7,4,11,10,8,9,12,5,v.2.1,x3,x0,x1,x2,v.1,[],false,())).bind fun v=>some (v.1,())
def x8n:x5o:=g2k x8u C83
theorem b1b:FO 224 (f2g x8n):=zq2 ki jb b5s g2k x8u C83 (kc b1s (kc x7v kn)) Tryz.func224
abbrev x6h:=qa×Unit→Option (Bool×qa×Unit)
def f3h (f:x6h):FEnt:=⟨q2c,q2e,f⟩
def f5a:x6h:=fun (x0,_)=>some (x0==[],x0,())
theorem d4h:zw yp 1 Tryz.f265 .nil q2c q2e (f5a):=fun v=>by kernel_rfl
def g0q:x6h:=f5a
theorem b2d:FO 265 (f3h g0q) :=
 q0 kn Tryz.func265 (d4h)
abbrev x6i:=qa×Unit→Option (Bool×qa×Unit)
def f3i (f:x6i):FEnt:=⟨q2c,q2e,f⟩
def f5b:x6i:=fun (x0,_)=>some (decide ((↑x0.length:Int)>63),x0,())
theorem d4i:zw yp 1 Tryz.f266 .nil q2c q2e (f5b):=fun v=>by kernel_rfl
def g0r:x6i:=f5b
theorem b2e:FO 266 (f3i g0r) :=
 q0 kn Tryz.func266 (d4i)
abbrev q4v:=Int×Bool×Unit→Option (Bool×Unit)
def y8x (f:q4v):LEnt:=⟨x0r,x1k,f⟩
abbrev q9p:=Int×Bool×Unit→Option (Bool×Unit)
def y8y (f:q9p):LEnt:=⟨x0r,x1k,f⟩
abbrev x6k:=Int×Unit→Option (Bool×Unit)
def f3k (f:x6k):FEnt:=⟨q2k,qw,f⟩
def z4v:q4v:=fun (x0,x1,_)=>bif x1 then some (true,()) else bif decide (x0≥48) then bif decide (x0≤57) then some (true,()) else some (x0==45,()) else some (x0==45,())
def q8b:q4v:=z4v
theorem k8u:jy 0 (qe (code Tryz.f268) [1,0,0,0,1,1,1]) (y8x q8b):=zc0 x0r x1k yp z4v kn
def k3q (f268_c0:q4v):Ann:=(.cond .nil (.cut .nil (y8x f268_c0)))
def z4w (f268_c0:q4v):q9p:=fun (x0,x1,_)=>bif x1 then some (true,()) else bif decide (x0≥65) then (f268_c0 (x0,decide (x0≤90),())).bind fun v=>some (v.1,()) else (f268_c0 (x0,false,())).bind fun v=>some (v.1,())
theorem k5x (f268_c0:q4v):AqC yp 0 (qe (code Tryz.f268) [1,0,0,0,1]) (k3q f268_c0) x0r x1k (z4w f268_c0):=fun v=>by kernel_rfl
def q8c:q9p:=z4w q8b
theorem k8v:jy 0 (qe (code Tryz.f268) [1,0,0,0,1]) (y8y q8c) :=
 frd kn (And.intro k8u trivial) (k5x q8b)
def b8o (f268_c1:q9p):Ann:=(.seq .nil (.seq (.blk (.seq (.cut .nil (y8y f268_c1)) .nil)) .nil))
def g2z (f268_c1:q9p):x6k:=fun (x0,_)=>bif decide (x0≥97) then (f268_c1 (x0,decide (x0≤122),())).bind fun v=>bif v.1 then some (false,()) else some (true,()) else (f268_c1 (x0,false,())).bind fun v=>bif v.1 then some (false,()) else some (true,())
def z8o:x6k:=g2z q8c
theorem b2g:FO 268 (f3k z8o):=q1a q2k qw yp b8o g2z q8c kn Tryz.func268 (And.intro k8v trivial)
abbrev j5q:=Bool×(qa×Int)×Unit→Option ((Int×Unit)⊕Unit)
def y7p (f:j5q):LEnt:=⟨w2w,x1l,f⟩
abbrev v2a:=qa×Bool×Unit→Option (Int×Unit)
def f1l (f:v2a):FEnt:=⟨w2v,jb,f⟩
def g3v (f268:x6k):=lk [(268,f3k f268)]
theorem v4u:zb Tryz.prog (g3v z8o):=(kc b2g kn)
def z3x (f268:x6k):yh (Bool×(qa×Int)×Unit) ((Int×Unit)⊕Unit):=fun (x0,x1,_)=>bif decide (Int.toNat x1.2<List.length x1.1) then (f268 ((↑(xl x1.1 (Int.toNat x1.2)).1:Int),())).bind fun v=>bif v.1==x0 then some (Sum.inr (Sum.inl ((↑(Int.toNat x1.2):Int),()))) else some (Sum.inl (x0,(x1.1,(↑(Int.toNat x1.2+(xl x1.1 (Int.toNat x1.2)).2):Int)),())) else some (Sum.inr (Sum.inr ()))
def z2q:j5q:=qc (z3x z8o) jc
theorem k7m:jf 0 (qe (code Tryz.f156) [1,0,1,0,0]) (y7p z2q):=zl1 w2w x1l g3v z3x z8o v4u
def b7q (f156_l0:j5q):Ann:=(.seq .nil (.seq (.seq .nil (.blk (.loop (y7p f156_l0)))) .nil))
def g2c (f268:x6k) (f156_l0:j5q):v2a:=fun (x0,x1,_)=>(f156_l0 (x1,(x0,(↑0:Int)),())).bind fun v=>Sum.elim (fun v=>some (v.1,())) (fun v=>some (-1,())) v
def x8j:v2a:=g2c z8o z2q
theorem b0d:FO 156 (f1l x8j):=ve w2v jb g3v b7q g2c z8o z2q v4u Tryz.func156 (And.intro k7m trivial)
abbrev v1y:=qa×Unit→Option (Int×Unit)
def f0z (f:v1y):FEnt:=⟨x0s,jb,f⟩
def b4o (f156:v2a):=lk [(156,f1l f156)]
def g1y (f156:v2a):v1y:=fun (x0,_)=>(f156 (x0,true,())).bind fun v=>some (v.1,())
def v8p:v1y:=g1y x8j
theorem f9t:FO 123 (f0z v8p):=vf x0s jb b4o g1y x8j (kc b0d kn) Tryz.func123
abbrev T84:=qa×Unit→Option (Bool×Unit)
def E84 (f:T84):FEnt:=⟨x0s,qw,f⟩
def K84 (f123:v1y):=lk [(123,f0z f123)]
def F84 (f123:v1y):T84:=fun (x0,_)=>(f123 (x0,())).bind fun v=>some (decide (v.1≥0),())
def C84:T84:=F84 v8p
theorem d6b:FO 84 (E84 C84):=vf x0s qw K84 F84 v8p (kc f9t kn) Tryz.func84
abbrev x6j:=qa×Unit→Option (Bool×qa×Unit)
def f3j (f:x6j):FEnt:=⟨q2c,q2e,f⟩
def b6h (f84:T84):=lk [(84,E84 f84)]
def g2y (f84:T84):x6j:=fun (x0,_)=>(f84 (x0,())).bind fun v=>some (v.1,x0,())
theorem d4j (f84:T84):zw (b6h f84) 1 Tryz.f267 .nil q2c q2e (g2y f84):=fun v=>by kernel_rfl
def v8x:x6j:=g2y C84
theorem b2f:FO 267 (f3j v8x) :=
 q0 (kc d6b kn) Tryz.func267 (d4j C84)
abbrev x6l:=qa×Unit→Option (Bool×qa×Unit)
def f3l (f:x6l):FEnt:=⟨q2c,q2e,f⟩
def b6i (f258:z6a):=lk [(258,g1n f258)]
def g3a (f258:z6a):x6l:=fun (x0,_)=>(f258 (x0,())).bind fun v=>some (v.1,x0,())
theorem d4k (f258:z6a):zw (b6i f258) 1 Tryz.f269 .nil q2c q2e (g3a f258):=fun v=>by kernel_rfl
def v8y:x6l:=g3a y3e
theorem b2h:FO 269 (f3l v8y) :=
 q0 (kc g0l kn) Tryz.func269 (d4k y3e)
abbrev j7q:=Int×Int×Int×Int×qa×Unit→Option (Int×Int×Int×Int×Int×qa×Unit)
def v0b (f:j7q):FEnt:=⟨w2x,w6l,f⟩
def g4h (f265:x6h) (f266:x6i) (f267:x6j) (f269:x6l):=lk [(265,f3h f265),(266,f3i f266),(267,f3j f267),(269,f3l f269)]
def g5a:Ann:=(.seq .nil (.seq (.seq .nil (.blk (.unroll 6 .nil))) .nil))
def y3r (f265:x6h) (f266:x6i) (f267:x6j) (f269:x6l):j7q:=fun (x0,x1,x2,x3,x4,_)=>(f265 (x4,())).bind fun v=>bif v.1 then some (x0,x0,x1,x2,x3,v.2.1,()) else (f266 (v.2.1,())).bind fun v=>bif v.1 then some (x1,x0,x1,x2,x3,v.2.1,()) else (f267 (v.2.1,())).bind fun v=>bif v.1 then some (x2,x0,x1,x2,x3,v.2.1,()) else (f269 (v.2.1,())).bind fun v=>bif v.1 then some (x3,x0,x1,x2,x3,v.2.1,()) else some (0,x0,x1,x2,x3,v.2.1,())
theorem g8a (f265:x6h) (f266:x6i) (f267:x6j) (f269:x6l):zw (g4h f265 f266 f267 f269) 2 Tryz.f253 g5a w2x w6l (y3r f265 f266 f267 f269):=fun v=>by kernel_rfl
def z3f:j7q:=y3r g0q g0r v8x v8y
theorem w0r:FO 253 (v0b z3f) :=
 qo (kc b2d (kc b2e (kc b2f (kc b2h kn)))) Tryz.func253 trivial (g8a g0q g0r v8x v8y)
abbrev x5p:=qa×Unit→Option (Int×Unit)
def f2h (f:x5p):FEnt:=⟨zy,jb,f⟩
def b5t (f253v1:j7q):=lk [(253,v0b f253v1)]
def g2l (f253v1:j7q):x5p:=fun (x0,_)=>(f253v1 (13,5,8,11,x0,())).bind fun v=>some (v.1,())
def x8o:x5p:=g2l z3f
theorem b1c:FO 225 (f2h x8o):=vf zy jb b5t g2l z3f (kc w0r kn) Tryz.func225
abbrev j6d:=qa×Int×Int×Unit→Option (Unit⊕(Int×Unit))
def y9g (f:j6d):LEnt:=⟨w2y,j2w,f⟩
abbrev v2n:=qa×Int×Unit→Option (Int×Unit)
def f4c (f:v2n):FEnt:=⟨j9x,jb,f⟩
def z5c:yh (qa×Int×Int×Unit) (Unit⊕(Int×Unit)):=fun (x0,x1,x2,_)=>bif decide (x2≥0) then bif decide (0≤x2)&&decide (x2<(↑x0.length:Int)) then bif (↑(x0.getD x2.toNat 0).toNat:Int)==x1 then some (Sum.inr (Sum.inr (x2,()))) else some (Sum.inl (x0,x1,IntKind.i64.wrap (x2-1),())) else none else some (Sum.inr (Sum.inl ()))
def z3i:j6d:=qc (z5c) jc
theorem k9d:jf 0 (qe (code Tryz.f293) [1,0,1,0,0]) (y9g z3i):=zl0 w2y j2w yp z5c kn
def b8v (f293_l0:j6d):Ann:=(.seq .nil (.seq (.seq .nil (.blk (.loop (y9g f293_l0)))) .nil))
def g3g (f293_l0:j6d):v2n:=fun (x0,x1,_)=>(f293_l0 (x0,x1,IntKind.i64.wrap ((↑x0.length:Int)-1),())).bind fun v=>Sum.elim (fun v=>some (-1,())) (fun v=>some (v.1,())) v
def v8z:v2n:=g3g z3i
theorem b3a:FO 293 (f4c v8z):=q1a j9x jb yp b8v g3g z3i kn Tryz.func293 (And.intro k9d trivial)
abbrev z0c:=qa×Int×Unit→Option (Int×Unit)
def f3m (f:z0c):FEnt:=⟨j9x,jb,f⟩
def b6j (f293:v2n):=lk [(293,f4c f293)]
def g3b (f293:v2n):z0c:=fun (x0,x1,_)=>(f293 (x0,x1,())).bind fun v=>some (v.1,())
def j9p:z0c:=g3b v8z
theorem b2i:FO 270 (f3m j9p):=vf j9x jb b6j g3b v8z (kc b3a kn) Tryz.func270
abbrev q4y:=Int×Bool×Unit→Option ((Int×Bool×Unit)⊕Unit)
def y9h (f:q4y):LEnt:=⟨w2z,x1m,f⟩
abbrev q9v:=Int×Bool×Unit→Option ((Int×Bool×Unit)⊕Unit)
def y9i (f:q9v):LEnt:=⟨w3a,x1m,f⟩
abbrev z6d:=Int×Unit→Option (Int×Bool×Unit)
def f4d (f:z6d):FEnt:=⟨j3p,x1h,f⟩
def z5d:q4y:=fun (x0,x1,_)=>bif x1 then some (Sum.inl (IntKind.i64.wrap (IntKind.u8.wrap (x0-65)),true,())) else bif decide (x0≥97) then bif decide (x0≤122) then some (Sum.inl (IntKind.i64.wrap (IntKind.u8.wrap (x0-97)),true,())) else some (Sum.inr ()) else some (Sum.inr ())
def q8f:q4y:=z5d
theorem k9e:jy 0 (qe (code Tryz.f294) [1,0,0,1,1,1]) (y9h q8f):=zc0 w2z x1m yp z5d kn
def k3r (f294_c0:q4y):Ann:=(.cond .nil (.cut .nil (y9h f294_c0)))
def z5e (f294_c0:q4y):q9v:=fun (x0,x1,_)=>bif x1 then some (Sum.inl (IntKind.i64.wrap (IntKind.i64.wrap (IntKind.u8.wrap (x0-48))+26),true,())) else bif decide (x0≥65) then (f294_c0 (x0,decide (x0≤90),())).bind fun v=>Sum.elim (fun v=>some (Sum.inl (v.1,v.2.1,()))) (fun v=>some (Sum.inr ())) v else (f294_c0 (x0,false,())).bind fun v=>Sum.elim (fun v=>some (Sum.inl (v.1,v.2.1,()))) (fun v=>some (Sum.inr ())) v
theorem k6a (f294_c0:q4y):AqC yp 0 (qe (code Tryz.f294) [1,0,0,1]) (k3r f294_c0) w3a x1m (z5e f294_c0):=fun v=>by kernel_rfl
def q8g:q9v:=z5e q8f
theorem k9f:jy 0 (qe (code Tryz.f294) [1,0,0,1]) (y9i q8g) :=
 frd kn (And.intro k9e trivial) (k6a q8f)
def b8w (f294_c1:q9v):Ann:=(.seq .nil (.seq (.blk (.cut .nil (y9i f294_c1))) .nil))
def g3h (f294_c1:q9v):z6d:=fun (x0,_)=>bif decide (x0≥48) then (f294_c1 (x0,decide (x0≤57),())).bind fun v=>Sum.elim (fun v=>some (v.1,v.2.1,())) (fun v=>some (0,false,())) v else (f294_c1 (x0,false,())).bind fun v=>Sum.elim (fun v=>some (v.1,v.2.1,())) (fun v=>some (0,false,())) v
def j6v:z6d:=g3h q8g
theorem b3b:FO 294 (f4d j6v):=q1a j3p x1h yp b8w g3h q8g kn Tryz.func294 (And.intro k9f trivial)
abbrev q9r:=qa×Int×Int×Int×Int×Int×Unit→Option (Unit⊕Unit⊕(Int×qa×Unit))
def y9a (f:q9r):LEnt:=⟨w3b,w6n,f⟩
abbrev q9q:=Unit→Option (Int×qa×Unit)
def y8z (f:q9q):LEnt:=⟨z0x,x1n,f⟩
abbrev z0d:=qa×Int×Unit→Option (Int×qa×Unit)
def f3n (f:z0d):FEnt:=⟨x0t,w6m,f⟩
def k2e (f290:q9t) (f294:z6d):=lk [(290,g1r f290),(294,f4d f294)]
theorem y5r:zb Tryz.prog (k2e q2m j6v):=(kc g0o (kc b3b kn))
def z4x (f290:q9t) (f294:z6d):yh (qa×Int×Int×Int×Int×Int×Unit) (Unit⊕Unit⊕(Int×qa×Unit)):=fun (x0,x1,x2,x3,x4,x5,_)=>bif decide (x5<x4) then bif decide (0≤x5)&&decide (x5<(↑x0.length:Int)) then (f294 ((↑(x0.getD x5.toNat 0).toNat:Int),())).bind fun v=>bif !v.2.1 then some (Sum.inr (Sum.inr (Sum.inl ()))) else bif decide (x3>2147483647) then some (Sum.inr (Sum.inr (Sum.inl ()))) else bif decide (IntKind.i64.wrap (x2+IntKind.i64.wrap (v.1*x3))>2147483647) then some (Sum.inr (Sum.inr (Sum.inl ()))) else (f290 (IntKind.i64.wrap (36*IntKind.i64.wrap (x5+1)),x1,())).bind fun v1=>bif decide (v.1<v1.1) then bif decide (0≤IntKind.i64.wrap (x5+1))&&decide (IntKind.i64.wrap (x5+1)≤(↑x0.length:Int)) then some (Sum.inr (Sum.inr (Sum.inr (IntKind.i64.wrap (x2+IntKind.i64.wrap (v.1*x3)),List.drop (IntKind.i64.wrap (x5+1)).toNat x0,())))) else none else some (Sum.inl (x0,x1,IntKind.i64.wrap (x2+IntKind.i64.wrap (v.1*x3)),IntKind.i64.wrap (x3*IntKind.i64.wrap (36-v1.1)),x4,IntKind.i64.wrap (x5+1),())) else none else some (Sum.inr (Sum.inl ()))
def j4j:q9r:=qc (z4x q2m j6v) jc
theorem k8x:jf 0 (qe (code Tryz.f271) [1,0,1,0,1,0,0]) (y9a j4j):=zl2 w3b w6n k2e z4x q2m j6v y5r
def j5d (f290:q9t) (f294:z6d):yh (Unit) (Int×qa×Unit):=fun (_)=>some (Sum.inr (-1,[],()))
theorem k5y (f290:q9t) (f294:z6d) (v:HS z0x):aev Γ (k2e f290 f294) 0 ((findLabel (qe (code Tryz.f271) [1,0]) 0).getD .skip) .nil (x8d z0x v) (vy 0 0 [] z0x x1n)=j5d f290 f294 v:=by kernel_rfl
def j4i:q9q:=qc (j5d q2m j6v) jc
theorem k8w:jo Tryz.prog 0 (jn Tryz.prog (qe (code Tryz.f271) [1,0]) 0) (y8z j4i) :=
 zz (ins:=z0x) (os:=x1n) (C:=j4i) (q1n (ins:=z0x) (os:=x1n) (n := .nil) (ls:=[]) (F:=j5d q2m j6v) (rest:=((findLabel (qe (code Tryz.f271) [1,0]) 0).getD .skip)) hm hΓ y5r (fun _=>jc) (by kernel_rfl) (jh _) q3c (k5y q2m j6v)) rfl
def b8p (f271_g0:q9q) (f271_l0:q9r):Ann:=(.seq .nil (.scope (.seq .nil (.seq (.seq .nil (.blk (.loop (y9a f271_l0)))) .nil)) [(0,(y8z f271_g0))]))
def g3c (f290:q9t) (f294:z6d) (f271_g0:q9q) (f271_l0:q9r):z0d:=fun (x0,x1,_)=>(f271_l0 (x0,x1,0,1,(↑x0.length:Int),0,())).bind fun v=>Sum.elim (fun v=>some (-1,[],())) (fun v=>Sum.elim (fun v=>(f271_g0 ()).bind fun v=>some (v.1,v.2.1,())) (fun v=>some (v.1,v.2.1,())) v) v
theorem d4l (f290:q9t) (f294:z6d) (f271_g0:q9q) (f271_l0:q9r):zw (k2e f290 f294) 0 Tryz.f271 (b8p f271_g0 f271_l0) x0t w6m (g3c f290 f294 f271_g0 f271_l0):=fun v=>by kernel_rfl
def j9q:z0d:=g3c q2m j6v j4i j4j
theorem b2j:FO 271 (f3n j9q) :=
 qo y5r Tryz.func271 (And.intro k8x (And.intro k8w trivial)) (d4l q2m j6v j4i j4j)
abbrev q9g:=qa×Int×Int×Int×Bool×List (Int)×Unit→Option ((List (Int)×Unit)⊕(Bool×Unit))
def y8j (f:q9g):LEnt:=⟨w3c,w6p,f⟩
abbrev q4s:=qa×List (Int)×Unit→Option (Bool×List (Int)×Unit)
def y8i (f:q4s):LEnt:=⟨w3d,w6q,f⟩
abbrev x5q:=qa×Unit→Option (List (Int)×Bool×Unit)
def f2i (f:x5q):FEnt:=⟨zy,w6o,f⟩
def k2b (f155:kj) (f21:T21) (f252:q0k) (f270:z0c) (f271:z0d) (f272:z6b):=lk [(155,v9c f155),(21,E21 f21),(252,g1m f252),(270,f3m f270),(271,f3n f271),(272,g1o f272)]
theorem y5o:zb Tryz.prog (k2b xg C21 wg j9p j9q j6r):=(kc v6z (kc v7d (kc g0k (kc b2i (kc b2j (kc b2k kn))))))
def z4k (f155:kj) (f21:T21) (f252:q0k) (f270:z0c) (f271:z0d) (f272:z6b):yh (qa×Int×Int×Int×Bool×List (Int)×Unit) ((List (Int)×Unit)⊕(Bool×Unit)):=fun (x0,x1,x2,x3,x4,x5,_)=>bif !x0==[] then (f271 (x0,x3,())).bind fun v=>bif decide (v.1<0) then some (Sum.inr (Sum.inr (false,()))) else bif decide (IntKind.i64.wrap (x2+v.1)>2147483647) then some (Sum.inr (Sum.inr (false,()))) else (f252 (v.1,IntKind.i64.wrap ((↑x5.length:Int)+1),x4,())).bind fun v1=>bif IntKind.i64.wrap ((↑x5.length:Int)+1) != 0 then bif decide (IntKind.i64.wrap (x1+IntKind.i64.wrap ((IntKind.i64.wrap (x2+v.1)).tdiv (IntKind.i64.wrap ((↑x5.length:Int)+1))))>1114111) then some (Sum.inr (Sum.inr (false,()))) else (f155 (IntKind.i32.wrap (IntKind.i64.wrap (x1+IntKind.i64.wrap ((IntKind.i64.wrap (x2+v.1)).tdiv (IntKind.i64.wrap ((↑x5.length:Int)+1))))),())).bind fun v2=>bif !v2.1 then some (Sum.inr (Sum.inr (false,()))) else bif IntKind.i64.wrap ((↑x5.length:Int)+1) != 0 then (f272 ((IntKind.i64.wrap (x2+v.1)).tmod (IntKind.i64.wrap ((↑x5.length:Int)+1)),x5,[IntKind.i32.wrap (IntKind.i64.wrap (x1+IntKind.i64.wrap ((IntKind.i64.wrap (x2+v.1)).tdiv (IntKind.i64.wrap ((↑x5.length:Int)+1)))))],())).bind fun v3=>some (Sum.inl (v.2.1,IntKind.i64.wrap (x1+IntKind.i64.wrap ((IntKind.i64.wrap (x2+v.1)).tdiv (IntKind.i64.wrap ((↑x5.length:Int)+1)))),IntKind.i64.wrap ((IntKind.i64.wrap (x2+v.1)).tmod (IntKind.i64.wrap ((↑x5.length:Int)+1))+1),v1.1,false,v3.1,())) else none else none else some (Sum.inr (Sum.inl (x5,())))
theorem k5r (f155:kj) (f21:T21) (f252:q0k) (f270:z0c) (f271:z0d) (f272:z6b):AqL (k2b f155 f21 f252 f270 f271 f272) 0 (qe (code Tryz.f226) [1,1,1,1,1,0,1,0,0]) .nil w3c w6p (z4k f155 f21 f252 f270 f271 f272):=fun v=>by kernel_rfl
def j4c:q9g:=qc (z4k xg C21 wg j9p j9q j6r) jc
theorem k8g:jf 0 (qe (code Tryz.f226) [1,1,1,1,1,0,1,0,0]) (y8j j4c) :=
 frl y5o (k5r xg C21 wg j9p j9q j6r)
def k3m (f226_l0:q9g):Ann:=(.seq .nil (.seq (.seq .nil (.blk (.loop (y8j f226_l0)))) .nil))
def z4j (f155:kj) (f21:T21) (f252:q0k) (f270:z0c) (f271:z0d) (f272:z6b) (f226_l0:q9g):q4s:=fun (x0,x1,_)=>(f226_l0 (x0,128,0,72,true,x1,())).bind fun v=>Sum.elim (fun v=>some (true,v.1,())) (fun v=>some (v.1,[],())) v
theorem k5q (f155:kj) (f21:T21) (f252:q0k) (f270:z0c) (f271:z0d) (f272:z6b) (f226_l0:q9g):AqC (k2b f155 f21 f252 f270 f271 f272) 0 (qe (code Tryz.f226) [1,1,1,1]) (k3m f226_l0) w3d w6q (z4j f155 f21 f252 f270 f271 f272 f226_l0):=fun v=>by kernel_rfl
def q7w:q4s:=z4j xg C21 wg j9p j9q j6r j4c
theorem k8f:jy 0 (qe (code Tryz.f226) [1,1,1,1]) (y8i q7w) :=
 frd y5o (And.intro k8g trivial) (k5q xg C21 wg j9p j9q j6r j4c)
def b8c (f226_c0:q4s):Ann:=(.seq .nil (.seq .nil (.seq .nil (.cut .nil (y8i f226_c0)))))
def g2m (f155:kj) (f21:T21) (f252:q0k) (f270:z0c) (f271:z0d) (f272:z6b) (f226_c0:q4s):x5q:=fun (x0,_)=>(f21 (x0,())).bind fun v=>bif decide (v.1≥0) then some ([],false,()) else (f270 (x0,45,())).bind fun v=>bif decide (v.1>0) then bif decide (0≤v.1)&&decide (v.1≤(↑x0.length:Int)) then bif decide ((List.take (Int.toNat v.1) x0).length≤70368744177664)&&(List.take (Int.toNat v.1) x0).all fun b=>decide (b.toNat<128) then bif decide (0≤IntKind.i64.wrap (v.1+1))&&decide (IntKind.i64.wrap (v.1+1)≤(↑x0.length:Int)) then (f226_c0 (List.drop (IntKind.i64.wrap (v.1+1)).toNat x0,List.map (fun b=>(↑b.toNat:Int)) (List.take (Int.toNat v.1) x0),())).bind fun v=>some (v.2.1,v.1,()) else none else none else none else (f226_c0 (x0,[],())).bind fun v=>some (v.2.1,v.1,())
theorem d3u (f155:kj) (f21:T21) (f252:q0k) (f270:z0c) (f271:z0d) (f272:z6b) (f226_c0:q4s):zw (k2b f155 f21 f252 f270 f271 f272) 0 Tryz.f226 (b8c f226_c0) zy w6o (g2m f155 f21 f252 f270 f271 f272 f226_c0):=fun v=>by kernel_rfl
def x8p:x5q:=g2m xg C21 wg j9p j9q j6r q7w
theorem b1d:FO 226 (f2i x8p) :=
 qo y5o Tryz.func226 (And.intro k8f trivial) (d3u xg C21 wg j9p j9q j6r q7w)
abbrev y4i:=qq×qu×qv×qa×Unit→Option (qa×qa×Int×Unit)
def g1d (f:y4i):FEnt:=⟨ki,g4v,f⟩
def b5j (f132:q8p) (f151:y4h) (f178:j3r) (f21:T21) (f223:z5x) (f224:x5o) (f225:x5p) (f226:x5q) (f83:T83):=lk [(132,v9b f132),(151,f1j f151),(178,v9f f178),(21,E21 f21),(223,g1i f223),(224,f2g f224),(225,f2h f225),(226,f2i f226),(83,E83 f83)]
def g2h (f132:q8p) (f151:y4h) (f178:j3r) (f21:T21) (f223:z5x) (f224:x5o) (f225:x5p) (f226:x5q) (f83:T83):y4i:=fun (x0,x1,x2,x3,_)=>(f151 (x0,x1,x2,x3,())).bind fun v=>(f132 (v.1,[120,110,45,45],())).bind fun v1=>bif !v.2.1 then some ([],[],7,()) else (f21 (v.1,())).bind fun v2=>bif decide (v2.1≥0) then (f83 (v.1,())).bind fun v3=>(f223 (v3.1,())).bind fun v4=>bif decide ([120,110,45,45].length+List.length v4.1≤9223372036854775807) then (f224 (x0,x1,x2,v.1,())).bind fun v5=>some ([120,110,45,45]++v4.1,v.1,v5.1,()) else none else bif !v1.2.1 then (f225 (v.1,())).bind fun v3=>some (v.1,v.1,v3.1,()) else (f226 (v1.1,())).bind fun v3=>bif !v3.2.1 then some ([],[],12,()) else bif decide ((↑(List.length v.1):Int)>63) then some ([],[],5,()) else (f178 (v3.1,())).bind fun v4=>(f224 (x0,x1,x2,v4.1,())).bind fun v5=>bif v5.1 != 0 then some ([],[],v5.1,()) else (f223 (v3.1,())).bind fun v6=>bif !v6.1==v1.1 then some ([],[],12,()) else some (v.1,v4.1,0,())
theorem d3p (f132:q8p) (f151:y4h) (f178:j3r) (f21:T21) (f223:z5x) (f224:x5o) (f225:x5p) (f226:x5q) (f83:T83):zw (b5j f132 f151 f178 f21 f223 f224 f225 f226 f83) 0 Tryz.f192 .nil ki g4v (g2h f132 f151 f178 f21 f223 f224 f225 f226 f83):=fun v=>by kernel_rfl
def y3a:y4i:=g2h j1i z2p j9n C21 x4f x8n x8o x8p C83
theorem g0c:FO 192 (g1d y3a) :=
 q0 (kc v6y (kc w9x (kc v7c (kc v7d (kc g0g (kc b1b (kc b1c (kc b1d (kc x7v kn))))))))) Tryz.func192 (d3p j1i z2p j9n C21 x4f x8n x8o x8p C83)
abbrev k3w:=qq×qu×qv×qa×Unit→Option (qa×Int×Unit)
def b4j (f:k3w):FEnt:=⟨ki,j7c,f⟩
def b4x (f192:y4i):=lk [(192,g1d f192)]
def g2d (f192:y4i):k3w:=fun (x0,x1,x2,x3,_)=>(f192 (x0,x1,x2,x3,())).bind fun v=>bif v.2.2.1 != 0 then some ([],v.2.2.1,()) else some (v.1,0,())
def y2w:k3w:=g2d y3a
theorem b0e:FO 159 (b4j y2w):=vf ki j7c b4x g2d y3a (kc g0c kn) Tryz.func159
abbrev g5i:=qq×qu×qv×qa×Unit→Option (qa×Int×Unit)
def b4k (f:g5i):FEnt:=⟨ki,j7c,f⟩
def b4y (f192:y4i):=lk [(192,g1d f192)]
def g2e (f192:y4i):g5i:=fun (x0,x1,x2,x3,_)=>(f192 (x0,x1,x2,x3,())).bind fun v=>bif v.2.2.1 != 0 then some ([],v.2.2.1,()) else some (v.2.1,0,())
def y2x:g5i:=g2e y3a
theorem b0f:FO 160 (b4k y2x):=vf ki j7c b4y g2e y3a (kc g0c kn) Tryz.func160
abbrev z9f:=qa×Int×Unit→Option (Int×Unit)
def g1a (f:z9f):FEnt:=⟨j9x,jb,f⟩
def b4z (f196:g5j):=lk [(196,f1y f196)]
def v1h (f196:g5j):z9f:=fun (x0,x1,_)=>(f196 (x0,x1,())).bind fun v=>some (v.1,())
def j1n:z9f:=v1h v8r
theorem w9z:FO 162 (g1a j1n):=vf j9x jb b4z v1h v8r (kc b0t kn) Tryz.func162
abbrev q9c:=qa×qa×Int×Bool×Unit→Option (Int×Unit)
def y8b (f:q9c):LEnt:=⟨w3e,w6r,f⟩
abbrev y4j:=qa×qa×Unit→Option (Int×Unit)
def g1f (f:y4j):FEnt:=⟨zu,jb,f⟩
def g3z (f162:z9f):=lk [(162,g1a f162)]
theorem v4y:zb Tryz.prog (g3z j1n):=(kc w9z kn)
def q8k (f162:z9f):q9c:=fun (x0,x1,x2,x3,_)=>bif x3 then some (0,()) else bif x2==1 then bif decide (0<(↑x1.length:Int)) then (f162 (x0,(↑(x1.getD 0 0).toNat:Int),())).bind fun v=>some (v.1,()) else none else bif decide (x2≥(↑x0.length:Int)) then some (-1,()) else none
def q1c:q9c:=q8k j1n
theorem k7y:jy 0 (qe (code Tryz.f197) [1,1,0,0,1]) (y8b q1c):=zc1 w3e w6r g3z q8k j1n v4y
def b7y (f197_c0:q9c):Ann:=(.seq .nil (.seq .nil (.seq (.blk (.cut .nil (y8b f197_c0))) .nil)))
def v1k (f162:z9f) (f197_c0:q9c):y4j:=fun (x0,x1,_)=>bif (↑x1.length:Int)==0 then (f197_c0 (x0,x1,(↑x1.length:Int),true,())).bind fun v=>some (v.1,()) else (f197_c0 (x0,x1,(↑x1.length:Int),x1==x0,())).bind fun v=>some (v.1,())
def z2x:y4j:=v1k j1n q1c
theorem g0e:FO 197 (g1f z2x):=ve zu jb g3z b7y v1k j1n q1c v4y Tryz.func197 (And.intro k7y trivial)
abbrev v2c:=qa×qa×Unit→Option (qa×qa×Bool×Unit)
def f1n (f:v2c):FEnt:=⟨zu,x1o,f⟩
def b5a (f197:y4j):=lk [(197,g1f f197)]
def v1i (f197:y4j):v2c:=fun (x0,x1,_)=>(f197 (x0,x1,())).bind fun v=>bif decide (v.1≥0) then bif decide (0≤v.1)&&decide (v.1≤(↑x0.length:Int)) then bif decide (0≤IntKind.i64.wrap (v.1+(↑x1.length:Int)))&&decide (IntKind.i64.wrap (v.1+(↑x1.length:Int))≤(↑x0.length:Int)) then some (List.take (Int.toNat v.1) x0,List.drop (IntKind.i64.wrap (v.1+(↑x1.length:Int))).toNat x0,true,()) else none else none else some (x0,[],false,())
def x4e:v2c:=v1i z2x
theorem b0h:FO 163 (f1n x4e):=vf zu x1o b5a v1i z2x (kc g0e kn) Tryz.func163
abbrev z5t:=qa×qa×Unit→Option (qa×qa×Bool×Unit)
def f1c (f:z5t):FEnt:=⟨zu,x1o,f⟩
def b4r (f163:v2c):=lk [(163,f1n f163)]
def v1b (f163:v2c):z5t:=fun (x0,x1,_)=>(f163 (x0,x1,())).bind fun v=>some (v.1,v.2.1,v.2.2.1,())
def j1h:z5t:=v1b x4e
theorem w9s:FO 129 (f1c j1h):=vf zu x1o b4r v1b x4e (kc b0h kn) Tryz.func129
end Go.Proofs.YtiacnhhmkdkpmaaGreatDoorC.W
namespace Go.Proofs.YtiacnhhmkdkpmaaGreatDoorC.W
open Go Go.Ae Go.RowKit
attribute [local go_sem] Oper.semAt_some
theorem v3n {s sep l r:List UInt8} {ok:Bool} (h:j1h (s,sep,())=some (l,r,ok,())) {w:World} (hg:GI w m0) :
 Calls Tryz.prog 129 #[.string ⟨⟨s⟩⟩,.string ⟨⟨sep⟩⟩] w fun e w'=>e = .returned (.tuple #[.string ⟨⟨l⟩⟩,.string ⟨⟨r⟩⟩,.bool ok])∧Below w.heap.size w w':=by
 refine (za.call0 (v:=(s,sep,())) (y:=(l,r,ok,())) w9s Tryz.func129 (by kernel_rfl) (by kernel_rfl) hg (fun _ h=>h.elim) rfl ⟨_,_,rfl,rfl,_,_,rfl,rfl,rfl⟩ rfl h ?_).mono fun e w' ⟨rv,h1,h2,ax,l',u,h3,h4⟩ => ?_
 · intro ax l' u h3
   cases ji h3;rfl
 · cases ji h3
   obtain ⟨v,r',e1,⟨a,e2,e3⟩,e4⟩:=h4;have e4':r'=[]:=e4;subst e4';cases e1;subst h1 e2;refine ⟨?_,h2⟩;obtain ⟨v1,q1,f1,rfl,v2,q2,f2,rfl,v3,q3,f3,rfl,f4⟩:=e3;have f4':q3=[]:=f4;subst f4' f3 f2;cases a;cases f1;rfl
def q1v:Nat→List UInt8→Option (List (List UInt8))
 | 0,_=>none
 | n+1,s=>(j1h (s,[46],())).bind fun a=>bif a.2.2.1 then (q1v n a.2.1).map (a.1 :: ·) else some [a.1]
theorem z6p {W W':World} {b:Nat} {t:TypeId} {v:Value} (h:Boxed W b t v) (hk:W'.heap[b]? = W.heap[b]?):Boxed W' b t v:=hk.trans h
set_option maxHeartbeats 4000000 in
theorem x7z (n:Nat) (hn:1≤n) (Bs:Nat) (s:List UInt8) (xs:List (List UInt8)) (N:Nat) (hxs:q1v N s=some xs) (w:World) (hb:Boxed w Bs 9 (.string ⟨⟨s⟩⟩)) (hg:GI w m0) (hnb:∀b∈wy,b≠Bs) :
 x4v Fence.wide n Tryz.prog 222 #[.pointer (some ⟨Bs,0,none⟩)] (fun x:List UInt8 => #[.string ⟨⟨x⟩⟩]) (fun b=>b=Bs∨b∈wy) Bs xs w:=by
 intro l J Jx W hW hJ hJx hY h0;have hb':Boxed W Bs 9 (.string ⟨⟨s⟩⟩):=(hW.block Bs hb.lt).trans hb;have hg':GI W m0:=zf hg hW;refine callsIn_of_wp Tryz.func222 rfl trivial ?_ rfl;simp only [Tryz.ntmps222,List.size_toArray,List.length_cons,List.length_nil,Nat.reduceAdd,Nat.reduceSub,Array.replicate_succ,Array.replicate_zero,List.push_toArray,List.append_toArray,List.nil_append,List.cons_append]
 gi_wp2
 gi_loopg [] N (fun k wr=>∃(pre t:List (List UInt8)) (rest:List UInt8),xs=pre++t∧q1v k rest=some t∧J pre wr∧Boxed wr Bs 9 (.string ⟨⟨rest⟩⟩)∧GI wr m0)
 case atStart=>exact ⟨[],xs,s,rfl,hxs,h0,hb',hg'⟩
 case round =>
  rename_i JJ KK hJJ hKK;obtain ⟨pre,t,rest,hx,hp,hJs,hbx,hgr⟩:=hrel;cases gk with
  | zero=>cases hp
  | succ k =>
   simp only [q1v] at hp;obtain ⟨⟨lf,rt,ok,u⟩,hc,hp2⟩:=Option.bind_eq_some_iff.1 hp;simp only at hp2;have hcell:=hbx.cell;have hpre:pre++[lf] <+: xs:=by
    rw [hx];cases ok with
    | true =>
     obtain ⟨t',h1,rfl⟩:=Option.map_eq_some_iff.1 hp2;exact ⟨t',by simp⟩
    | false =>
     have:t=[lf]:=(Option.some.inj hp2).symm;exact ⟨[],by simp [this]⟩
   gi_wp2_with (refine ⟨trivial,?_⟩;gi_at_call 129;refine (callsIn_wide.2 (v3n hc hgr)).mono ?_;rintro e w' ⟨rfl,hbel⟩;obtain ⟨fn,tmps,assign,body,hy,hR⟩:=hY pre lf w' hpre (hJ _ _ _ hJs (Oth.of_below hbel)))
   refine hR.mono ?_;rintro e W3 (⟨rfl,hJ3,hs3,hk3⟩|⟨rfl,hJx3⟩)
   · have hbx3:Boxed W3 Bs 9 (.string ⟨⟨rest⟩⟩):=(hk3 Bs (.inl rfl)).trans ((hbel.block Bs hbx.lt).trans hbx)
     have hg3:GI W3 m0:=z6y (zf hgr hbel) hs3 fun b hb=>hk3 b (.inr hb);have hc3:=hbx3.cell;have hf3:=hbx3.frozen;cases ok with
     | true =>
      obtain ⟨t',h1,rfl⟩:=Option.map_eq_some_iff.1 hp2
      gi_wp2
      gi_roundg k
      case rel=>exact ⟨pre++[lf],t',rt,by simp [hx],h1,hJ _ _ _ hJ3 (Oth.set Bs 0 W3 _),Boxed.set _ hbx3,z6y hg3 (by simp) fun b hb=>Below.heap_setCell _ _ _ _ (hnb b hb)⟩
      case measure=>omega
     | false =>
      have ht:t=[lf]:=(Option.some.inj hp2).symm;subst ht
      gi_wp2
      refine bodyPost_ret (results_none rfl _ _ _) rfl ?_;exact ⟨⟨_,rfl⟩,.inl (hx▸hJ3)⟩
   · gi_wp2
     refine bodyPost_ret (results_none rfl _ _ _) rfl ?_;exact ⟨⟨_,rfl⟩,.inr ⟨_,hpre,hJx3⟩⟩
def encS (x:List UInt8):Value := .string ⟨⟨x⟩⟩
theorem q0f {N Bs base:Nat} {A B:World} {e:TypeId} {size k:Nat} {v:Value} {xs:List Value} (hBs:Bs<base) (h:A.ownsRow base e size v k xs) (ho:OthR N Bs A B):B.ownsRow base e size v k xs:=by
 refine ⟨h.1,?_⟩;rcases h.2 with h|⟨g,cap,cur,e1,h2,h3,h4⟩
 · exact .inl h
 · exact .inr ⟨g,cap,cur,e1,h2,ho.keep g _ h3 (by omega) (.inr rfl),h4⟩
theorem v7r {N Bs:Nat} {W0 A B:World} (hN:W0.heap.size≤N) (h:Oth Bs W0 A) (ho:OthR N Bs A B):Oth Bs W0 B :=
 ⟨ho.os.trans h.os,ho.tape.trans h.tape,ho.output.trans h.output,Nat.le_trans h.size ho.size,fun b hb hne=>by
  have h1:=h.keep b hb hne;obtain ⟨o,h2⟩:∃o,W0.heap[b]? = some o:=⟨_,Array.getElem?_eq_getElem hb⟩
  rw [h2] at h1 ⊢;exact ho.keep b o h1 hne (.inl (by omega))⟩
theorem y0s:(Tryz.prog.info? 9).map (fun i=>(i.zero,i.size,i.bytes))=some (some (.string ⟨#[]⟩),1,16):=by kernel_rfl
set_option maxHeartbeats 4000000 in
theorem y0p (gf:Nat) (hgf:∀args w,(callFunc gf args).run Tryz.prog w = .ok (.enter gf args) w) (Bs:Nat) (xs:List (List UInt8)) (w:World) (hBs:Bs<w.heap.size) (hg:GI w m0) (hlen:xs.length≤1000000000000)
 (hseq:∀W,Below w.heap.size w W→x4v Fence.wide 2 Tryz.prog gf #[.pointer (some ⟨Bs,0,none⟩)] (fun x:List UInt8 => #[Value.string ⟨⟨x⟩⟩]) (fun b=>b=Bs∨b∈wy) Bs xs W) :
 CallsIn Fence.wide 3 Tryz.prog 221 #[.slice none 0 0,.func (.func gf) #[] #[.pointer (some ⟨Bs,0,none⟩)]] w fun e W' =>
  ∃v,e = .returned v∧W'.ownsRow w.heap.size 9 1 v xs.length (xs.map encS)∧Oth Bs w W':=by
 obtain ⟨i0,hi,hz0,hz1,hz2⟩:=info_parts y0s;refine callsIn_of_wp_marks Tryz.func221 rfl trivial ?_ rfl;simp only [Tryz.ntmps221,List.size_toArray,List.length_cons,List.length_nil,Nat.reduceAdd,Nat.reduceSub,Array.replicate_succ,Array.replicate_zero,List.push_toArray,List.append_toArray,List.nil_append,List.cons_append]
 gi_wp2
 have hB0:Below w.heap.size w (w.alloc (.cells #[.slice none 0 0] 89)):=(Below.refl _ w).alloc (Nat.le_refl _) _;refine yv (F:=Fence.wide) rfl (by omega) (gf:=gf) (lb := #[.pointer (some ⟨Bs,0,none⟩)]) rfl trivial hgf (hseq _ hB0)
  (by rintro b (rfl|hb);· (rw [World.size_alloc];omega)
      · (have:=(hg.b b hb).1;rw [World.size_alloc];omega)) (by rw [World.size_alloc];omega) (fun _=>rfl)
  (fun pre W=>(∃v,Boxed W w.heap.size 89 v∧W.ownsRow w.heap.size 9 1 v pre.length (pre.map encS))∧Oth Bs w W)
  (fun _ _ _=>False)
  (fun s A B hs ho=>by
   obtain ⟨⟨v,h1,h2⟩,h3⟩:=hs;exact ⟨⟨v,xj h1 (by omega) ho,q0f hBs h2 ho⟩,v7r (by rw [World.size_alloc];omega) h3 ho⟩)
  (fun _ _ _ _ hs _=>hs)
  ⟨⟨_,Boxed.new _ _ _,World.ownsRow_nil _ _ _ _⟩,Oth.of_below hB0⟩
  (fun x=>{ tmps := #[.slice none 0 0,.func (.func gf) #[] #[.pointer (some ⟨Bs,0,none⟩)],.pointer (some ⟨w.heap.size,0,none⟩),undef,.slice none 0 0,.string ⟨⟨x⟩⟩,.func (.func gf) #[] #[.pointer (some ⟨Bs,0,none⟩)],.string ⟨⟨x⟩⟩,undef,undef,undef,undef,undef],defers:=[] }) ?assign ?body ?done ?stop
 case assign =>
  intro l x W K hK
  gi_wp2
  exact hK
 case body =>
  rintro l pre x W hsz hpre ⟨⟨v,hv,hrow⟩,hoth⟩;have hc:=hv.cell;have hpl:pre.length<xs.length:=by have:=hpre.length_le;simp at this;omega
  have hsz2:=hoth.size
  gi_wp2_with (gi_at_builtin;refine wpListIn_append_own _ rfl _ _ 89 rfl w.heap.size 9 i0 (.string ⟨#[]⟩) 1 16 Tryz.underlying89 hi hz0 hz1 hz2 rfl (by decide) _ _ _ rfl (hrow.alloc _) ⟨W.heap.size,0,none⟩ 1 1 [.string ⟨⟨x⟩⟩] rfl rfl (cell_one_new _ _ _) (by simp [Value.oneCell']) (by simp only [maxLen];omega) (by omega) (by simp;omega) ?_;intro v' w1 hown' hgrow _;obtain ⟨g',cap',rfl⟩:=ownsRow_succ hown';obtain ⟨hv1,hv2,hr2,hk2,hb2⟩:=hv.appended (by decide) hrow hsz2 (Nat.le_refl _) hown' hgrow;have hc1:=hv1.cell;have hf1:=hv1.frozen)
  exact ⟨hk2.from _,fun b hb=>hb2.block b (by
   rcases hb with rfl|hb
   · exact hBs
   · exact (hg.b b hb).1),⟨_,hv2,by simpa [encS] using hr2⟩,hb2.os.trans hoth.os,hb2.tape.trans hoth.tape,hb2.output.trans hoth.output,Nat.le_trans hoth.size hb2.size,fun b hb hne=>(hb2.block b hb).trans (hoth.keep b hb hne)⟩
 case done =>
  rintro D W hD ⟨⟨v,hv,hrow⟩,hoth⟩ hK;have hc:=hv.cell
  gi_wp2
  refine ⟨by simp,.inl ⟨_,_,rfl,run_takeDeferred hK,?_⟩⟩;have hD':w.heap.size+1≤D:=by rw [World.size_alloc] at hD;exact hD
  exact ⟨_,results_tmp rfl _ _ _,v,rfl,ownsRow_putObj hrow _ hK rfl,hoth.os,hoth.tape,hoth.output,by simpa [World.putObj] using hoth.size,fun b hb hne=>(World.putObj_heap_other (by omega)).trans (hoth.keep b hb hne)⟩
 case stop =>
  rintro D c pre W _ _ h _;exact h.elim
set_option maxHeartbeats 4000000 in
theorem y2d (s:List UInt8) (w:World):Calls Tryz.prog 190 #[.string ⟨⟨s⟩⟩] w fun e w'=>e = .returned (.func (.func 222) #[] #[.pointer (some ⟨w.heap.size,0,none⟩)])∧w'=w.alloc (.cells #[.string ⟨⟨s⟩⟩] 9):=by
 go_enter Tryz.func190,Tryz.ntmps190
 go_wp2
 go_returns
 exact ⟨rfl,rfl⟩
theorem z6t (gf Bs:Nat) (hgf:∀args w,(callFunc gf args).run Tryz.prog w = .ok (.enter gf args) w) (xs:List (List UInt8)) (w:World) (hBs:Bs<w.heap.size) (hg:GI w m0) (hlen:xs.length≤1000000000000)
 (hseq:∀W,Below w.heap.size w W→x4v Fence.wide 2 Tryz.prog gf #[.pointer (some ⟨Bs,0,none⟩)] (fun x:List UInt8 => #[Value.string ⟨⟨x⟩⟩]) (fun b=>b=Bs∨b∈wy) Bs xs W) :
 Calls Tryz.prog 189 #[.func (.func gf) #[] #[.pointer (some ⟨Bs,0,none⟩)]] w fun e W' =>
  ∃v,e = .returned v∧W'.ownsRow w.heap.size 9 1 v xs.length (xs.map encS)∧Oth Bs w W':=by
 go_enter Tryz.func189,Tryz.ntmps189
 go_wp2_with (go_at_call 221;refine (callsIn_wide.1 (y0p gf hgf Bs xs w hBs hg hlen hseq)).mono ?_;rintro e W' ⟨v,rfl,h1,h2⟩)
 go_returns
 exact ⟨v,rfl,h1,h2⟩
def j0u (f:List UInt8) (ok:Bool):Option (List (List UInt8)×Int) :=
 bif !ok then some ([],7) else bif f.isEmpty then some ([],13) else
 bif decide (f.length≤1000000000) then
  (q1v (f.length+2) (Lib.replaceAll f [227,128,130] [46])).bind fun ps=>bif decide (ps.length≤1000000000000) then (bif decide (32<ps.length) then some ([],2) else some (ps,0)) else none
 else none
theorem w0d {w:World} (hg:GI w m0):∃m,w.cell? ⟨2,0,none⟩=some (.int .i64 m):=by first|exact hg.i|exact hg.i.1
theorem z7w (f:List UInt8) (hf:f.length≤1000000000) (w:World) (hg:GI w m0) :
 Calls Tryz.prog 188 #[.string ⟨⟨f⟩⟩,.string ⟨#[227,128,130]⟩,.string ⟨#[46]⟩] w fun e w'=>e = .returned (.string ⟨⟨Lib.replaceAll f [227,128,130] [46]⟩⟩)∧Below w.heap.size w w':=by
 obtain ⟨m,hm⟩:=w0d hg;have hcnt:=Lib.count_le f [227,128,130];refine (Go.Proofs.Any.strings_ReplaceAll Tryz.lays155 Tryz.Builder_Extra_155 ⟨⟨f⟩⟩ ⟨#[227,128,130]⟩ ⟨#[46]⟩ m w ?_ hm ?_ ?_).mono ?_
 · show f.length<_
   omega
 · decide
 · show f.length+Lib.count f [227,128,130]*1≤_
   omega
 · rintro e w' ⟨h1,h2⟩
   exact ⟨h1,h2⟩
theorem x6x {Bs B:Nat} {A W W':World} (h:Below B A W) (hB:B≤W.heap.size) (hBs:B≤Bs) (ho:Oth Bs W W'):Below B A W' :=
 h.trans ⟨ho.os,ho.tape,ho.output,ho.size,fun k hk=>ho.keep k (by omega) (by omega)⟩
theorem q0v {W:World} {base:Nat} {e:TypeId} {v:Value} {n:Nat} {xs:List Value} (h:W.ownsRow base e 1 v n xs):∃a cap,v = .slice a n cap:=by
 rcases h.2 with ⟨h1,h2⟩|⟨g,cap,cur,h1,_⟩
 · subst h2;exact ⟨_,_,h1⟩
 · exact ⟨_,_,h1⟩
set_option maxHeartbeats 4000000 in
theorem y0z (v0 v1 v2 v3 v4:Value) (s f:List UInt8) (ok:Bool) (ls:List (List UInt8)) (c:Int) (w:World) (hg:GI w m0) (hC:j0u f ok=some (ls,c))
 (hfold:∀W,Below w.heap.size w W→Calls Tryz.prog 151 #[.agg #[v0,v1,v2,v3,v4],.string ⟨⟨s⟩⟩] W fun e W'=>e = .returned (.tuple #[.string ⟨⟨f⟩⟩,.bool ok])∧Below W.heap.size W W') :
 Calls Tryz.prog 157 #[.agg #[v0,v1,v2,v3,v4],.string ⟨⟨s⟩⟩] w fun e w'=>∃v,e = .returned (.tuple #[v,.int .i64 c])∧Below w.heap.size w w'∧w'.ownsRow w.heap.size 9 1 v ls.length (ls.map encS):=by
 have hW0:Below w.heap.size w (w.alloc (.cells #[v0,v1,v2,v3,v4] 39)):=(Below.refl _ w).alloc (Nat.le_refl _) _;have hF:=hfold _ hW0;clear hfold;cases ok with
 | false =>
  have hC':(([]:List (List UInt8)),(7:Int))=(ls,c):=Option.some.inj hC;cases hC'
  go_enter Tryz.func157,Tryz.ntmps157
  go_wp2_with (go_at_call 151;refine hF.mono ?_;rintro e w1 ⟨rfl,hb1⟩)
  go_returns
  exact ⟨_,rfl,hW0.trans (hb1.mono hW0.size),World.ownsRow_nil _ _ _ _⟩
 | true =>
  cases f with
  | nil =>
   have hC':(([]:List (List UInt8)),(13:Int))=(ls,c):=Option.some.inj hC;cases hC'
   go_enter Tryz.func157,Tryz.ntmps157
   go_wp2_with (go_at_call 151;refine hF.mono ?_;rintro e w1 ⟨rfl,hb1⟩)
   go_returns
   exact ⟨_,rfl,hW0.trans (hb1.mono hW0.size),World.ownsRow_nil _ _ _ _⟩
  | cons f0 f1 =>
   have hC1:(bif decide ((f0::f1).length≤1000000000) then
    (q1v ((f0::f1).length+2) (Lib.replaceAll (f0::f1) [227,128,130] [46])).bind fun ps=>bif decide (ps.length≤1000000000000) then (bif decide (32<ps.length) then some (([]:List (List UInt8)),(2:Int)) else some (ps,0)) else none
    else none)=some (ls,c):=hC
   rcases jd hC1 with ⟨hlen,hC2⟩|⟨_,hC2⟩
   case inr=>cases hC2
   have hlen':=of_decide_eq_true hlen;obtain ⟨ps,hps,hC3⟩:=Option.bind_eq_some_iff.1 hC2;rcases jd hC3 with ⟨hl2,hC4⟩|⟨_,hC4⟩
   case inr=>cases hC4
   have hl2':=of_decide_eq_true hl2;have hcc:∀W:World,GI W m0→Calls Tryz.prog 189 #[.func (.func 222) #[] #[.pointer (some ⟨W.heap.size,0,none⟩)]] (W.alloc (.cells #[.string ⟨⟨Lib.replaceAll (f0::f1) [227,128,130] [46]⟩⟩] 9)) fun e W' =>
    ∃v,e = .returned v∧W'.ownsRow (W.alloc (.cells #[.string ⟨⟨Lib.replaceAll (f0::f1) [227,128,130] [46]⟩⟩] 9)).heap.size 9 1 v ps.length (ps.map encS)∧Oth W.heap.size (W.alloc (.cells #[.string ⟨⟨Lib.replaceAll (f0::f1) [227,128,130] [46]⟩⟩] 9)) W':=fun W hgW=>by
    have hbW:Below W.heap.size W (W.alloc (.cells #[.string ⟨⟨Lib.replaceAll (f0::f1) [227,128,130] [46]⟩⟩] 9)):=(Below.refl _ W).alloc (Nat.le_refl _) _;have hgW':=zf hgW hbW;refine z6t 222 W.heap.size (enters_of Tryz.func222 (by kernel_rfl) rfl) ps _ (by rw [World.size_alloc];omega) hgW' hl2' fun W2 hb2 => ?_;exact x7z 2 (by omega) W.heap.size _ ps _ hps W2 (z6p (Boxed.new _ _ _) (hb2.block _ (by rw [World.size_alloc];omega))) (zf hgW' hb2) fun b hb=>by have:=(hgW.b b hb).1;omega
   have hg1:=fun W hb=>z7w (f0::f1) hlen' W (zf hg hb);generalize Lib.replaceAll (f0::f1) [227,128,130] [46]=r at hps hcc hg1;have zc:∀{w1 w2 w4:World} {v:Value},Below (w.alloc (.cells #[v0,v1,v2,v3,v4] 39)).heap.size (w.alloc (.cells #[v0,v1,v2,v3,v4] 39)) w1→Below w1.heap.size w1 w2→w4.ownsRow (w2.alloc (.cells #[.string ⟨⟨r⟩⟩] 9)).heap.size 9 1 v ps.length (ps.map encS)→Oth w2.heap.size (w2.alloc (.cells #[.string ⟨⟨r⟩⟩] 9)) w4→Below w.heap.size w w4∧w4.ownsRow w.heap.size 9 1 v ps.length (ps.map encS):=by
    intro w1 w2 w4 v h1 h2 h3 h4;have b2:Below w.heap.size w w2:=(hW0.trans (h1.mono hW0.size)).trans (h2.mono (by have:=hW0.size;have:=h1.size;omega));have b3:Below w.heap.size w (w2.alloc (.cells #[.string ⟨⟨r⟩⟩] 9)):=b2.alloc b2.size _;refine ⟨x6x b3 b3.size b2.size h4,h3.1,?_⟩;rcases h3.2 with h|⟨g,cap,cur,e1,e2,e3⟩
    · exact .inl h
    · exact .inr ⟨g,cap,cur,e1,Nat.le_trans b3.size e2,e3⟩
   have Fin:Hid _ := @zc;clear zc;by_cases h32:32<ps.length
   · rw [decide_eq_true h32,cond_true] at hC4
     have hC':(([]:List (List UInt8)),(2:Int))=(ls,c):=Option.some.inj hC4;cases hC';clear hC hC1 hC2 hC3 hC4
     go_enter Tryz.func157,Tryz.ntmps157
     go_wp2_with (first
      | (go_at_call 151;refine hF.mono ?_;rintro e w1 ⟨rfl,hb1⟩)
      | (go_at_call 188;refine (hg1 _ (hW0.trans (hb1.mono hW0.size))).mono ?_;rintro e w2 ⟨rfl,hb2⟩)
      | (go_at_call 190;refine (y2d r _).mono ?_;rintro e w3 ⟨rfl,rfl⟩)
      | (go_at_call 189;have hgw2:GI w2 m0:=zf (zf (zf hg hW0) hb1) hb2;refine (hcc _ hgw2).mono ?_;rintro e w4 ⟨v,rfl,hrow,hoth⟩;obtain ⟨sa,sc,rfl⟩:=q0v hrow)
      | go_in)
     go_returns
     exact ⟨_,rfl,(Fin.out hb1 hb2 hrow hoth).1,World.ownsRow_nil _ _ _ _⟩
   · rw [decide_eq_false h32,cond_false] at hC4
     have hC':(ps,(0:Int))=(ls,c):=Option.some.inj hC4;cases hC';clear hC hC1 hC2 hC3 hC4
     go_enter Tryz.func157,Tryz.ntmps157
     go_wp2_with (first
      | (go_at_call 151;refine hF.mono ?_;rintro e w1 ⟨rfl,hb1⟩)
      | (go_at_call 188;refine (hg1 _ (hW0.trans (hb1.mono hW0.size))).mono ?_;rintro e w2 ⟨rfl,hb2⟩)
      | (go_at_call 190;refine (y2d r _).mono ?_;rintro e w3 ⟨rfl,rfl⟩)
      | (go_at_call 189;have hgw2:GI w2 m0:=zf (zf (zf hg hW0) hb1) hb2;refine (hcc _ hgw2).mono ?_;rintro e w4 ⟨v,rfl,hrow,hoth⟩;obtain ⟨sa,sc,rfl⟩:=q0v hrow)
      | go_in)
     go_returns
     exact ⟨_,rfl,(Fin.out hb1 hb2 hrow hoth).1,(Fin.out hb1 hb2 hrow hoth).2⟩
set_option maxHeartbeats 4000000 in
theorem y6q (n:Nat) (hn:1≤n) (Bs base:Nat) (v:Value) (xs:List (List UInt8)) (K:Nat→Prop) (w:World) (hb:Boxed w Bs 89 v) (hrow:w.ownsRow base 9 1 v xs.length (xs.map encS)) (hlen:xs.length≤1000000000000) (hKb:K Bs) (hKv:∀b,v.ownBlock=some b→K b) (Bd:Nat) :
 x4v Fence.wide n Tryz.prog 191 #[.pointer (some ⟨Bs,0,none⟩)] (fun x:List UInt8 => #[Value.string ⟨⟨x⟩⟩]) K Bd xs w:=by
 intro l J Jx W hW hJ hJx hY h0;have hb':Boxed W Bs 89 v:=(hW.block Bs hb.lt).trans hb;have hc:=hb'.cell;rcases hrow.2 with ⟨rfl,hn0⟩|⟨g,cap,cur,rfl,hg1,hg2,hg3,hg4,hg5,hg6⟩
 · have hx:xs=[]:=List.eq_nil_of_length_eq_zero hn0
   subst hx;refine callsIn_of_wp Tryz.func191 rfl trivial ?_ rfl;simp only [Tryz.ntmps191,List.size_toArray,List.length_cons,List.length_nil,Nat.reduceAdd,Nat.reduceSub,Array.replicate_succ,Array.replicate_zero,List.push_toArray,List.append_toArray,List.nil_append,List.cons_append]
   gi_wp2
   gi_loopw [7] (fun i wr=>i = .int .i64 0∧J [] wr) (fun _ _=>0)
   case atStart=>exact ⟨rfl,h0⟩
   case round =>
    obtain ⟨rfl,hJs⟩:=hrel
    gi_wp2
    go_end0
    exact ⟨⟨_,rfl⟩,.inl hJs⟩
 · have hKg:K g:=hKv g rfl
   have hgW:W.heap[g]? = some (.cells cur 9 (0,0)):=(hW.block g (lt_of_some hg2)).trans hg2;have hcur:∀(k:Nat) x,xs[k]? = some x→cur[k]? = some (.string ⟨⟨x⟩⟩):=fun k x hk=>by
    have hlt:k<xs.length:=(List.getElem?_eq_some_iff.1 hk).1;have h1:(cur.toList.take (xs.length*1))[k]? = some (encS x):=by rw [hg6,List.getElem?_map,hk];rfl
    rw [List.getElem?_take_of_lt (by omega),Array.getElem?_toList] at h1;exact h1
   refine callsIn_of_wp Tryz.func191 rfl trivial ?_ rfl;simp only [Tryz.ntmps191,List.size_toArray,List.length_cons,List.length_nil,Nat.reduceAdd,Nat.reduceSub,Array.replicate_succ,Array.replicate_zero,List.push_toArray,List.append_toArray,List.nil_append,List.cons_append];generalize hN:xs.length=N at *
   gi_wp2
   gi_loopw [7] (fun i wr=>∃k:Nat,i = .int .i64 k∧k≤N∧Hid (J (xs.take k) wr)∧Hid (wr.heap[g]? = some (.cells cur 9 (0,0)))) (fun i _=>N-(intOf i).toNat)
   case atStart=>exact ⟨0,rfl,Nat.zero_le _,h0,hgW⟩
   case round =>
    obtain ⟨k,rfl,hk,hJs,hgr⟩:=hrel;by_cases hlt:k<N
    · obtain ⟨x,hx⟩:∃x,xs[k]? = some x:=⟨_,List.getElem?_eq_getElem (by omega)⟩
      have htk:xs.take (k+1)=xs.take k++[x]:=by rw [List.take_add_one,hx];rfl
      have hpre:xs.take k++[x] <+: xs:=htk▸List.take_prefix _ _;have hcx:wr.cell? ⟨g,k,none⟩=some (.string ⟨⟨x⟩⟩):=by simp only [World.cell?,hgr.out];exact hcur k x hx
      obtain ⟨fn,tmps,assign,body,hy,hR⟩:=hY _ x wr hpre hJs.out;clear hcur
      gi_wp2
      refine hR.mono ?_;rintro e W3 (⟨rfl,hJ3,hs3,hk3⟩|⟨rfl,hJx3⟩)
      · have hg3:Hid (W3.heap[g]? = some (.cells cur 9 (0,0))):=(hk3 g hKg).trans hgr.out
        have hJ4:Hid (J (xs.take (k+1)) W3):=by rw [htk];exact hJ3
        gi_wp2
        go_roundw
        case rel=>exact ⟨k+1,by simp,by omega,hJ4,hg3⟩
        case measure=>simp [intOf];omega
      · gi_wp2
        refine bodyPost_ret (results_none rfl _ _ _) rfl ?_;exact ⟨⟨_,rfl⟩,.inr ⟨_,hpre,hJx3⟩⟩
    · obtain rfl:k=N:=by omega
      gi_wp2
      go_end0
      exact ⟨⟨_,rfl⟩,.inl (by have:=hJs.out;rwa [List.take_of_length_le (by omega)] at this)⟩
set_option maxHeartbeats 4000000 in
theorem x8e (a:Option Addr) (n cap:Nat) (w:World):Calls Tryz.prog 158 #[.slice a n cap] w fun e w'=>e = .returned (.func (.func 191) #[] #[.pointer (some ⟨w.heap.size,0,none⟩)])∧w'=w.alloc (.cells #[.slice a n cap] 89):=by
 go_enter Tryz.func158,Tryz.ntmps158
 go_wp2
 go_returns
 exact ⟨rfl,rfl⟩
def K0:qn:=fun f=>Ae.lookA f []
theorem d4y:zb Tryz.prog K0:=x2k _
noncomputable def k4g:Code:=match qe (code Tryz.f124) [1,1,1,1,0,1,0] with | .rangeFunc _ _ _ b=>b|c=>c
noncomputable def z1v:Array Oper:=match qe k4g [0,1,1,1] with | .region _ ops _=>ops|_ => #[]
def t11 (x y:List UInt8):List AV:=[.top,.top,.top,.top,.top,.top,.top,.top,.top,.ptr 2 0,.ptr 3 0,.top,.str x,.top,.str y]++List.replicate 45 .top
def o11 (ps qs:List (List UInt8)):qj:=[[.rowc 9 .str ps],[.rowc 9 .str qs],[.row 0],[.row 1]]
def w0i (ps qs:List (List UInt8)) (x y:List UInt8):qj:=[[],[],[.row 5],[.row 7],[.rowc 9 .str [x]],[.rowc 9 .str (ps++[x])],[.rowc 9 .str [y]],[.rowc 9 .str (qs++[y])]]
theorem r11 (ps qs:List (List UInt8)) (x y:List UInt8):q0b Γ K0 z1v ⟨t11 x y,o11 ps qs⟩ (fun s=>some s.o) =
 bif decide (ps.length+1≤140737488355328/16) then (bif decide (qs.length+1≤140737488355328/16) then some (w0i ps qs x y) else none) else none:=by kernel_rfl
theorem d5a:∀(i:Nat) o,z1v[i]? = some o→∀c,o.op ≠ .defer c:=by
 have h:(z1v.toList.all fun o=>match o.op with | .defer _=>false|_=>true)=true:=by kernel_rfl
 intro i o ho c hc;have:=List.all_eq_true.1 h o (Array.mem_toList_iff.2 (Array.mem_of_getElem? ho));rw [hc] at this;cases this
theorem x3r {w:World} {m:Md} {g:List Value}:∀(av:List AV) (vs:List Value),av.length=vs.length→(∀(i:Nat) v,vs[i]? = some v→qh w m g (av.getD i .top) v)→qf w m g av vs
 | [],[],_,_=>rfl
 | a::av,v::vs,hl,h=>⟨v,vs,rfl,h 0 v rfl,x3r av vs (by simpa using hl) fun i u hu=>h (i+1) u hu⟩
structure Two (base A9 A10:Nat) (W:World) (ps qs:List (List UInt8)):Prop where
 ex:∃va vu t9 t10,Boxed W A9 t9 va∧Boxed W A10 t10 vu∧W.ownsRow base 9 1 va ps.length (ps.map encS)∧W.ownsRow base 9 1 vu qs.length (qs.map encS) ∧
  (∀b,va.ownBlock=some b→b≠A9∧b≠A10∧vu.ownBlock≠some b)∧∀b,vu.ownBlock=some b→b≠A9∧b≠A10
def k3x (A9 A10:Nat) (va vu:Value) (b:Nat):Prop:=b=A9∨b=A10∨va.ownBlock=some b∨vu.ownBlock=some b
theorem y2i {w:World} {m:Md} {l:List (List UInt8)} {xs:List Value} (h:yk w m .str l xs) (hl:xs.length=l.length*1):xs=l.map encS:=by
 apply List.ext_getElem?;intro j;rw [List.getElem?_map];by_cases hj:j<l.length
 · have h1:((xs.drop (j*1)).take 1)=[.string ⟨⟨l[j]⟩⟩]:=h j l[j] (List.getElem?_eq_getElem hj)
   have h2:((xs.drop (j*1)).take 1)[0]? = some (.string ⟨⟨l[j]⟩⟩):=by rw [h1];rfl
   rw [List.getElem?_take_of_lt (by omega),List.getElem?_drop] at h2;simp only [Nat.mul_one,Nat.add_zero] at h2;rw [h2,List.getElem?_eq_getElem hj];rfl
 · rw [List.getElem?_eq_none (by omega),List.getElem?_eq_none (by omega)]
   rfl
theorem v4a {w:World} {m:Md} (l:List (List UInt8)):yk w m .str l (l.map encS):=by
 intro j x hj
 change List UInt8 at x
 change l[j]? = some x at hj
 show ((l.map encS).drop (j*1)).take 1=[.string ⟨⟨x⟩⟩]
 have hlt:=(List.getElem?_eq_some_iff.1 hj).1;have:((l.map encS).drop j)=encS x::(l.map encS).drop (j+1):=by
  rw [←List.map_drop,List.drop_eq_getElem_cons hlt,List.map_cons,List.map_drop];rw [(List.getElem?_eq_some_iff.1 hj).2]
 rw [Nat.mul_one,this];rfl
theorem row_zero {W:World} {base:Nat} {e:TypeId} {size n:Nat} {v:Value} {xs:List Value} (h:W.ownsRow base e size v n xs):W.ownsRow 0 e size v n xs:=by
 refine ⟨h.1,?_⟩;rcases h.2 with h|⟨g,cap,cur,e1,h2,h3⟩
 · exact .inl h
 · exact .inr ⟨g,cap,cur,e1,Nat.zero_le _,h3⟩
theorem y6g {W:World} {base:Nat} {e:TypeId} {size n:Nat} {v:Value} {xs:List Value} (h:W.ownsRow base e size v n xs):∀b,v.ownBlock=some b→base≤b∧b<W.heap.size∧∃o,W.heap[b]? = some o∧o.isCells=true:=by
 rcases h.2 with ⟨rfl,_⟩|⟨g,cap,cur,rfl,h2,h3,_⟩
 · intro b hb;cases hb
 · intro b hb;cases hb;exact ⟨h2,lt_of_some h3,_,h3,rfl⟩
theorem y0b {w:World} {m:Md} {g:List Value} {A:Nat} {t:TypeId} {v:Value} {i:Nat} (h:Boxed w A t v) (hi:g[i]? = some v) (hv:∃ao n c,v = .slice ao n c):RepO w m g (.pointer (some ⟨A,0,none⟩)) [.row i] :=
 ⟨fun _ _ _ e=>(by cases e),fun _ _ e=>(by cases e),fun _=>⟨A,t,_,rfl,h,v,[],rfl,⟨hi,hv⟩,rfl⟩,fun _ _ e=>(by cases e),trivial⟩
theorem y2l {w:World} {m:Md} {g:List Value} {base:Nat} {v:Value} {l:List (List UInt8)} (h:w.ownsRow base 9 1 v l.length (l.map encS)):RepO w m g v [.rowc 9 .str l] :=
 ⟨fun _ _ _ e=>(by cases e;exact ⟨_,row_zero h,v4a l⟩),fun _ _ e=>(by cases e),fun e=>(by cases e),fun _ _ e=>(by cases e),trivial⟩
theorem v7u (l n0:Nat) (ps qs:List (List UInt8)) (x y:List UInt8) (hp:ps.length≤1000000000000) (hq:qs.length≤1000000000000) (tm:List Value) (base R A9 A10:Nat) (hR:base≤R) (W:World) (hg:GI W m0) (hgb:∀b∈wy,b<base)
 (hne:A9≠A10) (h9:base≤A9) (h10:base≤A10) (h:Two R A9 A10 W ps qs) (hlen:tm.length=60) (hbase:R≤W.heap.size)
 (e9:tm[9]? = some (.pointer (some ⟨A9,0,none⟩))) (e10:tm[10]? = some (.pointer (some ⟨A10,0,none⟩))) (e12:tm[12]? = some (.string ⟨⟨x⟩⟩)) (e14:tm[14]? = some (.string ⟨⟨y⟩⟩)) :
 (Code.region 11 z1v true).wpIn (Fence.wide.inRound l) n0 Tryz.prog (fun e a' w'=>e = .normal∧Two R A9 A10 w' (ps++[x]) (qs++[y])∧w'.os=W.os∧w'.tape=W.tape∧w'.output=W.output∧W.heap.size≤w'.heap.size ∧
  (∀b,b<R→b≠A9→b≠A10→w'.heap[b]? = W.heap[b]?)∧∀(b:Nat) (o:Obj),W.heap[b]? = some o→o.isCells=false→w'.heap[b]? = some o) { tmps:=tm.toArray,defers:=[] } W:=by
 obtain ⟨va,vu,t9,t10,b9,b10,r9,r10,s1,s2⟩:=h.ex;have g1:=y6g r9;have g2:=y6g r10;obtain ⟨sa1,sc1,es1⟩:=q0v r9;obtain ⟨sa2,sc2,es2⟩:=q0v r10;have hmu:∀b,k3x A9 A10 va vu b→base≤b∧b<W.heap.size∧∃o,W.heap[b]? = some o∧o.isCells=true:=by
  rintro b (rfl|rfl|hb|hb)
  · exact ⟨h9,b9.lt,_,b9,rfl⟩
  · exact ⟨h10,b10.lt,_,b10,rfl⟩
  · have:=g1 b hb;exact ⟨by omega,this.2⟩
  · have:=g2 b hb;exact ⟨by omega,this.2⟩
 have hrep:Rep W ⟨k3x A9 A10 va vu,k3x A9 A10 va vu⟩ [va,vu,.pointer (some ⟨A9,0,none⟩),.pointer (some ⟨A10,0,none⟩)] ⟨t11 x y,o11 ps qs⟩ { tmps:=tm.toArray,defers:=[] }:=by
  refine ⟨?_,rfl,?_⟩
  · refine x3r _ _ (by simp [t11,hlen]) fun i v hv => ?_
    have hv':tm[i]? = some v:=hv;have hi:i<60:=hlen▸(List.getElem?_eq_some_iff.1 hv').1;by_cases i9:i=9
    · subst i9;rw [e9] at hv';cases hv';exact ⟨A9,rfl,rfl⟩
    by_cases i10:i=10
    · subst i10;rw [e10] at hv';cases hv';exact ⟨A10,rfl,rfl⟩
    by_cases i12:i=12
    · subst i12;rw [e12] at hv';cases hv';rfl
    by_cases i14:i=14
    · subst i14;rw [e14] at hv';cases hv';rfl
    have ht:(t11 x y).getD i .top = .top:=by
     have hc:i=0∨i=1∨i=2∨i=3∨i=4∨i=5∨i=6∨i=7∨i=8∨i=11∨i=13∨15≤i:=by omega
     rcases hc with rfl|rfl|rfl|rfl|rfl|rfl|rfl|rfl|rfl|rfl|rfl|hc
     iterate 11 rfl
     unfold t11;rw [List.getD_eq_getElem?_getD,List.getElem?_append_right (by simpa using hc),List.getElem?_replicate];split<;>rfl
    rw [ht];trivial
  · refine ⟨⟨hg.i,fun b hb=>⟨(hg.b b hb).1,fun hc => ?_⟩⟩,rfl,?_,fun _ h=>h,fun b hb=>(hmu b hb).2.1,?_,?_⟩
    · have:=(hmu b hc).1;have:=hgb b hb;omega
    · rintro b ⟨i,gi,cs,k1,k2,k3⟩
      match i with
      | 0=>cases k1;cases k2;exact .inr (.inr (.inl k3))
      | 1=>cases k1;cases k2;exact .inr (.inr (.inr k3))
      | 2=>cases k1;cases k2;cases k3;exact .inl rfl
      | 3=>cases k1;cases k2;cases k3;exact .inr (.inl rfl)
      | i+4=>cases k1
    · intro i gi cs k1 k2
      match i with
      | 0=>cases k1;cases k2;exact y2l r9
      | 1=>cases k1;cases k2;exact y2l r10
      | 2=>cases k1;cases k2;exact y0b b9 rfl ⟨_,_,_,es1⟩
      | 3=>cases k1;cases k2;exact y0b b10 rfl ⟨_,_,_,es2⟩
      | i+4=>cases k1
    · intro i j gi gj ci cj b hij k1 k2 k3 k4 k5 k6
      match i,j with
      | 0,0|1,1|2,2|3,3=>exact hij rfl
      | 0,1=>cases k1;cases k2;cases k3;cases k4;exact (s1 b k5).2.2 k6
      | 1,0=>cases k1;cases k2;cases k3;cases k4;exact (s1 b k6).2.2 k5
      | 0,2=>cases k1;cases k2;cases k3;cases k4;cases k6;exact (s1 _ k5).1 rfl
      | 0,3=>cases k1;cases k2;cases k3;cases k4;cases k6;exact (s1 _ k5).2.1 rfl
      | 1,2=>cases k1;cases k2;cases k3;cases k4;cases k6;exact (s2 _ k5).1 rfl
      | 1,3=>cases k1;cases k2;cases k3;cases k4;cases k6;exact (s2 _ k5).2 rfl
      | 2,0=>cases k1;cases k2;cases k3;cases k4;cases k5;exact (s1 _ k6).1 rfl
      | 3,0=>cases k1;cases k2;cases k3;cases k4;cases k5;exact (s1 _ k6).2.1 rfl
      | 2,1=>cases k1;cases k2;cases k3;cases k4;cases k5;exact (s2 _ k6).1 rfl
      | 3,1=>cases k1;cases k2;cases k3;cases k4;cases k5;exact (s2 _ k6).2 rfl
      | 2,3=>cases k1;cases k2;cases k3;cases k4;cases k5;cases k6;exact hne rfl
      | 3,2=>cases k1;cases k2;cases k3;cases k4;cases k5;cases k6;exact hne rfl
      | i+4,_=>cases k1
      | _,j+4=>cases k3
 have hlim:(140737488355328:Nat)/16=8796093022208:=rfl;have hrun:q0b Γ K0 z1v ⟨t11 x y,o11 ps qs⟩ (fun s=>some s.o)=some (w0i ps qs x y):=by
  rw [r11,hlim,decide_eq_true (show ps.length+1≤8796093022208 by omega),decide_eq_true (show qs.length+1≤8796093022208 by omega)];rfl
 refine wpIn_mono (y4v l n0 d5a hm hΓ d4y hrep hrun (Q:=fun a' w'=>Two R A9 A10 w' (ps++[x]) (qs++[y])∧w'.os=W.os∧w'.tape=W.tape∧w'.output=W.output∧W.heap.size≤w'.heap.size ∧
  (∀b,b<R→b≠A9→b≠A10→w'.heap[b]? = W.heap[b]?)∧∀(b:Nat) (o:Obj),W.heap[b]? = some o→o.isCells=false→w'.heap[b]? = some o) ?_) fun e a' w' h=>h
 intro st' a' w' m' g' k1 k2 k3 k4;have ho:st'.o=w0i ps qs x y:=Option.some.inj k1;have hob:=k2.obj;rw [ho] at hob;have q2:g'[2]? = some (.pointer (some ⟨A9,0,none⟩)):=k4 2 _ rfl;have q3:g'[3]? = some (.pointer (some ⟨A10,0,none⟩)):=k4 3 _ rfl;have hlen8:g'.length=8:=hob.len;obtain ⟨v5,q5⟩:∃v,g'[5]? = some v:=⟨_,List.getElem?_eq_getElem (by omega)⟩
 obtain ⟨v7,q7⟩:∃v,g'[7]? = some v:=⟨_,List.getElem?_eq_getElem (by omega)⟩
 obtain ⟨b2,ty2,arr2,z1,z2,z3⟩:=(hob.obj 2 _ [.row 5] q2 rfl).box rfl;obtain ⟨b3,ty3,arr3,y1,y2,y3⟩:=(hob.obj 3 _ [.row 7] q3 rfl).box rfl;cases z1;cases y1;obtain ⟨u5,r5,z4,⟨z5,z6⟩,z7⟩:=z3;obtain ⟨u7,r7,y4,⟨y5,y6⟩,y7⟩:=y3;rw [q5] at z5;rw [q7] at y5;cases z5;cases y5;have z7':r5=[]:=z7;have y7':r7=[]:=y7;subst z7' y7';obtain ⟨xs5,o5,p5⟩:=(hob.obj 5 _ [.rowc 9 .str (ps++[x])] q5 rfl).rowc _ _ _ rfl;obtain ⟨xs7,o7,p7⟩:=(hob.obj 7 _ [.rowc 9 .str (qs++[y])] q7 rfl).rowc _ _ _ rfl;have hx5:=y2i p5 o5.1;have hx7:=y2i p7 o7.1;subst hx5 hx7;have hge:∀(i:Nat) gi cs b,i≠2→i≠3→g'[i]? = some gi→(w0i ps qs x y)[i]? = some cs→blk gi cs=some b→R≤b:=fun i gi cs b n2 n3 c1 c2 c3=>by
  by_cases hlt:b<W.heap.size
  · rcases k3.mutb b hlt (hob.nm b (hob.sub b ⟨i,gi,cs,c1,c2,c3⟩)) with h|h|h|h
    · exact (hob.sep i 2 _ _ _ _ _ n2 c1 c2 q2 rfl c3 (by rw [h];rfl)).elim
    · exact (hob.sep i 3 _ _ _ _ _ n3 c1 c2 q3 rfl c3 (by rw [h];rfl)).elim
    · exact (g1 b h).1
    · exact (g2 b h).1
  · omega
 have hkeep:∀(b:Nat) (o:Obj),W.heap[b]? = some o→¬k3x A9 A10 va vu b→w'.heap[b]? = some o:=fun b o hb hn=>(k3.keep b (lt_of_some hb) hn).trans hb;refine ⟨⟨v5,v7,ty2,ty3,?_,?_,?_,?_,?_,?_⟩,k3.os,k3.tape,k3.output,k3.size,?_,?_⟩
 · have:arr2 = #[v5]:=by cases arr2;simpa using z4
   subst this;exact z2
 · have:arr3 = #[v7]:=by cases arr3;simpa using y4
   subst this;exact y2
 · exact j9f o5 fun b hb=>hge 5 _ _ b (by decide) (by decide) q5 rfl hb
 · exact j9f o7 fun b hb=>hge 7 _ _ b (by decide) (by decide) q7 rfl hb
 · intro b hb
   refine ⟨?_,?_,fun hc => ?_⟩
   · rintro rfl;exact hob.sep 5 2 _ _ _ _ _ (by decide) q5 rfl q2 rfl hb rfl
   · rintro rfl;exact hob.sep 5 3 _ _ _ _ _ (by decide) q5 rfl q3 rfl hb rfl
   · exact hob.sep 5 7 _ _ _ _ _ (by decide) q5 rfl q7 rfl hb hc
 · intro b hb
   refine ⟨?_,?_⟩
   · rintro rfl;exact hob.sep 7 2 _ _ _ _ _ (by decide) q7 rfl q2 rfl hb rfl
   · rintro rfl;exact hob.sep 7 3 _ _ _ _ _ (by decide) q7 rfl q3 rfl hb rfl
 · intro b hb hn9 hn10
   refine k3.keep b (by omega) fun hc => ?_;rcases hc with h|h|h|h
   · exact hn9 h
   · exact hn10 h
   · have:=(g1 b h).1;omega
   · have:=(g2 b h).1;omega
 · intro b o hb hc
   refine hkeep b o hb fun hcc => ?_;obtain ⟨_,_,o',e1,e2⟩:=hmu b hcc;rw [hb] at e1;cases e1;rw [hc] at e2;cases e2
def q5u (A U:List UInt8→Option (List UInt8×Int)):List (List UInt8)→List (List UInt8)→List (List UInt8)→Option (Int×List (List UInt8)×List (List UInt8))
 | [],ps,qs=>some (0,ps,qs)
 | x::xs,ps,qs=>(A x).bind fun a=>bif a.2 != 0 then some (a.2,[],[]) else (U x).bind fun u=>q5u A U xs (ps++[a.1]) (qs++[u.1])
theorem y2r {N Bs R A9 A10:Nat} {W W':World} {ps qs:List (List UInt8)} (h:Two R A9 A10 W ps qs) (h9:A9≠Bs) (h10:A10≠Bs) (hR:Bs<R) (ho:OthR N Bs W W'):Two R A9 A10 W' ps qs:=by
 obtain ⟨va,vu,t9,t10,b9,b10,r9,r10,s1,s2⟩:=h.ex;exact ⟨va,vu,t9,t10,xj b9 h9 ho,xj b10 h10 ho,q0f hR r9 ho,q0f hR r10 ho,s1,s2⟩
theorem v7y {W:World} {base:Nat} {v:Value} {l:List (List UInt8)} (h:W.ownsRow base 9 1 v l.length (l.map encS)):qy W m0 (.lst .str) l [v]:=by
 rcases h.2 with ⟨rfl,h0⟩|⟨g,cap,cur,rfl,h2,h3,h4,h5,h6,h7⟩
 · have hl:l=[]:=List.eq_nil_of_length_eq_zero h0
   subst hl;exact ⟨none,0,rfl,Nat.le_refl _,by omega,fun _=>rfl,fun j x hj=>by
    have hj':([]:List (List UInt8))[j]? = some x:=hj;simp at hj'⟩
 · refine ⟨_,cap,rfl,h4,by simp only [maxLen] at h5;omega,fun e=>(by cases e),fun j x hj => ?_⟩
   change List UInt8 at x
   change l[j]? = some x at hj
   refine ⟨g,0,[.string ⟨⟨x⟩⟩],rfl,rfl,rfl,lt_of_some h3,fun hm=>hm,fun i u hu => ?_⟩;have hlt:=(List.getElem?_eq_some_iff.1 hj).1
   match i with
   | i+1=>cases hu
   | 0 =>
    cases hu;have h1:(cur.toList.take (l.length*1))[j]? = some (encS x):=by rw [h7,List.getElem?_map,hj];rfl
    rw [List.getElem?_take_of_lt (by omega),Array.getElem?_toList] at h1;simp only [World.cell?,h3];show cur[0+j*1+0]? = _;rw [show 0+j*1+0=j by omega];exact h1
theorem z1n {W:World} {base:Nat} {v:Value} {l:List (List UInt8)} {r:List UInt8} (h:W.ownsRow base 9 1 v l.length (l.map encS)) (hj:q5v (l,[46],())=some (r,())) (hg:GI W m0) :
 Calls Tryz.prog 73 #[v,.string ⟨#[46]⟩] W fun e W'=>e = .returned (.string ⟨⟨r⟩⟩)∧Below W.heap.size W W':=by
 have hj':C73 (l,[46],())=some (r,()):=hj;refine (za.call0 (v:=(l,[46],())) (y:=(r,())) d5x Tryz.func73 (by kernel_rfl) (by kernel_rfl) hg (fun _ h=>h.elim) rfl ⟨v,_,rfl,v7y h,_,_,rfl,rfl,rfl⟩ rfl hj' ?_).mono fun e w' ⟨rv,h1,h2,ax,l',u,h3,h4⟩ => ?_
 · intro ax l' u h3
   cases ji h3;rfl
 · cases ji h3
   obtain ⟨v,r',e1,e2,e4⟩:=h4;have e4':r'=[]:=e4;subst e4';cases e1;subst h1 e2;exact ⟨rfl,h2⟩
def y6c (res:Int×List (List UInt8)×List (List UInt8)):Option (List UInt8×List UInt8×Int) :=
 bif res.1 != 0 then some ([],[],res.1) else (q5v (res.2.1,[46],())).bind fun ja=>bif decide (253<ja.1.length) then some ([],[],5) else (q5v (res.2.2,[46],())).bind fun ju=>some (ja.1,ju.1,0)
set_option maxHeartbeats 4000000 in
theorem x6z (v0 v1 v2 v3 v4:Value) (s:List UInt8) (ls:List (List UInt8)) (A U:List UInt8→Option (List UInt8×Int)) (res:Int×List (List UInt8)×List (List UInt8)) (w:World) (hg:GI w m0) (hll:ls.length≤32)
 (hres:q5u A U ls [] []=some res) (oa ou:List UInt8) (oc:Int) (hout:y6c res=some (oa,ou,oc))
 (hlab:∀W,Below w.heap.size w W→Calls Tryz.prog 157 #[.agg #[v0,v1,v2,v3,v4],.string ⟨⟨s⟩⟩] W fun e w'=>∃v,e = .returned (.tuple #[v,.int .i64 0])∧Below W.heap.size W w'∧w'.ownsRow W.heap.size 9 1 v ls.length (ls.map encS))
 (hA:∀x r,A x=some r→∀W,Below w.heap.size w W→Calls Tryz.prog 159 #[.agg #[v0,v1,v2,v3,v4],.string ⟨⟨x⟩⟩] W fun e W'=>e = .returned (.tuple #[.string ⟨⟨r.1⟩⟩,.int .i64 r.2])∧Below W.heap.size W W')
 (hU:∀x r,U x=some r→∀W,Below w.heap.size w W→Calls Tryz.prog 160 #[.agg #[v0,v1,v2,v3,v4],.string ⟨⟨x⟩⟩] W fun e W'=>e = .returned (.tuple #[.string ⟨⟨r.1⟩⟩,.int .i64 r.2])∧Below W.heap.size W W') :
 Calls Tryz.prog 124 #[.agg #[v0,v1,v2,v3,v4],.string ⟨⟨s⟩⟩] w fun e w'=>e = .returned (.tuple #[.string ⟨⟨oa⟩⟩,.string ⟨⟨ou⟩⟩,.int .i64 oc])∧Below w.heap.size w w':=by
 refine (callsIn_wide (n:=3)).1 ?_;refine callsIn_of_wp_marks Tryz.func124 rfl trivial ?_ rfl;simp only [Tryz.ntmps124,List.size_toArray,List.length_cons,List.length_nil,Nat.reduceAdd,Nat.reduceSub,Array.replicate_succ,Array.replicate_zero,List.push_toArray,List.append_toArray,List.nil_append,List.cons_append];have hW0:Below w.heap.size w ((((w.alloc (.cells #[v0,v1,v2,v3,v4] 39)).alloc (.cells #[.string ⟨#[]⟩] 9)).alloc (.cells #[.string ⟨#[]⟩] 9)).alloc (.cells #[.int .i64 0] 44)) :=
  ((((Below.refl _ w).alloc (Nat.le_refl _) _).alloc (by simp) _).alloc (by simp<;>omega) _).alloc (by simp<;>omega) _
 gi_wp2_with (first
  | (refine ⟨trivial,?_⟩;gi_at_call 157;refine (callsIn_wide.2 (hlab _ hW0)).mono ?_;rintro e w1 ⟨lv,rfl,hb1,hrow⟩;obtain ⟨la,lc,rfl⟩:=q0v hrow)
  | (refine ⟨trivial,?_⟩;gi_at_call 158;refine (callsIn_wide.2 (x8e _ _ _ _)).mono ?_;rintro e w2 ⟨rfl,rfl⟩))
 have hb0:Below w.heap.size w w1:=hW0.trans (hb1.mono hW0.size);have hsz1:w.heap.size+4≤w1.heap.size:=by have:=hb1.size;simp at this;omega
 have hT:∀X,Below w1.heap.size w1 X→X.cell? ⟨w.heap.size,0,none⟩=some v0∧X.cell? ⟨w.heap.size,1,none⟩=some v1∧X.cell? ⟨w.heap.size,2,none⟩=some v2∧X.cell? ⟨w.heap.size,3,none⟩=some v3∧X.cell? ⟨w.heap.size,4,none⟩=some v4:=fun X hX=>by
  have h1:X.heap[w.heap.size]? = some (.cells #[v0,v1,v2,v3,v4] 39):=by
   rw [hX.block _ (by omega),hb1.block _ (by simp<;>omega),Below.heap_alloc _ _ _ (by simp<;>omega),Below.heap_alloc _ _ _ (by simp<;>omega),Below.heap_alloc _ _ _ (by simp),heap_alloc_new]
  exact ⟨by rw [qg h1];rfl,by rw [qg h1];rfl,by rw [qg h1];rfl,by rw [qg h1];rfl,by rw [qg h1];rfl⟩
 have hR:∀X,Below w1.heap.size w1 X→Boxed X (w.heap.size+1) 9 (.string ⟨#[]⟩)∧Boxed X (w.heap.size+1+1) 9 (.string ⟨#[]⟩)∧Boxed X (w.heap.size+1+1+1) 44 (.int .i64 0):=fun X hX=>by
  refine ⟨?_,?_,?_⟩
  · show X.heap[_]? = _
    rw [hX.block _ (by omega),hb1.block _ (by simp<;>omega),Below.heap_alloc _ _ _ (by simp<;>omega),Below.heap_alloc _ _ _ (by simp)];have:=heap_alloc_new (w.alloc (.cells #[v0,v1,v2,v3,v4] 39)) (.cells #[.string ⟨#[]⟩] 9)
    rwa [World.size_alloc] at this
  · show X.heap[_]? = _
    rw [hX.block _ (by omega),hb1.block _ (by simp<;>omega),Below.heap_alloc _ _ _ (by simp)];have:=heap_alloc_new ((w.alloc (.cells #[v0,v1,v2,v3,v4] 39)).alloc (.cells #[.string ⟨#[]⟩] 9)) (.cells #[.string ⟨#[]⟩] 9)
    rwa [World.size_alloc,World.size_alloc] at this
  · show X.heap[_]? = _
    rw [hX.block _ (by omega),hb1.block _ (by simp)];have:=heap_alloc_new (((w.alloc (.cells #[v0,v1,v2,v3,v4] 39)).alloc (.cells #[.string ⟨#[]⟩] 9)).alloc (.cells #[.string ⟨#[]⟩] 9)) (.cells #[.int .i64 0] 44)
    rwa [World.size_alloc,World.size_alloc,World.size_alloc] at this
 have hg1:GI w1 m0:=zf hg hb0;have hW2:Below w1.heap.size w1 (((w1.alloc (.cells #[.slice none 0 0] 89)).alloc (.cells #[.slice none 0 0] 89)).alloc (.cells #[.slice la ls.length lc] 89)) :=
  (((Below.refl _ w1).alloc (Nat.le_refl _) _).alloc (by simp) _).alloc (by simp<;>omega) _
 have hszN:(((w1.alloc (.cells #[.slice none 0 0] 89)).alloc (.cells #[.slice none 0 0] 89)).alloc (.cells #[.slice la ls.length lc] 89)).heap.size=w1.heap.size+3:=by simp
 have hbv:Boxed (((w1.alloc (.cells #[.slice none 0 0] 89)).alloc (.cells #[.slice none 0 0] 89)).alloc (.cells #[.slice la ls.length lc] 89)) (w1.heap.size+1+1) 89 (.slice la ls.length lc):=by
  have:=Boxed.new ((w1.alloc (.cells #[.slice none 0 0] 89)).alloc (.cells #[.slice none 0 0] 89)) 89 (.slice la ls.length lc)
  rwa [World.size_alloc,World.size_alloc] at this
 have hb9:Boxed (((w1.alloc (.cells #[.slice none 0 0] 89)).alloc (.cells #[.slice none 0 0] 89)).alloc (.cells #[.slice la ls.length lc] 89)) w1.heap.size 89 (.slice none 0 0) :=
  ((Boxed.new w1 89 (.slice none 0 0)).alloc _).alloc _
 have hb10:Boxed (((w1.alloc (.cells #[.slice none 0 0] 89)).alloc (.cells #[.slice none 0 0] 89)).alloc (.cells #[.slice la ls.length lc] 89)) (w1.heap.size+1) 89 (.slice none 0 0):=by
  have:=(Boxed.new (w1.alloc (.cells #[.slice none 0 0] 89)) 89 (.slice none 0 0)).alloc (.cells #[.slice la ls.length lc] 89)
  rwa [World.size_alloc] at this
 have hrow2:(((w1.alloc (.cells #[.slice none 0 0] 89)).alloc (.cells #[.slice none 0 0] 89)).alloc (.cells #[.slice la ls.length lc] 89)).ownsRow 0 9 1 (.slice la ls.length lc) ls.length (ls.map encS):=by
  have:=row_zero hrow;exact ((this.alloc _).alloc _).alloc _
 have hown:∀b,(Value.slice la ls.length lc).ownBlock=some b→b<w1.heap.size:=fun b hb=>((y6g hrow) b hb).2.1;clear hlab;refine yv (F:=Fence.wide) (n:=3) rfl (by omega) (gf:=191) (lb := #[.pointer (some ⟨w1.heap.size+1+1,0,none⟩)]) rfl trivial (enters_of Tryz.func191 (by kernel_rfl) rfl)
  (K:=fun b=>b=w1.heap.size+1+1∨(Value.slice la ls.length lc).ownBlock=some b)
  (y6q 2 (by omega) (w1.heap.size+1+1) 0 _ ls _ _ hbv hrow2 (by omega) (.inl rfl) (fun b hb => .inr hb) (w1.heap.size+1+1))
  (by rintro b (rfl|hb)
      · rw [hszN];omega
      · have:=hown b hb;rw [hszN];omega) (by rw [hszN];omega) (fun _=>rfl)
  (fun pre W=>∃ps qs rest,ls=pre++rest∧q5u A U rest ps qs=some res∧ps.length=pre.length∧qs.length=pre.length∧Two (w1.heap.size+3) w1.heap.size (w1.heap.size+1) W ps qs∧Below w1.heap.size w1 W)
  (fun c pre W=>c = .ret∧res.1≠0∧Boxed W (w.heap.size+1) 9 (.string ⟨#[]⟩)∧Boxed W (w.heap.size+1+1) 9 (.string ⟨#[]⟩)∧Boxed W (w.heap.size+1+1+1) 44 (.int .i64 res.1)∧Below w.heap.size w W)
  (fun pre X Y hs ho=>by
   obtain ⟨ps,qs,rest,h1,h2,h3,h4,h5,h6⟩:=hs;exact ⟨ps,qs,rest,h1,h2,h3,h4,y2r h5 (by omega) (by omega) (by omega) ho,q1l h6 (Nat.le_refl _) (by rw [hszN];omega) (by omega) ho⟩)
  (fun c pre X Y hs ho=>by
   obtain ⟨h1,h2,h3,h4,h5,h6⟩:=hs;exact ⟨h1,h2,xj h3 (by omega) ho,xj h4 (by omega) ho,xj h5 (by omega) ho,q1l h6 (Nat.le_refl _) (by rw [hszN];omega) (by omega) ho⟩)
  ⟨[],[],ls,rfl,hres,rfl,rfl,⟨_,_,_,_,hb9,hb10,World.ownsRow_nil _ _ _ _,World.ownsRow_nil _ _ _ _,fun b hb=>(by cases hb),fun b hb=>(by cases hb)⟩,hW2⟩
  (fun x=>{ tmps := #[.agg #[v0,v1,v2,v3,v4],.string ⟨⟨s⟩⟩,.pointer (some ⟨w.heap.size,0,none⟩),undef,.pointer (some ⟨w.heap.size+1,0,none⟩),.pointer (some ⟨w.heap.size+1+1,0,none⟩),.pointer (some ⟨w.heap.size+1+1+1,0,none⟩),.slice la ls.length lc,.int .i64 0,
   .pointer (some ⟨w1.heap.size,0,none⟩),.pointer (some ⟨w1.heap.size+1,0,none⟩),.string ⟨⟨x⟩⟩,undef,undef,undef,undef,undef,.tuple #[.slice la ls.length lc,.int .i64 0],.agg #[v0,v1,v2,v3,v4],.string ⟨⟨s⟩⟩,.tuple #[.slice la ls.length lc,.int .i64 0],.slice la ls.length lc,.int .i64 0,.int .i64 0,.bool false,undef,.slice la ls.length lc,
   .func (.func 191) #[] #[.pointer (some ⟨w1.heap.size+1+1,0,none⟩)],.string ⟨⟨x⟩⟩,undef,undef,undef,undef,undef,undef,undef,undef,undef,undef,undef,undef,undef,undef,undef,undef,undef,undef,undef,undef,undef,undef,undef,undef,undef,undef,undef,undef,undef,undef,undef],defers:=[] }) ?assign ?body ?done ?stop
 case assign =>
  intro l x W K hK
  gi_wp2
  exact hK
 case body =>
  rintro l pre x W hsz hpre ⟨ps,qs,rest,hls,hbf,hlp,hlq,hTwo,hbel⟩;obtain ⟨rest',rfl⟩:∃r,rest=x::r:=by
   obtain ⟨t,ht⟩:=hpre;rw [hls,List.append_assoc] at ht;have:=List.append_cancel_left ht;exact ⟨t,by simpa using this.symm⟩
  simp only [q5u] at hbf;obtain ⟨⟨a1,a2⟩,ha,hbf2⟩:=Option.bind_eq_some_iff.1 hbf;simp only at hbf2;rw [hszN] at hsz;have hWw:Below w.heap.size w W:=hb0.trans (hbel.mono (by omega));have hcA:=hA x _ ha W hWw;obtain ⟨t0,t1,t2,t3,t4⟩:=hT W hbel;by_cases hz:a2=0
  · subst hz
    have hbf3:((U x).bind fun u=>q5u A U rest' (ps++[a1]) (qs++[u.1]))=some res:=hbf2;obtain ⟨⟨u1,u2⟩,hu,hbf4⟩:=Option.bind_eq_some_iff.1 hbf3;simp only at hbf4;have hcU:=hU x _ hu
    gi_wp2_with (first
     | (refine ⟨trivial,?_⟩;gi_at_call 159;refine (CallsIn.inRound l (callsIn_wide.2 hcA)).mono ?_;rintro e W3 ⟨rfl,hb3⟩;have hbel3:Below w1.heap.size w1 W3:=hbel.trans (hb3.mono (by omega));obtain ⟨t5,t6,t7,t8,t9⟩:=hT W3 hbel3)
     | (refine ⟨trivial,?_⟩;gi_at_call 160;refine (CallsIn.inRound l (callsIn_wide.2 (hcU W3 (hb0.trans (hbel3.mono (by omega)))))).mono ?_;rintro e W4 ⟨rfl,hb4⟩))
    have hb34:Below W.heap.size W W4:=hb3.trans (hb4.mono hb3.size);have hTwo4:Two (w1.heap.size+3) w1.heap.size (w1.heap.size+1) W4 ps qs:=y2r (N:=0) (Bs:=w1.heap.size+1+1) hTwo (by omega) (by omega) (by omega) (Oth.of_below hb34).toR;have hll2:pre.length≤32:=by have:=hpre.length_le;simp at this;omega
    refine wpIn_mono (c:=Code.region 11 z1v true) (v7u l _ ps qs a1 u1 (by omega) (by omega) _ w1.heap.size (w1.heap.size+3) w1.heap.size (w1.heap.size+1) (by omega) W4 (zf hg1 (hbel3.trans (hb4.mono (by have:=hbel3.size;omega)))) (fun b hb=>(hg1.b b hb).1) (by omega) (Nat.le_refl _) (by omega) hTwo4 rfl (by have:=hb34.size;omega) rfl rfl rfl rfl) ?_;rintro e a' w' ⟨rfl,hTwo',o1,o2,o3,o4,o5,o6⟩;refine ⟨⟨Nat.le_trans hb34.size o4,fun k o _ hk hc=>o6 k o ((hb34.block k (lt_of_some hk)).trans hk) hc⟩,?_,ps++[a1],qs++[u1],rest',by simp [hls],hbf4,by simp;omega,by simp;omega,hTwo',?_⟩
    · rintro b (rfl|hb)
      · rw [o5 _ (by omega) (by omega) (by omega),hb34.block _ (by omega)]
      · have:=hown b hb
        rw [o5 _ (by omega) (by omega) (by omega),hb34.block _ (by omega)]
    · exact (hbel.trans (hb34.mono (by omega))).trans ⟨o1,o2,o3,o4,fun k hk=>o5 k (by omega) (by omega) (by omega)⟩
  · have hbf3:some (a2,([]:List (List UInt8)),([]:List (List UInt8)))=some res:=by
     rw [←hbf2,show (a2 != 0)=true by simpa using hz];rfl
    cases hbf3
    gi_wp2_with (refine ⟨trivial,?_⟩;gi_at_call 159;refine (CallsIn.inRound l (callsIn_wide.2 hcA)).mono ?_;rintro e W3 ⟨rfl,hb3⟩;have hbel3:Below w1.heap.size w1 W3:=hbel.trans (hb3.mono (by omega));obtain ⟨q1,q2,q3⟩:=hR W3 hbel3;have q4:=q1.cell;have q5:=q1.frozen;have q6:=q2.cell;have q7:=q2.frozen;have q8:=q3.cell;have q9:=q3.frozen)
    refine ⟨KeepsFrom.trans ⟨hb3.size,fun k o _ h _=>(hb3.block k (lt_of_some h)).trans h⟩ ((((KeepsOthers.setCell _ _ _).trans (KeepsOthers.setCell _ _ _)).trans (KeepsOthers.setCell _ _ _)).from _),rfl,?_,?_,?_,?_⟩
    · exact zh (zh (Boxed.set _ q1) (by omega)) (by omega)
    · exact zh (Boxed.set _ (zh q2 (by omega))) (by omega)
    · exact Boxed.set _ (zh (zh q3 (by omega)) (by omega))
    · exact (((hb0.trans (hbel3.mono (by omega))).setCell (p:=⟨w.heap.size+1,0,none⟩) (show w.heap.size≤w.heap.size+1 by omega) _).setCell (p:=⟨w.heap.size+1+1,0,none⟩) (show w.heap.size≤w.heap.size+1+1 by omega) _).setCell (p:=⟨w.heap.size+1+1+1,0,none⟩) (show w.heap.size≤w.heap.size+1+1+1 by omega) _
 case done =>
  rintro D W hD ⟨ps,qs,rest,hls,hbf,hlp,hlq,hTwo,hbel⟩ hK;have hrest:rest=[]:=by
   have:=congrArg List.length hls;simp at this;exact this
  subst hrest;have hres':(0,ps,qs)=res:=Option.some.inj hbf;subst hres';have ho:((q5v (ps,[46],())).bind fun ja=>bif decide (253<ja.1.length) then some (([]:List UInt8),([]:List UInt8),(5:Int)) else (q5v (qs,[46],())).bind fun ju=>some (ja.1,ju.1,0))=some (oa,ou,oc):=hout;obtain ⟨⟨ja,ju0⟩,hja,ho2⟩:=Option.bind_eq_some_iff.1 ho;obtain ⟨va,vu,ta,tu,bx9,bx10,rw9,rw10,_,_⟩:=hTwo.ex;have hcj:=z1n rw9 hja (zf hg1 hbel);have c9:=bx9.cell;have c10:=bx10.cell;have hDW:D<W.heap.size:=lt_of_some hK;rw [hszN] at hD;have hs8:w1.heap.size≤W.heap.size:=hbel.size;clear hls hbf hout ho hres hll hlp hlq;by_cases k5w:253<ja.length
  · have ho3:some (([]:List UInt8),([]:List UInt8),(5:Int))=some (oa,ou,oc):=by rw [←ho2];simp only;rw [decide_eq_true k5w];rfl
    cases ho3
    gi_wp2_with (refine ⟨trivial,?_⟩;gi_at_call 73;refine (callsIn_wide.2 hcj).mono ?_;rintro e W5 ⟨rfl,hb5⟩;have hbel5:Below w1.heap.size w1 W5:=hbel.trans (hb5.mono (by have:=hbel.size;omega));obtain ⟨q1,q2,q3⟩:=hR W5 hbel5;have q4:=q1.cell;have q5:=q1.frozen;have q6:=q2.cell;have q7:=q2.frozen;have q8:=q3.cell;have q9:=q3.frozen)
    have hKX:((((W5.setCell ⟨w.heap.size+1,0,none⟩ (.string ⟨#[]⟩)).setCell ⟨w.heap.size+1+1,0,none⟩ (.string ⟨#[]⟩)).setCell ⟨w.heap.size+1+1+1,0,none⟩ (.int .i64 5))).heap[D]? = some (.deferred (some [])):=by
     rw [Below.heap_setCell _ _ _ _ (show D≠w.heap.size+1+1+1 by omega),Below.heap_setCell _ _ _ _ (show D≠w.heap.size+1+1 by omega),Below.heap_setCell _ _ _ _ (show D≠w.heap.size+1 by omega)];exact (hb5.block D hDW).trans hK
    refine ⟨by simp,.inl ⟨_,_,rfl,run_takeDeferred hKX,?_⟩⟩;have e1:=zh (b':=w.heap.size+1+1+1) (u:=(.int .i64 5)) (zh (b':=w.heap.size+1+1) (u:=(.string ⟨#[]⟩)) (Boxed.set (.string ⟨#[]⟩) q1) (by omega)) (by omega);have e2:=zh (b':=w.heap.size+1+1+1) (u:=(.int .i64 5)) (Boxed.set (.string ⟨#[]⟩) (zh (b':=w.heap.size+1) (u:=(.string ⟨#[]⟩)) q2 (by omega))) (by omega);have e3:=Boxed.set (.int .i64 5) (zh (b':=w.heap.size+1+1) (u:=(.string ⟨#[]⟩)) (zh (b':=w.heap.size+1) (u:=(.string ⟨#[]⟩)) q3 (by omega)) (by omega));have hc1:=cell_kept e1.cell (grownBy_putObj' _ D (.deferred none)) (fun r e=>by cases e;exact ⟨_,hKX,rfl⟩);have hc2:=cell_kept e2.cell (grownBy_putObj' _ D (.deferred none)) (fun r e=>by cases e;exact ⟨_,hKX,rfl⟩);have hc3:=cell_kept e3.cell (grownBy_putObj' _ D (.deferred none)) (fun r e=>by cases e;exact ⟨_,hKX,rfl⟩);have hbX:=(((hb0.trans (hbel5.mono (show w.heap.size≤w1.heap.size by omega))).setCell (p:=⟨w.heap.size+1,0,none⟩) (show w.heap.size≤w.heap.size+1 by omega) (.string ⟨#[]⟩)).setCell (p:=⟨w.heap.size+1+1,0,none⟩) (show w.heap.size≤w.heap.size+1+1 by omega) (.string ⟨#[]⟩)).setCell (p:=⟨w.heap.size+1+1+1,0,none⟩) (show w.heap.size≤w.heap.size+1+1+1 by omega) (.int .i64 5);refine ⟨.tuple #[(.string ⟨#[]⟩),(.string ⟨#[]⟩),(.int .i64 5)],?_,rfl,hbX.trans (belowK_b (w:=w) (Nat.le_refl _) _ D _ _ (by omega) hKX rfl rfl)⟩;simp [results,Tryz.f124,go_sem,hc1,hc2,hc3]
  · have ho3:((q5v (qs,[46],())).bind fun ju=>some (ja,ju.1,(0:Int)))=some (oa,ou,oc):=by rw [←ho2];simp only;rw [decide_eq_false k5w];rfl
    obtain ⟨⟨ju,ju1⟩,hju,ho4⟩:=Option.bind_eq_some_iff.1 ho3;cases ho4
    gi_wp2_with (first
     | (refine ⟨trivial,?_⟩;gi_at_call 73;refine (callsIn_wide.2 hcj).mono ?_;clear hcj;rintro e W5 ⟨rfl,hb5⟩;have hbel5:Below w1.heap.size w1 W5:=hbel.trans (hb5.mono (by have:=hbel.size;omega));have c11:W5.cell? ⟨w1.heap.size+1,0,none⟩=some vu:=(hb5.cell (p:=⟨w1.heap.size+1,0,none⟩) bx10.lt).trans c10;have hcj2:=z1n (q0f (N:=0) (Bs:=w1.heap.size+1+1) (by omega) rw10 (Oth.of_below hb5).toR) hju (zf hg1 hbel5))
     | (refine ⟨trivial,?_⟩;gi_at_call 73;refine (callsIn_wide.2 hcj2).mono ?_;clear hcj2;rintro e W6 ⟨rfl,hb6⟩;have hbel6:Below w1.heap.size w1 W6:=hbel5.trans (hb6.mono (by have:=hbel5.size;omega));obtain ⟨q1,q2,q3⟩:=hR W6 hbel6;have q4:=q1.cell;have q5:=q1.frozen;have q6:=q2.cell;have q7:=q2.frozen;have q8:=q3.cell;have q9:=q3.frozen))
    have hKX:((((W6.setCell ⟨w.heap.size+1,0,none⟩ (.string ⟨⟨oa⟩⟩)).setCell ⟨w.heap.size+1+1,0,none⟩ (.string ⟨⟨ju⟩⟩)).setCell ⟨w.heap.size+1+1+1,0,none⟩ (.int .i64 0))).heap[D]? = some (.deferred (some [])):=by
     rw [Below.heap_setCell _ _ _ _ (show D≠w.heap.size+1+1+1 by omega),Below.heap_setCell _ _ _ _ (show D≠w.heap.size+1+1 by omega),Below.heap_setCell _ _ _ _ (show D≠w.heap.size+1 by omega)];exact (hb6.block D (Nat.lt_of_lt_of_le hDW hb5.size)).trans ((hb5.block D hDW).trans hK)
    refine ⟨by simp,.inl ⟨_,_,rfl,run_takeDeferred hKX,?_⟩⟩;have e1:=zh (b':=w.heap.size+1+1+1) (u:=(.int .i64 0)) (zh (b':=w.heap.size+1+1) (u:=(.string ⟨⟨ju⟩⟩)) (Boxed.set (.string ⟨⟨oa⟩⟩) q1) (by omega)) (by omega);have e2:=zh (b':=w.heap.size+1+1+1) (u:=(.int .i64 0)) (Boxed.set (.string ⟨⟨ju⟩⟩) (zh (b':=w.heap.size+1) (u:=(.string ⟨⟨oa⟩⟩)) q2 (by omega))) (by omega);have e3:=Boxed.set (.int .i64 0) (zh (b':=w.heap.size+1+1) (u:=(.string ⟨⟨ju⟩⟩)) (zh (b':=w.heap.size+1) (u:=(.string ⟨⟨oa⟩⟩)) q3 (by omega)) (by omega));have hc1:=cell_kept e1.cell (grownBy_putObj' _ D (.deferred none)) (fun r e=>by cases e;exact ⟨_,hKX,rfl⟩);have hc2:=cell_kept e2.cell (grownBy_putObj' _ D (.deferred none)) (fun r e=>by cases e;exact ⟨_,hKX,rfl⟩);have hc3:=cell_kept e3.cell (grownBy_putObj' _ D (.deferred none)) (fun r e=>by cases e;exact ⟨_,hKX,rfl⟩);have hbX:=(((hb0.trans (hbel6.mono (show w.heap.size≤w1.heap.size by omega))).setCell (p:=⟨w.heap.size+1,0,none⟩) (show w.heap.size≤w.heap.size+1 by omega) (.string ⟨⟨oa⟩⟩)).setCell (p:=⟨w.heap.size+1+1,0,none⟩) (show w.heap.size≤w.heap.size+1+1 by omega) (.string ⟨⟨ju⟩⟩)).setCell (p:=⟨w.heap.size+1+1+1,0,none⟩) (show w.heap.size≤w.heap.size+1+1+1 by omega) (.int .i64 0);refine ⟨.tuple #[(.string ⟨⟨oa⟩⟩),(.string ⟨⟨ju⟩⟩),(.int .i64 0)],?_,rfl,hbX.trans (belowK_b (w:=w) (Nat.le_refl _) _ D _ _ (by omega) hKX rfl rfl)⟩;simp [results,Tryz.f124,go_sem,hc1,hc2,hc3]
 case stop =>
  rintro D c pre W hD hpre ⟨rfl,hne,h1,h2,h3,hbel⟩ hK;have ho:some (([]:List UInt8),([]:List UInt8),res.1)=some (oa,ou,oc):=by
   rw [←hout];unfold y6c;rw [show (res.1 != 0)=true by simpa using hne];rfl
  cases ho
  gi_wp2
  refine ⟨by simp,.inl ⟨_,_,rfl,run_takeDeferred hK,?_⟩⟩;have hc1:=cell_kept h1.cell (grownBy_putObj' _ D (.deferred none)) (fun r e=>by cases e;exact ⟨_,hK,rfl⟩);have hc2:=cell_kept h2.cell (grownBy_putObj' _ D (.deferred none)) (fun r e=>by cases e;exact ⟨_,hK,rfl⟩);have hc3:=cell_kept h3.cell (grownBy_putObj' _ D (.deferred none)) (fun r e=>by cases e;exact ⟨_,hK,rfl⟩);rw [hszN] at hD;refine ⟨.tuple #[.string ⟨#[]⟩,.string ⟨#[]⟩,.int .i64 res.1],?_,rfl,hbel.trans (belowK_b (w:=w) (Nat.le_refl _) W D _ _ (by omega) hK rfl rfl)⟩;simp [results,Tryz.f124,go_sem,hc1,hc2,hc3]
set_option maxHeartbeats 4000000 in
theorem v3b (v0 v1 v2 v3 v4:Value) (s:List UInt8) (c:Int) (hc:c≠0) (w:World)
 (hlab:∀W,Below w.heap.size w W→Calls Tryz.prog 157 #[.agg #[v0,v1,v2,v3,v4],.string ⟨⟨s⟩⟩] W fun e w'=>∃v,e = .returned (.tuple #[v,.int .i64 c])∧Below W.heap.size W w') :
 Calls Tryz.prog 124 #[.agg #[v0,v1,v2,v3,v4],.string ⟨⟨s⟩⟩] w fun e w'=>e = .returned (.tuple #[.string ⟨#[]⟩,.string ⟨#[]⟩,.int .i64 c])∧Below w.heap.size w w':=by
 have hW0:Below w.heap.size w ((((w.alloc (.cells #[v0,v1,v2,v3,v4] 39)).alloc (.cells #[.string ⟨#[]⟩] 9)).alloc (.cells #[.string ⟨#[]⟩] 9)).alloc (.cells #[.int .i64 0] 44)) :=
  ((((Below.refl _ w).alloc (Nat.le_refl _) _).alloc (by simp) _).alloc (by simp<;>omega) _).alloc (by simp<;>omega) _
 have hR:∀X,Below (w.heap.size+4) ((((w.alloc (.cells #[v0,v1,v2,v3,v4] 39)).alloc (.cells #[.string ⟨#[]⟩] 9)).alloc (.cells #[.string ⟨#[]⟩] 9)).alloc (.cells #[.int .i64 0] 44)) X→Boxed X (w.heap.size+1) 9 (.string ⟨#[]⟩)∧Boxed X (w.heap.size+1+1) 9 (.string ⟨#[]⟩)∧Boxed X (w.heap.size+1+1+1) 44 (.int .i64 0):=fun X hX=>by
  refine ⟨?_,?_,?_⟩
  · show X.heap[_]? = _
    rw [hX.block _ (by omega),Below.heap_alloc _ _ _ (by simp<;>omega),Below.heap_alloc _ _ _ (by simp)];have:=heap_alloc_new (w.alloc (.cells #[v0,v1,v2,v3,v4] 39)) (.cells #[.string ⟨#[]⟩] 9)
    rwa [World.size_alloc] at this
  · show X.heap[_]? = _
    rw [hX.block _ (by omega),Below.heap_alloc _ _ _ (by simp)];have:=heap_alloc_new ((w.alloc (.cells #[v0,v1,v2,v3,v4] 39)).alloc (.cells #[.string ⟨#[]⟩] 9)) (.cells #[.string ⟨#[]⟩] 9)
    rwa [World.size_alloc,World.size_alloc] at this
  · show X.heap[_]? = _
    rw [hX.block _ (by omega)];have:=heap_alloc_new (((w.alloc (.cells #[v0,v1,v2,v3,v4] 39)).alloc (.cells #[.string ⟨#[]⟩] 9)).alloc (.cells #[.string ⟨#[]⟩] 9)) (.cells #[.int .i64 0] 44)
    rwa [World.size_alloc,World.size_alloc,World.size_alloc] at this
 have hl:=hlab _ hW0;clear hlab
 go_enter Tryz.func124,Tryz.ntmps124
 go_wp2_with (go_at_call 157;refine hl.mono ?_;rintro e w1 ⟨lv,rfl,hb1⟩;obtain ⟨q1,q2,q3⟩:=hR w1 (hb1.mono (by simp));have q4:=q1.cell;have q5:=q1.frozen;have q6:=q2.cell;have q7:=q2.frozen;have q8:=q3.cell;have q9:=q3.frozen)
 have e1:=zh (b':=w.heap.size+1+1+1) (u:=(.int .i64 c)) (zh (b':=w.heap.size+1+1) (u:=(.string ⟨#[]⟩)) (Boxed.set (.string ⟨#[]⟩) q1) (by omega)) (by omega);have e2:=zh (b':=w.heap.size+1+1+1) (u:=(.int .i64 c)) (Boxed.set (.string ⟨#[]⟩) (zh (b':=w.heap.size+1) (u:=(.string ⟨#[]⟩)) q2 (by omega))) (by omega);have e3:=Boxed.set (.int .i64 c) (zh (b':=w.heap.size+1+1) (u:=(.string ⟨#[]⟩)) (zh (b':=w.heap.size+1) (u:=(.string ⟨#[]⟩)) q3 (by omega)) (by omega));have hc1:=e1.cell;have hc2:=e2.cell;have hc3:=e3.cell;have hbX:=(((hW0.trans (hb1.mono (by simp<;>omega))).setCell (p:=⟨w.heap.size+1,0,none⟩) (show w.heap.size≤w.heap.size+1 by omega) (.string ⟨#[]⟩)).setCell (p:=⟨w.heap.size+1+1,0,none⟩) (show w.heap.size≤w.heap.size+1+1 by omega) (.string ⟨#[]⟩)).setCell (p:=⟨w.heap.size+1+1+1,0,none⟩) (show w.heap.size≤w.heap.size+1+1+1 by omega) (.int .i64 c)
 (try simp only [Exit.inBlock,Exit.then])
 refine bodyPost_ret (by simp [results,Tryz.results124,go_sem,hc1,hc2,hc3];try rfl) rfl ?_;exact ⟨rfl,hbX⟩
theorem x3u {f:FuncId} {fn:Func} {F:k3w} (h:za Tryz.prog f ⟨ki,j7c,F⟩) (hf:Tryz.prog.funcs[f]? = some fn) (hb:fn.body.isSome=true) (hname:(fn.name == "runtime.NumGoroutine")=false) {t0 t1 t2} {x r:List UInt8} {c:Int} (hF:F (t0,t1,t2,x,())=some (r,c,()))
 {w:World} {m:Md} (gi:GI w m) (hlt:∀b,m.a b→b<w.heap.size) {a:Array Value} (ht:qf w m [] (y6m t0 t1 t2) a.toList) :
 Calls Tryz.prog f #[.agg a,.string ⟨⟨x⟩⟩] w fun e w'=>e = .returned (.tuple #[.string ⟨⟨r⟩⟩,.int .i64 c])∧Below w.heap.size w w':=by
 refine (za.call0 (v:=(t0,t1,t2,x,())) (y:=(r,c,())) h hf hb hname gi hlt rfl ⟨_,_,rfl,⟨a,rfl,ht⟩,_,_,rfl,rfl,rfl⟩ rfl hF ?_).mono fun e w' ⟨rv,h1,h2,ax,l',u,h3,h4⟩ => ?_
 · intro ax l' u h3
   cases ji h3;rfl
 · cases ji h3
   obtain ⟨v,r',e1,⟨b,e2,e3⟩,e4⟩:=h4;have e4':r'=[]:=e4;subst e4';cases e1;subst h1 e2;refine ⟨?_,h2⟩;obtain ⟨v1,q1,f1,rfl,v2,q2,f2,⟨rfl,_⟩,f4⟩:=e3;have f4':q2=[]:=f4;subst f4' f2;cases b;cases f1;rfl
theorem v8i {f:FuncId} {fn:Func} {F:y4h} (h:za Tryz.prog f ⟨ki,q2u,F⟩) (hf:Tryz.prog.funcs[f]? = some fn) (hb:fn.body.isSome=true) (hname:(fn.name == "runtime.NumGoroutine")=false) {t0 t1 t2} {x r:List UInt8} {c:Bool} (hF:F (t0,t1,t2,x,())=some (r,c,()))
 {w:World} {m:Md} (gi:GI w m) (hlt:∀b,m.a b→b<w.heap.size) {a:Array Value} (ht:qf w m [] (y6m t0 t1 t2) a.toList) :
 Calls Tryz.prog f #[.agg a,.string ⟨⟨x⟩⟩] w fun e w'=>e = .returned (.tuple #[.string ⟨⟨r⟩⟩,.bool c])∧Below w.heap.size w w':=by
 refine (za.call0 (v:=(t0,t1,t2,x,())) (y:=(r,c,())) h hf hb hname gi hlt rfl ⟨_,_,rfl,⟨a,rfl,ht⟩,_,_,rfl,rfl,rfl⟩ rfl hF ?_).mono fun e w' ⟨rv,h1,h2,ax,l',u,h3,h4⟩ => ?_
 · intro ax l' u h3
   cases ji h3;rfl
 · cases ji h3
   obtain ⟨v,r',e1,⟨b,e2,e3⟩,e4⟩:=h4;have e4':r'=[]:=e4;subst e4';cases e1;subst h1 e2;refine ⟨?_,h2⟩;obtain ⟨v1,q1,f1,rfl,v2,q2,f2,rfl,f4⟩:=e3;have f4':q2=[]:=f4;subst f4' f2;cases b;cases f1;rfl
def z8d:k3v:=fun (t0,t1,t2,s,_)=>(z2p (t0,t1,t2,s,())).bind fun f=>(j0u f.1 f.2.1).bind fun lc=>bif lc.2 != 0 then some ([],[],lc.2,()) else bif decide (lc.1.length≤32) then (q5u (fun x=>(y2w (t0,t1,t2,x,())).map fun r=>(r.1,r.2.1)) (fun x=>(y2x (t0,t1,t2,x,())).map fun r=>(r.1,r.2.1)) lc.1 [] []).bind fun res=>(y6c res).map fun o=>(o.1,o.2.1,o.2.2,()) else none
theorem f9u:za Tryz.prog 124 (f1a z8d):=by
 refine x7l Tryz.func124 (by kernel_rfl) (by kernel_rfl) (fun _=>rfl) (fun _=>rfl) ?_;rintro ⟨t0,t1,t2,s,u⟩ y hy w m args gi hn hlt hargs;obtain ⟨va,r1,e1,⟨a,rfl,ht⟩,vs,r2,e2,e3,e4⟩:=hargs;have e4':r2=[]:=e4;have e3':vs = .string ⟨⟨s⟩⟩:=e3;subst e4' e3' e2;have ha:args = #[.agg a,.string ⟨⟨s⟩⟩]:=by cases args;simpa using e1
 subst ha;have ht0:qf w m [] (y6m t0 t1 t2) a.toList:=ht;have hst:∀W,Below w.heap.size w W→Stp w m W m:=fun W hb=>zt hb fun b hb=>(hn b hb).elim;have htW:∀W,Below w.heap.size w W→qf W m [] (y6m t0 t1 t2) a.toList:=fun W hb=>qf.mono (hst W hb) (fun _ _ h=>h) _ _ ht0;have hltW:∀W,Below w.heap.size w W→∀b,m.a b→b<W.heap.size:=fun W hb b h=>Nat.lt_of_lt_of_le (hlt b h) hb.size;have g0:GI w m0:=⟨gi.i,fun b hb=>⟨(gi.b b hb).1,fun h=>h⟩⟩
 obtain ⟨v0,v1,v2,v3,v4,rfl⟩:∃v0 v1 v2 v3 v4,a = #[v0,v1,v2,v3,v4]:=by
  obtain ⟨w0,q0,f0,_,w1,q1,f1,_,w2,q2,f2,_,w3,q3,f3,_,w4,q4,f4,_,f5⟩:=ht0;have f5':q4=[]:=f5;subst f5' f4 f3 f2 f1;exact ⟨w0,w1,w2,w3,w4,by cases a;simpa using f0⟩
 have hy1:((z2p (t0,t1,t2,s,())).bind fun f=>(j0u f.1 f.2.1).bind fun lc =>
  bif lc.2 != 0 then some ([],[],lc.2,()) else
  bif decide (lc.1.length≤32) then
   (q5u (fun x=>(y2w (t0,t1,t2,x,())).map fun r=>(r.1,r.2.1)) (fun x=>(y2x (t0,t1,t2,x,())).map fun r=>(r.1,r.2.1)) lc.1 [] []).bind fun res=>(y6c res).map fun o=>(o.1,o.2.1,o.2.2,())
  else none)=some y:=hy
 obtain ⟨⟨f,ok,u0⟩,hf,hy2⟩:=Option.bind_eq_some_iff.1 hy1;obtain ⟨⟨ls,c⟩,hls,hy3⟩:=Option.bind_eq_some_iff.1 hy2;simp only at hls hy3;have hfold:∀W,Below w.heap.size w W→Calls Tryz.prog 151 #[.agg #[v0,v1,v2,v3,v4],.string ⟨⟨s⟩⟩] W fun e W'=>e = .returned (.tuple #[.string ⟨⟨f⟩⟩,.bool ok])∧Below W.heap.size W W' :=
  fun W hb=>v8i w9x Tryz.func151 (by kernel_rfl) (by kernel_rfl) hf (gi.mono (hst W hb)) (hltW W hb) (htW W hb)
 have hlab:∀W,Below w.heap.size w W→Calls Tryz.prog 157 #[.agg #[v0,v1,v2,v3,v4],.string ⟨⟨s⟩⟩] W fun e w'=>∃v,e = .returned (.tuple #[v,.int .i64 c])∧Below W.heap.size W w'∧w'.ownsRow W.heap.size 9 1 v ls.length (ls.map encS) :=
  fun W hb=>y0z v0 v1 v2 v3 v4 s f ok ls c W (zf g0 hb) hls fun W2 hb2=>hfold W2 (hb.trans (hb2.mono hb.size))
 suffices hmain:∃oa ou oc,y=(oa,ou,oc,())∧Calls Tryz.prog 124 #[.agg #[v0,v1,v2,v3,v4],.string ⟨⟨s⟩⟩] w fun e w'=>e = .returned (.tuple #[.string ⟨⟨oa⟩⟩,.string ⟨⟨ou⟩⟩,.int .i64 oc])∧Below w.heap.size w w' by
  obtain ⟨oa,ou,oc,rfl,hc⟩:=hmain;refine hc.mono fun e w' ⟨k1,k2⟩=>⟨_,k1,k2,.ret,[.tuple 3,.str,.str,.int .i64],(oa,ou,oc,()),kr [.tuple 3,.str,.str,.int .i64] (oa,ou,oc,()),rfl,rfl,?_⟩
  exact ⟨_,[],rfl,⟨_,rfl,_,_,rfl,rfl,_,_,rfl,rfl,_,_,rfl,⟨rfl,fun h=>(by cases h)⟩,rfl⟩,rfl⟩
 by_cases hc:c=0
 · subst hc
   have hy4:(bif decide (ls.length≤32) then
    (q5u (fun x=>(y2w (t0,t1,t2,x,())).map fun r=>(r.1,r.2.1)) (fun x=>(y2x (t0,t1,t2,x,())).map fun r=>(r.1,r.2.1)) ls [] []).bind fun res=>(y6c res).map fun o=>(o.1,o.2.1,o.2.2,())
    else none)=some y:=hy3
   rcases jd hy4 with ⟨h32,hy5⟩|⟨_,hy5⟩
   case inr=>cases hy5
   obtain ⟨res,hres,hy6⟩:=Option.bind_eq_some_iff.1 hy5;obtain ⟨⟨oa,ou,oc⟩,hout,hy7⟩:=Option.map_eq_some_iff.1 hy6;refine ⟨oa,ou,oc,hy7.symm,?_⟩;refine x6z v0 v1 v2 v3 v4 s ls _ _ res w g0 (of_decide_eq_true h32) hres oa ou oc hout (fun W hb=>hlab W hb) ?_ ?_
   · intro x r hr W hb
     obtain ⟨⟨r1,r2,r3⟩,hq,rfl⟩:=Option.map_eq_some_iff.1 hr;exact x3u b0e Tryz.func159 (by kernel_rfl) (by kernel_rfl) hq (gi.mono (hst W hb)) (hltW W hb) (htW W hb)
   · intro x r hr W hb
     obtain ⟨⟨r1,r2,r3⟩,hq,rfl⟩:=Option.map_eq_some_iff.1 hr;exact x3u b0f Tryz.func160 (by kernel_rfl) (by kernel_rfl) hq (gi.mono (hst W hb)) (hltW W hb) (htW W hb)
 · rcases jd hy3 with ⟨_,hy4⟩|⟨h0,_⟩
   case inr=>exact (hc (by simpa using h0)).elim
   cases hy4;exact ⟨[],[],c,rfl,v3b v0 v1 v2 v3 v4 s c hc w fun W hb=>(hlab W hb).mono fun e w' ⟨v,k1,k2,_⟩=>⟨v,k1,k2⟩⟩
end Go.Proofs.YtiacnhhmkdkpmaaGreatDoorC.W
namespace Go.Proofs.YtiacnhhmkdkpmaaGreatDoorC.W
open Go Go.Ae
abbrev q6g:=qa×Int×Unit→Option (Int×Unit)
def v9a (f:q6g):FEnt:=⟨j9x,jb,f⟩
def b4q (f162:z9f):=lk [(162,g1a f162)]
def f4s (f162:z9f):q6g:=fun (x0,x1,_)=>(f162 (x0,x1,())).bind fun v=>some (v.1,())
def q2i:q6g:=f4s j1n
theorem v6x:FO 127 (v9a q2i):=vf j9x jb b4q f4s j1n (kc w9z kn) Tryz.func127
abbrev j2d:=Int×Bool×Unit→Option (Int×Bool×Unit)
def v0v (f:j2d):LEnt:=⟨x0u,x1p,f⟩
abbrev j7y:=Int×Bool×Unit→Option (Int×Bool×Unit)
def v0w (f:j7y):LEnt:=⟨x0u,x1p,f⟩
abbrev T90:=Int×Unit→Option (Bool×Unit)
def E90 (f:T90):FEnt:=⟨j3p,qw,f⟩
def K90 (f127:q6g):=lk [(127,v9a f127)]
theorem v5n:zb Tryz.prog (K90 q2i):=(kc v6x kn)
def v1s (f127:q6g):j2d:=fun (x0,x1,_)=>bif x1 then some (x0,true,()) else bif decide (x0≥48) then bif decide (x0≤57) then some (x0,true,()) else some (x0,decide (x0≥128),()) else some (x0,decide (x0≥128),())
def y3l:j2d:=v1s q2i
theorem g9c:jy 0 (qe (code Tryz.f90) [1,0,0,0,1,1,1]) (v0v y3l):=zc1 x0u x1p K90 v1s q2i v5n
def g5h (f90_c0:j2d):Ann:=(.cond .nil (.cut .nil (v0v f90_c0)))
def v1t (f127:q6g) (f90_c0:j2d):j7y:=fun (x0,x1,_)=>bif x1 then some (x0,true,()) else bif decide (x0≥65) then (f90_c0 (x0,decide (x0≤90),())).bind fun v=>some (v.1,v.2.1,()) else (f90_c0 (x0,false,())).bind fun v=>some (v.1,v.2.1,())
theorem g8j (f127:q6g) (f90_c0:j2d):AqC (K90 f127) 0 (qe (code Tryz.f90) [1,0,0,0,1]) (g5h f90_c0) x0u x1p (v1t f127 f90_c0):=fun v=>by kernel_rfl
def y3m:j7y:=v1t q2i y3l
theorem g9d:jy 0 (qe (code Tryz.f90) [1,0,0,0,1]) (v0w y3m) :=
 frd v5n (And.intro g9c trivial) (g8j q2i y3l)
def N90 (f90_c1:j7y):Ann:=(.seq .nil (.seq (.blk (.seq (.cut .nil (v0w f90_c1)) .nil)) .nil))
def F90 (f127:q6g) (f90_c1:j7y):T90:=fun (x0,_)=>bif decide (x0≥97) then (f90_c1 (x0,decide (x0≤122),())).bind fun v=>bif v.2.1 then some (true,()) else (f127 ([33,35,36,37,38,39,42,43,45,47,61,63,94,95,96,123,124,125,126],v.1,())).bind fun v=>some (decide (v.1≥0),()) else (f90_c1 (x0,false,())).bind fun v=>bif v.2.1 then some (true,()) else (f127 ([33,35,36,37,38,39,42,43,45,47,61,63,94,95,96,123,124,125,126],v.1,())).bind fun v=>some (decide (v.1≥0),())
def C90:T90:=F90 q2i y3m
theorem g9x:FO 90 (E90 C90):=ve j3p qw K90 N90 F90 q2i y3m v5n Tryz.func90 (And.intro g9d trivial)
abbrev q4c:=Int×qa×Int×Int×Int×Unit→Option (Int×qa×Int×Int×Int×Unit)
def y7a (f:q4c):LEnt:=⟨x0v,w6s,f⟩
abbrev q8r:=Int×qa×Int×Int×Int×Unit→Option (Int×qa×Int×Int×Int×Unit)
def y7b (f:q8r):LEnt:=⟨x0v,w6t,f⟩
abbrev z9a:=qa×Int×Int×Int×Unit→Option (qa×qa×Int×Int×Int×Unit)
def f1e (f:z9a):FEnt:=⟨q2d,q5q,f⟩
def k1r (f90:T90):=lk [(90,E90 f90)]
theorem y5e:zb Tryz.prog (k1r C90):=(kc g9x kn)
def q8i (f90:T90):q4c:=fun (x0,x1,x2,x3,x4,_)=>some (x0,x1,IntKind.i64.wrap (x2+1),x3,x4,())
def q1b:q4c:=q8i C90
theorem k6x:jy 1 (qe (code Tryz.f136) [1,1,0,0,0,1]) (y7a q1b):=zc1 x0v w6s k1r q8i C90 y5e
def k3a (f136_c0:q4c):Ann:=(.cut .nil (y7a f136_c0))
def q3v (f90:T90) (f136_c0:q4c):yh (Int×qa×Int×Int×Int×Unit) (Int×qa×Int×Int×Int×Unit):=fun (x0,x1,x2,x3,x4,_)=>bif decide (x2<(↑x1.length:Int)) then bif decide (0≤x2)&&decide (x2<(↑x1.length:Int)) then (f90 ((↑(x1.getD x2.toNat 0).toNat:Int),())).bind fun v=>bif v.1 then (f136_c0 (x0,x1,x2,x3,x4,())).bind fun v=>some (Sum.inl (v.1,v.2.1,v.2.2.1,v.2.2.2.1,v.2.2.2.2.1,())) else some (Sum.inr (x0,x1,x2,x3,x4,())) else none else some (Sum.inr (x0,x1,x2,x3,x4,()))
theorem k4y (f90:T90) (f136_c0:q4c):AqL (k1r f90) 1 (qe (code Tryz.f136) [1,1,0,0,0]) (k3a f136_c0) x0v w6t (q3v f90 f136_c0):=fun v=>by kernel_rfl
def q7g:q8r:=qc (q3v C90 q1b) jc
theorem k6y:jf 1 (qe (code Tryz.f136) [1,1,0,0,0]) (y7b q7g) :=
 frm y5e (And.intro k6x trivial) (k4y C90 q1b)
def b7i (f136_l0:q8r):Ann:=(.seq .nil (.seq .nil (.seq (.blk (.loop (y7b f136_l0))) .nil)))
def v9n (f90:T90) (f136_l0:q8r):z9a:=fun (x0,x1,x2,x3,_)=>(f136_l0 (x1,x0,x1,x2,x3,())).bind fun v=>bif decide (0≤v.2.2.1)&&decide (v.2.2.1≤(↑(List.length v.2.1):Int)) then bif decide (0≤v.1)&&decide (v.1≤v.2.2.1) then some (List.drop (Int.toNat v.1) (List.take (Int.toNat v.2.2.1) v.2.1),v.2.1,v.2.2.1,v.2.2.2.1,v.2.2.2.2.1,()) else none else none
theorem d3b (f90:T90) (f136_l0:q8r):zw (k1r f90) 1 Tryz.f136 (b7i f136_l0) q2d q5q (v9n f90 f136_l0):=fun v=>by kernel_rfl
def z8e:z9a:=v9n C90 q7g
theorem f9x:FO 136 (f1e z8e) :=
 qo y5e Tryz.func136 (And.intro k6y trivial) (d3b C90 q7g)
abbrev q2v:=Int×Unit→Option (Bool×Unit)
def v9e (f:q2v):FEnt:=⟨j3p,qw,f⟩
def b5d (f127:q6g):=lk [(127,v9a f127)]
def f4v (f127:q6g):q2v:=fun (x0,_)=>(f127 ([32,9],x0,())).bind fun v=>some (decide (v.1≥0),())
def xi:q2v:=f4v q2i
theorem v7b:FO 174 (v9e xi):=vf j3p qw b5d f4v q2i (kc v6x kn) Tryz.func174
abbrev q0j:=Int×Unit→Option (Bool×Unit)
def v9d (f:q0j):FEnt:=⟨j3p,qw,f⟩
def b5c (f174:q2v):=lk [(174,v9e f174)]
def f4u (f174:q2v):q0j:=fun (x0,_)=>(f174 (x0,())).bind fun v=>bif v.1 then some (true,()) else bif decide (x0>32) then some (bif x0==127 then false else true,()) else some (false,())
def yi:q0j:=f4u xi
theorem v7a:FO 173 (v9d yi):=vf j3p qw b5c f4u xi (kc v7b kn) Tryz.func173
abbrev xy:=Int×Int×qa×Int×Int×Int×Unit→Option (qa×Int×Int×Int×Unit)
def x9s (f:xy):FEnt:=⟨w3f,w6u,f⟩
def f4t:xy:=fun (x0,x1,x2,x3,x4,x5,_)=>some (x2,x3,x0,x1,())
theorem d3g:zw yp 1 Tryz.f141 .nil w3f w6u (f4t):=fun v=>by kernel_rfl
def zx:xy:=f4t
theorem x3k:FO 141 (x9s zx) :=
 q0 kn Tryz.func141 (d3g)
abbrev q4d:=Int×qa×Int×Int×Int×qa×Unit→Option ((qa×qa×Int×Int×Int×Unit)⊕(Int×qa×Int×Int×Int×qa×Unit))
def y7c (f:q4d):LEnt:=⟨x0w,w6v,f⟩
abbrev q8s:=Int×qa×Int×Int×Int×qa×Unit→Option ((qa×Int×Int×Int×Unit)⊕(qa×qa×Int×Int×Int×Unit))
def y7d (f:q8s):LEnt:=⟨x0w,w6w,f⟩
abbrev z9b:=qa×Int×Int×Int×Unit→Option (qa×qa×Int×Int×Int×Unit)
def f1f (f:z9b):FEnt:=⟨q2d,q5q,f⟩
def k1s (f141:xy) (f173:q0j):=lk [(141,x9s f141),(173,v9d f173)]
theorem y5f:zb Tryz.prog (k1s zx yi):=(kc x3k (kc v7a kn))
def z3t (f141:xy) (f173:q0j):q4d:=fun (x0,x1,x2,x3,x4,x5,_)=>bif decide (0≤x0)&&decide (x0<(↑x1.length:Int)) then (f173 ((↑(x1.getD x0.toNat 0).toNat:Int),())).bind fun v=>bif !v.1 then (f141 (x0,4,x1,x2,x3,x4,())).bind fun v=>some (Sum.inl ([],v.1,v.2.1,v.2.2.1,v.2.2.2.1,())) else bif decide (0≤x0)&&decide (x0<(↑x1.length:Int)) then bif decide (x5.length+[UInt8.ofNat (↑(x1.getD x0.toNat 0).toNat:Int).toNat].length≤140737488355328/1) then some (Sum.inr (x0,x1,x2,x3,x4,x5++[UInt8.ofNat (↑(x1.getD x0.toNat 0).toNat:Int).toNat],())) else none else none else none
def q3m:q4d:=z3t zx yi
theorem k6z:jy 1 (qe (code Tryz.f137) [1,1,0,1,0,0,1,0,0,1,1,1]) (y7c q3m):=zc2 x0w w6v k1s z3t zx yi y5f
def k3b (f137_c0:q4d):Ann:=(.seq .nil (.seq (.blk (.seq .nil (.seq .nil (.cut .nil (y7c f137_c0))))) .nil))
def xt (f141:xy) (f173:q0j) (f137_c0:q4d):yh (Int×qa×Int×Int×Int×qa×Unit) ((qa×Int×Int×Int×Unit)⊕(qa×qa×Int×Int×Int×Unit)):=fun (x0,x1,x2,x3,x4,x5,_)=>bif decide (x0<(↑x1.length:Int)) then bif decide (0≤x0)&&decide (x0<(↑x1.length:Int)) then bif (↑(x1.getD x0.toNat 0).toNat:Int)==34 then some (Sum.inr (Sum.inr (x5,x1,IntKind.i64.wrap (x0+1),x3,x4,()))) else bif (↑(x1.getD x0.toNat 0).toNat:Int)==92 then bif IntKind.i64.wrap (x0+1)==(↑x1.length:Int) then some (Sum.inr (Sum.inl (x1,x2,x3,x4,()))) else (f137_c0 (IntKind.i64.wrap (x0+1),x1,x2,x3,x4,x5,())).bind fun v=>Sum.elim (fun v=>some (Sum.inr (Sum.inr (v.1,v.2.1,v.2.2.1,v.2.2.2.1,v.2.2.2.2.1,())))) (fun v=>some (Sum.inl (IntKind.i64.wrap (v.1+1),v.2.1,v.2.2.1,v.2.2.2.1,v.2.2.2.2.1,v.2.2.2.2.2.1,()))) v else (f137_c0 (x0,x1,x2,x3,x4,x5,())).bind fun v=>Sum.elim (fun v=>some (Sum.inr (Sum.inr (v.1,v.2.1,v.2.2.1,v.2.2.2.1,v.2.2.2.2.1,())))) (fun v=>some (Sum.inl (IntKind.i64.wrap (v.1+1),v.2.1,v.2.2.1,v.2.2.2.1,v.2.2.2.2.1,v.2.2.2.2.2.1,()))) v else none else some (Sum.inr (Sum.inl (x1,x2,x3,x4,())))
theorem k4z (f141:xy) (f173:q0j) (f137_c0:q4d):AqL (k1s f141 f173) 1 (qe (code Tryz.f137) [1,1,0,1,0,0]) (k3b f137_c0) x0w w6w (xt f141 f173 f137_c0):=fun v=>by kernel_rfl
def q7h:q8s:=qc (xt zx yi q3m) jc
theorem k7a:jf 1 (qe (code Tryz.f137) [1,1,0,1,0,0]) (y7d q7h) :=
 frm y5f (And.intro k6z trivial) (k4z zx yi q3m)
def b7j (f137_l0:q8s):Ann:=(.seq .nil (.seq .nil (.seq (.seq .nil (.blk (.loop (y7d f137_l0)))) .nil)))
def v9o (f141:xy) (f173:q0j) (f137_l0:q8s):z9b:=fun (x0,x1,x2,x3,_)=>(f137_l0 (IntKind.i64.wrap (x1+1),x0,x1,x2,x3,[],())).bind fun v=>Sum.elim (fun v=>(f141 (v.2.1,4,v.1,v.2.1,v.2.2.1,v.2.2.2.1,())).bind fun v=>some ([],v.1,v.2.1,v.2.2.1,v.2.2.2.1,())) (fun v=>some (v.1,v.2.1,v.2.2.1,v.2.2.2.1,v.2.2.2.2.1,())) v
theorem d3c (f141:xy) (f173:q0j) (f137_l0:q8s):zw (k1s f141 f173) 1 Tryz.f137 (b7j f137_l0) q2d q5q (v9o f141 f173 f137_l0):=fun v=>by kernel_rfl
def z8f:z9b:=v9o zx yi q7h
theorem f9y:FO 137 (f1f z8f) :=
 qo y5f Tryz.func137 (And.intro k7a trivial) (d3c zx yi q7h)
abbrev q4e:=Int×qa×qa×Int×Int×Int×Unit→Option (qa×qa×Int×Int×Int×Unit)
def y7e (f:q4e):LEnt:=⟨w3g,w6x,f⟩
abbrev q8t:=Int×qa×Int×Int×Int×Unit→Option ((qa×Int×Int×Int×Unit)⊕(qa×qa×Int×Int×Int×Unit))
def y7f (f:q8t):LEnt:=⟨w3h,w6y,f⟩
abbrev z9c:=qa×Int×Int×Int×Unit→Option (qa×qa×Int×Int×Int×Unit)
def f1g (f:z9c):FEnt:=⟨q2d,q5q,f⟩
def k1t (f141:xy) (f173:q0j) (f174:q2v):=lk [(141,x9s f141),(173,v9d f173),(174,v9e f174)]
theorem y5g:zb Tryz.prog (k1t zx yi xi):=(kc x3k (kc v7a (kc v7b kn)))
def vt (f141:xy) (f173:q0j) (f174:q2v):q4e:=fun (x0,x1,x2,x3,x4,x5,_)=>some (x1,x2,IntKind.i64.wrap (x0+1),x4,x5,())
def xd:q4e:=vt zx yi xi
theorem k7b:jy 1 (qe (code Tryz.f138) [1,0,1,0,0,1,0,0,1,0,1,0,1]) (y7e xd):=zc3 w3g w6x k1t vt zx yi xi y5g
def k3c (f138_c0:q4e):Ann:=(.seq .nil (.seq (.blk (.seq .nil (.blk (.seq .nil (.cond (.cut .nil (y7e f138_c0)) .nil))))) .nil))
def xu (f141:xy) (f173:q0j) (f174:q2v) (f138_c0:q4e):yh (Int×qa×Int×Int×Int×Unit) ((qa×Int×Int×Int×Unit)⊕(qa×qa×Int×Int×Int×Unit)):=fun (x0,x1,x2,x3,x4,_)=>bif decide (x0<(↑x1.length:Int)) then bif decide (0≤x0)&&decide (x0<(↑x1.length:Int)) then bif (↑(x1.getD x0.toNat 0).toNat:Int)==93 then bif decide (0≤x0)&&decide (x0≤(↑x1.length:Int)) then bif decide (0≤IntKind.i64.wrap (x2+1))&&decide (IntKind.i64.wrap (x2+1)≤x0) then (f138_c0 (x0,List.drop (IntKind.i64.wrap (x2+1)).toNat (List.take x0.toNat x1),x1,x2,x3,x4,())).bind fun v=>some (Sum.inr (Sum.inr (v.1,v.2.1,v.2.2.1,v.2.2.2.1,v.2.2.2.2.1,()))) else none else none else bif (↑(x1.getD x0.toNat 0).toNat:Int)==91 then (f141 (x0,4,x1,x2,x3,x4,())).bind fun v=>some (Sum.inr (Sum.inr ([],v.1,v.2.1,v.2.2.1,v.2.2.2.1,()))) else bif (↑(x1.getD x0.toNat 0).toNat:Int)==92 then (f141 (x0,4,x1,x2,x3,x4,())).bind fun v=>some (Sum.inr (Sum.inr ([],v.1,v.2.1,v.2.2.1,v.2.2.2.1,()))) else (f174 ((↑(x1.getD x0.toNat 0).toNat:Int),())).bind fun v=>bif v.1 then (f141 (x0,4,x1,x2,x3,x4,())).bind fun v=>some (Sum.inr (Sum.inr ([],v.1,v.2.1,v.2.2.1,v.2.2.2.1,()))) else (f173 ((↑(x1.getD x0.toNat 0).toNat:Int),())).bind fun v=>bif !v.1 then (f141 (x0,4,x1,x2,x3,x4,())).bind fun v=>some (Sum.inr (Sum.inr ([],v.1,v.2.1,v.2.2.1,v.2.2.2.1,()))) else some (Sum.inl (IntKind.i64.wrap (x0+1),x1,x2,x3,x4,())) else none else some (Sum.inr (Sum.inl (x1,x2,x3,x4,())))
theorem k5a (f141:xy) (f173:q0j) (f174:q2v) (f138_c0:q4e):AqL (k1t f141 f173 f174) 1 (qe (code Tryz.f138) [1,0,1,0,0]) (k3c f138_c0) w3h w6y (xu f141 f173 f174 f138_c0):=fun v=>by kernel_rfl
def q7i:q8t:=qc (xu zx yi xi xd) jc
theorem k7c:jf 1 (qe (code Tryz.f138) [1,0,1,0,0]) (y7f q7i) :=
 frm y5g (And.intro k7b trivial) (k5a zx yi xi xd)
def b7k (f138_l0:q8t):Ann:=(.seq .nil (.seq (.seq .nil (.blk (.loop (y7f f138_l0)))) .nil))
def x4l (f141:xy) (f173:q0j) (f174:q2v) (f138_l0:q8t):z9c:=fun (x0,x1,x2,x3,_)=>(f138_l0 (IntKind.i64.wrap (x1+1),x0,x1,x2,x3,())).bind fun v=>Sum.elim (fun v=>(f141 (v.2.1,4,v.1,v.2.1,v.2.2.1,v.2.2.2.1,())).bind fun v=>some ([],v.1,v.2.1,v.2.2.1,v.2.2.2.1,())) (fun v=>some (v.1,v.2.1,v.2.2.1,v.2.2.2.1,v.2.2.2.2.1,())) v
theorem d3d (f141:xy) (f173:q0j) (f174:q2v) (f138_l0:q8t):zw (k1t f141 f173 f174) 1 Tryz.f138 (b7k f138_l0) q2d q5q (x4l f141 f173 f174 f138_l0):=fun v=>by kernel_rfl
def z8g:z9c:=x4l zx yi xi q7i
theorem f9z:FO 138 (f1g z8g) :=
 qo y5g Tryz.func138 (And.intro k7c trivial) (d3d zx yi xi q7i)
abbrev q8v:=Int×Int×Int×Int×qa×Int×Int×Int×Unit→Option ((Int×Int×qa×Int×Int×Int×Unit)⊕(Int×Int×qa×Int×Int×Int×Unit)⊕(qa×qa×Int×Int×Int×Unit))
def y7h (f:q8v):LEnt:=⟨w3i,w6z,f⟩
abbrev q8u:=Int×Int×qa×Int×Int×Int×Unit→Option (qa×qa×Int×Int×Int×Unit)
def y7g (f:q8u):LEnt:=⟨z0y,x1q,f⟩
abbrev z9d:=qa×Int×Int×Int×Unit→Option (qa×qa×Int×Int×Int×Unit)
def f1h (f:z9d):FEnt:=⟨q2d,q5q,f⟩
def k1u (f141:xy) (f173:q0j):=lk [(141,x9s f141),(173,v9d f173)]
theorem y5h:zb Tryz.prog (k1u zx yi):=(kc x3k (kc v7a kn))
def zo (f141:xy) (f173:q0j):yh (Int×Int×Int×Int×qa×Int×Int×Int×Unit) ((Int×Int×qa×Int×Int×Int×Unit)⊕(Int×Int×qa×Int×Int×Int×Unit)⊕(qa×qa×Int×Int×Int×Unit)):=fun (x0,x1,x2,x3,x4,x5,x6,x7,_)=>bif decide (x3<(↑x4.length:Int)) then bif decide (0≤x3)&&decide (x3<(↑x4.length:Int)) then bif (↑(x4.getD x3.toNat 0).toNat:Int)==40 then bif decide (IntKind.i64.wrap (x1+1)>32) then some (Sum.inr (Sum.inr (Sum.inl (6,x3,x4,x5,x6,x7,())))) else some (Sum.inl (x0,IntKind.i64.wrap (x1+1),x2,IntKind.i64.wrap (x3+1),x4,x5,x6,x7,())) else bif (↑(x4.getD x3.toNat 0).toNat:Int)==41 then bif IntKind.i64.wrap (x1-1)==0 then bif decide (0≤x3)&&decide (x3≤(↑x4.length:Int)) then bif decide (0≤IntKind.i64.wrap (x0+1))&&decide (IntKind.i64.wrap (x0+1)≤x3) then some (Sum.inr (Sum.inr (Sum.inr (List.drop (IntKind.i64.wrap (x0+1)).toNat (List.take x3.toNat x4),x4,IntKind.i64.wrap (x3+1),x6,x7,())))) else none else none else some (Sum.inl (x0,IntKind.i64.wrap (x1-1),x2,IntKind.i64.wrap (x3+1),x4,x5,x6,x7,())) else bif (↑(x4.getD x3.toNat 0).toNat:Int)==92 then bif IntKind.i64.wrap (x3+1)==(↑x4.length:Int) then some (Sum.inl (x0,x1,x2,IntKind.i64.wrap (IntKind.i64.wrap (x3+1)+1),x4,x5,x6,x7,())) else bif decide (0≤IntKind.i64.wrap (x3+1))&&decide (IntKind.i64.wrap (x3+1)<(↑x4.length:Int)) then (f173 ((↑(x4.getD (IntKind.i64.wrap (x3+1)).toNat 0).toNat:Int),())).bind fun v=>bif !v.1 then some (Sum.inr (Sum.inr (Sum.inl (x2,IntKind.i64.wrap (x3+1),x4,x5,x6,x7,())))) else some (Sum.inl (x0,x1,x2,IntKind.i64.wrap (IntKind.i64.wrap (x3+1)+1),x4,x5,x6,x7,())) else none else (f173 ((↑(x4.getD x3.toNat 0).toNat:Int),())).bind fun v=>bif !v.1 then some (Sum.inr (Sum.inr (Sum.inl (x2,x3,x4,x5,x6,x7,())))) else some (Sum.inl (x0,x1,x2,IntKind.i64.wrap (x3+1),x4,x5,x6,x7,())) else none else some (Sum.inr (Sum.inl (x0,x2,x4,x5,x6,x7,())))
def q7j:q8v:=qc (zo zx yi) jc
theorem k7e:jf 1 (qe (code Tryz.f139) [1,0,1,1,0,1,0,0]) (y7h q7j):=zl2 w3i w6z k1u zo zx yi y5h
def z3u (f141:xy) (f173:q0j):yh (Int×Int×qa×Int×Int×Int×Unit) (qa×qa×Int×Int×Int×Unit):=fun (x0,x1,x2,x3,x4,x5,_)=>(f141 (x1,x0,x2,x3,x4,x5,())).bind fun v=>some (Sum.inr ([],v.1,v.2.1,v.2.2.1,v.2.2.2.1,()))
theorem k5b (f141:xy) (f173:q0j) (v:HS z0y):aev Γ (k1u f141 f173) 1 ((findLabel (qe (code Tryz.f139) [1,0]) 0).getD .skip) .nil (x8d z0y v) (vy 1 0 [] z0y x1q)=z3u f141 f173 v:=by kernel_rfl
def q3n:q8u:=qc (z3u zx yi) jc
theorem k7d:jo Tryz.prog 1 (jn Tryz.prog (qe (code Tryz.f139) [1,0]) 0) (y7g q3n) :=
 zz (ins:=z0y) (os:=x1q) (C:=q3n) (q1n (ins:=z0y) (os:=x1q) (n := .nil) (ls:=[]) (F:=z3u zx yi) (rest:=((findLabel (qe (code Tryz.f139) [1,0]) 0).getD .skip)) hm hΓ y5h (fun _=>jc) (by kernel_rfl) (jh _) q3c (k5b zx yi)) rfl
def b7l (f139_g0:q8u) (f139_l0:q8v):Ann:=(.seq .nil (.scope (.seq .nil (.seq .nil (.seq (.seq .nil (.blk (.loop (y7h f139_l0)))) .nil))) [(0,(y7g f139_g0))]))
def x4m (f141:xy) (f173:q0j) (f139_g0:q8u) (f139_l0:q8v):z9d:=fun (x0,x1,x2,x3,_)=>(f139_l0 (x1,0,4,x1,x0,x1,x2,x3,())).bind fun v=>Sum.elim (fun v=>(f141 (v.1,v.2.1,v.2.2.1,v.2.2.2.1,v.2.2.2.2.1,v.2.2.2.2.2.1,())).bind fun v=>some ([],v.1,v.2.1,v.2.2.1,v.2.2.2.1,())) (fun v=>Sum.elim (fun v=>(f139_g0 (v.1,v.2.1,v.2.2.1,v.2.2.2.1,v.2.2.2.2.1,v.2.2.2.2.2.1,())).bind fun v=>some (v.1,v.2.1,v.2.2.1,v.2.2.2.1,v.2.2.2.2.1,())) (fun v=>some (v.1,v.2.1,v.2.2.1,v.2.2.2.1,v.2.2.2.2.1,())) v) v
theorem d3e (f141:xy) (f173:q0j) (f139_g0:q8u) (f139_l0:q8v):zw (k1u f141 f173) 1 Tryz.f139 (b7l f139_g0 f139_l0) q2d q5q (x4m f141 f173 f139_g0 f139_l0):=fun v=>by kernel_rfl
def z8h:z9d:=x4m zx yi q3n q7j
theorem b0a:FO 139 (f1h z8h) :=
 qo y5h Tryz.func139 (And.intro k7e (And.intro k7d trivial)) (d3e zx yi q3n q7j)
abbrev q4f:=Int×Bool×qa×Int×Int×Int×Unit→Option ((Int×qa×Int×Int×Int×Unit)⊕(qa×qa×Int×Int×Int×Unit))
def y7i (f:q4f):LEnt:=⟨w3j,w7a,f⟩
abbrev q8w:=Int×qa×Int×Int×Int×Unit→Option ((Int×qa×Int×Int×Int×Unit)⊕(qa×qa×Int×Int×Int×Unit))
def y7j (f:q8w):LEnt:=⟨w3k,w7b,f⟩
abbrev z9e:=qa×Int×Int×Int×Unit→Option (qa×qa×Int×Int×Int×Unit)
def f1i (f:z9e):FEnt:=⟨q2d,q5q,f⟩
def k1v (f174:q2v):=lk [(174,v9e f174)]
theorem y5i:zb Tryz.prog (k1v xi):=(kc v7b kn)
def j4v (f174:q2v):q4f:=fun (x0,x1,x2,x3,x4,x5,_)=>bif x1 then some (Sum.inl (x0,x2,IntKind.i64.wrap (x3+3),x4,x5,())) else bif decide (0≤x3)&&decide (x3≤(↑x2.length:Int)) then bif decide (0≤x0)&&decide (x0≤x3) then some (Sum.inr (List.drop x0.toNat (List.take x3.toNat x2),x2,x3,x4,x5,())) else none else none
def xr:q4f:=j4v xi
theorem k7f:jy 1 (qe (code Tryz.f140) [1,1,0,0,0,1,0,1,0,1,1,1]) (y7i xr):=zc1 w3j w7a k1v j4v xi y5i
def k3d (f140_c0:q4f):Ann:=(.seq .nil (.blk (.seq .nil (.blk (.seq .nil (.cond .nil (.cut .nil (y7i f140_c0))))))))
def yj (f174:q2v) (f140_c0:q4f):yh (Int×qa×Int×Int×Int×Unit) ((Int×qa×Int×Int×Int×Unit)⊕(qa×qa×Int×Int×Int×Unit)):=fun (x0,x1,x2,x3,x4,_)=>bif decide (x2<(↑x1.length:Int)) then bif decide (0≤x2)&&decide (x2≤(↑x1.length:Int)) then bif decide (0<(↑(List.drop x2.toNat x1).length:Int)) then (f174 ((↑((List.drop x2.toNat x1).getD 0 0).toNat:Int),())).bind fun v=>bif v.1 then some (Sum.inl (x0,x1,IntKind.i64.wrap (x2+1),x3,x4,())) else bif decide ((↑(List.drop x2.toNat x1).length:Int)>2) then bif decide (2≤(↑(List.drop x2.toNat x1).length:Int)) then bif List.take 2 (List.drop x2.toNat x1)==[13,10] then bif decide (2<(↑(List.drop x2.toNat x1).length:Int)) then (f174 ((↑((List.drop x2.toNat x1).getD 2 0).toNat:Int),())).bind fun v=>(f140_c0 (x0,v.1,x1,x2,x3,x4,())).bind fun v=>Sum.elim (fun v=>some (Sum.inl (v.1,v.2.1,v.2.2.1,v.2.2.2.1,v.2.2.2.2.1,()))) (fun v=>some (Sum.inr (Sum.inr (v.1,v.2.1,v.2.2.1,v.2.2.2.1,v.2.2.2.2.1,())))) v else none else (f140_c0 (x0,false,x1,x2,x3,x4,())).bind fun v=>Sum.elim (fun v=>some (Sum.inl (v.1,v.2.1,v.2.2.1,v.2.2.2.1,v.2.2.2.2.1,()))) (fun v=>some (Sum.inr (Sum.inr (v.1,v.2.1,v.2.2.1,v.2.2.2.1,v.2.2.2.2.1,())))) v else none else (f140_c0 (x0,false,x1,x2,x3,x4,())).bind fun v=>Sum.elim (fun v=>some (Sum.inl (v.1,v.2.1,v.2.2.1,v.2.2.2.1,v.2.2.2.2.1,()))) (fun v=>some (Sum.inr (Sum.inr (v.1,v.2.1,v.2.2.1,v.2.2.2.1,v.2.2.2.2.1,())))) v else none else none else some (Sum.inr (Sum.inl (x0,x1,x2,x3,x4,())))
theorem k5c (f174:q2v) (f140_c0:q4f):AqL (k1v f174) 1 (qe (code Tryz.f140) [1,1,0,0,0]) (k3d f140_c0) w3k w7b (yj f174 f140_c0):=fun v=>by kernel_rfl
def q3o:q8w:=qc (yj xi xr) jc
theorem k7g:jf 1 (qe (code Tryz.f140) [1,1,0,0,0]) (y7j q3o) :=
 frm y5i (And.intro k7f trivial) (k5c xi xr)
def b7m (f140_l0:q8w):Ann:=(.seq .nil (.seq .nil (.seq (.blk (.loop (y7j f140_l0))) .nil)))
def v1d (f174:q2v) (f140_l0:q8w):z9e:=fun (x0,x1,x2,x3,_)=>(f140_l0 (x1,x0,x1,x2,x3,())).bind fun v=>Sum.elim (fun v=>bif decide (0≤v.2.2.1)&&decide (v.2.2.1≤(↑(List.length v.2.1):Int)) then bif decide (0≤v.1)&&decide (v.1≤v.2.2.1) then some (List.drop (Int.toNat v.1) (List.take (Int.toNat v.2.2.1) v.2.1),v.2.1,v.2.2.1,v.2.2.2.1,v.2.2.2.2.1,()) else none else none) (fun v=>some (v.1,v.2.1,v.2.2.1,v.2.2.2.1,v.2.2.2.2.1,())) v
theorem d3f (f174:q2v) (f140_l0:q8w):zw (k1v f174) 1 Tryz.f140 (b7m f140_l0) q2d q5q (v1d f174 f140_l0):=fun v=>by kernel_rfl
def z8i:z9e:=v1d xi q3o
theorem b0b:FO 140 (f1i z8i) :=
 qo y5i Tryz.func140 (And.intro k7g trivial) (d3f xi q3o)
abbrev q3y:=Int×Int×qa×Int×Int×Int×Int×qa×Int×Unit→Option (qa×Int×Int×Int×Int×qa×Int×Unit)
def y6r (f:q3y):LEnt:=⟨w3l,w7d,f⟩
abbrev x5a:=qa×Int×Int×Int×Unit→Option (Int×qa×Int×qa×Int×Int×Int×Unit)
def f0s (f:x5a):FEnt:=⟨q2d,w7c,f⟩
def g3n (f127:q6g) (f136:z9a) (f137:z9b) (f138:z9c) (f139:z9d) (f140:z9e) (f141:xy) (f90:T90):=lk [(127,v9a f127),(136,f1e f136),(137,f1f f137),(138,f1g f138),(139,f1h f139),(140,f1i f140),(141,x9s f141),(90,E90 f90)]
theorem v4o:zb Tryz.prog (g3n q2i z8e z8f z8g z8h z8i zx C90):=(kc v6x (kc f9x (kc f9y (kc f9z (kc b0a (kc b0b (kc x3k (kc g9x kn))))))))
def vq (f127:q6g) (f136:z9a) (f137:z9b) (f138:z9c) (f139:z9d) (f140:z9e) (f141:xy) (f90:T90):q3y:=fun (x0,x1,x2,x3,x4,x5,x6,x7,x8,_)=>(f90 (x1,())).bind fun v=>bif v.1 then (f136 (x2,x3,x4,x5,())).bind fun v=>some (v.2.1,v.2.2.1,v.2.2.2.1,v.2.2.2.2.1,0,v.1,x0,()) else (f127 ([60,62,58,59,64,44,46],x1,())).bind fun v=>bif decide (v.1≥0) then bif decide (0≤IntKind.i64.wrap (x3+1))&&decide (IntKind.i64.wrap (x3+1)≤(↑x2.length:Int)) then bif decide (0≤x0)&&decide (x0≤IntKind.i64.wrap (x3+1)) then some (x2,IntKind.i64.wrap (x3+1),x4,x5,2,List.drop x0.toNat (List.take (IntKind.i64.wrap (x3+1)).toNat x2),x0,()) else none else none else bif x1==34 then (f137 (x2,x3,x4,x5,())).bind fun v=>some (v.2.1,v.2.2.1,v.2.2.2.1,v.2.2.2.2.1,1,v.1,x0,()) else bif x1==91 then (f138 (x2,x3,x4,x5,())).bind fun v=>some (v.2.1,v.2.2.1,v.2.2.2.1,v.2.2.2.2.1,5,v.1,x0,()) else bif x1==40 then (f139 (x2,x3,x4,x5,())).bind fun v=>some (v.2.1,v.2.2.1,v.2.2.2.1,v.2.2.2.2.1,3,v.1,x0,()) else (f140 (x2,x3,x4,x5,())).bind fun v=>bif v.1==[] then (f141 (x0,4,v.2.1,v.2.2.1,v.2.2.2.1,v.2.2.2.2.1,())).bind fun v1=>some (v1.1,v1.2.1,v1.2.2.1,v1.2.2.2.1,4,v.1,x0,()) else some (v.2.1,v.2.2.1,v.2.2.2.1,v.2.2.2.2.1,4,v.1,x0,())
theorem k4v (f127:q6g) (f136:z9a) (f137:z9b) (f138:z9c) (f139:z9d) (f140:z9e) (f141:xy) (f90:T90):AqC (g3n f127 f136 f137 f138 f139 f140 f141 f90) 1 (qe (code Tryz.f105) [1,1]) .nil w3l w7d (vq f127 f136 f137 f138 f139 f140 f141 f90):=fun v=>by kernel_rfl
def xb:q3y:=vq q2i z8e z8f z8g z8h z8i zx C90
theorem k6o:jy 1 (qe (code Tryz.f105) [1,1]) (y6r xb) :=
 frc v4o (k4v q2i z8e z8f z8g z8h z8i zx C90)
def b7a (f105_c0:q3y):Ann:=(.seq .nil (.cut .nil (y6r f105_c0)))
def j9t (f127:q6g) (f136:z9a) (f137:z9b) (f138:z9c) (f139:z9d) (f140:z9e) (f141:xy) (f90:T90) (f105_c0:q3y):x5a:=fun (x0,x1,x2,x3,_)=>bif decide (0≤x1)&&decide (x1<(↑x0.length:Int)) then (f105_c0 (x1,(↑(x0.getD x1.toNat 0).toNat:Int),x0,x1,x2,x3,0,[],0,())).bind fun v=>some (v.2.2.2.2.1,v.2.2.2.2.2.1,v.2.2.2.2.2.2.1,v.1,v.2.1,v.2.2.1,v.2.2.2.1,()) else none
theorem d2u (f127:q6g) (f136:z9a) (f137:z9b) (f138:z9c) (f139:z9d) (f140:z9e) (f141:xy) (f90:T90) (f105_c0:q3y):zw (g3n f127 f136 f137 f138 f139 f140 f141 f90) 1 Tryz.f105 (b7a f105_c0) q2d w7c (j9t f127 f136 f137 f138 f139 f140 f141 f90 f105_c0):=fun v=>by kernel_rfl
def z2k:x5a:=j9t q2i z8e z8f z8g z8h z8i zx C90 xb
theorem f9m:FO 105 (f0s z2k) :=
 qo v4o Tryz.func105 (And.intro k6o trivial) (d2u q2i z8e z8f z8g z8h z8i zx C90 xb)
abbrev z6h:=qa×LqD×qa×Int×Int×Int×Unit→Option ((LqD×Unit)⊕(Int×Int×Unit))
def v0q (f:z6h):LEnt:=⟨w3m,w7f,f⟩
abbrev T67:=qa×Unit→Option (LqD×Int×Int×Unit)
def E67 (f:T67):FEnt:=⟨zy,w7e,f⟩
def K67 (f105:x5a) (f83:T83):=lk [(105,f0s f105),(83,E83 f83)]
theorem w9h:zb Tryz.prog (K67 z2k C83):=(kc f9m (kc x7v kn))
def q2s (f105:x5a) (f83:T83):yh (qa×LqD×qa×Int×Int×Int×Unit) ((LqD×Unit)⊕(Int×Int×Unit)):=fun (x0,x1,x2,x3,x4,x5,_)=>bif decide (x3<(↑x0.length:Int)) then (f105 (x2,x3,x4,x5,())).bind fun v=>bif decide (x1.length+[(v.1,v.2.1,v.2.2.1)].length≤140737488355328/32) then bif v.2.2.2.2.2.2.1 != 0 then some (Sum.inr (Sum.inr (v.2.2.2.2.2.1,v.2.2.2.2.2.2.1,()))) else some (Sum.inl (x0,x1++[(v.1,v.2.1,v.2.2.1)],v.2.2.2.1,v.2.2.2.2.1,v.2.2.2.2.2.1,v.2.2.2.2.2.2.1,())) else none else some (Sum.inr (Sum.inl (x1,())))
def j7a:z6h:=qc (q2s z2k C83) jc
theorem g8x:jf 0 (qe (code Tryz.f67) [1,1,1,1,1,0,0,0]) (v0q j7a):=zl2 w3m w7f K67 q2s z2k C83 w9h
def N67 (f67_l0:z6h):Ann:=(.seq .nil (.seq .nil (.seq .nil (.seq .nil (.seq .nil (.seq (.blk (.loop (v0q f67_l0))) .nil))))))
def F67 (f105:x5a) (f83:T83) (f67_l0:z6h):T67:=fun (x0,_)=>bif decide ((↑x0.length:Int)>2000) then some ([],0,5,()) else (f83 (x0,())).bind fun v=>bif decide (v.2.1≥0) then some ([],v.2.1,7,()) else (f67_l0 (x0,[],x0,0,0,0,())).bind fun v=>Sum.elim (fun v=>some (v.1,0,0,())) (fun v=>some ([],v.1,v.2.1,())) v
def C67:T67:=F67 z2k C83 j7a
theorem b3u:FO 67 (E67 C67):=q5y zy w7e K67 N67 F67 z2k C83 j7a w9h Tryz.func67 (And.intro g8x trivial)
abbrev q4g:=Int×LqD×Int×qa×qa×Unit→Option (Int×LqD×Int×qa×qa×Unit)
def y7k (f:q4g):LEnt:=⟨w3o,w7h,f⟩
abbrev vw:=Int×LqD×Int×qa×qa×Unit→Option (Int×LqD×Int×qa×qa×Unit)
def x4i (f:vw):FEnt:=⟨w3n,w7g,f⟩
def z3v:q4g:=fun (x0,x1,x2,x3,x4,_)=>bif decide (0≤IntKind.i64.wrap (x2+x0))&&decide (IntKind.i64.wrap (x2+x0)<(↑x1.length:Int)) then some ((x1.getD (IntKind.i64.wrap (x2+x0)).toNat (0,([],0))).1,x1,x2,x3,x4,()) else none
def q7k:q4g:=z3v
theorem k7h:jy 1 (qe (code Tryz.f146) [1,1]) (y7k q7k):=zc0 w3o w7h yp z3v kn
def b7n (f146_c0:q4g):Ann:=(.seq .nil (.cut .nil (y7k f146_c0)))
def v9p (f146_c0:q4g):vw:=fun (x0,x1,x2,x3,x4,_)=>bif decide (IntKind.i64.wrap (x2+x0)≥(↑x1.length:Int)) then some (-1,x1,x2,x3,x4,()) else (f146_c0 (x0,x1,x2,x3,x4,())).bind fun v=>some (v.1,v.2.1,v.2.2.1,v.2.2.2.1,v.2.2.2.2.1,())
theorem d3h (f146_c0:q4g):zw yp 1 Tryz.f146 (b7n f146_c0) w3n w7g (v9p f146_c0):=fun v=>by kernel_rfl
def ym:vw:=v9p q7k
theorem y1r:FO 146 (x4i ym) :=
 qo kn Tryz.func146 (And.intro k7h trivial) (d3h q7k)
abbrev q8m:=LqD×Int×qa×qa×Unit→Option (LqD×Int×qa×qa×Unit)
def y6s (f:q8m):LEnt:=⟨w3p,w7i,f⟩
abbrev x5b:=LqD×Int×qa×qa×Unit→Option (Bool×LqD×Int×qa×qa×Unit)
def f0t (f:x5b):FEnt:=⟨q5o,q5r,f⟩
def g3o (f146:vw):=lk [(146,x4i f146)]
theorem v4p:zb Tryz.prog (g3o ym):=(kc y1r kn)
def q1g (f146:vw):yh (LqD×Int×qa×qa×Unit) (LqD×Int×qa×qa×Unit):=fun (x0,x1,x2,x3,_)=>(f146 (0,x0,x1,x2,x3,())).bind fun v=>bif v.1==4 then some (Sum.inl (v.2.1,IntKind.i64.wrap (v.2.2.1+1),v.2.2.2.1,v.2.2.2.2.1,())) else (f146 (0,v.2.1,v.2.2.1,v.2.2.2.1,v.2.2.2.2.1,())).bind fun v=>bif v.1==3 then some (Sum.inl (v.2.1,IntKind.i64.wrap (v.2.2.1+1),v.2.2.2.1,v.2.2.2.2.1,())) else some (Sum.inr (v.2.1,v.2.2.1,v.2.2.2.1,v.2.2.2.2.1,()))
def q7a:q8m:=qc (q1g ym) jc
theorem k6p:jf 1 (qe (code Tryz.f109) [1,0,0,0]) (y6s q7a):=zl1 w3p w7i g3o q1g ym v4p
def b7b (f109_l0:q8m):Ann:=(.seq .nil (.seq (.blk (.loop (y6s f109_l0))) .nil))
def v9i (f146:vw) (f109_l0:q8m):x5b:=fun (x0,x1,x2,x3,_)=>(f109_l0 (x0,x1,x2,x3,())).bind fun v=>some (true,v.1,v.2.1,v.2.2.1,v.2.2.2.1,())
theorem d2v (f146:vw) (f109_l0:q8m):zw (g3o f146) 1 Tryz.f109 (b7b f109_l0) q5o q5r (v9i f146 f109_l0):=fun v=>by kernel_rfl
def x4a:x5b:=v9i ym q7a
theorem f9n:FO 109 (f0t x4a) :=
 qo v4p Tryz.func109 (And.intro k6p trivial) (d2v ym q7a)
abbrev j3q:=qa×LqD×Int×qa×qa×Unit→Option (Bool×LqD×Int×qa×qa×Unit)
def g0y (f:j3q):FEnt:=⟨w3q,q5r,f⟩
def b4u (f146:vw):=lk [(146,x4i f146)]
def v1f (f146:vw):j3q:=fun (x0,x1,x2,x3,x4,_)=>(f146 (0,x1,x2,x3,x4,())).bind fun v=>bif v.1==2 then bif decide (0≤v.2.2.1)&&decide (v.2.2.1<(↑(List.length v.2.1):Int)) then some ((List.getD v.2.1 (Int.toNat v.2.2.1) (0,([],0))).2.1==x0,v.2.1,v.2.2.1,v.2.2.2.1,v.2.2.2.2.1,()) else none else some (false,v.2.1,v.2.2.1,v.2.2.2.1,v.2.2.2.2.1,())
theorem d3j (f146:vw):zw (b4u f146) 1 Tryz.f148 .nil w3q q5r (v1f f146):=fun v=>by kernel_rfl
def q7n:j3q:=v1f ym
theorem w9w:FO 148 (g0y q7n) :=
 q0 (kc y1r kn) Tryz.func148 (d3j ym)
abbrev q8x:=qa×LqD×Int×qa×qa×Unit→Option (qa×LqD×Int×qa×qa×Unit)
def y7m (f:q8x):LEnt:=⟨x0x,w7k,f⟩
abbrev q4h:=qa×LqD×Int×qa×qa×Unit→Option (qa×Bool×LqD×Int×qa×qa×Unit)
def y7l (f:q4h):LEnt:=⟨x0x,w7l,f⟩
abbrev j7h:=LqD×Int×qa×qa×Unit→Option (qa×Bool×LqD×Int×qa×qa×Unit)
def g0x (f:j7h):FEnt:=⟨q5o,w7j,f⟩
def k1w (f146:vw) (f148:j3q):=lk [(146,x4i f146),(148,g0y f148)]
theorem y5j:zb Tryz.prog (k1w ym q7n):=(kc y1r (kc w9w kn))
def wx (f146:vw) (f148:j3q):yh (qa×LqD×Int×qa×qa×Unit) (qa×LqD×Int×qa×qa×Unit):=fun (x0,x1,x2,x3,x4,_)=>(f148 ([46],x1,x2,x3,x4,())).bind fun v=>bif v.1 then (f146 (1,v.2.1,v.2.2.1,v.2.2.2.1,v.2.2.2.2.1,())).bind fun v=>bif v.1==0 then bif decide (0≤IntKind.i64.wrap (v.2.2.1+1))&&decide (IntKind.i64.wrap (v.2.2.1+1)<(↑(List.length v.2.1):Int)) then bif decide ([46].length+List.length (List.getD v.2.1 (IntKind.i64.wrap (v.2.2.1+1)).toNat (0,([],0))).2.1≤9223372036854775807) then bif decide (x0.length+([46]++(List.getD v.2.1 (IntKind.i64.wrap (v.2.2.1+1)).toNat (0,([],0))).2.1).length≤9223372036854775807) then some (Sum.inl (x0++([46]++(List.getD v.2.1 (IntKind.i64.wrap (v.2.2.1+1)).toNat (0,([],0))).2.1),v.2.1,IntKind.i64.wrap (v.2.2.1+2),v.2.2.2.1,v.2.2.2.2.1,())) else none else none else none else some (Sum.inr (x0,v.2.1,v.2.2.1,v.2.2.2.1,v.2.2.2.2.1,())) else some (Sum.inr (x0,v.2.1,v.2.2.1,v.2.2.2.1,v.2.2.2.2.1,()))
def j3x:q8x:=qc (wx ym q7n) jc
theorem k7j:jf 1 (qe (code Tryz.f147) [1,1,1,0,1,0,0]) (y7m j3x):=zl2 x0x w7k k1w wx ym q7n y5j
def k3e (f147_l0:q8x):Ann:=(.seq (.seq .nil (.blk (.loop (y7m f147_l0)))) .nil)
def z3w (f146:vw) (f148:j3q) (f147_l0:q8x):q4h:=fun (x0,x1,x2,x3,x4,_)=>(f147_l0 (x0,x1,IntKind.i64.wrap (x2+1),x3,x4,())).bind fun v=>some (v.1,true,v.2.1,v.2.2.1,v.2.2.2.1,v.2.2.2.2.1,())
theorem k5d (f146:vw) (f148:j3q) (f147_l0:q8x):AqC (k1w f146 f148) 1 (qe (code Tryz.f147) [1,1,1]) (k3e f147_l0) x0x w7l (z3w f146 f148 f147_l0):=fun v=>by kernel_rfl
def q7m:q4h:=z3w ym q7n j3x
theorem k7i:jy 1 (qe (code Tryz.f147) [1,1,1]) (y7l q7m) :=
 frd y5j (And.intro k7j trivial) (k5d ym q7n j3x)
def b7o (f147_c0:q4h):Ann:=(.seq .nil (.seq .nil (.cut .nil (y7l f147_c0))))
def v1e (f146:vw) (f148:j3q) (f147_c0:q4h):j7h:=fun (x0,x1,x2,x3,_)=>(f146 (0,x0,x1,x2,x3,())).bind fun v=>bif v.1 != 0 then some ([],false,v.2.1,v.2.2.1,v.2.2.2.1,v.2.2.2.2.1,()) else bif decide (0≤v.2.2.1)&&decide (v.2.2.1<(↑(List.length v.2.1):Int)) then (f147_c0 ((List.getD v.2.1 (Int.toNat v.2.2.1) (0,([],0))).2.1,v.2.1,v.2.2.1,v.2.2.2.1,v.2.2.2.2.1,())).bind fun v=>some (v.1,v.2.1,v.2.2.1,v.2.2.2.1,v.2.2.2.2.1,v.2.2.2.2.2.1,()) else none
theorem d3i (f146:vw) (f148:j3q) (f147_c0:q4h):zw (k1w f146 f148) 1 Tryz.f147 (b7o f147_c0) q5o w7j (v1e f146 f148 f147_c0):=fun v=>by kernel_rfl
def q7l:j7h:=v1e ym q7n q7m
theorem w9v:FO 147 (g0x q7l) :=
 qo y5j Tryz.func147 (And.intro k7i trivial) (d3i ym q7n q7m)
abbrev q3z:=LqD×Int×qa×qa×Unit→Option (Bool×LqD×Int×qa×qa×Unit)
def y6t (f:q3z):LEnt:=⟨x0y,x1r,f⟩
abbrev x5c:=LqD×Int×qa×qa×Unit→Option (Bool×LqD×Int×qa×qa×Unit)
def f0u (f:x5c):FEnt:=⟨q5o,q5r,f⟩
def g3p (f146:vw) (f147:j7h):=lk [(146,x4i f146),(147,g0x f147)]
theorem v4q:zb Tryz.prog (g3p ym q7l):=(kc y1r (kc w9v kn))
def z3o (f146:vw) (f147:j7h):q3z:=fun (x0,x1,x2,x3,_)=>some (true,x0,IntKind.i64.wrap (x1+1),x2,x3,())
def q7b:q3z:=z3o ym q7l
theorem k6q:jy 1 (qe (code Tryz.f110) [1,0,1,0,1]) (y6t q7b):=zc2 x0y x1r g3p z3o ym q7l v4q
def b7c (f110_c0:q3z):Ann:=(.seq .nil (.seq (.seq .nil (.cond (.cut .nil (y6t f110_c0)) .nil)) .nil))
def v0z (f146:vw) (f147:j7h) (f110_c0:q3z):x5c:=fun (x0,x1,x2,x3,_)=>(f146 (0,x0,x1,x2,x3,())).bind fun v=>bif v.1==1 then bif decide (0≤v.2.2.1)&&decide (v.2.2.1<(↑(List.length v.2.1):Int)) then (f110_c0 (v.2.1,v.2.2.1,(List.getD v.2.1 (Int.toNat v.2.2.1) (0,([],0))).2.1,v.2.2.2.2.1,())).bind fun v=>some (v.1,v.2.1,v.2.2.1,v.2.2.2.1,v.2.2.2.2.1,()) else none else (f147 (v.2.1,v.2.2.1,v.2.2.2.1,v.2.2.2.2.1,())).bind fun v=>some (v.2.1,v.2.2.1,v.2.2.2.1,v.1,v.2.2.2.2.2.1,())
theorem d2w (f146:vw) (f147:j7h) (f110_c0:q3z):zw (g3p f146 f147) 1 Tryz.f110 (b7c f110_c0) q5o q5r (v0z f146 f147 f110_c0):=fun v=>by kernel_rfl
def x4b:x5c:=v0z ym q7l q7b
theorem f9o:FO 110 (f0u x4b) :=
 qo v4q Tryz.func110 (And.intro k6q trivial) (d2w ym q7l q7b)
abbrev x5d:=LqD×Int×qa×qa×Unit→Option (Bool×LqD×Int×qa×qa×Unit)
def f0v (f:x5d):FEnt:=⟨q5o,q5r,f⟩
def b4m (f148:j3q):=lk [(148,g0y f148)]
def v9j (f148:j3q):x5d:=fun (x0,x1,x2,x3,_)=>(f148 ([64],x0,x1,x2,x3,())).bind fun v=>some (v.1,v.2.1,IntKind.i64.wrap (v.2.2.1+1),v.2.2.2.1,v.2.2.2.2.1,())
theorem d2x (f148:j3q):zw (b4m f148) 1 Tryz.f111 .nil q5o q5r (v9j f148):=fun v=>by kernel_rfl
def x4c:x5d:=v9j q7n
theorem f9p:FO 111 (f0v x4c) :=
 q0 (kc w9w kn) Tryz.func111 (d2x q7n)
abbrev j5p:=qa×Int×Int×qa×Unit→Option (qa×Unit)
def y6y (f:j5p):LEnt:=⟨w3r,w7m,f⟩
abbrev v1z:=qa×Unit→Option (qa×Unit)
def f1b (f:v1z):FEnt:=⟨zy,q6e,f⟩
def vr:yh (qa×Int×Int×qa×Unit) (qa×Unit):=fun (x0,x1,x2,x3,_)=>bif decide (x2<x1) then bif decide (0≤x2)&&decide (x2<(↑x0.length:Int)) then bif (↑(x0.getD x2.toNat 0).toNat:Int)==34 then bif decide (x3.length+[92].length≤140737488355328/1) then bif decide (0≤x2)&&decide (x2<(↑x0.length:Int)) then bif decide ((x3++[92]).length+[UInt8.ofNat (↑(x0.getD x2.toNat 0).toNat:Int).toNat].length≤140737488355328/1) then some (Sum.inl (x0,x1,IntKind.i64.wrap (x2+1),x3++[92]++[UInt8.ofNat (↑(x0.getD x2.toNat 0).toNat:Int).toNat],())) else none else none else none else bif decide (0≤x2)&&decide (x2<(↑x0.length:Int)) then bif (↑(x0.getD x2.toNat 0).toNat:Int)==92 then bif decide (x3.length+[92].length≤140737488355328/1) then bif decide (0≤x2)&&decide (x2<(↑x0.length:Int)) then bif decide ((x3++[92]).length+[UInt8.ofNat (↑(x0.getD x2.toNat 0).toNat:Int).toNat].length≤140737488355328/1) then some (Sum.inl (x0,x1,IntKind.i64.wrap (x2+1),x3++[92]++[UInt8.ofNat (↑(x0.getD x2.toNat 0).toNat:Int).toNat],())) else none else none else none else bif decide (0≤x2)&&decide (x2<(↑x0.length:Int)) then bif decide (x3.length+[UInt8.ofNat (↑(x0.getD x2.toNat 0).toNat:Int).toNat].length≤140737488355328/1) then some (Sum.inl (x0,x1,IntKind.i64.wrap (x2+1),x3++[UInt8.ofNat (↑(x0.getD x2.toNat 0).toNat:Int).toNat],())) else none else none else none else none else some (Sum.inr (x3,()))
def q7f:j5p:=qc (vr) jc
theorem k6v:jf 0 (qe (code Tryz.f126) [1,1,0,1,0,0]) (y6y q7f):=zl0 w3r w7m yp vr kn
def b7g (f126_l0:j5p):Ann:=(.seq .nil (.seq .nil (.seq (.seq .nil (.blk (.loop (y6y f126_l0)))) .nil)))
def v9m (f126_l0:j5p):v1z:=fun (x0,_)=>(f126_l0 (x0,(↑x0.length:Int),0,[],())).bind fun v=>some (v.1,())
def x8h:v1z:=v9m q7f
theorem f9v:FO 126 (f1b x8h):=q1a zy q6e yp b7g v9m q7f kn Tryz.func126 (And.intro k6v trivial)
abbrev T89:=Int×qa×Int×Unit→Option (qa×Unit)
def E89 (f:T89):FEnt:=⟨x0z,q6e,f⟩
def K89 (f126:v1z):=lk [(126,f1b f126)]
def F89 (f126:v1z):T89:=fun (x0,x1,x2,_)=>bif x0==1 then (f126 (x1,())).bind fun v=>bif decide ([34].length+List.length v.1≤9223372036854775807) then bif decide (([34]++v.1).length+[34].length≤9223372036854775807) then some ([34]++v.1++[34],()) else none else none else bif x0==3 then bif decide ([40].length+x1.length≤9223372036854775807) then bif decide (([40]++x1).length+[41].length≤9223372036854775807) then some ([40]++x1++[41],()) else none else none else bif x0==5 then bif decide ([91].length+x1.length≤9223372036854775807) then bif decide (([91]++x1).length+[93].length≤9223372036854775807) then some ([91]++x1++[93],()) else none else none else some (x1,())
def C89:T89:=F89 x8h
theorem b3v:FO 89 (E89 C89):=vf x0z q6e K89 F89 x8h (kc f9v kn) Tryz.func89
abbrev q4a:=LqD×Int×qa×qa×Unit→Option (Bool×LqD×Int×qa×qa×Unit)
def y6u (f:q4a):LEnt:=⟨x0y,x1r,f⟩
abbrev x5e:=LqD×Int×qa×qa×Unit→Option (Bool×LqD×Int×qa×qa×Unit)
def f0w (f:x5e):FEnt:=⟨q5o,q5r,f⟩
def g3q (f146:vw) (f147:j7h) (f89:T89):=lk [(146,x4i f146),(147,g0x f147),(89,E89 f89)]
theorem v4r:zb Tryz.prog (g3q ym q7l C89):=(kc y1r (kc w9v (kc b3v kn)))
def z3p (f146:vw) (f147:j7h) (f89:T89):q4a:=fun (x0,x1,x2,x3,_)=>some (true,x0,IntKind.i64.wrap (x1+1),x2,x3,())
def q7c:q4a:=z3p ym q7l C89
theorem k6r:jy 1 (qe (code Tryz.f112) [1,0,1,0,1]) (y6u q7c):=zc3 x0y x1r g3q z3p ym q7l C89 v4r
def b7d (f112_c0:q4a):Ann:=(.seq .nil (.seq (.seq .nil (.cond (.cut .nil (y6u f112_c0)) .nil)) .nil))
def v1a (f146:vw) (f147:j7h) (f89:T89) (f112_c0:q4a):x5e:=fun (x0,x1,x2,x3,_)=>(f146 (0,x0,x1,x2,x3,())).bind fun v=>bif v.1==5 then bif decide (0≤v.2.2.1)&&decide (v.2.2.1<(↑(List.length v.2.1):Int)) then (f89 ((List.getD v.2.1 (Int.toNat v.2.2.1) (0,([],0))).1,(List.getD v.2.1 (Int.toNat v.2.2.1) (0,([],0))).2.1,(List.getD v.2.1 (Int.toNat v.2.2.1) (0,([],0))).2.2,())).bind fun v1=>(f112_c0 (v.2.1,v.2.2.1,v.2.2.2.1,v1.1,())).bind fun v=>some (v.1,v.2.1,v.2.2.1,v.2.2.2.1,v.2.2.2.2.1,()) else none else (f147 (v.2.1,v.2.2.1,v.2.2.2.1,v.2.2.2.2.1,())).bind fun v=>some (v.2.1,v.2.2.1,v.2.2.2.1,v.2.2.2.2.1,v.1,())
theorem d2y (f146:vw) (f147:j7h) (f89:T89) (f112_c0:q4a):zw (g3q f146 f147 f89) 1 Tryz.f112 (b7d f112_c0) q5o q5r (v1a f146 f147 f89 f112_c0):=fun v=>by kernel_rfl
def x4d:x5e:=v1a ym q7l C89 q7c
theorem f9q:FO 112 (f0w x4d) :=
 qo v4r Tryz.func112 (And.intro k6r trivial) (d2y ym q7l C89 q7c)
abbrev T71:=LqD×Unit→Option (qa×qa×Int×Bool×Unit)
def E71 (f:T71):FEnt:=⟨w3s,w7n,f⟩
def K71 (f109:x5b) (f110:x5c) (f111:x5d) (f112:x5e):=lk [(109,f0t f109),(110,f0u f110),(111,f0v f111),(112,f0w f112)]
def N71:Ann:=(.seq .nil (.seq .nil (.seq (.seq .nil (.blk (.unroll 9 .nil))) .nil)))
def F71 (f109:x5b) (f110:x5c) (f111:x5d) (f112:x5e):T71:=fun (x0,_)=>(f109 (x0,0,[],[],())).bind fun v=>bif !v.1 then some ([],[],0,false,()) else (f110 (v.2.1,v.2.2.1,v.2.2.2.1,v.2.2.2.2.1,())).bind fun v=>bif !v.1 then some ([],[],0,false,()) else (f109 (v.2.1,v.2.2.1,v.2.2.2.1,v.2.2.2.2.1,())).bind fun v=>bif !v.1 then some ([],[],0,false,()) else (f111 (v.2.1,v.2.2.1,v.2.2.2.1,v.2.2.2.2.1,())).bind fun v=>bif !v.1 then some ([],[],0,false,()) else (f109 (v.2.1,v.2.2.1,v.2.2.2.1,v.2.2.2.2.1,())).bind fun v=>bif !v.1 then some ([],[],0,false,()) else (f112 (v.2.1,v.2.2.1,v.2.2.2.1,v.2.2.2.2.1,())).bind fun v=>bif !v.1 then some ([],[],0,false,()) else (f109 (v.2.1,v.2.2.1,v.2.2.2.1,v.2.2.2.2.1,())).bind fun v=>bif !v.1 then some ([],[],0,false,()) else some (v.2.2.2.1,v.2.2.2.2.1,v.2.2.1,true,())
theorem h71 (f109:x5b) (f110:x5c) (f111:x5d) (f112:x5e):zw (K71 f109 f110 f111 f112) 0 Tryz.f71 N71 w3s w7n (F71 f109 f110 f111 f112):=fun v=>by kernel_rfl
def C71:T71:=F71 x4a x4b x4c x4d
theorem d5w:FO 71 (E71 C71) :=
 qo (kc f9n (kc f9o (kc f9p (kc f9q kn)))) Tryz.func71 trivial (h71 x4a x4b x4c x4d)
end Go.Proofs.YtiacnhhmkdkpmaaGreatDoorC.W
