/- The texts of the proof, one behind the other: W10, W11, W12, W13, PB, W14, PD0, PD1, PD2, PD3, PD4, PD5, PD6, PD7, PD8, PD9, PR0, PR1. -/
import Derived.Test.YtiacnhhmkdkpmaaGreatDoorAMs4
import Derived.Test.YtiacnhhmkdkpmaaGreatDoorAMs2
import Derived.Lib.IndexMore
set_option maxRecDepth 100000
set_option linter.unusedVariables false
namespace Go.Proofs.YtiacnhhmkdkpmaaGreatDoorA.W
open Go Go.Ae
abbrev q9b:=LqD×Int×qa×qa×Unit→Option (LqD×Int×qa×qa×Unit)
def y5o (f:q9b):LEnt:=⟨w2p,w5y,f⟩
abbrev x4b:=LqD×Int×qa×qa×Unit→Option (Bool×LqD×Int×qa×qa×Unit)
def g8s (f:x4b):FEnt:=⟨q5x,q5z,f⟩
def g0l (f146:vq):=lk [(146,x3j f146)]
theorem v3g:zm Tryz.prog (g0l yl):=(kc y1e kn)
def q1m (f146:vq):yn (LqD×Int×qa×qa×Unit) (LqD×Int×qa×qa×Unit):=fun (x0,x1,x2,x3,_) =>
 (f146 (0,x0,x1,x2,x3,())).bind fun v =>
 bif v.1==4 then
 some
 (Sum.inl
 (v.2.1,IntKind.i64.wrap (v.2.2.1+1),v.2.2.2.1,v.2.2.2.2.1,()))
 else
 (f146 (0,v.2.1,v.2.2.1,v.2.2.2.1,v.2.2.2.2.1,())).bind fun v =>
 bif v.1==3 then
 some
 (Sum.inl
 (v.2.1,IntKind.i64.wrap (v.2.2.1+1),v.2.2.2.1,v.2.2.2.2.1,
 ()))
 else some (Sum.inr (v.2.1,v.2.2.1,v.2.2.2.1,v.2.2.2.2.1,()))
def q7g:q9b:=qd (q1m yl) jc
theorem k5l:jg 1 (qc (code Tryz.f109) [1,0,0,0]) (y5o q7g):=zl1 w2p w5y g0l q1m yl v3g
def b4x (f109_l0:q9b):Ann:=(.seq .nil (.seq (.blk (.loop (y5o f109_l0))) .nil))
def v7m (f146:vq) (f109_l0:q9b):x4b:=fun (x0,x1,x2,x3,_) =>
 (f109_l0 (x0,x1,x2,x3,())).bind fun v =>
 some (true,v.1,v.2.1,v.2.2.1,v.2.2.2.1,())
theorem b9v (f146:vq) (f109_l0:q9b):yb (g0l f146) 1 Tryz.f109 (b4x f109_l0) q5x q5z (v7m f146 f109_l0):=fun v=>by kernel_rfl
def x2p:x4b:=v7m yl q7g
theorem f6x:FO 109 (g8s x2p) :=
 qo v3g Tryz.func109 (And.intro k5l trivial) (b9v yl q7g)
abbrev j4t:=qa×LqD×Int×qa×qa×Unit→Option (Bool×LqD×Int×qa×qa×Unit)
def w8w (f:j4t):FEnt:=⟨w2q,q5z,f⟩
def b2o (f146:vq):=lk [(146,x3j f146)]
def x9q (f146:vq):j4t:=fun (x0,x1,x2,x3,x4,_) =>
 (f146 (0,x1,x2,x3,x4,())).bind fun v =>
 bif v.1==2 then
 bif decide (0≤v.2.2.1)&&decide (v.2.2.1<(↑(List.length v.2.1):Int)) then
 some
 ((List.getD v.2.1 (Int.toNat v.2.2.1)
 (0,([],0))).2.1 ==
 x0,
 v.2.1,v.2.2.1,v.2.2.2.1,v.2.2.2.2.1,())
 else none
 else some (false,v.2.1,v.2.2.1,v.2.2.2.1,v.2.2.2.2.1,())
theorem d0i (f146:vq):yb (b2o f146) 1 Tryz.f148 .nil w2q q5z (x9q f146):=fun v=>by kernel_rfl
def q7r:j4t:=x9q yl
theorem w7r:FO 148 (w8w q7r) :=
 q0 (kc y1e kn) Tryz.func148 (d0i yl)
abbrev q9k:=qa×LqD×Int×qa×qa×Unit→Option (qa×LqD×Int×qa×qa×Unit)
def y6h (f:q9k):LEnt:=⟨y9o,w6a,f⟩
abbrev q4r:=qa×LqD×Int×qa×qa×Unit→Option (qa×Bool×LqD×Int×qa×qa×Unit)
def y6g (f:q4r):LEnt:=⟨y9o,w6b,f⟩
abbrev j4s:=LqD×Int×qa×qa×Unit→Option (qa×Bool×LqD×Int×qa×qa×Unit)
def w8v (f:j4s):FEnt:=⟨q5x,w5z,f⟩
def k0s (f146:vq) (f148:j4t):=lk [(146,x3j f146),(148,w8w f148)]
theorem y4f:zm Tryz.prog (k0s yl q7r):=(kc y1e (kc w7r kn))
def q0e (f146:vq) (f148:j4t):yn (qa×LqD×Int×qa×qa×Unit) (qa×LqD×Int×qa×qa×Unit):=fun (x0,x1,x2,x3,x4,_) =>
 (f148 ([46],x1,x2,x3,x4,())).bind fun v =>
 bif v.1 then
 (f146 (1,v.2.1,v.2.2.1,v.2.2.2.1,v.2.2.2.2.1,())).bind fun v =>
 bif v.1==0 then
 bif
 decide (0≤IntKind.i64.wrap (v.2.2.1+1)) &&
 decide (IntKind.i64.wrap (v.2.2.1+1)<(↑(List.length v.2.1):Int)) then
 bif
 decide
 ([46].length +
 List.length
 (List.getD v.2.1 (IntKind.i64.wrap (v.2.2.1+1)).toNat
 (0,([],0))).2.1 ≤
 9223372036854775807) then
 bif
 decide
 (x0.length +
 ([46] ++
 (List.getD v.2.1 (IntKind.i64.wrap (v.2.2.1+1)).toNat
 (0,([],0))).2.1).length ≤
 9223372036854775807) then
 some
 (Sum.inl
 (x0 ++
 ([46] ++
 (List.getD v.2.1 (IntKind.i64.wrap (v.2.2.1+1)).toNat
 (0,([],0))).2.1),
 v.2.1,IntKind.i64.wrap (v.2.2.1+2),v.2.2.2.1,v.2.2.2.2.1,
 ()))
 else none
 else none
 else none
 else some (Sum.inr (x0,v.2.1,v.2.2.1,v.2.2.2.1,v.2.2.2.2.1,()))
 else some (Sum.inr (x0,v.2.1,v.2.2.1,v.2.2.2.1,v.2.2.2.2.1,()))
def j5b:q9k:=qd (q0e yl q7r) jc
theorem k6e:jg 1 (qc (code Tryz.f147) [1,1,1,0,1,0,0]) (y6h j5b):=zl2 y9o w6a k0s q0e yl q7r y4f
def k1z (f147_l0:q9k):Ann:=(.seq (.seq .nil (.blk (.loop (y6h f147_l0)))) .nil)
def z4s (f146:vq) (f148:j4t) (f147_l0:q9k):q4r:=fun (x0,x1,x2,x3,x4,_) =>
 (f147_l0 (x0,x1,IntKind.i64.wrap (x2+1),x3,x4,())).bind fun v =>
 some (v.1,true,v.2.1,v.2.2.1,v.2.2.2.1,v.2.2.2.2.1,())
theorem k3y (f146:vq) (f148:j4t) (f147_l0:q9k):AqC (k0s f146 f148) 1 (qc (code Tryz.f147) [1,1,1]) (k1z f147_l0) y9o w6b (z4s f146 f148 f147_l0):=fun v=>by kernel_rfl
def q7q:q4r:=z4s yl q7r j5b
theorem k6d:zb 1 (qc (code Tryz.f147) [1,1,1]) (y6g q7q) :=
 frd y4f (And.intro k6e trivial) (k3y yl q7r j5b)
def b5j (f147_c0:q4r):Ann:=(.seq .nil (.seq .nil (.cut .nil (y6g f147_c0))))
def x9p (f146:vq) (f148:j4t) (f147_c0:q4r):j4s:=fun (x0,x1,x2,x3,_) =>
 (f146 (0,x0,x1,x2,x3,())).bind fun v =>
 bif v.1 != 0 then
 some ([],false,v.2.1,v.2.2.1,v.2.2.2.1,v.2.2.2.2.1,())
 else
 bif decide (0≤v.2.2.1)&&decide (v.2.2.1<(↑(List.length v.2.1):Int)) then
 (f147_c0
 ((List.getD v.2.1 (Int.toNat v.2.2.1)
 (0,([],0))).2.1,
 v.2.1,v.2.2.1,v.2.2.2.1,v.2.2.2.2.1,())).bind
 fun v =>
 some
 (v.1,v.2.1,v.2.2.1,v.2.2.2.1,v.2.2.2.2.1,
 v.2.2.2.2.2.1,())
 else none
theorem d0h (f146:vq) (f148:j4t) (f147_c0:q4r):yb (k0s f146 f148) 1 Tryz.f147 (b5j f147_c0) q5x w5z (x9p f146 f148 f147_c0):=fun v=>by kernel_rfl
def q7p:j4s:=x9p yl q7r q7q
theorem w7q:FO 147 (w8v q7p) :=
 qo y4f Tryz.func147 (And.intro k6d trivial) (d0h yl q7r q7q)
abbrev q4j:=LqD×Int×qa×qa×Unit→Option (Bool×LqD×Int×qa×qa×Unit)
def y5p (f:q4j):LEnt:=⟨y9p,x0j,f⟩
abbrev x4c:=LqD×Int×qa×qa×Unit→Option (Bool×LqD×Int×qa×qa×Unit)
def g8t (f:x4c):FEnt:=⟨q5x,q5z,f⟩
def g0m (f146:vq) (f147:j4s):=lk [(146,x3j f146),(147,w8v f147)]
theorem v3h:zm Tryz.prog (g0m yl q7p):=(kc y1e (kc w7q kn))
def z4h (f146:vq) (f147:j4s):q4j:=fun (x0,x1,x2,x3,_) =>
 some (true,x0,IntKind.i64.wrap (x1+1),x2,x3,())
def q7h:q4j:=z4h yl q7p
theorem k5m:zb 1 (qc (code Tryz.f110) [1,0,1,0,1]) (y5p q7h):=zc2 y9p x0j g0m z4h yl q7p v3h
def b4y (f110_c0:q4j):Ann:=(.seq .nil (.seq (.seq .nil (.cond (.cut .nil (y5p f110_c0)) .nil)) .nil))
def x9m (f146:vq) (f147:j4s) (f110_c0:q4j):x4c:=fun (x0,x1,x2,x3,_) =>
 (f146 (0,x0,x1,x2,x3,())).bind fun v =>
 bif v.1==1 then
 bif decide (0≤v.2.2.1)&&decide (v.2.2.1<(↑(List.length v.2.1):Int)) then
 (f110_c0
 (v.2.1,v.2.2.1,
 (List.getD v.2.1 (Int.toNat v.2.2.1)
 (0,([],0))).2.1,
 v.2.2.2.2.1,())).bind
 fun v =>
 some (v.1,v.2.1,v.2.2.1,v.2.2.2.1,v.2.2.2.2.1,())
 else none
 else
 (f147 (v.2.1,v.2.2.1,v.2.2.2.1,v.2.2.2.2.1,())).bind fun v =>
 some (v.2.1,v.2.2.1,v.2.2.2.1,v.1,v.2.2.2.2.2.1,())
theorem b9w (f146:vq) (f147:j4s) (f110_c0:q4j):yb (g0m f146 f147) 1 Tryz.f110 (b4y f110_c0) q5x q5z (x9m f146 f147 f110_c0):=fun v=>by kernel_rfl
def x2q:x4c:=x9m yl q7p q7h
theorem f6y:FO 110 (g8t x2q) :=
 qo v3h Tryz.func110 (And.intro k5m trivial) (b9w yl q7p q7h)
abbrev x4d:=LqD×Int×qa×qa×Unit→Option (Bool×LqD×Int×qa×qa×Unit)
def g8u (f:x4d):FEnt:=⟨q5x,q5z,f⟩
def b2g (f148:j4t):=lk [(148,w8w f148)]
def v7n (f148:j4t):x4d:=fun (x0,x1,x2,x3,_) =>
 (f148 ([64],x0,x1,x2,x3,())).bind fun v =>
 some
 (v.1,v.2.1,IntKind.i64.wrap (v.2.2.1+1),v.2.2.2.1,v.2.2.2.2.1,
 ())
theorem b9x (f148:j4t):yb (b2g f148) 1 Tryz.f111 .nil q5x q5z (v7n f148):=fun v=>by kernel_rfl
def x2r:x4d:=v7n q7r
theorem f6z:FO 111 (g8u x2r) :=
 q0 (kc w7r kn) Tryz.func111 (b9x q7r)
abbrev j6x:=qa×Int×Int×qa×Unit→Option (qa×Unit)
def y5u (f:j6x):LEnt:=⟨w2r,w6c,f⟩
abbrev v0g:=qa×Unit→Option (qa×Unit)
def g9c (f:v0g):FEnt:=⟨xi,j8k,f⟩
def kh:yn (qa×Int×Int×qa×Unit) (qa×Unit):=fun (x0,x1,x2,x3,_) =>
 bif decide (x2<x1) then
 bif decide (0≤x2)&&decide (x2<(↑x0.length:Int)) then
 bif (↑(x0.getD x2.toNat 0).toNat:Int)==34 then
 bif decide (x3.length+[92].length≤140737488355328/1) then
 bif decide (0≤x2)&&decide (x2<(↑x0.length:Int)) then
 bif
 decide
 ((x3++[92]).length +
 [UInt8.ofNat (↑(x0.getD x2.toNat 0).toNat:Int).toNat].length ≤
 140737488355328/1) then
 some
 (Sum.inl
 (x0,x1,IntKind.i64.wrap (x2+1),
 x3++[92]++[UInt8.ofNat (↑(x0.getD x2.toNat 0).toNat:Int).toNat],
 ()))
 else none
 else none
 else none
 else
 bif decide (0≤x2)&&decide (x2<(↑x0.length:Int)) then
 bif (↑(x0.getD x2.toNat 0).toNat:Int)==92 then
 bif decide (x3.length+[92].length≤140737488355328/1) then
 bif decide (0≤x2)&&decide (x2<(↑x0.length:Int)) then
 bif
 decide
 ((x3++[92]).length +
 [UInt8.ofNat (↑(x0.getD x2.toNat 0).toNat:Int).toNat].length ≤
 140737488355328/1) then
 some
 (Sum.inl
 (x0,x1,IntKind.i64.wrap (x2+1),
 x3++[92]++[UInt8.ofNat (↑(x0.getD x2.toNat 0).toNat:Int).toNat],
 ()))
 else none
 else none
 else none
 else
 bif decide (0≤x2)&&decide (x2<(↑x0.length:Int)) then
 bif
 decide
 (x3.length+[UInt8.ofNat (↑(x0.getD x2.toNat 0).toNat:Int).toNat].length ≤
 140737488355328/1) then
 some
 (Sum.inl
 (x0,x1,IntKind.i64.wrap (x2+1),x3++[UInt8.ofNat (↑(x0.getD x2.toNat 0).toNat:Int).toNat],
 ()))
 else none
 else none
 else none
 else none
 else some (Sum.inr (x3,()))
def q7j:j6x:=qd (kh) jc
theorem k5r:jg 0 (qc (code Tryz.f126) [1,1,0,1,0,0]) (y5u q7j):=zl0 w2r w6c xj kh kn
def b5c (f126_l0:j6x):Ann:=(.seq .nil (.seq .nil (.seq (.seq .nil (.blk (.loop (y5u f126_l0)))) .nil)))
def v7r (f126_l0:j6x):v0g:=fun (x0,_) =>
 (f126_l0 (x0,(↑x0.length:Int),0,[],())).bind fun v=>some (v.1,())
def x7k:v0g:=v7r q7j
theorem f7h:FO 126 (g9c x7k):=q6i xi j8k xj b5c v7r q7j kn Tryz.func126 (And.intro k5r trivial)
abbrev T89:=Int×qa×Int×Unit→Option (qa×Unit)
def E89 (f:T89):FEnt:=⟨y9q,j8k,f⟩
def K89 (f126:v0g):=lk [(126,g9c f126)]
def F89 (f126:v0g):T89:=fun (x0,x1,x2,_) =>
 bif x0==1 then
 (f126 (x1,())).bind fun v =>
 bif decide ([34].length+List.length v.1≤9223372036854775807) then
 bif decide (([34]++v.1).length+[34].length≤9223372036854775807) then
 some ([34]++v.1++[34],())
 else none
 else none
 else
 bif x0==3 then
 bif decide ([40].length+x1.length≤9223372036854775807) then
 bif decide (([40]++x1).length+[41].length≤9223372036854775807) then
 some ([40]++x1++[41],())
 else none
 else none
 else
 bif x0==5 then
 bif decide ([91].length+x1.length≤9223372036854775807) then
 bif decide (([91]++x1).length+[93].length≤9223372036854775807) then
 some ([91]++x1++[93],())
 else none
 else none
 else some (x1,())
def C89:T89:=F89 x7k
theorem b1i:FO 89 (E89 C89):=wz y9q j8k K89 F89 x7k (kc f7h kn) Tryz.func89
abbrev q4k:=LqD×Int×qa×qa×Unit→Option (Bool×LqD×Int×qa×qa×Unit)
def y5q (f:q4k):LEnt:=⟨y9p,x0j,f⟩
abbrev x4e:=LqD×Int×qa×qa×Unit→Option (Bool×LqD×Int×qa×qa×Unit)
def g8v (f:x4e):FEnt:=⟨q5x,q5z,f⟩
def g0n (f146:vq) (f147:j4s) (f89:T89):=lk [(146,x3j f146),(147,w8v f147),(89,E89 f89)]
theorem v3i:zm Tryz.prog (g0n yl q7p C89):=(kc y1e (kc w7q (kc b1i kn)))
def z4i (f146:vq) (f147:j4s) (f89:T89):q4k:=fun (x0,x1,x2,x3,_) =>
 some (true,x0,IntKind.i64.wrap (x1+1),x2,x3,())
theorem k3q (f146:vq) (f147:j4s) (f89:T89):AqC (g0n f146 f147 f89) 1 (qc (code Tryz.f112) [1,0,1,0,1]) .nil y9p x0j (z4i f146 f147 f89):=fun v=>by kernel_rfl
def q7i:q4k:=z4i yl q7p C89
theorem k5n:zb 1 (qc (code Tryz.f112) [1,0,1,0,1]) (y5q q7i) :=
 frc v3i (k3q yl q7p C89)
def b4z (f112_c0:q4k):Ann:=(.seq .nil (.seq (.seq .nil (.cond (.cut .nil (y5q f112_c0)) .nil)) .nil))
def x9n (f146:vq) (f147:j4s) (f89:T89) (f112_c0:q4k):x4e:=fun (x0,x1,x2,x3,_) =>
 (f146 (0,x0,x1,x2,x3,())).bind fun v =>
 bif v.1==5 then
 bif decide (0≤v.2.2.1)&&decide (v.2.2.1<(↑(List.length v.2.1):Int)) then
 (f89
 ((List.getD v.2.1 (Int.toNat v.2.2.1)
 (0,([],0))).1,
 (List.getD v.2.1 (Int.toNat v.2.2.1)
 (0,([],0))).2.1,
 (List.getD v.2.1 (Int.toNat v.2.2.1)
 (0,([],0))).2.2,
 ())).bind
 fun v1 =>
 (f112_c0 (v.2.1,v.2.2.1,v.2.2.2.1,v1.1,())).bind fun v =>
 some (v.1,v.2.1,v.2.2.1,v.2.2.2.1,v.2.2.2.2.1,())
 else none
 else
 (f147 (v.2.1,v.2.2.1,v.2.2.2.1,v.2.2.2.2.1,())).bind fun v =>
 some (v.2.1,v.2.2.1,v.2.2.2.1,v.2.2.2.2.1,v.1,())
theorem b9y (f146:vq) (f147:j4s) (f89:T89) (f112_c0:q4k):yb (g0n f146 f147 f89) 1 Tryz.f112 (b4z f112_c0) q5x q5z (x9n f146 f147 f89 f112_c0):=fun v=>by kernel_rfl
def x2s:x4e:=x9n yl q7p C89 q7i
theorem f7a:FO 112 (g8v x2s) :=
 qo v3i Tryz.func112 (And.intro k5n trivial) (b9y yl q7p C89 q7i)
abbrev T71:=LqD×Unit→Option (qa×qa×Int×Bool×Unit)
def E71 (f:T71):FEnt:=⟨w2s,w6d,f⟩
def K71 (f109:x4b) (f110:x4c) (f111:x4d) (f112:x4e):=lk [(109,g8s f109),(110,g8t f110),(111,g8u f111),(112,g8v f112)]
def N71:Ann:=(.seq .nil (.seq .nil (.seq (.seq .nil (.blk (.unroll 9 .nil))) .nil)))
def F71 (f109:x4b) (f110:x4c) (f111:x4d) (f112:x4e):T71:=fun (x0,_) =>
 (f109 (x0,0,[],[],())).bind fun v =>
 bif !v.1 then some ([],[],0,false,())
 else
 (f110 (v.2.1,v.2.2.1,v.2.2.2.1,v.2.2.2.2.1,())).bind fun v =>
 bif !v.1 then some ([],[],0,false,())
 else
 (f109 (v.2.1,v.2.2.1,v.2.2.2.1,v.2.2.2.2.1,())).bind fun v =>
 bif !v.1 then some ([],[],0,false,())
 else
 (f111 (v.2.1,v.2.2.1,v.2.2.2.1,v.2.2.2.2.1,())).bind fun v =>
 bif !v.1 then some ([],[],0,false,())
 else
 (f109 (v.2.1,v.2.2.1,v.2.2.2.1,v.2.2.2.2.1,())).bind fun v =>
 bif !v.1 then some ([],[],0,false,())
 else
 (f112 (v.2.1,v.2.2.1,v.2.2.2.1,v.2.2.2.2.1,())).bind
 fun v =>
 bif !v.1 then some ([],[],0,false,())
 else
 (f109 (v.2.1,v.2.2.1,v.2.2.2.1,v.2.2.2.2.1,())).bind
 fun v =>
 bif !v.1 then some ([],[],0,false,())
 else some (v.2.2.2.1,v.2.2.2.2.1,v.2.2.1,true,())
theorem h71 (f109:x4b) (f110:x4c) (f111:x4d) (f112:x4e):yb (K71 f109 f110 f111 f112) 0 Tryz.f71 N71 w2s w6d (F71 f109 f110 f111 f112):=fun v=>by kernel_rfl
def C71:T71:=F71 x2p x2q x2r x2s
theorem d2q:FO 71 (E71 C71) :=
 qo (kc f6x (kc f6y (kc f6z (kc f7a kn)))) Tryz.func71 trivial (h71 x2p x2q x2r x2s)
abbrev T85:=Int×Unit→Option (Bool×Unit)
def E85 (f:T85):FEnt:=⟨q5t,qx,f⟩
def F85:T85:=fun (x0,_) =>
 bif x0 != 9 then bif decide (x0<32) then some (true,()) else some (x0==127,())
 else some (false,())
def C85:T85:=F85
theorem d2x:FO 85 (E85 C85):=zq0 q5t qx xj F85 kn Tryz.func85
abbrev q4u:=Bool×(qa×Int)×Unit→Option ((Int×Unit)⊕Unit)
def z1m (f:q4u):LEnt:=⟨w2u,x0d,f⟩
abbrev j8o:=qa×Bool×Unit→Option (Int×Unit)
def x8l (f:j8o):FEnt:=⟨w2t,jd,f⟩
def y2y (f85:T85):=lk [(85,E85 f85)]
theorem y0m:zm Tryz.prog (y2y C85):=(kc d2x kn)
def q4b (f85:T85):yn (Bool×(qa×Int)×Unit) ((Int×Unit)⊕Unit):=fun (x0,x1,_) =>
 bif decide (Int.toNat x1.2<List.length x1.1) then
 (f85 ((↑(wc x1.1 (Int.toNat x1.2)).1:Int),())).bind fun v =>
 bif v.1==x0 then some (Sum.inr (Sum.inl ((↑(Int.toNat x1.2):Int),())))
 else some (Sum.inl (x0,(x1.1,(↑(Int.toNat x1.2+(wc x1.1 (Int.toNat x1.2)).2):Int)),()))
 else some (Sum.inr (Sum.inr ()))
def j2e:q4u:=qd (q4b C85) jc
theorem x6p:jg 0 (qc (code Tryz.f156) [1,0,1,0,0]) (z1m j2e):=zl1 w2u x0d y2y q4b C85 y0m
def g1x (f156v1_l0:q4u):Ann:=(.seq .nil (.seq (.seq .nil (.blk (.loop (z1m f156v1_l0)))) .nil))
def z4u (f85:T85) (f156v1_l0:q4u):j8o:=fun (x0,x1,_) =>
 (f156v1_l0 (x1,(x0,(↑0:Int)),())).bind fun v =>
 Sum.elim (fun v=>some (v.1,())) (fun v=>some (-1,())) v
def q6k:j8o:=z4u C85 j2e
theorem k9f:FO 156 (x8l q6k):=vz w2t jd y2y g1x z4u C85 j2e y0m Tryz.func156 (And.intro x6p trivial)
abbrev j8n:=qa×Unit→Option (Int×Unit)
def x8e (f:j8n):FEnt:=⟨y9r,jd,f⟩
def g0p (f156v1:j8o):=lk [(156,x8l f156v1)]
def z4j (f156v1:j8o):j8n:=fun (x0,_) =>
 (f156v1 (x0,true,())).bind fun v=>some (v.1,())
def j7q:j8n:=z4j q6k
theorem k9e:FO 123 (x8e j7q):=wz y9r jd g0p z4j q6k (kc k9f kn) Tryz.func123
abbrev z1w:=qa×Unit→Option (Bool×Unit)
def w0j (f:z1w):FEnt:=⟨y9r,qx,f⟩
def f2z (f123v1:j8n):=lk [(123,x8e f123v1)]
def y9a (f123v1:j8n):z1w:=fun (x0,_) =>
 (f123v1 (x0,())).bind fun v=>some (decide (v.1≥0),())
def j8h:z1w:=y9a j7q
theorem g7c:FO 84 (w0j j8h):=wz y9r qx f2z y9a j7q (kc k9e kn) Tryz.func84
abbrev T86:=qa×Unit→Option (Bool×Unit)
def E86 (f:T86):FEnt:=⟨xi,qx,f⟩
def K86 (f96:T96):=lk [(96,E96 f96)]
def F86 (f96:T96):T86:=fun (x0,_) =>
 (f96 (x0,[91],())).bind fun v=>some (v.1,())
def C86:T86:=F86 C96
theorem b1g:FO 86 (E86 C86):=wz xi qx K86 F86 C96 (kc b1j kn) Tryz.func86
abbrev T87:=qp×qq×qu×qa×Unit→Option (qa×Int×Unit)
def E87 (f:T87):FEnt:=⟨vp,q8z,f⟩
def K87 (f124:k2o):=lk [(124,g9a f124)]
def F87 (f124:k2o):T87:=fun (x0,x1,x2,x3,_) =>
 (f124 (x0,x1,x2,x3,())).bind fun v=>some (v.1,v.2.2.1,())
def C87:T87:=F87 z3g
theorem b1h:FO 87 (E87 C87):=wz vp q8z K87 F87 z3g (kc f7f kn) Tryz.func87
abbrev T44:=qp×qq×qu×qa×qa×Unit→Option (Int×Unit)
def E44 (f:T44):FEnt:=⟨y9s,jd,f⟩
def K44 (f67:T67) (f83:T83) (f84v1:z1w) (f86:T86) (f87:T87):=lk [(67,E67 f67),(83,E83 f83),(84,w0j f84v1),(86,E86 f86),(87,E87 f87)]
def F44 (f67:T67) (f83:T83) (f84v1:z1w) (f86:T86) (f87:T87):T44:=fun (x0,x1,x2,x3,x4,_) =>
 (f83 (x3,())).bind fun v =>
 bif x3==[] then some (13,())
 else
 bif decide ((↑x3.length:Int)>64) then some (5,())
 else
 bif decide (v.2.1≥0) then some (7,())
 else
 (f84v1 (x3,())).bind fun v =>
 bif v.1 then some (8,())
 else
 (f86 (x4,())).bind fun v =>
 bif v.1 then
 (f67 (x4,())).bind fun v =>
 bif v.2.2.1 != 0 then some (4,())
 else
 bif (↑(List.length v.1):Int) != 1 then some (4,())
 else
 bif decide (0<(↑(List.length v.1):Int)) then
 bif
 (List.getD v.1 0
 (0,([],0))).1 !=
 5 then
 some (4,())
 else some (0,())
 else none
 else (f87 (x0,x1,x2,x4,())).bind fun v=>some (v.2.1,())
theorem h44 (f67:T67) (f83:T83) (f84v1:z1w) (f86:T86) (f87:T87):yb (K44 f67 f83 f84v1 f86 f87) 0 Tryz.f44 .nil y9s jd (F44 f67 f83 f84v1 f86 f87):=fun v=>by kernel_rfl
def C44:T44:=F44 C67 C83 j8h C86 C87
theorem b1e:FO 44 (E44 C44) :=
 q0 (kc b1f (kc y1g (kc g7c (kc b1g (kc b1h kn))))) Tryz.func44 (h44 C67 C83 j8h C86 C87)
abbrev j7d:=Int×(qa×Int)×Unit→Option (Int×Unit)
def y7c (f:j7d):LEnt:=⟨w2v,w6e,f⟩
abbrev j2x:=qa×Unit→Option (Int×Unit)
def w9j (f:j2x):FEnt:=⟨xi,jd,f⟩
def y8y:yn (Int×(qa×Int)×Unit) (Int×Unit):=fun (x0,x1,_) =>
 bif decide (Int.toNat x1.2<List.length x1.1) then
 some
 (Sum.inl
 (IntKind.i64.wrap (x0+1),(x1.1,(↑(Int.toNat x1.2+(wc x1.1 (Int.toNat x1.2)).2):Int)),
 ()))
 else some (Sum.inr (x0,()))
def z3v:j7d:=qd (y8y) jc
theorem k6z:jg 0 (qc (code Tryz.f227) [1,0,1,0,0]) (y7c z3v):=zl0 w2v w6e xj y8y kn
def b5x (f227_l0:j7d):Ann:=(.seq .nil (.seq (.seq .nil (.blk (.loop (y7c f227_l0)))) .nil))
def f2u (f227_l0:j7d):j2x:=fun (x0,_) =>
 (f227_l0 (0,(x0,(↑0:Int)),())).bind fun v=>some (v.1,())
def j2h:j2x:=f2u z3v
theorem w8c:FO 227 (w9j j2h):=q6i xi jd xj b5x f2u z3v kn Tryz.func227 (And.intro k6z trivial)
abbrev x5n:=qa×Unit→Option (Int×Int×Unit)
def f1k (f:x5n):FEnt:=⟨xi,x0k,f⟩
def f2y:x5n:=fun (x0,_) =>
 bif decide ((↑x0.length:Int)<1) then some (65533,0,())
 else bif decide (0<(↑x0.length:Int)) then none else none
def x3d:x5n:=f2y
theorem f9w:FO 273 (f1k x3d):=zq0 xi x0k xj f2y kn Tryz.func273
abbrev q9u:=qa×Bool×Unit→Option ((Int×Int×Unit)⊕(Int×Int×Unit))
def y7d (f:q9u):LEnt:=⟨w2w,w6f,f⟩
abbrev z9e:=qa×Unit→Option (Int×Int×Unit)
def f0f (f:z9e):FEnt:=⟨xi,x0k,f⟩
def g0y (f273:x5n):=lk [(273,f1k f273)]
theorem v3s:zm Tryz.prog (g0y x3d):=(kc f9w kn)
def y8z (f273:x5n):q9u:=fun (x0,x1,_) =>
 bif x1 then
 bif decide (0<(↑x0.length:Int)) then
 some (Sum.inl (IntKind.i32.wrap (↑(x0.getD 0 0).toNat:Int),1,()))
 else none
 else (f273 (x0,())).bind fun v=>some (Sum.inr (v.1,v.2.1,()))
def z3w:q9u:=y8z x3d
theorem k7a:zb 0 (qc (code Tryz.f228) [1,0,1]) (y7d z3w):=zc1 w2w w6f g0y y8z x3d v3s
def b5y (f228_c0:q9u):Ann:=(.seq .nil (.seq (.cut .nil (y7d f228_c0)) .nil))
def f2v (f273:x5n) (f228_c0:q9u):z9e:=fun (x0,_) =>
 bif !x0==[] then
 bif decide (0<(↑x0.length:Int)) then
 (f228_c0 (x0,decide ((↑(x0.getD 0 0).toNat:Int)<128),())).bind fun v =>
 Sum.elim (fun v=>some (v.1,v.2.1,())) (fun v=>some (v.1,v.2.1,()))
 v
 else none
 else
 (f228_c0 (x0,false,())).bind fun v =>
 Sum.elim (fun v=>some (v.1,v.2.1,())) (fun v=>some (v.1,v.2.1,()))
 v
def z8j:z9e:=f2v x3d z3w
theorem f8p:FO 228 (f0f z8j):=vz xi x0k g0y b5y f2v x3d z3w v3s Tryz.func228 (And.intro k7a trivial)
abbrev q9n:=qa×Int×Int×List (qa)×Unit→Option (qa×Int×List (qa)×Unit)
def y6s (f:q9n):LEnt:=⟨w2x,w6g,f⟩
abbrev q9m:=qa×Int×Unit→Option (List (qa)×Unit)
def y6r (f:q9m):LEnt:=⟨w2y,w6h,f⟩
abbrev z0y:=qa×Int×Unit→Option (List (qa)×Unit)
def g9u (f:z0y):FEnt:=⟨y9k,z1u,f⟩
def k0v (f227:j2x) (f228:z9e):=lk [(227,w9j f227),(228,f0f f228)]
theorem y4i:zm Tryz.prog (k0v j2h z8j):=(kc w8c (kc f8p kn))
def y8w (f227:j2x) (f228:z9e):yn (qa×Int×Int×List (qa)×Unit) (qa×Int×List (qa)×Unit):=fun (x0,x1,x2,x3,_) =>
 bif decide (x2<IntKind.i64.wrap (x1 - 1)) then
 (f228 (x0,())).bind fun v =>
 bif decide (0≤v.2.1)&&decide (v.2.1≤(↑x0.length:Int)) then
 bif decide (0≤x2)&&decide (x2<(↑x3.length:Int)) then
 bif decide (0≤v.2.1)&&decide (v.2.1≤(↑x0.length:Int)) then
 some
 (Sum.inl
 (List.drop (Int.toNat v.2.1) x0,x1,IntKind.i64.wrap (x2+1),
 x3.set x2.toNat (List.take (Int.toNat v.2.1) x0),()))
 else none
 else none
 else none
 else some (Sum.inr (x0,x1,x3,()))
def z3o:q9n:=qd (y8w j2h z8j) jc
theorem k6p:jg 0 (qc (code Tryz.f193) [1,1,1,1,0,1,0,0]) (y6s z3o):=zl2 w2x w6g k0v y8w j2h z8j y4i
def k2c (f193_l0:q9n):Ann:=(.seq .nil (.seq (.seq .nil (.blk (.loop (y6s f193_l0)))) .nil))
def y8v (f227:j2x) (f228:z9e) (f193_l0:q9n):q9m:=fun (x0,x1,_) =>
 bif
 decide (0≤x1) &&
 (decide (x1=x1)&&(decide ((↑16:Int)*x1≤281474976710656)&&decide (x1≤140737488355328))) then
 (f193_l0 (x0,x1,0,List.replicate x1.toNat [],())).bind fun v =>
 bif decide (v.2.1>0) then
 bif
 decide (0≤IntKind.i64.wrap (v.2.1 - 1)) &&
 decide (IntKind.i64.wrap (v.2.1 - 1)<(↑(List.length v.2.2.1):Int)) then
 some (List.set v.2.2.1 (IntKind.i64.wrap (v.2.1 - 1)).toNat v.1,())
 else none
 else some (v.2.2.1,())
 else none
theorem k4e (f227:j2x) (f228:z9e) (f193_l0:q9n):AqC (k0v f227 f228) 0 (qc (code Tryz.f193) [1,1,1]) (k2c f193_l0) w2y w6h (y8v f227 f228 f193_l0):=fun v=>by kernel_rfl
def z3n:q9m:=y8v j2h z8j z3o
theorem k6o:zb 0 (qc (code Tryz.f193) [1,1,1]) (y6r z3n) :=
 frd y4i (And.intro k6p trivial) (k4e j2h z8j z3o)
def b5r (f193_c0:q9m):Ann:=(.seq .nil (.seq .nil (.cut .nil (y6r f193_c0))))
def f2s (f227:j2x) (f228:z9e) (f193_c0:q9m):z0y:=fun (x0,x1,_) =>
 (f227 (x0,())).bind fun v =>
 bif decide (x1<0) then (f193_c0 (x0,v.1,())).bind fun v=>some (v.1,())
 else
 bif decide (x1>v.1) then (f193_c0 (x0,v.1,())).bind fun v=>some (v.1,())
 else (f193_c0 (x0,x1,())).bind fun v=>some (v.1,())
def z8h:z0y:=f2s j2h z8j z3n
theorem f8d:FO 193 (g9u z8h):=j2c y9k z1u k0v b5r f2s j2h z8j z3n y4i Tryz.func193 (And.intro k6o trivial)
abbrev q6t:=qa×qa×Unit→Option (Int×Unit)
def w9e (f:q6t):FEnt:=⟨zy,jd,f⟩
def b3f (f197:y3f):=lk [(197,w9f f197)]
def v8j (f197:y3f):q6t:=fun (x0,x1,_) =>
 (f197 (x0,x1,())).bind fun v=>some (v.1,())
def q2m:q6t:=v8j z3r
theorem w7y:FO 195 (w9e q2m):=wz zy jd b3f v8j z3r (kc w7z kn) Tryz.func195
abbrev q9o:=qa×qa×Int×Unit→Option (Int×Unit)
def y6t (f:q9o):LEnt:=⟨w2z,w6i,f⟩
abbrev z0z:=qa×qa×Unit→Option (Int×Unit)
def g9v (f:z0z):FEnt:=⟨zy,jd,f⟩
def g0v (f195:q6t) (f227:j2x) (f229:x4s):=lk [(195,w9e f195),(227,w9j f227),(229,f0g f229)]
theorem v3p:zm Tryz.prog (g0v q2m j2h x2y):=(kc w7y (kc w8c (kc f8q kn)))
def y8x (f195:q6t) (f227:j2x) (f229:x4s):yn (qa×qa×Int×Unit) (Int×Unit):=fun (x0,x1,x2,_) =>
 (f195 (x0,x1,())).bind fun v =>
 bif v.1 == -1 then some (Sum.inr (x2,()))
 else
 bif
 decide (0≤IntKind.i64.wrap (v.1+(↑x1.length:Int))) &&
 decide (IntKind.i64.wrap (v.1+(↑x1.length:Int))≤(↑x0.length:Int)) then
 some
 (Sum.inl
 (List.drop (IntKind.i64.wrap (v.1+(↑x1.length:Int))).toNat x0,x1,IntKind.i64.wrap (x2+1),
 ()))
 else none
theorem k4f (f195:q6t) (f227:j2x) (f229:x4s):AqL (g0v f195 f227 f229) 0 (qc (code Tryz.f194) [1,1,1,1,0,0]) .nil w2z w6i (y8x f195 f227 f229):=fun v=>by kernel_rfl
def z3q:q9o:=qd (y8x q2m j2h x2y) jc
theorem k6q:jg 0 (qc (code Tryz.f194) [1,1,1,1,0,0]) (y6t z3q) :=
 frl v3p (k4f q2m j2h x2y)
def b5s (f194_l0:q9o):Ann:=(.seq .nil (.seq .nil (.seq .nil (.seq .nil (.blk (.loop (y6t f194_l0)))))))
def f2t (f195:q6t) (f227:j2x) (f229:x4s) (f194_l0:q9o):z0z:=fun (x0,x1,_) =>
 bif (↑x1.length:Int)==0 then (f227 (x0,())).bind fun v=>some (IntKind.i64.wrap (v.1+1),())
 else
 bif (↑x1.length:Int)==1 then
 bif decide (0<(↑x1.length:Int)) then
 (f229 (x0,(↑(x1.getD 0 0).toNat:Int),())).bind fun v=>some (v.1,())
 else none
 else (f194_l0 (x0,x1,0,())).bind fun v=>some (v.1,())
theorem d0q (f195:q6t) (f227:j2x) (f229:x4s) (f194_l0:q9o):yb (g0v f195 f227 f229) 0 Tryz.f194 (b5s f194_l0) zy jd (f2t f195 f227 f229 f194_l0):=fun v=>by kernel_rfl
def z3p:z0z:=f2t q2m j2h x2y z3q
theorem f8e:FO 194 (g9v z3p) :=
 qo v3p Tryz.func194 (And.intro k6q trivial) (d0q q2m j2h x2y z3q)
abbrev q9l:=qa×qa×Int×Int×Int×List (qa)×Unit→Option (qa×Int×List (qa)×Unit)
def y6n (f:q9l):LEnt:=⟨w3b,w6j,f⟩
abbrev q4v:=qa×qa×Int×Int×Unit→Option (List (qa)×Unit)
def y6m (f:q4v):LEnt:=⟨w3c,w6k,f⟩
abbrev v0i:=qa×qa×Int×Int×Unit→Option (List (qa)×Unit)
def g9l (f:v0i):FEnt:=⟨w3a,z1u,f⟩
def k0u (f193:z0y) (f194:z0z) (f195:q6t):=lk [(193,g9u f193),(194,g9v f194),(195,w9e f195)]
theorem y4h:zm Tryz.prog (k0u z8h z3p q2m):=(kc f8d (kc f8e (kc w7y kn)))
def j5x (f193:z0y) (f194:z0z) (f195:q6t):yn (qa×qa×Int×Int×Int×List (qa)×Unit) (qa×Int×List (qa)×Unit):=fun (x0,x1,x2,x3,x4,x5,_) =>
 bif decide (x4<x3) then
 (f195 (x0,x1,())).bind fun v =>
 bif decide (v.1<0) then some (Sum.inr (x0,x4,x5,()))
 else
 bif
 decide (0≤IntKind.i64.wrap (v.1+x2)) &&
 decide (IntKind.i64.wrap (v.1+x2)≤(↑x0.length:Int)) then
 bif decide (0≤x4)&&decide (x4<(↑x5.length:Int)) then
 bif
 decide (0≤IntKind.i64.wrap (v.1+(↑x1.length:Int))) &&
 decide (IntKind.i64.wrap (v.1+(↑x1.length:Int))≤(↑x0.length:Int)) then
 some
 (Sum.inl
 (List.drop (IntKind.i64.wrap (v.1+(↑x1.length:Int))).toNat x0,x1,x2,x3,
 IntKind.i64.wrap (x4+1),x5.set x4.toNat (List.take (IntKind.i64.wrap (v.1+x2)).toNat x0),
 ()))
 else none
 else none
 else none
 else some (Sum.inr (x0,x4,x5,()))
theorem k4c (f193:z0y) (f194:z0z) (f195:q6t):AqL (k0u f193 f194 f195) 0 (qc (code Tryz.f161) [1,1,1,1,1,1,1,1,0,0,0]) .nil w3b w6j (j5x f193 f194 f195):=fun v=>by kernel_rfl
def j5d:q9l:=qd (j5x z8h z3p q2m) jc
theorem k6k:jg 0 (qc (code Tryz.f161) [1,1,1,1,1,1,1,1,0,0,0]) (y6n j5d) :=
 frl y4h (k4c z8h z3p q2m)
def k2b (f161_l0:q9l):Ann:=(.seq .nil (.seq .nil (.seq .nil (.seq .nil (.seq (.blk (.loop (y6n f161_l0))) .nil)))))
def j5w (f193:z0y) (f194:z0z) (f195:q6t) (f161_l0:q9l):q4v:=fun (x0,x1,x2,x3,_) =>
 bif
 decide
 (0 ≤
 if IntKind.i64.wrap ((↑x0.length:Int)+1)<x3 then IntKind.i64.wrap ((↑x0.length:Int)+1) else x3) &&
 (decide
 ((if IntKind.i64.wrap ((↑x0.length:Int)+1)<x3 then IntKind.i64.wrap ((↑x0.length:Int)+1) else x3) =
 if IntKind.i64.wrap ((↑x0.length:Int)+1)<x3 then IntKind.i64.wrap ((↑x0.length:Int)+1) else x3) &&
 (decide
 (((↑16:Int) *
 if IntKind.i64.wrap ((↑x0.length:Int)+1)<x3 then IntKind.i64.wrap ((↑x0.length:Int)+1)
 else x3) ≤
 281474976710656) &&
 decide
 ((if IntKind.i64.wrap ((↑x0.length:Int)+1)<x3 then IntKind.i64.wrap ((↑x0.length:Int)+1)
 else x3) ≤
 140737488355328))) then
 (f161_l0
 (x0,x1,x2,
 IntKind.i64.wrap
 ((if IntKind.i64.wrap ((↑x0.length:Int)+1)<x3 then IntKind.i64.wrap ((↑x0.length:Int)+1)
 else x3) -
 1),
 0,
 List.replicate
 (if IntKind.i64.wrap ((↑x0.length:Int)+1)<x3 then IntKind.i64.wrap ((↑x0.length:Int)+1)
 else x3).toNat
 [],
 ())).bind
 fun v =>
 bif decide (0≤v.2.1)&&decide (v.2.1<(↑(List.length v.2.2.1):Int)) then
 bif
 decide (0≤IntKind.i64.wrap (v.2.1+1)) &&
 decide
 (IntKind.i64.wrap (v.2.1+1) ≤
 (↑(List.set v.2.2.1 (Int.toNat v.2.1) v.1).length:Int)) then
 some
 (List.take (IntKind.i64.wrap (v.2.1+1)).toNat
 (List.set v.2.2.1 (Int.toNat v.2.1) v.1),
 ())
 else none
 else none
 else none
theorem k4b (f193:z0y) (f194:z0z) (f195:q6t) (f161_l0:q9l):AqC (k0u f193 f194 f195) 0 (qc (code Tryz.f161) [1,1,1,1]) (k2b f161_l0) w3c w6k (j5w f193 f194 f195 f161_l0):=fun v=>by kernel_rfl
def q7t:q4v:=j5w z8h z3p q2m j5d
theorem k6j:zb 0 (qc (code Tryz.f161) [1,1,1,1]) (y6m q7t) :=
 frd y4h (And.intro k6k trivial) (k4b z8h z3p q2m j5d)
def b5n (f161_c0:q4v):Ann:=(.seq .nil (.seq .nil (.seq .nil (.cut .nil (y6m f161_c0)))))
def v8b (f193:z0y) (f194:z0z) (f195:q6t) (f161_c0:q4v):v0i:=fun (x0,x1,x2,x3,_) =>
 bif x3==0 then some ([],())
 else
 bif x1==[] then (f193 (x0,x3,())).bind fun v=>some (v.1,())
 else
 bif decide (x3<0) then
 (f194 (x0,x1,())).bind fun v =>
 (f161_c0 (x0,x1,x2,IntKind.i64.wrap (v.1+1),())).bind fun v=>some (v.1,())
 else (f161_c0 (x0,x1,x2,x3,())).bind fun v=>some (v.1,())
theorem d0l (f193:z0y) (f194:z0z) (f195:q6t) (f161_c0:q4v):yb (k0u f193 f194 f195) 0 Tryz.f161 (b5n f161_c0) w3a z1u (v8b f193 f194 f195 f161_c0):=fun v=>by kernel_rfl
def y2j:v0i:=v8b z8h z3p q2m q7t
theorem f7t:FO 161 (g9l y2j) :=
 qo y4h Tryz.func161 (And.intro k6j trivial) (d0l z8h z3p q2m q7t)
abbrev x4f:=qa×qa×Unit→Option (List (qa)×Unit)
def g9b (f:x4f):FEnt:=⟨zy,z1u,f⟩
def b2k (f161:v0i):=lk [(161,g9l f161)]
def v7q (f161:v0i):x4f:=fun (x0,x1,_) =>
 (f161 (x0,x1,0,-1,())).bind fun v=>some (v.1,())
def z7y:x4f:=v7q y2j
theorem f7g:FO 125 (g9b z7y):=wz zy z1u b2k v7q y2j (kc f7t kn) Tryz.func125
abbrev z6g:=qa×Int×Int×Unit→Option ((qa×Unit)⊕(Bool×Unit))
def x9c (f:z6g):LEnt:=⟨w3d,w6l,f⟩
abbrev T47:=qa×Unit→Option (Bool×Unit)
def E47 (f:T47):FEnt:=⟨xi,qx,f⟩
def K47 (f90:T90):=lk [(90,E90 f90)]
theorem w7h:zm Tryz.prog (K47 C90):=(kc g7d kn)
def z5s (f90:T90):yn (qa×Int×Int×Unit) ((qa×Unit)⊕(Bool×Unit)):=fun (x0,x1,x2,_) =>
 bif decide (x2<x1) then
 bif decide (0≤x2)&&decide (x2<(↑x0.length:Int)) then
 (f90 ((↑(x0.getD x2.toNat 0).toNat:Int),())).bind fun v =>
 bif !v.1 then some (Sum.inr (Sum.inr (false,())))
 else some (Sum.inl (x0,x1,IntKind.i64.wrap (x2+1),()))
 else none
 else some (Sum.inr (Sum.inl (x0,())))
def y2r:z6g:=qd (z5s C90) jc
theorem g6h:jg 0 (qc (code Tryz.f47) [1,0,1,0,0]) (x9c y2r):=zl1 w3d w6l K47 z5s C90 w7h
def N47 (f47_l0:z6g):Ann:=(.seq .nil (.seq (.seq .nil (.blk (.loop (x9c f47_l0)))) .nil))
def F47 (f90:T90) (f47_l0:z6g):T47:=fun (x0,_) =>
 (f47_l0 (x0,(↑x0.length:Int),0,())).bind fun v =>
 Sum.elim (fun v=>some (bif v.1==[] then false else true,()))
 (fun v=>some (v.1,())) v
def C47:T47:=F47 C90 y2r
theorem d2j:FO 47 (E47 C47):=vz xi qx K47 N47 F47 C90 y2r w7h Tryz.func47 (And.intro g6h trivial)
abbrev z6j:=List (qa)×Int×Int×Unit→Option (Unit⊕(Bool×Unit))
def x9j (f:z6j):LEnt:=⟨w3e,w6m,f⟩
abbrev T88:=qa×Unit→Option (Bool×Unit)
def E88 (f:T88):FEnt:=⟨xi,qx,f⟩
def K88 (f125:x4f) (f47:T47):=lk [(125,g9b f125),(47,E47 f47)]
theorem w7l:zm Tryz.prog (K88 z7y C47):=(kc f7g (kc d2j kn))
def z5t (f125:x4f) (f47:T47):yn (List (qa)×Int×Int×Unit) (Unit⊕(Bool×Unit)):=fun (x0,x1,x2,_) =>
 bif decide (x2<x1) then
 bif decide (0≤x2)&&decide (x2<(↑x0.length:Int)) then
 (f47 (x0.getD x2.toNat [],())).bind fun v =>
 bif !v.1 then some (Sum.inr (Sum.inr (false,())))
 else some (Sum.inl (x0,x1,IntKind.i64.wrap (x2+1),()))
 else none
 else some (Sum.inr (Sum.inl ()))
def y2s:z6j:=qd (z5t z7y C47) jc
theorem g6o:jg 0 (qc (code Tryz.f88) [1,0,1,0,0]) (x9j y2s):=zl2 w3e w6m K88 z5t z7y C47 w7l
def N88 (f88_l0:z6j):Ann:=(.seq .nil (.seq (.seq .nil (.blk (.loop (x9j f88_l0)))) .nil))
def F88 (f125:x4f) (f47:T47) (f88_l0:z6j):T88:=fun (x0,_) =>
 (f125 (x0,[46],())).bind fun v =>
 (f88_l0 (v.1,(↑(List.length v.1):Int),0,())).bind fun v =>
 Sum.elim (fun v=>some (true,())) (fun v=>some (v.1,())) v
def C88:T88:=F88 z7y C47 y2s
theorem d2y:FO 88 (E88 C88):=j2c xi qx K88 N88 F88 z7y C47 y2s w7l Tryz.func88 (And.intro g6o trivial)
abbrev T45:=qa×qa×Unit→Option (qa×Unit)
def E45 (f:T45):FEnt:=⟨y9t,j8k,f⟩
def K45 (f88:T88) (f89:T89):=lk [(88,E88 f88),(89,E89 f89)]
def F45 (f88:T88) (f89:T89):T45:=fun (x0,x1,_) =>
 (f88 (x0,())).bind fun v =>
 bif !v.1 then
 (f89 (1,x0,0,())).bind fun v =>
 bif decide (List.length v.1+[64].length≤9223372036854775807) then
 bif decide ((v.1++[64]).length+x1.length≤9223372036854775807) then
 some (v.1++[64]++x1,())
 else none
 else none
 else
 bif decide (x0.length+[64].length≤9223372036854775807) then
 bif decide ((x0++[64]).length+x1.length≤9223372036854775807) then
 some (x0++[64]++x1,())
 else none
 else none
def C45:T45:=F45 C88 C89
theorem d2i:FO 45 (E45 C45):=zq2 y9t j8k K45 F45 C88 C89 (kc d2y (kc b1i kn)) Tryz.func45
abbrev T38:=qa×qa×Unit→Option (Bool×Unit)
def E38 (f:T38):FEnt:=⟨y9t,qx,f⟩
def F38:T38:=fun (x0,x1,_) =>
 bif decide ((↑x0.length:Int)≤150) then some (decide ((↑x1.length:Int)≤200),())
 else some (false,())
def C38:T38:=F38
theorem d2g:FO 38 (E38 C38):=zq0 y9t qx xj F38 kn Tryz.func38
abbrev T79:=Int×qa×Int×qa×Unit→Option (Bool×Unit)
def E79 (f:T79):FEnt:=⟨w3f,qx,f⟩
def F79:T79:=fun (x0,x1,x2,x3,_) =>
 bif x0==2 then some (x1==x3,()) else some (false,())
def C79:T79:=F79
theorem d2s:FO 79 (E79 C79):=zq0 w3f qx xj F79 kn Tryz.func79
abbrev T81:=Int×qa×Int×Unit→Option (Bool×Unit)
def E81 (f:T81):FEnt:=⟨y9q,qx,f⟩
def F81:T81:=fun (x0,x1,x2,_) =>
 bif x0==4 then some (true,()) else some (x0==3,())
def C81:T81:=F81
theorem d2u:FO 81 (E81 C81):=zq0 y9q qx xj F81 kn Tryz.func81
abbrev j6w:=LqD×Int×Int×Unit→Option (Unit⊕(Int×Unit))
def y5r (f:j6w):LEnt:=⟨w3g,j3u,f⟩
abbrev v0e:=LqD×Unit→Option (Int×Unit)
def g8w (f:v0e):FEnt:=⟨y9u,jd,f⟩
def g0o (f81:T81):=lk [(81,E81 f81)]
theorem v3j:zm Tryz.prog (g0o C81):=(kc d2u kn)
def j5r (f81:T81):yn (LqD×Int×Int×Unit) (Unit⊕(Int×Unit)):=fun (x0,x1,x2,_) =>
 bif decide (x2<x1) then
 bif decide (0≤x2)&&decide (x2<(↑x0.length:Int)) then
 (f81
 ((x0.getD x2.toNat (0,([],0))).1,
 (x0.getD x2.toNat (0,([],0))).2.1,
 (x0.getD x2.toNat (0,([],0))).2.2,())).bind
 fun v =>
 bif v.1 then some (Sum.inr (Sum.inr (x2,())))
 else some (Sum.inl (x0,x1,IntKind.i64.wrap (x2+1),()))
 else none
 else some (Sum.inr (Sum.inl ()))
def z3f:j6w:=qd (j5r C81) jc
theorem k5o:jg 0 (qc (code Tryz.f119) [1,0,1,0,0]) (y5r z3f):=zl1 w3g j3u g0o j5r C81 v3j
def b5a (f119_l0:j6w):Ann:=(.seq .nil (.seq (.seq .nil (.blk (.loop (y5r f119_l0)))) .nil))
def v7o (f81:T81) (f119_l0:j6w):v0e:=fun (x0,_) =>
 (f119_l0 (x0,(↑x0.length:Int),0,())).bind fun v =>
 Sum.elim (fun v=>some (-1,())) (fun v=>some (v.1,())) v
def x7i:v0e:=v7o C81 z3f
theorem f7b:FO 119 (g8w x7i):=vz y9u jd g0o b5a v7o C81 z3f v3j Tryz.func119 (And.intro k5o trivial)
abbrev T80:=LqD×Unit→Option (Bool×Unit)
def E80 (f:T80):FEnt:=⟨y9u,qx,f⟩
def K80 (f119:v0e):=lk [(119,g8w f119)]
def F80 (f119:v0e):T80:=fun (x0,_) =>
 (f119 (x0,())).bind fun v=>some (decide (v.1≥0),())
def C80:T80:=F80 x7i
theorem d2t:FO 80 (E80 C80):=wz y9u qx K80 F80 x7i (kc f7b kn) Tryz.func80
end Go.Proofs.YtiacnhhmkdkpmaaGreatDoorA.W
set_option linter.unusedSimpArgs false
namespace Go.Proofs.YtiacnhhmkdkpmaaGreatDoorA.W
open Go Go.Ae
theorem wr {n:Int} (h1 : -9223372036854775808≤n) (h2:n≤9223372036854775807):IntKind.i64.wrap n=n:=by rw [IntKind.wrap_i64];omega
theorem wrN (n:Nat) (h:n≤9223372036854775806):IntKind.i64.wrap ((n:Int)+1)=((n+1:Nat):Int):=by rw [wr]<;>omega
theorem x1v (b:UInt8):UInt8.ofNat b.toNat=b:=by simp
theorem byte_back (b:UInt8):UInt8.ofNat ((b.toNat:Int)).toNat=b:=by simp
theorem getD_lt {α:Type} {l:List α} {i:Nat} {d:α} (h:i<l.length):l.getD i d=l[i]:=by simp [List.getD_eq_getElem?_getD,List.getElem?_eq_getElem h]
def q0d (c:UInt8):List UInt8:=if c.toNat=34∨c.toNat=92 then [92,c] else [c]
def esc (s:List UInt8):List UInt8:=s.flatMap q0d
theorem v2s (c:UInt8):(q0d c).length≤2:=by unfold q0d;split<;>simp
theorem j1f:∀s:List UInt8,(esc s).length≤2*s.length
 | []=>by simp [esc]
 | c::s=>by have:=j1f s;have:=v2s c;simp [esc] at *;omega
theorem y3t (s t:List UInt8):esc (s++t)=esc s++esc t:=by simp [esc]
theorem ql {α:Type} {s:List α} {k:Nat} (h:k<s.length):s.take (k+1)=s.take k++[s[k]]:=by
 rw [List.take_add_one,List.getElem?_eq_getElem h];rfl
theorem v2t {s:List UInt8} {k:Nat} (h:k<s.length):esc (s.take (k+1))=esc (s.take k)++q0d s[k]:=by
 rw [ql h,y3t];simp [esc]
theorem ibT {a b:Int} (h:a=b):(a==b)=true:=by simp [h]
theorem ibF {a b:Int} (h:a≠b):(a==b)=false:=by simp [h]
theorem inT {a b:Int} (h:a≠b):(a != b)=true:=by simp [h]
theorem inF {a b:Int} (h:a=b):(a != b)=false:=by simp [h]
theorem y2c {a:UInt8} {n:Nat} (h:a.toNat=n):a=UInt8.ofNat n:=by subst h;simp
theorem g5a {c:UInt8} (h:c.toNat=34):q0d c=[92]++[c]:=by simp [q0d,h]
theorem g4y {c:UInt8} (h:c.toNat=92):q0d c=[92]++[c]:=by simp [q0d,h]
theorem g4z {c:UInt8} (h:¬c.toNat=34) (h2:¬c.toNat=92):q0d c=[c]:=by simp [q0d,h,h2]
theorem r14 (s:List UInt8) (k:Nat) (acc:List UInt8) (h:k<s.length) (hb:s.length≤9223372036854775806) (ha:acc.length+2≤140737488355328) :
 kh (s,(s.length:Int),(k:Int),acc,())=some (.inl (s,(s.length:Int),((k+1:Nat):Int),acc++q0d s[k],())):=by
 by_cases e1:s[k].toNat=34
 · simp (disch:=omega) only [kh,decide_eq_true,cond_true,Bool.and_self,List.length_append,List.length_cons,List.length_nil,getD_lt,byte_back,wrN,Int.toNat_natCast,ibT,g5a,List.append_assoc,x1v]
 · by_cases e2:s[k].toNat=92
   · simp (disch:=omega) only [kh,decide_eq_true,cond_true,cond_false,Bool.and_self,List.length_append,List.length_cons,List.length_nil,getD_lt,byte_back,wrN,Int.toNat_natCast,ibT,ibF,g4y,List.append_assoc,x1v]
   · simp (disch:=omega) only [kh,decide_eq_true,cond_true,cond_false,Bool.and_self,List.length_append,List.length_cons,List.length_nil,getD_lt,byte_back,wrN,Int.toNat_natCast,ibT,ibF,g4z,List.append_assoc,x1v]
theorem c14 (s:List UInt8) (hb:s.length≤70368744177663):x7k (s,())=some (esc s,()):=by
 have key:∀(k:Nat) (n:Nat),k≤s.length→s.length - k<n→qd kh n (s,(s.length:Int),(k:Int),esc (s.take k),())=some (esc s,()):=by
  intro k n
  induction n generalizing k with
  | zero=>intro _ h;omega
  | succ n ih =>
   intro hk hn;by_cases h:k<s.length
   · have hl:=j1f (s.take k)
     rw [jf (r14 s k _ h (by omega) (by simp only [List.length_take] at hl;omega)),←v2t h];exact ih (k+1) (by omega) (by omega)
   · have:k=s.length:=by omega
     subst this;refine qh ?_;simp [kh]
 have:=key 0 jc (by omega) (by unfold jc;omega);simp only [List.take_zero] at this;show v7r q7j (s,())=_;simp only [v7r,q7j];rw [show qd kh jc (s,(s.length:Int),0,[],())=some (esc s,()) from this];rfl
def src (k:Int) (s:List UInt8):List UInt8:=if k=1 then [34]++esc s++[34] else if k=3 then [40]++s++[41] else if k=5 then [91]++s++[93] else s
theorem c9 (k:Int) (s:List UInt8) (a:Int) (hb:s.length≤9000):C89 (k,s,a,())=some (src k s,()):=by
 have hl:=j1f s;show F89 x7k (k,s,a,())=_;by_cases e1:k=1
 · simp (disch:=omega) only [F89,c14,ibT,cond_true,decide_eq_true,List.length_append,List.length_cons,List.length_nil,Option.bind_some,src,if_pos]
 · by_cases e3:k=3
   · simp (disch:=omega) only [F89,ibT,ibF,cond_true,cond_false,decide_eq_true,List.length_append,List.length_cons,List.length_nil,Option.bind_some,src,if_pos,if_neg]
   · by_cases e5:k=5
     · simp (disch:=omega) only [F89,ibT,ibF,cond_true,cond_false,decide_eq_true,List.length_append,List.length_cons,List.length_nil,Option.bind_some,src,if_pos,if_neg]
     · simp (disch:=omega) only [F89,ibT,ibF,cond_true,cond_false,src,if_neg]
abbrev T64:=Int×Unit→Option (Int×Unit)
def E64 (f:T64):FEnt:=⟨j4r,w6n,f⟩
def F64:T64:=fun (x0,_) =>
 bif decide (x0≥65) then
 bif decide (x0≤90) then some (IntKind.u8.wrap (IntKind.u8.wrap (x0 - 65)+97),())
 else some (x0,())
 else some (x0,())
def C64:T64:=F64
theorem d2p:FO 64 (E64 C64):=zq0 j4r w6n xj F64 kn Tryz.func64
abbrev z6h:=qa×Int×Int×qa×Unit→Option (qa×Unit)
def x9d (f:z6h):LEnt:=⟨w3i,w6p,f⟩
abbrev T63:=qa×Unit→Option (qa×Unit)
def E63 (f:T63):FEnt:=⟨w3h,w6o,f⟩
def K63 (f64:T64):=lk [(64,E64 f64)]
theorem w7i:zm Tryz.prog (K63 C64):=(kc d2p kn)
def j8j (f64:T64):yn (qa×Int×Int×qa×Unit) (qa×Unit):=fun (x0,x1,x2,x3,_) =>
 bif decide (x2<x1) then
 bif decide (0≤x2)&&decide (x2<(↑x0.length:Int)) then
 (f64 ((↑(UInt8.toNat (x0.getD x2.toNat 0)):Int),())).bind fun v =>
 bif decide (x3.length+[UInt8.ofNat (Int.toNat v.1)].length≤140737488355328/1) then
 some (Sum.inl (x0,x1,IntKind.i64.wrap (x2+1),x3++[UInt8.ofNat (Int.toNat v.1)],()))
 else none
 else none
 else some (Sum.inr (x3,()))
def j8e:z6h:=qd (j8j C64) jc
theorem g6i:jg 0 (qc (code Tryz.f63) [1,1,0,1,0,0]) (x9d j8e):=zl1 w3i w6p K63 j8j C64 w7i
def N63 (f63_l0:z6h):Ann:=(.seq .nil (.seq .nil (.seq (.seq .nil (.blk (.loop (x9d f63_l0)))) .nil)))
def F63 (f64:T64) (f63_l0:z6h):T63:=fun (x0,_) =>
 (f63_l0 (x0,(↑x0.length:Int),0,[],())).bind fun v=>some (v.1,())
def C63:T63:=F63 C64 j8e
theorem d2o:FO 63 (E63 C63):=vz w3h w6o K63 N63 F63 C64 j8e w7i Tryz.func63 (And.intro g6i trivial)
abbrev T25:=qa×Unit→Option (qa×Unit)
def E25 (f:T25):FEnt:=⟨xi,j8k,f⟩
def K25 (f63:T63):=lk [(63,E63 f63)]
def F25 (f63:T63):T25:=fun (x0,_) =>
 bif decide (x0.length≤9223372036854775807) then (f63 (x0,())).bind fun v=>some (v.1,()) else none
def C25:T25:=F25 C63
theorem f9a:FO 25 (E25 C25):=wz xi j8k K25 F25 C63 (kc d2o kn) Tryz.func25
abbrev T59:=Bool×qa×qa×Unit→Option (Bool×Unit)
def E59 (f:T59):FEnt:=⟨y9v,qx,f⟩
def K59 (f25:T25):=lk [(25,E25 f25)]
def F59 (f25:T25):T59:=fun (x0,x1,x2,_) =>
 bif !x0 then
 bif x2==[] then
 (f25 (x1,())).bind fun v =>
 some (v.1==[112,111,115,116,109,97,115,116,101,114],())
 else some (false,())
 else some (false,())
def kz:T59:=F59 C25
theorem k9m:FO 59 (E59 kz):=wz y9v qx K59 F59 C25 (kc f9a kn) Tryz.func59
abbrev j2z:=qp×qq×qu×Bool×qa×qa×Bool×qa×qa×Unit→Option (Int×Bool×qa×qa×Unit)
def x8y (f:j2z):LEnt:=⟨w3j,z1v,f⟩
abbrev j3a:=Int×LqD×Int×qp×qq×qu×Bool×qa×qa×Bool×qa×qa×Unit→Option ((Int×Bool×qa×qa×Unit)⊕(Int×Bool×qa×qa×Unit))
def x8z (f:j3a):LEnt:=⟨y9w,w6r,f⟩
abbrev j3b:=Int×LqD×Int×qp×qq×qu×Bool×qa×qa×Bool×qa×qa×Unit→Option ((Int×Bool×qa×qa×Unit)⊕(Int×Bool×qa×qa×Unit))
def x9a (f:j3b):LEnt:=⟨y9w,w6s,f⟩
abbrev j8y:=Int×Bool×qa×qa×Unit→Option (Int×Bool×qa×qa×Unit)
def x9b (f:j8y):LEnt:=⟨z1t,z1v,f⟩
abbrev T40:=qp×qq×qu×qa×Unit→Option (Bool×qa×qa×Int×Unit)
def E40 (f:T40):FEnt:=⟨vp,w6q,f⟩
def K40 (f44:T44) (f59:T59) (f67:T67) (f71:T71) (f79:T79) (f80:T80):=lk [(44,E44 f44),(59,E59 f59),(67,E67 f67),(71,E71 f71),(79,E79 f79),(80,E80 f80)]
theorem y0q:zm Tryz.prog (K40 C44 kz C67 C71 C79 C80):=(kc b1e (kc k9m (kc b1f (kc d2q (kc d2s (kc d2t kn))))))
def j2o (f44:T44) (f59:T59) (f67:T67) (f71:T71) (f79:T79) (f80:T80):j2z:=fun (x0,x1,x2,x3,x4,x5,x6,x7,x8,_) =>
 (f44 (x0,x1,x2,x7,x8,())).bind fun v =>
 bif v.1==0 then some (0,x6,x7,x8,()) else some (v.1,false,[],[],())
theorem g5l (f44:T44) (f59:T59) (f67:T67) (f71:T71) (f79:T79) (f80:T80):AqC (K40 f44 f59 f67 f71 f79 f80) 0 (qc (code Tryz.f40) [1,0,1,1,1,1,1,1,1,1,1,1,1]) .nil w3j z1v (j2o f44 f59 f67 f71 f79 f80):=fun v=>by kernel_rfl
def q6o:j2z:=j2o C44 kz C67 C71 C79 C80
theorem g6d:zb 0 (qc (code Tryz.f40) [1,0,1,1,1,1,1,1,1,1,1,1,1]) (x8y q6o) :=
 frc y0q (g5l C44 kz C67 C71 C79 C80)
def g2c (f40_c0:j2z):Ann:=(.cut .nil (x8y f40_c0))
def j2p (f44:T44) (f59:T59) (f67:T67) (f71:T71) (f79:T79) (f80:T80) (f40_c0:j2z):j3a:=fun (x0,x1,x2,x3,x4,x5,x6,x7,x8,x9,x10,x11,_) =>
 bif decide (0≤x0)&&decide (x0≤(↑x1.length:Int)) then
 bif decide (1≤x0) then
 (f71 (List.drop 1 (List.take x0.toNat x1),())).bind fun v =>
 bif !v.2.2.2.1 then some (Sum.inl (x2,x6,x7,x8,()))
 else
 bif v.2.2.1 != IntKind.i64.wrap (x0 - 1) then some (Sum.inl (x2,x6,x7,x8,()))
 else
 (f40_c0 (x3,x4,x5,x6,x7,x8,x9,v.1,v.2.1,())).bind fun v =>
 some (Sum.inr (v.1,v.2.1,v.2.2.1,v.2.2.2.1,()))
 else none
 else none
theorem g5m (f44:T44) (f59:T59) (f67:T67) (f71:T71) (f79:T79) (f80:T80) (f40_c0:j2z):AqC (K40 f44 f59 f67 f71 f79 f80) 0 (qc (code Tryz.f40) [1,0,1,1,1,1,1,1,1,1,1,1]) (g2c f40_c0) y9w w6r (j2p f44 f59 f67 f71 f79 f80 f40_c0):=fun v=>by kernel_rfl
def kx:j3a:=j2p C44 kz C67 C71 C79 C80 q6o
theorem g6e:zb 0 (qc (code Tryz.f40) [1,0,1,1,1,1,1,1,1,1,1,1]) (x8z kx) :=
 frd y0q (And.intro g6d trivial) (g5m C44 kz C67 C71 C79 C80 q6o)
def g2d (f40_c1:j3a):Ann:=(.seq .nil (.seq .nil (.cut .nil (x8z f40_c1))))
def q2t (f44:T44) (f59:T59) (f67:T67) (f71:T71) (f79:T79) (f80:T80) (f40_c1:j3a):j3b:=fun (x0,x1,x2,x3,x4,x5,x6,x7,x8,x9,x10,x11,_) =>
 bif x0==1 then some (Sum.inl (0,true,[],[],()))
 else
 bif decide (1<(↑x1.length:Int)) then
 bif x0==2 then
 bif decide (1<(↑x1.length:Int)) then
 bif (x1.getD 1 (0,([],0))).1==0 then
 (f59
 (x9,
 (x1.getD 1 (0,([],0))).2.1,
 x11,())).bind
 fun v =>
 bif v.1 then
 some
 (Sum.inl
 (0,x9,
 (x1.getD 1 (0,([],0))).2.1,
 x11,()))
 else
 (f40_c1
 (x0,x1,x2,x3,x4,x5,x6,x7,x8,x9,
 (x1.getD 1
 (0,([],0))).2.1,
 x11,())).bind
 fun v =>
 Sum.elim
 (fun v=>some (Sum.inr (v.1,v.2.1,v.2.2.1,v.2.2.2.1,())))
 (fun v=>some (Sum.inl (v.1,v.2.1,v.2.2.1,v.2.2.2.1,())))
 v
 else
 (f40_c1
 (x0,x1,x2,x3,x4,x5,x6,x7,x8,x9,
 (x1.getD 1 (0,([],0))).2.1,
 x11,())).bind
 fun v =>
 Sum.elim
 (fun v=>some (Sum.inr (v.1,v.2.1,v.2.2.1,v.2.2.2.1,())))
 (fun v=>some (Sum.inl (v.1,v.2.1,v.2.2.1,v.2.2.2.1,()))) v
 else none
 else
 (f40_c1
 (x0,x1,x2,x3,x4,x5,x6,x7,x8,x9,
 (x1.getD 1 (0,([],0))).2.1,x11,
 ())).bind
 fun v =>
 Sum.elim (fun v=>some (Sum.inr (v.1,v.2.1,v.2.2.1,v.2.2.2.1,())))
 (fun v=>some (Sum.inl (v.1,v.2.1,v.2.2.1,v.2.2.2.1,()))) v
 else none
theorem g5n (f44:T44) (f59:T59) (f67:T67) (f71:T71) (f79:T79) (f80:T80) (f40_c1:j3a):AqC (K40 f44 f59 f67 f71 f79 f80) 0 (qc (code Tryz.f40) [1,0,1,1,1,1,1,1,1]) (g2d f40_c1) y9w w6s (q2t f44 f59 f67 f71 f79 f80 f40_c1):=fun v=>by kernel_rfl
def ky:j3b:=q2t C44 kz C67 C71 C79 C80 kx
theorem g6f:zb 0 (qc (code Tryz.f40) [1,0,1,1,1,1,1,1,1]) (x9a ky) :=
 frd y0q (And.intro g6e trivial) (g5n C44 kz C67 C71 C79 C80 kx)
def j8i (f44:T44) (f59:T59) (f67:T67) (f71:T71) (f79:T79) (f80:T80):yn (Int×Bool×qa×qa×Unit) (Int×Bool×qa×qa×Unit):=fun (x0,x1,x2,x3,_) =>
 some (Sum.inr (x0,false,[],[],()))
theorem g5o (f44:T44) (f59:T59) (f67:T67) (f71:T71) (f79:T79) (f80:T80) (v:HS z1t):aev Γ (K40 f44 f59 f67 f71 f79 f80) 0 ((findLabel (qc (code Tryz.f40) [1,0]) 0).getD .skip) .nil (x7d z1t v) (kl 0 0 [] z1t z1v)=j8i f44 f59 f67 f71 f79 f80 v:=by kernel_rfl
def q2p:j8y:=qd (j8i C44 kz C67 C71 C79 C80) jc
theorem g6g:jp Tryz.prog 0 (jo Tryz.prog (qc (code Tryz.f40) [1,0]) 0) (x9b q2p) :=
 zw (ins:=z1t) (os:=z1v) (C:=q2p) (q1p (ins:=z1t) (os:=z1v) (n := .nil) (ls:=[]) (F:=j8i C44 kz C67 C71 C79 C80) (rest:=((findLabel (qc (code Tryz.f40) [1,0]) 0).getD .skip)) hm hΓ y0q (fun _=>jc) (by kernel_rfl) (ji _) q3d (g5o C44 kz C67 C71 C79 C80)) rfl
def N40 (f40_c2:j3b) (f40_g0:j8y):Ann:=(.seq .nil (.scope (.seq .nil (.seq .nil (.seq .nil (.seq .nil (.seq .nil (.seq .nil (.cut .nil (x9a f40_c2)))))))) [(0,(x9b f40_g0))]))
def F40 (f44:T44) (f59:T59) (f67:T67) (f71:T71) (f79:T79) (f80:T80) (f40_c2:j3b) (f40_g0:j8y):T40:=fun (x0,x1,x2,x3,_) =>
 (f67 (x3,())).bind fun v =>
 bif v.2.2.1 != 0 then
 (f40_g0 (v.2.2.1,false,[],[],())).bind fun v =>
 some (v.2.1,v.2.2.1,v.2.2.2.1,v.1,())
 else
 bif decide (IntKind.i64.wrap ((↑(List.length v.1):Int) - 1)<1) then
 (f40_g0 (4,false,[],[],())).bind fun v =>
 some (v.2.1,v.2.2.1,v.2.2.2.1,v.1,())
 else
 bif decide (0<(↑(List.length v.1):Int)) then
 (f79
 ((List.getD v.1 0
 (0,([],0))).1,
 (List.getD v.1 0
 (0,([],0))).2.1,
 (List.getD v.1 0
 (0,([],0))).2.2,
 [60],())).bind
 fun v1 =>
 bif !v1.1 then
 (f40_g0 (4,false,[],[],())).bind fun v =>
 some (v.2.1,v.2.2.1,v.2.2.2.1,v.1,())
 else
 bif
 decide (0≤IntKind.i64.wrap ((↑(List.length v.1):Int) - 1)) &&
 decide (IntKind.i64.wrap ((↑(List.length v.1):Int) - 1)<(↑(List.length v.1):Int)) then
 (f79
 ((List.getD v.1 (IntKind.i64.wrap ((↑(List.length v.1):Int) - 1)).toNat
 (0,([],0))).1,
 (List.getD v.1 (IntKind.i64.wrap ((↑(List.length v.1):Int) - 1)).toNat
 (0,([],0))).2.1,
 (List.getD v.1 (IntKind.i64.wrap ((↑(List.length v.1):Int) - 1)).toNat
 (0,([],0))).2.2,
 [62],())).bind
 fun v2 =>
 bif !v2.1 then
 (f40_g0 (4,false,[],[],())).bind fun v =>
 some (v.2.1,v.2.2.1,v.2.2.2.1,v.1,())
 else
 bif
 decide (0≤IntKind.i64.wrap ((↑(List.length v.1):Int) - 1)) &&
 decide
 (IntKind.i64.wrap ((↑(List.length v.1):Int) - 1)≤(↑(List.length v.1):Int)) then
 bif decide (1≤IntKind.i64.wrap ((↑(List.length v.1):Int) - 1)) then
 (f80
 (List.drop 1
 (List.take (IntKind.i64.wrap ((↑(List.length v.1):Int) - 1)).toNat v.1),
 ())).bind
 fun v3 =>
 bif v3.1 then
 (f40_g0 (4,false,[],[],())).bind fun v =>
 some (v.2.1,v.2.2.1,v.2.2.2.1,v.1,())
 else
 (f40_c2
 (IntKind.i64.wrap ((↑(List.length v.1):Int) - 1),v.1,4,x0,x1,x2,false,
 [],[],false,[],[],())).bind
 fun v =>
 Sum.elim
 (fun v=>some (v.2.1,v.2.2.1,v.2.2.2.1,v.1,()))
 (fun v =>
 (f40_g0 (v.1,v.2.1,v.2.2.1,v.2.2.2.1,())).bind
 fun v =>
 some (v.2.1,v.2.2.1,v.2.2.2.1,v.1,()))
 v
 else none
 else none
 else none
 else none
theorem h40 (f44:T44) (f59:T59) (f67:T67) (f71:T71) (f79:T79) (f80:T80) (f40_c2:j3b) (f40_g0:j8y):yb (K40 f44 f59 f67 f71 f79 f80) 0 Tryz.f40 (N40 f40_c2 f40_g0) vp w6q (F40 f44 f59 f67 f71 f79 f80 f40_c2 f40_g0):=fun v=>by kernel_rfl
def C40:T40:=F40 C44 kz C67 C71 C79 C80 ky q2p
theorem b1c:FO 40 (E40 C40) :=
 qo y0q Tryz.func40 (And.intro g6f (And.intro g6g trivial)) (h40 C44 kz C67 C71 C79 C80 ky q2p)
abbrev T22:=Bool×qa×qa×Unit→Option (qa×Unit)
def E22 (f:T22):FEnt:=⟨y9v,j8k,f⟩
def K22 (f45:T45) (f59:T59):=lk [(45,E45 f45),(59,E59 f59)]
def F22 (f45:T45) (f59:T59):T22:=fun (x0,x1,x2,_) =>
 bif x0 then some ([60,62],())
 else
 (f59 (x0,x1,x2,())).bind fun v =>
 bif v.1 then
 bif decide ([60].length+x1.length≤9223372036854775807) then
 bif decide (([60]++x1).length+[62].length≤9223372036854775807) then
 some ([60]++x1++[62],())
 else none
 else none
 else
 (f45 (x1,x2,())).bind fun v =>
 bif decide ([60].length+List.length v.1≤9223372036854775807) then
 bif decide (([60]++v.1).length+[62].length≤9223372036854775807) then
 some ([60]++v.1++[62],())
 else none
 else none
def C22:T22:=F22 C45 kz
theorem f8l:FO 22 (E22 C22):=zq2 y9v j8k K22 F22 C45 kz (kc d2i (kc k9m kn)) Tryz.func22
abbrev j8p:=Bool×qp×qq×qu×Bool×qa×qa×Unit→Option ((Int×Unit)⊕(qp×qq×qu×Bool×qa×qa×Unit))
def x8m (f:j8p):LEnt:=⟨w3k,w6t,f⟩
abbrev T20:=qp×qq×qu×Bool×qa×qa×Unit→Option (Int×Unit)
def E20 (f:T20):FEnt:=⟨y9x,jd,f⟩
def K20 (f44:T44) (f59:T59):=lk [(44,E44 f44),(59,E59 f59)]
theorem w7g:zm Tryz.prog (K20 C44 kz):=(kc b1e (kc k9m kn))
def q2s (f44:T44) (f59:T59):j8p:=fun (x0,x1,x2,x3,x4,x5,x6,_) =>
 bif x0 then some (Sum.inl (1,()))
 else
 bif x4 then some (Sum.inl (0,()))
 else
 (f59 (x4,x5,x6,())).bind fun v =>
 bif v.1 then some (Sum.inl (0,())) else some (Sum.inr (x1,x2,x3,x4,x5,x6,()))
def kw:j8p:=q2s C44 kz
theorem g6b:zb 0 (qc (code Tryz.f20) [1,0,0,1]) (x8m kw):=zc2 w3k w6t K20 q2s C44 kz w7g
def N20 (f20_c0:j8p):Ann:=(.seq .nil (.seq (.blk (.cut .nil (x8m f20_c0))) .nil))
def F20 (f44:T44) (f59:T59) (f20_c0:j8p):T20:=fun (x0,x1,x2,x3,x4,x5,_) =>
 bif x3 then
 (f20_c0 (!(x4==[]&&(x5==[]&&true)),x0,x1,x2,x3,x4,x5,())).bind fun v =>
 Sum.elim (fun v=>some (v.1,()))
 (fun v =>
 (f44 (v.1,v.2.1,v.2.2.1,v.2.2.2.2.1,v.2.2.2.2.2.1,())).bind
 fun v=>some (v.1,()))
 v
 else
 (f20_c0 (false,x0,x1,x2,x3,x4,x5,())).bind fun v =>
 Sum.elim (fun v=>some (v.1,()))
 (fun v =>
 (f44 (v.1,v.2.1,v.2.2.1,v.2.2.2.2.1,v.2.2.2.2.2.1,())).bind
 fun v=>some (v.1,()))
 v
def C20:T20:=F20 C44 kz kw
theorem g7a:FO 20 (E20 C20):=j2c y9x jd K20 N20 F20 C44 kz kw w7g Tryz.func20 (And.intro g6b trivial)
abbrev q4w:=Int×Bool×qp×qq×qu×Unit→Option ((Bool×Unit)⊕(Int×qp×qq×qu×Unit))
def y6p (f:q4w):LEnt:=⟨w3l,w6u,f⟩
abbrev x4l:=qp×qq×qu×Int×Unit→Option (Bool×Unit)
def g9r (f:x4l):FEnt:=⟨Li0,qx,f⟩
def g0t (f215:j2w) (f216:q5v) (f217:j8r):=lk [(215,v7k f215),(216,x8o f216),(217,w9g f217)]
theorem v3n:zm Tryz.prog (g0t j4l zp q2k):=(kc v5m (kc x1x (kc w8a kn)))
def z4v (f215:j2w) (f216:q5v) (f217:j8r):q4w:=fun (x0,x1,x2,x3,x4,_) =>
 bif x1 then some (Sum.inl (true,()))
 else
 (f215 (x2,x3,x4,x0,())).bind fun v =>
 bif v.1==1 then
 (f216 (x2,x3,x4,x0,())).bind fun v =>
 bif !v.2.2.2.2.2.1 then some (Sum.inl (true,()))
 else
 bif !v.2.2.2.1 then some (Sum.inl (bif v.2.2.2.2.1 then false else true,()))
 else some (Sum.inl (false,()))
 else some (Sum.inr (x0,x2,x3,x4,()))
theorem k4d (f215:j2w) (f216:q5v) (f217:j8r):AqC (g0t f215 f216 f217) 0 (qc (code Tryz.f184) [1,0,0,1]) .nil w3l w6u (z4v f215 f216 f217):=fun v=>by kernel_rfl
def q7v:q4w:=z4v j4l zp q2k
theorem k6m:zb 0 (qc (code Tryz.f184) [1,0,0,1]) (y6p q7v) :=
 frc v3n (k4d j4l zp q2k)
def b5p (f184_c0:q4w):Ann:=(.seq .nil (.seq (.blk (.cut .nil (y6p f184_c0))) .nil))
def w9y (f215:j2w) (f216:q5v) (f217:j8r) (f184_c0:q4w):x4l:=fun (x0,x1,x2,x3,_) =>
 bif decide (x3≥33) then
 (f184_c0 (x3,decide (x3≤126),x0,x1,x2,())).bind fun v =>
 Sum.elim (fun v=>some (v.1,()))
 (fun v =>
 (f217 (v.2.1,v.2.2.1,v.2.2.2.1,v.1,())).bind fun v =>
 some (v.1,()))
 v
 else
 (f184_c0 (x3,false,x0,x1,x2,())).bind fun v =>
 Sum.elim (fun v=>some (v.1,()))
 (fun v =>
 (f217 (v.2.1,v.2.2.1,v.2.2.2.1,v.1,())).bind fun v =>
 some (v.1,()))
 v
theorem d0o (f215:j2w) (f216:q5v) (f217:j8r) (f184_c0:q4w):yb (g0t f215 f216 f217) 0 Tryz.f184 (b5p f184_c0) Li0 qx (w9y f215 f216 f217 f184_c0):=fun v=>by kernel_rfl
def x7n:x4l:=w9y j4l zp q2k q7v
theorem f8a:FO 184 (g9r x7n) :=
 qo v3n Tryz.func184 (And.intro k6m trivial) (d0o j4l zp q2k q7v)
abbrev x4k:=Int×qp×qq×qu×List (Int)×Unit→Option (Bool×qp×qq×qu×List (Int)×Unit)
def g9q (f:x4k):FEnt:=⟨w3m,j3t,f⟩
def b3b (f183:z5w) (f184:x4l):=lk [(183,w9b f183),(184,g9r f184)]
def w9x (f183:z5w) (f184:x4l):x4k:=fun (x0,x1,x2,x3,x4,_) =>
 (f183 (x1,x2,x3,x4,x0,())).bind fun v =>
 bif v.1==2 then some (true,x1,x2,x3,x4,())
 else
 bif v.1==0 then
 bif decide (0≤x0)&&decide (x0<(↑x4.length:Int)) then
 (f184 (x1,x2,x3,x4.getD x0.toNat 0,())).bind fun v =>
 some (bif v.1 then false else true,x1,x2,x3,x4,())
 else none
 else some (false,x1,x2,x3,x4,())
theorem d0m (f183:z5w) (f184:x4l):yb (b3b f183 f184) 2 Tryz.f182 .nil w3m j3t (w9x f183 f184):=fun v=>by kernel_rfl
def z8g:x4k:=w9x j4j x7n
theorem f7z:FO 182 (g9q z8g) :=
 q0 (kc w7v (kc f8a kn)) Tryz.func182 (d0m j4j x7n)
abbrev j6y:=Int×Int×qp×qq×qu×List (Int)×Unit→Option (Unit⊕(Int×Unit))
def y6i (f:j6y):LEnt:=⟨w3n,w6v,f⟩
abbrev x4h:=qp×qq×qu×qa×Unit→Option (Int×Unit)
def g9j (f:x4h):FEnt:=⟨vp,jd,f⟩
def g0q (f182:x4k) (f83:T83):=lk [(182,g9q f182),(83,E83 f83)]
theorem v3k:zm Tryz.prog (g0q z8g C83):=(kc f7z (kc y1g kn))
def z4t (f182:x4k) (f83:T83):yn (Int×Int×qp×qq×qu×List (Int)×Unit) (Unit⊕(Int×Unit)):=fun (x0,x1,x2,x3,x4,x5,_) =>
 bif decide (x1<x0) then
 (f182 (x1,x2,x3,x4,x5,())).bind fun v =>
 bif v.1 then some (Sum.inr (Sum.inr (8,())))
 else
 some
 (Sum.inl
 (x0,IntKind.i64.wrap (x1+1),v.2.1,v.2.2.1,v.2.2.2.1,v.2.2.2.2.1,
 ()))
 else some (Sum.inr (Sum.inl ()))
def z3h:j6y:=qd (z4t z8g C83) jc
theorem k6f:jg 0 (qc (code Tryz.f152) [1,1,1,1,0,1,0,0]) (y6i z3h):=zl2 w3n w6v g0q z4t z8g C83 v3k
def b5k (f152_l0:j6y):Ann:=(.seq .nil (.seq .nil (.seq .nil (.seq .nil (.seq (.seq .nil (.blk (.loop (y6i f152_l0)))) .nil)))))
def w9u (f182:x4k) (f83:T83) (f152_l0:j6y):x4h:=fun (x0,x1,x2,x3,_) =>
 (f83 (x3,())).bind fun v =>
 bif decide (v.2.1≥0) then some (7,())
 else
 bif (↑(List.length v.1):Int)==0 then some (13,())
 else
 (f152_l0 ((↑(List.length v.1):Int),0,x0,x1,x2,v.1,())).bind fun v =>
 Sum.elim (fun v=>some (0,())) (fun v=>some (v.1,())) v
def x7l:x4h:=w9u z8g C83 z3h
theorem f7p:FO 152 (g9j x7l):=j2c vp jd g0q b5k w9u z8g C83 z3h v3k Tryz.func152 (And.intro k6f trivial)
abbrev z8v:=qp×qq×qu×qa×Unit→Option (qa×Int×Unit)
def g8x (f:z8v):FEnt:=⟨vp,q8z,f⟩
def b2h (f151:z0w) (f152:x4h) (f153:q5u) (f154:z5v) (f83:T83):=lk [(151,w8x f151),(152,g9j f152),(153,v7f f153),(154,w8y f154),(83,E83 f83)]
def w9t (f151:z0w) (f152:x4h) (f153:q5u) (f154:z5v) (f83:T83):z8v:=fun (x0,x1,x2,x3,_) =>
 (f151 (x0,x1,x2,x3,())).bind fun v =>
 bif !v.2.1 then some ([],7,())
 else
 (f152 (x0,x1,x2,v.1,())).bind fun v1 =>
 bif v1.1 != 0 then some ([],v1.1,())
 else
 (f83 (v.1,())).bind fun v2 =>
 (f153 (x0,x1,x2,v2.1,())).bind fun v3 =>
 bif v3.1 then
 (f154 (x0,x1,x2,v2.1,())).bind fun v4 =>
 bif !v4.1 then some ([],9,()) else some (v.1,0,())
 else some (v.1,0,())
theorem b9z (f151:z0w) (f152:x4h) (f153:q5u) (f154:z5v) (f83:T83):yb (b2h f151 f152 f153 f154 f83) 0 Tryz.f120 .nil vp q8z (w9t f151 f152 f153 f154 f83):=fun v=>by kernel_rfl
def z7x:z8v:=w9t j2d x7l q6j y2g C83
theorem f7c:FO 120 (g8x z7x) :=
 q0 (kc v5g (kc f7p (kc v5h (kc w7s (kc y1g kn))))) Tryz.func120 (b9z j2d x7l q6j y2g C83)
abbrev j3c:=qp×qq×qu×qa×qa×qa×qa×Unit→Option (qa×qa×Unit)
def x9f (f:j3c):LEnt:=⟨w3o,w6x,f⟩
abbrev T82:=qp×qq×qu×qa×qa×Unit→Option (qa×qa×Unit)
def E82 (f:T82):FEnt:=⟨y9s,w6w,f⟩
def K82 (f120:z8v) (f25:T25) (f86:T86) (f87:T87):=lk [(120,g8x f120),(25,E25 f25),(86,E86 f86),(87,E87 f87)]
theorem w7k:zm Tryz.prog (K82 z7x C25 C86 C87):=(kc f7c (kc f9a (kc b1g (kc b1h kn))))
def y2w (f120:z8v) (f25:T25) (f86:T86) (f87:T87):j3c:=fun (x0,x1,x2,x3,x4,x5,x6,_) =>
 (f86 (x4,())).bind fun v =>
 bif v.1 then (f25 (x4,())).bind fun v=>some (x3,v.1,())
 else
 (f87 (x0,x1,x2,x4,())).bind fun v =>
 bif v.2.1==0 then some (x3,v.1,()) else some (x3,x4,())
theorem g5p (f120:z8v) (f25:T25) (f86:T86) (f87:T87):AqC (K82 f120 f25 f86 f87) 0 (qc (code Tryz.f82) [1,1]) .nil w3o w6x (y2w f120 f25 f86 f87):=fun v=>by kernel_rfl
def j8g:j3c:=y2w z7x C25 C86 C87
theorem g6k:zb 0 (qc (code Tryz.f82) [1,1]) (x9f j8g) :=
 frc w7k (g5p z7x C25 C86 C87)
def N82 (f82_c0:j3c):Ann:=(.seq .nil (.cut .nil (x9f f82_c0)))
def F82 (f120:z8v) (f25:T25) (f86:T86) (f87:T87) (f82_c0:j3c):T82:=fun (x0,x1,x2,x3,x4,_) =>
 (f120 (x0,x1,x2,x3,())).bind fun v =>
 bif v.2.1==0 then
 (f82_c0 (x0,x1,x2,v.1,x4,[],[],())).bind fun v=>some (v.1,v.2.1,())
 else (f82_c0 (x0,x1,x2,x3,x4,[],[],())).bind fun v=>some (v.1,v.2.1,())
theorem h82 (f120:z8v) (f25:T25) (f86:T86) (f87:T87) (f82_c0:j3c):yb (K82 f120 f25 f86 f87) 0 Tryz.f82 (N82 f82_c0) y9s w6w (F82 f120 f25 f86 f87 f82_c0):=fun v=>by kernel_rfl
def C82:T82:=F82 z7x C25 C86 C87 j8g
theorem d2v:FO 82 (E82 C82) :=
 qo w7k Tryz.func82 (And.intro g6k trivial) (h82 z7x C25 C86 C87 j8g)
abbrev T42:=qp×qq×qu×Bool×qa×qa×Unit→Option (Bool×qa×qa×Unit)
def E42 (f:T42):FEnt:=⟨y9x,w6y,f⟩
def K42 (f59:T59) (f82:T82):=lk [(59,E59 f59),(82,E82 f82)]
def F42 (f59:T59) (f82:T82):T42:=fun (x0,x1,x2,x3,x4,x5,_) =>
 bif x3 then some (true,[],[],())
 else
 (f59 (x3,x4,x5,())).bind fun v =>
 bif v.1 then some (false,[112,111,115,116,109,97,115,116,101,114],[],())
 else (f82 (x0,x1,x2,x4,x5,())).bind fun v=>some (false,v.1,v.2.1,())
def C42:T42:=F42 kz C82
theorem d2h:FO 42 (E42 C42):=zq2 y9x w6y K42 F42 kz C82 (kc k9m (kc d2v kn)) Tryz.func42
abbrev T41:=qp×qq×qu×Bool×qa×qa×Bool×qa×qa×Unit→Option (Bool×Unit)
def E41 (f:T41):FEnt:=⟨w3p,qx,f⟩
def K41 (f20:T20) (f42:T42):=lk [(20,E20 f20),(42,E42 f42)]
def F41 (f20:T20) (f42:T42):T41:=fun (x0,x1,x2,x3,x4,x5,x6,x7,x8,_) =>
 (f20 (x0,x1,x2,x3,x4,x5,())).bind fun v =>
 bif v.1==0 then
 (f20 (x0,x1,x2,x6,x7,x8,())).bind fun v =>
 bif v.1==0 then
 (f42 (x0,x1,x2,x3,x4,x5,())).bind fun v =>
 (f42 (x0,x1,x2,x6,x7,x8,())).bind fun v1 =>
 some
 (bif v.1==v1.1 then
 bif v.2.1==v1.2.1&&(v.2.2.1==v1.2.2.1&&true) then true
 else false
 else false,
 ())
 else some (false,())
 else some (false,())
def C41:T41:=F41 C20 C42
theorem b1d:FO 41 (E41 C41):=zq2 w3p qx K41 F41 C20 C42 (kc g7a (kc d2h kn)) Tryz.func41
abbrev T37:=Unit→Option (Bool×Unit)
def E37 (f:T37):FEnt:=⟨Li7,qx,f⟩
def K37 (f18:T18) (f20:T20) (f22:T22) (f40:T40) (f41:T41):=lk [(18,E18 f18),(20,E20 f20),(22,E22 f22),(40,E40 f40),(41,E41 f41)]
def C37:T37:=fun _=>some (true,())
theorem h37:y3l Γ (K37 C18 C20 C22 C40 C41) 0 Tryz.f37.ntmps Tryz.f37.results.toList (code Tryz.f37) .nil (em id Li7 ()).1 (em id Li7 ()).2 (j9y 0 qx)=some (true,()):=by kernel_rfl
theorem d2f:FO 37 (E37 C37) :=
 q0 (kc f7x (kc g7a (kc f8l (kc b1c (kc b1d kn))))) Tryz.func37 (fun v=>h37)
def Df {α:Type} (x:Option α) (Q:α→Prop):Prop:=∃y,x=some y∧Q y
section
variable {α β γ:Type} {Q:α→Prop}
theorem dP {y:α} (h:Q y):Df (some y) Q:=⟨y,rfl,h⟩
theorem dO (h:False):Df (none:Option α) Q:=h.elim
theorem dZ {x:Option β} {f:β→Option α} {P:β→Prop} (h:Df x P) (hf:∀a,P a→Df (f a) Q):Df (x.bind f) Q:=by
 obtain ⟨a,rfl,ha⟩:=h;exact hf a ha
theorem Df.mono {x:Option α} {P:α→Prop} (h:Df x P) (hf:∀a,P a→Q a):Df x Q:=by
 obtain ⟨a,e,ha⟩:=h;exact ⟨a,e,hf a ha⟩
theorem Df.and {x:Option α} {P P':α→Prop} (h:Df x P) (h':Df x P'):Df x fun y=>P y∧P' y:=by
 obtain ⟨a,e,ha⟩:=h;obtain ⟨b,e',hb⟩:=h';rw [e] at e';cases e';exact ⟨a,e,ha,hb⟩
theorem dB {b:Bool} {x y:Option α} (h1:b=true→Df x Q) (h2:b=false→Df y Q):Df (bif b then x else y) Q:=by
 cases b
 · exact h2 rfl
 · exact h1 rfl
theorem dH {b:Bool} {x y:Option α} (h1:b=false→Df x Q) (h2:b=true→Df y Q):Df (bif !b then x else y) Q:=by
 cases b
 · exact h1 rfl
 · exact h2 rfl
theorem dD {p:Prop} {dp:Decidable p} {x y:Option α} (h1:p→Df x Q) (h2:¬p→Df y Q):Df (bif decide p then x else y) Q:=by
 by_cases h:p
 · rw [decide_eq_true h];exact h1 h
 · rw [decide_eq_false h];exact h2 h
theorem dG {a b:Int} {x y:Option α} (h1:a=b→Df x Q) (h2:a≠b→Df y Q):Df (bif a==b then x else y) Q:=by
 by_cases h:a=b
 · rw [ibT h];exact h1 h
 · rw [ibF h];exact h2 h
class Rd (b:Bool) (p q:outParam Prop):Prop where
 t:b=true→p
 f:b=false→q
instance (priority := low) (b : Bool) : Rd b (b = true) (b = false) := ⟨id, id⟩
instance (b : Bool) : Rd (!b) (b = false) (b = true) := ⟨fun h => by cases b <;> simp_all, fun h => by cases b <;> simp_all⟩
instance (p : Prop) [Decidable p] : Rd (decide p) p (¬ p) := ⟨of_decide_eq_true, of_decide_eq_false⟩
instance (p : Prop) [Decidable p] : Rd (!decide p) (¬ p) p := ⟨fun h => by simpa using h, fun h => by simpa using h⟩
instance (p q : Prop) [Decidable p] [Decidable q] : Rd (decide p && decide q) (p ∧ q) (¬ (p ∧ q)) := ⟨fun h => by simpa using h, fun h => by simpa using h⟩
instance (a b : Int) : Rd (a == b) (a = b) (a ≠ b) := ⟨fun h => by simpa using h, fun h => by simpa using h⟩
instance (a b : Int) : Rd (a != b) (a ≠ b) (a = b) := ⟨fun h => by simpa using h, fun h => by simpa using h⟩
theorem dX {b:Bool} {p q:Prop} [r:Rd b p q] {x y:Option α} (h1:p→Df x Q) (h2:q→Df y Q):Df (bif b then x else y) Q:=by
 have h:b=true∨b=false:=by cases b<;>simp
 rcases h with h | h
 · rw [h];exact h1 (r.t h)
 · rw [h];exact h2 (r.f h)
theorem dS {f:β→Option α} {g:γ→Option α} {s:β⊕γ} {P:β→Prop} {P':γ→Prop} (hs:Sum.elim P P' s) (h1:∀a,P a→Df (f a) Q) (h2:∀b,P' b→Df (g b) Q):Df (Sum.elim f g s) Q:=by
 cases s with
 | inl a=>exact h1 a hs
 | inr b=>exact h2 b hs
theorem Df.loop {F:β→Option (β⊕α)} (I:β→Prop) (μ:β→Nat) (h:∀v,I v→Df (F v) (Sum.elim (fun v'=>I v'∧μ v'<μ v) Q)) (n:Nat) (v:β) (hv:I v) (hn:μ v<n):Df (qd F n v) Q:=by
 refine y0u I Q μ (fun v hv => ?_) n v hv hn;obtain ⟨y,e,hy⟩:=h v hv;cases y with
 | inl v'=>exact .inl ⟨v',e,hy.1,hy.2⟩
 | inr y=>exact .inr ⟨y,e,hy⟩
theorem dL {F:β→Option (β⊕α)} (I:β→Prop) (μ:β→Nat) (h:∀v,I v→Df (F v) (Sum.elim (fun v'=>I v'∧μ v'<μ v) Q)) (v:β) (hv:I v) (hn:μ v<1000000000000000000):Df (qd F jc v) Q :=
 Df.loop I μ h jc v hv (by unfold jc;omega)
end
theorem v6y (n:Int):IntKind.i64.wrap n=(n+9223372036854775808)%18446744073709551616 - 9223372036854775808:=by rw [IntKind.wrap_i64]
theorem d4q (n:Int):IntKind.i32.wrap n=(n+2147483648)%4294967296 - 2147483648:=by
 simp [IntKind.wrap,IntKind.bits,IntKind.signed];split<;>omega
theorem b2c (n:Int):IntKind.u64.wrap n=n%18446744073709551616:=IntKind.wrap_u64 n
theorem qg {n:Int} (h : -9000000000000000000≤n∧n≤9000000000000000000):IntKind.i64.wrap n=n:=by rw [v6y];omega
theorem g8o {n:Int} (h : -2000000000≤n∧n≤2000000000):IntKind.i32.wrap n=n:=by rw [d4q];omega
theorem v4o {a b:Int} (ha:0≤a) (hb:0≤b) (h:a+b≤9000000000000000000):IntKind.i64.wrap ((IntKind.u64.wrap (IntKind.i64.wrap (a+b))).fdiv (2^min 1 IntKind.u64.bits))=(a+b)/2:=by
 rw [qg (n:=a+b) (by omega),b2c,show (2:Int)^min 1 IntKind.u64.bits=2 from rfl,Int.fdiv_eq_ediv_of_nonneg _ (by omega),qg (by omega)];omega
theorem y0b (s:List UInt8) (p:Nat):1≤(wc s p).2:=by
 unfold wc Utf8.decode;dsimp only;repeat' split
 all_goals (first | omega | (dsimp only;omega))
theorem k3e (x:Int):Df (xb (x,())) (fun y=>y.1=true→0≤x∧x≤1114111):=by
 show Df (x9s _) _;unfold x9s;dsimp only;with_reducible repeat' (first | apply dP | apply dX<;>intro _)
 all_goals (dsimp only;intro h';first | omega | cases h')
theorem f5i (x:Int):Df (yz (x,())) (fun y=>0≤y.1∧y.1≤4):=by
 show Df (z8r xb _) _;unfold z8r;dsimp only;refine dZ (k3e x) ?_;rintro ⟨b,u⟩ hb;dsimp only;with_reducible repeat' (first | apply dP | apply dX<;>intro _)
 all_goals (first | omega | (dsimp only;omega))
theorem g2u (x:Int) (b:Bool):Df (q1g (x,b,())) (Sum.elim (fun y=>0≤y.1∧y.1≤3) (fun _=>True)):=by
 show Df (q3y _) _;unfold q3y;dsimp only;with_reducible repeat' (first | apply dP | apply dX<;>intro _)
 all_goals (first | trivial | exact ⟨by first | omega | (dsimp only;omega),by first | omega | (dsimp only;omega)⟩)
theorem g2v (x:Int) (b:Bool):Df (q1h (x,b,())) (Sum.elim (fun y=>0≤y.1∧y.1≤3) (fun _=>True)):=by
 show Df (q3z q1g _) _;unfold q3z;dsimp only;with_reducible repeat' (first | apply dP | apply dX<;>intro _)
 all_goals (first | trivial | exact ⟨by first | omega | (dsimp only;omega),by first | omega | (dsimp only;omega)⟩ | (refine dZ (g2u _ _) ?_;intro s hs;exact dS hs (fun a ha=>dP ha) (fun _ _=>dP trivial)))
theorem f5h (x:Int):Df (ka (x,())) (fun y => -1≤y.1∧y.1≤3):=by
 show Df (x3l q1h _) _;unfold x3l;dsimp only;with_reducible repeat' (first | apply dP | apply dX<;>intro _)
 all_goals (first | (first | omega | (dsimp only;omega)) | (refine dZ (g2v _ _) ?_;intro s hs;exact dS hs (fun a ha=>dP ⟨by have:=ha.1;dsimp only;omega,ha.2⟩) (fun _ _=>dP (by first | omega | (dsimp only;omega)))))
theorem f6i (s:List UInt8) (n r at_ k:Int) (o:List Int) (h:0≤at_) (hn:0≤n∧n≤3) (hl:at_+n<s.length) (hk:at_+1≤k) (hb:s.length≤1000000000000) :
 Df (q2r (s,n,r,at_,k,o,())) (Sum.elim (fun y=>y.1=s∧y.2.1=n∧y.2.2.2.1=at_∧y.2.2.2.2.1=o) (fun y=>y.1=at_∧y.2.1=o)):=by
 refine dL ?I ?m ?h _ ?hv ?hn
 case I=>exact (fun v=>v.1=s∧v.2.1=n∧v.2.2.2.1=at_∧v.2.2.2.2.2.1=o∧at_+1≤v.2.2.2.2.1)
 case m=>exact (fun v=>(at_+n+1 - v.2.2.2.2.1).toNat)
 case hv=>exact ⟨rfl,rfl,rfl,rfl,hk⟩
 case hn=>exact (by first | omega | (dsimp only;omega))
 rintro ⟨x0,x1,x2,x3,x4,x5,u⟩ hI;dsimp only at hI;obtain ⟨rfl,rfl,rfl,rfl,hI⟩:=hI;unfold q2v;dsimp only;rw [qg (n:=x3+x1) (by omega)];with_reducible repeat' (first | apply dP | apply dX<;>intro _)
 · exact ⟨rfl,rfl⟩
 · rw [qg (by omega)]
   exact ⟨⟨rfl,rfl,rfl,rfl,by first | omega | (dsimp only;omega)⟩,by first | omega | (dsimp only;omega)⟩
 · refine dO ?_;omega
 · refine dO ?_;omega
 · exact ⟨rfl,rfl,rfl,rfl⟩
theorem d83 (s:List UInt8) (hb:s.length≤1000000000000):Df (C83 (s,())) (fun y=>y.1.length≤s.length∧(y.2.1 = -1∨0≤y.2.1∧y.2.1<s.length)∧(y.2.1<0→0<s.length→0<y.1.length)):=by
 show Df (F83 ka yz q2q q6p _) _;unfold F83;dsimp only;refine dZ (P:=Sum.elim (fun y=>y.1.length≤s.length∧(0<s.length→0<y.1.length)) (fun y=>y.2.1.length≤s.length∧0≤y.1∧y.1<s.length)) ?_ ?_
 · refine dL ?I ?m ?h _ ?hv ?hn
   case I=>exact (fun v=>v.1=s∧0≤v.2.1∧v.2.1≤s.length∧v.2.2.1.length≤v.2.1∧(0<v.2.1→0<v.2.2.1.length))
   case m=>exact (fun v=>(s.length - v.2.1).toNat)
   case hv=>exact ⟨rfl,by first | omega | (dsimp only;omega),by first | omega | (dsimp only;omega),by simp,by simp⟩
   case hn=>exact (by first | omega | (dsimp only;omega))
   rintro ⟨x0,x1,x2,u⟩ hI;dsimp only at hI;obtain ⟨rfl,h0,h1,h2,h2'⟩:=hI;unfold vo;dsimp only;with_reducible repeat' (first | apply dP | apply dX<;>intro _)
   · refine dZ (f5h _) ?_
     rintro ⟨n,r,u⟩ hn;dsimp only at hn ⊢;rw [qg (n:=(x0.length:Int) - x1) (by omega)];with_reducible repeat' (first | apply dP | apply dX<;>intro _)
     · exact ⟨by first | omega | (dsimp only;omega),by first | omega | (dsimp only;omega),by first | omega | (dsimp only;omega)⟩
     · exact ⟨by first | omega | (dsimp only;omega),by first | omega | (dsimp only;omega),by first | omega | (dsimp only;omega)⟩
     · rw [qg (n:=x1+1) (by omega)]
       refine dZ (f6i x0 n r x1 (x1+1) x2 h0 (by omega) (by omega) (by omega) hb) ?_;intro s hs;refine dS hs ?_ ?_
       · rintro ⟨a0,a1,a2,a3,a4,u⟩ ha
         dsimp only at ha ⊢;obtain ⟨rfl,rfl,rfl,rfl⟩:=ha;refine dZ (f5i _) ?_;rintro ⟨m,u⟩ hm;dsimp only at hm ⊢;with_reducible repeat' (first | apply dP | apply dX<;>intro _)
         · exact ⟨by first | omega | (dsimp only;omega),by first | omega | (dsimp only;omega),by first | omega | (dsimp only;omega)⟩
         · rw [qg (n:=a1+1) (by omega),qg (by omega)]
           exact ⟨⟨rfl,by first | omega | (dsimp only;omega),by first | omega | (dsimp only;omega),by simp only [List.length_append,List.length_cons,List.length_nil];omega,fun _=>by simp only [List.length_append,List.length_cons,List.length_nil];omega⟩,by first | omega | (dsimp only;omega)⟩
         · refine dO ?_
           simp only [List.length_cons,List.length_nil] at *
           omega
       · rintro ⟨a0,a1,u⟩ ha
         dsimp only at ha ⊢;obtain ⟨rfl,rfl⟩:=ha;exact dP ⟨by first | omega | (dsimp only;omega),by first | omega | (dsimp only;omega),by first | omega | (dsimp only;omega)⟩
   · refine dO ?_;omega
   · exact ⟨by first | omega | (dsimp only;omega),fun _=>h2' (by omega)⟩
 · intro r hr
   refine dS hr ?_ ?_
   · rintro ⟨a,u⟩ ha
     exact dP ⟨ha.1,.inl rfl,fun _=>ha.2⟩
   · rintro ⟨a,b,u⟩ ha
     exact dP ⟨ha.1,.inr ha.2,fun h=>by have:=ha.2.1;dsimp only at h this;omega⟩
theorem x6h (l:List Int) (hb:l.length≤20000000000000):Df (z3k (l,())) (fun y=>y.1.length≤4*l.length):=by
 show Df (x3o yz q7u _) _;unfold x3o;dsimp only;refine dZ (P:=Sum.elim (fun y=>y.1.length≤4*l.length) (fun y=>y.1.length≤4*l.length)) ?_ ?_
 · refine dL ?I ?m ?h _ ?hv ?hn
   case I=>exact (fun v=>v.1=l∧v.2.1=l.length∧0≤v.2.2.1∧v.2.2.1≤l.length∧v.2.2.2.1.length≤4*v.2.2.1)
   case m=>exact (fun v=>(l.length - v.2.2.1).toNat)
   case hv=>exact ⟨rfl,rfl,by first | omega | (dsimp only;omega),by first | omega | (dsimp only;omega),by simp⟩
   case hn=>exact (by first | omega | (dsimp only;omega))
   rintro ⟨x0,x1,x2,x3,u⟩ hI;dsimp only at hI;obtain ⟨rfl,rfl,h0,h1,h2⟩:=hI;unfold j5y;dsimp only;with_reducible repeat' (first | apply dP | apply dX<;>intro _)
   · refine dZ (f5i _) ?_
     rintro ⟨m,u⟩ hm;dsimp only at hm ⊢;rw [qg (n:=x2+1) (by omega)];with_reducible repeat' (first | apply dP | apply dX<;>intro _)
     all_goals first
      | exact (by simp:(([]:List UInt8).length≤4*x0.length))
      | exact ⟨⟨rfl,rfl,by first | omega | (dsimp only;omega),by first | omega | (dsimp only;omega),by simp only [List.length_append,List.length_cons,List.length_nil];omega⟩,by first | omega | (dsimp only;omega)⟩
      | (refine dO ?_;simp only [List.length_cons,List.length_nil] at *;omega)
   · refine dO ?_;omega
   · exact (by first | omega | (dsimp only;omega):x3.length≤4*x0.length)
 · intro r hr
   refine dS hr ?_ ?_
   · rintro ⟨a,u⟩ ha;exact dP ha
   · rintro ⟨a,b,u⟩ ha;exact dP ha
theorem d21 (s:List UInt8) (hb:s.length≤1000000000000000):Df (C21 (s,())) (fun y=>y.1<s.length∧(y.1<0→∀c∈s,c.toNat<128)):=by
 show Df (F21 z3t _) _;unfold F21;dsimp only;refine dZ (P:=Sum.elim (fun y=>∀c∈s,c.toNat<128) (fun y=>0≤y.1∧y.1<s.length)) ?_ ?_
 · refine dL ?I ?m ?h _ ?hv ?hn
   case I=>exact (fun v=>v.1=s∧v.2.1=s.length∧0≤v.2.2.1∧v.2.2.1≤s.length∧∀c∈s.take v.2.2.1.toNat,c.toNat<128)
   case m=>exact (fun v=>(s.length - v.2.2.1).toNat)
   case hv=>exact ⟨rfl,rfl,by first | omega | (dsimp only;omega),by first | omega | (dsimp only;omega),by simp⟩
   case hn=>exact (by first | omega | (dsimp only;omega))
   rintro ⟨x0,x1,x2,u⟩ hI;dsimp only at hI;obtain ⟨rfl,rfl,h0,h1,h2⟩:=hI;unfold y2v;dsimp only;with_reducible repeat' (first | apply dP | apply dX<;>intro _)
   · exact ⟨by first | omega | (dsimp only;omega),by first | omega | (dsimp only;omega)⟩
   · rename_i h3 h4 h5
     rw [qg (n:=x2+1) (by omega)];have hlt:x2.toNat<x0.length:=by omega
     refine ⟨⟨rfl,rfl,by first | omega | (dsimp only;omega),by first | omega | (dsimp only;omega),?_⟩,by first | omega | (dsimp only;omega)⟩;dsimp only;intro c hc;rw [show (x2+1).toNat=x2.toNat+1 by omega,ql hlt] at hc;rcases List.mem_append.1 hc with hc | hc
     · exact h2 c hc
     · rw [List.mem_singleton] at hc
       rw [getD_lt hlt] at h5;subst hc;omega
   · refine dO ?_;omega
   · intro c hc
     refine h2 c ?_;rw [List.take_of_length_le (by omega)];exact hc
 · intro r hr
   refine dS hr ?_ ?_
   · intro u hu;exact dP ⟨by first | omega | (dsimp only;omega),fun _=>hu⟩
   · rintro ⟨a,u⟩ ha;exact dP ⟨ha.2,fun h=>by have:=ha.1;dsimp only at h this;omega⟩
abbrev R6:=Int×Int×Int×Int×Int×Int
abbrev R4:=Int×Int×Int×Int
abbrev R3:=Int×Int×Int
theorem f6d (a b c d e f g:Int):Df (z8n (a,b,c,d,e,f,g,())) (fun _=>True):=by
 show Df (v9v _) _;unfold v9v;dsimp only;with_reducible repeat' (first | apply dP | apply dX<;>intro _)
 all_goals trivial
theorem b9f (T:List R6) (r:Int) (hT:T.length≤1000000000000):Df (x7y (T,r,())) (fun y=>0≤y.1∧(y.2.1=true→y.1<T.length)):=by
 show Df (v9u z8n j5m _) _;unfold v9u;dsimp only;refine dZ (P:=fun y=>y.1=T∧y.2.2.1=T.length∧0≤y.2.2.2.1∧y.2.2.2.1≤T.length) ?_ ?_
 · refine dL ?I ?m ?h _ ?hv ?hn
   case I=>exact (fun v=>v.1=T∧v.2.2.1=T.length∧0≤v.2.2.2.1∧v.2.2.2.1≤v.2.2.2.2.1∧v.2.2.2.2.1≤T.length)
   case m=>exact (fun v=>(v.2.2.2.2.1 - v.2.2.2.1).toNat)
   case hv=>exact ⟨rfl,rfl,by first | omega | (dsimp only;omega),by first | omega | (dsimp only;omega),by first | omega | (dsimp only;omega)⟩
   case hn=>exact (by first | omega | (dsimp only;omega))
   rintro ⟨x0,x1,x2,x3,x4,u⟩ hI;dsimp only at hI;obtain ⟨rfl,rfl,h0,h1,h2⟩:=hI;unfold z5l;dsimp only;rw [v4o (by omega) (by omega) (by omega)];with_reducible repeat' (first | apply dP | apply dX<;>intro _)
   · refine dZ (f6d _ _ _ _ _ _ _) ?_
     rintro ⟨m,u⟩ -
     dsimp only;rw [qg (n:=(x3+x4)/2+1) (by omega)];with_reducible repeat' (first | apply dP | apply dX<;>intro _)
     · exact ⟨⟨rfl,rfl,by first | omega | (dsimp only;omega),by first | omega | (dsimp only;omega),by first | omega | (dsimp only;omega)⟩,by first | omega | (dsimp only;omega)⟩
     · exact ⟨⟨rfl,rfl,by first | omega | (dsimp only;omega),by first | omega | (dsimp only;omega),by first | omega | (dsimp only;omega)⟩,by first | omega | (dsimp only;omega)⟩
   · refine dO ?_;omega
   · exact ⟨rfl,rfl,by first | omega | (dsimp only;omega),by first | omega | (dsimp only;omega)⟩
 · rintro ⟨x0,x1,x2,x3,u⟩ hI
   dsimp only at hI ⊢;obtain ⟨rfl,rfl,h0,h1⟩:=hI;with_reducible repeat' (first | apply dP | apply dX<;>intro _)
   · refine dZ (f6d _ _ _ _ _ _ _) ?_
     rintro ⟨m,u⟩ -
     exact dP ⟨by first | omega | (dsimp only;omega),fun _=>by first | omega | (dsimp only;omega)⟩
   · refine dO ?_;omega
   · exact ⟨by first | omega | (dsimp only;omega),fun h=>by cases h⟩
theorem k3f (T:List R6) (A:List R4) (B:List R3) (r:Int) (hT:T.length≤1000000000000):Df (q8d (T,A,B,r,())) (fun y=>y.2.2.2.1=0∨∃e∈T,y.2.2.2.1=e.2.2.2.1):=by
 show Df (v9b x7y _) _;unfold v9b;dsimp only;refine dZ (b9f T r hT) ?_;rintro ⟨i,b,u⟩ h;dsimp only at h ⊢;with_reducible repeat' (first | apply dP | apply dX<;>intro _)
 · exact .inl rfl
 · rename_i h1
   have hlt:i.toNat<T.length:=by omega
   refine .inr ⟨T[i.toNat],List.getElem_mem hlt,?_⟩;dsimp only;rw [getD_lt hlt]
 · rename_i h1 h2
   have:=h.2 h1;refine dO ?_;omega
def TOk (T:List R6):Prop:=T.length≤1000000000000∧∀e∈T,0≤e.2.2.2.1∧e.2.2.2.1<8
theorem g3g (T:List R6) (A:List R4) (B:List R3) (r:Int) (hT:TOk T):Df (q6l (T,A,B,r,())) (fun y=>0≤y.1∧y.1<8):=by
 show Df (v8p q8d _) _;unfold v8p;dsimp only;refine dZ (k3f T A B r hT.1) ?_;rintro ⟨a,b,c,d,e,f,u⟩ h;dsimp only at h ⊢;refine dP ?_;rcases h with rfl | ⟨e,he,rfl⟩
 · exact ⟨by decide,by decide⟩
 · exact hT.2 e he
theorem g3e (T:List R6) (A:List R4) (B:List R3) (r:Int) (hT:TOk T):Df (j4l (T,A,B,r,())) (fun _=>True):=by
 show Df (v8n q8d _) _;unfold v8n;dsimp only;exact dZ (k3f T A B r hT.1) fun _ _=>dP trivial
theorem b9q (T:List R6) (A:List R4) (B:List R3) (r:Int) (hT:TOk T):Df (z8q (T,A,B,r,())) (fun _=>True):=by
 show Df (k0j q8d _) _;unfold k0j;dsimp only;exact dZ (k3f T A B r hT.1) fun _ _=>dP trivial
theorem g4a (T:List R6) (A:List R4) (B:List R3) (r:Int) (hT:TOk T):Df (j8d (T,A,B,r,())) (fun _=>True):=by
 show Df (k0g q8d _) _;unfold k0g;dsimp only;exact dZ (k3f T A B r hT.1) fun _ _=>dP trivial
theorem b9j (a b c d e:Int):Df (z8o (a,b,c,d,e,())) (fun _=>True):=by
 show Df (k0a _) _;unfold k0a;dsimp only;with_reducible repeat' (first | apply dP | apply dX<;>intro _)
 all_goals trivial
theorem b9i (A:List R4) (r:Int) (hA:A.length≤1000000000000):Df (x8b (A,r,())) (fun y=>y.1<A.length):=by
 show Df (v9z z8o j5n _) _;unfold v9z;dsimp only;refine dZ (P:=Sum.elim (fun _=>True) (fun y=>y.1<A.length)) ?_ ?_
 · refine dL ?I ?m ?h _ ?hv ?hn
   case I=>exact (fun v=>v.1=A∧v.2.1=A.length∧0≤v.2.2.1∧v.2.2.1≤A.length)
   case m=>exact (fun v=>(A.length - v.2.2.1).toNat)
   case hv=>exact ⟨rfl,rfl,by first | omega | (dsimp only;omega),by first | omega | (dsimp only;omega)⟩
   case hn=>exact (by first | omega | (dsimp only;omega))
   rintro ⟨x0,x1,x2,x3,u⟩ hI;dsimp only at hI;obtain ⟨rfl,rfl,h0,h1⟩:=hI;unfold z5o;dsimp only;with_reducible repeat' (first | apply dP | apply dX<;>intro _)
   · refine dZ (b9j _ _ _ _ _) ?_
     rintro ⟨m,m',u⟩ -
     dsimp only;rw [qg (n:=x2+1) (by omega)];with_reducible repeat' (first | apply dP | apply dX<;>intro _)
     · exact (by first | omega | (dsimp only;omega):x2<x0.length)
     · exact ⟨⟨rfl,rfl,by first | omega | (dsimp only;omega),by first | omega | (dsimp only;omega)⟩,by first | omega | (dsimp only;omega)⟩
   · refine dO ?_;omega
   · trivial
 · intro s hs
   refine dS hs ?_ ?_
   · rintro ⟨a,u⟩ -
     exact dP (by first | omega | (dsimp only;omega))
   · rintro ⟨a,b,u⟩ h
     exact dP h
theorem v2b (T:List R6) (A:List R4) (B:List R3) (r:Int) (hA:A.length≤1000000000000):Df (xc (T,A,B,r,())) (fun _=>True):=by
 show Df (v9k x8b _) _;unfold v9k;dsimp only;refine dZ (b9i A r hA) ?_;rintro ⟨i,b,u⟩ h;dsimp only at h ⊢;with_reducible repeat' (first | apply dP | apply dX<;>intro _)
 all_goals first | trivial | (refine dO ?_;omega)
theorem b8d (a b c d:Int):Df (z8k (a,b,c,d,())) (fun _=>True):=by
 show Df (v8u _) _;unfold v8u;dsimp only;with_reducible repeat' (first | apply dP | apply dX<;>intro _)
 all_goals trivial
theorem b8c (A:List R3) (r:Int) (hA:A.length≤1000000000000):Df (x7o (A,r,())) (fun y=>y.1<A.length):=by
 show Df (v8t z8k j5h _) _;unfold v8t;dsimp only;refine dZ (P:=Sum.elim (fun _=>True) (fun y=>y.1<A.length)) ?_ ?_
 · refine dL ?I ?m ?h _ ?hv ?hn
   case I=>exact (fun v=>v.1=A∧v.2.1=A.length∧0≤v.2.2.1∧v.2.2.1≤A.length)
   case m=>exact (fun v=>(A.length - v.2.2.1).toNat)
   case hv=>exact ⟨rfl,rfl,by first | omega | (dsimp only;omega),by first | omega | (dsimp only;omega)⟩
   case hn=>exact (by first | omega | (dsimp only;omega))
   rintro ⟨x0,x1,x2,x3,u⟩ hI;dsimp only at hI;obtain ⟨rfl,rfl,h0,h1⟩:=hI;unfold z5a;dsimp only;with_reducible repeat' (first | apply dP | apply dX<;>intro _)
   · refine dZ (b8d _ _ _ _) ?_
     rintro ⟨m,m',u⟩ -
     dsimp only;rw [qg (n:=x2+1) (by omega)];with_reducible repeat' (first | apply dP | apply dX<;>intro _)
     · exact (by first | omega | (dsimp only;omega):x2<x0.length)
     · exact ⟨⟨rfl,rfl,by first | omega | (dsimp only;omega),by first | omega | (dsimp only;omega)⟩,by first | omega | (dsimp only;omega)⟩
   · refine dO ?_;omega
   · trivial
 · intro s hs
   refine dS hs ?_ ?_
   · rintro ⟨a,u⟩ -
     exact dP (by first | omega | (dsimp only;omega))
   · rintro ⟨a,b,u⟩ h
     exact dP h
theorem b7x (T:List R6) (A:List R4) (B:List R3) (r:Int) (hB:B.length≤1000000000000):Df (j2g (T,A,B,r,())) (fun _=>True):=by
 show Df (v8k x7o _) _;unfold v8k;dsimp only;refine dZ (b8c B r hB) ?_;rintro ⟨i,b,u⟩ h;dsimp only at h ⊢;with_reducible repeat' (first | apply dP | apply dX<;>intro _)
 all_goals first | trivial | (refine dO ?_;omega)
theorem g3f (T:List R6) (A:List R4) (B:List R3) (r:Int):Df (zp (T,A,B,r,())) (fun _=>True):=by
 unfold zp;dsimp only;with_reducible repeat' (first | apply dP | apply dX<;>intro _)
 · trivial
 · cases q1z r with
   | none=>exact dP trivial
   | some s=>exact dP trivial
theorem b7y (T:List R6) (A:List R4) (B:List R3) (r:Int):Df (z0o (T,A,B,r,())) (fun _=>True):=by
 show Df (x3r zp _) _;unfold x3r;dsimp only;with_reducible repeat' (first | apply dP | apply dX<;>intro _)
 all_goals first | trivial | exact dZ (g3f T A B r) fun _ _=>dP trivial
theorem b7w (T:List R6) (A:List R4) (B:List R3) (l:List Int) (hl:l.length≤1000000000000):Df (x2w (l,T,A,B,())) (fun y=>y.1.length=l.length):=by
 show Df (x3q z0o q7x _) _;unfold x3q;dsimp only;refine dZ (P:=fun y=>y.1.length=l.length) ?_ (fun _ h=>dP h);refine dL ?I ?m ?h _ ?hv ?hn
 case I=>exact (fun v=>v.2.2.2.1=l∧v.2.2.2.2.1=l.length∧0≤v.2.2.2.2.2.1∧v.2.2.2.2.2.1≤l.length∧v.2.2.2.2.2.2.1.length=v.2.2.2.2.2.1)
 case m=>exact (fun v=>(l.length - v.2.2.2.2.2.1).toNat)
 case hv=>exact ⟨rfl,rfl,by first | omega | (dsimp only;omega),by first | omega | (dsimp only;omega),rfl⟩
 case hn=>exact (by first | omega | (dsimp only;omega))
 rintro ⟨x0,x1,x2,x3,x4,x5,x6,u⟩ hI;dsimp only at hI;obtain ⟨rfl,rfl,h0,h1,h2⟩:=hI;unfold j6a;dsimp only;with_reducible repeat' (first | apply dP | apply dX<;>intro _)
 · refine dZ (b7y _ _ _ _) ?_
   rintro ⟨m,u⟩ -
   dsimp only;rw [qg (n:=x5+1) (by omega)];with_reducible repeat' (first | apply dP | apply dX<;>intro _)
   · exact ⟨⟨rfl,rfl,by first | omega | (dsimp only;omega),by first | omega | (dsimp only;omega),by simp only [List.length_append,List.length_cons,List.length_nil];omega⟩,by first | omega | (dsimp only;omega)⟩
   · refine dO ?_;simp only [List.length_cons,List.length_nil] at *;omega
 · refine dO ?_;omega
 · exact (by first | omega | (dsimp only;omega):x6.length=x3.length)
theorem g3d (T:List R6) (A:List R4) (B:List R3) (hB:B.length≤1000000000000) (l:List Int) (hl:l.length≤1000000000000):Df (j2f (l,T,A,B,())) (fun y=>y.1.length=l.length):=by
 show Df (j2k j2g q0r _) _;unfold j2k;dsimp only;refine dZ (P:=fun y=>y.1.length=l.length) ?_ (fun _ h=>dP h);refine dL ?I ?m ?h _ ?hv ?hn
 case I=>exact (fun v=>v.2.2.1=B∧v.2.2.2.1=l∧v.2.2.2.2.1=l.length∧0≤v.2.2.2.2.2.1∧v.2.2.2.2.2.1≤l.length∧v.2.2.2.2.2.2.1.length=v.2.2.2.2.2.1)
 case m=>exact (fun v=>(l.length - v.2.2.2.2.2.1).toNat)
 case hv=>exact ⟨rfl,rfl,rfl,by first | omega | (dsimp only;omega),by first | omega | (dsimp only;omega),rfl⟩
 case hn=>exact (by first | omega | (dsimp only;omega))
 rintro ⟨x0,x1,x2,x3,x4,x5,x6,u⟩ hI;dsimp only at hI;obtain ⟨rfl,rfl,rfl,h0,h1,h2⟩:=hI;unfold q4c;dsimp only;with_reducible repeat' (first | apply dP | apply dX<;>intro _)
 · refine dZ (b7x _ _ _ _ hB) ?_
   rintro ⟨m,u⟩ -
   dsimp only;rw [qg (n:=x5+1) (by omega)];with_reducible repeat' (first | apply dP | apply dX<;>intro _)
   · exact ⟨⟨rfl,rfl,rfl,by first | omega | (dsimp only;omega),by first | omega | (dsimp only;omega),by simp only [List.length_append,List.length_cons,List.length_nil];omega⟩,by first | omega | (dsimp only;omega)⟩
   · refine dO ?_;simp only [List.length_cons,List.length_nil] at *;omega
 · refine dO ?_;omega
 · exact (by first | omega | (dsimp only;omega):x6.length=x3.length)
theorem f5n (T:List R6) (A:List R4) (B:List R3) (l:List Int) (hl:l.length≤1000000000000):Df (x2v (T,A,B,l,())) (fun y=>y.1.length=l.length):=by
 show Df (x9u x2w _) _;unfold x9u;dsimp only;exact dZ (b7w T A B l hl) fun _ h=>dP h
theorem f5m (T:List R6) (A:List R4) (B:List R3) (hB:B.length≤1000000000000) (l:List Int) (hl:l.length≤1000000000000):Df (x2u (T,A,B,l,())) (fun y=>y.1.length=l.length):=by
 show Df (x9t j2f _) _;unfold x9t;dsimp only;exact dZ (g3d T A B hB l hl) fun _ h=>dP h
theorem v2f (a b c:Int):Df (ya (a,b,c,())) (fun _=>True):=by
 show Df (z8s _) _;unfold z8s;dsimp only;with_reducible repeat' (first | apply dP | apply dX<;>intro _)
 all_goals trivial
theorem b9l (a:Int):Df (vm (a,())) (fun y=>y.1.length≤3):=by
 show Df (k0c _) _;unfold k0c;dsimp only;with_reducible repeat' (first | apply dP | apply dX<;>intro _)
 all_goals (dsimp only;simp)
theorem b9m (a b:List Int) (ha:a.length≤1000000) (hb:b.length≤1000000):Df (vg ([a,b],())) (fun y=>y.1.length=a.length+b.length):=by
 show Df (k0d z0r j5o j5p _) _;unfold k0d;dsimp only;refine dZ (P:=fun y=>y.1=[a,b]∧0≤y.2.1∧y.2.1≤2000000) ?_ ?_
 · refine dL ?I ?m ?h _ ?hv ?hn
   case I=>exact (fun v=>v.1=[a,b]∧v.2.2.1=[a,b]∧v.2.2.2.1=2∧((v.2.2.2.2.1=0∧v.2.1=0)∨(v.2.2.2.2.1=1∧v.2.1=a.length)∨(v.2.2.2.2.1=2∧v.2.1=a.length+b.length)))
   case m=>exact (fun v=>(2 - v.2.2.2.2.1).toNat)
   case hv=>exact ⟨rfl,rfl,rfl,.inl ⟨rfl,rfl⟩⟩
   case hn=>exact (by first | omega | (dsimp only;omega))
   rintro ⟨x0,x1,x2,x3,x4,u⟩ hI;dsimp only at hI;obtain ⟨rfl,rfl,rfl,hI⟩:=hI;unfold z5p;dsimp only;rcases hI with ⟨rfl,rfl⟩ | ⟨rfl,rfl⟩ | ⟨rfl,rfl⟩
   · have e:([a,b]:List (List Int)).getD (0:Int).toNat []=a:=rfl
     rw [e,qg (n:=0+(a.length:Int)) (by omega),qg (n:=(0:Int)+1) (by omega)];with_reducible repeat' (first | apply dP | apply dX<;>intro _)
     all_goals first
      | exact ⟨⟨rfl,rfl,rfl,.inr (.inl ⟨rfl,by first | omega | (dsimp only;omega)⟩)⟩,by first | omega | (dsimp only;omega)⟩
      | (refine dO ?_;simp only [List.length_cons,List.length_nil] at *;omega)
      | (exfalso;omega)
   · have e:([a,b]:List (List Int)).getD (1:Int).toNat []=b:=rfl
     rw [e,qg (n:=(a.length:Int)+(b.length:Int)) (by omega),qg (n:=(1:Int)+1) (by omega)];with_reducible repeat' (first | apply dP | apply dX<;>intro _)
     all_goals first
      | exact ⟨⟨rfl,rfl,rfl,.inr (.inr ⟨rfl,rfl⟩)⟩,by first | omega | (dsimp only;omega)⟩
      | (refine dO ?_;simp only [List.length_cons,List.length_nil] at *;omega)
      | (exfalso;omega)
   · with_reducible repeat' (first | apply dP | apply dX<;>intro _)
     all_goals first
      | exact ⟨rfl,by first | omega | (dsimp only;omega),by first | omega | (dsimp only;omega)⟩
      | (refine dO ?_;simp only [List.length_cons,List.length_nil] at *;omega)
      | (exfalso;omega)
 · rintro ⟨x0,x1,u⟩ hI
   dsimp only at hI ⊢;obtain ⟨rfl,h0,h1⟩:=hI;refine dZ (P:=fun y=>y.1=[]) ?_ ?_
   · unfold z0r
     dsimp only;with_reducible repeat' (first | apply dP | apply dX<;>intro _)
     · rfl
     · refine dO ?_;omega
   rintro ⟨x2,u⟩ hx;dsimp only at hx ⊢;subst hx;refine dZ (P:=fun y=>y.1.length=a.length+b.length) ?_ (fun _ h=>dP h);refine dL ?I ?m ?h _ ?hv ?hn
   case I=>exact (fun v=>v.1=[a,b]∧v.2.1=2∧((v.2.2.1=0∧v.2.2.2.1.length=0)∨(v.2.2.1=1∧v.2.2.2.1.length=a.length)∨(v.2.2.1=2∧v.2.2.2.1.length=a.length+b.length)))
   case m=>exact (fun v=>(2 - v.2.2.1).toNat)
   case hv=>exact ⟨rfl,rfl,.inl ⟨rfl,rfl⟩⟩
   case hn=>exact (by first | omega | (dsimp only;omega))
   rintro ⟨x0,x1,x2,x3,u⟩ hI;dsimp only at hI;obtain ⟨rfl,rfl,hI⟩:=hI;unfold z5q;dsimp only;rcases hI with ⟨rfl,hx⟩ | ⟨rfl,hx⟩ | ⟨rfl,hx⟩
   · have e:([a,b]:List (List Int)).getD (0:Int).toNat []=a:=rfl
     rw [e,qg (n:=(0:Int)+1) (by omega)];with_reducible repeat' (first | apply dP | apply dX<;>intro _)
     all_goals first
      | exact ⟨⟨rfl,rfl,.inr (.inl ⟨rfl,by simp only [List.length_append];omega⟩)⟩,by first | omega | (dsimp only;omega)⟩
      | (refine dO ?_;simp only [List.length_cons,List.length_nil] at *;omega)
      | (exfalso;omega)
   · have e:([a,b]:List (List Int)).getD (1:Int).toNat []=b:=rfl
     rw [e,qg (n:=(1:Int)+1) (by omega)];with_reducible repeat' (first | apply dP | apply dX<;>intro _)
     all_goals first
      | exact ⟨⟨rfl,rfl,.inr (.inr ⟨rfl,by simp only [List.length_append];omega⟩)⟩,by first | omega | (dsimp only;omega)⟩
      | (refine dO ?_;simp only [List.length_cons,List.length_nil] at *;omega)
      | (exfalso;omega)
   · with_reducible repeat' (first | apply dP | apply dX<;>intro _)
     all_goals first
      | exact hx
      | (refine dO ?_;simp only [List.length_cons,List.length_nil] at *;omega)
      | (exfalso;omega)
def nxt (r:Int):Option (Int×Int):=bif decide (65281≤r)&&decide (r≤65374) then some (r - 65248,0) else (q1z r).map fun s=>(s.2.1,s.2.2.1)
def dep:Nat→Int→Bool
 | 0,_=>false
 | n+1,r=>match nxt r with
  | none=>true
  | some (a,b)=>dep n a&&(b==0||dep n b)
theorem g4j:((List.range 94).all fun n=>dep 4 ((33+n:Nat):Int))=true:=by kernel_rfl
theorem g4k:(qw.all fun s=>dep 4 s.2.1&&(s.2.2.1==0||dep 4 s.2.2.1))=true:=by kernel_rfl
theorem k3k (r:Int):dep 5 r=true:=by
 unfold dep;cases h:nxt r with
 | none=>rfl
 | some p =>
  obtain ⟨a,b⟩:=p;dsimp only;unfold nxt at h;by_cases hw:65281≤r∧r≤65374
  · rw [decide_eq_true hw.1,decide_eq_true hw.2] at h
    simp only [Bool.and_self,cond_true,Option.some.injEq,Prod.mk.injEq] at h;obtain ⟨rfl,rfl⟩:=h;have:=List.all_eq_true.1 g4j (r - 65281).toNat (List.mem_range.2 (by omega))
    rw [show (((33+(r - 65281).toNat:Nat)):Int)=r - 65248 by omega] at this;rw [this];rfl
  · have e:(decide (65281≤r)&&decide (r≤65374))=false:=by simp;omega
    rw [e] at h;simp only [cond_false,Option.map_eq_some_iff] at h;obtain ⟨s,hs,he⟩:=h;have hm:s∈qw:=List.mem_of_find?_eq_some hs;have:=List.all_eq_true.1 g4k s hm;cases he;exact this
theorem f5b (T:List R6) (A:List R4) (B:List R3) (r:Int):Df (zp (T,A,B,r,())) (fun v=>v.2.2.2.2.2.1=false∨nxt r=some (v.2.1,v.2.2.1)):=by
 unfold zp nxt;dsimp only;with_reducible repeat' (first | apply dP | apply dX<;>intro _)
 · rename_i h
   refine .inr ?_;rw [decide_eq_true h.1,decide_eq_true h.2];rfl
 · rename_i h
   have e:(decide (65281≤r)&&decide (r≤65374))=false:=by simp;omega
   rw [e];cases q1z r with
   | none=>exact dP (.inl rfl)
   | some s=>exact dP (.inr rfl)
theorem v2c (G:q6u) (r:Int) (sf b:Bool) (T:List R6) (A:List R4) (B:List R3) (v0 a c:Int) (s o:Bool) (K:Nat) (hK:1≤K)
 (ha:b=false→c=0→Df (G (T,A,B,a,sf,())) (fun y=>y.1.length≤K)) :
 Df (yh zp G ya vm vg (r,sf,b,T,A,B,v0,a,c,s,o,())) (Sum.elim (fun y=>y.1.length≤K) (fun y=>y=(sf,T,A,B,v0,a,c,s,o,())∧b=false∧c≠0)):=by
 unfold yh;dsimp only;with_reducible repeat' (first | apply dP | apply dX<;>intro _)
 · exact (by simpa using hK:([r]:List Int).length≤K)
 · rename_i h1 h2
   exact dZ (ha h1 h2) fun y hy=>dP hy
 · rename_i h1 h2
   exact ⟨rfl,h1,h2⟩
theorem w7b (T:List R6) (A:List R4) (B:List R3):∀(n m:Nat) (r:Int) (sf:Bool),dep n r=true→n≤9 →
 Df (q1b (fun G=>j2l zp G ya vm vg (yh zp G ya vm vg)) (n+m) (T,A,B,r,sf,())) (fun y=>y.1.length≤3*2^n)
 | 0,m,r,sf,h,hn=>by cases h
 | n+1,m,r,sf,h,hn=>by
  rw [show n+1+m=(n+m)+1 by omega];show Df (j2l zp (q1b (fun G=>j2l zp G ya vm vg (yh zp G ya vm vg)) (n+m)) ya vm vg (yh zp (q1b (fun G=>j2l zp G ya vm vg (yh zp G ya vm vg)) (n+m)) ya vm vg) (T,A,B,r,sf,())) _;have ih:=w7b T A B n m;generalize q1b (fun G=>j2l zp G ya vm vg (yh zp G ya vm vg)) (n+m)=G at ih ⊢;have hp:3*2^n≤3*2^9:=Nat.mul_le_mul_left 3 (Nat.pow_le_pow_right (by omega) (by omega));have hp1:1≤2^n:=Nat.one_le_two_pow;have hp2:3*2^(n+1)=3*2^n+3*2^n:=by rw [Nat.pow_succ];omega
  generalize 3*2^n=K at ih hp hp2;have hK:3≤K∨True := .inr trivial;rw [hp2];have hK3:3≤K+K:=by
   have:3*2^1≤3*2^(n+1):=Nat.mul_le_mul_left 3 (Nat.pow_le_pow_right (by omega) (by omega));omega
  have ih':∀(r:Int) (sf:Bool),dep n r=true→Df (G (T,A,B,r,sf,())) (fun y=>y.1.length≤K):=fun r sf h=>ih r sf h (by omega);clear ih;unfold j2l;dsimp only;refine dZ (f5b T A B r) ?_;rintro ⟨v0,a,c,s,o,is,u⟩ hv;dsimp only at hv ⊢;refine dZ (v2f _ _ _) ?_;rintro ⟨b,u⟩ -
  dsimp only;have two:is=true→c≠0→∀sf,Df ((G (T,A,B,a,sf,())).bind fun val_2=>(G (T,A,B,c,sf,())).bind fun val=>(vg ([val_2.fst,val.fst],())).bind fun val=>some (val.fst,())) (fun y=>y.1.length≤K+K):=by
   intro his hc sf;rcases hv with rfl | hv
   · cases his
   · unfold dep at h
     rw [hv] at h;simp only [Bool.and_eq_true,Bool.or_eq_true,beq_iff_eq] at h;refine dZ (ih' a sf h.1) ?_;rintro ⟨p,u⟩ hp';refine dZ (ih' c sf (h.2.resolve_left hc)) ?_;rintro ⟨q,u⟩ hq;dsimp only at hp' hq ⊢;refine dZ (b9m p q (by omega) (by omega)) ?_;rintro ⟨z,u⟩ hz;exact dP (by dsimp only at hz ⊢;omega)
  have one:is=true→Df (G (T,A,B,a,sf,())) (fun y=>y.1.length≤K+K):=by
   intro his;rcases hv with rfl | hv
   · cases his
   · unfold dep at h
     rw [hv] at h;simp only [Bool.and_eq_true] at h;exact (ih' a sf h.1).mono fun _ h=>by omega
  with_reducible repeat' (first | apply dP | apply dX<;>intro _)
  · refine dZ (b9l _) ?_
    rintro ⟨l,u⟩ hl;exact dP (by dsimp only at hl ⊢;omega)
  · refine dZ (v2c G r sf true T A B v0 a c s o (K+K) (by omega) (fun h=>by cases h)) ?_
    intro z hz;refine dS hz (fun y hy=>dP hy) ?_;rintro y ⟨-,h,-⟩;cases h
  · rename_i h1 h2 h3
    refine dZ (v2c G r sf (!sf) T A B v0 a c s o (K+K) (by omega) (fun _ _=>one h2)) ?_;intro z hz;refine dS hz (fun y hy=>dP hy) ?_;rintro y ⟨rfl,-,hc⟩;exact two h2 hc sf
  · rename_i h1 h2 h3
    refine dZ (v2c G r sf false T A B v0 a c s o (K+K) (by omega) (fun _ _=>one h2)) ?_;intro z hz;refine dS hz (fun y hy=>dP hy) ?_;rintro y ⟨rfl,-,hc⟩;exact two h2 hc sf
theorem b8x (T:List R6) (A:List R4) (B:List R3) (r:Int) (sf:Bool):Df (z0q (T,A,B,r,sf,())) (fun y=>y.1.length≤96):=by
 obtain ⟨m,hm⟩:∃m,jc=5+m:=⟨jc - 5,by unfold jc;omega⟩
 show Df (q1b (fun G=>j2l zp G ya vm vg (yh zp G ya vm vg)) jc _) _;rw [hm];exact w7b T A B 5 m r sf (k3k r) (by omega)
theorem f5v (T:List R6) (A:List R4) (B:List R3) (l:List Int) (sf:Bool) (hl:l.length≤100000000000):Df (x7p (T,A,B,l,sf,())) (fun y=>y.1.length≤96*l.length):=by
 show Df (x3s z0q q8b _) _;unfold x3s;dsimp only;refine dZ (P:=fun y=>y.1.length≤96*l.length) ?_ (fun _ h=>dP h);refine dL ?I ?m ?h _ ?hv ?hn
 case I=>exact (fun v=>v.2.1=l∧v.2.2.1=l.length∧0≤v.2.2.2.1∧v.2.2.2.1≤l.length∧v.2.2.2.2.2.2.2.1.length≤96*v.2.2.2.1)
 case m=>exact (fun v=>(l.length - v.2.2.2.1).toNat)
 case hv=>exact ⟨rfl,rfl,by first | omega | (dsimp only;omega),by first | omega | (dsimp only;omega),by simp⟩
 case hn=>exact (by first | omega | (dsimp only;omega))
 rintro ⟨x0,x1,x2,x3,x4,x5,x6,x7,u⟩ hI;dsimp only at hI;obtain ⟨rfl,rfl,h0,h1,h2⟩:=hI;unfold j6g;dsimp only;with_reducible repeat' (first | apply dP | apply dX<;>intro _)
 · refine dZ (b8x _ _ _ _ _) ?_
   rintro ⟨z,u⟩ hz;dsimp only at hz ⊢;rw [qg (n:=x3+1) (by omega)];with_reducible repeat' (first | apply dP | apply dX<;>intro _)
   · exact ⟨⟨rfl,rfl,by first | omega | (dsimp only;omega),by first | omega | (dsimp only;omega),by simp only [List.length_append];omega⟩,by first | omega | (dsimp only;omega)⟩
   · refine dO ?_;omega
 · refine dO ?_;omega
 · exact (by first | omega | (dsimp only;omega):x7.length≤96*x1.length)
theorem b9n (T:List R6) (A:List R4) (B:List R3) (a b:Int):Df (q2o (T,A,B,a,b,())) (fun _=>True):=by
 unfold q2o;dsimp only;cases z0e a b with
 | none=>exact dP trivial
 | some s=>exact dP trivial
theorem g3t (a b:Int) (f:Bool) (T:List R6) (A:List R4) (B:List R3):Df (ke (a,b,f,T,A,B,())) (fun _=>True):=by
 show Df (q4e ya q2o _) _;unfold q4e;dsimp only;with_reducible repeat' (first | apply dP | apply dX<;>intro _)
 · trivial
 · refine dZ (v2f _ _ _) ?_
   rintro ⟨z,u⟩ -
   dsimp only;with_reducible repeat' (first | apply dP | apply dX<;>intro _)
   · refine dZ (v2f _ _ _) ?_
     rintro ⟨z,u⟩ -
     dsimp only;with_reducible repeat' (first | apply dP | apply dX<;>intro _)
     all_goals trivial
   all_goals trivial
theorem b8y (T:List R6) (A:List R4) (B:List R3) (a b:Int):Df (q8k (T,A,B,a,b,())) (fun _=>True):=by
 show Df (x3v ya q2o ke _) _;unfold x3v;dsimp only;have jv:∀f,Df ((ke (a,b,f,T,A,B,())).bind fun val=>Sum.elim (fun val=>some (val.fst,val.snd.fst,())) (fun val=>(q2o (val.snd.snd.fst,val.snd.snd.snd.fst,val.snd.snd.snd.snd.fst,val.fst,val.snd.fst,())).bind fun val=>some (val.fst,val.snd.fst,())) val) (fun _=>True):=by
  intro f;refine dZ (g3t a b f T A B) ?_;intro z hz;cases z with
  | inl y=>exact dP trivial
  | inr y=>exact dZ (b9n _ _ _ _ _) fun _ _=>dP trivial
 refine dZ (v2f _ _ _) ?_;rintro ⟨z,u⟩ -
 dsimp only;with_reducible repeat' (first | apply dP | apply dX<;>intro _)
 · refine dZ (v2f _ _ _) ?_
   rintro ⟨z,u⟩ -
   exact jv _
 · exact jv _
theorem g3n (x0 x1 x2 x3:Int) (x4:List Int) (x5 x6:Int) (x7:Bool) (x8:List R6) (x9:List R4) (x10:List R3) (x11:List Int) (h:x7=true→0≤x0∧x0<x11.length) :
 Df (q1k (x0,x1,x2,x3,x4,x5,x6,x7,x8,x9,x10,x11,())) (Sum.elim (fun y=>∃l',l'.length=x11.length∧y=(x0,x1,x4,x5,x6,x8,x9,x10,l',())) (fun y=>y=(x0,x1,x2,x3,x4,x5,x6,x8,x9,x10,x11,()))):=by
 show Df (q4d xc q8k _) _;unfold q4d;dsimp only;with_reducible repeat' (first | apply dP | apply dX<;>intro _)
 · refine dZ (b8y _ _ _ _ _) ?_
   rintro ⟨a,b,u⟩ -
   dsimp only;with_reducible repeat' (first | apply dP | apply dX<;>intro _)
   · exact ⟨_,List.length_set,rfl⟩
   · rename_i h1 h2 h3 h4
     exact absurd h2 h4
   · exact rfl
 · rename_i h1 h2
   exact dO (h2 (h h1))
 · exact rfl
theorem f5w (T:List R6) (A:List R4) (B:List R3) (l:List Int) (hl:l.length≤10000000000000) (hA:A.length≤1000000000000):Df (x7q (T,A,B,l,())) (fun y=>y.1.length≤l.length):=by
 show Df (x3t xc q8k q8c _) _;unfold x3t;dsimp only;refine dZ (P:=fun y=>y.1.length≤l.length) ?_ (fun _ h=>dP h);refine dL ?I ?m ?h _ ?hv ?hn
 case I=>exact (fun v=>v.2.2.1=l∧v.2.2.2.1=l.length∧0≤v.2.2.2.2.1∧v.2.2.2.2.1≤l.length∧v.2.2.2.2.2.2.1=A∧v.2.2.2.2.2.2.2.2.1.length≤v.2.2.2.2.1∧v.1<v.2.2.2.2.2.2.2.2.1.length)
 case m=>exact (fun v=>(l.length - v.2.2.2.2.1).toNat)
 case hv=>exact ⟨rfl,rfl,by first | omega | (dsimp only;omega),by first | omega | (dsimp only;omega),rfl,by simp,by simp⟩
 case hn=>exact (by first | omega | (dsimp only;omega))
 rintro ⟨x0,x1,x2,x3,x4,x5,x6,x7,x8,u⟩ hI;dsimp only at hI;obtain ⟨rfl,rfl,h0,h1,rfl,h2,h3⟩:=hI;have jv:∀(cl:Int) (f:Bool),(f=true→0≤x0∧x0<x8.length)→x4<x2.length→Df ((q1k (x0,x1,x2.getD x4.toNat 0,cl,x2,(x2.length:Int),x4,f,x5,x6,x7,x8,())).bind fun val =>
  Sum.elim (fun val=>some (Sum.inl (val.fst,val.snd.fst,val.snd.snd.fst,val.snd.snd.snd.fst,IntKind.i64.wrap (val.snd.snd.snd.snd.fst+1),val.snd.snd.snd.snd.snd.fst,val.snd.snd.snd.snd.snd.snd.fst,val.snd.snd.snd.snd.snd.snd.snd.fst,val.snd.snd.snd.snd.snd.snd.snd.snd.fst,())))
   (fun val=>bif decide (List.length val.snd.snd.snd.snd.snd.snd.snd.snd.snd.snd.fst+[val.snd.snd.fst].length≤140737488355328/4) then
    bif val.snd.snd.snd.fst==0 then some (Sum.inl (IntKind.i64.wrap ((↑(val.snd.snd.snd.snd.snd.snd.snd.snd.snd.snd.fst++[val.snd.snd.fst]).length:Int) - 1),0,val.snd.snd.snd.snd.fst,val.snd.snd.snd.snd.snd.fst,IntKind.i64.wrap (val.snd.snd.snd.snd.snd.snd.fst+1),val.snd.snd.snd.snd.snd.snd.snd.fst,val.snd.snd.snd.snd.snd.snd.snd.snd.fst,val.snd.snd.snd.snd.snd.snd.snd.snd.snd.fst,val.snd.snd.snd.snd.snd.snd.snd.snd.snd.snd.fst++[val.snd.snd.fst],()))
    else some (Sum.inl (val.fst,if val.snd.snd.snd.fst>val.snd.fst then val.snd.snd.snd.fst else val.snd.fst,val.snd.snd.snd.snd.fst,val.snd.snd.snd.snd.snd.fst,IntKind.i64.wrap (val.snd.snd.snd.snd.snd.snd.fst+1),val.snd.snd.snd.snd.snd.snd.snd.fst,val.snd.snd.snd.snd.snd.snd.snd.snd.fst,val.snd.snd.snd.snd.snd.snd.snd.snd.snd.fst,val.snd.snd.snd.snd.snd.snd.snd.snd.snd.snd.fst++[val.snd.snd.fst],()))
    else none) val)
  (Sum.elim (fun v':Int×Int×List Int×Int×Int×List R6×List R4×List R3×List Int×Unit=>(v'.2.2.1=x2∧v'.2.2.2.1=(x2.length:Int)∧0≤v'.2.2.2.2.1∧v'.2.2.2.2.1≤x2.length∧v'.2.2.2.2.2.2.1=x6∧v'.2.2.2.2.2.2.2.2.1.length≤v'.2.2.2.2.1∧v'.1<v'.2.2.2.2.2.2.2.2.1.length)∧(x2.length - v'.2.2.2.2.1).toNat<(x2.length - x4).toNat) (fun y:List Int×Unit=>y.1.length≤x2.length)):=by
  intro cl f hf hlt;refine dZ (g3n _ _ _ _ _ _ _ _ _ _ _ _ hf) ?_;intro z hz;refine dS hz ?_ ?_
  · rintro y ⟨l',hl',rfl⟩
    dsimp only;rw [qg (n:=x4+1) (by omega)];exact dP ⟨⟨rfl,rfl,by first | omega | (dsimp only;omega),by first | omega | (dsimp only;omega),rfl,by first | omega | (dsimp only;omega),by first | omega | (dsimp only;omega)⟩,by first | omega | (dsimp only;omega)⟩
  · rintro y rfl
    dsimp only;rw [qg (n:=x4+1) (by omega),qg (n:=((x8++[x2.getD x4.toNat 0]).length:Int) - 1) (by simp only [List.length_append,List.length_cons,List.length_nil];omega)];with_reducible repeat' (first | apply dP | apply dX<;>intro _)
    · exact ⟨⟨rfl,rfl,by first | omega | (dsimp only;omega),by first | omega | (dsimp only;omega),rfl,by simp only [List.length_append,List.length_cons,List.length_nil];omega,by simp only [List.length_append,List.length_cons,List.length_nil];omega⟩,by first | omega | (dsimp only;omega)⟩
    · exact ⟨⟨rfl,rfl,by first | omega | (dsimp only;omega),by first | omega | (dsimp only;omega),rfl,by simp only [List.length_append,List.length_cons,List.length_nil];omega,by simp only [List.length_append,List.length_cons,List.length_nil];omega⟩,by first | omega | (dsimp only;omega)⟩
    · refine dO ?_;simp only [List.length_cons,List.length_nil] at *;omega
 unfold j6h;dsimp only;with_reducible repeat' (first | apply dP | apply dX<;>intro _)
 · rename_i h4 h5
   refine dZ (v2b _ _ _ _ hA) ?_;rintro ⟨cl,u⟩ -
   dsimp only;with_reducible repeat' (first | apply dP | apply dX<;>intro _)
   · exact jv _ _ (fun _=>by omega) (by omega)
   · exact jv _ _ (fun _=>by omega) (by omega)
   · exact jv _ _ (fun h=>by cases h) (by omega)
 · refine dO ?_;omega
 · exact (by first | omega | (dsimp only;omega):x8.length≤x2.length)
theorem g3w (a b:Int):Df (q2n (a,b,())) (fun y=>1≤y.1∧y.1≤26):=by
 show Df (v9w _) _;unfold v9w;dsimp only;refine dP ?_;dsimp only;generalize IntKind.i64.wrap (a - b)=n;split<;>split<;>omega
theorem g3x (a:Int) (b:Bool):Df (q8l (a,b,())) (fun _=>True):=by
 show Df (j6m _) _;unfold j6m;dsimp only;with_reducible repeat' (first | apply dP | apply dX<;>intro _)
 all_goals trivial
theorem k3h (a:Int):Df (z4b (a,())) (fun _=>True):=by
 show Df (v9x q8l _) _;unfold v9x;dsimp only;with_reducible repeat' (first | apply dP | apply dX<;>intro _)
 all_goals (refine dZ (g3x _ _) ?_;intro z hz;cases z<;>exact dP trivial)
theorem g3o (n b k:Int) (out:List UInt8) (j:Nat) (h0:0≤n) (h1:n<10^j) (hb:out.length+j≤100000000000000) (hn:n≤100000000000000) :
 Df (q3v (n,b,k,out,())) (fun y=>y.1.length≤out.length+j+1):=by
 refine dL ?I ?m ?h _ ?hv ?hn
 case I=>exact (fun v=>∃j':Nat,0≤v.1∧v.1<10^j'∧v.1≤n∧v.2.2.2.1.length+j'≤out.length+j)
 case m=>exact (fun v=>v.1.toNat)
 case hv=>exact ⟨j,h0,h1,Int.le_refl _,Nat.le_refl _⟩
 case hn=>exact (by first | omega | (dsimp only;omega))
 rintro ⟨x0,x1,x2,x3,u⟩ hI;dsimp only at hI;obtain ⟨j',i0,i1,i2,i3⟩:=hI;unfold j6i;dsimp only;refine dZ (g3w _ _) ?_;rintro ⟨t,u⟩ ht;dsimp only at ht ⊢;with_reducible repeat' (first | apply dP | apply dX<;>intro _)
 · refine dZ (k3h _) ?_
   rintro ⟨d,d',u⟩ -
   dsimp only;with_reducible repeat' (first | apply dP | apply dX<;>intro _)
   · exact (by simp only [List.length_append,List.length_cons,List.length_nil];omega:(x3++[_]).length≤out.length+j+1)
   · refine dO ?_;simp only [List.length_cons,List.length_nil] at *;omega
 · rename_i hge hne
   refine dZ (k3h _) ?_;rintro ⟨d,d',u⟩ -
   dsimp only;rw [qg (n:=36 - t) (by omega)] at hne ⊢;rw [qg (n:=x0 - t) (by omega),Int.tdiv_eq_ediv_of_nonneg (by omega)];have q0:0≤(x0 - t)/(36 - t):=Int.ediv_nonneg (by omega) (by omega);have q1:(x0 - t)/(36 - t)*(36 - t)≤x0 - t:=Int.ediv_mul_le _ (by omega);have q2:(x0 - t)/(36 - t)*10≤(x0 - t)/(36 - t)*(36 - t):=Int.mul_le_mul_of_nonneg_left (by omega) q0;generalize (x0 - t)/(36 - t)=q at q0 q1 q2 ⊢;rw [qg (n:=q) (by omega)];with_reducible repeat' (first | apply dP | apply dX<;>intro _)
   · obtain ⟨i,rfl⟩:∃i,j'=i+1:=by
      cases j' with
      | zero=>simp at i1;omega
      | succ i=>exact ⟨i,rfl⟩
     rw [Int.pow_succ] at i1;generalize hP:(10:Int)^i=P at i1;refine ⟨⟨i,q0,?_,?_,?_⟩,?_⟩
     · show q<10^i
       rw [hP];omega
     · dsimp only;omega
     · simp only [List.length_append,List.length_cons,List.length_nil];omega
     · dsimp only;omega
   · rename_i hz
     exact absurd hz hne
   · refine dO ?_;simp only [List.length_cons,List.length_nil] at *;omega
 · rename_i hge hne
   rw [qg (n:=36 - t) (by omega)] at hne;refine dO ?_;omega
theorem b8h (n b:Int) (out:List UInt8) (h0:0≤n) (h1:n<10^13) (hb:out.length≤90000000000000) :
 Df (q6n (n,b,out,())) (fun y=>y.1.length≤out.length+14):=by
 show Df (v9d q2n z4b q3v _) _;unfold v9d;dsimp only;refine dZ (g3w _ _) ?_;rintro ⟨t,u⟩ ht;dsimp only at ht ⊢;have h13:(10:Int)^13=10000000000000:=rfl;have h12:(10:Int)^12=1000000000000:=rfl;rw [h13] at h1;with_reducible repeat' (first | apply dP | apply dX<;>intro _)
 · refine dZ (k3h _) ?_
   rintro ⟨d,d',u⟩ -
   dsimp only;with_reducible repeat' (first | apply dP | apply dX<;>intro _)
   · exact (by simp only [List.length_append,List.length_cons,List.length_nil];omega:(out++[_]).length≤out.length+14)
   · refine dO ?_;simp only [List.length_cons,List.length_nil] at *;omega
 · rename_i hge hne
   refine dZ (k3h _) ?_;rintro ⟨d,d',u⟩ -
   dsimp only;rw [qg (n:=36 - t) (by omega)] at hne ⊢;rw [qg (n:=n - t) (by omega),Int.tdiv_eq_ediv_of_nonneg (by omega)];have q0:0≤(n - t)/(36 - t):=Int.ediv_nonneg (by omega) (by omega);have q1:(n - t)/(36 - t)*(36 - t)≤n - t:=Int.ediv_mul_le _ (by omega);have q2:(n - t)/(36 - t)*10≤(n - t)/(36 - t)*(36 - t):=Int.mul_le_mul_of_nonneg_left (by omega) q0;generalize (n - t)/(36 - t)=q at q0 q1 q2 ⊢;rw [qg (n:=q) (by omega)];with_reducible repeat' (first | apply dP | apply dX<;>intro _)
   · refine dZ (g3o q b _ (out++[UInt8.ofNat (Int.toNat d)]) 12 q0 (by rw [h12];omega) (by simp only [List.length_append,List.length_cons,List.length_nil];omega) (by omega)) ?_
     rintro ⟨y,u⟩ hy;simp only [List.length_append,List.length_cons,List.length_nil] at hy;exact dP (by first | omega | (dsimp only;omega))
   · rename_i hz
     exact absurd hz hne
   · refine dO ?_;simp only [List.length_cons,List.length_nil] at *;omega
 · rename_i hge hne
   rw [qg (n:=36 - t) (by omega)] at hne;refine dO ?_;omega
theorem g3p (a b:Int) (h0:0≤a) (h1:a≤100000000000000000):Df (q8f (a,b,())) (fun y=>0≤y.1∧y.1≤455):=by
 refine dL ?I ?m ?h _ ?hv ?hn
 case I=>exact (fun v=>0≤v.1∧v.1≤100000000000000000)
 case m=>exact (fun v=>v.1.toNat)
 case hv=>exact ⟨h0,h1⟩
 case hn=>exact (by first | omega | (dsimp only;omega))
 rintro ⟨x0,x1,u⟩ hI;dsimp only at hI;unfold z5e;dsimp only;with_reducible repeat' (first | apply dP | apply dX<;>intro _)
 · rw [Int.tdiv_eq_ediv_of_nonneg (by omega),qg (n:=x0/35) (by omega)]
   exact ⟨⟨by first | omega | (dsimp only;omega),by first | omega | (dsimp only;omega)⟩,by first | omega | (dsimp only;omega)⟩
 · exact ⟨by first | omega | (dsimp only;omega),by first | omega | (dsimp only;omega)⟩
theorem v2a (a c:Int) (h0:0≤a) (h1:a≤10000000000000000):Df (q8e (a,c,())) (fun _=>True):=by
 show Df (j6j q8f _) _;unfold j6j;dsimp only;have hm:1≤(if c>1 then c else 1):=by split<;>omega
 generalize (if c>1 then c else 1)=m at hm;have q0:0≤a/m:=Int.ediv_nonneg h0 (by omega);have q1:a/m≤a:=Int.ediv_le_self _ h0;rw [Int.tdiv_eq_ediv_of_nonneg h0,qg (n:=a/m) (by omega),qg (n:=a+a/m) (by omega)];with_reducible repeat' (first | apply dP | apply dX<;>intro _)
 · refine dZ (g3p _ _ (by omega) (by omega)) ?_
   rintro ⟨x,y,u⟩ h;dsimp only at h ⊢;rw [qg (n:=x+38) (by omega)];with_reducible repeat' (first | apply dP | apply dX<;>intro _)
   · trivial
   · refine dO ?_;omega
 · refine dO ?_;omega
theorem f5z (a c:Int) (f:Bool) (h0:0≤a) (h1:a≤10000000000000000):Df (q0a (a,c,f,())) (fun _=>True):=by
 show Df (v9e q8e _) _;unfold v9e;dsimp only;rw [Int.tdiv_eq_ediv_of_nonneg h0,Int.tdiv_eq_ediv_of_nonneg h0,qg (n:=a/700) (by omega),qg (n:=a/2) (by omega)];with_reducible repeat' (first | apply dP | apply dX<;>intro _)
 · exact dZ (v2a _ _ (by omega) (by omega)) fun _ _=>dP trivial
 · exact dZ (v2a _ _ (by omega) (by omega)) fun _ _=>dP trivial
def cnt (n:Int) (l:List Int):Nat:=l.countP fun r=>decide (r<n)
def ceq (n:Int) (l:List Int):Nat:=l.countP fun r=>decide (r=n)
theorem j9k (n:Int) (l:List Int):cnt n l≤l.length:=List.countP_le_length
theorem z9y (n:Int):∀l:List Int,cnt (n+1) l=cnt n l+ceq n l
 | []=>rfl
 | x::l=>by
  have ih:=z9y n l;unfold cnt ceq at *
  simp only [List.countP_cons,decide_eq_true_eq];split<;>split<;>split<;>omega
theorem z9x {n m:Int} (h:n≤m):∀{l:List Int},(∀r∈l,n≤r→m≤r)→cnt m l=cnt n l
 | [],_=>rfl
 | x::l,hl=>by
  have ih:=z9x (l:=l) h fun r hr=>hl r (List.mem_cons_of_mem _ hr);have hx:=hl x List.mem_cons_self;unfold cnt at *
  simp only [List.countP_cons,decide_eq_true_eq];split<;>split<;>omega
theorem x0q {n:Int}:∀{l:List Int},(∀r∈l,r<n)→cnt n l=l.length
 | [],_=>rfl
 | x::l,hl=>by
  have ih:=x0q (l:=l) fun r hr=>hl r (List.mem_cons_of_mem _ hr);have hx:=hl x List.mem_cons_self;unfold cnt at *
  simp only [List.countP_cons,List.length_cons,decide_eq_true_eq,hx,if_true];omega
theorem x0p {n:Int}:∀{l:List Int},n∈l→1≤ceq n l
 | x::l,h=>by
  unfold ceq;simp only [List.countP_cons,decide_eq_true_eq];rcases List.mem_cons.1 h with rfl | h
  · simp
  · have:=x0p h
    unfold ceq at this;omega
theorem j9i {n:Int} {l:List Int} {i:Nat} (h:i<l.length):ceq n (l.take (i+1))=ceq n (l.take i)+if l[i]=n then 1 else 0:=by
 unfold ceq;rw [ql h,List.countP_append];simp [List.countP_cons]
theorem v1r {n:Int} {l:List Int} {i:Nat} (h:i<l.length):cnt n (l.take (i+1))=cnt n (l.take i)+if l[i]<n then 1 else 0:=by
 unfold cnt;rw [ql h,List.countP_append];simp [List.countP_cons]
theorem z9w (n:Int) (l:List Int) (i:Nat):ceq n (l.take i)≤ceq n l:=by
 unfold ceq;exact (List.take_sublist i l).countP_le
theorem b8g (l:List Int) (n:Int) (hn:0≤n) (hl:l.length≤1000000000000):Df (q6m (l,n,())) (fun y=>(y.1<0∧∀r∈l,r<n)∨(y.1∈l∧n≤y.1∧∀r∈l,n≤r→y.1≤r)):=by
 show Df (v9c j5i _) _;unfold v9c;dsimp only;refine dZ (P:=fun y=>(y.1<0∧∀r∈l,r<n)∨(y.1∈l∧n≤y.1∧∀r∈l,n≤r→y.1≤r)) ?_ (fun _ h=>dP h);refine dL ?I ?m ?h _ ?hv ?hn
 case I=>exact (fun v=>v.1=n∧v.2.2.1=l∧v.2.2.2.1=l.length∧0≤v.2.2.2.2.1∧v.2.2.2.2.1≤l.length∧((v.2.1<0∧∀r∈l.take v.2.2.2.2.1.toNat,r<n)∨(v.2.1∈l∧n≤v.2.1∧∀r∈l.take v.2.2.2.2.1.toNat,n≤r→v.2.1≤r)))
 case m=>exact (fun v=>(l.length - v.2.2.2.2.1).toNat)
 case hv=>exact ⟨rfl,rfl,rfl,by first | omega | (dsimp only;omega),by first | omega | (dsimp only;omega),.inl ⟨by first | omega | (dsimp only;omega),by simp⟩⟩
 case hn=>exact (by first | omega | (dsimp only;omega))
 rintro ⟨x0,x1,x2,x3,x4,u⟩ hI;dsimp only at hI;obtain ⟨rfl,rfl,rfl,h0,h1,hI⟩:=hI;unfold z5d;dsimp only;with_reducible repeat' (first | apply dP | apply dX<;>intro _)
 all_goals try rw [qg (n:=x4+1) (by omega)]
 · rename_i a1 a2 a3 a4
   have hlt:x4.toNat<x2.length:=by omega
   rw [getD_lt hlt] at a3 ⊢;refine ⟨⟨rfl,rfl,rfl,by first | omega | (dsimp only;omega),by first | omega | (dsimp only;omega),.inr ⟨List.getElem_mem hlt,a3,?_⟩⟩,by first | omega | (dsimp only;omega)⟩;dsimp only;intro r hr hge;rw [show (x4+1).toNat=x4.toNat+1 by omega,ql hlt] at hr;rcases List.mem_append.1 hr with hr | hr
   · rcases hI with ⟨_,hI⟩ | ⟨_,hx,_⟩
     · have:=hI r hr;omega
     · omega
   · rw [List.mem_singleton] at hr;omega
 · rename_i a1 a2 a3 a4 a5
   have hlt:x4.toNat<x2.length:=by omega
   rw [getD_lt hlt] at a3 a5 ⊢;refine ⟨⟨rfl,rfl,rfl,by first | omega | (dsimp only;omega),by first | omega | (dsimp only;omega),.inr ⟨List.getElem_mem hlt,a3,?_⟩⟩,by first | omega | (dsimp only;omega)⟩;dsimp only;intro r hr hge;rw [show (x4+1).toNat=x4.toNat+1 by omega,ql hlt] at hr;rcases List.mem_append.1 hr with hr | hr
   · rcases hI with ⟨hx,_⟩ | ⟨_,hx,hI⟩
     · omega
     · have:=hI r hr hge;omega
   · rw [List.mem_singleton] at hr;omega
 · rename_i a1 a2 a3 a4 a5
   have hlt:x4.toNat<x2.length:=by omega
   rw [getD_lt hlt] at a3 a5;refine ⟨⟨rfl,rfl,rfl,by first | omega | (dsimp only;omega),by first | omega | (dsimp only;omega),?_⟩,by first | omega | (dsimp only;omega)⟩;dsimp only;rcases hI with ⟨hx,_⟩ | ⟨hm,hx,hI⟩
   · omega
   · refine .inr ⟨hm,hx,fun r hr hge => ?_⟩
     rw [show (x4+1).toNat=x4.toNat+1 by omega,ql hlt] at hr;rcases List.mem_append.1 hr with hr | hr
     · exact hI r hr hge
     · rw [List.mem_singleton] at hr;omega
 · rename_i a1 a2 a3
   have hlt:x4.toNat<x2.length:=by omega
   rw [getD_lt hlt] at a3;refine ⟨⟨rfl,rfl,rfl,by first | omega | (dsimp only;omega),by first | omega | (dsimp only;omega),?_⟩,by first | omega | (dsimp only;omega)⟩;dsimp only;rcases hI with ⟨hx,hI⟩ | ⟨hm,hx,hI⟩
   · refine .inl ⟨hx,fun r hr => ?_⟩
     rw [show (x4+1).toNat=x4.toNat+1 by omega,ql hlt] at hr;rcases List.mem_append.1 hr with hr | hr
     · exact hI r hr
     · rw [List.mem_singleton] at hr;omega
   · refine .inr ⟨hm,hx,fun r hr hge => ?_⟩
     rw [show (x4+1).toNat=x4.toNat+1 by omega,ql hlt] at hr;rcases List.mem_append.1 hr with hr | hr
     · exact hI r hr hge
     · rw [List.mem_singleton] at hr;omega
 · refine dO ?_;omega
 · rw [List.take_of_length_le (by omega)] at hI
   exact hI
theorem g3i (l:List Int) (hl:l.length≤1000000000000):Df (q7z (l,l,(l.length:Int),0,[],())) (Sum.elim (fun y=>y.1=l∧(∀r∈l,0≤r∧r≤1114111)∧y.2.1.length=cnt 128 l) (fun y=>y.1=[])):=by
 refine dL ?I ?m ?h _ ?hv ?hn
 case I=>exact (fun v=>v.1=l∧v.2.1=l∧v.2.2.1=l.length∧0≤v.2.2.2.1∧v.2.2.2.1≤l.length∧(∀r∈l.take v.2.2.2.1.toNat,0≤r∧r≤1114111)∧v.2.2.2.2.1.length=cnt 128 (l.take v.2.2.2.1.toNat))
 case m=>exact (fun v=>(l.length - v.2.2.2.1).toNat)
 case hv=>exact ⟨rfl,rfl,rfl,by first | omega | (dsimp only;omega),by first | omega | (dsimp only;omega),by simp,rfl⟩
 case hn=>exact (by first | omega | (dsimp only;omega))
 rintro ⟨x0,x1,x2,x3,x4,u⟩ hI;dsimp only at hI;obtain ⟨rfl,rfl,rfl,h0,h1,h2,h3⟩:=hI;unfold z4x;dsimp only;with_reducible repeat' (first | apply dP | apply dX<;>intro _)
 · refine dZ (k3e _) ?_
   rintro ⟨b,u⟩ hb;dsimp only at hb ⊢;have hlt:x3.toNat<x1.length:=by omega
   have hc:=j9k 128 (x1.take x3.toNat);rw [List.length_take] at hc;have hr:b=true→∀r∈x1.take (x3.toNat+1),0≤r∧r≤1114111:=by
    intro hbt r hr;rw [ql hlt] at hr;rcases List.mem_append.1 hr with hr | hr
    · exact h2 r hr
    · rw [List.mem_singleton] at hr
      have:=hb hbt;rw [getD_lt hlt] at this;subst hr;exact this
   have hct:=v1r (n:=128) hlt;have hs:(x3+1).toNat=x3.toNat+1:=by omega
   rw [qg (n:=x3+1) (by omega)];with_reducible repeat' (first | apply dP | apply dX<;>intro _)
   · exact rfl
   · rename_i hbt hlow _
     rw [getD_lt hlt] at hlow;rw [if_pos hlow] at hct;exact ⟨⟨rfl,rfl,rfl,by first | omega | (dsimp only;omega),by first | omega | (dsimp only;omega),by dsimp only;rw [hs];exact hr hbt,by dsimp only;rw [hs,List.length_append,hct,h3];rfl⟩,by first | omega | (dsimp only;omega)⟩
   · refine dO ?_;simp only [List.length_cons,List.length_nil] at *;omega
   · rename_i hbt hlow
     rw [getD_lt hlt] at hlow;rw [if_neg hlow] at hct;exact ⟨⟨rfl,rfl,rfl,by first | omega | (dsimp only;omega),by first | omega | (dsimp only;omega),by dsimp only;rw [hs];exact hr hbt,by dsimp only;rw [hs,hct,h3];rfl⟩,by first | omega | (dsimp only;omega)⟩
 · refine dO ?_;omega
 · rw [List.take_of_length_le (by omega)] at h2 h3
   exact ⟨rfl,h2,h3⟩
theorem g3j (l:List Int) (p m delta bias h:Int) (out:List UInt8) (hl:l.length≤1000000000000) (hh:h=cnt m l) (hd:0≤delta∧delta≤2147483647) (ho:out.length≤l.length+1+14*cnt m l) :
 Df (j5f (l,p,m,delta,bias,h,l,(l.length:Int),0,out,())) (fun y=>y.1=l∧y.2.1=p∧y.2.2.1=m∧0≤y.2.2.2.1∧y.2.2.2.1≤2147483647+l.length∧y.2.2.2.2.2.1=cnt m l+ceq m l∧y.2.2.2.2.2.2.1.length≤l.length+1+14*(cnt m l+ceq m l)):=by
 refine dL ?I ?m ?h _ ?hv ?hn
 case I=>exact (fun v=>v.1=l∧v.2.1=p∧v.2.2.1=m∧0≤v.2.2.2.1∧v.2.2.2.1≤2147483647+v.2.2.2.2.2.2.2.2.1∧v.2.2.2.2.2.1=cnt m l+ceq m (l.take v.2.2.2.2.2.2.2.2.1.toNat)∧v.2.2.2.2.2.2.1=l∧v.2.2.2.2.2.2.2.1=l.length∧0≤v.2.2.2.2.2.2.2.2.1∧v.2.2.2.2.2.2.2.2.1≤l.length∧v.2.2.2.2.2.2.2.2.2.1.length≤l.length+1+14*(cnt m l+ceq m (l.take v.2.2.2.2.2.2.2.2.1.toNat)))
 case m=>exact (fun v=>(l.length - v.2.2.2.2.2.2.2.2.1).toNat)
 case hv=>exact ⟨rfl,rfl,rfl,hd.1,by first | omega | (dsimp only;omega),by dsimp only;rw [hh];simp [ceq],rfl,rfl,by first | omega | (dsimp only;omega),by first | omega | (dsimp only;omega),by dsimp only;simpa [ceq] using ho⟩
 case hn=>exact (by first | omega | (dsimp only;omega))
 rintro ⟨x0,x1,x2,x3,x4,x5,x6,x7,x8,x9,u⟩ hI;dsimp only at hI;obtain ⟨rfl,rfl,rfl,h0,h1,rfl,rfl,rfl,h2,h3,h4⟩:=hI;have c1:=j9k x2 x6;have c2:=z9w x2 x6 x8.toNat
 have c3:ceq x2 x6≤x6.length:=List.countP_le_length;unfold z4y;dsimp only;with_reducible repeat' (first | apply dP | apply dX<;>intro _)
 all_goals try rw [qg (n:=x8+1) (by omega)]
 · rename_i a1 a2 a3
   have hlt:x8.toNat<x6.length:=by omega
   have hct:=j9i (n:=x2) hlt;have hs:(x8+1).toNat=x8.toNat+1:=by omega
   rw [getD_lt hlt] at a3;rw [if_neg (by omega)] at hct;rw [qg (n:=x3+1) (by omega)];refine ⟨⟨rfl,rfl,rfl,by first | omega | (dsimp only;omega),by first | omega | (dsimp only;omega),?_,rfl,rfl,by first | omega | (dsimp only;omega),by first | omega | (dsimp only;omega),?_⟩,by first | omega | (dsimp only;omega)⟩
   · dsimp only;rw [hs,hct];simp
   · dsimp only;rw [hs,hct];omega
 · rename_i a1 a2 a3 a4
   have hlt:x8.toNat<x6.length:=by omega
   have hct:=j9i (n:=x2) hlt;have hs:(x8+1).toNat=x8.toNat+1:=by omega
   rw [getD_lt hlt] at a3 a4;rw [if_pos a4] at hct;refine dZ (b8h _ _ _ h0 (by rw [show (10:Int)^13=10000000000000 from rfl];omega) (by omega)) ?_;rintro ⟨y,u⟩ hy;dsimp only at hy ⊢;rw [qg (n:=((cnt x2 x6:Int)+(ceq x2 (x6.take x8.toNat):Int))+1) (by omega)];refine dZ (f5z _ _ _ h0 (by omega)) ?_;rintro ⟨z,u⟩ -
   dsimp only;refine dP ⟨⟨rfl,rfl,rfl,by first | omega | (dsimp only;omega),by first | omega | (dsimp only;omega),?_,rfl,rfl,by first | omega | (dsimp only;omega),by first | omega | (dsimp only;omega),?_⟩,by first | omega | (dsimp only;omega)⟩
   · dsimp only;rw [hs,hct];simp;omega
   · dsimp only;rw [hs,hct];omega
 · rename_i a1 a2 a3 a4
   have hlt:x8.toNat<x6.length:=by omega
   have hct:=j9i (n:=x2) hlt;have hs:(x8+1).toNat=x8.toNat+1:=by omega
   rw [getD_lt hlt] at a3 a4;rw [if_neg a4] at hct;refine ⟨⟨rfl,rfl,rfl,by first | omega | (dsimp only;omega),by first | omega | (dsimp only;omega),?_,rfl,rfl,by first | omega | (dsimp only;omega),by first | omega | (dsimp only;omega),?_⟩,by first | omega | (dsimp only;omega)⟩
   · dsimp only;rw [hs,hct];simp
   · dsimp only;rw [hs,hct];omega
 · refine dO ?_;omega
 · rw [List.take_of_length_le (by omega)] at h4 ⊢
   exact ⟨rfl,rfl,rfl,by first | omega | (dsimp only;omega),by first | omega | (dsimp only;omega),rfl,h4⟩
theorem g3k (l:List Int) (out:List UInt8) (hl:l.length≤1000000000000) (hr:∀r∈l,0≤r∧r≤1114111) (ho:out.length≤l.length+1) :
 Df (q8a (l,(cnt 128 l:Int),128,0,72,(cnt 128 l:Int),out,())) (Sum.elim (fun y=>y.1.length≤15*l.length+1) (fun y=>y.1=[])):=by
 refine dL ?I ?m ?h _ ?hv ?hn
 case I=>exact (fun v=>v.1=l∧128≤v.2.2.1∧v.2.2.1≤1114112∧0≤v.2.2.2.1∧v.2.2.2.1≤2147483648+l.length∧v.2.2.2.2.2.1=cnt v.2.2.1 l∧v.2.2.2.2.2.2.1.length≤l.length+1+14*cnt v.2.2.1 l)
 case m=>exact (fun v=>l.length - cnt v.2.2.1 l)
 case hv=>exact ⟨rfl,by first | omega | (dsimp only;omega),by first | omega | (dsimp only;omega),by first | omega | (dsimp only;omega),by first | omega | (dsimp only;omega),rfl,by first | omega | (dsimp only;omega)⟩
 case hn=>exact (by first | omega | (dsimp only;omega))
 rintro ⟨x0,x1,x2,x3,x4,x5,x6,u⟩ hI;dsimp only at hI;obtain ⟨rfl,h0,h1,h2,h3,rfl,h4⟩:=hI;have c1:=j9k x2 x0;unfold z4z;dsimp only;with_reducible repeat' (first | apply dP | apply dX<;>intro _)
 · rename_i hlt
   refine dZ (b8g x0 x2 (by omega) hl) ?_;rintro ⟨m,u⟩ hm;dsimp only at hm ⊢;rcases hm with ⟨_,hm⟩ | ⟨hm,hnm,hmin⟩
   · have:=x0q hm
     omega
   · have hm2:=hr m hm
     have hp0:0≤(m - x2)*((cnt x2 x0:Int)+1):=Int.mul_nonneg (by omega) (by omega);have hp1:(m - x2)*((cnt x2 x0:Int)+1)≤1114111*((cnt x2 x0:Int)+1):=Int.mul_le_mul_of_nonneg_right (by omega) (by omega);rw [g8o (n:=m - x2) (by omega),qg (n:=m - x2) (by omega),qg (n:=(cnt x2 x0:Int)+1) (by omega)];generalize (m - x2)*((cnt x2 x0:Int)+1)=P at hp0 hp1 ⊢;rw [qg (n:=P) (by omega),qg (n:=x3+P) (by omega)];have hsame:=z9x hnm hmin;have hpos:=x0p hm;have hsucc:=z9y m x0;have c4:=j9k (m+1) x0;with_reducible repeat' (first | apply dP | apply dX<;>intro _)
     · exact rfl
     · refine dZ (g3j x0 x1 m (x3+P) x4 _ x6 hl (by rw [hsame]) (by omega) (by omega)) ?_
       rintro ⟨y0,y1,y2,y3,y4,y5,y6,u⟩ hy;dsimp only at hy ⊢;obtain ⟨rfl,rfl,rfl,k0,k1,rfl,k2⟩:=hy;rw [g8o (n:=y2+1) (by omega),qg (n:=y3+1) (by omega)];refine dP ⟨⟨rfl,by first | omega | (dsimp only;omega),by first | omega | (dsimp only;omega),by first | omega | (dsimp only;omega),by first | omega | (dsimp only;omega),?_,?_⟩,?_⟩
       · dsimp only;rw [hsucc];simp
       · dsimp only;rw [hsucc];exact k2
       · dsimp only;omega
 · exact (by first | omega | (dsimp only;omega):x6.length≤15*x0.length+1)
theorem g3h (l:List Int) (hl:l.length≤1000000000000):Df (x2x (l,())) (fun y=>y.1.length≤15*l.length+1):=by
 show Df (v8q xb q6m q6n q0a q7y q7z _) _;unfold v8q;dsimp only;refine dZ (g3i l hl) ?_;intro z hz;refine dS hz ?_ ?_
 · rintro ⟨x0,x1,u⟩ hx
   dsimp only at hx ⊢;obtain ⟨rfl,hr,hc⟩:=hx;have c0:=j9k 128 x0;have jv:∀out:List UInt8,out.length≤x0.length+1→Df ((q7y (x0,(x1.length:Int),out,())).bind fun val=>some (val.fst,val.snd.fst,())) (fun y=>y.1.length≤15*x0.length+1):=by
    intro out ho;refine dZ (P:=fun y=>y.1.length≤15*x0.length+1) ?_ (fun _ h=>dP h);show Df (j6b xb q6m q6n q0a q8a _) _;unfold j6b;dsimp only;rw [hc];refine dZ (g3k x0 out hl hr ho) ?_;intro z hz;refine dS hz ?_ ?_
    · rintro ⟨y,u⟩ hy;exact dP hy
    · rintro ⟨y,b,u⟩ hy
      dsimp only at hy;subst hy;exact dP (by simp)
   with_reducible repeat' (first | apply dP | apply dX<;>intro _)
   · exact jv _ (by simp only [List.length_append,List.length_cons,List.length_nil];omega)
   · refine dO ?_;simp only [List.length_cons,List.length_nil] at *;omega
   · exact jv _ (by omega)
 · rintro ⟨y,b,u⟩ hy
   dsimp only at hy;subst hy;exact dP (by simp)
structure TK (T:List R6) (A:List R4) (B:List R3):Prop where
 t:TOk T
 a:A.length≤1000000000000
 b:B.length≤1000000000000
section
variable {T:List R6} {A:List R4} {B:List R3}
theorem y3q (l:List Int) (p n:Int) (hp:0≤p∧p≤1000000000000000) (hn : -1000000000000001≤n∧n≤1000000000000001):Df (q0s (T,A,B,l,p,n,())) (fun y=>y.1≥0→0≤p+n∧p+n<l.length):=by
 show Df (k0e _) _;unfold k0e;dsimp only;rw [qg (n:=p+n) (by omega)];with_reducible repeat' (first | apply dP | apply dX<;>intro _)
 · intro h;dsimp only at h;omega
 · intro h;dsimp only at h;omega
 · intro h;omega
 · refine dO ?_;omega
theorem f6c (h:TK T A B) (l:List Int) (p:Int) (hp:0≤p∧p≤1000000000000000):Df (z4a (T,A,B,l,p,())) (fun _=>True):=by
 show Df (v9o xc q0s _) _;unfold v9o;dsimp only;refine dZ (y3q l p (-1) hp (by omega)) ?_;rintro ⟨x,u⟩ -
 exact dZ (v2b T A B _ h.a) fun _ _=>dP trivial
theorem f6e (h:TK T A B) (l:List Int) (p s:Int) (hp:0≤p∧p<l.length) (hl:l.length≤1000000000000) (hs:s=1∨s = -1):Df (x8c (T,A,B,l,p,s,())) (fun _=>True):=by
 show Df (k0f q0s z8q j5q _) _;unfold k0f;dsimp only;refine dZ (P:=fun _=>True) ?_ ?_
 · refine dL ?I ?m ?h _ ?hv ?hn
   case I=>exact (fun v=>v.1=s∧v.2.2.1=T∧v.2.2.2.2.2.1=l∧v.2.2.2.2.2.2.1=p ∧ -1≤p+v.2.1∧p+v.2.1≤l.length)
   case m=>exact (fun v=>(bif s==1 then (l.length - (p+v.2.1)) else p+v.2.1+1).toNat)
   case hv=>exact ⟨rfl,rfl,rfl,rfl,by first | omega | (dsimp only;omega),by first | omega | (dsimp only;omega)⟩
   case hn=>exact (by rcases hs with rfl | rfl<;>simp<;>omega)
   rintro ⟨x0,x1,x2,x3,x4,x5,x6,u⟩ hI;dsimp only at hI;obtain ⟨rfl,rfl,rfl,rfl,h0,h1⟩:=hI;unfold z5r;dsimp only;refine dZ (y3q x5 x6 x1 (by omega) (by omega)) ?_;rintro ⟨c,u⟩ hc;dsimp only at hc ⊢;with_reducible repeat' (first | apply dP | apply dX<;>intro _)
   · rename_i hge
     have hc':=hc hge;refine dZ (y3q x5 x6 x1 (by omega) (by omega)) ?_;rintro ⟨c,u⟩ -
     dsimp only;refine dZ (b9q x2 _ _ _ h.t) ?_;rintro ⟨j,u⟩ -
     dsimp only;rw [qg (n:=x1+x0) (by omega)];with_reducible repeat' (first | apply dP | apply dX<;>intro _)
     · trivial
     · refine ⟨⟨rfl,rfl,rfl,rfl,by first | omega | (dsimp only;omega),by first | omega | (dsimp only;omega)⟩,?_⟩
       rcases hs with rfl | rfl
       · simp only [show ((1:Int)==1)=true from rfl,cond_true];omega
       · simp only [show ((-1:Int)==1)=false from rfl,cond_false];omega
   · trivial
 · intro z hz
   cases z<;>exact dP trivial
theorem b9a (h:TK T A B) (l:List Int) (p:Int) (hp:0≤p∧p<l.length) (hl:l.length≤1000000000000):Df (x3e (T,A,B,l,p,())) (fun _=>True):=by
 show Df (v9p z4a x8c _) _;unfold v9p;dsimp only;refine dZ (f6e h l p 1 hp hl (.inl rfl)) ?_;rintro ⟨x,u⟩ -
 refine dZ (f6c h l p (by omega)) ?_;rintro ⟨y,u⟩ -
 dsimp only;with_reducible repeat' (first | apply dP | apply dX<;>intro _)
 · trivial
 · refine dZ (f6e h l p (-1) hp hl (.inr rfl)) ?_
   rintro ⟨x,u⟩ -
   dsimp only;with_reducible repeat' (first | apply dP | apply dX<;>intro _)
   all_goals trivial
theorem b9b (l:List Int) (p:Int) (hp:0≤p∧p≤1000000000000000):Df (x3f (T,A,B,l,p,())) (fun _=>True):=by
 show Df (v9q q0s _) _;unfold v9q;dsimp only;refine dZ (y3q l p (-1) hp (by omega)) ?_;rintro ⟨x,u⟩ -
 dsimp only;with_reducible repeat' (first | apply dP | apply dX<;>intro _)
 · exact dZ (y3q l p 1 hp (by omega)) fun _ _=>dP trivial
 · trivial
theorem b9c (h:TK T A B) (l:List Int) (p:Int) (hp:0≤p∧p≤1000000000000000):Df (x3g (T,A,B,l,p,())) (fun _=>True):=by
 show Df (v9r q0s j8d _) _;unfold v9r;dsimp only;refine dZ (y3q l p 1 hp (by omega)) ?_;rintro ⟨x,u⟩ -
 exact dZ (g4a T A B _ h.t) fun _ _=>dP trivial
theorem b9d (h:TK T A B) (l:List Int) (p:Int) (hp:0≤p∧p≤1000000000000000):Df (x3h (T,A,B,l,p,())) (fun _=>True):=by
 show Df (v9s q0s j8d _) _;unfold v9s;dsimp only;refine dZ (y3q l p (-1) hp (by omega)) ?_;rintro ⟨x,u⟩ -
 exact dZ (g4a T A B _ h.t) fun _ _=>dP trivial
theorem f5x (x:Int):Df (j7x (x,())) (fun _=>True):=by
 show Df (v8w _) _;unfold v8w;dsimp only;with_reducible repeat' (first | apply dP | apply dX<;>intro _)
 all_goals trivial
theorem f5y (x:Int):Df (j7y (x,())) (fun _=>True):=by
 show Df (v8z _) _;unfold v8z;dsimp only;with_reducible repeat' (first | apply dP | apply dX<;>intro _)
 all_goals trivial
theorem b8z (l:List Int) (hl:l.length≤1000000000000):Df (x7x (l,())) (fun _=>True):=by
 show Df (v9n j7y j5l _) _;unfold v9n;dsimp only;refine dZ (P:=fun _=>True) ?_ (fun z _=>by cases z<;>exact dP trivial);refine dL ?I ?m ?h _ ?hv ?hn
 case I=>exact (fun v=>v.1=l∧v.2.1=l.length∧0≤v.2.2.1∧v.2.2.1≤l.length)
 case m=>exact (fun v=>(l.length - v.2.2.1).toNat)
 case hv=>exact ⟨rfl,rfl,by first | omega | (dsimp only;omega),by first | omega | (dsimp only;omega)⟩
 case hn=>exact (by first | omega | (dsimp only;omega))
 rintro ⟨x0,x1,x2,u⟩ hI;dsimp only at hI;obtain ⟨rfl,rfl,h0,h1⟩:=hI;unfold z5i;dsimp only;with_reducible repeat' (first | apply dP | apply dX<;>intro _)
 · refine dZ (f5y _) ?_
   rintro ⟨b,u⟩ -
   dsimp only;rw [qg (n:=x2+1) (by omega)];with_reducible repeat' (first | apply dP | apply dX<;>intro _)
   · trivial
   · exact ⟨⟨rfl,rfl,by first | omega | (dsimp only;omega),by first | omega | (dsimp only;omega)⟩,by first | omega | (dsimp only;omega)⟩
 · refine dO ?_;omega
 · trivial
theorem g3u (l:List Int) (hl:l.length≤1000000000000):Df (j8b (l,())) (fun _=>True):=by
 show Df (z5j j7x q3w _) _;unfold z5j;dsimp only;refine dZ (P:=fun _=>True) ?_ (fun z _=>by cases z<;>exact dP trivial);refine dL ?I ?m ?h _ ?hv ?hn
 case I=>exact (fun v=>v.1=l∧v.2.1=l.length∧0≤v.2.2.1∧v.2.2.1≤l.length)
 case m=>exact (fun v=>(l.length - v.2.2.1).toNat)
 case hv=>exact ⟨rfl,rfl,by first | omega | (dsimp only;omega),by first | omega | (dsimp only;omega)⟩
 case hn=>exact (by first | omega | (dsimp only;omega))
 rintro ⟨x0,x1,x2,u⟩ hI;dsimp only at hI;obtain ⟨rfl,rfl,h0,h1⟩:=hI;unfold j2m;dsimp only;with_reducible repeat' (first | apply dP | apply dX<;>intro _)
 · refine dZ (f5x _) ?_
   rintro ⟨b,u⟩ -
   dsimp only;rw [qg (n:=x2+1) (by omega)];with_reducible repeat' (first | apply dP | apply dX<;>intro _)
   · trivial
   · exact ⟨⟨rfl,rfl,by first | omega | (dsimp only;omega),by first | omega | (dsimp only;omega)⟩,by first | omega | (dsimp only;omega)⟩
 · refine dO ?_;omega
 · trivial
theorem b8e (l:List Int) (p:Int) (hl:l.length≤1000000000000):Df (x2z (T,A,B,l,p,())) (fun _=>True):=by
 show Df (v8x v7b _) _;unfold v8x;dsimp only;refine dZ (P:=fun _=>True) ?_ (fun _ _=>dP trivial);show Df (v8y x7x _) _;unfold v8y;dsimp only;exact dZ (b8z l hl) fun _ _=>dP trivial
theorem b8f (l:List Int) (p:Int) (hl:l.length≤1000000000000):Df (x3a (T,A,B,l,p,())) (fun _=>True):=by
 show Df (v9a z3y _) _;unfold v9a;dsimp only;refine dZ (P:=fun _=>True) ?_ (fun _ _=>dP trivial);show Df (z5b j8b _) _;unfold z5b;dsimp only;exact dZ (g3u l hl) fun _ _=>dP trivial
theorem b9o (h:TK T A B) (r:Int) (l:List Int) (p:Int):Df (z8p (r,T,A,B,l,p,())) (fun y=>y.2=(T,A,B,l,p,())):=by
 show Df (k0h j8d _) _;unfold k0h;dsimp only;refine dZ (g4a T A B _ h.t) ?_;rintro ⟨x,u⟩ -
 dsimp only;with_reducible repeat' (first | apply dP | apply dX<;>intro _)
 all_goals rfl
theorem g3v (h:TK T A B) (l:List Int) (l':List Int) (p:Int) (hl:l.length≤1000000000000):Df (j8c (l,T,A,B,l',p,())) (fun _=>True):=by
 show Df (z5k z8p q3x _) _;unfold z5k;dsimp only;refine dZ (P:=fun _=>True) ?_ (fun z _=>by cases z<;>exact dP trivial);refine dL ?I ?m ?h _ ?hv ?hn
 case I=>exact (fun v=>v.1=l∧v.2.1=l.length∧0≤v.2.2.1∧v.2.2.1≤l.length∧v.2.2.2=(T,A,B,l',p,()))
 case m=>exact (fun v=>(l.length - v.2.2.1).toNat)
 case hv=>exact ⟨rfl,rfl,by first | omega | (dsimp only;omega),by first | omega | (dsimp only;omega),rfl⟩
 case hn=>exact (by first | omega | (dsimp only;omega))
 rintro ⟨x0,x1,x2,x3,x4,x5,x6,x7,u⟩ hI;dsimp only at hI;obtain ⟨rfl,rfl,h0,h1,h2⟩:=hI;simp only [Prod.mk.injEq] at h2;obtain ⟨rfl,rfl,rfl,rfl,rfl,-⟩:=h2;unfold j2n;dsimp only;with_reducible repeat' (first | apply dP | apply dX<;>intro _)
 · refine dZ (b9o h _ _ _) ?_
   rintro ⟨b,y1,y2,y3,y4,y5,u⟩ hy;simp only [Prod.mk.injEq] at hy;obtain ⟨rfl,rfl,rfl,rfl,rfl,-⟩:=hy;dsimp only;rw [qg (n:=x2+1) (by omega)];with_reducible repeat' (first | apply dP | apply dX<;>intro _)
   · trivial
   · exact ⟨⟨rfl,rfl,by first | omega | (dsimp only;omega),by first | omega | (dsimp only;omega),rfl⟩,by first | omega | (dsimp only;omega)⟩
 · refine dO ?_;omega
 · trivial
theorem b9e (h:TK T A B) (l:List Int) (p:Int) (hl:l.length≤1000000000000):Df (x3i (T,A,B,l,p,())) (fun _=>True):=by
 show Df (v9t z3z _) _;unfold v9t;dsimp only;refine dZ (P:=fun _=>True) ?_ (fun _ _=>dP trivial);show Df (z5c j8c _) _;unfold z5c;dsimp only;exact dZ (g3v h l l p hl) fun _ _=>dP trivial
theorem b8a (x:Int):Df (z3s (x,())) (fun _=>True):=by
 show Df (v8m j7x j7y v7c _) _;unfold v8m;dsimp only;refine dZ (f5x x) ?_;rintro ⟨b,u⟩ -
 dsimp only;with_reducible repeat' (first | apply dP | apply dX<;>intro _)
 · trivial
 · refine dZ (f5y x) ?_
   rintro ⟨b,u⟩ -
   dsimp only;with_reducible repeat' (first | apply dP | apply dX<;>intro _)
   · trivial
   · refine dZ (P:=fun _=>True) ⟨(),rfl,trivial⟩ ?_
     intro u _;with_reducible repeat' (first | apply dP | apply dX<;>intro _)
     all_goals trivial
theorem f5o (h:TK T A B) (l:List Int) (p:Int) (hl:l.length≤1000000000000) (hp:p≤1000000000000):Df (j4j (T,A,B,l,p,())) (fun _=>True):=by
 show Df (x3p z3s x2z x3a z4a x3e x3f x3g x3h x3i _) _;unfold x3p;dsimp only;have jv:∀{x:Option (Bool×Unit)},Df x (fun _=>True)→Df (x.bind fun val=>bif val.fst then some ((1:Int),()) else some (2,())) (fun _=>True):=by
  intro x hx;refine dZ hx ?_;rintro ⟨b,u⟩ -
  dsimp only;with_reducible repeat' (first | apply dP | apply dX<;>intro _)
  all_goals trivial
 with_reducible repeat' (first | apply dP | apply dX<;>intro _)
 · trivial
 · trivial
 · refine dZ (b8a _) ?_
   intro z _;rcases z with z | z | z | z | z | z | z | z | z
   · exact jv (b8e l p hl)
   · exact jv (b8f l p hl)
   · exact jv (f6c h l p (by omega))
   · exact jv (b9a h l p (by omega) hl)
   · exact jv (b9b l p (by omega))
   · exact jv (b9c h l p (by omega))
   · exact jv (b9d h l p (by omega))
   · exact jv (b9e h l p hl)
   · exact dP trivial
 · refine dO ?_;omega
theorem f5r (h:TK T A B) (r:Int):Df (q2k (T,A,B,r,())) (fun _=>True):=by
 show Df (v8o j4l zp _) _;unfold v8o;dsimp only;refine dZ (g3f T A B r) ?_;rintro ⟨v0,a,c,s,o,is,u⟩ -
 dsimp only;with_reducible repeat' (first | apply dP | apply dX<;>intro _)
 all_goals first
  | trivial
  | (refine dZ (g3e T A B r h.t) ?_;rintro ⟨x,u⟩ -;dsimp only;(repeat' (first | apply dP | (apply dG<;>intro _)));all_goals trivial)
theorem b8p (h:TK T A B) (l:List Int) (hl:l.length≤1000000000000):Df (x3c (T,A,B,l,())) (fun _=>True):=by
 show Df (x3u j4j q2k q8g _) _;unfold x3u;dsimp only;refine dZ (P:=fun _=>True) ?_ (fun z _=>by cases z<;>exact dP trivial);refine dL ?I ?m ?h _ ?hv ?hn
 case I=>exact (fun v=>v.1=l∧v.2.1=l∧v.2.2.1=l.length∧0≤v.2.2.2.1∧v.2.2.2.1≤l.length∧v.2.2.2.2=(T,A,B,()))
 case m=>exact (fun v=>(l.length - v.2.2.2.1).toNat)
 case hv=>exact ⟨rfl,rfl,rfl,by first | omega | (dsimp only;omega),by first | omega | (dsimp only;omega),rfl⟩
 case hn=>exact (by first | omega | (dsimp only;omega))
 rintro ⟨x0,x1,x2,x3,x4,x5,x6,u⟩ hI;dsimp only at hI;obtain ⟨rfl,rfl,rfl,h0,h1,h2⟩:=hI;simp only [Prod.mk.injEq] at h2;obtain ⟨rfl,rfl,rfl,-⟩:=h2;unfold j6k;dsimp only;with_reducible repeat' (first | apply dP | apply dX<;>intro _)
 · refine dZ (f5o h _ _ hl (by omega)) ?_
   rintro ⟨b,u⟩ -
   dsimp only;rw [qg (n:=x3+1) (by omega)];with_reducible repeat' (first | apply dP | apply dX<;>intro _)
   · trivial
   · refine dZ (f5r h _) ?_
     rintro ⟨b,u⟩ -
     dsimp only;with_reducible repeat' (first | apply dP | apply dX<;>intro _)
     · trivial
     · exact ⟨⟨rfl,rfl,rfl,by first | omega | (dsimp only;omega),by first | omega | (dsimp only;omega),rfl⟩,by first | omega | (dsimp only;omega)⟩
   · exact ⟨⟨rfl,rfl,rfl,by first | omega | (dsimp only;omega),by first | omega | (dsimp only;omega),rfl⟩,by first | omega | (dsimp only;omega)⟩
 · refine dO ?_;omega
 · trivial
theorem b8o (h:TK T A B) (l:List Int) (hl:l.length≤1000000000000):Df (x3b (T,A,B,l,())) (fun y=>y.2=(T,A,B,l,())):=by
 show Df (x9z x3c _) _;unfold x9z;dsimp only;exact dZ (b8p h l hl) fun _ _=>dP rfl
theorem f5p (h:TK T A B) (l:List Int) (hl:l.length≤1000000000000):Df (q7w (T,A,B,l,())) (fun _=>True):=by
 show Df (v8g q6l j5e _) _;unfold v8g;dsimp only;refine dZ (P:=fun y=>y.1.length=8∧y.2.1.length=8) ?_ ?_
 · refine dL ?I ?m ?h _ ?hv ?hn
   case I=>exact (fun v=>v.1=l∧v.2.1=l.length∧0≤v.2.2.1∧v.2.2.1≤l.length∧v.2.2.2.1=T∧v.2.2.2.2.2.2.1.length=8∧v.2.2.2.2.2.2.2.1.length=8)
   case m=>exact (fun v=>(l.length - v.2.2.1).toNat)
   case hv=>exact ⟨rfl,rfl,by first | omega | (dsimp only;omega),by first | omega | (dsimp only;omega),rfl,rfl,rfl⟩
   case hn=>exact (by first | omega | (dsimp only;omega))
   rintro ⟨x0,x1,x2,x3,x4,x5,x6,x7,u⟩ hI;dsimp only at hI;obtain ⟨rfl,rfl,h0,h1,rfl,h2,h3⟩:=hI;unfold z4w;dsimp only;with_reducible repeat' (first | apply dP | apply dX<;>intro _)
   · refine dZ (g3g x3 _ _ _ h.t) ?_
     rintro ⟨b,u⟩ hb;dsimp only at hb ⊢;rw [qg (n:=x2+1) (by omega)];with_reducible repeat' (first | apply dP | apply dX<;>intro _)
     all_goals first
      | exact ⟨⟨rfl,rfl,by first | omega | (dsimp only;omega),by first | omega | (dsimp only;omega),rfl,h2,by simp only [List.length_set];omega⟩,by first | omega | (dsimp only;omega)⟩
      | (refine dO ?_;omega)
   · refine dO ?_;omega
   · exact ⟨h2,h3⟩
 · rintro ⟨x0,x1,u⟩ hx
   dsimp only at hx ⊢;with_reducible repeat' (first | apply dP | apply dX<;>intro _)
   all_goals first | trivial | (refine dO ?_;omega)
theorem g2x (h:TK T A B) (l:List Int) (hl:l.length≤1000000000000):Df (q6j (T,A,B,l,())) (fun _=>True):=by
 show Df (v7y q7w _) _;unfold v7y;dsimp only;exact dZ (f5p h l hl) fun _ _=>dP trivial
theorem b7s (h:TK T A B) (l:List Int):Df (j7w (T,A,B,l,())) (fun _=>True):=by
 show Df (v8h q6l _) _;unfold v8h;dsimp only;with_reducible repeat' (first | apply dP | apply dX<;>intro _)
 · trivial
 · refine dZ (g3g T A B _ h.t) ?_
   rintro ⟨b,u⟩ -
   dsimp only;with_reducible repeat' (first | apply dP | apply dX<;>intro _)
   all_goals trivial
 · refine dO ?_;omega
theorem g2y (x:Bool) (y:Bool) (z:List Int) (hz:z.length=8):Df (q7s (x,y,z,())) (fun _=>True):=by
 show Df (j5t q6j q7w j4k j7w _) _;unfold j5t;dsimp only;with_reducible repeat' (first | apply dP | apply dX<;>intro _)
 all_goals first | trivial | (refine dO ?_;omega) | (rename_i h1 h2;exact absurd (show Int.toNat 1<z.length by rw [hz];decide) h2)
theorem v1x (x:Int) (y:Bool) (z:List Int) (hz:z.length=8):Df (j5c (x,y,z,())) (fun _=>True):=by
 show Df (j5u q6j q7w j4k j7w q7s _) _;unfold j5u;dsimp only;with_reducible repeat' (first | apply dP | apply dX<;>intro _)
 all_goals exact dZ (g2y _ _ z hz) fun _ _=>dP trivial
end
section
variable {T:List R6} {A:List R4} {B:List R3}
theorem k3g (hA:A.length≤1000000000000) (a b:Int):Df (zn (a,b,T,A,B,())) (fun y=>y.2=(T,A,B,())):=by
 unfold zn v9m;dsimp only;refine dZ (v2b T A B _ hA) ?_;rintro ⟨x,u⟩ -
 exact dZ (v2b T A B _ hA) fun _ _=>dP rfl
theorem g4b (o n:Nat) (a b i j:Int) (row:List Int) (hj:1≤j∧j<n) (hn:n≤100000000000000) :
 Df (q1l (((o:Int),(n:Int)),a,b,i,j,row,T,A,B,())) (fun y=>∃(r':List Int),r'.length=row.length∧y=(((o:Int),(n:Int)),a,b,i,j - 1,r',T,A,B,())):=by
 unfold q1l j6r;dsimp only;simp only [Int.toNat_natCast];rw [qg (n:=j - 1) (by omega)];with_reducible repeat' (first | apply dP | apply dX<;>intro _)
 · exact ⟨_,by simp only [List.length_set],rfl⟩
 all_goals (refine dO ?_;omega)
theorem g4c (hA:A.length≤1000000000000) (o n:Nat) (a b i j:Int) (row:List Int) (ha:0≤a) (hj:a≤j∧j<n) (hn:n≤100000000000000) :
 Df (q8r (((o:Int),(n:Int)),a,b,i,j,row,T,A,B,())) (fun y=>∃(r':List Int),r'.length=row.length∧y=(((o:Int),(n:Int)),a,b,i,r',T,A,B,())):=by
 refine dL ?I ?m ?h _ ?hv ?hn
 case I=>exact (fun v=>∃(j':Int) (r':List Int),a≤j'∧j'<n∧r'.length=row.length∧v=(((o:Int),(n:Int)),a,b,i,j',r',T,A,B,()))
 case m=>exact (fun v=>(v.2.2.2.2.1 - a).toNat)
 case hv=>exact ⟨j,row,hj.1,hj.2,rfl,rfl⟩
 case hn=>exact (by first | omega | (dsimp only;omega))
 rintro v ⟨j',r',h1,h2,h3,rfl⟩;unfold j6s;dsimp only;simp only [Int.toNat_natCast];rw [qg (n:=j' - 1) (by omega)];with_reducible repeat' (first | apply dP | apply dX<;>intro _)
 · refine dZ (k3g hA _ _) ?_
   rintro ⟨c,t,a',b',u⟩ hc;simp only [Prod.mk.injEq] at hc;obtain ⟨rfl,rfl,rfl,-⟩:=hc;dsimp only;with_reducible repeat' (first | apply dP | apply dX<;>intro _)
   · refine dZ (g4b o n a b i j' r' (by omega) hn) ?_
     rintro y ⟨r2,h4,rfl⟩;dsimp only;simp only [Int.toNat_natCast];exact dP ⟨⟨_,_,by omega,by omega,h4.trans h3,rfl⟩,by first | omega | (dsimp only;omega)⟩
   · exact ⟨_,h3,rfl⟩
 · refine dO ?_;omega
 · refine dO ?_;omega
 · exact ⟨_,h3,rfl⟩
theorem f6f (hA:A.length≤1000000000000) (o n:Nat) (a b:Int) (row:List Int) (ha:0≤a∧a≤n) (hb:b≤n) (hn:n≤100000000000000) :
 Df (q8q (((o:Int),(n:Int)),a,b,row,T,A,B,())) (fun y=>∃(r':List Int),r'.length=row.length∧y=(r',T,A,B,())):=by
 unfold q8q k0i;dsimp only;simp only [Int.toNat_natCast];rw [qg (n:=a+1) (by omega)];refine dZ (P:=fun y=>∃(r':List Int),r'.length=row.length∧y=(r',T,A,B,())) ?_ ?_
 · refine dL ?I ?m ?h _ ?hv ?hn
   case I=>exact (fun v=>∃(i:Int) (r':List Int),a+1≤i∧r'.length=row.length∧v=(((o:Int),(n:Int)),a,b,i,r',T,A,B,()))
   case m=>exact (fun v=>(b - v.2.2.2.1).toNat)
   case hv=>exact ⟨a+1,row,Int.le_refl _,rfl,rfl⟩
   case hn=>exact (by first | omega | (dsimp only;omega))
   rintro v ⟨i,r',h1,h2,rfl⟩;unfold j6t;dsimp only;simp only [Int.toNat_natCast];with_reducible repeat' (first | apply dP | apply dX<;>intro _)
   · refine dZ (g4c hA o n a b i i r' ha.1 (by omega) hn) ?_
     rintro y ⟨r2,h4,rfl⟩;dsimp only;simp only [Int.toNat_natCast];rw [qg (n:=i+1) (by omega)];exact dP ⟨⟨_,_,by omega,h4.trans h2,rfl⟩,by first | omega | (dsimp only;omega)⟩
   · exact ⟨_,h2,rfl⟩
 · rintro y ⟨r',h,rfl⟩
   exact dP ⟨_,h,rfl⟩
theorem g4i (o n:Nat) (a b k:Int) (row:List Int) (ha:0≤a∧a+k≤n) (hb:0≤b∧b+k≤n) (hn:n≤100000000000000) :
 Df (z0s (((o:Int),(n:Int)),a,b,k,row,T,A,B,())) (fun y=>∃(r':List Int),r'.length=row.length∧y=(r',T,A,B,())):=by
 unfold z0s k0l;dsimp only;simp only [Int.toNat_natCast];refine dZ (P:=fun y=>∃(r':List Int),r'.length=row.length∧y=(r',T,A,B,())) ?_ ?_
 · refine dL ?I ?m ?h _ ?hv ?hn
   case I=>exact (fun v=>∃(i:Int) (r':List Int),0≤i∧r'.length=row.length∧v=(((o:Int),(n:Int)),a,b,k,i,r',T,A,B,()))
   case m=>exact (fun v=>(k - v.2.2.2.2.1).toNat)
   case hv=>exact ⟨0,row,Int.le_refl _,rfl,rfl⟩
   case hn=>exact (by first | omega | (dsimp only;omega))
   rintro v ⟨i,r',h1,h2,rfl⟩;unfold j6v;dsimp only;simp only [Int.toNat_natCast];by_cases hlt:i<k
   · rw [qg (n:=a+i) (by omega),qg (n:=b+i) (by omega),qg (n:=i+1) (by omega)]
     with_reducible repeat' (first | apply dP | apply dX<;>intro _)
     · exact ⟨⟨_,_,by omega,by simp only [List.length_set];exact h2,rfl⟩,by first | omega | (dsimp only;omega)⟩
     all_goals first | (refine dO ?_;omega) | (exfalso;omega)
   · rw [decide_eq_false hlt]
     exact dP ⟨_,h2,rfl⟩
 · rintro y ⟨r',h,rfl⟩
   exact dP ⟨_,h,rfl⟩
theorem b9r (o n:Nat) (a m b:Int) (row:List Int) (ha:0≤a∧a<m) (hb:m<b∧b≤n) (hn:n≤100000000000000) :
 Df (zu (((o:Int),(n:Int)),a,m,b,row,T,A,B,())) (fun y=>∃(r':List Int),r'.length=row.length∧y=(r',T,A,B,())):=by
 unfold zu k0k;dsimp only;simp only [Int.toNat_natCast];rw [qg (n:=m - a) (by omega),qg (n:=b - m) (by omega)];refine dZ (P:=fun y=>∃(i:Int) (r':List Int),0≤i∧i≤m - a∧m+i≤n∧r'.length=row.length∧y=(((o:Int),(n:Int)),m,i,r',T,A,B,())) ?_ ?_
 · refine dL ?I ?m ?h _ ?hv ?hn
   case I=>exact (fun v=>∃(i:Int) (j:Int) (r':List Int),0<i∧0<j∧i≤m - a∧j≤b - m∧r'.length=row.length∧v=(((o:Int),(n:Int)),m,i,j,r',T,A,B,()))
   case m=>exact (fun v=>(v.2.2.1+v.2.2.2.1).toNat)
   case hv=>exact ⟨m - a,b - m,row,by omega,by omega,Int.le_refl _,Int.le_refl _,rfl,rfl⟩
   case hn=>exact (by first | omega | (dsimp only;omega))
   rintro v ⟨i,j,r',h1,h2,h3,h4,h5,rfl⟩;unfold j6u;dsimp only;simp only [Int.toNat_natCast];rw [qg (n:=m - i) (by omega),qg (n:=i - j) (by omega),qg (n:=j - i) (by omega),qg (n:=m+j) (by omega),qg (n:=m+j - i) (by omega)];with_reducible repeat' (first | apply dP | apply dX<;>intro _)
   · refine dZ (g4i o n (m - i) m j r' (by omega) (by omega) hn) ?_
     rintro y ⟨r2,h6,rfl⟩;dsimp only;exact dP ⟨⟨_,_,_,by omega,by omega,by omega,by omega,h6.trans h5,rfl⟩,by first | omega | (dsimp only;omega)⟩
   · refine dZ (g4i o n (m - i) (m+j - i) i r' (by omega) (by omega) hn) ?_
     rintro y ⟨r2,h6,rfl⟩;dsimp only;exact dP ⟨⟨_,_,_,by omega,by omega,by omega,by omega,h6.trans h5,rfl⟩,by first | omega | (dsimp only;omega)⟩
   · exact ⟨_,_,by omega,by omega,by omega,h5,rfl⟩
 · rintro y ⟨i,r',h1,h2,h3,h4,rfl⟩
   dsimp only;simp only [Int.toNat_natCast];rw [qg (n:=m - i) (by omega)];refine dZ (g4i o n (m - i) m i r' (by omega) (by omega) hn) ?_;rintro y ⟨r2,h6,rfl⟩;exact dP ⟨_,h6.trans h4,rfl⟩
theorem g4d (G:je) (hA:A.length≤1000000000000) (o n:Nat) (a i j:Int) (row:List Int) (ha:0≤a∧a<n) (hi:0≤i∧i≤j) (hj:j≤n) (hn:n≤100000000000000) :
 Df (xw G (((o:Int),(n:Int)),a,i,j,row,T,A,B,())) (fun y=>∃(i':Int),i≤i'∧i'≤j∧y=(((o:Int),(n:Int)),a,i',row,T,A,B,())):=by
 refine dL ?I ?m ?h _ ?hv ?hn
 case I=>exact (fun v=>∃(i':Int) (j':Int),i≤i'∧i'≤j'∧j'≤j∧v=(((o:Int),(n:Int)),a,i',j',row,T,A,B,()))
 case m=>exact (fun v=>(v.2.2.2.1 - v.2.2.1).toNat)
 case hv=>exact ⟨i,j,Int.le_refl _,hi.2,Int.le_refl _,rfl⟩
 case hn=>exact (by first | omega | (dsimp only;omega))
 rintro v ⟨i',j',h1,h2,h3,rfl⟩;unfold q8u;dsimp only;simp only [Int.toNat_natCast];rw [v4o (by omega) (by omega) (by omega),qg (n:=(i'+j')/2+1) (by omega)];with_reducible repeat' (first | apply dP | apply dX<;>intro _)
 · refine dZ (k3g hA _ _) ?_
   rintro ⟨c,t,a',b',u⟩ hc;simp only [Prod.mk.injEq] at hc;obtain ⟨rfl,rfl,rfl,-⟩:=hc;dsimp only;with_reducible repeat' (first | apply dP | apply dX<;>intro _)
   · exact ⟨⟨_,_,by omega,by omega,by omega,rfl⟩,by first | omega | (dsimp only;omega)⟩
   · exact ⟨⟨_,_,by omega,by omega,by omega,rfl⟩,by first | omega | (dsimp only;omega)⟩
 · refine dO ?_;omega
 · refine dO ?_;omega
 · exact ⟨_,by omega,by omega,rfl⟩
theorem g4f (G:je) (hA:A.length≤1000000000000) (o n:Nat) (a i j:Int) (row:List Int) (ha:0≤a∧a<n) (hi:0≤i∧i≤j) (hj:j≤n) (hn:n≤100000000000000) :
 Df (xy G (((o:Int),(n:Int)),a,i,j,row,T,A,B,())) (fun y=>∃(i':Int),i≤i'∧i'≤j∧y=(((o:Int),(n:Int)),a,i',row,T,A,B,())):=by
 refine dL ?I ?m ?h _ ?hv ?hn
 case I=>exact (fun v=>∃(i':Int) (j':Int),i≤i'∧i'≤j'∧j'≤j∧v=(((o:Int),(n:Int)),a,i',j',row,T,A,B,()))
 case m=>exact (fun v=>(v.2.2.2.1 - v.2.2.1).toNat)
 case hv=>exact ⟨i,j,Int.le_refl _,hi.2,Int.le_refl _,rfl⟩
 case hn=>exact (by first | omega | (dsimp only;omega))
 rintro v ⟨i',j',h1,h2,h3,rfl⟩;unfold q8w;dsimp only;simp only [Int.toNat_natCast];rw [v4o (by omega) (by omega) (by omega),qg (n:=(i'+j')/2+1) (by omega)];with_reducible repeat' (first | apply dP | apply dX<;>intro _)
 · refine dZ (k3g hA _ _) ?_
   rintro ⟨c,t,a',b',u⟩ hc;simp only [Prod.mk.injEq] at hc;obtain ⟨rfl,rfl,rfl,-⟩:=hc;dsimp only;with_reducible repeat' (first | apply dP | apply dX<;>intro _)
   · exact ⟨⟨_,_,by omega,by omega,by omega,rfl⟩,by first | omega | (dsimp only;omega)⟩
   · exact ⟨⟨_,_,by omega,by omega,by omega,rfl⟩,by first | omega | (dsimp only;omega)⟩
 · refine dO ?_;omega
 · refine dO ?_;omega
 · exact ⟨_,by omega,by omega,rfl⟩
theorem g4e (G:je) (o n:Nat) (i k:Int) (row:List Int) (hk:0≤k) (hi:i≤n) (hn:n≤100000000000000) (hi0:0≤i) :
 Df (xx G (((o:Int),(n:Int)),i,k,row,T,A,B,())) (fun y=>∃(r':List Int),r'.length=row.length∧y=(r',T,A,B,())):=by
 refine dL ?I ?m ?h _ ?hv ?hn
 case I=>exact (fun v=>∃(k':Int) (r':List Int),0≤k'∧r'.length=row.length∧v=(((o:Int),(n:Int)),i,k',r',T,A,B,()))
 case m=>exact (fun v=>(i - v.2.2.1).toNat)
 case hv=>exact ⟨k,row,hk,rfl,rfl⟩
 case hn=>exact (by first | omega | (dsimp only;omega))
 rintro v ⟨k',r',h1,h2,rfl⟩;unfold q8v;dsimp only;simp only [Int.toNat_natCast];rw [qg (n:=i - 1) (by omega)];by_cases hlt:k'<i - 1
 · rw [qg (n:=k'+1) (by omega)]
   with_reducible repeat' (first | apply dP | apply dX<;>intro _)
   · exact ⟨⟨_,_,by omega,by simp only [List.length_set];exact h2,rfl⟩,by first | omega | (dsimp only;omega)⟩
   all_goals first | (refine dO ?_;omega) | (exfalso;omega)
 · rw [decide_eq_false hlt]
   exact dP ⟨_,h2,rfl⟩
theorem g4g (G:je) (o n:Nat) (i k:Int) (row:List Int) (hk:k<n) (hi:0≤i) (hn:n≤100000000000000) :
 Df (xz G (((o:Int),(n:Int)),i,k,row,T,A,B,())) (fun y=>∃(r':List Int),r'.length=row.length∧y=(r',T,A,B,())):=by
 refine dL ?I ?m ?h _ ?hv ?hn
 case I=>exact (fun v=>∃(k':Int) (r':List Int),k'<n∧r'.length=row.length∧v=(((o:Int),(n:Int)),i,k',r',T,A,B,()))
 case m=>exact (fun v=>(v.2.2.1 - i).toNat)
 case hv=>exact ⟨k,row,hk,rfl,rfl⟩
 case hn=>exact (by first | omega | (dsimp only;omega))
 rintro v ⟨k',r',h1,h2,rfl⟩;unfold q8x;dsimp only;simp only [Int.toNat_natCast];by_cases hlt:k'>i
 · rw [qg (n:=k' - 1) (by omega)]
   with_reducible repeat' (first | apply dP | apply dX<;>intro _)
   · exact ⟨⟨_,_,by omega,by simp only [List.length_set];exact h2,rfl⟩,by first | omega | (dsimp only;omega)⟩
   all_goals first | (refine dO ?_;omega) | (exfalso;omega)
 · rw [decide_eq_false hlt]
   exact dP ⟨_,h2,rfl⟩
theorem g4h (G:je) (hA:A.length≤1000000000000) (o n:Nat) (a m b mid s st r p:Int) (row:List Int) (h0:0≤st∧st≤r) (hr:r≤n) (hp:0≤p - r+1∧p - st<n) (hn:n≤100000000000000) :
 Df (kf G (((o:Int),(n:Int)),a,m,b,mid,s,st,r,p,row,T,A,B,())) (fun y=>∃(st':Int),st≤st'∧st'≤r∧y=(((o:Int),(n:Int)),a,m,b,mid,s,st',row,T,A,B,())):=by
 refine dL ?I ?m ?h _ ?hv ?hn
 case I=>exact (fun v=>∃(i':Int) (j':Int),st≤i'∧i'≤j'∧j'≤r∧v=(((o:Int),(n:Int)),a,m,b,mid,s,i',j',p,row,T,A,B,()))
 case m=>exact (fun v=>(v.2.2.2.2.2.2.2.1 - v.2.2.2.2.2.2.1).toNat)
 case hv=>exact ⟨st,r,Int.le_refl _,h0.2,Int.le_refl _,rfl⟩
 case hn=>exact (by first | omega | (dsimp only;omega))
 rintro v ⟨i',j',h1,h2,h3,rfl⟩;unfold q8y;dsimp only;simp only [Int.toNat_natCast];rw [v4o (by omega) (by omega) (by omega)];by_cases hlt:i'<j'
 · rw [qg (n:=(i'+j')/2+1) (by omega),qg (n:=p - (i'+j')/2) (by omega)]
   with_reducible repeat' (first | apply dP | apply dX<;>intro _)
   · refine dZ (k3g hA _ _) ?_
     rintro ⟨c,t,a',b',u⟩ hc;simp only [Prod.mk.injEq] at hc;obtain ⟨rfl,rfl,rfl,-⟩:=hc;dsimp only;with_reducible repeat' (first | apply dP | apply dX<;>intro _)
     · exact ⟨⟨_,_,by omega,by omega,by omega,rfl⟩,by first | omega | (dsimp only;omega)⟩
     · exact ⟨⟨_,_,by omega,by omega,by omega,rfl⟩,by first | omega | (dsimp only;omega)⟩
   all_goals first | (refine dO ?_;omega) | (exfalso;omega)
 · rw [decide_eq_false hlt]
   exact dP ⟨_,by omega,by omega,rfl⟩
def Mg (T:List R6) (A:List R4) (B:List R3) (G:je) (o n:Nat) (k:Int):Prop:=∀(a m b:Int) (row:List Int),0≤a→a<m→m<b→b≤n→b - a<k →
 Df (G (((o:Int),(n:Int)),a,m,b,row,T,A,B,())) (fun y=>∃(r':List Int),r'.length=row.length∧y=(r',T,A,B,()))
theorem k3i (G:je) (o n:Nat) (k:Int) (hG:Mg T A B G o n k) (b mid e:Int) (row:List Int) (h:0≤mid∧b≤n∧b - mid<k) :
 Df (xd G (((o:Int),(n:Int)),b,mid,e,row,T,A,B,())) (fun y=>∃(r':List Int),r'.length=row.length∧y=(r',T,A,B,())):=by
 show Df (q4f zn G zu _) _;unfold q4f;dsimp only;simp only [Int.toNat_natCast];with_reducible repeat' (first | apply dP | apply dX<;>intro _)
 · refine dZ (hG mid e b row (by omega) (by omega) (by omega) (by omega) (by omega)) ?_
   rintro y ⟨r',h,rfl⟩;exact dP ⟨_,h,rfl⟩
 · exact ⟨_,rfl,rfl⟩
 · exact ⟨_,rfl,rfl⟩
theorem k3j (G:je) (o n:Nat) (k:Int) (hG:Mg T A B G o n k) (a b mid st e:Int) (row:List Int) (h0:0≤a∧mid≤n∧mid - a<k) (h:0≤mid∧b≤n∧b - mid<k) :
 Df (xe G (((o:Int),(n:Int)),a,b,mid,st,e,row,T,A,B,())) (fun y=>∃(r':List Int),r'.length=row.length∧y=(r',T,A,B,())):=by
 show Df (q4g zn G zu (xd G) _) _;unfold q4g;dsimp only;simp only [Int.toNat_natCast];have jv:∀r0:List Int,r0.length=row.length→Df ((xd G (((o:Int),(n:Int)),b,mid,e,r0,T,A,B,())).bind fun val=>some (val.fst,val.snd.fst,val.snd.snd.fst,val.snd.snd.snd.fst,())) (fun y=>∃(r':List Int),r'.length=row.length∧y=(r',T,A,B,())):=by
  intro r0 hr;refine dZ (k3i G o n k hG b mid e r0 h) ?_;rintro y ⟨r',h,rfl⟩;exact dP ⟨_,h.trans hr,rfl⟩
 with_reducible repeat' (first | apply dP | apply dX<;>intro _)
 · refine dZ (hG a st mid row (by omega) (by omega) (by omega) (by omega) (by omega)) ?_
   rintro y ⟨r',h,rfl⟩;exact jv r' h
 · exact jv row rfl
 · exact jv row rfl
theorem x0r (G:je) (hA:A.length≤1000000000000) (o n:Nat) (k:Int) (hG:Mg T A B G o n k) (a m b mid s st r:Int) (row:List Int) (hn:n≤100000000000000) (hs:s=mid+m) (h0:0≤st∧st≤r) (hr:r≤n) (hp:0≤s - r∧s - st≤n)
 (ha:0≤a∧mid≤n∧mid - a<k) (h:0≤mid∧b≤n∧b - mid<k) (hm:m≤n) :
 Df (xv G (((o:Int),(n:Int)),a,m,b,mid,s,st,r,row,T,A,B,())) (fun y=>∃(r':List Int),r'.length=row.length∧y=(r',T,A,B,())):=by
 show Df (q4h zn G zu (xe G) (kf G) _) _;unfold q4h;dsimp only;simp only [Int.toNat_natCast];rw [qg (n:=s - 1) (by omega)];refine dZ (g4h G hA o n a m b mid s st r (s - 1) row h0 hr (by omega) hn) ?_;rintro y ⟨st',h1,h2,rfl⟩;dsimp only;simp only [Int.toNat_natCast];rw [qg (n:=s - st') (by omega)];have jv:∀r0:List Int,r0.length=row.length→Df ((xe G (((o:Int),(n:Int)),a,b,mid,st',s - st',r0,T,A,B,())).bind fun val=>some (val.fst,val.snd.fst,val.snd.snd.fst,val.snd.snd.snd.fst,())) (fun y=>∃(r':List Int),r'.length=row.length∧y=(r',T,A,B,())):=by
  intro r0 hr0;refine dZ (k3j G o n k hG a b mid st' (s - st') r0 ha h) ?_;rintro y ⟨r',h,rfl⟩;exact dP ⟨_,h.trans hr0,rfl⟩
 with_reducible repeat' (first | apply dP | apply dX<;>intro _)
 · refine dZ (b9r o n st' m (s - st') row (by omega) (by omega) hn) ?_
   rintro y ⟨r',h,rfl⟩;exact jv r' h
 · exact jv row rfl
 · exact jv row rfl
def q5w (G:je):je:=z8t zn G zu (xv G) (xw G) (xx G) (xy G) (xz G)
theorem w7c (hA:A.length≤1000000000000) (o n:Nat) (hn:n≤100000000000000):∀k:Nat,Mg T A B (q1b q5w k) o n (k:Int)
 | 0=>fun a m b row h0 h1 h2 h3 h4=>by omega
 | k+1=>fun a m b row h0 h1 h2 h3 h4=>by
  have hG:=w7c hA o n hn k;show Df (q5w (q1b q5w k) _) _;generalize q1b q5w k=G at hG ⊢;show Df (z8t zn G zu (xv G) (xw G) (xx G) (xy G) (xz G) _) _;unfold z8t;dsimp only;simp only [Int.toNat_natCast];rw [qg (n:=m - a) (by omega),qg (n:=b - m) (by omega),v4o (by omega) (by omega) (by omega),qg (n:=(a+b)/2+m) (by omega),qg (n:=(a+b)/2+m - b) (by omega)];have jv:∀{x:Option (List Int×List R6×List R4×List R3×Unit)},Df x (fun y=>∃(r':List Int),r'.length=row.length∧y=(r',T,A,B,()))→Df (x.bind fun val=>some (val.fst,val.snd.fst,val.snd.snd.fst,val.snd.snd.snd.fst,())) (fun y=>∃(r':List Int),r'.length=row.length∧y=(r',T,A,B,())):=by
   intro x hx;refine dZ hx ?_;rintro y ⟨r',h,rfl⟩;exact dP ⟨_,h,rfl⟩
  with_reducible repeat' (first | apply dP | apply dX<;>intro _)
  · refine dZ (g4d G hA o n a m b row (by omega) (by omega) (by omega) hn) ?_
    rintro y ⟨i',h5,h6,rfl⟩;dsimp only;simp only [Int.toNat_natCast];exact jv (g4e G o n i' a row (by omega) (by omega) hn (by omega))
  · refine dZ (g4f G hA o n m a m row (by omega) (by omega) (by omega) hn) ?_
    rintro y ⟨i',h5,h6,rfl⟩;dsimp only;simp only [Int.toNat_natCast];exact jv (g4g G o n i' m row (by omega) (by omega) hn)
  · exact jv (x0r G hA o n k hG a m b ((a+b)/2) ((a+b)/2+m) ((a+b)/2+m - b) ((a+b)/2) row hn rfl (by omega) (by omega) (by omega) (by omega) (by omega) (by omega))
  · exact jv (x0r G hA o n k hG a m b ((a+b)/2) ((a+b)/2+m) a m row hn rfl (by omega) (by omega) (by omega) (by omega) (by omega) (by omega))
theorem f6g (hA:A.length≤1000000000000) (o n:Nat) (hn:n≤100000000000000) (a m b:Int) (row:List Int) (h0:0≤a) (h1:a<m) (h2:m<b) (h3:b≤n) :
 Df (j4p (((o:Int),(n:Int)),a,m,b,row,T,A,B,())) (fun y=>∃(r':List Int),r'.length=row.length∧y=(r',T,A,B,())):=by
 show Df (q1b q5w jc _) _;exact w7c hA o n hn jc a m b row h0 h1 h2 h3 (by unfold jc;omega)
theorem g3y (hA:A.length≤1000000000000) (o n:Nat) (hn:n≤100000000000000) (row:List Int) :
 Df (q8o (((o:Int),(n:Int)),(n:Int),20,0,20,row,T,A,B,())) (fun y=>∃(a:Int) (r':List Int),0≤a∧a≤n∧r'.length=row.length∧y=(((o:Int),(n:Int)),(n:Int),20,a,r',T,A,B,())):=by
 refine dL ?I ?m ?h _ ?hv ?hn
 case I=>exact (fun v=>∃(a:Int) (r':List Int),0≤a∧a≤n∧r'.length=row.length∧v=(((o:Int),(n:Int)),(n:Int),20,a,a+20,r',T,A,B,()))
 case m=>exact (fun v=>(n - v.2.2.2.1).toNat)
 case hv=>exact ⟨0,row,Int.le_refl _,by omega,rfl,rfl⟩
 case hn=>exact (by first | omega | (dsimp only;omega))
 rintro v ⟨a,r',h1,h2,h3,rfl⟩;unfold j6o;dsimp only;simp only [Int.toNat_natCast];rw [qg (n:=a+20+20) (by omega)];with_reducible repeat' (first | apply dP | apply dX<;>intro _)
 · refine dZ (f6f hA o n a (a+20) r' (by omega) (by omega) hn) ?_
   rintro y ⟨r2,h4,rfl⟩;exact dP ⟨⟨a+20,r2,by omega,by omega,h4.trans h3,rfl⟩,by first | omega | (dsimp only;omega)⟩
 · exact ⟨_,_,h1,h2,h3,rfl⟩
theorem g3z (hA:A.length≤1000000000000) (o n:Nat) (hn:n≤100000000000000) (bs:Int) (hbs:1≤bs∧bs≤n) (row:List Int) :
 Df (q8p (((o:Int),(n:Int)),(n:Int),bs,0,2*bs,row,T,A,B,())) (fun y=>∃(a:Int) (r':List Int),0≤a∧a≤n∧r'.length=row.length∧y=(((o:Int),(n:Int)),(n:Int),bs,a,r',T,A,B,())):=by
 refine dL ?I ?m ?h _ ?hv ?hn
 case I=>exact (fun v=>∃(a:Int) (r':List Int),0≤a∧a≤n∧r'.length=row.length∧v=(((o:Int),(n:Int)),(n:Int),bs,a,a+2*bs,r',T,A,B,()))
 case m=>exact (fun v=>(n - v.2.2.2.1).toNat)
 case hv=>exact ⟨0,row,Int.le_refl _,by omega,rfl,by rw [Int.zero_add]⟩
 case hn=>exact (by first | omega | (dsimp only;omega))
 rintro v ⟨a,r',h1,h2,h3,rfl⟩;unfold j6p;dsimp only;simp only [Int.toNat_natCast];rw [qg (n:=2*bs) (by omega),qg (n:=a+bs) (by omega),qg (n:=a+2*bs+2*bs) (by omega)];with_reducible repeat' (first | apply dP | apply dX<;>intro _)
 · refine dZ (f6g hA o n hn a (a+bs) (a+2*bs) r' (by omega) (by omega) (by omega) (by omega)) ?_
   rintro y ⟨r2,h4,rfl⟩;exact dP ⟨⟨a+2*bs,r2,by omega,by omega,h4.trans h3,rfl⟩,by first | omega | (dsimp only;omega)⟩
 · exact ⟨_,_,h1,h2,h3,rfl⟩
theorem b9k (hA:A.length≤1000000000000) (o n:Nat) (hn:n≤100000000000000) (row:List Int) :
 Df (y2q (((o:Int),(n:Int)),(n:Int),row,T,A,B,())) (fun y=>∃(r':List Int),r'.length=row.length∧y=(r',T,A,B,())):=by
 unfold y2q k0b;dsimp only;simp only [Int.toNat_natCast];refine dZ (g3y hA o n hn row) ?_;rintro y ⟨a,r1,h1,h2,h3,rfl⟩;dsimp only;simp only [Int.toNat_natCast];refine dZ (f6f hA o n a n r1 (by omega) (by omega) hn) ?_;rintro y ⟨r2,h4,rfl⟩;dsimp only;refine dZ (P:=fun y=>∃(r':List Int),r'.length=row.length∧y=(r',T,A,B,())) ?_ ?_
 · refine dL ?I ?m ?h _ ?hv ?hn
   case I=>exact (fun v=>∃(bs:Int) (r':List Int),1≤bs∧bs≤400000000000000∧r'.length=row.length∧v=(((o:Int),(n:Int)),(n:Int),bs,r',T,A,B,()))
   case m=>exact (fun v=>(n - v.2.2.1).toNat)
   case hv=>exact ⟨20,r2,by omega,by omega,h4.trans h3,rfl⟩
   case hn=>exact (by first | omega | (dsimp only;omega))
   rintro v ⟨bs,r',h5,h6,h7,rfl⟩;unfold j6q;dsimp only;simp only [Int.toNat_natCast];rw [qg (n:=2*bs) (by omega)];with_reducible repeat' (first | apply dP | apply dX<;>intro _)
   · refine dZ (g3z hA o n hn bs (by omega) r') ?_
     rintro y ⟨a,r3,h8,h9,h10,rfl⟩;dsimp only;simp only [Int.toNat_natCast];rw [qg (n:=a+bs) (by omega),qg (n:=bs*2) (by omega)];with_reducible repeat' (first | apply dP | apply dX<;>intro _)
     · refine dZ (f6g hA o n hn a (a+bs) n r3 (by omega) (by omega) (by omega) (by omega)) ?_
       rintro y ⟨r4,h11,rfl⟩;exact dP ⟨⟨_,_,by omega,by omega,(h11.trans h10).trans h7,rfl⟩,by first | omega | (dsimp only;omega)⟩
     · exact ⟨⟨_,_,by omega,by omega,h10.trans h7,rfl⟩,by first | omega | (dsimp only;omega)⟩
   · exact ⟨_,h7,rfl⟩
 · rintro y ⟨r',h,rfl⟩
   exact dP ⟨_,h,rfl⟩
theorem b8w (hA:A.length≤1000000000000) (o n:Nat) (hn:n≤100000000000000) (row:List Int) :
 Df (j4o (((o:Int),(n:Int)),row,T,A,B,())) (fun y=>∃(r':List Int),r'.length=row.length∧y=(r',T,A,B,())):=by
 unfold j4o v9l;dsimp only;simp only [Int.toNat_natCast];refine dZ (b9k hA o n hn row) ?_;rintro y ⟨r',h,rfl⟩;exact dP ⟨_,h,rfl⟩
theorem g3m (hA:A.length≤1000000000000) (f k:Int) (row:List Int) (hf:0≤f∧f≤k) (hk:k≤row.length) (hn:row.length≤35184372088832) :
 Df (kb (f,k,T,A,B,row,())) (fun y=>∃(r':List Int),r'.length=row.length∧y=(k+1,k,T,A,B,r',())):=by
 unfold kb j6e;dsimp only;rw [qg (n:=k+1) (by omega)];with_reducible repeat' (first | apply dP | apply dX<;>intro _)
 · refine dZ (b8w hA f.toNat (k.toNat - f.toNat) (by omega) row) ?_
   rintro y ⟨r',h,rfl⟩;exact dP ⟨_,h,rfl⟩
 · refine dO ?_;omega
 · refine dO ?_;omega
theorem f5u (hA:A.length≤1000000000000) (l:List Int) (hl:l.length≤35184372088832):Df (y2m (T,A,B,l,())) (fun y=>y.1.length=l.length):=by
 unfold y2m v8v;dsimp only;refine dZ (P:=fun y=>y.1=l) ?_ ?_
 · unfold z0p
   dsimp only;with_reducible repeat' (first | apply dP | apply dX<;>intro _)
   · rfl
   · refine dO ?_;omega
 rintro ⟨l',u⟩ hl';dsimp only at hl' ⊢;subst hl';refine dZ (P:=fun y=>y.1.length=l'.length) ?_ (fun _ h=>dP h);refine dL ?I ?m ?h _ ?hv ?hn
 case I=>exact (fun v=>∃(f:Int) (k:Int) (r':List Int),0≤f∧f≤k∧k≤l'.length+1∧r'.length=l'.length∧v=(f,k,T,A,B,r',()))
 case m=>exact (fun v=>(l'.length+1 - v.2.1).toNat)
 case hv=>exact ⟨0,0,l',Int.le_refl _,Int.le_refl _,by omega,rfl,rfl⟩
 case hn=>exact (by first | omega | (dsimp only;omega))
 rintro v ⟨f,k,r',h1,h2,h3,h4,rfl⟩;unfold j6f;dsimp only;rw [qg (n:=k+1) (by omega)];have jv:k≤r'.length→Df ((kb (f,k,T,A,B,r',())).bind fun val=>some (Sum.inl (val.fst,IntKind.i64.wrap (val.snd.fst+1),val.snd.snd.fst,val.snd.snd.snd.fst,val.snd.snd.snd.snd.fst,val.snd.snd.snd.snd.snd.fst,())))
  (Sum.elim (fun v':Int×Int×List R6×List R4×List R3×List Int×Unit=>(∃(f:Int) (k:Int) (r':List Int),0≤f∧f≤k∧k≤l'.length+1∧r'.length=l'.length∧v'=(f,k,T,A,B,r',()))∧(l'.length+1 - v'.2.1).toNat<(l'.length+1 - k).toNat) (fun y:List Int×Unit=>y.1.length=l'.length)):=by
  intro hk;refine dZ (g3m hA f k r' (by omega) hk (by omega)) ?_;rintro y ⟨r2,h5,rfl⟩;dsimp only;rw [qg (n:=k+1) (by omega)];exact dP ⟨⟨_,_,_,by omega,by omega,by omega,h5.trans h4,rfl⟩,by first | omega | (dsimp only;omega)⟩
 with_reducible repeat' (first | apply dP | apply dX<;>intro _)
 · refine dZ (v2b T A B _ hA) ?_
   rintro ⟨c,u⟩ -
   dsimp only;with_reducible repeat' (first | apply dP | apply dX<;>intro _)
   · exact ⟨⟨_,_,_,by omega,by omega,by omega,h4,rfl⟩,by first | omega | (dsimp only;omega)⟩
   · exact jv (by omega)
 · refine dO ?_;omega
 · exact jv (by omega)
 · exact h4
end
section
variable {T:List R6} {A:List R4} {B:List R3}
theorem j9m (f:Int→Option Int) (h:∀x,∃y,f x=some y):∀l:List (Int×Int),∃y,z6v f l=some y
 | []=>⟨0,rfl⟩
 | x::l=>by
  obtain ⟨b,hb⟩:=h x.2;simp only [z6v,hb,Option.bind_some];cases (b != 6) with
  | true=>exact ⟨b,rfl⟩
  | false=>exact j9m f h l
theorem b7r (h:TK T A B) (l:List Int) (hl:l.length≤1000000000000):Df (j4k (T,A,B,l,())) (fun _=>True):=by
 unfold j4k;dsimp only;rw [decide_eq_true hl];obtain ⟨y,hy⟩:=j9m (fun x=>(q6l (T,A,B,x,())).map fun r=>r.1) (fun x=>by
  obtain ⟨y,e,-⟩:=g3g T A B x h.t;exact ⟨y.1,by simp only [e,Option.map_some]⟩) (bk l)
 exact ⟨(y,()),by simp only [cond_true,hy,Option.map_some],trivial⟩
theorem f5k (h:TK T A B) (l:List Int) (hl:l.length≤1000000000000):Df (y2g (T,A,B,l,())) (fun _=>True):=by
 unfold y2g w9v;dsimp only;refine dZ (f5p h l hl) ?_;rintro ⟨z0,z1,z2,z3,z4,z5,z6,z7,u⟩ -
 refine dZ (b7r h l hl) ?_;rintro ⟨e,u⟩ -
 refine dZ (b7s h l) ?_;rintro ⟨s,u⟩ -
 dsimp only;with_reducible repeat' (first | apply dP | apply dX<;>intro _)
 · exact dZ (v1x _ _ _ rfl) fun _ _=>dP trivial
 · exact dZ (v1x _ _ _ rfl) fun _ _=>dP trivial
 · refine dZ (g2x h l hl) ?_
   rintro ⟨b,u⟩ -
   dsimp only;with_reducible repeat' (first | apply dP | apply dX<;>intro _)
   all_goals trivial
 · trivial
theorem b8q (h:TK T A B) (l:List Int) (hl:l.length≤1000000000000):Df (x7t (T,A,B,l,())) (fun y=>y.2=(T,A,B,l,())):=by
 unfold x7t g0c;dsimp only;refine dZ (g2x h l hl) ?_;rintro ⟨b,u⟩ -
 dsimp only;with_reducible repeat' (first | apply dP | apply dX<;>intro _)
 · exact dZ (f5k h l hl) fun _ _=>dP rfl
 · rfl
theorem b7z (h:TK T A B) (s:List UInt8) (a b:Bool) (hs:s.length≤100000000000):Df (y2k (T,A,B,s,a,b,())) (fun y=>y.1.length≤384*s.length):=by
 unfold y2k v8l;dsimp only;refine dZ (d83 s (by omega)) ?_;rintro ⟨l,at_,u⟩ hl;dsimp only at hl ⊢;with_reducible repeat' (first | apply dP | apply dX<;>intro _)
 · exact (by simp:([]:List UInt8).length≤384*s.length)
 · refine dZ (f5v T A B l a (by omega)) ?_
   rintro ⟨l2,u⟩ h2;dsimp only at h2 ⊢;refine dZ (f5u h.a l2 (by omega)) ?_;rintro ⟨l3,u⟩ h3;dsimp only at h3 ⊢;with_reducible repeat' (first | apply dP | apply dX<;>intro _)
   · refine dZ (f5w T A B l3 (by omega) h.a) ?_
     rintro ⟨l4,u⟩ h4;dsimp only at h4 ⊢;refine dZ (x6h l4 (by omega)) ?_;rintro ⟨s5,b5,u⟩ h5;exact dP (by dsimp only at h5 ⊢;omega)
   · refine dZ (x6h l3 (by omega)) ?_
     rintro ⟨s5,b5,u⟩ h5;exact dP (by dsimp only at h5 ⊢;omega)
theorem g3b (h:TK T A B) (s:List UInt8) (hs:s.length≤100000000000):Df (z3l (T,A,B,s,())) (fun y=>y.1.length≤384*s.length):=by
 unfold z3l v8f;dsimp only;refine dZ (b7z h s false true hs) ?_;rintro ⟨x,b,u⟩ hx;exact dP hx
theorem v1w (h:TK T A B) (s:List UInt8) (hs:s.length≤10000000000):Df (j2d (T,A,B,s,())) (fun y=>y.1.length≤1536*s.length):=by
 unfold j2d x9r;dsimp only;refine dZ (d83 s (by omega)) ?_;rintro ⟨l,at_,u⟩ hl;dsimp only at hl ⊢;with_reducible repeat' (first | apply dP | apply dX<;>intro _)
 · exact (by simp:([]:List UInt8).length≤1536*s.length)
 · refine dZ (f5n T A B l (by omega)) ?_
   rintro ⟨l2,u⟩ h2;dsimp only at h2 ⊢;refine dZ (f5m T A B h.b l2 (by omega)) ?_;rintro ⟨l3,u⟩ h3;dsimp only at h3 ⊢;refine dZ (x6h l3 (by omega)) ?_;rintro ⟨s4,b4,u⟩ h4;dsimp only at h4 ⊢;refine dZ (g3b h s4 (by omega)) ?_;rintro ⟨s5,b5,u⟩ h5;exact dP (by dsimp only at h5 ⊢;omega)
theorem g2w (a b:List UInt8):Df (z8a (a,b,())) (fun y=>y.1=true→b.length≤a.length):=by
 unfold z8a v7t;dsimp only;with_reducible repeat' (first | apply dP | apply dX<;>intro _)
 · intro _;dsimp only at *;omega
 · refine dO ?_;omega
 · intro h;cases h
theorem b7o (a b:List UInt8):Df (x2t (a,b,())) (fun y=>y.1.length≤a.length):=by
 unfold x2t v8e;dsimp only;refine dZ (g2w a b) ?_;rintro ⟨x,u⟩ hx;dsimp only at hx ⊢;with_reducible repeat' (first | apply dP | apply dX<;>intro _)
 · exact Nat.le_refl _
 · exact (by simp:(List.drop _ a).length≤a.length)
 · rename_i h1 h2
   have:=hx h1;refine dO ?_;omega
theorem f5j (a b:List UInt8):Df (y2f (a,b,())) (fun y=>y.1.length≤a.length):=by
 unfold y2f v7u;dsimp only;refine dZ (b7o a b) ?_;rintro ⟨x,b,u⟩ hx;exact dP hx
theorem d96 (a b:List UInt8):Df (C96 (a,b,())) (fun _=>True):=by
 unfold C96 F96;dsimp only;exact dZ (g2w a b) fun _ _=>dP trivial
theorem b9p (a b:List UInt8) (ha:a.length≤1000000000000000) (hb:b.length≤1000000000000000):Df (x8d (a,b,())) (fun _=>True):=by
 unfold x8d g0j;dsimp only;rw [qg (n:=(a.length:Int) - (b.length:Int)) (by omega)];with_reducible repeat' (first | apply dP | apply dX<;>intro _)
 · trivial
 · refine dO ?_;omega
 · trivial
theorem b9g (a b:List UInt8) (ha:a.length≤1000000000000000) (hb:b.length≤1000000000000000):Df (x7z (a,b,())) (fun _=>True):=by
 unfold x7z g0h;dsimp only;exact dZ (b9p a b ha hb) fun _ _=>dP trivial
theorem f6a (a:List UInt8) (ha:a.length≤1000000000000000):Df (y2o (a,())) (fun _=>True):=by
 unfold y2o g0b;dsimp only;refine dZ (d96 _ _) ?_;rintro ⟨x,u⟩ -
 dsimp only;with_reducible repeat' (first | apply dP | apply dX<;>intro _)
 · trivial
 · refine dZ (b9g _ _ ha (by simp)) ?_
   rintro ⟨x,u⟩ -
   dsimp only;with_reducible repeat' (first | apply dP | apply dX<;>intro _)
   · trivial
   · trivial
   · refine dO ?_;omega
   · trivial
theorem b8m (a:List UInt8) (ha:a.length≤1000000000000000):Df (y2n (a,())) (fun y=>y.2.1=a):=by
 unfold y2n v9f;dsimp only;exact dZ (f6a a ha) fun _ _=>dP rfl
theorem b8l (h:TK T A B) (s:List UInt8) (hs:s.length≤100000000000):Df (x7s (T,A,B,s,())) (fun _=>True):=by
 unfold x7s g0a;dsimp only;refine dZ (g3b h s hs) ?_;rintro ⟨x,b,u⟩ -
 dsimp only;with_reducible repeat' (first | apply dP | apply dX<;>intro _)
 all_goals trivial
theorem b8k (h:TK T A B) (s:List UInt8) (hs:s.length≤100000000000):Df (z8m (s,T,A,B,())) (fun y=>y.2=(s,T,A,B,())∧(y.1=false→0<s.length)):=by
 unfold z8m x9y;dsimp only;refine dZ (d21 s (by omega)) ?_;rintro ⟨x,u⟩ hx;dsimp only at hx ⊢;with_reducible repeat' (first | apply dP | apply dX<;>intro _)
 · exact ⟨rfl,fun h=>by cases h⟩
 · refine dZ (b8l h s hs) ?_
   rintro ⟨x,u⟩ -
   exact dP ⟨rfl,fun _=>by omega⟩
theorem b8n (h:TK T A B) (l:List Int) (hl:0<l.length):Df (y2p (T,A,B,l,())) (fun y=>y.2=(T,A,B,l,())):=by
 unfold y2p v9g;dsimp only;with_reducible repeat' (first | apply dP | apply dX<;>intro _)
 · exact dZ (g3e T A B _ h.t) fun _ _=>dP rfl
 · refine dO ?_;omega
theorem b8j (a:Int):Df (x7r (a,())) (fun y=>y.2.1=a∧(y.1=false→a<0)):=by
 unfold x7r w9z;dsimp only;refine dP ⟨rfl,fun h => ?_⟩;dsimp only at h;simp only [decide_eq_false_iff_not] at h;omega
theorem b8r (l:List Int) (a:List UInt8) (b:Bool) (hl:l.length≤1000000000000):Df (x7u (l,a,b,())) (fun y=>y.2.1=l):=by
 unfold x7u g0d;dsimp only;exact dZ (g3h l hl) fun _ _=>dP rfl
theorem b8s (a:List UInt8):Df (x7v (a,())) (fun _=>True):=by
 unfold x7v g0e;dsimp only;exact dP trivial
theorem b8i (h:TK T A B) (a0 a1 a2 a3 a4 a5 a6 a7:Int) (at_:Int) (s:List UInt8) (l:List Int) (c:List UInt8) (d:Bool) (hs:s.length≤100000000000) (hl:l.length≤100000000000) (h0:at_<0→0<s.length→0<l.length) :
 Df (z8l (a0,a1,a2,a3,a4,a5,a6,a7,at_,s,T,A,B,l,c,d,())) (fun _=>True):=by
 unfold z8l x9x;dsimp only;refine dZ (b8j at_) ?_;rintro ⟨b,at',u⟩ hb;dsimp only at hb ⊢;obtain ⟨rfl,hb⟩:=hb;with_reducible repeat' (first | apply dP | apply dX<;>intro _)
 · trivial
 · rename_i h1
   refine dZ (b8k h s hs) ?_;rintro ⟨b2,y⟩ ⟨hy,h2⟩;dsimp only at hy h2;subst hy;dsimp only;with_reducible repeat' (first | apply dP | apply dX<;>intro _)
   · trivial
   · rename_i h3
     refine dZ (b8m s (by omega)) ?_;rintro ⟨b3,s',u⟩ hs';dsimp only at hs' ⊢;with_reducible repeat' (first | apply dP | apply dX<;>intro _)
     · trivial
     · refine dZ (b8n h l (h0 (hb h1) (h2 h3))) ?_
       rintro ⟨b4,y⟩ hy;dsimp only at hy;subst hy;dsimp only;with_reducible repeat' (first | apply dP | apply dX<;>intro _)
       · trivial
       · refine dZ (b8o h l (by omega)) ?_
         rintro ⟨b5,y⟩ hy;dsimp only at hy;subst hy;dsimp only;with_reducible repeat' (first | apply dP | apply dX<;>intro _)
         · trivial
         · refine dZ (b8q h l (by omega)) ?_
           rintro ⟨b6,y⟩ hy;dsimp only at hy;subst hy;dsimp only;with_reducible repeat' (first | apply dP | apply dX<;>intro _)
           · trivial
           · refine dZ (b8r l c d (by omega)) ?_
             rintro ⟨b7,l',c',d',u⟩ -
             dsimp only;with_reducible repeat' (first | apply dP | apply dX<;>intro _)
             · trivial
             · refine dZ (b8s _) ?_
               rintro ⟨b8,c8,u⟩ -
               dsimp only;with_reducible repeat' (first | apply dP | apply dX<;>intro _)
               all_goals trivial
theorem f5s (h:TK T A B) (s:List UInt8) (hs:s.length≤100000000000):Df (z3u (T,A,B,s,())) (fun _=>True):=by
 unfold z3u x9w;dsimp only;refine dZ (d83 s (by omega)) ?_;rintro ⟨l,at_,u⟩ hl;dsimp only at hl ⊢;refine dZ (b8i h _ _ _ _ _ _ _ _ at_ s l _ _ hs (by omega) hl.2.2) ?_;rintro ⟨e,y⟩ -
 exact dP trivial
theorem g3q (a:Int) (b:Bool):Df (q8h (a,b,())) (fun _=>True):=by
 unfold q8h z5g;dsimp only;with_reducible repeat' (first | apply dP | apply dX<;>intro _)
 all_goals trivial
theorem g3r (a:Int) (b:Bool):Df (q8i (a,b,())) (fun _=>True):=by
 unfold q8i z5h;dsimp only;with_reducible repeat' (first | apply dP | apply dX<;>intro _)
 all_goals first | trivial | exact dZ (g3q _ _) fun _ _=>dP trivial
theorem b8t (a:Int):Df (j8a (a,())) (fun _=>True):=by
 unfold j8a g0f;dsimp only;with_reducible repeat' (first | apply dP | apply dX<;>intro _)
 all_goals (refine dZ (g3r _ _) ?_;rintro ⟨x,u⟩ -;dsimp only;(repeat' (first | with_reducible apply dP | (with_reducible apply dB<;>intro _)));all_goals trivial)
theorem b7k (s:List UInt8) (b:Bool) (hs:s.length≤1000000000000000):Df (y2h (s,b,())) (fun _=>True):=by
 unfold y2h v7z;dsimp only;refine dZ (P:=fun _=>True) ?_ (fun z _=>by cases z<;>exact dP trivial);refine dL ?I ?m ?h _ ?hv ?hn
 case I=>exact (fun v=>v.2.1.1=s∧0≤v.2.1.2)
 case m=>exact (fun v=>s.length - v.2.1.2.toNat)
 case hv=>exact ⟨rfl,Int.le_refl _⟩
 case hn=>exact (by first | omega | (dsimp only;omega))
 · rintro ⟨x0,⟨x1,p⟩,u⟩ hI
   dsimp only at hI;obtain ⟨rfl,h0⟩:=hI;unfold j5v;dsimp only;with_reducible repeat' (first | apply dP | apply dX<;>intro _)
   · refine dZ (b8t _) ?_
     rintro ⟨x,u⟩ -
     dsimp only;have:=y0b x1 p.toNat
     with_reducible repeat' (first | apply dP | apply dX<;>intro _)
     · trivial
     · exact ⟨⟨rfl,by first | omega | (dsimp only;omega)⟩,by first | omega | (dsimp only;omega)⟩
   · trivial
end
section
variable {T:List R6} {A:List R4} {B:List R3}
theorem d84 (s:List UInt8) (hs:s.length≤1000000000000000):Df (C84 (s,())) (fun _=>True):=by
 unfold C84 F84;dsimp only;refine dZ (P:=fun _=>True) ?_ (fun _ _=>dP trivial);unfold x7j v7p;dsimp only;exact dZ (b7k s true hs) fun _ _=>dP trivial
theorem b8b (s:List UInt8) (hs:s.length≤1000000000000000):Df (z8i (s,())) (fun _=>True):=by
 unfold z8i v8r;dsimp only;refine dZ (P:=fun _=>True) ?_ (fun _ _=>dP trivial);unfold j7z z5f;dsimp only;refine dZ (P:=fun y=>y.2.1=s) (dP rfl) ?_;rintro ⟨b,s1,u⟩ h1;dsimp only at h1 ⊢;subst h1;with_reducible repeat' (first | apply dP | apply dX<;>intro _)
 · trivial
 · refine dZ (P:=fun y=>y.2.1=s1) (dP rfl) ?_
   rintro ⟨b,s2,u⟩ h2;dsimp only at h2 ⊢;subst h2;with_reducible repeat' (first | apply dP | apply dX<;>intro _)
   · trivial
   · refine dZ (P:=fun y=>y.2.1=s2) ?_ ?_
     · unfold x7w v9h
       dsimp only;exact dZ (d84 s2 hs) fun _ _=>dP rfl
     rintro ⟨b,s3,u⟩ h3;dsimp only at h3 ⊢;subst h3;with_reducible repeat' (first | apply dP | apply dX<;>intro _)
     · trivial
     · refine dZ (P:=fun _=>True) ?_ ?_
       · unfold v7d g0g
         dsimp only;exact dZ (f6a s3 hs) fun _ _=>dP trivial
       rintro ⟨b,s4,u⟩ -
       dsimp only;with_reducible repeat' (first | apply dP | apply dX<;>intro _)
       all_goals trivial
theorem w0i (n:Int):IntKind.u8.wrap n=n%256:=by simp [IntKind.wrap,IntKind.bits,IntKind.signed]
theorem v2d (x:Int) (b:Bool) (hb:b=true→65≤x∧x≤90):Df (q8m (x,b,())) (Sum.elim (fun y=>0≤y.1∧y.1≤35) (fun _=>True)):=by
 unfold q8m z5m;dsimp only;with_reducible repeat' (first | apply dP | apply dX<;>intro _)
 · rename_i h1
   have:=hb h1;rw [w0i,v6y];exact ⟨by first | omega | (dsimp only;omega),by first | omega | (dsimp only;omega)⟩
 · rw [w0i,v6y]
   exact ⟨by first | omega | (dsimp only;omega),by first | omega | (dsimp only;omega)⟩
 all_goals trivial
theorem v2e (x:Int) (b:Bool) (hb:b=true→48≤x∧x≤57):Df (q8n (x,b,())) (Sum.elim (fun y=>0≤y.1∧y.1≤35) (fun _=>True)):=by
 unfold q8n z5n;dsimp only;with_reducible repeat' (first | apply dP | apply dX<;>intro _)
 · rename_i h1
   have:=hb h1;rw [w0i,v6y,v6y];exact ⟨by first | omega | (dsimp only;omega),by first | omega | (dsimp only;omega)⟩
 · refine dZ (v2d x _ (fun h=>by simp only [decide_eq_true_eq] at h;omega)) ?_
   intro z hz;exact dS hz (fun a ha=>dP ha) (fun _ _=>dP trivial)
 · refine dZ (v2d x _ (fun h=>by cases h)) ?_
   intro z hz;exact dS hz (fun a ha=>dP ha) (fun _ _=>dP trivial)
theorem b9h (x:Int):Df (j2j (x,())) (fun y=>y.2.1=true→0≤y.1∧y.1≤35):=by
 unfold j2j g0i;dsimp only;with_reducible repeat' (first | apply dP | apply dX<;>intro _)
 · refine dZ (v2e x _ (fun h=>by simp only [decide_eq_true_eq] at h;omega)) ?_
   intro z hz;exact dS hz (fun a ha=>dP fun _=>ha) (fun _ _=>dP fun h=>by cases h)
 · refine dZ (v2e x _ (fun h=>by cases h)) ?_
   intro z hz;exact dS hz (fun a ha=>dP fun _=>ha) (fun _ _=>dP fun h=>by cases h)
theorem g3s (s:List UInt8) (b:Int) (hs:s.length≤1000000000000):Df (j5k (s,b,0,1,(s.length:Int),0,())) (Sum.elim (fun _=>True) (Sum.elim (fun _=>True) (fun y=>0≤y.1∧y.1≤2147483647∧y.2.1.length<s.length))):=by
 refine dL ?I ?m ?h _ ?hv ?hn
 case I=>exact (fun v=>v.1=s∧0≤v.2.2.1∧v.2.2.1≤2147483647∧0≤v.2.2.2.1∧v.2.2.2.1≤75161927645∧v.2.2.2.2.1=s.length∧0≤v.2.2.2.2.2.1∧v.2.2.2.2.2.1≤s.length)
 case m=>exact (fun v=>(s.length - v.2.2.2.2.2.1).toNat)
 case hv=>exact ⟨rfl,by first | omega | (dsimp only;omega),by first | omega | (dsimp only;omega),by first | omega | (dsimp only;omega),by first | omega | (dsimp only;omega),rfl,by first | omega | (dsimp only;omega),by first | omega | (dsimp only;omega)⟩
 case hn=>exact (by first | omega | (dsimp only;omega))
 rintro ⟨x0,x1,x2,x3,x4,x5,u⟩ hI;dsimp only at hI;obtain ⟨rfl,h0,h1,h2,h3,rfl,h4,h5⟩:=hI;unfold j6l;dsimp only;with_reducible repeat' (first | apply dP | apply dX<;>intro _)
 · refine dZ (b9h _) ?_
   rintro ⟨d,ok,u⟩ hd;dsimp only at hd ⊢;refine dH (fun _=>dP trivial) (fun hok => ?_);refine dD (fun _=>dP trivial) (fun hw => ?_)
   · have hd':=hd hok
     have p0:0≤d*x3:=Int.mul_nonneg hd'.1 h2;have p1:d*x3≤35*x3:=Int.mul_le_mul_of_nonneg_right hd'.2 h2;generalize d*x3=P at p0 p1 ⊢;rw [qg (n:=P) (by omega),qg (n:=x2+P) (by omega),qg (n:=x5+1) (by omega)];with_reducible repeat' (first | apply dP | apply dX<;>intro _)
     · trivial
     · refine dZ (g3w _ _) ?_
       rintro ⟨t,u⟩ ht;dsimp only at ht ⊢;have q0:0≤x3*(36 - t):=Int.mul_nonneg h2 (by omega);have q1:x3*(36 - t)≤x3*35:=Int.mul_le_mul_of_nonneg_left (by omega) h2;rw [qg (n:=36 - t) (by omega)];generalize x3*(36 - t)=R at q0 q1 ⊢;rw [qg (n:=R) (by omega)];with_reducible repeat' (first | apply dP | apply dX<;>intro _)
       · refine ⟨by first | omega | (dsimp only;omega),by first | omega | (dsimp only;omega),?_⟩
         simp only [List.length_drop];omega
       · refine dO ?_;omega
       · exact ⟨⟨rfl,by first | omega | (dsimp only;omega),by first | omega | (dsimp only;omega),by first | omega | (dsimp only;omega),by first | omega | (dsimp only;omega),rfl,by first | omega | (dsimp only;omega),by first | omega | (dsimp only;omega)⟩,by first | omega | (dsimp only;omega)⟩
 · refine dO ?_;omega
 · trivial
theorem f6b (s:List UInt8) (b:Int) (hs:s.length≤1000000000000):Df (j4n (s,b,())) (fun y=>y.1<0∨(0≤y.1∧y.1≤2147483647∧y.2.1.length<s.length)):=by
 unfold j4n v9j;dsimp only;refine dZ (g3s s b hs) ?_;intro z hz;refine dS hz ?_ ?_
 · intro u _
   exact dP (.inl (by first | omega | (dsimp only;omega)))
 · intro z2 hz2
   refine dS hz2 ?_ ?_
   · intro u _
     refine dZ (P:=fun y=>y.1<0) ?_ ?_
     · refine dL ?I ?m ?h _ ?hv ?hn
       case I=>exact (fun _=>True)
       case m=>exact (fun _=>0)
       case hv=>exact trivial
       case hn=>exact (by first | omega | (dsimp only;omega))
       intro v _;unfold q8t;exact dP (by decide:(-1:Int)<0)
     · rintro ⟨a,b,u⟩ h
       exact dP (.inl h)
   · rintro ⟨a,b,u⟩ h
     exact dP (.inr h)
theorem b8v (i:Int) (l:List Int) (x:Int) (hi:0≤i∧i≤l.length) (hl:l.length≤1000000000000):Df (j2i (i,l,[x],())) (fun y=>y.1.length=l.length+1):=by
 unfold j2i;dsimp only;rw [decide_eq_true hi.1,decide_eq_true hi.2,decide_eq_true hl];refine dP ?_;simp only [List.length_append,List.length_take,List.length_drop,List.length_cons,List.length_nil];omega
theorem g3l (L:Nat) (hL:L≤1000000000000) (s:List UInt8) (out:List Int) (h:s.length+out.length≤L):Df (j5g (s,128,0,72,true,out,())) (Sum.elim (fun y=>y.1.length≤L) (fun _=>True)):=by
 refine dL ?I ?m ?h _ ?hv ?hn
 case I=>exact (fun v=>v.1.length+v.2.2.2.2.2.1.length≤L∧128≤v.2.1∧v.2.1≤1114111∧0≤v.2.2.1∧v.2.2.1≤v.2.2.2.2.2.1.length)
 case m=>exact (fun v=>v.1.length)
 case hv=>exact ⟨h,by first | omega | (dsimp only;omega),by first | omega | (dsimp only;omega),by first | omega | (dsimp only;omega),by first | omega | (dsimp only;omega)⟩
 case hn=>exact (by first | omega | (dsimp only;omega))
 rintro ⟨x0,x1,x2,x3,x4,x5,u⟩ hI;dsimp only at hI;obtain ⟨h0,h1,h2,h3,h4⟩:=hI;unfold j6d;dsimp only;rw [qg (n:=(x5.length:Int)+1) (by omega)];with_reducible repeat' (first | apply dP | apply dX<;>intro _)
 · refine dZ (f6b x0 x3 (by omega)) ?_
   rintro ⟨d,rest,u⟩ hd;dsimp only at hd ⊢;refine dD (fun _=>dP trivial) (fun hneg => ?_)
   · have hd':=hd.resolve_left hneg
     rw [qg (n:=x2+d) (by omega)];with_reducible repeat' (first | apply dP | apply dX<;>intro _)
     · trivial
     · refine dZ (f5z _ _ _ hd'.1 (by omega)) ?_
       rintro ⟨b,u⟩ -
       dsimp only;have q0:0≤(x2+d)/((x5.length:Int)+1):=Int.ediv_nonneg (by omega) (by omega);have q1:(x2+d)/((x5.length:Int)+1)≤x2+d:=Int.ediv_le_self _ (by omega);have r0:0≤(x2+d)%((x5.length:Int)+1):=Int.emod_nonneg _ (by omega);have r1:(x2+d)%((x5.length:Int)+1)<(x5.length:Int)+1:=Int.emod_lt_of_pos _ (by omega);rw [Int.tdiv_eq_ediv_of_nonneg (by omega),Int.tmod_eq_emod_of_nonneg (by omega)];generalize (x2+d)/((x5.length:Int)+1)=q at q0 q1 ⊢;generalize (x2+d)%((x5.length:Int)+1)=r at r0 r1 ⊢;rw [qg (n:=q) (by omega),qg (n:=x1+q) (by omega)];with_reducible repeat' (first | apply dP | apply dX<;>intro _)
       · trivial
       · refine dZ (k3e _) ?_
         rintro ⟨ok,u⟩ -
         dsimp only;with_reducible repeat' (first | apply dP | apply dX<;>intro _)
         · trivial
         · refine dZ (b8v r x5 _ (by omega) (by omega)) ?_
           rintro ⟨out',u⟩ ho;dsimp only at ho ⊢;rw [qg (n:=r+1) (by omega)];exact dP ⟨⟨by first | omega | (dsimp only;omega),by first | omega | (dsimp only;omega),by first | omega | (dsimp only;omega),by first | omega | (dsimp only;omega),by first | omega | (dsimp only;omega)⟩,by first | omega | (dsimp only;omega)⟩
         · refine dO ?_;omega
       · refine dO ?_;omega
 · exact (by first | omega | (dsimp only;omega):x5.length≤L)
theorem v1z (L:Nat) (hL:L≤1000000000000) (s:List UInt8) (out:List Int) (h:s.length+out.length≤L):Df (q1j (s,out,())) (fun y=>y.2.1.length≤L):=by
 unfold q1j j6c;dsimp only;refine dZ (g3l L hL s out h) ?_;intro z hz;refine dS hz ?_ ?_
 · rintro ⟨a,u⟩ ha
   exact dP ha
 · rintro ⟨a,u⟩ -
   exact dP (by simp)
theorem b8u (s:List UInt8) (c:Int) (hs:s.length≤1000000000000):Df (j4m (s,c,())) (fun y => -1≤y.1∧y.1<s.length):=by
 unfold j4m v9i;dsimp only;refine dZ (P:=fun y => -1≤y.1∧y.1<s.length) ?_ (fun _ h=>dP h);unfold x8a v9y;dsimp only;rw [qg (n:=(s.length:Int) - 1) (by omega)];refine dZ (P:=Sum.elim (fun _=>True) (fun y => -1≤y.1∧y.1<s.length)) ?_ ?_
 · refine dL ?I ?m ?h _ ?hv ?hn
   case I=>exact (fun v=>v.1=s ∧ -1≤v.2.2.1∧v.2.2.1<s.length)
   case m=>exact (fun v=>(v.2.2.1+1).toNat)
   case hv=>exact ⟨rfl,by first | omega | (dsimp only;omega),by first | omega | (dsimp only;omega)⟩
   case hn=>exact (by first | omega | (dsimp only;omega))
   rintro ⟨x0,x1,x2,u⟩ hI;dsimp only at hI;obtain ⟨rfl,h0,h1⟩:=hI;unfold j6n;dsimp only;with_reducible repeat' (first | apply dP | apply dX<;>intro _)
   · exact ⟨by first | omega | (dsimp only;omega),by first | omega | (dsimp only;omega)⟩
   · rw [qg (n:=x2 - 1) (by omega)]
     exact ⟨⟨rfl,by first | omega | (dsimp only;omega),by first | omega | (dsimp only;omega)⟩,by first | omega | (dsimp only;omega)⟩
   · refine dO ?_;omega
   · trivial
 · intro z hz
   refine dS hz ?_ ?_
   · intro u _
     exact dP ⟨by first | omega | (dsimp only;omega),by first | omega | (dsimp only;omega)⟩
   · rintro ⟨a,u⟩ h
     exact dP h
theorem f5t (s:List UInt8) (hs:s.length≤1000000000000):Df (y2l (s,())) (fun y=>y.1.length≤s.length):=by
 unfold y2l v8s;dsimp only;refine dZ (d21 s (by omega)) ?_;rintro ⟨e,u⟩ he;dsimp only at he ⊢;with_reducible repeat' (first | apply dP | apply dX<;>intro _)
 · exact (by simp:([]:List Int).length≤s.length)
 · rename_i hneg
   have hall:=he.2 (by omega);refine dZ (b8u s 45 hs) ?_;rintro ⟨k,u⟩ hk;dsimp only at hk ⊢;rw [qg (n:=k+1) (by omega)];have hb:(decide ((List.take k.toNat s).length≤70368744177664)&&(List.take k.toNat s).all fun b=>decide (b.toNat<128))=true:=by
    rw [decide_eq_true (by rw [List.length_take];omega),Bool.true_and,List.all_eq_true];intro c hc;exact decide_eq_true (hall c (List.mem_of_mem_take hc))
   rw [hb];simp only [cond_true];with_reducible repeat' (first | apply dP | apply dX<;>intro _)
   · refine dZ (v1z s.length hs _ _ (by simp only [List.length_drop,List.length_map,List.length_take];omega)) ?_
     rintro ⟨a,b,u⟩ h;exact dP h
   · refine dO ?_;omega
   · refine dO ?_;omega
   · refine dZ (v1z s.length hs _ _ (by simp)) ?_
     rintro ⟨a,b,u⟩ h;exact dP h
theorem f5q (h:TK T A B) (s:List UInt8) (hs:s.length≤6000000):Df (z3m (T,A,B,s,())) (fun y=>y.1.length≤200000000000∧y.2.1.length≤200000000000):=by
 unfold z3m v8i;dsimp only;refine dZ (v1w h s (by omega)) ?_;rintro ⟨f,ok,u⟩ hf;dsimp only at hf ⊢;refine dZ (f5j f _) ?_;rintro ⟨rest,is,u⟩ hr;dsimp only at hr ⊢;with_reducible repeat' (first | apply dP | apply dX<;>intro _)
 · exact ⟨by simp,by simp⟩
 · refine dZ (d21 f (by omega)) ?_
   rintro ⟨e,u⟩ -
   dsimp only;with_reducible repeat' (first | apply dP | apply dX<;>intro _)
   · refine dZ (d83 f (by omega)) ?_
     rintro ⟨l,at_,u⟩ hl;dsimp only at hl ⊢;refine dZ (g3h l (by omega)) ?_;rintro ⟨code,b,u⟩ hc;dsimp only at hc ⊢;with_reducible repeat' (first | apply dP | apply dX<;>intro _)
     · refine dZ (f5s h f (by omega)) ?_
       rintro ⟨w,u⟩ -
       exact dP ⟨by simp only [List.length_append,List.length_cons,List.length_nil];omega,by first | omega | (dsimp only;omega)⟩
     · refine dO ?_;simp only [List.length_cons,List.length_nil] at *;omega
   · refine dZ (b8b f (by omega)) ?_
     rintro ⟨w,u⟩ -
     exact dP ⟨by first | omega | (dsimp only;omega),by first | omega | (dsimp only;omega)⟩
   · refine dZ (f5t rest (by omega)) ?_
     rintro ⟨l,ok2,u⟩ hl;dsimp only at hl ⊢;with_reducible repeat' (first | apply dP | apply dX<;>intro _)
     · exact ⟨by simp,by simp⟩
     · exact ⟨by simp,by simp⟩
     · refine dZ (x6h l (by omega)) ?_
       rintro ⟨us,b,u⟩ hu;dsimp only at hu ⊢;refine dZ (f5s h us (by omega)) ?_;rintro ⟨w,u⟩ -
       dsimp only;with_reducible repeat' (first | apply dP | apply dX<;>intro _)
       · exact ⟨by simp,by simp⟩
       · refine dZ (g3h l (by omega)) ?_
         rintro ⟨code,b,u⟩ -
         dsimp only;with_reducible repeat' (first | apply dP | apply dX<;>intro _)
         · exact ⟨by simp,by simp⟩
         · exact ⟨by first | omega | (dsimp only;omega),by first | omega | (dsimp only;omega)⟩
theorem b7l (h:TK T A B) (s:List UInt8) (hs:s.length≤6000000):Df (z3j (T,A,B,s,())) (fun y=>y.1.length≤200000000000):=by
 unfold z3j v8a;dsimp only;refine dZ (f5q h s hs) ?_;rintro ⟨a,b,e,u⟩ ha;dsimp only at ha ⊢;with_reducible repeat' (first | apply dP | apply dX<;>intro _)
 · exact (by simp:([]:List UInt8).length≤200000000000)
 · exact ha.1
theorem b7m (h:TK T A B) (s:List UInt8) (hs:s.length≤6000000):Df (y2i (T,A,B,s,())) (fun y=>y.1.length≤200000000000):=by
 unfold y2i w9w;dsimp only;refine dZ (f5q h s hs) ?_;rintro ⟨a,b,e,u⟩ ha;dsimp only at ha ⊢;with_reducible repeat' (first | apply dP | apply dX<;>intro _)
 · exact (by simp:([]:List UInt8).length≤200000000000)
 · exact ha.2
theorem j1i (c:UInt8):∀l:List UInt8,Lib.indexByte l c<l.length
 | []=>by simp [Lib.indexByte]
 | b::l=>by
  have:=j1i c l;simp only [Lib.indexByte,List.length_cons];split
  · omega
  · split<;>omega
theorem b7n (s:List UInt8) (c:Int):Df (j4i (s,c,())) (fun y => -1≤y.1∧y.1<s.length):=by
 unfold j4i v8c;dsimp only;exact dZ (P:=fun y => -1≤y.1∧y.1<s.length) (dP ⟨Lib.indexByte_ge s _,j1i _ s⟩) fun _ h=>dP h
theorem v1y (s:List UInt8) (b:Bool) (hb:b=true→0<s.length):Df (q3u (s,[46],1,b,())) (fun y => -1≤y.1∧y.1<s.length):=by
 unfold q3u j5z;dsimp only;with_reducible repeat' (first | apply dP | apply dX<;>intro _)
 · rename_i h1
   have:=hb h1;exact ⟨by first | omega | (dsimp only;omega),by first | omega | (dsimp only;omega)⟩
 · exact dZ (b7n s _) fun _ h=>dP h
 · rename_i h1 h2 h3
   exact absurd (by decide:(0:Int)<(([46]:List UInt8).length:Int)) h3
 all_goals (exfalso;omega)
theorem b7i (s:List UInt8) (hs:s.length≤1000000000000):Df (z7z (s,[46],())) (fun y=>y.1.length≤s.length∧y.2.1.length≤s.length∧(y.2.2.1=true→y.2.1.length<s.length)):=by
 unfold z7z v7s;dsimp only;refine dZ (P:=fun y=>y.1.length≤s.length∧y.2.1.length≤s.length∧(y.2.2.1=true→y.2.1.length<s.length)) ?_ (fun _ h=>dP h);unfold x7m v8d;dsimp only;refine dZ (P:=fun y => -1≤y.1∧y.1<s.length) ?_ ?_
 · unfold z3r x9v
   dsimp only;have e0:((([46]:List UInt8).length:Int)==0)=false:=rfl;rw [e0];simp only [cond_false];refine dZ (v1y s _ fun h => ?_) fun _ h=>dP h;have:=eq_of_beq h;rw [←this];decide
 rintro ⟨k,u⟩ hk;dsimp only at hk ⊢;rw [show (([46]:List UInt8).length:Int)=1 from rfl,qg (n:=k+1) (by omega)];with_reducible repeat' (first | apply dP | apply dX<;>intro _)
 · refine ⟨?_,?_,fun _ => ?_⟩
   · simp only [List.length_take];omega
   · simp only [List.length_drop];omega
   · simp only [List.length_drop];omega
 · refine dO ?_;omega
 · refine dO ?_;omega
 · exact ⟨Nat.le_refl _,by simp,fun h=>by cases h⟩
theorem j4d:∀(n:Nat) (s:List UInt8),s.length<n→s.length≤1000000000000→∃ps,vt n s=some ps∧ps.length≤n∧∀p∈ps,p.length≤s.length
 | n+1,s,hn,hs=>by
  obtain ⟨⟨a,b,ok,u⟩,e,h1,h2,h3⟩:=b7i s hs;dsimp only at h1 h2 h3;cases ok with
  | true =>
   have h4:=h3 rfl;obtain ⟨ps,e2,h5,h6⟩:=j4d n b (by omega) (by omega);refine ⟨a::ps,by simp only [vt,e,Option.bind_some,cond_true,e2,Option.map_some],by simp only [List.length_cons];omega,?_⟩;intro p hp;rcases List.mem_cons.1 hp with rfl | hp
   · exact h1
   · have:=h6 p hp;omega
  | false =>
   refine ⟨[a],by simp only [vt,e,Option.bind_some,cond_false],by simp only [List.length_cons,List.length_nil];omega,?_⟩;intro p hp;rw [List.mem_singleton] at hp;subst hp;exact h1
end
section
variable {T:List R6} {A:List R4} {B:List R3}
theorem z2f {s old:List UInt8} {i:Nat} (h:Lib.index s old=i):i+old.length≤s.length:=by
 have:=Lib.index_room s old (by omega);omega
theorem j4g (old new:List UInt8) (hl:new.length≤old.length):∀(k:Nat) (s:List UInt8),(Lib.replaceK old new k s).length≤s.length
 | 0,s=>Nat.le_refl _
 | k+1,s=>by
  by_cases h:Lib.index s old = -1
  · rw [Lib.replaceK,if_pos (by rw [h];rfl)];exact Nat.le_refl _
  · obtain ⟨i,hi⟩:∃i:Nat,Lib.index s old=i:=⟨(Lib.index s old).toNat,by have:=Lib.index_ge s old;omega⟩
    rw [Lib.replaceK_hit old new k s i hi];have h1:=j4g old new hl k (s.drop (i+old.length));have h2:=z2f hi;simp only [List.length_append,List.length_take,List.length_drop] at h1 ⊢;omega
theorem q6e (s old new:List UInt8) (hl:new.length≤old.length):(Lib.replaceAll s old new).length≤s.length:=by
 unfold Lib.replaceAll Lib.replace;split
 · exact Nat.le_refl _
 · exact j4g old new hl _ s
theorem j1k (f:List UInt8) (ok:Bool) (hf:f.length≤5000000):∃ls c,q0j f ok=some (ls,c)∧ls.length≤32∧∀p∈ls,p.length≤5000000:=by
 unfold q0j;cases ok with
 | false=>exact ⟨[],7,rfl,by simp,fun p hp=>by cases hp⟩
 | true =>
  cases hfe:f.isEmpty with
  | true=>exact ⟨[],13,rfl,by simp,fun p hp=>by cases hp⟩
  | false =>
   simp only [Bool.not_true,cond_false];rw [decide_eq_true (by omega)];simp only [cond_true];have hr:=q6e f [227,128,130] [46] (by decide);obtain ⟨ps,e,h1,h2⟩:=j4d (f.length+2) (Lib.replaceAll f [227,128,130] [46]) (by omega) (by omega);simp only [e,Option.bind_some];rw [decide_eq_true (by omega)];simp only [cond_true];by_cases h3:32<ps.length
   · rw [decide_eq_true h3]
     exact ⟨[],2,rfl,by simp,fun p hp=>by cases hp⟩
   · rw [decide_eq_false h3]
     exact ⟨ps,0,rfl,by omega,fun p hp=>by have:=h2 p hp;omega⟩
theorem z2j (l:List (List UInt8)) (x:List UInt8):Lib.lens (l++[x])=Lib.lens l+x.length:=by simp [Lib.lens]
theorem j9h (f g:List UInt8→Option (List UInt8×Int)) (hf:∀x:List UInt8,x.length≤5000000→∃y,f x=some y∧y.1.length≤200000000000) (hg:∀x:List UInt8,x.length≤5000000→∃y,g x=some y∧y.1.length≤200000000000) :
 ∀(ls ps qs:List (List UInt8)) (n:Nat),(∀p∈ls,p.length≤5000000)→ps.length+ls.length≤32→qs.length+ls.length≤32→Lib.lens ps≤200000000000*n→Lib.lens qs≤200000000000*n→n+ls.length≤32 →
  ∃r,q2f f g ls ps qs=some r∧r.2.1.length≤32∧r.2.2.length≤32∧Lib.lens r.2.1≤6400000000000∧Lib.lens r.2.2≤6400000000000
 | [],ps,qs,n,h,h1,h2,h3,h4,h5=>⟨(0,ps,qs),rfl,by simpa using h1,by simpa using h2,by simp only [List.length_nil] at h5;dsimp only;omega,by simp only [List.length_nil] at h5;dsimp only;omega⟩
 | x::ls,ps,qs,n,h,h1,h2,h3,h4,h5=>by
  obtain ⟨a,ea,ha⟩:=hf x (h x List.mem_cons_self);obtain ⟨b,eb,hb⟩:=hg x (h x List.mem_cons_self);simp only [q2f,ea,Option.bind_some];simp only [List.length_cons] at h1 h2 h5;cases hz:(a.2 != 0) with
  | true=>exact ⟨(a.2,[],[]),rfl,by simp,by simp,by simp [Lib.lens],by simp [Lib.lens]⟩
  | false =>
   simp only [cond_false,eb,Option.bind_some];exact j9h f g hf hg ls (ps++[a.1]) (qs++[b.1]) (n+1) (fun p hp=>h p (List.mem_cons_of_mem _ hp)) (by simp only [List.length_append,List.length_cons,List.length_nil];omega) (by simp only [List.length_append,List.length_cons,List.length_nil];omega)
    (by rw [z2j];omega) (by rw [z2j];omega) (by omega)
theorem j9s (l:List (List UInt8)) (h1:l.length≤32) (h2:Lib.lens l≤6400000000000):∃r,q6c (l,[46],())=some (r,()):=by
 unfold q6c;have hj:(Lib.join l [46]).length≤140737488355328:=by
  cases l with
  | nil=>exact Nat.zero_le _
  | cons x r =>
   rw [Lib.join_length];simp only [List.length_cons,List.length_nil] at h1 ⊢;omega
 dsimp only;rw [decide_eq_true (by omega),decide_eq_true hj];exact ⟨_,rfl⟩
theorem x6x (r:Int×List (List UInt8)×List (List UInt8)) (h1:r.2.1.length≤32) (h2:r.2.2.length≤32) (h3:Lib.lens r.2.1≤6400000000000) (h4:Lib.lens r.2.2≤6400000000000):∃o,y1q r=some o:=by
 unfold y1q;cases (r.1 != 0) with
 | true=>exact ⟨_,rfl⟩
 | false =>
  obtain ⟨a,ha⟩:=j9s r.2.1 h1 h3;obtain ⟨b,hb⟩:=j9s r.2.2 h2 h4;simp only [cond_false,ha,Option.bind_some,hb];cases decide (253<a.length) with
  | true=>exact ⟨_,rfl⟩
  | false=>exact ⟨_,rfl⟩
theorem b7h (h:TK T A B) (s:List UInt8) (hs:s.length≤3000):∃y,z3g (T,A,B,s,())=some y:=by
 obtain ⟨⟨f,ok,u⟩,e,hf⟩:=v1w h s (by omega);dsimp only at hf;obtain ⟨ls,c,e2,hll,hls⟩:=j1k f ok (by omega);unfold z3g;dsimp only;simp only [e,Option.bind_some,e2];cases (c != 0) with
 | true=>exact ⟨_,rfl⟩
 | false =>
  simp only [cond_false];rw [decide_eq_true hll];obtain ⟨r,er,h1,h2,h3,h4⟩:=j9h (fun x=>(z3j (T,A,B,x,())).map fun r=>(r.1,r.2.1)) (fun x=>(y2i (T,A,B,x,())).map fun r=>(r.1,r.2.1))
   (fun x hx=>by
    obtain ⟨y,e,hy⟩:=b7l h x (by omega);exact ⟨(y.1,y.2.1),by simp only [e,Option.map_some],hy⟩)
   (fun x hx=>by
    obtain ⟨y,e,hy⟩:=b7m h x (by omega);exact ⟨(y.1,y.2.1),by simp only [e,Option.map_some],hy⟩)
   ls [] [] 0 hls (by simpa using hll) (by simpa using hll) (by simp [Lib.lens]) (by simp [Lib.lens]) (by simpa using hll)
  obtain ⟨o,ho⟩:=x6x r h1 h2 h3 h4;simp only [cond_true,er,Option.bind_some,ho,Option.map_some];exact ⟨_,rfl⟩
end
def Pf {α:Type} (x:Option α) (Q:α→Prop):Prop:=∀y,x=some y→Q y
section
variable {α β γ:Type} {Q:α→Prop}
theorem pP {y:α} (h:Q y):Pf (some y) Q:=fun _ e=>by cases e;exact h
theorem pN:Pf (none:Option α) Q:=fun _ e=>by cases e
theorem pT {x:Option α}:Pf x (fun _=>True):=fun _ _=>trivial
theorem pZ {x:Option β} {f:β→Option α} {P:β→Prop} (h:Pf x P) (hf:∀a,P a→Pf (f a) Q):Pf (x.bind f) Q:=by
 intro y e;cases x with
 | none=>cases e
 | some a=>exact hf a (h a rfl) y e
theorem pM {x:Option α} {P:α→Prop} (h:Pf x P) (hf:∀a,P a→Q a):Pf x Q:=fun y e=>hf y (h y e)
theorem pA {x:Option α} {P P':α→Prop} (h:Pf x P) (h':Pf x P'):Pf x fun y=>P y∧P' y:=fun y e=>⟨h y e,h' y e⟩
theorem pX {b:Bool} {p q:Prop} [r:Rd b p q] {x y:Option α} (h1:p→Pf x Q) (h2:q→Pf y Q):Pf (bif b then x else y) Q:=by
 have h:b=true∨b=false:=by cases b<;>simp
 rcases h with h | h
 · rw [h];exact h1 (r.t h)
 · rw [h];exact h2 (r.f h)
theorem pS {f:β→Option α} {g:γ→Option α} {s:β⊕γ} {P:β→Prop} {P':γ→Prop} (hs:Sum.elim P P' s) (h1:∀a,P a→Pf (f a) Q) (h2:∀b,P' b→Pf (g b) Q):Pf (Sum.elim f g s) Q:=by
 cases s with
 | inl a=>exact h1 a hs
 | inr b=>exact h2 b hs
theorem pLn {F:β→Option (β⊕α)} (I:β→Prop) (h:∀v,I v→Pf (F v) (Sum.elim I Q)):∀(n:Nat) (v:β),I v→Pf (qd F n v) Q
 | 0,v,_=>fun _ e=>by cases e
 | n+1,v,hv=>by
  intro y e;simp only [qd] at e;cases hF:F v with
  | none=>rw [hF] at e;cases e
  | some z =>
   have hz:=h v hv z hF;rw [hF] at e;cases z with
   | inl v'=>exact pLn I h n v' hz y e
   | inr y' =>
    have e':some y'=some y:=e;cases e';exact hz
theorem pL {F:β→Option (β⊕α)} (I:β→Prop) (h:∀v,I v→Pf (F v) (Sum.elim I Q)) (v:β) (hv:I v):Pf (qd F jc v) Q:=pLn I h jc v hv
theorem pRn {F:(β→Option α)→β→Option α} {P:β→α→Prop} (h:∀G,(∀v,Pf (G v) (P v))→∀v,Pf (F G v) (P v)):∀(n:Nat) (v:β),Pf (q1b F n v) (P v)
 | 0,v=>fun _ e=>by cases e
 | n+1,v=>h (q1b F n) (pRn h n) v
theorem Df.pf {x:Option α} {P:α→Prop} (h:Df x P):Pf x P:=by
 obtain ⟨y,e,h⟩:=h;intro z ez;rw [e] at ez;cases ez;exact h
end
def kk (x:Int):Bool:=decide (0≤x)&&decide (x<128) && !(decide (97≤x)&&decide (x≤122)) && !(decide (65≤x)&&decide (x≤90)) && !(decide (48≤x)&&decide (x≤57)) && !decide (x=45)
theorem q3i (x:Int):kk x=true↔0≤x∧x<128∧(x<97∨122<x)∧(x<65∨90<x)∧(x<48∨57<x)∧x≠45:=by
 unfold kk;simp only [Bool.and_eq_true,Bool.not_eq_true',decide_eq_true_eq,Bool.and_eq_false_iff,decide_eq_false_iff_not];omega
theorem y0l {x:Int} (h:128≤x):kk x=false:=by
 cases hk:kk x with
 | false=>rfl
 | true=>have:=(q3i x).1 hk;omega
def stp (d:Bool) (s:Nat) (x:Int):Nat:=if 2≤s then 2 else if kk x=true then (if x=46∧d=true then s+1 else 2) else 0
def run (d:Bool) (s:Nat) (l:List Int):Nat:=l.foldl (stp d) s
theorem z0m (d:Bool) {s s':Nat} (h:s≤s') (x:Int):stp d s x≤stp d s' x:=by
 unfold stp;repeat' split
 all_goals omega
theorem j1t (d:Bool):∀(l:List Int) {s s':Nat},s≤s'→run d s l≤run d s' l
 | [],_,_,h=>h
 | x::l,_,_,h=>j1t d l (z0m d h x)
theorem q2a (d:Bool) {s:Nat} {x:Int} (h:kk x=false):stp d s x=if 2≤s then 2 else 0:=by
 unfold stp;rw [h];simp
theorem z7u (d:Bool) {s:Nat} (x:Int) (h:2≤s):stp d s x=2:=by
 unfold stp;rw [if_pos h]
theorem q5r (d:Bool):∀(l:List Int) {s:Nat},2≤s→2≤run d s l
 | [],_,h=>h
 | x::l,s,h=>q5r d l (Nat.le_of_eq (z7u d x h).symm)
theorem xh (d:Bool) (s:Nat) (p q:List Int):run d s (p++q)=run d (run d s p) q:=List.foldl_append
theorem q3o (d:Bool) (s:Nat) (x:Int) (q:List Int):run d s (x::q)=run d (stp d s x) q:=rfl
def Rr (p q:List Int):Prop:=∀d,run d 1 p≤run d 1 q
theorem Rr.refl (p:List Int):Rr p p:=fun d=>Nat.le_refl _
theorem Rr.trans {p q r:List Int} (h:Rr p q) (h':Rr q r):Rr p r:=fun d=>Nat.le_trans (h d) (h' d)
theorem j1u (d:Bool):∀(l:List Int) (s:Nat),l≠[]→(∀x∈l,kk x=false)→run d s l=if 2≤s then 2 else 0
 | [x],s,_,h=>q2a d (h x List.mem_cons_self)
 | x::y::l,s,_,h=>by
  rw [q3o,j1u d (y::l) _ (by simp) fun z hz=>h z (List.mem_cons_of_mem _ hz),q2a d (h x List.mem_cons_self)];split<;>simp
theorem ap {p q:List Int} (x:Int) (ys:List Int) (h:Rr p q) (hk:kk x=true→ys=[x]):Rr (p++[x]) (q++ys):=by
 intro d;rw [xh,xh];cases hx:kk x with
 | true=>rw [hk hx];exact z0m d (h d) x
 | false =>
  show stp d _ x≤_;rw [q2a d hx];split
  · rename_i h2
    exact q5r d ys (Nat.le_trans h2 (h d))
  · exact Nat.zero_le _
theorem apn {p q:List Int} (xs ys:List Int) (h:Rr p q) (hn:xs≠[]) (hx:∀x∈xs,kk x=false):Rr (p++xs) (q++ys):=by
 intro d;rw [xh,xh,j1u d xs _ hn hx];split
 · rename_i h2
   exact q5r d ys (Nat.le_trans h2 (h d))
 · exact Nat.zero_le _
theorem v6m (d:Bool):∀(l r:List Int) (s s':Nat),s≤s'→r.length=l.length→(∀(i:Nat) (x:Int),l[i]? = some x→kk x=true→r[i]? = some x)→run d s l≤run d s' r
 | [],[],s,s',h,_,_=>h
 | [],_::_,_,_,_,h,_=>by simp at h
 | _::_,[],_,_,_,h,_=>by simp at h
 | x::l,y::r,s,s',h,hl,hp=>by
  have hl':r.length=l.length:=by simpa using hl
  have hp':∀(i:Nat) (x:Int),l[i]? = some x→kk x=true→r[i]? = some x:=fun i z h1 h2=>by
   have:=hp (i+1) z (by simpa using h1) h2;simpa using this
  rw [q3o,q3o];refine v6m d l r _ _ ?_ hl' hp';cases hx:kk x with
  | true =>
   have:=hp 0 x (by simp) hx;simp only [List.getElem?_cons_zero,Option.some.injEq] at this;subst this;exact z0m d h y
  | false =>
   rw [q2a d hx];split
   · rename_i h2
     rw [z7u d y (by omega)];exact Nat.le_refl _
   · exact Nat.zero_le _
theorem Rr.pt {l r:List Int} (h:r.length=l.length) (hp:∀(i:Nat) (x:Int),l[i]? = some x→kk x=true→r[i]? = some x):Rr l r:=fun d=>v6m d l r 1 1 (Nat.le_refl _) h hp
theorem Rr.set {p q:List Int} (x:Int) (h:Rr p q) (hx:kk x=false) (i:Nat) (v:Int) (hi:kk (q.getD i 0)=false):Rr (p++[x]) (q.set i v):=by
 intro d;rw [xh];show stp d _ x≤_;rw [q2a d hx];split
 · rename_i h2
   have h3:Rr q (q.set i v):=by
    refine Rr.pt List.length_set fun j z hj hz => ?_;by_cases hij:i=j
    · subst hij
      rw [List.getD_eq_getElem?_getD,hj] at hi;simp only [Option.getD_some] at hi;rw [hi] at hz;cases hz
    · rw [List.getElem?_set_ne hij];exact hj
   exact Nat.le_trans h2 (Nat.le_trans (h d) (h3 d))
 · exact Nat.zero_le _
def bi (s:List UInt8):List Int:=s.map fun c=>(c.toNat:Int)
theorem xf (p q:List UInt8):bi (p++q)=bi p++bi q:=List.map_append
theorem w8o (l:List Int):∀s:Nat,2≤run false s l↔2≤s∨∃x∈l,kk x=true:=by
 induction l with
 | nil=>intro s;simp [run]
 | cons y l ih =>
  intro s;rw [q3o,ih];by_cases h2:2≤s
  · rw [z7u _ _ h2];simp [h2]
  · cases hy:kk y with
    | true =>
     have:stp false s y=2:=by unfold stp;rw [if_neg h2,if_pos hy];simp
     rw [this];simp only [Nat.le_refl,true_or,true_iff];exact .inr ⟨y,List.mem_cons_self,hy⟩
    | false =>
     rw [q2a _ hy,if_neg h2];constructor
     · rintro (h | ⟨x,hx,hk⟩)
       · omega
       · exact .inr ⟨x,List.mem_cons_of_mem _ hx,hk⟩
     · rintro (h | ⟨x,hx,hk⟩)
       · exact (h2 h).elim
       · rcases List.mem_cons.1 hx with rfl | hx
         · rw [hy] at hk;cases hk
         · exact .inr ⟨x,hx,hk⟩
theorem Rr.mem {p q:List Int} (h:Rr p q) (hp:∃x∈p,kk x=true):∃x∈q,kk x=true:=by
 have h1:=(w8o p 1).2 (.inr hp);rcases (w8o q 1).1 (Nat.le_trans h1 (h false)) with h | h
 · omega
 · exact h
theorem z2z (d:Bool):∀(l:List Int) (s:Nat),l≠[]→s<2→(∀x∈l,kk x=false)→run d s l=0:=fun l s hn hs h=>by
 rw [j1u d l s hn h,if_neg (by omega)]
def Fr (o n:Nat) (r r':List Int):Prop:=r'.length=r.length∧∀i:Nat,i<o∨o+n≤i→r'[i]? = r[i]?
theorem k3o {o n:Nat} {r:List Int}:Fr o n r r:=⟨rfl,fun _ _=>rfl⟩
theorem q3e {o n k:Nat} {r r':List Int} {x:Int} (h:Fr o n r r') (hk:k<n):Fr o n r (r'.set (o+k) x) :=
 ⟨List.length_set.trans h.1,fun i hi=>by
  rw [List.getElem?_set_ne (by omega)];exact h.2 i hi⟩
section
variable {T:List R6} {A:List R4} {B:List R3}
theorem k9t (a b:Int):Pf (zn (a,b,T,A,B,())) (fun y=>y.2=(T,A,B,())):=by
 unfold zn v9m;dsimp only;exact pZ pT fun _ _=>pZ pT fun _ _=>pP rfl
theorem g7z (o n:Nat) (a b i j:Int) (row r:List Int) (h:Fr o n row r) :
 Pf (q1l (((o:Int),(n:Int)),a,b,i,j,r,T,A,B,())) (fun y=>∃(a b i j:Int) (r':List Int),Fr o n row r'∧y=(((o:Int),(n:Int)),a,b,i,j,r',T,A,B,())):=by
 unfold q1l j6r;dsimp only;simp only [Int.toNat_natCast];with_reducible repeat' (first | exact pN | apply pP | apply pX<;>intro _)
 exact ⟨_,_,_,_,_,q3e (q3e h (by omega)) (by omega),rfl⟩
theorem g8a (o n:Nat) (a b i j:Int) (row r:List Int) (h:Fr o n row r) :
 Pf (q8r (((o:Int),(n:Int)),a,b,i,j,r,T,A,B,())) (fun y=>∃(a b i:Int) (r':List Int),Fr o n row r'∧y=(((o:Int),(n:Int)),a,b,i,r',T,A,B,())):=by
 refine pL ?I ?h _ ?hv
 case I=>exact (fun v=>∃(a b i j:Int) (r':List Int),Fr o n row r'∧v=(((o:Int),(n:Int)),a,b,i,j,r',T,A,B,()))
 case hv=>exact ⟨_,_,_,_,_,h,rfl⟩
 rintro v ⟨a,b,i,j,r',h1,rfl⟩;unfold j6s;dsimp only;simp only [Int.toNat_natCast];with_reducible repeat' (first | exact pN | apply pP | apply pX<;>intro _)
 · refine pZ (k9t _ _) ?_
   rintro ⟨c,t,a',b',u⟩ hc;simp only [Prod.mk.injEq] at hc;obtain ⟨rfl,rfl,rfl,-⟩:=hc;dsimp only;with_reducible repeat' (first | exact pN | apply pP | apply pX<;>intro _)
   · refine pZ (g7z o n a b i j row r' h1) ?_
     rintro y ⟨a,b,i,j,r2,h4,rfl⟩;dsimp only;simp only [Int.toNat_natCast];exact pP ⟨_,_,_,_,_,h4,rfl⟩
   · exact ⟨_,_,_,_,h1,rfl⟩
 · exact ⟨_,_,_,_,h1,rfl⟩
theorem b1q (o n:Nat) (a b:Int) (row r:List Int) (h:Fr o n row r) :
 Pf (q8q (((o:Int),(n:Int)),a,b,r,T,A,B,())) (fun y=>∃(r':List Int),Fr o n row r'∧y=(r',T,A,B,())):=by
 unfold q8q k0i;dsimp only;simp only [Int.toNat_natCast];refine pZ (P:=fun y=>∃(r':List Int),Fr o n row r'∧y=(r',T,A,B,())) ?_ ?_
 · refine pL ?I ?h _ ?hv
   case I=>exact (fun v=>∃(a b i:Int) (r':List Int),Fr o n row r'∧v=(((o:Int),(n:Int)),a,b,i,r',T,A,B,()))
   case hv=>exact ⟨_,_,_,_,h,rfl⟩
   rintro v ⟨a,b,i,r',h2,rfl⟩;unfold j6t;dsimp only;simp only [Int.toNat_natCast];with_reducible repeat' (first | exact pN | apply pP | apply pX<;>intro _)
   · refine pZ (g8a o n a b i i row r' h2) ?_
     rintro y ⟨a,b,i,r2,h4,rfl⟩;dsimp only;simp only [Int.toNat_natCast];exact pP ⟨_,_,_,_,h4,rfl⟩
   · exact ⟨_,h2,rfl⟩
 · rintro y ⟨r',h,rfl⟩
   exact pP ⟨_,h,rfl⟩
theorem g8g (o n:Nat) (a b k:Int) (row r:List Int) (h:Fr o n row r) :
 Pf (z0s (((o:Int),(n:Int)),a,b,k,r,T,A,B,())) (fun y=>∃(r':List Int),Fr o n row r'∧y=(r',T,A,B,())):=by
 unfold z0s k0l;dsimp only;simp only [Int.toNat_natCast];refine pZ (P:=fun y=>∃(r':List Int),Fr o n row r'∧y=(r',T,A,B,())) ?_ ?_
 · refine pL ?I ?h _ ?hv
   case I=>exact (fun v=>∃(a b k i:Int) (r':List Int),Fr o n row r'∧v=(((o:Int),(n:Int)),a,b,k,i,r',T,A,B,()))
   case hv=>exact ⟨_,_,_,_,_,h,rfl⟩
   rintro v ⟨a,b,k,i,r',h2,rfl⟩;unfold j6v;dsimp only;simp only [Int.toNat_natCast];with_reducible repeat' (first | exact pN | apply pP | apply pX<;>intro _)
   · exact ⟨_,_,_,_,_,q3e (q3e h2 (by omega)) (by omega),rfl⟩
   · exact ⟨_,h2,rfl⟩
 · rintro y ⟨r',h,rfl⟩
   exact pP ⟨_,h,rfl⟩
theorem d4m (o n:Nat) (a m b:Int) (row r:List Int) (h:Fr o n row r) :
 Pf (zu (((o:Int),(n:Int)),a,m,b,r,T,A,B,())) (fun y=>∃(r':List Int),Fr o n row r'∧y=(r',T,A,B,())):=by
 unfold zu k0k;dsimp only;simp only [Int.toNat_natCast];refine pZ (P:=fun y=>∃(m i:Int) (r':List Int),Fr o n row r'∧y=(((o:Int),(n:Int)),m,i,r',T,A,B,())) ?_ ?_
 · refine pL ?I ?h _ ?hv
   case I=>exact (fun v=>∃(m i j:Int) (r':List Int),Fr o n row r'∧v=(((o:Int),(n:Int)),m,i,j,r',T,A,B,()))
   case hv=>exact ⟨_,_,_,_,h,rfl⟩
   rintro v ⟨m,i,j,r',h5,rfl⟩;unfold j6u;dsimp only;simp only [Int.toNat_natCast];with_reducible repeat' (first | exact pN | apply pP | apply pX<;>intro _)
   · refine pZ (g8g o n _ _ _ row r' h5) ?_
     rintro y ⟨r2,h6,rfl⟩;exact pP ⟨_,_,_,_,h6,rfl⟩
   · refine pZ (g8g o n _ _ _ row r' h5) ?_
     rintro y ⟨r2,h6,rfl⟩;exact pP ⟨_,_,_,_,h6,rfl⟩
   · exact ⟨_,_,_,h5,rfl⟩
 · rintro y ⟨m,i,r',h4,rfl⟩
   dsimp only;simp only [Int.toNat_natCast];refine pZ (g8g o n _ _ _ row r' h4) ?_;rintro y ⟨r2,h6,rfl⟩;exact pP ⟨_,h6,rfl⟩
theorem g8b (G:je) (o n:Nat) (a i j:Int) (row:List Int) :
 Pf (xw G (((o:Int),(n:Int)),a,i,j,row,T,A,B,())) (fun y=>∃(a i':Int),y=(((o:Int),(n:Int)),a,i',row,T,A,B,())):=by
 refine pL ?I ?h _ ?hv
 case I=>exact (fun v=>∃(a i' j':Int),v=(((o:Int),(n:Int)),a,i',j',row,T,A,B,()))
 case hv=>exact ⟨_,_,_,rfl⟩
 rintro v ⟨a,i',j',rfl⟩;unfold q8u;dsimp only;simp only [Int.toNat_natCast];with_reducible repeat' (first | exact pN | apply pP | apply pX<;>intro _)
 · refine pZ (k9t _ _) ?_
   rintro ⟨c,t,a',b',u⟩ hc;simp only [Prod.mk.injEq] at hc;obtain ⟨rfl,rfl,rfl,-⟩:=hc;dsimp only;with_reducible repeat' (first | exact pN | apply pP | apply pX<;>intro _)
   all_goals exact ⟨_,_,_,rfl⟩
 · exact ⟨_,_,rfl⟩
theorem g8d (G:je) (o n:Nat) (a i j:Int) (row:List Int) :
 Pf (xy G (((o:Int),(n:Int)),a,i,j,row,T,A,B,())) (fun y=>∃(a i':Int),y=(((o:Int),(n:Int)),a,i',row,T,A,B,())):=by
 refine pL ?I ?h _ ?hv
 case I=>exact (fun v=>∃(a i' j':Int),v=(((o:Int),(n:Int)),a,i',j',row,T,A,B,()))
 case hv=>exact ⟨_,_,_,rfl⟩
 rintro v ⟨a,i',j',rfl⟩;unfold q8w;dsimp only;simp only [Int.toNat_natCast];with_reducible repeat' (first | exact pN | apply pP | apply pX<;>intro _)
 · refine pZ (k9t _ _) ?_
   rintro ⟨c,t,a',b',u⟩ hc;simp only [Prod.mk.injEq] at hc;obtain ⟨rfl,rfl,rfl,-⟩:=hc;dsimp only;with_reducible repeat' (first | exact pN | apply pP | apply pX<;>intro _)
   all_goals exact ⟨_,_,_,rfl⟩
 · exact ⟨_,_,rfl⟩
theorem g8c (G:je) (o n:Nat) (i k:Int) (row r:List Int) (h:Fr o n row r) :
 Pf (xx G (((o:Int),(n:Int)),i,k,r,T,A,B,())) (fun y=>∃(r':List Int),Fr o n row r'∧y=(r',T,A,B,())):=by
 refine pL ?I ?h _ ?hv
 case I=>exact (fun v=>∃(i k:Int) (r':List Int),Fr o n row r'∧v=(((o:Int),(n:Int)),i,k,r',T,A,B,()))
 case hv=>exact ⟨_,_,_,h,rfl⟩
 rintro v ⟨i,k,r',h2,rfl⟩;unfold q8v;dsimp only;simp only [Int.toNat_natCast];with_reducible repeat' (first | exact pN | apply pP | apply pX<;>intro _)
 · exact ⟨_,_,_,q3e (q3e h2 (by omega)) (by omega),rfl⟩
 · exact ⟨_,h2,rfl⟩
theorem g8e (G:je) (o n:Nat) (i k:Int) (row r:List Int) (h:Fr o n row r) :
 Pf (xz G (((o:Int),(n:Int)),i,k,r,T,A,B,())) (fun y=>∃(r':List Int),Fr o n row r'∧y=(r',T,A,B,())):=by
 refine pL ?I ?h _ ?hv
 case I=>exact (fun v=>∃(i k:Int) (r':List Int),Fr o n row r'∧v=(((o:Int),(n:Int)),i,k,r',T,A,B,()))
 case hv=>exact ⟨_,_,_,h,rfl⟩
 rintro v ⟨i,k,r',h2,rfl⟩;unfold q8x;dsimp only;simp only [Int.toNat_natCast];with_reducible repeat' (first | exact pN | apply pP | apply pX<;>intro _)
 · exact ⟨_,_,_,q3e (q3e h2 (by omega)) (by omega),rfl⟩
 · exact ⟨_,h2,rfl⟩
theorem g8f (G:je) (o n:Nat) (a m b mid s st r p:Int) (row:List Int) :
 Pf (kf G (((o:Int),(n:Int)),a,m,b,mid,s,st,r,p,row,T,A,B,())) (fun y=>∃(a m b mid s st':Int),y=(((o:Int),(n:Int)),a,m,b,mid,s,st',row,T,A,B,())):=by
 refine pL ?I ?h _ ?hv
 case I=>exact (fun v=>∃(a m b mid s i' j' p:Int),v=(((o:Int),(n:Int)),a,m,b,mid,s,i',j',p,row,T,A,B,()))
 case hv=>exact ⟨_,_,_,_,_,_,_,_,rfl⟩
 rintro v ⟨a,m,b,mid,s,i',j',p,rfl⟩;unfold q8y;dsimp only;simp only [Int.toNat_natCast];with_reducible repeat' (first | exact pN | apply pP | apply pX<;>intro _)
 · refine pZ (k9t _ _) ?_
   rintro ⟨c,t,a',b',u⟩ hc;simp only [Prod.mk.injEq] at hc;obtain ⟨rfl,rfl,rfl,-⟩:=hc;dsimp only;with_reducible repeat' (first | exact pN | apply pP | apply pX<;>intro _)
   all_goals exact ⟨_,_,_,_,_,_,_,_,rfl⟩
 · exact ⟨_,_,_,_,_,_,rfl⟩
def Mq (T:List R6) (A:List R4) (B:List R3) (G:je) (o n:Nat):Prop:=∀(a m b:Int) (row r:List Int),Fr o n row r →
 Pf (G (((o:Int),(n:Int)),a,m,b,r,T,A,B,())) (fun y=>∃(r':List Int),Fr o n row r'∧y=(r',T,A,B,()))
theorem k9v (G:je) (o n:Nat) (hG:Mq T A B G o n) (b mid e:Int) (row r:List Int) (h:Fr o n row r) :
 Pf (xd G (((o:Int),(n:Int)),b,mid,e,r,T,A,B,())) (fun y=>∃(r':List Int),Fr o n row r'∧y=(r',T,A,B,())):=by
 show Pf (q4f zn G zu _) _;unfold q4f;dsimp only;simp only [Int.toNat_natCast];with_reducible repeat' (first | exact pN | apply pP | apply pX<;>intro _)
 · refine pZ (hG mid e b row r h) ?_
   rintro y ⟨r',h,rfl⟩;exact pP ⟨_,h,rfl⟩
 · exact ⟨_,h,rfl⟩
 · exact ⟨_,h,rfl⟩
theorem k9w (G:je) (o n:Nat) (hG:Mq T A B G o n) (a b mid st e:Int) (row r:List Int) (h:Fr o n row r) :
 Pf (xe G (((o:Int),(n:Int)),a,b,mid,st,e,r,T,A,B,())) (fun y=>∃(r':List Int),Fr o n row r'∧y=(r',T,A,B,())):=by
 show Pf (q4g zn G zu (xd G) _) _;unfold q4g;dsimp only;simp only [Int.toNat_natCast];have jv:∀r0:List Int,Fr o n row r0→Pf ((xd G (((o:Int),(n:Int)),b,mid,e,r0,T,A,B,())).bind fun val=>some (val.fst,val.snd.fst,val.snd.snd.fst,val.snd.snd.snd.fst,())) (fun y=>∃(r':List Int),Fr o n row r'∧y=(r',T,A,B,())):=by
  intro r0 hr;refine pZ (k9v G o n hG b mid e row r0 hr) ?_;rintro y ⟨r',h,rfl⟩;exact pP ⟨_,h,rfl⟩
 with_reducible repeat' (first | exact pN | apply pP | apply pX<;>intro _)
 · refine pZ (hG a st mid row r h) ?_
   rintro y ⟨r',h,rfl⟩;exact jv r' h
 · exact jv r h
 · exact jv r h
theorem x2d (G:je) (o n:Nat) (hG:Mq T A B G o n) (a m b mid s st q:Int) (row r:List Int) (h:Fr o n row r) :
 Pf (xv G (((o:Int),(n:Int)),a,m,b,mid,s,st,q,r,T,A,B,())) (fun y=>∃(r':List Int),Fr o n row r'∧y=(r',T,A,B,())):=by
 show Pf (q4h zn G zu (xe G) (kf G) _) _;unfold q4h;dsimp only;simp only [Int.toNat_natCast];refine pZ (g8f G o n a m b mid s st q _ r) ?_;rintro y ⟨a,m,b,mid,s,st',rfl⟩;dsimp only;simp only [Int.toNat_natCast];have jv:∀(e:Int) (r0:List Int),Fr o n row r0→Pf ((xe G (((o:Int),(n:Int)),a,b,mid,st',e,r0,T,A,B,())).bind fun val=>some (val.fst,val.snd.fst,val.snd.snd.fst,val.snd.snd.snd.fst,())) (fun y=>∃(r':List Int),Fr o n row r'∧y=(r',T,A,B,())):=by
  intro e r0 hr0;refine pZ (k9w G o n hG a b mid st' e row r0 hr0) ?_;rintro y ⟨r',h,rfl⟩;exact pP ⟨_,h,rfl⟩
 with_reducible repeat' (first | exact pN | apply pP | apply pX<;>intro _)
 · refine pZ (d4m o n _ _ _ row r h) ?_
   rintro y ⟨r',h,rfl⟩;exact jv _ r' h
 · exact jv _ r h
 · exact jv _ r h
theorem w8n (o n:Nat):∀k:Nat,Mq T A B (q1b q5w k) o n
 | 0=>fun a m b row r h=>fun _ e=>by cases e
 | k+1=>fun a m b row r h=>by
  have hG:=w8n o n k;show Pf (q5w (q1b q5w k) _) _;generalize q1b q5w k=G at hG ⊢;show Pf (z8t zn G zu (xv G) (xw G) (xx G) (xy G) (xz G) _) _;unfold z8t;dsimp only;simp only [Int.toNat_natCast];have jv:∀{x:Option (List Int×List R6×List R4×List R3×Unit)},Pf x (fun y=>∃(r':List Int),Fr o n row r'∧y=(r',T,A,B,()))→Pf (x.bind fun val=>some (val.fst,val.snd.fst,val.snd.snd.fst,val.snd.snd.snd.fst,())) (fun y=>∃(r':List Int),Fr o n row r'∧y=(r',T,A,B,())):=by
   intro x hx;refine pZ hx ?_;rintro y ⟨r',h,rfl⟩;exact pP ⟨_,h,rfl⟩
  with_reducible repeat' (first | exact pN | apply pP | apply pX<;>intro _)
  · refine pZ (g8b G o n _ _ _ r) ?_
    rintro y ⟨a',i',rfl⟩;dsimp only;simp only [Int.toNat_natCast];exact jv (g8c G o n _ _ row r h)
  · refine pZ (g8d G o n _ _ _ r) ?_
    rintro y ⟨a',i',rfl⟩;dsimp only;simp only [Int.toNat_natCast];exact jv (g8e G o n _ _ row r h)
  · exact jv (x2d G o n hG _ _ _ _ _ _ _ row r h)
  · exact jv (x2d G o n hG _ _ _ _ _ _ _ row r h)
theorem b1r (o n:Nat) (a m b:Int) (row r:List Int) (h:Fr o n row r) :
 Pf (j4p (((o:Int),(n:Int)),a,m,b,r,T,A,B,())) (fun y=>∃(r':List Int),Fr o n row r'∧y=(r',T,A,B,())):=by
 show Pf (q1b q5w jc _) _;exact w8n o n jc a m b row r h
theorem g7x (o n:Nat) (x y' z w:Int) (row r:List Int) (h:Fr o n row r) :
 Pf (q8o (((o:Int),(n:Int)),x,y',z,w,r,T,A,B,())) (fun y=>∃(x y' a:Int) (r':List Int),Fr o n row r'∧y=(((o:Int),(n:Int)),x,y',a,r',T,A,B,())):=by
 refine pL ?I ?h _ ?hv
 case I=>exact (fun v=>∃(x y' z w:Int) (r':List Int),Fr o n row r'∧v=(((o:Int),(n:Int)),x,y',z,w,r',T,A,B,()))
 case hv=>exact ⟨_,_,_,_,_,h,rfl⟩
 rintro v ⟨x,y',z,w,r',h3,rfl⟩;unfold j6o;dsimp only;simp only [Int.toNat_natCast];with_reducible repeat' (first | exact pN | apply pP | apply pX<;>intro _)
 · refine pZ (b1q o n _ _ row r' h3) ?_
   rintro y ⟨r2,h4,rfl⟩;exact pP ⟨_,_,_,_,_,h4,rfl⟩
 · exact ⟨_,_,_,_,h3,rfl⟩
theorem g7y (o n:Nat) (x y' z w:Int) (row r:List Int) (h:Fr o n row r) :
 Pf (q8p (((o:Int),(n:Int)),x,y',z,w,r,T,A,B,())) (fun y=>∃(x y' a:Int) (r':List Int),Fr o n row r'∧y=(((o:Int),(n:Int)),x,y',a,r',T,A,B,())):=by
 refine pL ?I ?h _ ?hv
 case I=>exact (fun v=>∃(x y' z w:Int) (r':List Int),Fr o n row r'∧v=(((o:Int),(n:Int)),x,y',z,w,r',T,A,B,()))
 case hv=>exact ⟨_,_,_,_,_,h,rfl⟩
 rintro v ⟨x,y',z,w,r',h3,rfl⟩;unfold j6p;dsimp only;simp only [Int.toNat_natCast];with_reducible repeat' (first | exact pN | apply pP | apply pX<;>intro _)
 · refine pZ (b1r o n _ _ _ row r' h3) ?_
   rintro y ⟨r2,h4,rfl⟩;exact pP ⟨_,_,_,_,_,h4,rfl⟩
 · exact ⟨_,_,_,_,h3,rfl⟩
theorem d4k (o n:Nat) (x:Int) (row r:List Int) (h:Fr o n row r) :
 Pf (y2q (((o:Int),(n:Int)),x,r,T,A,B,())) (fun y=>∃(r':List Int),Fr o n row r'∧y=(r',T,A,B,())):=by
 unfold y2q k0b;dsimp only;simp only [Int.toNat_natCast];refine pZ (g7x o n _ _ _ _ row r h) ?_;rintro y ⟨x,z,a,r1,h3,rfl⟩;dsimp only;simp only [Int.toNat_natCast];refine pZ (b1q o n _ _ row r1 h3) ?_;rintro y ⟨r2,h4,rfl⟩;dsimp only;refine pZ (P:=fun y=>∃(r':List Int),Fr o n row r'∧y=(r',T,A,B,())) ?_ ?_
 · refine pL ?I ?h _ ?hv
   case I=>exact (fun v=>∃(x bs:Int) (r':List Int),Fr o n row r'∧v=(((o:Int),(n:Int)),x,bs,r',T,A,B,()))
   case hv=>exact ⟨_,_,r2,h4,rfl⟩
   rintro v ⟨x,bs,r',h7,rfl⟩;unfold j6q;dsimp only;simp only [Int.toNat_natCast];with_reducible repeat' (first | exact pN | apply pP | apply pX<;>intro _)
   · refine pZ (g7y o n _ _ _ _ row r' h7) ?_
     rintro y ⟨x,bs,a,r3,h10,rfl⟩;dsimp only;simp only [Int.toNat_natCast];with_reducible repeat' (first | exact pN | apply pP | apply pX<;>intro _)
     · refine pZ (b1r o n _ _ _ row r3 h10) ?_
       rintro y ⟨r4,h11,rfl⟩;exact pP ⟨_,_,_,h11,rfl⟩
     · exact ⟨_,_,_,h10,rfl⟩
   · exact ⟨_,h7,rfl⟩
 · rintro y ⟨r',h,rfl⟩
   exact pP ⟨_,h,rfl⟩
theorem d4g (o n:Nat) (row:List Int) :
 Pf (j4o (((o:Int),(n:Int)),row,T,A,B,())) (fun y=>∃(r':List Int),Fr o n row r'∧y=(r',T,A,B,())):=by
 unfold j4o v9l;dsimp only;simp only [Int.toNat_natCast];refine pZ (d4k o n _ row row k3o) ?_;rintro y ⟨r',h,rfl⟩;exact pP ⟨_,h,rfl⟩
structure KT (T:List R6) (A:List R4) (B:List R3):Prop where
 cl:∀x,kk x=true→xc (T,A,B,x,())=some (0,())
 lo:∀x,kk x=true→j2g (T,A,B,x,())=some (x,())
 ca:∀x,kk x=true→q2k (T,A,B,x,())=some (false,())
theorem g7r (f k:Int) (row:List Int) :
 Pf (kb (f,k,T,A,B,row,())) (fun y=>∃(r':List Int),0≤f∧Fr f.toNat (k.toNat - f.toNat) row r'∧y=(IntKind.i64.wrap (k+1),k,T,A,B,r',())):=by
 unfold kb j6e;dsimp only;with_reducible repeat' (first | exact pN | apply pP | apply pX<;>intro _)
 rename_i h1 h2;refine pZ (d4g f.toNat (k.toNat - f.toNat) row) ?_;rintro y ⟨r',h,rfl⟩;exact pP ⟨_,h2.1,h,rfl⟩
theorem d3u (hK:KT T A B) (l:List Int) (hl:l.length≤35184372088832):Pf (y2m (T,A,B,l,())) (fun y=>Rr l y.1):=by
 unfold y2m v8v;dsimp only;refine pZ (P:=fun y=>y.1=l) ?_ ?_
 · unfold z0p
   dsimp only;with_reducible repeat' (first | exact pN | apply pP | apply pX<;>intro _)
   rfl
 rintro ⟨l',u⟩ hl';dsimp only at hl' ⊢;subst hl';refine pZ (P:=fun y=>Rr l' y.1) ?_ (fun _ h=>pP h);refine pL ?I ?h _ ?hv
 case I=>exact (fun v=>∃(f:Int) (k:Int) (r':List Int),0≤f∧f≤k∧k≤l'.length+1∧r'.length=l'.length∧(∀(i:Nat) (x:Int),l'[i]? = some x→kk x=true→r'[i]? = some x)∧(∀i:Nat,f≤i→i<k→∀x,r'[i]? = some x→kk x=false)∧v=(f,k,T,A,B,r',()))
 case hv=>exact ⟨0,0,l',Int.le_refl _,Int.le_refl _,by omega,rfl,fun _ _ h _=>h,fun i _ h=>by omega,rfl⟩
 rintro v ⟨f,k,r',h1,h2,h3,h4,h5,h6,rfl⟩;unfold j6f;dsimp only;have jv:k≤r'.length→Pf ((kb (f,k,T,A,B,r',())).bind fun val=>some (Sum.inl (val.fst,IntKind.i64.wrap (val.snd.fst+1),val.snd.snd.fst,val.snd.snd.snd.fst,val.snd.snd.snd.snd.fst,val.snd.snd.snd.snd.snd.fst,())))
  (Sum.elim (fun v':Int×Int×List R6×List R4×List R3×List Int×Unit=>∃(f:Int) (k:Int) (r':List Int),0≤f∧f≤k∧k≤l'.length+1∧r'.length=l'.length∧(∀(i:Nat) (x:Int),l'[i]? = some x→kk x=true→r'[i]? = some x)∧(∀i:Nat,f≤i→i<k→∀x,r'[i]? = some x→kk x=false)∧v'=(f,k,T,A,B,r',())) (fun y:List Int×Unit=>Rr l' y.1)):=by
  intro hk;refine pZ (g7r f k r') ?_;rintro y ⟨r2,h7,h8,rfl⟩;dsimp only;rw [qg (n:=k+1) (by omega)];refine pP ⟨_,_,_,by omega,Int.le_refl _,by omega,h8.1.trans h4,?_,fun i _ _=>by omega,rfl⟩;intro i x hi hx;have hr:=h5 i x hi hx;rw [h8.2 i]
  · exact hr
  · by_cases hik:f≤i∧(i:Int)<k
    · have:=h6 i hik.1 hik.2 x hr
      rw [this] at hx;cases hx
    · omega
 with_reducible repeat' (first | exact pN | apply pP | apply pX<;>intro _)
 · rename_i h7 h8 h9
   refine pZ (pM (P:=fun y=>kk (r'.getD k.toNat 0)=true→y.1=0) (fun y e hk=>by
    rw [hK.cl _ hk] at e;cases e;rfl) fun _ h=>h) ?_
   rintro ⟨c,u⟩ hc;dsimp only at hc ⊢;with_reducible repeat' (first | exact pN | apply pP | apply pX<;>intro _)
   · rename_i h10
     rw [qg (n:=k+1) (by omega)];refine ⟨_,_,_,h1,by omega,by omega,h4,h5,fun i hi hik x hx => ?_,rfl⟩;by_cases hlt:(i:Int)<k
     · exact h6 i hi hlt x hx
     · have hik':i=k.toNat:=by omega
       subst hik';cases hkx:kk x with
       | false=>rfl
       | true =>
        have:r'.getD k.toNat 0=x:=by rw [List.getD_eq_getElem?_getD,hx];rfl
        rw [this] at hc;have:=hc hkx;omega
   · exact jv (by omega)
 · exact jv (by omega)
 · exact Rr.pt h4 h5
end
end Go.Proofs.YtiacnhhmkdkpmaaGreatDoorA.W
