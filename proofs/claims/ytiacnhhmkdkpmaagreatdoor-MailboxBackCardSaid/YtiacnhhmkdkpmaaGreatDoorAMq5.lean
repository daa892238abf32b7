/- The texts of the proof, one behind the other: W10, W11, W12, W13, PB, W14, PD0, PD1, PD2, PD3, PD4, PD5, PD6, PD7, PD8, PD9, PR0, PR1. -/
import Derived.Test.YtiacnhhmkdkpmaaGreatDoorAMq4
import Derived.Test.YtiacnhhmkdkpmaaGreatDoorAMq2
import Derived.Lib.IndexMore
set_option maxRecDepth 100000
set_option linter.unusedVariables false
namespace Go.Proofs.YtiacnhhmkdkpmaaGreatDoorA.W
open Go Go.Ae
abbrev q8m:=LqD×Int×qa×qa×Unit→Option (LqD×Int×qa×qa×Unit)
def y4q (f:q8m):LEnt:=⟨w1d,w4k,f⟩
abbrev x3a:=LqD×Int×qa×qa×Unit→Option (Bool×LqD×Int×qa×qa×Unit)
def g6h (f:x3a):FEnt:=⟨q5l,q5n,f⟩
def w8q (f146:vq):=lk [(146,x2i f146)]
theorem v2a:zk Tryz.prog (w8q yl):=(kc y0e kn)
def q1f (f146:vq):yq (LqD×Int×qa×qa×Unit) (LqD×Int×qa×qa×Unit):=fun (x0,x1,x2,x3,_) =>
 (f146 (0,x0,x1,x2,x3,())).bind fun v =>
 bif v.1==4 then
 some
 (Sum.inl
 (v.2.1,IntKind.i64.wrap (v.2.2.1+1),v.2.2.2.1,v.2.2.2.2.1,()))
 else
 (f146 (0,v.2.1,v.2.2.1,v.2.2.2.1,v.2.2.2.2.1,())).bind fun v =>
 bif v.1==3 then
 some
 (Sum.inl
 (v.2.1,IntKind.i64.wrap (v.2.2.1+1),v.2.2.2.1,v.2.2.2.2.1,
 ()))
 else some (Sum.inr (v.2.1,v.2.2.1,v.2.2.2.1,v.2.2.2.2.1,()))
def q6s:q8m:=qc (q1f yl) jd
theorem k4c:jg 1 (qd (code Tryz.f109) [1,0,0,0]) (y4q q6s):=zl1 w1d w4k w8q q1f yl v2a
def b2j (f109_l0:q8m):Ann:=(.seq .nil (.seq (.blk (.loop (y4q f109_l0))) .nil))
def v6f (f146:vq) (f109_l0:q8m):x3a:=fun (x0,x1,x2,x3,_) =>
 (f109_l0 (x0,x1,x2,x3,())).bind fun v =>
 some (true,v.1,v.2.1,v.2.2.1,v.2.2.2.1,())
theorem b7f (f146:vq) (f109_l0:q8m):ye (w8q f146) 1 Tryz.f109 (b2j f109_l0) q5l q5n (v6f f146 f109_l0):=fun v=>by kernel_rfl
def x1n:x3a:=v6f yl q6s
theorem f4n:FO 109 (g6h x1n) :=
 qo v2a Tryz.func109 (And.intro k4c trivial) (b7f yl q6s)
abbrev j3z:=qa×LqD×Int×qa×qa×Unit→Option (Bool×LqD×Int×qa×qa×Unit)
def w7b (f:j3z):FEnt:=⟨w1e,q5n,f⟩
def b0a (f146:vq):=lk [(146,x2i f146)]
def x8l (f146:vq):j3z:=fun (x0,x1,x2,x3,x4,_) =>
 (f146 (0,x1,x2,x3,x4,())).bind fun v =>
 bif v.1==2 then
 bif decide (0≤v.2.2.1)&&decide (v.2.2.1<(↑(List.length v.2.1):Int)) then
 some
 ((List.getD v.2.1 (Int.toNat v.2.2.1)
 (0,([],0))).2.1 ==
 x0,
 v.2.1,v.2.2.1,v.2.2.2.1,v.2.2.2.2.1,())
 else none
 else some (false,v.2.1,v.2.2.1,v.2.2.2.1,v.2.2.2.2.1,())
theorem b7s (f146:vq):ye (b0a f146) 1 Tryz.f148 .nil w1e q5n (x8l f146):=fun v=>by kernel_rfl
def q7d:j3z:=x8l yl
theorem w5w:FO 148 (w7b q7d) :=
 q0 (kc y0e kn) Tryz.func148 (b7s yl)
abbrev q8v:=qa×LqD×Int×qa×qa×Unit→Option (qa×LqD×Int×qa×qa×Unit)
def y5i (f:q8v):LEnt:=⟨y8p,w4m,f⟩
abbrev q4h:=qa×LqD×Int×qa×qa×Unit→Option (qa×Bool×LqD×Int×qa×qa×Unit)
def y5h (f:q4h):LEnt:=⟨y8p,w4n,f⟩
abbrev j3y:=LqD×Int×qa×qa×Unit→Option (qa×Bool×LqD×Int×qa×qa×Unit)
def w7a (f:j3y):FEnt:=⟨q5l,w4l,f⟩
def v9k (f146:vq) (f148:j3z):=lk [(146,x2i f146),(148,w7b f148)]
theorem y3i:zk Tryz.prog (v9k yl q7d):=(kc y0e (kc w5w kn))
def wx (f146:vq) (f148:j3z):yq (qa×LqD×Int×qa×qa×Unit) (qa×LqD×Int×qa×qa×Unit):=fun (x0,x1,x2,x3,x4,_) =>
 (f148 ([46],x1,x2,x3,x4,())).bind fun v =>
 bif v.1 then
 (f146 (1,v.2.1,v.2.2.1,v.2.2.2.1,v.2.2.2.2.1,())).bind fun v =>
 bif v.1==0 then
 bif
 decide (0≤IntKind.i64.wrap (v.2.2.1+1)) &&
 decide (IntKind.i64.wrap (v.2.2.1+1)<(↑(List.length v.2.1):Int)) then
 bif
 decide
 ([46].length +
 List.length
 (List.getD v.2.1 (IntKind.i64.wrap (v.2.2.1+1)).toNat
 (0,([],0))).2.1 ≤
 9223372036854775807) then
 bif
 decide
 (x0.length +
 ([46] ++
 (List.getD v.2.1 (IntKind.i64.wrap (v.2.2.1+1)).toNat
 (0,([],0))).2.1).length ≤
 9223372036854775807) then
 some
 (Sum.inl
 (x0 ++
 ([46] ++
 (List.getD v.2.1 (IntKind.i64.wrap (v.2.2.1+1)).toNat
 (0,([],0))).2.1),
 v.2.1,IntKind.i64.wrap (v.2.2.1+2),v.2.2.2.1,v.2.2.2.2.1,
 ()))
 else none
 else none
 else none
 else some (Sum.inr (x0,v.2.1,v.2.2.1,v.2.2.2.1,v.2.2.2.2.1,()))
 else some (Sum.inr (x0,v.2.1,v.2.2.1,v.2.2.2.1,v.2.2.2.2.1,()))
def j4i:q8v:=qc (wx yl q7d) jd
theorem k4u:jg 1 (qd (code Tryz.f147) [1,1,1,0,1,0,0]) (y5i j4i):=zl2 y8p w4m v9k wx yl q7d y3i
def k0r (f147_l0:q8v):Ann:=(.seq (.seq .nil (.blk (.loop (y5i f147_l0)))) .nil)
def z3q (f146:vq) (f148:j3z) (f147_l0:q8v):q4h:=fun (x0,x1,x2,x3,x4,_) =>
 (f147_l0 (x0,x1,IntKind.i64.wrap (x2+1),x3,x4,())).bind fun v =>
 some (v.1,true,v.2.1,v.2.2.1,v.2.2.2.1,v.2.2.2.2.1,())
theorem k2p (f146:vq) (f148:j3z) (f147_l0:q8v):AqC (v9k f146 f148) 1 (qd (code Tryz.f147) [1,1,1]) (k0r f147_l0) y8p w4n (z3q f146 f148 f147_l0):=fun v=>by kernel_rfl
def q7c:q4h:=z3q yl q7d j4i
theorem k4t:zj 1 (qd (code Tryz.f147) [1,1,1]) (y5h q7c) :=
 frd y3i (And.intro k4u trivial) (k2p yl q7d j4i)
def b2u (f147_c0:q4h):Ann:=(.seq .nil (.seq .nil (.cut .nil (y5h f147_c0))))
def x8k (f146:vq) (f148:j3z) (f147_c0:q4h):j3y:=fun (x0,x1,x2,x3,_) =>
 (f146 (0,x0,x1,x2,x3,())).bind fun v =>
 bif v.1 != 0 then
 some ([],false,v.2.1,v.2.2.1,v.2.2.2.1,v.2.2.2.2.1,())
 else
 bif decide (0≤v.2.2.1)&&decide (v.2.2.1<(↑(List.length v.2.1):Int)) then
 (f147_c0
 ((List.getD v.2.1 (Int.toNat v.2.2.1)
 (0,([],0))).2.1,
 v.2.1,v.2.2.1,v.2.2.2.1,v.2.2.2.2.1,())).bind
 fun v =>
 some
 (v.1,v.2.1,v.2.2.1,v.2.2.2.1,v.2.2.2.2.1,
 v.2.2.2.2.2.1,())
 else none
theorem b7r (f146:vq) (f148:j3z) (f147_c0:q4h):ye (v9k f146 f148) 1 Tryz.f147 (b2u f147_c0) q5l w4l (x8k f146 f148 f147_c0):=fun v=>by kernel_rfl
def q7b:j3y:=x8k yl q7d q7c
theorem w5v:FO 147 (w7a q7b) :=
 qo y3i Tryz.func147 (And.intro k4t trivial) (b7r yl q7d q7c)
abbrev q3z:=LqD×Int×qa×qa×Unit→Option (Bool×LqD×Int×qa×qa×Unit)
def y4r (f:q3z):LEnt:=⟨y8q,y9e,f⟩
abbrev x3b:=LqD×Int×qa×qa×Unit→Option (Bool×LqD×Int×qa×qa×Unit)
def g6i (f:x3b):FEnt:=⟨q5l,q5n,f⟩
def w8r (f146:vq) (f147:j3y):=lk [(146,x2i f146),(147,w7a f147)]
theorem v2b:zk Tryz.prog (w8r yl q7b):=(kc y0e (kc w5v kn))
def z3f (f146:vq) (f147:j3y):q3z:=fun (x0,x1,x2,x3,_) =>
 some (true,x0,IntKind.i64.wrap (x1+1),x2,x3,())
theorem k2h (f146:vq) (f147:j3y):AqC (w8r f146 f147) 1 (qd (code Tryz.f110) [1,0,1,0,1]) .nil y8q y9e (z3f f146 f147):=fun v=>by kernel_rfl
def q6t:q3z:=z3f yl q7b
theorem k4d:zj 1 (qd (code Tryz.f110) [1,0,1,0,1]) (y4r q6t) :=
 frc v2b (k2h yl q7b)
def b2k (f110_c0:q3z):Ann:=(.seq .nil (.seq (.seq .nil (.cond (.cut .nil (y4r f110_c0)) .nil)) .nil))
def x8h (f146:vq) (f147:j3y) (f110_c0:q3z):x3b:=fun (x0,x1,x2,x3,_) =>
 (f146 (0,x0,x1,x2,x3,())).bind fun v =>
 bif v.1==1 then
 bif decide (0≤v.2.2.1)&&decide (v.2.2.1<(↑(List.length v.2.1):Int)) then
 (f110_c0
 (v.2.1,v.2.2.1,
 (List.getD v.2.1 (Int.toNat v.2.2.1)
 (0,([],0))).2.1,
 v.2.2.2.2.1,())).bind
 fun v =>
 some (v.1,v.2.1,v.2.2.1,v.2.2.2.1,v.2.2.2.2.1,())
 else none
 else
 (f147 (v.2.1,v.2.2.1,v.2.2.2.1,v.2.2.2.2.1,())).bind fun v =>
 some (v.2.1,v.2.2.1,v.2.2.2.1,v.1,v.2.2.2.2.2.1,())
theorem b7g (f146:vq) (f147:j3y) (f110_c0:q3z):ye (w8r f146 f147) 1 Tryz.f110 (b2k f110_c0) q5l q5n (x8h f146 f147 f110_c0):=fun v=>by kernel_rfl
def x1o:x3b:=x8h yl q7b q6t
theorem f4o:FO 110 (g6i x1o) :=
 qo v2b Tryz.func110 (And.intro k4d trivial) (b7g yl q7b q6t)
abbrev x3c:=LqD×Int×qa×qa×Unit→Option (Bool×LqD×Int×qa×qa×Unit)
def g6j (f:x3c):FEnt:=⟨q5l,q5n,f⟩
def f9r (f148:j3z):=lk [(148,w7b f148)]
def v6g (f148:j3z):x3c:=fun (x0,x1,x2,x3,_) =>
 (f148 ([64],x0,x1,x2,x3,())).bind fun v =>
 some
 (v.1,v.2.1,IntKind.i64.wrap (v.2.2.1+1),v.2.2.2.1,v.2.2.2.2.1,
 ())
theorem b7h (f148:j3z):ye (f9r f148) 1 Tryz.f111 .nil q5l q5n (v6g f148):=fun v=>by kernel_rfl
def x1p:x3c:=v6g q7d
theorem f4p:FO 111 (g6j x1p) :=
 q0 (kc w5w kn) Tryz.func111 (b7h q7d)
abbrev j6c:=qa×Int×Int×qa×Unit→Option (qa×Unit)
def y4v (f:j6c):LEnt:=⟨w1f,w4o,f⟩
abbrev x9b:=qa×Unit→Option (qa×Unit)
def g6r (f:x9b):FEnt:=⟨xh,z4s,f⟩
def kf:yq (qa×Int×Int×qa×Unit) (qa×Unit):=fun (x0,x1,x2,x3,_) =>
 bif decide (x2<x1) then
 bif decide (0≤x2)&&decide (x2<(↑x0.length:Int)) then
 bif (↑(x0.getD x2.toNat 0).toNat:Int)==34 then
 bif decide (x3.length+[92].length≤140737488355328/1) then
 bif decide (0≤x2)&&decide (x2<(↑x0.length:Int)) then
 bif
 decide
 ((x3++[92]).length +
 [UInt8.ofNat (↑(x0.getD x2.toNat 0).toNat:Int).toNat].length ≤
 140737488355328/1) then
 some
 (Sum.inl
 (x0,x1,IntKind.i64.wrap (x2+1),
 x3++[92]++[UInt8.ofNat (↑(x0.getD x2.toNat 0).toNat:Int).toNat],
 ()))
 else none
 else none
 else none
 else
 bif decide (0≤x2)&&decide (x2<(↑x0.length:Int)) then
 bif (↑(x0.getD x2.toNat 0).toNat:Int)==92 then
 bif decide (x3.length+[92].length≤140737488355328/1) then
 bif decide (0≤x2)&&decide (x2<(↑x0.length:Int)) then
 bif
 decide
 ((x3++[92]).length +
 [UInt8.ofNat (↑(x0.getD x2.toNat 0).toNat:Int).toNat].length ≤
 140737488355328/1) then
 some
 (Sum.inl
 (x0,x1,IntKind.i64.wrap (x2+1),
 x3++[92]++[UInt8.ofNat (↑(x0.getD x2.toNat 0).toNat:Int).toNat],
 ()))
 else none
 else none
 else none
 else
 bif decide (0≤x2)&&decide (x2<(↑x0.length:Int)) then
 bif
 decide
 (x3.length+[UInt8.ofNat (↑(x0.getD x2.toNat 0).toNat:Int).toNat].length ≤
 140737488355328/1) then
 some
 (Sum.inl
 (x0,x1,IntKind.i64.wrap (x2+1),x3++[UInt8.ofNat (↑(x0.getD x2.toNat 0).toNat:Int).toNat],
 ()))
 else none
 else none
 else none
 else none
 else some (Sum.inr (x3,()))
def q6v:j6c:=qc (kf) jd
theorem k4h:jg 0 (qd (code Tryz.f126) [1,1,0,1,0,0]) (y4v q6v):=zl0 w1f w4o vf kf kn
def b2n (f126_l0:j6c):Ann:=(.seq .nil (.seq .nil (.seq (.seq .nil (.blk (.loop (y4v f126_l0)))) .nil)))
def v6j (f126_l0:j6c):x9b:=fun (x0,_) =>
 (f126_l0 (x0,(↑x0.length:Int),0,[],())).bind fun v=>some (v.1,())
def x6j:x9b:=v6j q6v
theorem f4x:FO 126 (g6r x6j):=q5v xh z4s vf b2n v6j q6v kn Tryz.func126 (And.intro k4h trivial)
abbrev T89:=Int×qa×Int×Unit→Option (qa×Unit)
def E89 (f:T89):FEnt:=⟨w1g,z4s,f⟩
def K89 (f126:x9b):=lk [(126,g6r f126)]
def F89 (f126:x9b):T89:=fun (x0,x1,x2,_) =>
 bif x0==1 then
 (f126 (x1,())).bind fun v =>
 bif decide ([34].length+List.length v.1≤9223372036854775807) then
 bif decide (([34]++v.1).length+[34].length≤9223372036854775807) then
 some ([34]++v.1++[34],())
 else none
 else none
 else
 bif x0==3 then
 bif decide ([40].length+x1.length≤9223372036854775807) then
 bif decide (([40]++x1).length+[41].length≤9223372036854775807) then
 some ([40]++x1++[41],())
 else none
 else none
 else
 bif x0==5 then
 bif decide ([91].length+x1.length≤9223372036854775807) then
 bif decide (([91]++x1).length+[93].length≤9223372036854775807) then
 some ([91]++x1++[93],())
 else none
 else none
 else some (x1,())
def C89:T89:=F89 x6j
theorem f8w:FO 89 (E89 C89):=ww w1g z4s K89 F89 x6j (kc f4x kn) Tryz.func89
abbrev q4a:=LqD×Int×qa×qa×Unit→Option (Bool×LqD×Int×qa×qa×Unit)
def y4s (f:q4a):LEnt:=⟨y8q,y9e,f⟩
abbrev x3d:=LqD×Int×qa×qa×Unit→Option (Bool×LqD×Int×qa×qa×Unit)
def g6k (f:x3d):FEnt:=⟨q5l,q5n,f⟩
def w8s (f146:vq) (f147:j3y) (f89:T89):=lk [(146,x2i f146),(147,w7a f147),(89,E89 f89)]
theorem v2c:zk Tryz.prog (w8s yl q7b C89):=(kc y0e (kc w5v (kc f8w kn)))
def z3g (f146:vq) (f147:j3y) (f89:T89):q4a:=fun (x0,x1,x2,x3,_) =>
 some (true,x0,IntKind.i64.wrap (x1+1),x2,x3,())
def q6u:q4a:=z3g yl q7b C89
theorem k4e:zj 1 (qd (code Tryz.f112) [1,0,1,0,1]) (y4s q6u):=zc3 y8q y9e w8s z3g yl q7b C89 v2c
def b2l (f112_c0:q4a):Ann:=(.seq .nil (.seq (.seq .nil (.cond (.cut .nil (y4s f112_c0)) .nil)) .nil))
def x8i (f146:vq) (f147:j3y) (f89:T89) (f112_c0:q4a):x3d:=fun (x0,x1,x2,x3,_) =>
 (f146 (0,x0,x1,x2,x3,())).bind fun v =>
 bif v.1==5 then
 bif decide (0≤v.2.2.1)&&decide (v.2.2.1<(↑(List.length v.2.1):Int)) then
 (f89
 ((List.getD v.2.1 (Int.toNat v.2.2.1)
 (0,([],0))).1,
 (List.getD v.2.1 (Int.toNat v.2.2.1)
 (0,([],0))).2.1,
 (List.getD v.2.1 (Int.toNat v.2.2.1)
 (0,([],0))).2.2,
 ())).bind
 fun v1 =>
 (f112_c0 (v.2.1,v.2.2.1,v.2.2.2.1,v1.1,())).bind fun v =>
 some (v.1,v.2.1,v.2.2.1,v.2.2.2.1,v.2.2.2.2.1,())
 else none
 else
 (f147 (v.2.1,v.2.2.1,v.2.2.2.1,v.2.2.2.2.1,())).bind fun v =>
 some (v.2.1,v.2.2.1,v.2.2.2.1,v.2.2.2.2.1,v.1,())
theorem b7i (f146:vq) (f147:j3y) (f89:T89) (f112_c0:q4a):ye (w8s f146 f147 f89) 1 Tryz.f112 (b2l f112_c0) q5l q5n (x8i f146 f147 f89 f112_c0):=fun v=>by kernel_rfl
def x1q:x3d:=x8i yl q7b C89 q6u
theorem f4q:FO 112 (g6k x1q) :=
 qo v2c Tryz.func112 (And.intro k4e trivial) (b7i yl q7b C89 q6u)
abbrev T71:=LqD×Unit→Option (qa×qa×Int×Bool×Unit)
def E71 (f:T71):FEnt:=⟨w1h,w4p,f⟩
def K71 (f109:x3a) (f110:x3b) (f111:x3c) (f112:x3d):=lk [(109,g6h f109),(110,g6i f110),(111,g6j f111),(112,g6k f112)]
def N71:Ann:=(.seq .nil (.seq .nil (.seq (.seq .nil (.blk (.unroll 9 .nil))) .nil)))
def F71 (f109:x3a) (f110:x3b) (f111:x3c) (f112:x3d):T71:=fun (x0,_) =>
 (f109 (x0,0,[],[],())).bind fun v =>
 bif !v.1 then some ([],[],0,false,())
 else
 (f110 (v.2.1,v.2.2.1,v.2.2.2.1,v.2.2.2.2.1,())).bind fun v =>
 bif !v.1 then some ([],[],0,false,())
 else
 (f109 (v.2.1,v.2.2.1,v.2.2.2.1,v.2.2.2.2.1,())).bind fun v =>
 bif !v.1 then some ([],[],0,false,())
 else
 (f111 (v.2.1,v.2.2.1,v.2.2.2.1,v.2.2.2.2.1,())).bind fun v =>
 bif !v.1 then some ([],[],0,false,())
 else
 (f109 (v.2.1,v.2.2.1,v.2.2.2.1,v.2.2.2.2.1,())).bind fun v =>
 bif !v.1 then some ([],[],0,false,())
 else
 (f112 (v.2.1,v.2.2.1,v.2.2.2.1,v.2.2.2.2.1,())).bind
 fun v =>
 bif !v.1 then some ([],[],0,false,())
 else
 (f109 (v.2.1,v.2.2.1,v.2.2.2.1,v.2.2.2.2.1,())).bind
 fun v =>
 bif !v.1 then some ([],[],0,false,())
 else some (v.2.2.2.1,v.2.2.2.2.1,v.2.2.1,true,())
theorem h71 (f109:x3a) (f110:x3b) (f111:x3c) (f112:x3d):ye (K71 f109 f110 f111 f112) 0 Tryz.f71 N71 w1h w4p (F71 f109 f110 f111 f112):=fun v=>by kernel_rfl
def C71:T71:=F71 x1n x1o x1p x1q
theorem f8u:FO 71 (E71 C71) :=
 qo (kc f4n (kc f4o (kc f4p (kc f4q kn)))) Tryz.func71 trivial (h71 x1n x1o x1p x1q)
abbrev T85:=Int×Unit→Option (Bool×Unit)
def E85 (f:T85):FEnt:=⟨q5i,qz,f⟩
def F85:T85:=fun (x0,_) =>
 bif x0 != 9 then bif decide (x0<32) then some (true,()) else some (x0==127,())
 else some (false,())
def C85:T85:=F85
theorem b9y:FO 85 (E85 C85):=zq0 q5i qz vf F85 kn Tryz.func85
abbrev q4k:=Bool×(qa×Int)×Unit→Option ((Int×Unit)⊕Unit)
def z0l (f:q4k):LEnt:=⟨w1j,y8y,f⟩
abbrev j7s:=qa×Bool×Unit→Option (Int×Unit)
def x7k (f:j7s):FEnt:=⟨w1i,jf,f⟩
def y2a (f85:T85):=lk [(85,E85 f85)]
theorem z9m:zk Tryz.prog (y2a C85):=(kc b9y kn)
def q3r (f85:T85):yq (Bool×(qa×Int)×Unit) ((Int×Unit)⊕Unit):=fun (x0,x1,_) =>
 bif decide (Int.toNat x1.2<List.length x1.1) then
 (f85 ((↑(kr x1.1 (Int.toNat x1.2)).1:Int),())).bind fun v =>
 bif v.1==x0 then some (Sum.inr (Sum.inl ((↑(Int.toNat x1.2):Int),())))
 else some (Sum.inl (x0,(x1.1,(↑(Int.toNat x1.2+(kr x1.1 (Int.toNat x1.2)).2):Int)),()))
 else some (Sum.inr (Sum.inr ()))
def j1p:q4k:=qc (q3r C85) jd
theorem x5p:jg 0 (qd (code Tryz.f156) [1,0,1,0,0]) (z0l j1p):=zl1 w1j y8y y2a q3r C85 z9m
def g0b (f156v1_l0:q4k):Ann:=(.seq .nil (.seq (.seq .nil (.blk (.loop (z0l f156v1_l0)))) .nil))
def z3s (f85:T85) (f156v1_l0:q4k):j7s:=fun (x0,x1,_) =>
 (f156v1_l0 (x1,(x0,(↑0:Int)),())).bind fun v =>
 Sum.elim (fun v=>some (v.1,())) (fun v=>some (-1,())) v
def q5x:j7s:=z3s C85 j1p
theorem k7v:FO 156 (x7k q5x):=wn w1i jf y2a g0b z3s C85 j1p z9m Tryz.func156 (And.intro x5p trivial)
abbrev j7r:=qa×Unit→Option (Int×Unit)
def x7d (f:j7r):FEnt:=⟨y8r,jf,f⟩
def w8t (f156v1:j7s):=lk [(156,x7k f156v1)]
def z3h (f156v1:j7s):j7r:=fun (x0,_) =>
 (f156v1 (x0,true,())).bind fun v=>some (v.1,())
def j6w:j7r:=z3h q5x
theorem k7u:FO 123 (x7d j6w):=ww y8r jf w8t z3h q5x (kc k7v kn) Tryz.func123
abbrev z0v:=qa×Unit→Option (Bool×Unit)
def k8x (f:z0v):FEnt:=⟨y8r,qz,f⟩
def f0p (f123v1:j7r):=lk [(123,x7d f123v1)]
def y8b (f123v1:j7r):z0v:=fun (x0,_) =>
 (f123v1 (x0,())).bind fun v=>some (decide (v.1≥0),())
def j7n:z0v:=y8b j6w
theorem g4q:FO 84 (k8x j7n):=ww y8r qz f0p y8b j6w (kc k7u kn) Tryz.func84
abbrev T86:=qa×Unit→Option (Bool×Unit)
def E86 (f:T86):FEnt:=⟨xh,qz,f⟩
def K86 (f96:T96):=lk [(96,E96 f96)]
def F86 (f96:T96):T86:=fun (x0,_) =>
 (f96 (x0,[91],())).bind fun v=>some (v.1,())
def C86:T86:=F86 C96
theorem g4r:FO 86 (E86 C86):=ww xh qz K86 F86 C96 (kc f8x kn) Tryz.func86
abbrev T87:=qp×qu×qv×qa×Unit→Option (qa×Int×Unit)
def E87 (f:T87):FEnt:=⟨xj,q2n,f⟩
def K87 (f124:k1g):=lk [(124,g6p f124)]
def F87 (f124:k1g):T87:=fun (x0,x1,x2,x3,_) =>
 (f124 (x0,x1,x2,x3,())).bind fun v=>some (v.1,v.2.2.1,())
def C87:T87:=F87 z2e
theorem g4s:FO 87 (E87 C87):=ww xj q2n K87 F87 z2e (kc f4v kn) Tryz.func87
abbrev T44:=qp×qu×qv×qa×qa×Unit→Option (Int×Unit)
def E44 (f:T44):FEnt:=⟨z0s,jf,f⟩
def K44 (f67:T67) (f83:T83) (f84v1:z0v) (f86:T86) (f87:T87):=lk [(67,E67 f67),(83,E83 f83),(84,k8x f84v1),(86,E86 f86),(87,E87 f87)]
def F44 (f67:T67) (f83:T83) (f84v1:z0v) (f86:T86) (f87:T87):T44:=fun (x0,x1,x2,x3,x4,_) =>
 (f83 (x3,())).bind fun v =>
 bif x3==[] then some (13,())
 else
 bif decide ((↑x3.length:Int)>64) then some (5,())
 else
 bif decide (v.2.1≥0) then some (7,())
 else
 (f84v1 (x3,())).bind fun v =>
 bif v.1 then some (8,())
 else
 (f86 (x4,())).bind fun v =>
 bif v.1 then
 (f67 (x4,())).bind fun v =>
 bif v.2.2.1 != 0 then some (4,())
 else
 bif (↑(List.length v.1):Int) != 1 then some (4,())
 else
 bif decide (0<(↑(List.length v.1):Int)) then
 bif
 (List.getD v.1 0
 (0,([],0))).1 !=
 5 then
 some (4,())
 else some (0,())
 else none
 else (f87 (x0,x1,x2,x4,())).bind fun v=>some (v.2.1,())
theorem h44 (f67:T67) (f83:T83) (f84v1:z0v) (f86:T86) (f87:T87):ye (K44 f67 f83 f84v1 f86 f87) 0 Tryz.f44 .nil z0s jf (F44 f67 f83 f84v1 f86 f87):=fun v=>by kernel_rfl
def C44:T44:=F44 C67 C83 j7n C86 C87
theorem k8c:FO 44 (E44 C44) :=
 q0 (kc f8t (kc y0g (kc g4q (kc g4r (kc g4s kn))))) Tryz.func44 (h44 C67 C83 j7n C86 C87)
abbrev j6j:=Int×(qa×Int)×Unit→Option (Int×Unit)
def y6d (f:j6j):LEnt:=⟨w1k,w4q,f⟩
abbrev j4c:=qa×Unit→Option (Int×Unit)
def w7o (f:j4c):FEnt:=⟨xh,jf,f⟩
def y7z:yq (Int×(qa×Int)×Unit) (Int×Unit):=fun (x0,x1,_) =>
 bif decide (Int.toNat x1.2<List.length x1.1) then
 some
 (Sum.inl
 (IntKind.i64.wrap (x0+1),(x1.1,(↑(Int.toNat x1.2+(kr x1.1 (Int.toNat x1.2)).2):Int)),
 ()))
 else some (Sum.inr (x0,()))
def z2t:j6j:=qc (y7z) jd
theorem k5p:jg 0 (qd (code Tryz.f227) [1,0,1,0,0]) (y6d z2t):=zl0 w1k w4q vf y7z kn
def b3i (f227_l0:j6j):Ann:=(.seq .nil (.seq (.seq .nil (.blk (.loop (y6d f227_l0)))) .nil))
def f0k (f227_l0:j6j):j4c:=fun (x0,_) =>
 (f227_l0 (0,(x0,(↑0:Int)),())).bind fun v=>some (v.1,())
def j1s:j4c:=f0k z2t
theorem w6h:FO 227 (w7o j1s):=q5v xh jf vf b3i f0k z2t kn Tryz.func227 (And.intro k5p trivial)
abbrev x4m:=qa×Unit→Option (Int×Int×Unit)
def g8z (f:x4m):FEnt:=⟨xh,y9f,f⟩
def f0o:x4m:=fun (x0,_) =>
 bif decide ((↑x0.length:Int)<1) then some (65533,0,())
 else bif decide (0<(↑x0.length:Int)) then none else none
def x2c:x4m:=f0o
theorem f7k:FO 273 (g8z x2c):=zq0 xh y9f vf f0o kn Tryz.func273
abbrev q9h:=qa×Bool×Unit→Option ((Int×Int×Unit)⊕(Int×Int×Unit))
def y6e (f:q9h):LEnt:=⟨w1l,w4r,f⟩
abbrev z8f:=qa×Unit→Option (Int×Int×Unit)
def g7u (f:z8f):FEnt:=⟨xh,y9f,f⟩
def w9c (f273:x4m):=lk [(273,g8z f273)]
theorem v2l:zk Tryz.prog (w9c x2c):=(kc f7k kn)
def y8a (f273:x4m):q9h:=fun (x0,x1,_) =>
 bif x1 then
 bif decide (0<(↑x0.length:Int)) then
 some (Sum.inl (IntKind.i32.wrap (↑(x0.getD 0 0).toNat:Int),1,()))
 else none
 else (f273 (x0,())).bind fun v=>some (Sum.inr (v.1,v.2.1,()))
def z2u:q9h:=y8a x2c
theorem k5q:zj 0 (qd (code Tryz.f228) [1,0,1]) (y6e z2u):=zc1 w1l w4r w9c y8a x2c v2l
def b3j (f228_c0:q9h):Ann:=(.seq .nil (.seq (.cut .nil (y6e f228_c0)) .nil))
def f0l (f273:x4m) (f228_c0:q9h):z8f:=fun (x0,_) =>
 bif !x0==[] then
 bif decide (0<(↑x0.length:Int)) then
 (f228_c0 (x0,decide ((↑(x0.getD 0 0).toNat:Int)<128),())).bind fun v =>
 Sum.elim (fun v=>some (v.1,v.2.1,())) (fun v=>some (v.1,v.2.1,()))
 v
 else none
 else
 (f228_c0 (x0,false,())).bind fun v =>
 Sum.elim (fun v=>some (v.1,v.2.1,())) (fun v=>some (v.1,v.2.1,()))
 v
def z7k:z8f:=f0l x2c z2u
theorem f6e:FO 228 (g7u z7k):=wn xh y9f w9c b3j f0l x2c z2u v2l Tryz.func228 (And.intro k5q trivial)
abbrev q9a:=qa×Int×Int×List (qa)×Unit→Option (qa×Int×List (qa)×Unit)
def y5t (f:q9a):LEnt:=⟨w1m,w4s,f⟩
abbrev q8z:=qa×Int×Unit→Option (List (qa)×Unit)
def y5s (f:q8z):LEnt:=⟨w1n,w4t,f⟩
abbrev z4x:=qa×Int×Unit→Option (List (qa)×Unit)
def g7j (f:z4x):FEnt:=⟨y8l,z0u,f⟩
def v9n (f227:j4c) (f228:z8f):=lk [(227,w7o f227),(228,g7u f228)]
theorem y3l:zk Tryz.prog (v9n j1s z7k):=(kc w6h (kc f6e kn))
def y7x (f227:j4c) (f228:z8f):yq (qa×Int×Int×List (qa)×Unit) (qa×Int×List (qa)×Unit):=fun (x0,x1,x2,x3,_) =>
 bif decide (x2<IntKind.i64.wrap (x1 - 1)) then
 (f228 (x0,())).bind fun v =>
 bif decide (0≤v.2.1)&&decide (v.2.1≤(↑x0.length:Int)) then
 bif decide (0≤x2)&&decide (x2<(↑x3.length:Int)) then
 bif decide (0≤v.2.1)&&decide (v.2.1≤(↑x0.length:Int)) then
 some
 (Sum.inl
 (List.drop (Int.toNat v.2.1) x0,x1,IntKind.i64.wrap (x2+1),
 x3.set x2.toNat (List.take (Int.toNat v.2.1) x0),()))
 else none
 else none
 else none
 else some (Sum.inr (x0,x1,x3,()))
def z2m:q9a:=qc (y7x j1s z7k) jd
theorem k5f:jg 0 (qd (code Tryz.f193) [1,1,1,1,0,1,0,0]) (y5t z2m):=zl2 w1m w4s v9n y7x j1s z7k y3l
def k0u (f193_l0:q9a):Ann:=(.seq .nil (.seq (.seq .nil (.blk (.loop (y5t f193_l0)))) .nil))
def y7w (f227:j4c) (f228:z8f) (f193_l0:q9a):q8z:=fun (x0,x1,_) =>
 bif
 decide (0≤x1) &&
 (decide (x1=x1)&&(decide ((↑16:Int)*x1≤281474976710656)&&decide (x1≤140737488355328))) then
 (f193_l0 (x0,x1,0,List.replicate x1.toNat [],())).bind fun v =>
 bif decide (v.2.1>0) then
 bif
 decide (0≤IntKind.i64.wrap (v.2.1 - 1)) &&
 decide (IntKind.i64.wrap (v.2.1 - 1)<(↑(List.length v.2.2.1):Int)) then
 some (List.set v.2.2.1 (IntKind.i64.wrap (v.2.1 - 1)).toNat v.1,())
 else none
 else some (v.2.2.1,())
 else none
theorem k2u (f227:j4c) (f228:z8f) (f193_l0:q9a):AqC (v9n f227 f228) 0 (qd (code Tryz.f193) [1,1,1]) (k0u f193_l0) w1n w4t (y7w f227 f228 f193_l0):=fun v=>by kernel_rfl
def z2l:q8z:=y7w j1s z7k z2m
theorem k5e:zj 0 (qd (code Tryz.f193) [1,1,1]) (y5s z2l) :=
 frd y3l (And.intro k5f trivial) (k2u j1s z7k z2m)
def b3c (f193_c0:q8z):Ann:=(.seq .nil (.seq .nil (.cut .nil (y5s f193_c0))))
def f0i (f227:j4c) (f228:z8f) (f193_c0:q8z):z4x:=fun (x0,x1,_) =>
 (f227 (x0,())).bind fun v =>
 bif decide (x1<0) then (f193_c0 (x0,v.1,())).bind fun v=>some (v.1,())
 else
 bif decide (x1>v.1) then (f193_c0 (x0,v.1,())).bind fun v=>some (v.1,())
 else (f193_c0 (x0,x1,())).bind fun v=>some (v.1,())
def z7i:z4x:=f0i j1s z7k z2l
theorem f5t:FO 193 (g7j z7i):=j3n y8l z0u v9n b3c f0i j1s z7k z2l y3l Tryz.func193 (And.intro k5e trivial)
abbrev j2f:=qa×qa×Unit→Option (Int×Unit)
def w7j (f:j2f):FEnt:=⟨zx,jf,f⟩
def b0r (f197:y2h):=lk [(197,w7k f197)]
def v7b (f197:y2h):j2f:=fun (x0,x1,_) =>
 (f197 (x0,x1,())).bind fun v=>some (v.1,())
def q2e:j2f:=v7b z2p
theorem w6d:FO 195 (w7j q2e):=ww zx jf b0r v7b z2p (kc w6e kn) Tryz.func195
abbrev j6h:=qa×qa×Int×Unit→Option (Int×Unit)
def y5u (f:j6h):LEnt:=⟨w1o,w4u,f⟩
abbrev z4y:=qa×qa×Unit→Option (Int×Unit)
def g7k (f:z4y):FEnt:=⟨zx,jf,f⟩
def w8z (f195:j2f) (f227:j4c) (f229:x9i):=lk [(195,w7j f195),(227,w7o f227),(229,g7v f229)]
theorem v2i:zk Tryz.prog (w8z q2e j1s x1x):=(kc w6d (kc w6h (kc f6f kn)))
def y7y (f195:j2f) (f227:j4c) (f229:x9i):yq (qa×qa×Int×Unit) (Int×Unit):=fun (x0,x1,x2,_) =>
 (f195 (x0,x1,())).bind fun v =>
 bif v.1 == -1 then some (Sum.inr (x2,()))
 else
 bif
 decide (0≤IntKind.i64.wrap (v.1+(↑x1.length:Int))) &&
 decide (IntKind.i64.wrap (v.1+(↑x1.length:Int))≤(↑x0.length:Int)) then
 some
 (Sum.inl
 (List.drop (IntKind.i64.wrap (v.1+(↑x1.length:Int))).toNat x0,x1,IntKind.i64.wrap (x2+1),
 ()))
 else none
theorem k2v (f195:j2f) (f227:j4c) (f229:x9i):AqL (w8z f195 f227 f229) 0 (qd (code Tryz.f194) [1,1,1,1,0,0]) .nil w1o w4u (y7y f195 f227 f229):=fun v=>by kernel_rfl
def z2o:j6h:=qc (y7y q2e j1s x1x) jd
theorem k5g:jg 0 (qd (code Tryz.f194) [1,1,1,1,0,0]) (y5u z2o) :=
 frl v2i (k2v q2e j1s x1x)
def b3d (f194_l0:j6h):Ann:=(.seq .nil (.seq .nil (.seq .nil (.seq .nil (.blk (.loop (y5u f194_l0)))))))
def f0j (f195:j2f) (f227:j4c) (f229:x9i) (f194_l0:j6h):z4y:=fun (x0,x1,_) =>
 bif (↑x1.length:Int)==0 then (f227 (x0,())).bind fun v=>some (IntKind.i64.wrap (v.1+1),())
 else
 bif (↑x1.length:Int)==1 then
 bif decide (0<(↑x1.length:Int)) then
 (f229 (x0,(↑(x1.getD 0 0).toNat:Int),())).bind fun v=>some (v.1,())
 else none
 else (f194_l0 (x0,x1,0,())).bind fun v=>some (v.1,())
def z2n:z4y:=f0j q2e j1s x1x z2o
theorem f5u:FO 194 (g7k z2n):=y1f zx jf w8z b3d f0j q2e j1s x1x z2o v2i Tryz.func194 (And.intro k5g trivial)
abbrev q8x:=qa×qa×Int×Int×Int×List (qa)×Unit→Option (qa×Int×List (qa)×Unit)
def y5o (f:q8x):LEnt:=⟨w1q,w4v,f⟩
abbrev q8w:=qa×qa×Int×Int×Unit→Option (List (qa)×Unit)
def y5n (f:q8w):LEnt:=⟨w1r,w4w,f⟩
abbrev x9d:=qa×qa×Int×Int×Unit→Option (List (qa)×Unit)
def g7a (f:x9d):FEnt:=⟨w1p,z0u,f⟩
def v9m (f193:z4x) (f194:z4y) (f195:j2f):=lk [(193,g7j f193),(194,g7k f194),(195,w7j f195)]
theorem y3k:zk Tryz.prog (v9m z7i z2n q2e):=(kc f5t (kc f5u (kc w6d kn)))
def j5d (f193:z4x) (f194:z4y) (f195:j2f):yq (qa×qa×Int×Int×Int×List (qa)×Unit) (qa×Int×List (qa)×Unit):=fun (x0,x1,x2,x3,x4,x5,_) =>
 bif decide (x4<x3) then
 (f195 (x0,x1,())).bind fun v =>
 bif decide (v.1<0) then some (Sum.inr (x0,x4,x5,()))
 else
 bif
 decide (0≤IntKind.i64.wrap (v.1+x2)) &&
 decide (IntKind.i64.wrap (v.1+x2)≤(↑x0.length:Int)) then
 bif decide (0≤x4)&&decide (x4<(↑x5.length:Int)) then
 bif
 decide (0≤IntKind.i64.wrap (v.1+(↑x1.length:Int))) &&
 decide (IntKind.i64.wrap (v.1+(↑x1.length:Int))≤(↑x0.length:Int)) then
 some
 (Sum.inl
 (List.drop (IntKind.i64.wrap (v.1+(↑x1.length:Int))).toNat x0,x1,x2,x3,
 IntKind.i64.wrap (x4+1),x5.set x4.toNat (List.take (IntKind.i64.wrap (v.1+x2)).toNat x0),
 ()))
 else none
 else none
 else none
 else some (Sum.inr (x0,x4,x5,()))
theorem k2t (f193:z4x) (f194:z4y) (f195:j2f):AqL (v9m f193 f194 f195) 0 (qd (code Tryz.f161) [1,1,1,1,1,1,1,1,0,0,0]) .nil w1q w4v (j5d f193 f194 f195):=fun v=>by kernel_rfl
def j4k:q8x:=qc (j5d z7i z2n q2e) jd
theorem k5a:jg 0 (qd (code Tryz.f161) [1,1,1,1,1,1,1,1,0,0,0]) (y5o j4k) :=
 frl y3k (k2t z7i z2n q2e)
def k0t (f161_l0:q8x):Ann:=(.seq .nil (.seq .nil (.seq .nil (.seq .nil (.seq (.blk (.loop (y5o f161_l0))) .nil)))))
def j5c (f193:z4x) (f194:z4y) (f195:j2f) (f161_l0:q8x):q8w:=fun (x0,x1,x2,x3,_) =>
 bif
 decide
 (0 ≤
 if IntKind.i64.wrap ((↑x0.length:Int)+1)<x3 then IntKind.i64.wrap ((↑x0.length:Int)+1) else x3) &&
 (decide
 ((if IntKind.i64.wrap ((↑x0.length:Int)+1)<x3 then IntKind.i64.wrap ((↑x0.length:Int)+1) else x3) =
 if IntKind.i64.wrap ((↑x0.length:Int)+1)<x3 then IntKind.i64.wrap ((↑x0.length:Int)+1) else x3) &&
 (decide
 (((↑16:Int) *
 if IntKind.i64.wrap ((↑x0.length:Int)+1)<x3 then IntKind.i64.wrap ((↑x0.length:Int)+1)
 else x3) ≤
 281474976710656) &&
 decide
 ((if IntKind.i64.wrap ((↑x0.length:Int)+1)<x3 then IntKind.i64.wrap ((↑x0.length:Int)+1)
 else x3) ≤
 140737488355328))) then
 (f161_l0
 (x0,x1,x2,
 IntKind.i64.wrap
 ((if IntKind.i64.wrap ((↑x0.length:Int)+1)<x3 then IntKind.i64.wrap ((↑x0.length:Int)+1)
 else x3) -
 1),
 0,
 List.replicate
 (if IntKind.i64.wrap ((↑x0.length:Int)+1)<x3 then IntKind.i64.wrap ((↑x0.length:Int)+1)
 else x3).toNat
 [],
 ())).bind
 fun v =>
 bif decide (0≤v.2.1)&&decide (v.2.1<(↑(List.length v.2.2.1):Int)) then
 bif
 decide (0≤IntKind.i64.wrap (v.2.1+1)) &&
 decide
 (IntKind.i64.wrap (v.2.1+1) ≤
 (↑(List.set v.2.2.1 (Int.toNat v.2.1) v.1).length:Int)) then
 some
 (List.take (IntKind.i64.wrap (v.2.1+1)).toNat
 (List.set v.2.2.1 (Int.toNat v.2.1) v.1),
 ())
 else none
 else none
 else none
theorem k2s (f193:z4x) (f194:z4y) (f195:j2f) (f161_l0:q8x):AqC (v9m f193 f194 f195) 0 (qd (code Tryz.f161) [1,1,1,1]) (k0t f161_l0) w1r w4w (j5c f193 f194 f195 f161_l0):=fun v=>by kernel_rfl
def q7f:q8w:=j5c z7i z2n q2e j4k
theorem k4z:zj 0 (qd (code Tryz.f161) [1,1,1,1]) (y5n q7f) :=
 frd y3k (And.intro k5a trivial) (k2s z7i z2n q2e j4k)
def b2y (f161_c0:q8w):Ann:=(.seq .nil (.seq .nil (.seq .nil (.cut .nil (y5n f161_c0)))))
def v6t (f193:z4x) (f194:z4y) (f195:j2f) (f161_c0:q8w):x9d:=fun (x0,x1,x2,x3,_) =>
 bif x3==0 then some ([],())
 else
 bif x1==[] then (f193 (x0,x3,())).bind fun v=>some (v.1,())
 else
 bif decide (x3<0) then
 (f194 (x0,x1,())).bind fun v =>
 (f161_c0 (x0,x1,x2,IntKind.i64.wrap (v.1+1),())).bind fun v=>some (v.1,())
 else (f161_c0 (x0,x1,x2,x3,())).bind fun v=>some (v.1,())
def y1k:x9d:=v6t z7i z2n q2e q7f
theorem f5j:FO 161 (g7a y1k):=y1f w1p z0u v9m b2y v6t z7i z2n q2e q7f y3k Tryz.func161 (And.intro k4z trivial)
abbrev x3f:=qa×qa×Unit→Option (List (qa)×Unit)
def g6q (f:x3f):FEnt:=⟨zx,z0u,f⟩
def f9w (f161:x9d):=lk [(161,g7a f161)]
def v6i (f161:x9d):x3f:=fun (x0,x1,_) =>
 (f161 (x0,x1,0,-1,())).bind fun v=>some (v.1,())
def z6z:x3f:=v6i y1k
theorem f4w:FO 125 (g6q z6z):=ww zx z0u f9w v6i y1k (kc f5j kn) Tryz.func125
abbrev z5i:=qa×Int×Int×Unit→Option ((qa×Unit)⊕(Bool×Unit))
def x7w (f:z5i):LEnt:=⟨w1s,w4x,f⟩
abbrev T47:=qa×Unit→Option (Bool×Unit)
def E47 (f:T47):FEnt:=⟨xh,qz,f⟩
def K47 (f90:T90):=lk [(90,E90 f90)]
theorem w5m:zk Tryz.prog (K47 C90):=(kc g4t kn)
def z4q (f90:T90):yq (qa×Int×Int×Unit) ((qa×Unit)⊕(Bool×Unit)):=fun (x0,x1,x2,_) =>
 bif decide (x2<x1) then
 bif decide (0≤x2)&&decide (x2<(↑x0.length:Int)) then
 (f90 ((↑(x0.getD x2.toNat 0).toNat:Int),())).bind fun v =>
 bif !v.1 then some (Sum.inr (Sum.inr (false,())))
 else some (Sum.inl (x0,x1,IntKind.i64.wrap (x2+1),()))
 else none
 else some (Sum.inr (Sum.inl (x0,())))
def y1s:z5i:=qc (z4q C90) jd
theorem g3y:jg 0 (qd (code Tryz.f47) [1,0,1,0,0]) (x7w y1s):=zl1 w1s w4x K47 z4q C90 w5m
def N47 (f47_l0:z5i):Ann:=(.seq .nil (.seq (.seq .nil (.blk (.loop (x7w f47_l0)))) .nil))
def F47 (f90:T90) (f47_l0:z5i):T47:=fun (x0,_) =>
 (f47_l0 (x0,(↑x0.length:Int),0,())).bind fun v =>
 Sum.elim (fun v=>some (bif v.1==[] then false else true,()))
 (fun v=>some (v.1,())) v
def C47:T47:=F47 C90 y1s
theorem b9o:FO 47 (E47 C47):=wn xh qz K47 N47 F47 C90 y1s w5m Tryz.func47 (And.intro g3y trivial)
abbrev z5l:=List (qa)×Int×Int×Unit→Option (Unit⊕(Bool×Unit))
def x8e (f:z5l):LEnt:=⟨w1t,w4y,f⟩
abbrev T88:=qa×Unit→Option (Bool×Unit)
def E88 (f:T88):FEnt:=⟨xh,qz,f⟩
def K88 (f125:x3f) (f47:T47):=lk [(125,g6q f125),(47,E47 f47)]
theorem w5r:zk Tryz.prog (K88 z6z C47):=(kc f4w (kc b9o kn))
def z4r (f125:x3f) (f47:T47):yq (List (qa)×Int×Int×Unit) (Unit⊕(Bool×Unit)):=fun (x0,x1,x2,_) =>
 bif decide (x2<x1) then
 bif decide (0≤x2)&&decide (x2<(↑x0.length:Int)) then
 (f47 (x0.getD x2.toNat [],())).bind fun v =>
 bif !v.1 then some (Sum.inr (Sum.inr (false,())))
 else some (Sum.inl (x0,x1,IntKind.i64.wrap (x2+1),()))
 else none
 else some (Sum.inr (Sum.inl ()))
def y1u:z5l:=qc (z4r z6z C47) jd
theorem g4g:jg 0 (qd (code Tryz.f88) [1,0,1,0,0]) (x8e y1u):=zl2 w1t w4y K88 z4r z6z C47 w5r
def N88 (f88_l0:z5l):Ann:=(.seq .nil (.seq (.seq .nil (.blk (.loop (x8e f88_l0)))) .nil))
def F88 (f125:x3f) (f47:T47) (f88_l0:z5l):T88:=fun (x0,_) =>
 (f125 (x0,[46],())).bind fun v =>
 (f88_l0 (v.1,(↑(List.length v.1):Int),0,())).bind fun v =>
 Sum.elim (fun v=>some (true,())) (fun v=>some (v.1,())) v
def C88:T88:=F88 z6z C47 y1u
theorem b9z:FO 88 (E88 C88):=j3n xh qz K88 N88 F88 z6z C47 y1u w5r Tryz.func88 (And.intro g4g trivial)
abbrev T45:=qa×qa×Unit→Option (qa×Unit)
def E45 (f:T45):FEnt:=⟨y8s,z4s,f⟩
def K45 (f88:T88) (f89:T89):=lk [(88,E88 f88),(89,E89 f89)]
def F45 (f88:T88) (f89:T89):T45:=fun (x0,x1,_) =>
 (f88 (x0,())).bind fun v =>
 bif !v.1 then
 (f89 (1,x0,0,())).bind fun v =>
 bif decide (List.length v.1+[64].length≤9223372036854775807) then
 bif decide ((v.1++[64]).length+x1.length≤9223372036854775807) then
 some (v.1++[64]++x1,())
 else none
 else none
 else
 bif decide (x0.length+[64].length≤9223372036854775807) then
 bif decide ((x0++[64]).length+x1.length≤9223372036854775807) then
 some (x0++[64]++x1,())
 else none
 else none
def C45:T45:=F45 C88 C89
theorem f8r:FO 45 (E45 C45):=zq2 y8s z4s K45 F45 C88 C89 (kc b9z (kc f8w kn)) Tryz.func45
abbrev T32:=qp×qu×qv×qa×Unit→Option (qa×qa×Int×Unit)
def E32 (f:T32):FEnt:=⟨xj,y9g,f⟩
def K32 (f44:T44) (f67:T67) (f71:T71):=lk [(44,E44 f44),(67,E67 f67),(71,E71 f71)]
def F32 (f44:T44) (f67:T67) (f71:T71):T32:=fun (x0,x1,x2,x3,_) =>
 (f67 (x3,())).bind fun v =>
 bif v.2.2.1 != 0 then some ([],[],v.2.2.1,())
 else
 (f71 (v.1,())).bind fun v1 =>
 bif !v1.2.2.2.1 then some ([],[],4,())
 else
 bif v1.2.2.1 != (↑(List.length v.1):Int) then some ([],[],4,())
 else
 (f44 (x0,x1,x2,v1.1,v1.2.1,())).bind fun v =>
 bif v.1 != 0 then some ([],[],v.1,()) else some (v1.1,v1.2.1,0,())
theorem h32 (f44:T44) (f67:T67) (f71:T71):ye (K32 f44 f67 f71) 0 Tryz.f32 .nil xj y9g (F32 f44 f67 f71):=fun v=>by kernel_rfl
def C32:T32:=F32 C44 C67 C71
theorem f8q:FO 32 (E32 C32) :=
 q0 (kc k8c (kc f8t (kc f8u kn))) Tryz.func32 (h32 C44 C67 C71)
abbrev T38:=qa×qa×Unit→Option (Bool×Unit)
def E38 (f:T38):FEnt:=⟨y8s,qz,f⟩
def F38:T38:=fun (x0,x1,_) =>
 bif decide ((↑x0.length:Int)≤150) then some (decide ((↑x1.length:Int)≤200),())
 else some (false,())
def C38:T38:=F38
theorem b9m:FO 38 (E38 C38):=zq0 y8s qz vf F38 kn Tryz.func38
end Go.Proofs.YtiacnhhmkdkpmaaGreatDoorA.W
set_option linter.unusedSimpArgs false
namespace Go.Proofs.YtiacnhhmkdkpmaaGreatDoorA.W
open Go Go.Ae
theorem wr {n:Int} (h1 : -9223372036854775808≤n) (h2:n≤9223372036854775807):IntKind.i64.wrap n=n:=by rw [IntKind.wrap_i64];omega
theorem wrN (n:Nat) (h:n≤9223372036854775806):IntKind.i64.wrap ((n:Int)+1)=((n+1:Nat):Int):=by rw [wr]<;>omega
theorem x0u (b:UInt8):UInt8.ofNat b.toNat=b:=by simp
theorem byte_back (b:UInt8):UInt8.ofNat ((b.toNat:Int)).toNat=b:=by simp
theorem getD_lt {α:Type} {l:List α} {i:Nat} {d:α} (h:i<l.length):l.getD i d=l[i]:=by simp [List.getD_eq_getElem?_getD,List.getElem?_eq_getElem h]
def wv (c:UInt8):List UInt8:=if c.toNat=34∨c.toNat=92 then [92,c] else [c]
def esc (s:List UInt8):List UInt8:=s.flatMap wv
theorem v1n (c:UInt8):(wv c).length≤2:=by unfold wv;split<;>simp
theorem j0r:∀s:List UInt8,(esc s).length≤2*s.length
 | []=>by simp [esc]
 | c::s=>by have:=j0r s;have:=v1n c;simp [esc] at *;omega
theorem y2w (s t:List UInt8):esc (s++t)=esc s++esc t:=by simp [esc]
theorem ql {α:Type} {s:List α} {k:Nat} (h:k<s.length):s.take (k+1)=s.take k++[s[k]]:=by
 rw [List.take_add_one,List.getElem?_eq_getElem h];rfl
theorem v1o {s:List UInt8} {k:Nat} (h:k<s.length):esc (s.take (k+1))=esc (s.take k)++wv s[k]:=by
 rw [ql h,y2w];simp [esc]
theorem ibT {a b:Int} (h:a=b):(a==b)=true:=by simp [h]
theorem ibF {a b:Int} (h:a≠b):(a==b)=false:=by simp [h]
theorem inT {a b:Int} (h:a≠b):(a != b)=true:=by simp [h]
theorem inF {a b:Int} (h:a=b):(a != b)=false:=by simp [h]
theorem y1c {a:UInt8} {n:Nat} (h:a.toNat=n):a=UInt8.ofNat n:=by subst h;simp
theorem g3a {c:UInt8} (h:c.toNat=34):wv c=[92]++[c]:=by simp [wv,h]
theorem g2y {c:UInt8} (h:c.toNat=92):wv c=[92]++[c]:=by simp [wv,h]
theorem g2z {c:UInt8} (h:¬c.toNat=34) (h2:¬c.toNat=92):wv c=[c]:=by simp [wv,h,h2]
theorem r14 (s:List UInt8) (k:Nat) (acc:List UInt8) (h:k<s.length) (hb:s.length≤9223372036854775806) (ha:acc.length+2≤140737488355328) :
 kf (s,(s.length:Int),(k:Int),acc,())=some (.inl (s,(s.length:Int),((k+1:Nat):Int),acc++wv s[k],())):=by
 by_cases e1:s[k].toNat=34
 · simp (disch:=omega) only [kf,decide_eq_true,cond_true,Bool.and_self,List.length_append,List.length_cons,List.length_nil,getD_lt,byte_back,wrN,Int.toNat_natCast,ibT,g3a,List.append_assoc,x0u]
 · by_cases e2:s[k].toNat=92
   · simp (disch:=omega) only [kf,decide_eq_true,cond_true,cond_false,Bool.and_self,List.length_append,List.length_cons,List.length_nil,getD_lt,byte_back,wrN,Int.toNat_natCast,ibT,ibF,g2y,List.append_assoc,x0u]
   · simp (disch:=omega) only [kf,decide_eq_true,cond_true,cond_false,Bool.and_self,List.length_append,List.length_cons,List.length_nil,getD_lt,byte_back,wrN,Int.toNat_natCast,ibT,ibF,g2z,List.append_assoc,x0u]
theorem c14 (s:List UInt8) (hb:s.length≤70368744177663):x6j (s,())=some (esc s,()):=by
 have key:∀(k:Nat) (n:Nat),k≤s.length→s.length - k<n→qc kf n (s,(s.length:Int),(k:Int),esc (s.take k),())=some (esc s,()):=by
  intro k n
  induction n generalizing k with
  | zero=>intro _ h;omega
  | succ n ih =>
   intro hk hn;by_cases h:k<s.length
   · have hl:=j0r (s.take k)
     rw [je (r14 s k _ h (by omega) (by simp only [List.length_take] at hl;omega)),←v1o h];exact ih (k+1) (by omega) (by omega)
   · have:k=s.length:=by omega
     subst this;refine qk ?_;simp [kf]
 have:=key 0 jd (by omega) (by unfold jd;omega);simp only [List.take_zero] at this;show v6j q6v (s,())=_;simp only [v6j,q6v];rw [show qc kf jd (s,(s.length:Int),0,[],())=some (esc s,()) from this];rfl
def src (k:Int) (s:List UInt8):List UInt8:=if k=1 then [34]++esc s++[34] else if k=3 then [40]++s++[41] else if k=5 then [91]++s++[93] else s
theorem c9 (k:Int) (s:List UInt8) (a:Int) (hb:s.length≤9000):C89 (k,s,a,())=some (src k s,()):=by
 have hl:=j0r s;show F89 x6j (k,s,a,())=_;by_cases e1:k=1
 · simp (disch:=omega) only [F89,c14,ibT,cond_true,decide_eq_true,List.length_append,List.length_cons,List.length_nil,Option.bind_some,src,if_pos]
 · by_cases e3:k=3
   · simp (disch:=omega) only [F89,ibT,ibF,cond_true,cond_false,decide_eq_true,List.length_append,List.length_cons,List.length_nil,Option.bind_some,src,if_pos,if_neg]
   · by_cases e5:k=5
     · simp (disch:=omega) only [F89,ibT,ibF,cond_true,cond_false,decide_eq_true,List.length_append,List.length_cons,List.length_nil,Option.bind_some,src,if_pos,if_neg]
     · simp (disch:=omega) only [F89,ibT,ibF,cond_true,cond_false,src,if_neg]
abbrev T64:=Int×Unit→Option (Int×Unit)
def E64 (f:T64):FEnt:=⟨j3x,w4z,f⟩
def F64:T64:=fun (x0,_) =>
 bif decide (x0≥65) then
 bif decide (x0≤90) then some (IntKind.u8.wrap (IntKind.u8.wrap (x0 - 65)+97),())
 else some (x0,())
 else some (x0,())
def C64:T64:=F64
theorem b9u:FO 64 (E64 C64):=zq0 j3x w4z vf F64 kn Tryz.func64
abbrev z5j:=qa×Int×Int×qa×Unit→Option (qa×Unit)
def x7x (f:z5j):LEnt:=⟨w1v,w5b,f⟩
abbrev T63:=qa×Unit→Option (qa×Unit)
def E63 (f:T63):FEnt:=⟨w1u,w5a,f⟩
def K63 (f64:T64):=lk [(64,E64 f64)]
theorem w5n:zk Tryz.prog (K63 C64):=(kc b9u kn)
def j7o (f64:T64):yq (qa×Int×Int×qa×Unit) (qa×Unit):=fun (x0,x1,x2,x3,_) =>
 bif decide (x2<x1) then
 bif decide (0≤x2)&&decide (x2<(↑x0.length:Int)) then
 (f64 ((↑(UInt8.toNat (x0.getD x2.toNat 0)):Int),())).bind fun v =>
 bif decide (x3.length+[UInt8.ofNat (Int.toNat v.1)].length≤140737488355328/1) then
 some (Sum.inl (x0,x1,IntKind.i64.wrap (x2+1),x3++[UInt8.ofNat (Int.toNat v.1)],()))
 else none
 else none
 else some (Sum.inr (x3,()))
def j7k:z5j:=qc (j7o C64) jd
theorem g3z:jg 0 (qd (code Tryz.f63) [1,1,0,1,0,0]) (x7x j7k):=zl1 w1v w5b K63 j7o C64 w5n
def N63 (f63_l0:z5j):Ann:=(.seq .nil (.seq .nil (.seq (.seq .nil (.blk (.loop (x7x f63_l0)))) .nil)))
def F63 (f64:T64) (f63_l0:z5j):T63:=fun (x0,_) =>
 (f63_l0 (x0,(↑x0.length:Int),0,[],())).bind fun v=>some (v.1,())
def C63:T63:=F63 C64 j7k
theorem b9t:FO 63 (E63 C63):=wn w1u w5a K63 N63 F63 C64 j7k w5n Tryz.func63 (And.intro g3z trivial)
abbrev T25:=qa×Unit→Option (qa×Unit)
def E25 (f:T25):FEnt:=⟨xh,z4s,f⟩
def K25 (f63:T63):=lk [(63,E63 f63)]
def F25 (f63:T63):T25:=fun (x0,_) =>
 bif decide (x0.length≤9223372036854775807) then (f63 (x0,())).bind fun v=>some (v.1,()) else none
def C25:T25:=F25 C63
theorem b9l:FO 25 (E25 C25):=ww xh z4s K25 F25 C63 (kc b9t kn) Tryz.func25
abbrev q8y:=Int×Bool×qp×qu×qv×Unit→Option ((Bool×Unit)⊕(Int×qp×qu×qv×Unit))
def y5q (f:q8y):LEnt:=⟨w1w,w5c,f⟩
abbrev x3l:=qp×qu×qv×Int×Unit→Option (Bool×Unit)
def g7g (f:x3l):FEnt:=⟨Li0,qz,f⟩
def w8x (f215:j7u) (f216:q9c) (f217:z4z):=lk [(215,v6d f215),(216,x7m f216),(217,w7l f217)]
theorem v2g:zk Tryz.prog (w8x j3r zp q2d):=(kc v4f (kc x0w (kc w6f kn)))
def z3t (f215:j7u) (f216:q9c) (f217:z4z):q8y:=fun (x0,x1,x2,x3,x4,_) =>
 bif x1 then some (Sum.inl (true,()))
 else
 (f215 (x2,x3,x4,x0,())).bind fun v =>
 bif v.1==1 then
 (f216 (x2,x3,x4,x0,())).bind fun v =>
 bif !v.2.2.2.2.2.1 then some (Sum.inl (true,()))
 else
 bif !v.2.2.2.1 then some (Sum.inl (bif v.2.2.2.2.1 then false else true,()))
 else some (Sum.inl (false,()))
 else some (Sum.inr (x0,x2,x3,x4,()))
def q7h:q8y:=z3t j3r zp q2d
theorem k5c:zj 0 (qd (code Tryz.f184) [1,0,0,1]) (y5q q7h):=zc3 w1w w5c w8x z3t j3r zp q2d v2g
def b3a (f184_c0:q8y):Ann:=(.seq .nil (.seq (.blk (.cut .nil (y5q f184_c0))) .nil))
def w8d (f215:j7u) (f216:q9c) (f217:z4z) (f184_c0:q8y):x3l:=fun (x0,x1,x2,x3,_) =>
 bif decide (x3≥33) then
 (f184_c0 (x3,decide (x3≤126),x0,x1,x2,())).bind fun v =>
 Sum.elim (fun v=>some (v.1,()))
 (fun v =>
 (f217 (v.2.1,v.2.2.1,v.2.2.2.1,v.1,())).bind fun v =>
 some (v.1,()))
 v
 else
 (f184_c0 (x3,false,x0,x1,x2,())).bind fun v =>
 Sum.elim (fun v=>some (v.1,()))
 (fun v =>
 (f217 (v.2.1,v.2.2.1,v.2.2.2.1,v.1,())).bind fun v =>
 some (v.1,()))
 v
def x6m:x3l:=w8d j3r zp q2d q7h
theorem f5q:FO 184 (g7g x6m):=y1f Li0 qz w8x b3a w8d j3r zp q2d q7h v2g Tryz.func184 (And.intro k5c trivial)
abbrev x3k:=Int×qp×qu×qv×List (Int)×Unit→Option (Bool×qp×qu×qv×List (Int)×Unit)
def g7f (f:x3k):FEnt:=⟨w1x,j2y,f⟩
def b0n (f183:z4v) (f184:x3l):=lk [(183,w7g f183),(184,g7g f184)]
def w8c (f183:z4v) (f184:x3l):x3k:=fun (x0,x1,x2,x3,x4,_) =>
 (f183 (x1,x2,x3,x4,x0,())).bind fun v =>
 bif v.1==2 then some (true,x1,x2,x3,x4,())
 else
 bif v.1==0 then
 bif decide (0≤x0)&&decide (x0<(↑x4.length:Int)) then
 (f184 (x1,x2,x3,x4.getD x0.toNat 0,())).bind fun v =>
 some (bif v.1 then false else true,x1,x2,x3,x4,())
 else none
 else some (false,x1,x2,x3,x4,())
theorem b7v (f183:z4v) (f184:x3l):ye (b0n f183 f184) 2 Tryz.f182 .nil w1x j2y (w8c f183 f184):=fun v=>by kernel_rfl
def z7h:x3k:=w8c j3p x6m
theorem f5p:FO 182 (g7f z7h) :=
 q0 (kc w6a (kc f5q kn)) Tryz.func182 (b7v j3p x6m)
abbrev j6d:=Int×Int×qp×qu×qv×List (Int)×Unit→Option (Unit⊕(Int×Unit))
def y5j (f:j6d):LEnt:=⟨w1y,w5d,f⟩
abbrev x3h:=qp×qu×qv×qa×Unit→Option (Int×Unit)
def g6y (f:x3h):FEnt:=⟨xj,jf,f⟩
def w8u (f182:x3k) (f83:T83):=lk [(182,g7f f182),(83,E83 f83)]
theorem v2d:zk Tryz.prog (w8u z7h C83):=(kc f5p (kc y0g kn))
def z3r (f182:x3k) (f83:T83):yq (Int×Int×qp×qu×qv×List (Int)×Unit) (Unit⊕(Int×Unit)):=fun (x0,x1,x2,x3,x4,x5,_) =>
 bif decide (x1<x0) then
 (f182 (x1,x2,x3,x4,x5,())).bind fun v =>
 bif v.1 then some (Sum.inr (Sum.inr (8,())))
 else
 some
 (Sum.inl
 (x0,IntKind.i64.wrap (x1+1),v.2.1,v.2.2.1,v.2.2.2.1,v.2.2.2.2.1,
 ()))
 else some (Sum.inr (Sum.inl ()))
def z2f:j6d:=qc (z3r z7h C83) jd
theorem k4v:jg 0 (qd (code Tryz.f152) [1,1,1,1,0,1,0,0]) (y5j z2f):=zl2 w1y w5d w8u z3r z7h C83 v2d
def b2v (f152_l0:j6d):Ann:=(.seq .nil (.seq .nil (.seq .nil (.seq .nil (.seq (.seq .nil (.blk (.loop (y5j f152_l0)))) .nil)))))
def w7z (f182:x3k) (f83:T83) (f152_l0:j6d):x3h:=fun (x0,x1,x2,x3,_) =>
 (f83 (x3,())).bind fun v =>
 bif decide (v.2.1≥0) then some (7,())
 else
 bif (↑(List.length v.1):Int)==0 then some (13,())
 else
 (f152_l0 ((↑(List.length v.1):Int),0,x0,x1,x2,v.1,())).bind fun v =>
 Sum.elim (fun v=>some (0,())) (fun v=>some (v.1,())) v
def x6k:x3h:=w7z z7h C83 z2f
theorem f5f:FO 152 (g6y x6k):=j3n xj jf w8u b2v w7z z7h C83 z2f v2d Tryz.func152 (And.intro k4v trivial)
abbrev z7w:=qp×qu×qv×qa×Unit→Option (qa×Int×Unit)
def g6m (f:z7w):FEnt:=⟨xj,q2n,f⟩
def f9t (f151:j9y) (f152:x3h) (f153:q5j) (f154:z4u) (f83:T83):=lk [(151,w7c f151),(152,g6y f152),(153,v5y f153),(154,w7d f154),(83,E83 f83)]
def w7y (f151:j9y) (f152:x3h) (f153:q5j) (f154:z4u) (f83:T83):z7w:=fun (x0,x1,x2,x3,_) =>
 (f151 (x0,x1,x2,x3,())).bind fun v =>
 bif !v.2.1 then some ([],7,())
 else
 (f152 (x0,x1,x2,v.1,())).bind fun v1 =>
 bif v1.1 != 0 then some ([],v1.1,())
 else
 (f83 (v.1,())).bind fun v2 =>
 (f153 (x0,x1,x2,v2.1,())).bind fun v3 =>
 bif v3.1 then
 (f154 (x0,x1,x2,v2.1,())).bind fun v4 =>
 bif !v4.1 then some ([],9,()) else some (v.1,0,())
 else some (v.1,0,())
theorem b7j (f151:j9y) (f152:x3h) (f153:q5j) (f154:z4u) (f83:T83):ye (f9t f151 f152 f153 f154 f83) 0 Tryz.f120 .nil xj q2n (w7y f151 f152 f153 f154 f83):=fun v=>by kernel_rfl
def z6y:z7w:=w7y j1o x6k q5w y1h C83
theorem f4s:FO 120 (g6m z6y) :=
 q0 (kc v3y (kc f5f (kc v3z (kc w5x (kc y0g kn))))) Tryz.func120 (b7j j1o x6k q5w y1h C83)
abbrev j2h:=qp×qu×qv×qa×qa×qa×qa×Unit→Option (qa×qa×Unit)
def x8a (f:j2h):LEnt:=⟨w1z,w5f,f⟩
abbrev T82:=qp×qu×qv×qa×qa×Unit→Option (qa×qa×Unit)
def E82 (f:T82):FEnt:=⟨z0s,w5e,f⟩
def K82 (f120:z7w) (f25:T25) (f86:T86) (f87:T87):=lk [(120,g6m f120),(25,E25 f25),(86,E86 f86),(87,E87 f87)]
theorem w5q:zk Tryz.prog (K82 z6y C25 C86 C87):=(kc f4s (kc b9l (kc g4r (kc g4s kn))))
def y1y (f120:z7w) (f25:T25) (f86:T86) (f87:T87):j2h:=fun (x0,x1,x2,x3,x4,x5,x6,_) =>
 (f86 (x4,())).bind fun v =>
 bif v.1 then (f25 (x4,())).bind fun v=>some (x3,v.1,())
 else
 (f87 (x0,x1,x2,x4,())).bind fun v =>
 bif v.2.1==0 then some (x3,v.1,()) else some (x3,x4,())
theorem g3l (f120:z7w) (f25:T25) (f86:T86) (f87:T87):AqC (K82 f120 f25 f86 f87) 0 (qd (code Tryz.f82) [1,1]) .nil w1z w5f (y1y f120 f25 f86 f87):=fun v=>by kernel_rfl
def j7m:j2h:=y1y z6y C25 C86 C87
theorem g4c:zj 0 (qd (code Tryz.f82) [1,1]) (x8a j7m) :=
 frc w5q (g3l z6y C25 C86 C87)
def N82 (f82_c0:j2h):Ann:=(.seq .nil (.cut .nil (x8a f82_c0)))
def F82 (f120:z7w) (f25:T25) (f86:T86) (f87:T87) (f82_c0:j2h):T82:=fun (x0,x1,x2,x3,x4,_) =>
 (f120 (x0,x1,x2,x3,())).bind fun v =>
 bif v.2.1==0 then
 (f82_c0 (x0,x1,x2,v.1,x4,[],[],())).bind fun v=>some (v.1,v.2.1,())
 else (f82_c0 (x0,x1,x2,x3,x4,[],[],())).bind fun v=>some (v.1,v.2.1,())
theorem h82 (f120:z7w) (f25:T25) (f86:T86) (f87:T87) (f82_c0:j2h):ye (K82 f120 f25 f86 f87) 0 Tryz.f82 (N82 f82_c0) z0s w5e (F82 f120 f25 f86 f87 f82_c0):=fun v=>by kernel_rfl
def C82:T82:=F82 z6y C25 C86 C87 j7m
theorem f8v:FO 82 (E82 C82) :=
 qo w5q Tryz.func82 (And.intro g4c trivial) (h82 z6y C25 C86 C87 j7m)
abbrev x3e:=qp×qu×qv×qa×Unit→Option (qa×Int×Unit)
def g6l (f:x3e):FEnt:=⟨xj,q2n,f⟩
def f9s (f21:T21) (f87:T87):=lk [(21,E21 f21),(87,E87 f87)]
def f0d (f21:T21) (f87:T87):x3e:=fun (x0,x1,x2,x3,_) =>
 (f87 (x0,x1,x2,x3,())).bind fun v =>
 bif v.2.1==0 then
 (f21 (x3,())).bind fun v1 =>
 bif decide (v1.1<0) then some (x3,0,()) else some (v.1,v.2.1,())
 else some (v.1,v.2.1,())
def x1r:x3e:=f0d C21 C87
theorem f4r:FO 118 (g6l x1r):=zq2 xj q2n f9s f0d C21 C87 (kc v4e (kc g4s kn)) Tryz.func118
abbrev j8a:=Bool×qp×qu×qv×qa×qa×qa×qa×Unit→Option ((Int×qa×qa×Unit)⊕(qp×qu×qv×qa×qa×qa×qa×Unit))
def x7z (f:j8a):LEnt:=⟨w2a,w5g,f⟩
abbrev T78:=qp×qu×qv×qa×qa×Unit→Option (qa×qa×Int×Unit)
def E78 (f:T78):FEnt:=⟨z0s,y9g,f⟩
def K78 (f118:x3e) (f21:T21) (f86:T86):=lk [(118,g6l f118),(21,E21 f21),(86,E86 f86)]
theorem w5p:zk Tryz.prog (K78 x1r C21 C86):=(kc f4r (kc v4e (kc g4r kn)))
def x8v (f118:x3e) (f21:T21) (f86:T86):j8a:=fun (x0,x1,x2,x3,x4,x5,x6,x7,_) =>
 bif x0 then some (Sum.inl (8,[],[],()))
 else
 (f86 (x5,())).bind fun v =>
 bif v.1 then some (Sum.inl (0,x4,x5,())) else some (Sum.inr (x1,x2,x3,x4,x5,x6,x7,()))
def y1t:j8a:=x8v x1r C21 C86
theorem g4b:zj 0 (qd (code Tryz.f78) [1,0,0,1]) (x7z y1t):=zc3 w2a w5g K78 x8v x1r C21 C86 w5p
def N78 (f78_c0:j8a):Ann:=(.seq .nil (.seq (.blk (.cut .nil (x7z f78_c0))) .nil))
def F78 (f118:x3e) (f21:T21) (f86:T86) (f78_c0:j8a):T78:=fun (x0,x1,x2,x3,x4,_) =>
 (f21 (x3,())).bind fun v =>
 bif decide (v.1≥0) then
 (f78_c0 (true,x0,x1,x2,x3,x4,[],[],())).bind fun v =>
 Sum.elim (fun v=>some (v.2.1,v.2.2.1,v.1,()))
 (fun v =>
 (f118 (v.1,v.2.1,v.2.2.1,v.2.2.2.2.1,())).bind fun v1 =>
 bif v1.2.1 != 0 then some ([],[],v1.2.1,())
 else some (v.2.2.2.1,v1.1,0,()))
 v
 else
 (f86 (x4,())).bind fun v =>
 bif v.1 then
 (f21 (x4,())).bind fun v =>
 (f78_c0 (decide (v.1≥0),x0,x1,x2,x3,x4,[],[],())).bind fun v =>
 Sum.elim (fun v=>some (v.2.1,v.2.2.1,v.1,()))
 (fun v =>
 (f118 (v.1,v.2.1,v.2.2.1,v.2.2.2.2.1,())).bind fun v1 =>
 bif v1.2.1 != 0 then some ([],[],v1.2.1,())
 else some (v.2.2.2.1,v1.1,0,()))
 v
 else
 (f78_c0 (false,x0,x1,x2,x3,x4,[],[],())).bind fun v =>
 Sum.elim (fun v=>some (v.2.1,v.2.2.1,v.1,()))
 (fun v =>
 (f118 (v.1,v.2.1,v.2.2.1,v.2.2.2.2.1,())).bind fun v1 =>
 bif v1.2.1 != 0 then some ([],[],v1.2.1,())
 else some (v.2.2.2.1,v1.1,0,()))
 v
def C78:T78:=F78 x1r C21 C86 y1t
theorem b9w:FO 78 (E78 C78):=y1f z0s y9g K78 N78 F78 x1r C21 C86 y1t w5p Tryz.func78 (And.intro g4b trivial)
def Df {α:Type} (x:Option α) (Q:α→Prop):Prop:=∃y,x=some y∧Q y
section
variable {α β γ:Type} {Q:α→Prop}
theorem dP {y:α} (h:Q y):Df (some y) Q:=⟨y,rfl,h⟩
theorem dO (h:False):Df (none:Option α) Q:=h.elim
theorem dZ {x:Option β} {f:β→Option α} {P:β→Prop} (h:Df x P) (hf:∀a,P a→Df (f a) Q):Df (x.bind f) Q:=by
 obtain ⟨a,rfl,ha⟩:=h;exact hf a ha
theorem Df.mono {x:Option α} {P:α→Prop} (h:Df x P) (hf:∀a,P a→Q a):Df x Q:=by
 obtain ⟨a,e,ha⟩:=h;exact ⟨a,e,hf a ha⟩
theorem Df.and {x:Option α} {P P':α→Prop} (h:Df x P) (h':Df x P'):Df x fun y=>P y∧P' y:=by
 obtain ⟨a,e,ha⟩:=h;obtain ⟨b,e',hb⟩:=h';rw [e] at e';cases e';exact ⟨a,e,ha,hb⟩
theorem dB {b:Bool} {x y:Option α} (h1:b=true→Df x Q) (h2:b=false→Df y Q):Df (bif b then x else y) Q:=by
 cases b
 · exact h2 rfl
 · exact h1 rfl
theorem dH {b:Bool} {x y:Option α} (h1:b=false→Df x Q) (h2:b=true→Df y Q):Df (bif !b then x else y) Q:=by
 cases b
 · exact h1 rfl
 · exact h2 rfl
theorem dD {p:Prop} {dp:Decidable p} {x y:Option α} (h1:p→Df x Q) (h2:¬p→Df y Q):Df (bif decide p then x else y) Q:=by
 by_cases h:p
 · rw [decide_eq_true h];exact h1 h
 · rw [decide_eq_false h];exact h2 h
theorem dG {a b:Int} {x y:Option α} (h1:a=b→Df x Q) (h2:a≠b→Df y Q):Df (bif a==b then x else y) Q:=by
 by_cases h:a=b
 · rw [ibT h];exact h1 h
 · rw [ibF h];exact h2 h
class Rd (b:Bool) (p q:outParam Prop):Prop where
 t:b=true→p
 f:b=false→q
instance (priority := low) (b : Bool) : Rd b (b = true) (b = false) := ⟨id, id⟩
instance (b : Bool) : Rd (!b) (b = false) (b = true) := ⟨fun h => by cases b <;> simp_all, fun h => by cases b <;> simp_all⟩
instance (p : Prop) [Decidable p] : Rd (decide p) p (¬ p) := ⟨of_decide_eq_true, of_decide_eq_false⟩
instance (p : Prop) [Decidable p] : Rd (!decide p) (¬ p) p := ⟨fun h => by simpa using h, fun h => by simpa using h⟩
instance (p q : Prop) [Decidable p] [Decidable q] : Rd (decide p && decide q) (p ∧ q) (¬ (p ∧ q)) := ⟨fun h => by simpa using h, fun h => by simpa using h⟩
instance (a b : Int) : Rd (a == b) (a = b) (a ≠ b) := ⟨fun h => by simpa using h, fun h => by simpa using h⟩
instance (a b : Int) : Rd (a != b) (a ≠ b) (a = b) := ⟨fun h => by simpa using h, fun h => by simpa using h⟩
theorem dX {b:Bool} {p q:Prop} [r:Rd b p q] {x y:Option α} (h1:p→Df x Q) (h2:q→Df y Q):Df (bif b then x else y) Q:=by
 have h:b=true∨b=false:=by cases b<;>simp
 rcases h with h | h
 · rw [h];exact h1 (r.t h)
 · rw [h];exact h2 (r.f h)
theorem dS {f:β→Option α} {g:γ→Option α} {s:β⊕γ} {P:β→Prop} {P':γ→Prop} (hs:Sum.elim P P' s) (h1:∀a,P a→Df (f a) Q) (h2:∀b,P' b→Df (g b) Q):Df (Sum.elim f g s) Q:=by
 cases s with
 | inl a=>exact h1 a hs
 | inr b=>exact h2 b hs
theorem Df.loop {F:β→Option (β⊕α)} (I:β→Prop) (μ:β→Nat) (h:∀v,I v→Df (F v) (Sum.elim (fun v'=>I v'∧μ v'<μ v) Q)) (n:Nat) (v:β) (hv:I v) (hn:μ v<n):Df (qc F n v) Q:=by
 refine z9t I Q μ (fun v hv => ?_) n v hv hn;obtain ⟨y,e,hy⟩:=h v hv;cases y with
 | inl v'=>exact .inl ⟨v',e,hy.1,hy.2⟩
 | inr y=>exact .inr ⟨y,e,hy⟩
theorem dL {F:β→Option (β⊕α)} (I:β→Prop) (μ:β→Nat) (h:∀v,I v→Df (F v) (Sum.elim (fun v'=>I v'∧μ v'<μ v) Q)) (v:β) (hv:I v) (hn:μ v<1000000000000000000):Df (qc F jd v) Q :=
 Df.loop I μ h jd v hv (by unfold jd;omega)
end
theorem v5r (n:Int):IntKind.i64.wrap n=(n+9223372036854775808)%18446744073709551616 - 9223372036854775808:=by rw [IntKind.wrap_i64]
theorem d1p (n:Int):IntKind.i32.wrap n=(n+2147483648)%4294967296 - 2147483648:=by
 simp [IntKind.wrap,IntKind.bits,IntKind.signed];split<;>omega
theorem f9n (n:Int):IntKind.u64.wrap n=n%18446744073709551616:=IntKind.wrap_u64 n
theorem qh {n:Int} (h : -9000000000000000000≤n∧n≤9000000000000000000):IntKind.i64.wrap n=n:=by rw [v5r];omega
theorem g6d {n:Int} (h : -2000000000≤n∧n≤2000000000):IntKind.i32.wrap n=n:=by rw [d1p];omega
theorem v3g {a b:Int} (ha:0≤a) (hb:0≤b) (h:a+b≤9000000000000000000):IntKind.i64.wrap ((IntKind.u64.wrap (IntKind.i64.wrap (a+b))).fdiv (2^min 1 IntKind.u64.bits))=(a+b)/2:=by
 rw [qh (n:=a+b) (by omega),f9n,show (2:Int)^min 1 IntKind.u64.bits=2 from rfl,Int.fdiv_eq_ediv_of_nonneg _ (by omega),qh (by omega)];omega
theorem z9b (s:List UInt8) (p:Nat):1≤(kr s p).2:=by
 unfold kr Utf8.decode;dsimp only;repeat' split
 all_goals (first | omega | (dsimp only;omega))
theorem k1v (x:Int):Df (xa (x,())) (fun y=>y.1=true→0≤x∧x≤1114111):=by
 show Df (x8n _) _;unfold x8n;dsimp only;with_reducible repeat' (first | apply dP | apply dX<;>intro _)
 all_goals (dsimp only;intro h';first | omega | cases h')
theorem f2x (x:Int):Df (yy (x,())) (fun y=>0≤y.1∧y.1≤4):=by
 show Df (z7s xa _) _;unfold z7s;dsimp only;refine dZ (k1v x) ?_;rintro ⟨b,u⟩ hb;dsimp only;with_reducible repeat' (first | apply dP | apply dX<;>intro _)
 all_goals (first | omega | (dsimp only;omega))
theorem g0u (x:Int) (b:Bool):Df (q0z (x,b,())) (Sum.elim (fun y=>0≤y.1∧y.1≤3) (fun _=>True)):=by
 show Df (q3o _) _;unfold q3o;dsimp only;with_reducible repeat' (first | apply dP | apply dX<;>intro _)
 all_goals (first | trivial | exact ⟨by first | omega | (dsimp only;omega),by first | omega | (dsimp only;omega)⟩)
theorem g0v (x:Int) (b:Bool):Df (q1a (x,b,())) (Sum.elim (fun y=>0≤y.1∧y.1≤3) (fun _=>True)):=by
 show Df (q3p q0z _) _;unfold q3p;dsimp only;with_reducible repeat' (first | apply dP | apply dX<;>intro _)
 all_goals (first | trivial | exact ⟨by first | omega | (dsimp only;omega),by first | omega | (dsimp only;omega)⟩ | (refine dZ (g0u _ _) ?_;intro s hs;exact dS hs (fun a ha=>dP ha) (fun _ _=>dP trivial)))
theorem f2w (x:Int):Df (vy (x,())) (fun y => -1≤y.1∧y.1≤3):=by
 show Df (x2k q1a _) _;unfold x2k;dsimp only;with_reducible repeat' (first | apply dP | apply dX<;>intro _)
 all_goals (first | (first | omega | (dsimp only;omega)) | (refine dZ (g0v _ _) ?_;intro s hs;exact dS hs (fun a ha=>dP ⟨by have:=ha.1;dsimp only;omega,ha.2⟩) (fun _ _=>dP (by first | omega | (dsimp only;omega)))))
theorem f3w (s:List UInt8) (n r at_ k:Int) (o:List Int) (h:0≤at_) (hn:0≤n∧n≤3) (hl:at_+n<s.length) (hk:at_+1≤k) (hb:s.length≤1000000000000) :
 Df (q2i (s,n,r,at_,k,o,())) (Sum.elim (fun y=>y.1=s∧y.2.1=n∧y.2.2.2.1=at_∧y.2.2.2.2.1=o) (fun y=>y.1=at_∧y.2.1=o)):=by
 refine dL ?I ?m ?h _ ?hv ?hn
 case I=>exact (fun v=>v.1=s∧v.2.1=n∧v.2.2.2.1=at_∧v.2.2.2.2.2.1=o∧at_+1≤v.2.2.2.2.1)
 case m=>exact (fun v=>(at_+n+1 - v.2.2.2.2.1).toNat)
 case hv=>exact ⟨rfl,rfl,rfl,rfl,hk⟩
 case hn=>exact (by first | omega | (dsimp only;omega))
 rintro ⟨x0,x1,x2,x3,x4,x5,u⟩ hI;dsimp only at hI;obtain ⟨rfl,rfl,rfl,rfl,hI⟩:=hI;unfold q2k;dsimp only;rw [qh (n:=x3+x1) (by omega)];with_reducible repeat' (first | apply dP | apply dX<;>intro _)
 · exact ⟨rfl,rfl⟩
 · rw [qh (by omega)]
   exact ⟨⟨rfl,rfl,rfl,rfl,by first | omega | (dsimp only;omega)⟩,by first | omega | (dsimp only;omega)⟩
 · refine dO ?_;omega
 · refine dO ?_;omega
 · exact ⟨rfl,rfl,rfl,rfl⟩
theorem d83 (s:List UInt8) (hb:s.length≤1000000000000):Df (C83 (s,())) (fun y=>y.1.length≤s.length∧(y.2.1 = -1∨0≤y.2.1∧y.2.1<s.length)∧(y.2.1<0→0<s.length→0<y.1.length)):=by
 show Df (F83 vy yy q2h q6b _) _;unfold F83;dsimp only;refine dZ (P:=Sum.elim (fun y=>y.1.length≤s.length∧(0<s.length→0<y.1.length)) (fun y=>y.2.1.length≤s.length∧0≤y.1∧y.1<s.length)) ?_ ?_
 · refine dL ?I ?m ?h _ ?hv ?hn
   case I=>exact (fun v=>v.1=s∧0≤v.2.1∧v.2.1≤s.length∧v.2.2.1.length≤v.2.1∧(0<v.2.1→0<v.2.2.1.length))
   case m=>exact (fun v=>(s.length - v.2.1).toNat)
   case hv=>exact ⟨rfl,by first | omega | (dsimp only;omega),by first | omega | (dsimp only;omega),by simp,by simp⟩
   case hn=>exact (by first | omega | (dsimp only;omega))
   rintro ⟨x0,x1,x2,u⟩ hI;dsimp only at hI;obtain ⟨rfl,h0,h1,h2,h2'⟩:=hI;unfold vo;dsimp only;with_reducible repeat' (first | apply dP | apply dX<;>intro _)
   · refine dZ (f2w _) ?_
     rintro ⟨n,r,u⟩ hn;dsimp only at hn ⊢;rw [qh (n:=(x0.length:Int) - x1) (by omega)];with_reducible repeat' (first | apply dP | apply dX<;>intro _)
     · exact ⟨by first | omega | (dsimp only;omega),by first | omega | (dsimp only;omega),by first | omega | (dsimp only;omega)⟩
     · exact ⟨by first | omega | (dsimp only;omega),by first | omega | (dsimp only;omega),by first | omega | (dsimp only;omega)⟩
     · rw [qh (n:=x1+1) (by omega)]
       refine dZ (f3w x0 n r x1 (x1+1) x2 h0 (by omega) (by omega) (by omega) hb) ?_;intro s hs;refine dS hs ?_ ?_
       · rintro ⟨a0,a1,a2,a3,a4,u⟩ ha
         dsimp only at ha ⊢;obtain ⟨rfl,rfl,rfl,rfl⟩:=ha;refine dZ (f2x _) ?_;rintro ⟨m,u⟩ hm;dsimp only at hm ⊢;with_reducible repeat' (first | apply dP | apply dX<;>intro _)
         · exact ⟨by first | omega | (dsimp only;omega),by first | omega | (dsimp only;omega),by first | omega | (dsimp only;omega)⟩
         · rw [qh (n:=a1+1) (by omega),qh (by omega)]
           exact ⟨⟨rfl,by first | omega | (dsimp only;omega),by first | omega | (dsimp only;omega),by simp only [List.length_append,List.length_cons,List.length_nil];omega,fun _=>by simp only [List.length_append,List.length_cons,List.length_nil];omega⟩,by first | omega | (dsimp only;omega)⟩
         · refine dO ?_
           simp only [List.length_cons,List.length_nil] at *
           omega
       · rintro ⟨a0,a1,u⟩ ha
         dsimp only at ha ⊢;obtain ⟨rfl,rfl⟩:=ha;exact dP ⟨by first | omega | (dsimp only;omega),by first | omega | (dsimp only;omega),by first | omega | (dsimp only;omega)⟩
   · refine dO ?_;omega
   · exact ⟨by first | omega | (dsimp only;omega),fun _=>h2' (by omega)⟩
 · intro r hr
   refine dS hr ?_ ?_
   · rintro ⟨a,u⟩ ha
     exact dP ⟨ha.1,.inl rfl,fun _=>ha.2⟩
   · rintro ⟨a,b,u⟩ ha
     exact dP ⟨ha.1,.inr ha.2,fun h=>by have:=ha.2.1;dsimp only at h this;omega⟩
theorem x5h (l:List Int) (hb:l.length≤20000000000000):Df (z2i (l,())) (fun y=>y.1.length≤4*l.length):=by
 show Df (x2n yy q7g _) _;unfold x2n;dsimp only;refine dZ (P:=Sum.elim (fun y=>y.1.length≤4*l.length) (fun y=>y.1.length≤4*l.length)) ?_ ?_
 · refine dL ?I ?m ?h _ ?hv ?hn
   case I=>exact (fun v=>v.1=l∧v.2.1=l.length∧0≤v.2.2.1∧v.2.2.1≤l.length∧v.2.2.2.1.length≤4*v.2.2.1)
   case m=>exact (fun v=>(l.length - v.2.2.1).toNat)
   case hv=>exact ⟨rfl,rfl,by first | omega | (dsimp only;omega),by first | omega | (dsimp only;omega),by simp⟩
   case hn=>exact (by first | omega | (dsimp only;omega))
   rintro ⟨x0,x1,x2,x3,u⟩ hI;dsimp only at hI;obtain ⟨rfl,rfl,h0,h1,h2⟩:=hI;unfold j5e;dsimp only;with_reducible repeat' (first | apply dP | apply dX<;>intro _)
   · refine dZ (f2x _) ?_
     rintro ⟨m,u⟩ hm;dsimp only at hm ⊢;rw [qh (n:=x2+1) (by omega)];with_reducible repeat' (first | apply dP | apply dX<;>intro _)
     all_goals first
      | exact (by simp:(([]:List UInt8).length≤4*x0.length))
      | exact ⟨⟨rfl,rfl,by first | omega | (dsimp only;omega),by first | omega | (dsimp only;omega),by simp only [List.length_append,List.length_cons,List.length_nil];omega⟩,by first | omega | (dsimp only;omega)⟩
      | (refine dO ?_;simp only [List.length_cons,List.length_nil] at *;omega)
   · refine dO ?_;omega
   · exact (by first | omega | (dsimp only;omega):x3.length≤4*x0.length)
 · intro r hr
   refine dS hr ?_ ?_
   · rintro ⟨a,u⟩ ha;exact dP ha
   · rintro ⟨a,b,u⟩ ha;exact dP ha
theorem d21 (s:List UInt8) (hb:s.length≤1000000000000000):Df (C21 (s,())) (fun y=>y.1<s.length∧(y.1<0→∀c∈s,c.toNat<128)):=by
 show Df (F21 z2r _) _;unfold F21;dsimp only;refine dZ (P:=Sum.elim (fun y=>∀c∈s,c.toNat<128) (fun y=>0≤y.1∧y.1<s.length)) ?_ ?_
 · refine dL ?I ?m ?h _ ?hv ?hn
   case I=>exact (fun v=>v.1=s∧v.2.1=s.length∧0≤v.2.2.1∧v.2.2.1≤s.length∧∀c∈s.take v.2.2.1.toNat,c.toNat<128)
   case m=>exact (fun v=>(s.length - v.2.2.1).toNat)
   case hv=>exact ⟨rfl,rfl,by first | omega | (dsimp only;omega),by first | omega | (dsimp only;omega),by simp⟩
   case hn=>exact (by first | omega | (dsimp only;omega))
   rintro ⟨x0,x1,x2,u⟩ hI;dsimp only at hI;obtain ⟨rfl,rfl,h0,h1,h2⟩:=hI;unfold y1x;dsimp only;with_reducible repeat' (first | apply dP | apply dX<;>intro _)
   · exact ⟨by first | omega | (dsimp only;omega),by first | omega | (dsimp only;omega)⟩
   · rename_i h3 h4 h5
     rw [qh (n:=x2+1) (by omega)];have hlt:x2.toNat<x0.length:=by omega
     refine ⟨⟨rfl,rfl,by first | omega | (dsimp only;omega),by first | omega | (dsimp only;omega),?_⟩,by first | omega | (dsimp only;omega)⟩;dsimp only;intro c hc;rw [show (x2+1).toNat=x2.toNat+1 by omega,ql hlt] at hc;rcases List.mem_append.1 hc with hc | hc
     · exact h2 c hc
     · rw [List.mem_singleton] at hc
       rw [getD_lt hlt] at h5;subst hc;omega
   · refine dO ?_;omega
   · intro c hc
     refine h2 c ?_;rw [List.take_of_length_le (by omega)];exact hc
 · intro r hr
   refine dS hr ?_ ?_
   · intro u hu;exact dP ⟨by first | omega | (dsimp only;omega),fun _=>hu⟩
   · rintro ⟨a,u⟩ ha;exact dP ⟨ha.2,fun h=>by have:=ha.1;dsimp only at h this;omega⟩
abbrev R6:=Int×Int×Int×Int×Int×Int
abbrev R4:=Int×Int×Int×Int
abbrev R3:=Int×Int×Int
theorem f3s (a b c d e f g:Int):Df (z7o (a,b,c,d,e,f,g,())) (fun _=>True):=by
 show Df (v8n _) _;unfold v8n;dsimp only;with_reducible repeat' (first | apply dP | apply dX<;>intro _)
 all_goals trivial
theorem b6p (T:List R6) (r:Int) (hT:T.length≤1000000000000):Df (x6x (T,r,())) (fun y=>0≤y.1∧(y.2.1=true→y.1<T.length)):=by
 show Df (v8m z7o j4t _) _;unfold v8m;dsimp only;refine dZ (P:=fun y=>y.1=T∧y.2.2.1=T.length∧0≤y.2.2.2.1∧y.2.2.2.1≤T.length) ?_ ?_
 · refine dL ?I ?m ?h _ ?hv ?hn
   case I=>exact (fun v=>v.1=T∧v.2.2.1=T.length∧0≤v.2.2.2.1∧v.2.2.2.1≤v.2.2.2.2.1∧v.2.2.2.2.1≤T.length)
   case m=>exact (fun v=>(v.2.2.2.2.1 - v.2.2.2.1).toNat)
   case hv=>exact ⟨rfl,rfl,by first | omega | (dsimp only;omega),by first | omega | (dsimp only;omega),by first | omega | (dsimp only;omega)⟩
   case hn=>exact (by first | omega | (dsimp only;omega))
   rintro ⟨x0,x1,x2,x3,x4,u⟩ hI;dsimp only at hI;obtain ⟨rfl,rfl,h0,h1,h2⟩:=hI;unfold z4j;dsimp only;rw [v3g (by omega) (by omega) (by omega)];with_reducible repeat' (first | apply dP | apply dX<;>intro _)
   · refine dZ (f3s _ _ _ _ _ _ _) ?_
     rintro ⟨m,u⟩ -
     dsimp only;rw [qh (n:=(x3+x4)/2+1) (by omega)];with_reducible repeat' (first | apply dP | apply dX<;>intro _)
     · exact ⟨⟨rfl,rfl,by first | omega | (dsimp only;omega),by first | omega | (dsimp only;omega),by first | omega | (dsimp only;omega)⟩,by first | omega | (dsimp only;omega)⟩
     · exact ⟨⟨rfl,rfl,by first | omega | (dsimp only;omega),by first | omega | (dsimp only;omega),by first | omega | (dsimp only;omega)⟩,by first | omega | (dsimp only;omega)⟩
   · refine dO ?_;omega
   · exact ⟨rfl,rfl,by first | omega | (dsimp only;omega),by first | omega | (dsimp only;omega)⟩
 · rintro ⟨x0,x1,x2,x3,u⟩ hI
   dsimp only at hI ⊢;obtain ⟨rfl,rfl,h0,h1⟩:=hI;with_reducible repeat' (first | apply dP | apply dX<;>intro _)
   · refine dZ (f3s _ _ _ _ _ _ _) ?_
     rintro ⟨m,u⟩ -
     exact dP ⟨by first | omega | (dsimp only;omega),fun _=>by first | omega | (dsimp only;omega)⟩
   · refine dO ?_;omega
   · exact ⟨by first | omega | (dsimp only;omega),fun h=>by cases h⟩
theorem k1w (T:List R6) (A:List R4) (B:List R3) (r:Int) (hT:T.length≤1000000000000):Df (q7p (T,A,B,r,())) (fun y=>y.2.2.2.1=0∨∃e∈T,y.2.2.2.1=e.2.2.2.1):=by
 show Df (v7t x6x _) _;unfold v7t;dsimp only;refine dZ (b6p T r hT) ?_;rintro ⟨i,b,u⟩ h;dsimp only at h ⊢;with_reducible repeat' (first | apply dP | apply dX<;>intro _)
 · exact .inl rfl
 · rename_i h1
   have hlt:i.toNat<T.length:=by omega
   refine .inr ⟨T[i.toNat],List.getElem_mem hlt,?_⟩;dsimp only;rw [getD_lt hlt]
 · rename_i h1 h2
   have:=h.2 h1;refine dO ?_;omega
def TOk (T:List R6):Prop:=T.length≤1000000000000∧∀e∈T,0≤e.2.2.2.1∧e.2.2.2.1<8
theorem g1g (T:List R6) (A:List R4) (B:List R3) (r:Int) (hT:TOk T):Df (q5y (T,A,B,r,())) (fun y=>0≤y.1∧y.1<8):=by
 show Df (v7h q7p _) _;unfold v7h;dsimp only;refine dZ (k1w T A B r hT.1) ?_;rintro ⟨a,b,c,d,e,f,u⟩ h;dsimp only at h ⊢;refine dP ?_;rcases h with rfl | ⟨e,he,rfl⟩
 · exact ⟨by decide,by decide⟩
 · exact hT.2 e he
theorem g1e (T:List R6) (A:List R4) (B:List R3) (r:Int) (hT:TOk T):Df (j3r (T,A,B,r,())) (fun _=>True):=by
 show Df (v7f q7p _) _;unfold v7f;dsimp only;exact dZ (k1w T A B r hT.1) fun _ _=>dP trivial
theorem b7a (T:List R6) (A:List R4) (B:List R3) (r:Int) (hT:TOk T):Df (z7r (T,A,B,r,())) (fun _=>True):=by
 show Df (v9b q7p _) _;unfold v9b;dsimp only;exact dZ (k1w T A B r hT.1) fun _ _=>dP trivial
theorem g2a (T:List R6) (A:List R4) (B:List R3) (r:Int) (hT:TOk T):Df (j7j (T,A,B,r,())) (fun _=>True):=by
 show Df (v8y q7p _) _;unfold v8y;dsimp only;exact dZ (k1w T A B r hT.1) fun _ _=>dP trivial
theorem b6t (a b c d e:Int):Df (z7p (a,b,c,d,e,())) (fun _=>True):=by
 show Df (v8s _) _;unfold v8s;dsimp only;with_reducible repeat' (first | apply dP | apply dX<;>intro _)
 all_goals trivial
theorem b6s (A:List R4) (r:Int) (hA:A.length≤1000000000000):Df (x7a (A,r,())) (fun y=>y.1<A.length):=by
 show Df (v8r z7p j4u _) _;unfold v8r;dsimp only;refine dZ (P:=Sum.elim (fun _=>True) (fun y=>y.1<A.length)) ?_ ?_
 · refine dL ?I ?m ?h _ ?hv ?hn
   case I=>exact (fun v=>v.1=A∧v.2.1=A.length∧0≤v.2.2.1∧v.2.2.1≤A.length)
   case m=>exact (fun v=>(A.length - v.2.2.1).toNat)
   case hv=>exact ⟨rfl,rfl,by first | omega | (dsimp only;omega),by first | omega | (dsimp only;omega)⟩
   case hn=>exact (by first | omega | (dsimp only;omega))
   rintro ⟨x0,x1,x2,x3,u⟩ hI;dsimp only at hI;obtain ⟨rfl,rfl,h0,h1⟩:=hI;unfold z4m;dsimp only;with_reducible repeat' (first | apply dP | apply dX<;>intro _)
   · refine dZ (b6t _ _ _ _ _) ?_
     rintro ⟨m,m',u⟩ -
     dsimp only;rw [qh (n:=x2+1) (by omega)];with_reducible repeat' (first | apply dP | apply dX<;>intro _)
     · exact (by first | omega | (dsimp only;omega):x2<x0.length)
     · exact ⟨⟨rfl,rfl,by first | omega | (dsimp only;omega),by first | omega | (dsimp only;omega)⟩,by first | omega | (dsimp only;omega)⟩
   · refine dO ?_;omega
   · trivial
 · intro s hs
   refine dS hs ?_ ?_
   · rintro ⟨a,u⟩ -
     exact dP (by first | omega | (dsimp only;omega))
   · rintro ⟨a,b,u⟩ h
     exact dP h
theorem v0w (T:List R6) (A:List R4) (B:List R3) (r:Int) (hA:A.length≤1000000000000):Df (xb (T,A,B,r,())) (fun _=>True):=by
 show Df (v8c x7a _) _;unfold v8c;dsimp only;refine dZ (b6s A r hA) ?_;rintro ⟨i,b,u⟩ h;dsimp only at h ⊢;with_reducible repeat' (first | apply dP | apply dX<;>intro _)
 all_goals first | trivial | (refine dO ?_;omega)
theorem b5n (a b c d:Int):Df (z7l (a,b,c,d,())) (fun _=>True):=by
 show Df (v7m _) _;unfold v7m;dsimp only;with_reducible repeat' (first | apply dP | apply dX<;>intro _)
 all_goals trivial
theorem b5m (A:List R3) (r:Int) (hA:A.length≤1000000000000):Df (x6n (A,r,())) (fun y=>y.1<A.length):=by
 show Df (v7l z7l j4o _) _;unfold v7l;dsimp only;refine dZ (P:=Sum.elim (fun _=>True) (fun y=>y.1<A.length)) ?_ ?_
 · refine dL ?I ?m ?h _ ?hv ?hn
   case I=>exact (fun v=>v.1=A∧v.2.1=A.length∧0≤v.2.2.1∧v.2.2.1≤A.length)
   case m=>exact (fun v=>(A.length - v.2.2.1).toNat)
   case hv=>exact ⟨rfl,rfl,by first | omega | (dsimp only;omega),by first | omega | (dsimp only;omega)⟩
   case hn=>exact (by first | omega | (dsimp only;omega))
   rintro ⟨x0,x1,x2,x3,u⟩ hI;dsimp only at hI;obtain ⟨rfl,rfl,h0,h1⟩:=hI;unfold z3y;dsimp only;with_reducible repeat' (first | apply dP | apply dX<;>intro _)
   · refine dZ (b5n _ _ _ _) ?_
     rintro ⟨m,m',u⟩ -
     dsimp only;rw [qh (n:=x2+1) (by omega)];with_reducible repeat' (first | apply dP | apply dX<;>intro _)
     · exact (by first | omega | (dsimp only;omega):x2<x0.length)
     · exact ⟨⟨rfl,rfl,by first | omega | (dsimp only;omega),by first | omega | (dsimp only;omega)⟩,by first | omega | (dsimp only;omega)⟩
   · refine dO ?_;omega
   · trivial
 · intro s hs
   refine dS hs ?_ ?_
   · rintro ⟨a,u⟩ -
     exact dP (by first | omega | (dsimp only;omega))
   · rintro ⟨a,b,u⟩ h
     exact dP h
theorem b5h (T:List R6) (A:List R4) (B:List R3) (r:Int) (hB:B.length≤1000000000000):Df (j1r (T,A,B,r,())) (fun _=>True):=by
 show Df (v7c x6n _) _;unfold v7c;dsimp only;refine dZ (b5m B r hB) ?_;rintro ⟨i,b,u⟩ h;dsimp only at h ⊢;with_reducible repeat' (first | apply dP | apply dX<;>intro _)
 all_goals first | trivial | (refine dO ?_;omega)
theorem g1f (T:List R6) (A:List R4) (B:List R3) (r:Int):Df (zp (T,A,B,r,())) (fun _=>True):=by
 unfold zp;dsimp only;with_reducible repeat' (first | apply dP | apply dX<;>intro _)
 · trivial
 · cases q1s r with
   | none=>exact dP trivial
   | some s=>exact dP trivial
theorem b5i (T:List R6) (A:List R4) (B:List R3) (r:Int):Df (j9q (T,A,B,r,())) (fun _=>True):=by
 show Df (x2q zp _) _;unfold x2q;dsimp only;with_reducible repeat' (first | apply dP | apply dX<;>intro _)
 all_goals first | trivial | exact dZ (g1f T A B r) fun _ _=>dP trivial
theorem b5g (T:List R6) (A:List R4) (B:List R3) (l:List Int) (hl:l.length≤1000000000000):Df (x1v (l,T,A,B,())) (fun y=>y.1.length=l.length):=by
 show Df (x2p j9q q7j _) _;unfold x2p;dsimp only;refine dZ (P:=fun y=>y.1.length=l.length) ?_ (fun _ h=>dP h);refine dL ?I ?m ?h _ ?hv ?hn
 case I=>exact (fun v=>v.2.2.2.1=l∧v.2.2.2.2.1=l.length∧0≤v.2.2.2.2.2.1∧v.2.2.2.2.2.1≤l.length∧v.2.2.2.2.2.2.1.length=v.2.2.2.2.2.1)
 case m=>exact (fun v=>(l.length - v.2.2.2.2.2.1).toNat)
 case hv=>exact ⟨rfl,rfl,by first | omega | (dsimp only;omega),by first | omega | (dsimp only;omega),rfl⟩
 case hn=>exact (by first | omega | (dsimp only;omega))
 rintro ⟨x0,x1,x2,x3,x4,x5,x6,u⟩ hI;dsimp only at hI;obtain ⟨rfl,rfl,h0,h1,h2⟩:=hI;unfold j5g;dsimp only;with_reducible repeat' (first | apply dP | apply dX<;>intro _)
 · refine dZ (b5i _ _ _ _) ?_
   rintro ⟨m,u⟩ -
   dsimp only;rw [qh (n:=x5+1) (by omega)];with_reducible repeat' (first | apply dP | apply dX<;>intro _)
   · exact ⟨⟨rfl,rfl,by first | omega | (dsimp only;omega),by first | omega | (dsimp only;omega),by simp only [List.length_append,List.length_cons,List.length_nil];omega⟩,by first | omega | (dsimp only;omega)⟩
   · refine dO ?_;simp only [List.length_cons,List.length_nil] at *;omega
 · refine dO ?_;omega
 · exact (by first | omega | (dsimp only;omega):x6.length=x3.length)
theorem g1d (T:List R6) (A:List R4) (B:List R3) (hB:B.length≤1000000000000) (l:List Int) (hl:l.length≤1000000000000):Df (j1q (l,T,A,B,())) (fun y=>y.1.length=l.length):=by
 show Df (j1v j1r q0l _) _;unfold j1v;dsimp only;refine dZ (P:=fun y=>y.1.length=l.length) ?_ (fun _ h=>dP h);refine dL ?I ?m ?h _ ?hv ?hn
 case I=>exact (fun v=>v.2.2.1=B∧v.2.2.2.1=l∧v.2.2.2.2.1=l.length∧0≤v.2.2.2.2.2.1∧v.2.2.2.2.2.1≤l.length∧v.2.2.2.2.2.2.1.length=v.2.2.2.2.2.1)
 case m=>exact (fun v=>(l.length - v.2.2.2.2.2.1).toNat)
 case hv=>exact ⟨rfl,rfl,rfl,by first | omega | (dsimp only;omega),by first | omega | (dsimp only;omega),rfl⟩
 case hn=>exact (by first | omega | (dsimp only;omega))
 rintro ⟨x0,x1,x2,x3,x4,x5,x6,u⟩ hI;dsimp only at hI;obtain ⟨rfl,rfl,rfl,h0,h1,h2⟩:=hI;unfold q3s;dsimp only;with_reducible repeat' (first | apply dP | apply dX<;>intro _)
 · refine dZ (b5h _ _ _ _ hB) ?_
   rintro ⟨m,u⟩ -
   dsimp only;rw [qh (n:=x5+1) (by omega)];with_reducible repeat' (first | apply dP | apply dX<;>intro _)
   · exact ⟨⟨rfl,rfl,rfl,by first | omega | (dsimp only;omega),by first | omega | (dsimp only;omega),by simp only [List.length_append,List.length_cons,List.length_nil];omega⟩,by first | omega | (dsimp only;omega)⟩
   · refine dO ?_;simp only [List.length_cons,List.length_nil] at *;omega
 · refine dO ?_;omega
 · exact (by first | omega | (dsimp only;omega):x6.length=x3.length)
theorem f3c (T:List R6) (A:List R4) (B:List R3) (l:List Int) (hl:l.length≤1000000000000):Df (x1u (T,A,B,l,())) (fun y=>y.1.length=l.length):=by
 show Df (x8p x1v _) _;unfold x8p;dsimp only;exact dZ (b5g T A B l hl) fun _ h=>dP h
theorem f3b (T:List R6) (A:List R4) (B:List R3) (hB:B.length≤1000000000000) (l:List Int) (hl:l.length≤1000000000000):Df (x1t (T,A,B,l,())) (fun y=>y.1.length=l.length):=by
 show Df (x8o j1q _) _;unfold x8o;dsimp only;exact dZ (g1d T A B hB l hl) fun _ h=>dP h
theorem v1a (a b c:Int):Df (zz (a,b,c,())) (fun _=>True):=by
 show Df (z7t _) _;unfold z7t;dsimp only;with_reducible repeat' (first | apply dP | apply dX<;>intro _)
 all_goals trivial
theorem b6v (a:Int):Df (vm (a,())) (fun y=>y.1.length≤3):=by
 show Df (v8u _) _;unfold v8u;dsimp only;with_reducible repeat' (first | apply dP | apply dX<;>intro _)
 all_goals (dsimp only;simp)
theorem b6w (a b:List Int) (ha:a.length≤1000000) (hb:b.length≤1000000):Df (vh ([a,b],())) (fun y=>y.1.length=a.length+b.length):=by
 show Df (v8v j9t j4v j4w _) _;unfold v8v;dsimp only;refine dZ (P:=fun y=>y.1=[a,b]∧0≤y.2.1∧y.2.1≤2000000) ?_ ?_
 · refine dL ?I ?m ?h _ ?hv ?hn
   case I=>exact (fun v=>v.1=[a,b]∧v.2.2.1=[a,b]∧v.2.2.2.1=2∧((v.2.2.2.2.1=0∧v.2.1=0)∨(v.2.2.2.2.1=1∧v.2.1=a.length)∨(v.2.2.2.2.1=2∧v.2.1=a.length+b.length)))
   case m=>exact (fun v=>(2 - v.2.2.2.2.1).toNat)
   case hv=>exact ⟨rfl,rfl,rfl,.inl ⟨rfl,rfl⟩⟩
   case hn=>exact (by first | omega | (dsimp only;omega))
   rintro ⟨x0,x1,x2,x3,x4,u⟩ hI;dsimp only at hI;obtain ⟨rfl,rfl,rfl,hI⟩:=hI;unfold z4n;dsimp only;rcases hI with ⟨rfl,rfl⟩ | ⟨rfl,rfl⟩ | ⟨rfl,rfl⟩
   · have e:([a,b]:List (List Int)).getD (0:Int).toNat []=a:=rfl
     rw [e,qh (n:=0+(a.length:Int)) (by omega),qh (n:=(0:Int)+1) (by omega)];with_reducible repeat' (first | apply dP | apply dX<;>intro _)
     all_goals first
      | exact ⟨⟨rfl,rfl,rfl,.inr (.inl ⟨rfl,by first | omega | (dsimp only;omega)⟩)⟩,by first | omega | (dsimp only;omega)⟩
      | (refine dO ?_;simp only [List.length_cons,List.length_nil] at *;omega)
      | (exfalso;omega)
   · have e:([a,b]:List (List Int)).getD (1:Int).toNat []=b:=rfl
     rw [e,qh (n:=(a.length:Int)+(b.length:Int)) (by omega),qh (n:=(1:Int)+1) (by omega)];with_reducible repeat' (first | apply dP | apply dX<;>intro _)
     all_goals first
      | exact ⟨⟨rfl,rfl,rfl,.inr (.inr ⟨rfl,rfl⟩)⟩,by first | omega | (dsimp only;omega)⟩
      | (refine dO ?_;simp only [List.length_cons,List.length_nil] at *;omega)
      | (exfalso;omega)
   · with_reducible repeat' (first | apply dP | apply dX<;>intro _)
     all_goals first
      | exact ⟨rfl,by first | omega | (dsimp only;omega),by first | omega | (dsimp only;omega)⟩
      | (refine dO ?_;simp only [List.length_cons,List.length_nil] at *;omega)
      | (exfalso;omega)
 · rintro ⟨x0,x1,u⟩ hI
   dsimp only at hI ⊢;obtain ⟨rfl,h0,h1⟩:=hI;refine dZ (P:=fun y=>y.1=[]) ?_ ?_
   · unfold j9t
     dsimp only;with_reducible repeat' (first | apply dP | apply dX<;>intro _)
     · rfl
     · refine dO ?_;omega
   rintro ⟨x2,u⟩ hx;dsimp only at hx ⊢;subst hx;refine dZ (P:=fun y=>y.1.length=a.length+b.length) ?_ (fun _ h=>dP h);refine dL ?I ?m ?h _ ?hv ?hn
   case I=>exact (fun v=>v.1=[a,b]∧v.2.1=2∧((v.2.2.1=0∧v.2.2.2.1.length=0)∨(v.2.2.1=1∧v.2.2.2.1.length=a.length)∨(v.2.2.1=2∧v.2.2.2.1.length=a.length+b.length)))
   case m=>exact (fun v=>(2 - v.2.2.1).toNat)
   case hv=>exact ⟨rfl,rfl,.inl ⟨rfl,rfl⟩⟩
   case hn=>exact (by first | omega | (dsimp only;omega))
   rintro ⟨x0,x1,x2,x3,u⟩ hI;dsimp only at hI;obtain ⟨rfl,rfl,hI⟩:=hI;unfold z4o;dsimp only;rcases hI with ⟨rfl,hx⟩ | ⟨rfl,hx⟩ | ⟨rfl,hx⟩
   · have e:([a,b]:List (List Int)).getD (0:Int).toNat []=a:=rfl
     rw [e,qh (n:=(0:Int)+1) (by omega)];with_reducible repeat' (first | apply dP | apply dX<;>intro _)
     all_goals first
      | exact ⟨⟨rfl,rfl,.inr (.inl ⟨rfl,by simp only [List.length_append];omega⟩)⟩,by first | omega | (dsimp only;omega)⟩
      | (refine dO ?_;simp only [List.length_cons,List.length_nil] at *;omega)
      | (exfalso;omega)
   · have e:([a,b]:List (List Int)).getD (1:Int).toNat []=b:=rfl
     rw [e,qh (n:=(1:Int)+1) (by omega)];with_reducible repeat' (first | apply dP | apply dX<;>intro _)
     all_goals first
      | exact ⟨⟨rfl,rfl,.inr (.inr ⟨rfl,by simp only [List.length_append];omega⟩)⟩,by first | omega | (dsimp only;omega)⟩
      | (refine dO ?_;simp only [List.length_cons,List.length_nil] at *;omega)
      | (exfalso;omega)
   · with_reducible repeat' (first | apply dP | apply dX<;>intro _)
     all_goals first
      | exact hx
      | (refine dO ?_;simp only [List.length_cons,List.length_nil] at *;omega)
      | (exfalso;omega)
def nxt (r:Int):Option (Int×Int):=bif decide (65281≤r)&&decide (r≤65374) then some (r - 65248,0) else (q1s r).map fun s=>(s.2.1,s.2.2.1)
def dep:Nat→Int→Bool
 | 0,_=>false
 | n+1,r=>match nxt r with
  | none=>true
  | some (a,b)=>dep n a&&(b==0||dep n b)
theorem g2j:((List.range 94).all fun n=>dep 4 ((33+n:Nat):Int))=true:=by kernel_rfl
theorem g2k:(qw.all fun s=>dep 4 s.2.1&&(s.2.2.1==0||dep 4 s.2.2.1))=true:=by kernel_rfl
theorem k2b (r:Int):dep 5 r=true:=by
 unfold dep;cases h:nxt r with
 | none=>rfl
 | some p =>
  obtain ⟨a,b⟩:=p;dsimp only;unfold nxt at h;by_cases hw:65281≤r∧r≤65374
  · rw [decide_eq_true hw.1,decide_eq_true hw.2] at h
    simp only [Bool.and_self,cond_true,Option.some.injEq,Prod.mk.injEq] at h;obtain ⟨rfl,rfl⟩:=h;have:=List.all_eq_true.1 g2j (r - 65281).toNat (List.mem_range.2 (by omega))
    rw [show (((33+(r - 65281).toNat:Nat)):Int)=r - 65248 by omega] at this;rw [this];rfl
  · have e:(decide (65281≤r)&&decide (r≤65374))=false:=by simp;omega
    rw [e] at h;simp only [cond_false,Option.map_eq_some_iff] at h;obtain ⟨s,hs,he⟩:=h;have hm:s∈qw:=List.mem_of_find?_eq_some hs;have:=List.all_eq_true.1 g2k s hm;cases he;exact this
theorem f2r (T:List R6) (A:List R4) (B:List R3) (r:Int):Df (zp (T,A,B,r,())) (fun v=>v.2.2.2.2.2.1=false∨nxt r=some (v.2.1,v.2.2.1)):=by
 unfold zp nxt;dsimp only;with_reducible repeat' (first | apply dP | apply dX<;>intro _)
 · rename_i h
   refine .inr ?_;rw [decide_eq_true h.1,decide_eq_true h.2];rfl
 · rename_i h
   have e:(decide (65281≤r)&&decide (r≤65374))=false:=by simp;omega
   rw [e];cases q1s r with
   | none=>exact dP (.inl rfl)
   | some s=>exact dP (.inr rfl)
theorem v0x (G:q6f) (r:Int) (sf b:Bool) (T:List R6) (A:List R4) (B:List R3) (v0 a c:Int) (s o:Bool) (K:Nat) (hK:1≤K)
 (ha:b=false→c=0→Df (G (T,A,B,a,sf,())) (fun y=>y.1.length≤K)) :
 Df (yh zp G zz vm vh (r,sf,b,T,A,B,v0,a,c,s,o,())) (Sum.elim (fun y=>y.1.length≤K) (fun y=>y=(sf,T,A,B,v0,a,c,s,o,())∧b=false∧c≠0)):=by
 unfold yh;dsimp only;with_reducible repeat' (first | apply dP | apply dX<;>intro _)
 · exact (by simpa using hK:([r]:List Int).length≤K)
 · rename_i h1 h2
   exact dZ (ha h1 h2) fun y hy=>dP hy
 · rename_i h1 h2
   exact ⟨rfl,h1,h2⟩
theorem w5i (T:List R6) (A:List R4) (B:List R3):∀(n m:Nat) (r:Int) (sf:Bool),dep n r=true→n≤9 →
 Df (q0u (fun G=>j1w zp G zz vm vh (yh zp G zz vm vh)) (n+m) (T,A,B,r,sf,())) (fun y=>y.1.length≤3*2^n)
 | 0,m,r,sf,h,hn=>by cases h
 | n+1,m,r,sf,h,hn=>by
  rw [show n+1+m=(n+m)+1 by omega];show Df (j1w zp (q0u (fun G=>j1w zp G zz vm vh (yh zp G zz vm vh)) (n+m)) zz vm vh (yh zp (q0u (fun G=>j1w zp G zz vm vh (yh zp G zz vm vh)) (n+m)) zz vm vh) (T,A,B,r,sf,())) _;have ih:=w5i T A B n m;generalize q0u (fun G=>j1w zp G zz vm vh (yh zp G zz vm vh)) (n+m)=G at ih ⊢;have hp:3*2^n≤3*2^9:=Nat.mul_le_mul_left 3 (Nat.pow_le_pow_right (by omega) (by omega));have hp1:1≤2^n:=Nat.one_le_two_pow;have hp2:3*2^(n+1)=3*2^n+3*2^n:=by rw [Nat.pow_succ];omega
  generalize 3*2^n=K at ih hp hp2;have hK:3≤K∨True := .inr trivial;rw [hp2];have hK3:3≤K+K:=by
   have:3*2^1≤3*2^(n+1):=Nat.mul_le_mul_left 3 (Nat.pow_le_pow_right (by omega) (by omega));omega
  have ih':∀(r:Int) (sf:Bool),dep n r=true→Df (G (T,A,B,r,sf,())) (fun y=>y.1.length≤K):=fun r sf h=>ih r sf h (by omega);clear ih;unfold j1w;dsimp only;refine dZ (f2r T A B r) ?_;rintro ⟨v0,a,c,s,o,is,u⟩ hv;dsimp only at hv ⊢;refine dZ (v1a _ _ _) ?_;rintro ⟨b,u⟩ -
  dsimp only;have two:is=true→c≠0→∀sf,Df ((G (T,A,B,a,sf,())).bind fun val_2=>(G (T,A,B,c,sf,())).bind fun val=>(vh ([val_2.fst,val.fst],())).bind fun val=>some (val.fst,())) (fun y=>y.1.length≤K+K):=by
   intro his hc sf;rcases hv with rfl | hv
   · cases his
   · unfold dep at h
     rw [hv] at h;simp only [Bool.and_eq_true,Bool.or_eq_true,beq_iff_eq] at h;refine dZ (ih' a sf h.1) ?_;rintro ⟨p,u⟩ hp';refine dZ (ih' c sf (h.2.resolve_left hc)) ?_;rintro ⟨q,u⟩ hq;dsimp only at hp' hq ⊢;refine dZ (b6w p q (by omega) (by omega)) ?_;rintro ⟨z,u⟩ hz;exact dP (by dsimp only at hz ⊢;omega)
  have one:is=true→Df (G (T,A,B,a,sf,())) (fun y=>y.1.length≤K+K):=by
   intro his;rcases hv with rfl | hv
   · cases his
   · unfold dep at h
     rw [hv] at h;simp only [Bool.and_eq_true] at h;exact (ih' a sf h.1).mono fun _ h=>by omega
  with_reducible repeat' (first | apply dP | apply dX<;>intro _)
  · refine dZ (b6v _) ?_
    rintro ⟨l,u⟩ hl;exact dP (by dsimp only at hl ⊢;omega)
  · refine dZ (v0x G r sf true T A B v0 a c s o (K+K) (by omega) (fun h=>by cases h)) ?_
    intro z hz;refine dS hz (fun y hy=>dP hy) ?_;rintro y ⟨-,h,-⟩;cases h
  · rename_i h1 h2 h3
    refine dZ (v0x G r sf (!sf) T A B v0 a c s o (K+K) (by omega) (fun _ _=>one h2)) ?_;intro z hz;refine dS hz (fun y hy=>dP hy) ?_;rintro y ⟨rfl,-,hc⟩;exact two h2 hc sf
  · rename_i h1 h2 h3
    refine dZ (v0x G r sf false T A B v0 a c s o (K+K) (by omega) (fun _ _=>one h2)) ?_;intro z hz;refine dS hz (fun y hy=>dP hy) ?_;rintro y ⟨rfl,-,hc⟩;exact two h2 hc sf
theorem b6h (T:List R6) (A:List R4) (B:List R3) (r:Int) (sf:Bool):Df (j9s (T,A,B,r,sf,())) (fun y=>y.1.length≤96):=by
 obtain ⟨m,hm⟩:∃m,jd=5+m:=⟨jd - 5,by unfold jd;omega⟩
 show Df (q0u (fun G=>j1w zp G zz vm vh (yh zp G zz vm vh)) jd _) _;rw [hm];exact w5i T A B 5 m r sf (k2b r) (by omega)
theorem f3k (T:List R6) (A:List R4) (B:List R3) (l:List Int) (sf:Bool) (hl:l.length≤100000000000):Df (x6o (T,A,B,l,sf,())) (fun y=>y.1.length≤96*l.length):=by
 show Df (x2r j9s q7n _) _;unfold x2r;dsimp only;refine dZ (P:=fun y=>y.1.length≤96*l.length) ?_ (fun _ h=>dP h);refine dL ?I ?m ?h _ ?hv ?hn
 case I=>exact (fun v=>v.2.1=l∧v.2.2.1=l.length∧0≤v.2.2.2.1∧v.2.2.2.1≤l.length∧v.2.2.2.2.2.2.2.1.length≤96*v.2.2.2.1)
 case m=>exact (fun v=>(l.length - v.2.2.2.1).toNat)
 case hv=>exact ⟨rfl,rfl,by first | omega | (dsimp only;omega),by first | omega | (dsimp only;omega),by simp⟩
 case hn=>exact (by first | omega | (dsimp only;omega))
 rintro ⟨x0,x1,x2,x3,x4,x5,x6,x7,u⟩ hI;dsimp only at hI;obtain ⟨rfl,rfl,h0,h1,h2⟩:=hI;unfold j5m;dsimp only;with_reducible repeat' (first | apply dP | apply dX<;>intro _)
 · refine dZ (b6h _ _ _ _ _) ?_
   rintro ⟨z,u⟩ hz;dsimp only at hz ⊢;rw [qh (n:=x3+1) (by omega)];with_reducible repeat' (first | apply dP | apply dX<;>intro _)
   · exact ⟨⟨rfl,rfl,by first | omega | (dsimp only;omega),by first | omega | (dsimp only;omega),by simp only [List.length_append];omega⟩,by first | omega | (dsimp only;omega)⟩
   · refine dO ?_;omega
 · refine dO ?_;omega
 · exact (by first | omega | (dsimp only;omega):x7.length≤96*x1.length)
theorem b6x (T:List R6) (A:List R4) (B:List R3) (a b:Int):Df (q2g (T,A,B,a,b,())) (fun _=>True):=by
 unfold q2g;dsimp only;cases j9h a b with
 | none=>exact dP trivial
 | some s=>exact dP trivial
theorem g1t (a b:Int) (f:Bool) (T:List R6) (A:List R4) (B:List R3):Df (ka (a,b,f,T,A,B,())) (fun _=>True):=by
 show Df (q3u zz q2g _) _;unfold q3u;dsimp only;with_reducible repeat' (first | apply dP | apply dX<;>intro _)
 · trivial
 · refine dZ (v1a _ _ _) ?_
   rintro ⟨z,u⟩ -
   dsimp only;with_reducible repeat' (first | apply dP | apply dX<;>intro _)
   · refine dZ (v1a _ _ _) ?_
     rintro ⟨z,u⟩ -
     dsimp only;with_reducible repeat' (first | apply dP | apply dX<;>intro _)
     all_goals trivial
   all_goals trivial
theorem b6i (T:List R6) (A:List R4) (B:List R3) (a b:Int):Df (q7w (T,A,B,a,b,())) (fun _=>True):=by
 show Df (x2u zz q2g ka _) _;unfold x2u;dsimp only;have jy:∀f,Df ((ka (a,b,f,T,A,B,())).bind fun val=>Sum.elim (fun val=>some (val.fst,val.snd.fst,())) (fun val=>(q2g (val.snd.snd.fst,val.snd.snd.snd.fst,val.snd.snd.snd.snd.fst,val.fst,val.snd.fst,())).bind fun val=>some (val.fst,val.snd.fst,())) val) (fun _=>True):=by
  intro f;refine dZ (g1t a b f T A B) ?_;intro z hz;cases z with
  | inl y=>exact dP trivial
  | inr y=>exact dZ (b6x _ _ _ _ _) fun _ _=>dP trivial
 refine dZ (v1a _ _ _) ?_;rintro ⟨z,u⟩ -
 dsimp only;with_reducible repeat' (first | apply dP | apply dX<;>intro _)
 · refine dZ (v1a _ _ _) ?_
   rintro ⟨z,u⟩ -
   exact jy _
 · exact jy _
theorem g1n (x0 x1 x2 x3:Int) (x4:List Int) (x5 x6:Int) (x7:Bool) (x8:List R6) (x9:List R4) (x10:List R3) (x11:List Int) (h:x7=true→0≤x0∧x0<x11.length) :
 Df (q1d (x0,x1,x2,x3,x4,x5,x6,x7,x8,x9,x10,x11,())) (Sum.elim (fun y=>∃l',l'.length=x11.length∧y=(x0,x1,x4,x5,x6,x8,x9,x10,l',())) (fun y=>y=(x0,x1,x2,x3,x4,x5,x6,x8,x9,x10,x11,()))):=by
 show Df (q3t xb q7w _) _;unfold q3t;dsimp only;with_reducible repeat' (first | apply dP | apply dX<;>intro _)
 · refine dZ (b6i _ _ _ _ _) ?_
   rintro ⟨a,b,u⟩ -
   dsimp only;with_reducible repeat' (first | apply dP | apply dX<;>intro _)
   · exact ⟨_,List.length_set,rfl⟩
   · rename_i h1 h2 h3 h4
     exact absurd h2 h4
   · exact rfl
 · rename_i h1 h2
   exact dO (h2 (h h1))
 · exact rfl
theorem f3l (T:List R6) (A:List R4) (B:List R3) (l:List Int) (hl:l.length≤10000000000000) (hA:A.length≤1000000000000):Df (x6p (T,A,B,l,())) (fun y=>y.1.length≤l.length):=by
 show Df (x2s xb q7w q7o _) _;unfold x2s;dsimp only;refine dZ (P:=fun y=>y.1.length≤l.length) ?_ (fun _ h=>dP h);refine dL ?I ?m ?h _ ?hv ?hn
 case I=>exact (fun v=>v.2.2.1=l∧v.2.2.2.1=l.length∧0≤v.2.2.2.2.1∧v.2.2.2.2.1≤l.length∧v.2.2.2.2.2.2.1=A∧v.2.2.2.2.2.2.2.2.1.length≤v.2.2.2.2.1∧v.1<v.2.2.2.2.2.2.2.2.1.length)
 case m=>exact (fun v=>(l.length - v.2.2.2.2.1).toNat)
 case hv=>exact ⟨rfl,rfl,by first | omega | (dsimp only;omega),by first | omega | (dsimp only;omega),rfl,by simp,by simp⟩
 case hn=>exact (by first | omega | (dsimp only;omega))
 rintro ⟨x0,x1,x2,x3,x4,x5,x6,x7,x8,u⟩ hI;dsimp only at hI;obtain ⟨rfl,rfl,h0,h1,rfl,h2,h3⟩:=hI;have jy:∀(cl:Int) (f:Bool),(f=true→0≤x0∧x0<x8.length)→x4<x2.length→Df ((q1d (x0,x1,x2.getD x4.toNat 0,cl,x2,(x2.length:Int),x4,f,x5,x6,x7,x8,())).bind fun val =>
  Sum.elim (fun val=>some (Sum.inl (val.fst,val.snd.fst,val.snd.snd.fst,val.snd.snd.snd.fst,IntKind.i64.wrap (val.snd.snd.snd.snd.fst+1),val.snd.snd.snd.snd.snd.fst,val.snd.snd.snd.snd.snd.snd.fst,val.snd.snd.snd.snd.snd.snd.snd.fst,val.snd.snd.snd.snd.snd.snd.snd.snd.fst,())))
   (fun val=>bif decide (List.length val.snd.snd.snd.snd.snd.snd.snd.snd.snd.snd.fst+[val.snd.snd.fst].length≤140737488355328/4) then
    bif val.snd.snd.snd.fst==0 then some (Sum.inl (IntKind.i64.wrap ((↑(val.snd.snd.snd.snd.snd.snd.snd.snd.snd.snd.fst++[val.snd.snd.fst]).length:Int) - 1),0,val.snd.snd.snd.snd.fst,val.snd.snd.snd.snd.snd.fst,IntKind.i64.wrap (val.snd.snd.snd.snd.snd.snd.fst+1),val.snd.snd.snd.snd.snd.snd.snd.fst,val.snd.snd.snd.snd.snd.snd.snd.snd.fst,val.snd.snd.snd.snd.snd.snd.snd.snd.snd.fst,val.snd.snd.snd.snd.snd.snd.snd.snd.snd.snd.fst++[val.snd.snd.fst],()))
    else some (Sum.inl (val.fst,if val.snd.snd.snd.fst>val.snd.fst then val.snd.snd.snd.fst else val.snd.fst,val.snd.snd.snd.snd.fst,val.snd.snd.snd.snd.snd.fst,IntKind.i64.wrap (val.snd.snd.snd.snd.snd.snd.fst+1),val.snd.snd.snd.snd.snd.snd.snd.fst,val.snd.snd.snd.snd.snd.snd.snd.snd.fst,val.snd.snd.snd.snd.snd.snd.snd.snd.snd.fst,val.snd.snd.snd.snd.snd.snd.snd.snd.snd.snd.fst++[val.snd.snd.fst],()))
    else none) val)
  (Sum.elim (fun v':Int×Int×List Int×Int×Int×List R6×List R4×List R3×List Int×Unit=>(v'.2.2.1=x2∧v'.2.2.2.1=(x2.length:Int)∧0≤v'.2.2.2.2.1∧v'.2.2.2.2.1≤x2.length∧v'.2.2.2.2.2.2.1=x6∧v'.2.2.2.2.2.2.2.2.1.length≤v'.2.2.2.2.1∧v'.1<v'.2.2.2.2.2.2.2.2.1.length)∧(x2.length - v'.2.2.2.2.1).toNat<(x2.length - x4).toNat) (fun y:List Int×Unit=>y.1.length≤x2.length)):=by
  intro cl f hf hlt;refine dZ (g1n _ _ _ _ _ _ _ _ _ _ _ _ hf) ?_;intro z hz;refine dS hz ?_ ?_
  · rintro y ⟨l',hl',rfl⟩
    dsimp only;rw [qh (n:=x4+1) (by omega)];exact dP ⟨⟨rfl,rfl,by first | omega | (dsimp only;omega),by first | omega | (dsimp only;omega),rfl,by first | omega | (dsimp only;omega),by first | omega | (dsimp only;omega)⟩,by first | omega | (dsimp only;omega)⟩
  · rintro y rfl
    dsimp only;rw [qh (n:=x4+1) (by omega),qh (n:=((x8++[x2.getD x4.toNat 0]).length:Int) - 1) (by simp only [List.length_append,List.length_cons,List.length_nil];omega)];with_reducible repeat' (first | apply dP | apply dX<;>intro _)
    · exact ⟨⟨rfl,rfl,by first | omega | (dsimp only;omega),by first | omega | (dsimp only;omega),rfl,by simp only [List.length_append,List.length_cons,List.length_nil];omega,by simp only [List.length_append,List.length_cons,List.length_nil];omega⟩,by first | omega | (dsimp only;omega)⟩
    · exact ⟨⟨rfl,rfl,by first | omega | (dsimp only;omega),by first | omega | (dsimp only;omega),rfl,by simp only [List.length_append,List.length_cons,List.length_nil];omega,by simp only [List.length_append,List.length_cons,List.length_nil];omega⟩,by first | omega | (dsimp only;omega)⟩
    · refine dO ?_;simp only [List.length_cons,List.length_nil] at *;omega
 unfold j5n;dsimp only;with_reducible repeat' (first | apply dP | apply dX<;>intro _)
 · rename_i h4 h5
   refine dZ (v0w _ _ _ _ hA) ?_;rintro ⟨cl,u⟩ -
   dsimp only;with_reducible repeat' (first | apply dP | apply dX<;>intro _)
   · exact jy _ _ (fun _=>by omega) (by omega)
   · exact jy _ _ (fun _=>by omega) (by omega)
   · exact jy _ _ (fun h=>by cases h) (by omega)
 · refine dO ?_;omega
 · exact (by first | omega | (dsimp only;omega):x8.length≤x2.length)
theorem g1w (a b:Int):Df (q2f (a,b,())) (fun y=>1≤y.1∧y.1≤26):=by
 show Df (v8o _) _;unfold v8o;dsimp only;refine dP ?_;dsimp only;generalize IntKind.i64.wrap (a - b)=n;split<;>split<;>omega
theorem g1x (a:Int) (b:Bool):Df (q7x (a,b,())) (fun _=>True):=by
 show Df (j5s _) _;unfold j5s;dsimp only;with_reducible repeat' (first | apply dP | apply dX<;>intro _)
 all_goals trivial
theorem k1y (a:Int):Df (z2z (a,())) (fun _=>True):=by
 show Df (v8p q7x _) _;unfold v8p;dsimp only;with_reducible repeat' (first | apply dP | apply dX<;>intro _)
 all_goals (refine dZ (g1x _ _) ?_;intro z hz;cases z<;>exact dP trivial)
theorem g1o (n b k:Int) (out:List UInt8) (j:Nat) (h0:0≤n) (h1:n<10^j) (hb:out.length+j≤100000000000000) (hn:n≤100000000000000) :
 Df (q3l (n,b,k,out,())) (fun y=>y.1.length≤out.length+j+1):=by
 refine dL ?I ?m ?h _ ?hv ?hn
 case I=>exact (fun v=>∃j':Nat,0≤v.1∧v.1<10^j'∧v.1≤n∧v.2.2.2.1.length+j'≤out.length+j)
 case m=>exact (fun v=>v.1.toNat)
 case hv=>exact ⟨j,h0,h1,Int.le_refl _,Nat.le_refl _⟩
 case hn=>exact (by first | omega | (dsimp only;omega))
 rintro ⟨x0,x1,x2,x3,u⟩ hI;dsimp only at hI;obtain ⟨j',i0,i1,i2,i3⟩:=hI;unfold j5o;dsimp only;refine dZ (g1w _ _) ?_;rintro ⟨t,u⟩ ht;dsimp only at ht ⊢;with_reducible repeat' (first | apply dP | apply dX<;>intro _)
 · refine dZ (k1y _) ?_
   rintro ⟨d,d',u⟩ -
   dsimp only;with_reducible repeat' (first | apply dP | apply dX<;>intro _)
   · exact (by simp only [List.length_append,List.length_cons,List.length_nil];omega:(x3++[_]).length≤out.length+j+1)
   · refine dO ?_;simp only [List.length_cons,List.length_nil] at *;omega
 · rename_i hge hne
   refine dZ (k1y _) ?_;rintro ⟨d,d',u⟩ -
   dsimp only;rw [qh (n:=36 - t) (by omega)] at hne ⊢;rw [qh (n:=x0 - t) (by omega),Int.tdiv_eq_ediv_of_nonneg (by omega)];have q0:0≤(x0 - t)/(36 - t):=Int.ediv_nonneg (by omega) (by omega);have q1:(x0 - t)/(36 - t)*(36 - t)≤x0 - t:=Int.ediv_mul_le _ (by omega);have q2:(x0 - t)/(36 - t)*10≤(x0 - t)/(36 - t)*(36 - t):=Int.mul_le_mul_of_nonneg_left (by omega) q0;generalize (x0 - t)/(36 - t)=q at q0 q1 q2 ⊢;rw [qh (n:=q) (by omega)];with_reducible repeat' (first | apply dP | apply dX<;>intro _)
   · obtain ⟨i,rfl⟩:∃i,j'=i+1:=by
      cases j' with
      | zero=>simp at i1;omega
      | succ i=>exact ⟨i,rfl⟩
     rw [Int.pow_succ] at i1;generalize hP:(10:Int)^i=P at i1;refine ⟨⟨i,q0,?_,?_,?_⟩,?_⟩
     · show q<10^i
       rw [hP];omega
     · dsimp only;omega
     · simp only [List.length_append,List.length_cons,List.length_nil];omega
     · dsimp only;omega
   · rename_i hz
     exact absurd hz hne
   · refine dO ?_;simp only [List.length_cons,List.length_nil] at *;omega
 · rename_i hge hne
   rw [qh (n:=36 - t) (by omega)] at hne;refine dO ?_;omega
theorem b5r (n b:Int) (out:List UInt8) (h0:0≤n) (h1:n<10^13) (hb:out.length≤90000000000000) :
 Df (q6a (n,b,out,())) (fun y=>y.1.length≤out.length+14):=by
 show Df (v7v q2f z2z q3l _) _;unfold v7v;dsimp only;refine dZ (g1w _ _) ?_;rintro ⟨t,u⟩ ht;dsimp only at ht ⊢;have h13:(10:Int)^13=10000000000000:=rfl;have h12:(10:Int)^12=1000000000000:=rfl;rw [h13] at h1;with_reducible repeat' (first | apply dP | apply dX<;>intro _)
 · refine dZ (k1y _) ?_
   rintro ⟨d,d',u⟩ -
   dsimp only;with_reducible repeat' (first | apply dP | apply dX<;>intro _)
   · exact (by simp only [List.length_append,List.length_cons,List.length_nil];omega:(out++[_]).length≤out.length+14)
   · refine dO ?_;simp only [List.length_cons,List.length_nil] at *;omega
 · rename_i hge hne
   refine dZ (k1y _) ?_;rintro ⟨d,d',u⟩ -
   dsimp only;rw [qh (n:=36 - t) (by omega)] at hne ⊢;rw [qh (n:=n - t) (by omega),Int.tdiv_eq_ediv_of_nonneg (by omega)];have q0:0≤(n - t)/(36 - t):=Int.ediv_nonneg (by omega) (by omega);have q1:(n - t)/(36 - t)*(36 - t)≤n - t:=Int.ediv_mul_le _ (by omega);have q2:(n - t)/(36 - t)*10≤(n - t)/(36 - t)*(36 - t):=Int.mul_le_mul_of_nonneg_left (by omega) q0;generalize (n - t)/(36 - t)=q at q0 q1 q2 ⊢;rw [qh (n:=q) (by omega)];with_reducible repeat' (first | apply dP | apply dX<;>intro _)
   · refine dZ (g1o q b _ (out++[UInt8.ofNat (Int.toNat d)]) 12 q0 (by rw [h12];omega) (by simp only [List.length_append,List.length_cons,List.length_nil];omega) (by omega)) ?_
     rintro ⟨y,u⟩ hy;simp only [List.length_append,List.length_cons,List.length_nil] at hy;exact dP (by first | omega | (dsimp only;omega))
   · rename_i hz
     exact absurd hz hne
   · refine dO ?_;simp only [List.length_cons,List.length_nil] at *;omega
 · rename_i hge hne
   rw [qh (n:=36 - t) (by omega)] at hne;refine dO ?_;omega
theorem g1p (a b:Int) (h0:0≤a) (h1:a≤100000000000000000):Df (q7r (a,b,())) (fun y=>0≤y.1∧y.1≤455):=by
 refine dL ?I ?m ?h _ ?hv ?hn
 case I=>exact (fun v=>0≤v.1∧v.1≤100000000000000000)
 case m=>exact (fun v=>v.1.toNat)
 case hv=>exact ⟨h0,h1⟩
 case hn=>exact (by first | omega | (dsimp only;omega))
 rintro ⟨x0,x1,u⟩ hI;dsimp only at hI;unfold z4c;dsimp only;with_reducible repeat' (first | apply dP | apply dX<;>intro _)
 · rw [Int.tdiv_eq_ediv_of_nonneg (by omega),qh (n:=x0/35) (by omega)]
   exact ⟨⟨by first | omega | (dsimp only;omega),by first | omega | (dsimp only;omega)⟩,by first | omega | (dsimp only;omega)⟩
 · exact ⟨by first | omega | (dsimp only;omega),by first | omega | (dsimp only;omega)⟩
theorem v0v (a c:Int) (h0:0≤a) (h1:a≤10000000000000000):Df (q7q (a,c,())) (fun _=>True):=by
 show Df (j5p q7r _) _;unfold j5p;dsimp only;have hm:1≤(if c>1 then c else 1):=by split<;>omega
 generalize (if c>1 then c else 1)=m at hm;have q0:0≤a/m:=Int.ediv_nonneg h0 (by omega);have q1:a/m≤a:=Int.ediv_le_self _ h0;rw [Int.tdiv_eq_ediv_of_nonneg h0,qh (n:=a/m) (by omega),qh (n:=a+a/m) (by omega)];with_reducible repeat' (first | apply dP | apply dX<;>intro _)
 · refine dZ (g1p _ _ (by omega) (by omega)) ?_
   rintro ⟨x,y,u⟩ h;dsimp only at h ⊢;rw [qh (n:=x+38) (by omega)];with_reducible repeat' (first | apply dP | apply dX<;>intro _)
   · trivial
   · refine dO ?_;omega
 · refine dO ?_;omega
theorem f3o (a c:Int) (f:Bool) (h0:0≤a) (h1:a≤10000000000000000):Df (wo (a,c,f,())) (fun _=>True):=by
 show Df (v7w q7q _) _;unfold v7w;dsimp only;rw [Int.tdiv_eq_ediv_of_nonneg h0,Int.tdiv_eq_ediv_of_nonneg h0,qh (n:=a/700) (by omega),qh (n:=a/2) (by omega)];with_reducible repeat' (first | apply dP | apply dX<;>intro _)
 · exact dZ (v0v _ _ (by omega) (by omega)) fun _ _=>dP trivial
 · exact dZ (v0v _ _ (by omega) (by omega)) fun _ _=>dP trivial
def cnt (n:Int) (l:List Int):Nat:=l.countP fun r=>decide (r<n)
def ceq (n:Int) (l:List Int):Nat:=l.countP fun r=>decide (r=n)
theorem j8m (n:Int) (l:List Int):cnt n l≤l.length:=List.countP_le_length
theorem z8z (n:Int):∀l:List Int,cnt (n+1) l=cnt n l+ceq n l
 | []=>rfl
 | x::l=>by
  have ih:=z8z n l;unfold cnt ceq at *
  simp only [List.countP_cons,decide_eq_true_eq];split<;>split<;>split<;>omega
theorem z8y {n m:Int} (h:n≤m):∀{l:List Int},(∀r∈l,n≤r→m≤r)→cnt m l=cnt n l
 | [],_=>rfl
 | x::l,hl=>by
  have ih:=z8y (l:=l) h fun r hr=>hl r (List.mem_cons_of_mem _ hr);have hx:=hl x List.mem_cons_self;unfold cnt at *
  simp only [List.countP_cons,decide_eq_true_eq];split<;>split<;>omega
theorem y9m {n:Int}:∀{l:List Int},(∀r∈l,r<n)→cnt n l=l.length
 | [],_=>rfl
 | x::l,hl=>by
  have ih:=y9m (l:=l) fun r hr=>hl r (List.mem_cons_of_mem _ hr);have hx:=hl x List.mem_cons_self;unfold cnt at *
  simp only [List.countP_cons,List.length_cons,decide_eq_true_eq,hx,if_true];omega
theorem y9l {n:Int}:∀{l:List Int},n∈l→1≤ceq n l
 | x::l,h=>by
  unfold ceq;simp only [List.countP_cons,decide_eq_true_eq];rcases List.mem_cons.1 h with rfl | h
  · simp
  · have:=y9l h
    unfold ceq at this;omega
theorem j8k {n:Int} {l:List Int} {i:Nat} (h:i<l.length):ceq n (l.take (i+1))=ceq n (l.take i)+if l[i]=n then 1 else 0:=by
 unfold ceq;rw [ql h,List.countP_append];simp [List.countP_cons]
theorem v0m {n:Int} {l:List Int} {i:Nat} (h:i<l.length):cnt n (l.take (i+1))=cnt n (l.take i)+if l[i]<n then 1 else 0:=by
 unfold cnt;rw [ql h,List.countP_append];simp [List.countP_cons]
theorem z8x (n:Int) (l:List Int) (i:Nat):ceq n (l.take i)≤ceq n l:=by
 unfold ceq;exact (List.take_sublist i l).countP_le
theorem b5q (l:List Int) (n:Int) (hn:0≤n) (hl:l.length≤1000000000000):Df (q5z (l,n,())) (fun y=>(y.1<0∧∀r∈l,r<n)∨(y.1∈l∧n≤y.1∧∀r∈l,n≤r→y.1≤r)):=by
 show Df (v7u j4p _) _;unfold v7u;dsimp only;refine dZ (P:=fun y=>(y.1<0∧∀r∈l,r<n)∨(y.1∈l∧n≤y.1∧∀r∈l,n≤r→y.1≤r)) ?_ (fun _ h=>dP h);refine dL ?I ?m ?h _ ?hv ?hn
 case I=>exact (fun v=>v.1=n∧v.2.2.1=l∧v.2.2.2.1=l.length∧0≤v.2.2.2.2.1∧v.2.2.2.2.1≤l.length∧((v.2.1<0∧∀r∈l.take v.2.2.2.2.1.toNat,r<n)∨(v.2.1∈l∧n≤v.2.1∧∀r∈l.take v.2.2.2.2.1.toNat,n≤r→v.2.1≤r)))
 case m=>exact (fun v=>(l.length - v.2.2.2.2.1).toNat)
 case hv=>exact ⟨rfl,rfl,rfl,by first | omega | (dsimp only;omega),by first | omega | (dsimp only;omega),.inl ⟨by first | omega | (dsimp only;omega),by simp⟩⟩
 case hn=>exact (by first | omega | (dsimp only;omega))
 rintro ⟨x0,x1,x2,x3,x4,u⟩ hI;dsimp only at hI;obtain ⟨rfl,rfl,rfl,h0,h1,hI⟩:=hI;unfold z4b;dsimp only;with_reducible repeat' (first | apply dP | apply dX<;>intro _)
 all_goals try rw [qh (n:=x4+1) (by omega)]
 · rename_i a1 a2 a3 a4
   have hlt:x4.toNat<x2.length:=by omega
   rw [getD_lt hlt] at a3 ⊢;refine ⟨⟨rfl,rfl,rfl,by first | omega | (dsimp only;omega),by first | omega | (dsimp only;omega),.inr ⟨List.getElem_mem hlt,a3,?_⟩⟩,by first | omega | (dsimp only;omega)⟩;dsimp only;intro r hr hge;rw [show (x4+1).toNat=x4.toNat+1 by omega,ql hlt] at hr;rcases List.mem_append.1 hr with hr | hr
   · rcases hI with ⟨_,hI⟩ | ⟨_,hx,_⟩
     · have:=hI r hr;omega
     · omega
   · rw [List.mem_singleton] at hr;omega
 · rename_i a1 a2 a3 a4 a5
   have hlt:x4.toNat<x2.length:=by omega
   rw [getD_lt hlt] at a3 a5 ⊢;refine ⟨⟨rfl,rfl,rfl,by first | omega | (dsimp only;omega),by first | omega | (dsimp only;omega),.inr ⟨List.getElem_mem hlt,a3,?_⟩⟩,by first | omega | (dsimp only;omega)⟩;dsimp only;intro r hr hge;rw [show (x4+1).toNat=x4.toNat+1 by omega,ql hlt] at hr;rcases List.mem_append.1 hr with hr | hr
   · rcases hI with ⟨hx,_⟩ | ⟨_,hx,hI⟩
     · omega
     · have:=hI r hr hge;omega
   · rw [List.mem_singleton] at hr;omega
 · rename_i a1 a2 a3 a4 a5
   have hlt:x4.toNat<x2.length:=by omega
   rw [getD_lt hlt] at a3 a5;refine ⟨⟨rfl,rfl,rfl,by first | omega | (dsimp only;omega),by first | omega | (dsimp only;omega),?_⟩,by first | omega | (dsimp only;omega)⟩;dsimp only;rcases hI with ⟨hx,_⟩ | ⟨hm,hx,hI⟩
   · omega
   · refine .inr ⟨hm,hx,fun r hr hge => ?_⟩
     rw [show (x4+1).toNat=x4.toNat+1 by omega,ql hlt] at hr;rcases List.mem_append.1 hr with hr | hr
     · exact hI r hr hge
     · rw [List.mem_singleton] at hr;omega
 · rename_i a1 a2 a3
   have hlt:x4.toNat<x2.length:=by omega
   rw [getD_lt hlt] at a3;refine ⟨⟨rfl,rfl,rfl,by first | omega | (dsimp only;omega),by first | omega | (dsimp only;omega),?_⟩,by first | omega | (dsimp only;omega)⟩;dsimp only;rcases hI with ⟨hx,hI⟩ | ⟨hm,hx,hI⟩
   · refine .inl ⟨hx,fun r hr => ?_⟩
     rw [show (x4+1).toNat=x4.toNat+1 by omega,ql hlt] at hr;rcases List.mem_append.1 hr with hr | hr
     · exact hI r hr
     · rw [List.mem_singleton] at hr;omega
   · refine .inr ⟨hm,hx,fun r hr hge => ?_⟩
     rw [show (x4+1).toNat=x4.toNat+1 by omega,ql hlt] at hr;rcases List.mem_append.1 hr with hr | hr
     · exact hI r hr hge
     · rw [List.mem_singleton] at hr;omega
 · refine dO ?_;omega
 · rw [List.take_of_length_le (by omega)] at hI
   exact hI
theorem g1i (l:List Int) (hl:l.length≤1000000000000):Df (q7l (l,l,(l.length:Int),0,[],())) (Sum.elim (fun y=>y.1=l∧(∀r∈l,0≤r∧r≤1114111)∧y.2.1.length=cnt 128 l) (fun y=>y.1=[])):=by
 refine dL ?I ?m ?h _ ?hv ?hn
 case I=>exact (fun v=>v.1=l∧v.2.1=l∧v.2.2.1=l.length∧0≤v.2.2.2.1∧v.2.2.2.1≤l.length∧(∀r∈l.take v.2.2.2.1.toNat,0≤r∧r≤1114111)∧v.2.2.2.2.1.length=cnt 128 (l.take v.2.2.2.1.toNat))
 case m=>exact (fun v=>(l.length - v.2.2.2.1).toNat)
 case hv=>exact ⟨rfl,rfl,rfl,by first | omega | (dsimp only;omega),by first | omega | (dsimp only;omega),by simp,rfl⟩
 case hn=>exact (by first | omega | (dsimp only;omega))
 rintro ⟨x0,x1,x2,x3,x4,u⟩ hI;dsimp only at hI;obtain ⟨rfl,rfl,rfl,h0,h1,h2,h3⟩:=hI;unfold z3v;dsimp only;with_reducible repeat' (first | apply dP | apply dX<;>intro _)
 · refine dZ (k1v _) ?_
   rintro ⟨b,u⟩ hb;dsimp only at hb ⊢;have hlt:x3.toNat<x1.length:=by omega
   have hc:=j8m 128 (x1.take x3.toNat);rw [List.length_take] at hc;have hr:b=true→∀r∈x1.take (x3.toNat+1),0≤r∧r≤1114111:=by
    intro hbt r hr;rw [ql hlt] at hr;rcases List.mem_append.1 hr with hr | hr
    · exact h2 r hr
    · rw [List.mem_singleton] at hr
      have:=hb hbt;rw [getD_lt hlt] at this;subst hr;exact this
   have hct:=v0m (n:=128) hlt;have hs:(x3+1).toNat=x3.toNat+1:=by omega
   rw [qh (n:=x3+1) (by omega)];with_reducible repeat' (first | apply dP | apply dX<;>intro _)
   · exact rfl
   · rename_i hbt hlow _
     rw [getD_lt hlt] at hlow;rw [if_pos hlow] at hct;exact ⟨⟨rfl,rfl,rfl,by first | omega | (dsimp only;omega),by first | omega | (dsimp only;omega),by dsimp only;rw [hs];exact hr hbt,by dsimp only;rw [hs,List.length_append,hct,h3];rfl⟩,by first | omega | (dsimp only;omega)⟩
   · refine dO ?_;simp only [List.length_cons,List.length_nil] at *;omega
   · rename_i hbt hlow
     rw [getD_lt hlt] at hlow;rw [if_neg hlow] at hct;exact ⟨⟨rfl,rfl,rfl,by first | omega | (dsimp only;omega),by first | omega | (dsimp only;omega),by dsimp only;rw [hs];exact hr hbt,by dsimp only;rw [hs,hct,h3];rfl⟩,by first | omega | (dsimp only;omega)⟩
 · refine dO ?_;omega
 · rw [List.take_of_length_le (by omega)] at h2 h3
   exact ⟨rfl,h2,h3⟩
theorem g1j (l:List Int) (p m delta bias h:Int) (out:List UInt8) (hl:l.length≤1000000000000) (hh:h=cnt m l) (hd:0≤delta∧delta≤2147483647) (ho:out.length≤l.length+1+14*cnt m l) :
 Df (j4m (l,p,m,delta,bias,h,l,(l.length:Int),0,out,())) (fun y=>y.1=l∧y.2.1=p∧y.2.2.1=m∧0≤y.2.2.2.1∧y.2.2.2.1≤2147483647+l.length∧y.2.2.2.2.2.1=cnt m l+ceq m l∧y.2.2.2.2.2.2.1.length≤l.length+1+14*(cnt m l+ceq m l)):=by
 refine dL ?I ?m ?h _ ?hv ?hn
 case I=>exact (fun v=>v.1=l∧v.2.1=p∧v.2.2.1=m∧0≤v.2.2.2.1∧v.2.2.2.1≤2147483647+v.2.2.2.2.2.2.2.2.1∧v.2.2.2.2.2.1=cnt m l+ceq m (l.take v.2.2.2.2.2.2.2.2.1.toNat)∧v.2.2.2.2.2.2.1=l∧v.2.2.2.2.2.2.2.1=l.length∧0≤v.2.2.2.2.2.2.2.2.1∧v.2.2.2.2.2.2.2.2.1≤l.length∧v.2.2.2.2.2.2.2.2.2.1.length≤l.length+1+14*(cnt m l+ceq m (l.take v.2.2.2.2.2.2.2.2.1.toNat)))
 case m=>exact (fun v=>(l.length - v.2.2.2.2.2.2.2.2.1).toNat)
 case hv=>exact ⟨rfl,rfl,rfl,hd.1,by first | omega | (dsimp only;omega),by dsimp only;rw [hh];simp [ceq],rfl,rfl,by first | omega | (dsimp only;omega),by first | omega | (dsimp only;omega),by dsimp only;simpa [ceq] using ho⟩
 case hn=>exact (by first | omega | (dsimp only;omega))
 rintro ⟨x0,x1,x2,x3,x4,x5,x6,x7,x8,x9,u⟩ hI;dsimp only at hI;obtain ⟨rfl,rfl,rfl,h0,h1,rfl,rfl,rfl,h2,h3,h4⟩:=hI;have c1:=j8m x2 x6;have c2:=z8x x2 x6 x8.toNat
 have c3:ceq x2 x6≤x6.length:=List.countP_le_length;unfold z3w;dsimp only;with_reducible repeat' (first | apply dP | apply dX<;>intro _)
 all_goals try rw [qh (n:=x8+1) (by omega)]
 · rename_i a1 a2 a3
   have hlt:x8.toNat<x6.length:=by omega
   have hct:=j8k (n:=x2) hlt;have hs:(x8+1).toNat=x8.toNat+1:=by omega
   rw [getD_lt hlt] at a3;rw [if_neg (by omega)] at hct;rw [qh (n:=x3+1) (by omega)];refine ⟨⟨rfl,rfl,rfl,by first | omega | (dsimp only;omega),by first | omega | (dsimp only;omega),?_,rfl,rfl,by first | omega | (dsimp only;omega),by first | omega | (dsimp only;omega),?_⟩,by first | omega | (dsimp only;omega)⟩
   · dsimp only;rw [hs,hct];simp
   · dsimp only;rw [hs,hct];omega
 · rename_i a1 a2 a3 a4
   have hlt:x8.toNat<x6.length:=by omega
   have hct:=j8k (n:=x2) hlt;have hs:(x8+1).toNat=x8.toNat+1:=by omega
   rw [getD_lt hlt] at a3 a4;rw [if_pos a4] at hct;refine dZ (b5r _ _ _ h0 (by rw [show (10:Int)^13=10000000000000 from rfl];omega) (by omega)) ?_;rintro ⟨y,u⟩ hy;dsimp only at hy ⊢;rw [qh (n:=((cnt x2 x6:Int)+(ceq x2 (x6.take x8.toNat):Int))+1) (by omega)];refine dZ (f3o _ _ _ h0 (by omega)) ?_;rintro ⟨z,u⟩ -
   dsimp only;refine dP ⟨⟨rfl,rfl,rfl,by first | omega | (dsimp only;omega),by first | omega | (dsimp only;omega),?_,rfl,rfl,by first | omega | (dsimp only;omega),by first | omega | (dsimp only;omega),?_⟩,by first | omega | (dsimp only;omega)⟩
   · dsimp only;rw [hs,hct];simp;omega
   · dsimp only;rw [hs,hct];omega
 · rename_i a1 a2 a3 a4
   have hlt:x8.toNat<x6.length:=by omega
   have hct:=j8k (n:=x2) hlt;have hs:(x8+1).toNat=x8.toNat+1:=by omega
   rw [getD_lt hlt] at a3 a4;rw [if_neg a4] at hct;refine ⟨⟨rfl,rfl,rfl,by first | omega | (dsimp only;omega),by first | omega | (dsimp only;omega),?_,rfl,rfl,by first | omega | (dsimp only;omega),by first | omega | (dsimp only;omega),?_⟩,by first | omega | (dsimp only;omega)⟩
   · dsimp only;rw [hs,hct];simp
   · dsimp only;rw [hs,hct];omega
 · refine dO ?_;omega
 · rw [List.take_of_length_le (by omega)] at h4 ⊢
   exact ⟨rfl,rfl,rfl,by first | omega | (dsimp only;omega),by first | omega | (dsimp only;omega),rfl,h4⟩
theorem g1k (l:List Int) (out:List UInt8) (hl:l.length≤1000000000000) (hr:∀r∈l,0≤r∧r≤1114111) (ho:out.length≤l.length+1) :
 Df (q7m (l,(cnt 128 l:Int),128,0,72,(cnt 128 l:Int),out,())) (Sum.elim (fun y=>y.1.length≤15*l.length+1) (fun y=>y.1=[])):=by
 refine dL ?I ?m ?h _ ?hv ?hn
 case I=>exact (fun v=>v.1=l∧128≤v.2.2.1∧v.2.2.1≤1114112∧0≤v.2.2.2.1∧v.2.2.2.1≤2147483648+l.length∧v.2.2.2.2.2.1=cnt v.2.2.1 l∧v.2.2.2.2.2.2.1.length≤l.length+1+14*cnt v.2.2.1 l)
 case m=>exact (fun v=>l.length - cnt v.2.2.1 l)
 case hv=>exact ⟨rfl,by first | omega | (dsimp only;omega),by first | omega | (dsimp only;omega),by first | omega | (dsimp only;omega),by first | omega | (dsimp only;omega),rfl,by first | omega | (dsimp only;omega)⟩
 case hn=>exact (by first | omega | (dsimp only;omega))
 rintro ⟨x0,x1,x2,x3,x4,x5,x6,u⟩ hI;dsimp only at hI;obtain ⟨rfl,h0,h1,h2,h3,rfl,h4⟩:=hI;have c1:=j8m x2 x0;unfold z3x;dsimp only;with_reducible repeat' (first | apply dP | apply dX<;>intro _)
 · rename_i hlt
   refine dZ (b5q x0 x2 (by omega) hl) ?_;rintro ⟨m,u⟩ hm;dsimp only at hm ⊢;rcases hm with ⟨_,hm⟩ | ⟨hm,hnm,hmin⟩
   · have:=y9m hm
     omega
   · have hm2:=hr m hm
     have hp0:0≤(m - x2)*((cnt x2 x0:Int)+1):=Int.mul_nonneg (by omega) (by omega);have hp1:(m - x2)*((cnt x2 x0:Int)+1)≤1114111*((cnt x2 x0:Int)+1):=Int.mul_le_mul_of_nonneg_right (by omega) (by omega);rw [g6d (n:=m - x2) (by omega),qh (n:=m - x2) (by omega),qh (n:=(cnt x2 x0:Int)+1) (by omega)];generalize (m - x2)*((cnt x2 x0:Int)+1)=P at hp0 hp1 ⊢;rw [qh (n:=P) (by omega),qh (n:=x3+P) (by omega)];have hsame:=z8y hnm hmin;have hpos:=y9l hm;have hsucc:=z8z m x0;have c4:=j8m (m+1) x0;with_reducible repeat' (first | apply dP | apply dX<;>intro _)
     · exact rfl
     · refine dZ (g1j x0 x1 m (x3+P) x4 _ x6 hl (by rw [hsame]) (by omega) (by omega)) ?_
       rintro ⟨y0,y1,y2,y3,y4,y5,y6,u⟩ hy;dsimp only at hy ⊢;obtain ⟨rfl,rfl,rfl,k0,k1,rfl,k2⟩:=hy;rw [g6d (n:=y2+1) (by omega),qh (n:=y3+1) (by omega)];refine dP ⟨⟨rfl,by first | omega | (dsimp only;omega),by first | omega | (dsimp only;omega),by first | omega | (dsimp only;omega),by first | omega | (dsimp only;omega),?_,?_⟩,?_⟩
       · dsimp only;rw [hsucc];simp
       · dsimp only;rw [hsucc];exact k2
       · dsimp only;omega
 · exact (by first | omega | (dsimp only;omega):x6.length≤15*x0.length+1)
theorem g1h (l:List Int) (hl:l.length≤1000000000000):Df (x1w (l,())) (fun y=>y.1.length≤15*l.length+1):=by
 show Df (v7i xa q5z q6a wo q7k q7l _) _;unfold v7i;dsimp only;refine dZ (g1i l hl) ?_;intro z hz;refine dS hz ?_ ?_
 · rintro ⟨x0,x1,u⟩ hx
   dsimp only at hx ⊢;obtain ⟨rfl,hr,hc⟩:=hx;have c0:=j8m 128 x0;have jy:∀out:List UInt8,out.length≤x0.length+1→Df ((q7k (x0,(x1.length:Int),out,())).bind fun val=>some (val.fst,val.snd.fst,())) (fun y=>y.1.length≤15*x0.length+1):=by
    intro out ho;refine dZ (P:=fun y=>y.1.length≤15*x0.length+1) ?_ (fun _ h=>dP h);show Df (j5h xa q5z q6a wo q7m _) _;unfold j5h;dsimp only;rw [hc];refine dZ (g1k x0 out hl hr ho) ?_;intro z hz;refine dS hz ?_ ?_
    · rintro ⟨y,u⟩ hy;exact dP hy
    · rintro ⟨y,b,u⟩ hy
      dsimp only at hy;subst hy;exact dP (by simp)
   with_reducible repeat' (first | apply dP | apply dX<;>intro _)
   · exact jy _ (by simp only [List.length_append,List.length_cons,List.length_nil];omega)
   · refine dO ?_;simp only [List.length_cons,List.length_nil] at *;omega
   · exact jy _ (by omega)
 · rintro ⟨y,b,u⟩ hy
   dsimp only at hy;subst hy;exact dP (by simp)
structure TK (T:List R6) (A:List R4) (B:List R3):Prop where
 t:TOk T
 a:A.length≤1000000000000
 b:B.length≤1000000000000
section
variable {T:List R6} {A:List R4} {B:List R3}
theorem y2t (l:List Int) (p n:Int) (hp:0≤p∧p≤1000000000000000) (hn : -1000000000000001≤n∧n≤1000000000000001):Df (q0m (T,A,B,l,p,n,())) (fun y=>y.1≥0→0≤p+n∧p+n<l.length):=by
 show Df (v8w _) _;unfold v8w;dsimp only;rw [qh (n:=p+n) (by omega)];with_reducible repeat' (first | apply dP | apply dX<;>intro _)
 · intro h;dsimp only at h;omega
 · intro h;dsimp only at h;omega
 · intro h;omega
 · refine dO ?_;omega
theorem f3r (h:TK T A B) (l:List Int) (p:Int) (hp:0≤p∧p≤1000000000000000):Df (z2y (T,A,B,l,p,())) (fun _=>True):=by
 show Df (v8g xb q0m _) _;unfold v8g;dsimp only;refine dZ (y2t l p (-1) hp (by omega)) ?_;rintro ⟨x,u⟩ -
 exact dZ (v0w T A B _ h.a) fun _ _=>dP trivial
theorem f3t (h:TK T A B) (l:List Int) (p s:Int) (hp:0≤p∧p<l.length) (hl:l.length≤1000000000000) (hs:s=1∨s = -1):Df (x7b (T,A,B,l,p,s,())) (fun _=>True):=by
 show Df (v8x q0m z7r j4x _) _;unfold v8x;dsimp only;refine dZ (P:=fun _=>True) ?_ ?_
 · refine dL ?I ?m ?h _ ?hv ?hn
   case I=>exact (fun v=>v.1=s∧v.2.2.1=T∧v.2.2.2.2.2.1=l∧v.2.2.2.2.2.2.1=p ∧ -1≤p+v.2.1∧p+v.2.1≤l.length)
   case m=>exact (fun v=>(bif s==1 then (l.length - (p+v.2.1)) else p+v.2.1+1).toNat)
   case hv=>exact ⟨rfl,rfl,rfl,rfl,by first | omega | (dsimp only;omega),by first | omega | (dsimp only;omega)⟩
   case hn=>exact (by rcases hs with rfl | rfl<;>simp<;>omega)
   rintro ⟨x0,x1,x2,x3,x4,x5,x6,u⟩ hI;dsimp only at hI;obtain ⟨rfl,rfl,rfl,rfl,h0,h1⟩:=hI;unfold z4p;dsimp only;refine dZ (y2t x5 x6 x1 (by omega) (by omega)) ?_;rintro ⟨c,u⟩ hc;dsimp only at hc ⊢;with_reducible repeat' (first | apply dP | apply dX<;>intro _)
   · rename_i hge
     have hc':=hc hge;refine dZ (y2t x5 x6 x1 (by omega) (by omega)) ?_;rintro ⟨c,u⟩ -
     dsimp only;refine dZ (b7a x2 _ _ _ h.t) ?_;rintro ⟨j,u⟩ -
     dsimp only;rw [qh (n:=x1+x0) (by omega)];with_reducible repeat' (first | apply dP | apply dX<;>intro _)
     · trivial
     · refine ⟨⟨rfl,rfl,rfl,rfl,by first | omega | (dsimp only;omega),by first | omega | (dsimp only;omega)⟩,?_⟩
       rcases hs with rfl | rfl
       · simp only [show ((1:Int)==1)=true from rfl,cond_true];omega
       · simp only [show ((-1:Int)==1)=false from rfl,cond_false];omega
   · trivial
 · intro z hz
   cases z<;>exact dP trivial
theorem b6k (h:TK T A B) (l:List Int) (p:Int) (hp:0≤p∧p<l.length) (hl:l.length≤1000000000000):Df (x2d (T,A,B,l,p,())) (fun _=>True):=by
 show Df (v8h z2y x7b _) _;unfold v8h;dsimp only;refine dZ (f3t h l p 1 hp hl (.inl rfl)) ?_;rintro ⟨x,u⟩ -
 refine dZ (f3r h l p (by omega)) ?_;rintro ⟨y,u⟩ -
 dsimp only;with_reducible repeat' (first | apply dP | apply dX<;>intro _)
 · trivial
 · refine dZ (f3t h l p (-1) hp hl (.inr rfl)) ?_
   rintro ⟨x,u⟩ -
   dsimp only;with_reducible repeat' (first | apply dP | apply dX<;>intro _)
   all_goals trivial
theorem b6l (l:List Int) (p:Int) (hp:0≤p∧p≤1000000000000000):Df (x2e (T,A,B,l,p,())) (fun _=>True):=by
 show Df (v8i q0m _) _;unfold v8i;dsimp only;refine dZ (y2t l p (-1) hp (by omega)) ?_;rintro ⟨x,u⟩ -
 dsimp only;with_reducible repeat' (first | apply dP | apply dX<;>intro _)
 · exact dZ (y2t l p 1 hp (by omega)) fun _ _=>dP trivial
 · trivial
theorem b6m (h:TK T A B) (l:List Int) (p:Int) (hp:0≤p∧p≤1000000000000000):Df (x2f (T,A,B,l,p,())) (fun _=>True):=by
 show Df (v8j q0m j7j _) _;unfold v8j;dsimp only;refine dZ (y2t l p 1 hp (by omega)) ?_;rintro ⟨x,u⟩ -
 exact dZ (g2a T A B _ h.t) fun _ _=>dP trivial
theorem b6n (h:TK T A B) (l:List Int) (p:Int) (hp:0≤p∧p≤1000000000000000):Df (x2g (T,A,B,l,p,())) (fun _=>True):=by
 show Df (v8k q0m j7j _) _;unfold v8k;dsimp only;refine dZ (y2t l p (-1) hp (by omega)) ?_;rintro ⟨x,u⟩ -
 exact dZ (g2a T A B _ h.t) fun _ _=>dP trivial
theorem f3m (x:Int):Df (j7d (x,())) (fun _=>True):=by
 show Df (v7o _) _;unfold v7o;dsimp only;with_reducible repeat' (first | apply dP | apply dX<;>intro _)
 all_goals trivial
theorem f3n (x:Int):Df (j7e (x,())) (fun _=>True):=by
 show Df (v7r _) _;unfold v7r;dsimp only;with_reducible repeat' (first | apply dP | apply dX<;>intro _)
 all_goals trivial
theorem b6j (l:List Int) (hl:l.length≤1000000000000):Df (x6w (l,())) (fun _=>True):=by
 show Df (v8f j7e j4s _) _;unfold v8f;dsimp only;refine dZ (P:=fun _=>True) ?_ (fun z _=>by cases z<;>exact dP trivial);refine dL ?I ?m ?h _ ?hv ?hn
 case I=>exact (fun v=>v.1=l∧v.2.1=l.length∧0≤v.2.2.1∧v.2.2.1≤l.length)
 case m=>exact (fun v=>(l.length - v.2.2.1).toNat)
 case hv=>exact ⟨rfl,rfl,by first | omega | (dsimp only;omega),by first | omega | (dsimp only;omega)⟩
 case hn=>exact (by first | omega | (dsimp only;omega))
 rintro ⟨x0,x1,x2,u⟩ hI;dsimp only at hI;obtain ⟨rfl,rfl,h0,h1⟩:=hI;unfold z4g;dsimp only;with_reducible repeat' (first | apply dP | apply dX<;>intro _)
 · refine dZ (f3n _) ?_
   rintro ⟨b,u⟩ -
   dsimp only;rw [qh (n:=x2+1) (by omega)];with_reducible repeat' (first | apply dP | apply dX<;>intro _)
   · trivial
   · exact ⟨⟨rfl,rfl,by first | omega | (dsimp only;omega),by first | omega | (dsimp only;omega)⟩,by first | omega | (dsimp only;omega)⟩
 · refine dO ?_;omega
 · trivial
theorem g1u (l:List Int) (hl:l.length≤1000000000000):Df (j7h (l,())) (fun _=>True):=by
 show Df (z4h j7d q3m _) _;unfold z4h;dsimp only;refine dZ (P:=fun _=>True) ?_ (fun z _=>by cases z<;>exact dP trivial);refine dL ?I ?m ?h _ ?hv ?hn
 case I=>exact (fun v=>v.1=l∧v.2.1=l.length∧0≤v.2.2.1∧v.2.2.1≤l.length)
 case m=>exact (fun v=>(l.length - v.2.2.1).toNat)
 case hv=>exact ⟨rfl,rfl,by first | omega | (dsimp only;omega),by first | omega | (dsimp only;omega)⟩
 case hn=>exact (by first | omega | (dsimp only;omega))
 rintro ⟨x0,x1,x2,u⟩ hI;dsimp only at hI;obtain ⟨rfl,rfl,h0,h1⟩:=hI;unfold j1x;dsimp only;with_reducible repeat' (first | apply dP | apply dX<;>intro _)
 · refine dZ (f3m _) ?_
   rintro ⟨b,u⟩ -
   dsimp only;rw [qh (n:=x2+1) (by omega)];with_reducible repeat' (first | apply dP | apply dX<;>intro _)
   · trivial
   · exact ⟨⟨rfl,rfl,by first | omega | (dsimp only;omega),by first | omega | (dsimp only;omega)⟩,by first | omega | (dsimp only;omega)⟩
 · refine dO ?_;omega
 · trivial
theorem b5o (l:List Int) (p:Int) (hl:l.length≤1000000000000):Df (x1y (T,A,B,l,p,())) (fun _=>True):=by
 show Df (v7p v5u _) _;unfold v7p;dsimp only;refine dZ (P:=fun _=>True) ?_ (fun _ _=>dP trivial);show Df (v7q x6w _) _;unfold v7q;dsimp only;exact dZ (b6j l hl) fun _ _=>dP trivial
theorem b5p (l:List Int) (p:Int) (hl:l.length≤1000000000000):Df (x1z (T,A,B,l,p,())) (fun _=>True):=by
 show Df (v7s z2w _) _;unfold v7s;dsimp only;refine dZ (P:=fun _=>True) ?_ (fun _ _=>dP trivial);show Df (z3z j7h _) _;unfold z3z;dsimp only;exact dZ (g1u l hl) fun _ _=>dP trivial
theorem b6y (h:TK T A B) (r:Int) (l:List Int) (p:Int):Df (z7q (r,T,A,B,l,p,())) (fun y=>y.2=(T,A,B,l,p,())):=by
 show Df (v8z j7j _) _;unfold v8z;dsimp only;refine dZ (g2a T A B _ h.t) ?_;rintro ⟨x,u⟩ -
 dsimp only;with_reducible repeat' (first | apply dP | apply dX<;>intro _)
 all_goals rfl
theorem g1v (h:TK T A B) (l:List Int) (l':List Int) (p:Int) (hl:l.length≤1000000000000):Df (j7i (l,T,A,B,l',p,())) (fun _=>True):=by
 show Df (z4i z7q q3n _) _;unfold z4i;dsimp only;refine dZ (P:=fun _=>True) ?_ (fun z _=>by cases z<;>exact dP trivial);refine dL ?I ?m ?h _ ?hv ?hn
 case I=>exact (fun v=>v.1=l∧v.2.1=l.length∧0≤v.2.2.1∧v.2.2.1≤l.length∧v.2.2.2=(T,A,B,l',p,()))
 case m=>exact (fun v=>(l.length - v.2.2.1).toNat)
 case hv=>exact ⟨rfl,rfl,by first | omega | (dsimp only;omega),by first | omega | (dsimp only;omega),rfl⟩
 case hn=>exact (by first | omega | (dsimp only;omega))
 rintro ⟨x0,x1,x2,x3,x4,x5,x6,x7,u⟩ hI;dsimp only at hI;obtain ⟨rfl,rfl,h0,h1,h2⟩:=hI;simp only [Prod.mk.injEq] at h2;obtain ⟨rfl,rfl,rfl,rfl,rfl,-⟩:=h2;unfold j1y;dsimp only;with_reducible repeat' (first | apply dP | apply dX<;>intro _)
 · refine dZ (b6y h _ _ _) ?_
   rintro ⟨b,y1,y2,y3,y4,y5,u⟩ hy;simp only [Prod.mk.injEq] at hy;obtain ⟨rfl,rfl,rfl,rfl,rfl,-⟩:=hy;dsimp only;rw [qh (n:=x2+1) (by omega)];with_reducible repeat' (first | apply dP | apply dX<;>intro _)
   · trivial
   · exact ⟨⟨rfl,rfl,by first | omega | (dsimp only;omega),by first | omega | (dsimp only;omega),rfl⟩,by first | omega | (dsimp only;omega)⟩
 · refine dO ?_;omega
 · trivial
theorem b6o (h:TK T A B) (l:List Int) (p:Int) (hl:l.length≤1000000000000):Df (x2h (T,A,B,l,p,())) (fun _=>True):=by
 show Df (v8l z2x _) _;unfold v8l;dsimp only;refine dZ (P:=fun _=>True) ?_ (fun _ _=>dP trivial);show Df (z4a j7i _) _;unfold z4a;dsimp only;exact dZ (g1v h l l p hl) fun _ _=>dP trivial
theorem b5k (x:Int):Df (z2q (x,())) (fun _=>True):=by
 show Df (v7e j7d j7e v5v _) _;unfold v7e;dsimp only;refine dZ (f3m x) ?_;rintro ⟨b,u⟩ -
 dsimp only;with_reducible repeat' (first | apply dP | apply dX<;>intro _)
 · trivial
 · refine dZ (f3n x) ?_
   rintro ⟨b,u⟩ -
   dsimp only;with_reducible repeat' (first | apply dP | apply dX<;>intro _)
   · trivial
   · refine dZ (P:=fun _=>True) ⟨(),rfl,trivial⟩ ?_
     intro u _;with_reducible repeat' (first | apply dP | apply dX<;>intro _)
     all_goals trivial
theorem f3d (h:TK T A B) (l:List Int) (p:Int) (hl:l.length≤1000000000000) (hp:p≤1000000000000):Df (j3p (T,A,B,l,p,())) (fun _=>True):=by
 show Df (x2o z2q x1y x1z z2y x2d x2e x2f x2g x2h _) _;unfold x2o;dsimp only;have jy:∀{x:Option (Bool×Unit)},Df x (fun _=>True)→Df (x.bind fun val=>bif val.fst then some ((1:Int),()) else some (2,())) (fun _=>True):=by
  intro x hx;refine dZ hx ?_;rintro ⟨b,u⟩ -
  dsimp only;with_reducible repeat' (first | apply dP | apply dX<;>intro _)
  all_goals trivial
 with_reducible repeat' (first | apply dP | apply dX<;>intro _)
 · trivial
 · trivial
 · refine dZ (b5k _) ?_
   intro z _;rcases z with z | z | z | z | z | z | z | z | z
   · exact jy (b5o l p hl)
   · exact jy (b5p l p hl)
   · exact jy (f3r h l p (by omega))
   · exact jy (b6k h l p (by omega) hl)
   · exact jy (b6l l p (by omega))
   · exact jy (b6m h l p (by omega))
   · exact jy (b6n h l p (by omega))
   · exact jy (b6o h l p hl)
   · exact dP trivial
 · refine dO ?_;omega
theorem f3g (h:TK T A B) (r:Int):Df (q2d (T,A,B,r,())) (fun _=>True):=by
 show Df (v7g j3r zp _) _;unfold v7g;dsimp only;refine dZ (g1f T A B r) ?_;rintro ⟨v0,a,c,s,o,is,u⟩ -
 dsimp only;with_reducible repeat' (first | apply dP | apply dX<;>intro _)
 all_goals first
  | trivial
  | (refine dZ (g1e T A B r h.t) ?_;rintro ⟨x,u⟩ -;dsimp only;(repeat' (first | apply dP | (apply dG<;>intro _)));all_goals trivial)
theorem b5z (h:TK T A B) (l:List Int) (hl:l.length≤1000000000000):Df (x2b (T,A,B,l,())) (fun _=>True):=by
 show Df (x2t j3p q2d q7s _) _;unfold x2t;dsimp only;refine dZ (P:=fun _=>True) ?_ (fun z _=>by cases z<;>exact dP trivial);refine dL ?I ?m ?h _ ?hv ?hn
 case I=>exact (fun v=>v.1=l∧v.2.1=l∧v.2.2.1=l.length∧0≤v.2.2.2.1∧v.2.2.2.1≤l.length∧v.2.2.2.2=(T,A,B,()))
 case m=>exact (fun v=>(l.length - v.2.2.2.1).toNat)
 case hv=>exact ⟨rfl,rfl,rfl,by first | omega | (dsimp only;omega),by first | omega | (dsimp only;omega),rfl⟩
 case hn=>exact (by first | omega | (dsimp only;omega))
 rintro ⟨x0,x1,x2,x3,x4,x5,x6,u⟩ hI;dsimp only at hI;obtain ⟨rfl,rfl,rfl,h0,h1,h2⟩:=hI;simp only [Prod.mk.injEq] at h2;obtain ⟨rfl,rfl,rfl,-⟩:=h2;unfold j5q;dsimp only;with_reducible repeat' (first | apply dP | apply dX<;>intro _)
 · refine dZ (f3d h _ _ hl (by omega)) ?_
   rintro ⟨b,u⟩ -
   dsimp only;rw [qh (n:=x3+1) (by omega)];with_reducible repeat' (first | apply dP | apply dX<;>intro _)
   · trivial
   · refine dZ (f3g h _) ?_
     rintro ⟨b,u⟩ -
     dsimp only;with_reducible repeat' (first | apply dP | apply dX<;>intro _)
     · trivial
     · exact ⟨⟨rfl,rfl,rfl,by first | omega | (dsimp only;omega),by first | omega | (dsimp only;omega),rfl⟩,by first | omega | (dsimp only;omega)⟩
   · exact ⟨⟨rfl,rfl,rfl,by first | omega | (dsimp only;omega),by first | omega | (dsimp only;omega),rfl⟩,by first | omega | (dsimp only;omega)⟩
 · refine dO ?_;omega
 · trivial
theorem b5y (h:TK T A B) (l:List Int) (hl:l.length≤1000000000000):Df (x2a (T,A,B,l,())) (fun y=>y.2=(T,A,B,l,())):=by
 show Df (x8u x2b _) _;unfold x8u;dsimp only;exact dZ (b5z h l hl) fun _ _=>dP rfl
theorem f3e (h:TK T A B) (l:List Int) (hl:l.length≤1000000000000):Df (q7i (T,A,B,l,())) (fun _=>True):=by
 show Df (v6y q5y j4l _) _;unfold v6y;dsimp only;refine dZ (P:=fun y=>y.1.length=8∧y.2.1.length=8) ?_ ?_
 · refine dL ?I ?m ?h _ ?hv ?hn
   case I=>exact (fun v=>v.1=l∧v.2.1=l.length∧0≤v.2.2.1∧v.2.2.1≤l.length∧v.2.2.2.1=T∧v.2.2.2.2.2.2.1.length=8∧v.2.2.2.2.2.2.2.1.length=8)
   case m=>exact (fun v=>(l.length - v.2.2.1).toNat)
   case hv=>exact ⟨rfl,rfl,by first | omega | (dsimp only;omega),by first | omega | (dsimp only;omega),rfl,rfl,rfl⟩
   case hn=>exact (by first | omega | (dsimp only;omega))
   rintro ⟨x0,x1,x2,x3,x4,x5,x6,x7,u⟩ hI;dsimp only at hI;obtain ⟨rfl,rfl,h0,h1,rfl,h2,h3⟩:=hI;unfold z3u;dsimp only;with_reducible repeat' (first | apply dP | apply dX<;>intro _)
   · refine dZ (g1g x3 _ _ _ h.t) ?_
     rintro ⟨b,u⟩ hb;dsimp only at hb ⊢;rw [qh (n:=x2+1) (by omega)];with_reducible repeat' (first | apply dP | apply dX<;>intro _)
     all_goals first
      | exact ⟨⟨rfl,rfl,by first | omega | (dsimp only;omega),by first | omega | (dsimp only;omega),rfl,h2,by simp only [List.length_set];omega⟩,by first | omega | (dsimp only;omega)⟩
      | (refine dO ?_;omega)
   · refine dO ?_;omega
   · exact ⟨h2,h3⟩
 · rintro ⟨x0,x1,u⟩ hx
   dsimp only at hx ⊢;with_reducible repeat' (first | apply dP | apply dX<;>intro _)
   all_goals first | trivial | (refine dO ?_;omega)
theorem g0x (h:TK T A B) (l:List Int) (hl:l.length≤1000000000000):Df (q5w (T,A,B,l,())) (fun _=>True):=by
 show Df (v6q q7i _) _;unfold v6q;dsimp only;exact dZ (f3e h l hl) fun _ _=>dP trivial
theorem b5d (h:TK T A B) (l:List Int):Df (j7c (T,A,B,l,())) (fun _=>True):=by
 show Df (v6z q5y _) _;unfold v6z;dsimp only;with_reducible repeat' (first | apply dP | apply dX<;>intro _)
 · trivial
 · refine dZ (g1g T A B _ h.t) ?_
   rintro ⟨b,u⟩ -
   dsimp only;with_reducible repeat' (first | apply dP | apply dX<;>intro _)
   all_goals trivial
 · refine dO ?_;omega
theorem g0y (x:Bool) (y:Bool) (z:List Int) (hz:z.length=8):Df (q7e (x,y,z,())) (fun _=>True):=by
 show Df (j4z q5w q7i j3q j7c _) _;unfold j4z;dsimp only;with_reducible repeat' (first | apply dP | apply dX<;>intro _)
 all_goals first | trivial | (refine dO ?_;omega) | (rename_i h1 h2;exact absurd (show Int.toNat 1<z.length by rw [hz];decide) h2)
theorem v0s (x:Int) (y:Bool) (z:List Int) (hz:z.length=8):Df (j4j (x,y,z,())) (fun _=>True):=by
 show Df (j5a q5w q7i j3q j7c q7e _) _;unfold j5a;dsimp only;with_reducible repeat' (first | apply dP | apply dX<;>intro _)
 all_goals exact dZ (g0y _ _ z hz) fun _ _=>dP trivial
end
section
variable {T:List R6} {A:List R4} {B:List R3}
theorem k1x (hA:A.length≤1000000000000) (a b:Int):Df (zi (a,b,T,A,B,())) (fun y=>y.2=(T,A,B,())):=by
 unfold zi v8e;dsimp only;refine dZ (v0w T A B _ hA) ?_;rintro ⟨x,u⟩ -
 exact dZ (v0w T A B _ hA) fun _ _=>dP rfl
theorem g2b (o n:Nat) (a b i j:Int) (row:List Int) (hj:1≤j∧j<n) (hn:n≤100000000000000) :
 Df (q1e (((o:Int),(n:Int)),a,b,i,j,row,T,A,B,())) (fun y=>∃(r':List Int),r'.length=row.length∧y=(((o:Int),(n:Int)),a,b,i,j - 1,r',T,A,B,())):=by
 unfold q1e j5x;dsimp only;simp only [Int.toNat_natCast];rw [qh (n:=j - 1) (by omega)];with_reducible repeat' (first | apply dP | apply dX<;>intro _)
 · exact ⟨_,by simp only [List.length_set],rfl⟩
 all_goals (refine dO ?_;omega)
theorem g2c (hA:A.length≤1000000000000) (o n:Nat) (a b i j:Int) (row:List Int) (ha:0≤a) (hj:a≤j∧j<n) (hn:n≤100000000000000) :
 Df (q8d (((o:Int),(n:Int)),a,b,i,j,row,T,A,B,())) (fun y=>∃(r':List Int),r'.length=row.length∧y=(((o:Int),(n:Int)),a,b,i,r',T,A,B,())):=by
 refine dL ?I ?m ?h _ ?hv ?hn
 case I=>exact (fun v=>∃(j':Int) (r':List Int),a≤j'∧j'<n∧r'.length=row.length∧v=(((o:Int),(n:Int)),a,b,i,j',r',T,A,B,()))
 case m=>exact (fun v=>(v.2.2.2.2.1 - a).toNat)
 case hv=>exact ⟨j,row,hj.1,hj.2,rfl,rfl⟩
 case hn=>exact (by first | omega | (dsimp only;omega))
 rintro v ⟨j',r',h1,h2,h3,rfl⟩;unfold j5y;dsimp only;simp only [Int.toNat_natCast];rw [qh (n:=j' - 1) (by omega)];with_reducible repeat' (first | apply dP | apply dX<;>intro _)
 · refine dZ (k1x hA _ _) ?_
   rintro ⟨c,t,a',b',u⟩ hc;simp only [Prod.mk.injEq] at hc;obtain ⟨rfl,rfl,rfl,-⟩:=hc;dsimp only;with_reducible repeat' (first | apply dP | apply dX<;>intro _)
   · refine dZ (g2b o n a b i j' r' (by omega) hn) ?_
     rintro y ⟨r2,h4,rfl⟩;dsimp only;simp only [Int.toNat_natCast];exact dP ⟨⟨_,_,by omega,by omega,h4.trans h3,rfl⟩,by first | omega | (dsimp only;omega)⟩
   · exact ⟨_,h3,rfl⟩
 · refine dO ?_;omega
 · refine dO ?_;omega
 · exact ⟨_,h3,rfl⟩
theorem f3u (hA:A.length≤1000000000000) (o n:Nat) (a b:Int) (row:List Int) (ha:0≤a∧a≤n) (hb:b≤n) (hn:n≤100000000000000) :
 Df (q8c (((o:Int),(n:Int)),a,b,row,T,A,B,())) (fun y=>∃(r':List Int),r'.length=row.length∧y=(r',T,A,B,())):=by
 unfold q8c v9a;dsimp only;simp only [Int.toNat_natCast];rw [qh (n:=a+1) (by omega)];refine dZ (P:=fun y=>∃(r':List Int),r'.length=row.length∧y=(r',T,A,B,())) ?_ ?_
 · refine dL ?I ?m ?h _ ?hv ?hn
   case I=>exact (fun v=>∃(i:Int) (r':List Int),a+1≤i∧r'.length=row.length∧v=(((o:Int),(n:Int)),a,b,i,r',T,A,B,()))
   case m=>exact (fun v=>(b - v.2.2.2.1).toNat)
   case hv=>exact ⟨a+1,row,Int.le_refl _,rfl,rfl⟩
   case hn=>exact (by first | omega | (dsimp only;omega))
   rintro v ⟨i,r',h1,h2,rfl⟩;unfold j5z;dsimp only;simp only [Int.toNat_natCast];with_reducible repeat' (first | apply dP | apply dX<;>intro _)
   · refine dZ (g2c hA o n a b i i r' ha.1 (by omega) hn) ?_
     rintro y ⟨r2,h4,rfl⟩;dsimp only;simp only [Int.toNat_natCast];rw [qh (n:=i+1) (by omega)];exact dP ⟨⟨_,_,by omega,h4.trans h2,rfl⟩,by first | omega | (dsimp only;omega)⟩
   · exact ⟨_,h2,rfl⟩
 · rintro y ⟨r',h,rfl⟩
   exact dP ⟨_,h,rfl⟩
theorem g2i (o n:Nat) (a b k:Int) (row:List Int) (ha:0≤a∧a+k≤n) (hb:0≤b∧b+k≤n) (hn:n≤100000000000000) :
 Df (j9u (((o:Int),(n:Int)),a,b,k,row,T,A,B,())) (fun y=>∃(r':List Int),r'.length=row.length∧y=(r',T,A,B,())):=by
 unfold j9u v9d;dsimp only;simp only [Int.toNat_natCast];refine dZ (P:=fun y=>∃(r':List Int),r'.length=row.length∧y=(r',T,A,B,())) ?_ ?_
 · refine dL ?I ?m ?h _ ?hv ?hn
   case I=>exact (fun v=>∃(i:Int) (r':List Int),0≤i∧r'.length=row.length∧v=(((o:Int),(n:Int)),a,b,k,i,r',T,A,B,()))
   case m=>exact (fun v=>(k - v.2.2.2.2.1).toNat)
   case hv=>exact ⟨0,row,Int.le_refl _,rfl,rfl⟩
   case hn=>exact (by first | omega | (dsimp only;omega))
   rintro v ⟨i,r',h1,h2,rfl⟩;unfold j6b;dsimp only;simp only [Int.toNat_natCast];by_cases hlt:i<k
   · rw [qh (n:=a+i) (by omega),qh (n:=b+i) (by omega),qh (n:=i+1) (by omega)]
     with_reducible repeat' (first | apply dP | apply dX<;>intro _)
     · exact ⟨⟨_,_,by omega,by simp only [List.length_set];exact h2,rfl⟩,by first | omega | (dsimp only;omega)⟩
     all_goals first | (refine dO ?_;omega) | (exfalso;omega)
   · rw [decide_eq_false hlt]
     exact dP ⟨_,h2,rfl⟩
 · rintro y ⟨r',h,rfl⟩
   exact dP ⟨_,h,rfl⟩
theorem b7b (o n:Nat) (a m b:Int) (row:List Int) (ha:0≤a∧a<m) (hb:m<b∧b≤n) (hn:n≤100000000000000) :
 Df (zu (((o:Int),(n:Int)),a,m,b,row,T,A,B,())) (fun y=>∃(r':List Int),r'.length=row.length∧y=(r',T,A,B,())):=by
 unfold zu v9c;dsimp only;simp only [Int.toNat_natCast];rw [qh (n:=m - a) (by omega),qh (n:=b - m) (by omega)];refine dZ (P:=fun y=>∃(i:Int) (r':List Int),0≤i∧i≤m - a∧m+i≤n∧r'.length=row.length∧y=(((o:Int),(n:Int)),m,i,r',T,A,B,())) ?_ ?_
 · refine dL ?I ?m ?h _ ?hv ?hn
   case I=>exact (fun v=>∃(i:Int) (j:Int) (r':List Int),0<i∧0<j∧i≤m - a∧j≤b - m∧r'.length=row.length∧v=(((o:Int),(n:Int)),m,i,j,r',T,A,B,()))
   case m=>exact (fun v=>(v.2.2.1+v.2.2.2.1).toNat)
   case hv=>exact ⟨m - a,b - m,row,by omega,by omega,Int.le_refl _,Int.le_refl _,rfl,rfl⟩
   case hn=>exact (by first | omega | (dsimp only;omega))
   rintro v ⟨i,j,r',h1,h2,h3,h4,h5,rfl⟩;unfold j6a;dsimp only;simp only [Int.toNat_natCast];rw [qh (n:=m - i) (by omega),qh (n:=i - j) (by omega),qh (n:=j - i) (by omega),qh (n:=m+j) (by omega),qh (n:=m+j - i) (by omega)];with_reducible repeat' (first | apply dP | apply dX<;>intro _)
   · refine dZ (g2i o n (m - i) m j r' (by omega) (by omega) hn) ?_
     rintro y ⟨r2,h6,rfl⟩;dsimp only;exact dP ⟨⟨_,_,_,by omega,by omega,by omega,by omega,h6.trans h5,rfl⟩,by first | omega | (dsimp only;omega)⟩
   · refine dZ (g2i o n (m - i) (m+j - i) i r' (by omega) (by omega) hn) ?_
     rintro y ⟨r2,h6,rfl⟩;dsimp only;exact dP ⟨⟨_,_,_,by omega,by omega,by omega,by omega,h6.trans h5,rfl⟩,by first | omega | (dsimp only;omega)⟩
   · exact ⟨_,_,by omega,by omega,by omega,h5,rfl⟩
 · rintro y ⟨i,r',h1,h2,h3,h4,rfl⟩
   dsimp only;simp only [Int.toNat_natCast];rw [qh (n:=m - i) (by omega)];refine dZ (g2i o n (m - i) m i r' (by omega) (by omega) hn) ?_;rintro y ⟨r2,h6,rfl⟩;exact dP ⟨_,h6.trans h4,rfl⟩
theorem g2d (G:jc) (hA:A.length≤1000000000000) (o n:Nat) (a i j:Int) (row:List Int) (ha:0≤a∧a<n) (hi:0≤i∧i≤j) (hj:j≤n) (hn:n≤100000000000000) :
 Df (xw G (((o:Int),(n:Int)),a,i,j,row,T,A,B,())) (fun y=>∃(i':Int),i≤i'∧i'≤j∧y=(((o:Int),(n:Int)),a,i',row,T,A,B,())):=by
 refine dL ?I ?m ?h _ ?hv ?hn
 case I=>exact (fun v=>∃(i':Int) (j':Int),i≤i'∧i'≤j'∧j'≤j∧v=(((o:Int),(n:Int)),a,i',j',row,T,A,B,()))
 case m=>exact (fun v=>(v.2.2.2.1 - v.2.2.1).toNat)
 case hv=>exact ⟨i,j,Int.le_refl _,hi.2,Int.le_refl _,rfl⟩
 case hn=>exact (by first | omega | (dsimp only;omega))
 rintro v ⟨i',j',h1,h2,h3,rfl⟩;unfold q8g;dsimp only;simp only [Int.toNat_natCast];rw [v3g (by omega) (by omega) (by omega),qh (n:=(i'+j')/2+1) (by omega)];with_reducible repeat' (first | apply dP | apply dX<;>intro _)
 · refine dZ (k1x hA _ _) ?_
   rintro ⟨c,t,a',b',u⟩ hc;simp only [Prod.mk.injEq] at hc;obtain ⟨rfl,rfl,rfl,-⟩:=hc;dsimp only;with_reducible repeat' (first | apply dP | apply dX<;>intro _)
   · exact ⟨⟨_,_,by omega,by omega,by omega,rfl⟩,by first | omega | (dsimp only;omega)⟩
   · exact ⟨⟨_,_,by omega,by omega,by omega,rfl⟩,by first | omega | (dsimp only;omega)⟩
 · refine dO ?_;omega
 · refine dO ?_;omega
 · exact ⟨_,by omega,by omega,rfl⟩
theorem g2f (G:jc) (hA:A.length≤1000000000000) (o n:Nat) (a i j:Int) (row:List Int) (ha:0≤a∧a<n) (hi:0≤i∧i≤j) (hj:j≤n) (hn:n≤100000000000000) :
 Df (xy G (((o:Int),(n:Int)),a,i,j,row,T,A,B,())) (fun y=>∃(i':Int),i≤i'∧i'≤j∧y=(((o:Int),(n:Int)),a,i',row,T,A,B,())):=by
 refine dL ?I ?m ?h _ ?hv ?hn
 case I=>exact (fun v=>∃(i':Int) (j':Int),i≤i'∧i'≤j'∧j'≤j∧v=(((o:Int),(n:Int)),a,i',j',row,T,A,B,()))
 case m=>exact (fun v=>(v.2.2.2.1 - v.2.2.1).toNat)
 case hv=>exact ⟨i,j,Int.le_refl _,hi.2,Int.le_refl _,rfl⟩
 case hn=>exact (by first | omega | (dsimp only;omega))
 rintro v ⟨i',j',h1,h2,h3,rfl⟩;unfold q8i;dsimp only;simp only [Int.toNat_natCast];rw [v3g (by omega) (by omega) (by omega),qh (n:=(i'+j')/2+1) (by omega)];with_reducible repeat' (first | apply dP | apply dX<;>intro _)
 · refine dZ (k1x hA _ _) ?_
   rintro ⟨c,t,a',b',u⟩ hc;simp only [Prod.mk.injEq] at hc;obtain ⟨rfl,rfl,rfl,-⟩:=hc;dsimp only;with_reducible repeat' (first | apply dP | apply dX<;>intro _)
   · exact ⟨⟨_,_,by omega,by omega,by omega,rfl⟩,by first | omega | (dsimp only;omega)⟩
   · exact ⟨⟨_,_,by omega,by omega,by omega,rfl⟩,by first | omega | (dsimp only;omega)⟩
 · refine dO ?_;omega
 · refine dO ?_;omega
 · exact ⟨_,by omega,by omega,rfl⟩
theorem g2e (G:jc) (o n:Nat) (i k:Int) (row:List Int) (hk:0≤k) (hi:i≤n) (hn:n≤100000000000000) (hi0:0≤i) :
 Df (xx G (((o:Int),(n:Int)),i,k,row,T,A,B,())) (fun y=>∃(r':List Int),r'.length=row.length∧y=(r',T,A,B,())):=by
 refine dL ?I ?m ?h _ ?hv ?hn
 case I=>exact (fun v=>∃(k':Int) (r':List Int),0≤k'∧r'.length=row.length∧v=(((o:Int),(n:Int)),i,k',r',T,A,B,()))
 case m=>exact (fun v=>(i - v.2.2.1).toNat)
 case hv=>exact ⟨k,row,hk,rfl,rfl⟩
 case hn=>exact (by first | omega | (dsimp only;omega))
 rintro v ⟨k',r',h1,h2,rfl⟩;unfold q8h;dsimp only;simp only [Int.toNat_natCast];rw [qh (n:=i - 1) (by omega)];by_cases hlt:k'<i - 1
 · rw [qh (n:=k'+1) (by omega)]
   with_reducible repeat' (first | apply dP | apply dX<;>intro _)
   · exact ⟨⟨_,_,by omega,by simp only [List.length_set];exact h2,rfl⟩,by first | omega | (dsimp only;omega)⟩
   all_goals first | (refine dO ?_;omega) | (exfalso;omega)
 · rw [decide_eq_false hlt]
   exact dP ⟨_,h2,rfl⟩
theorem g2g (G:jc) (o n:Nat) (i k:Int) (row:List Int) (hk:k<n) (hi:0≤i) (hn:n≤100000000000000) :
 Df (xz G (((o:Int),(n:Int)),i,k,row,T,A,B,())) (fun y=>∃(r':List Int),r'.length=row.length∧y=(r',T,A,B,())):=by
 refine dL ?I ?m ?h _ ?hv ?hn
 case I=>exact (fun v=>∃(k':Int) (r':List Int),k'<n∧r'.length=row.length∧v=(((o:Int),(n:Int)),i,k',r',T,A,B,()))
 case m=>exact (fun v=>(v.2.2.1 - i).toNat)
 case hv=>exact ⟨k,row,hk,rfl,rfl⟩
 case hn=>exact (by first | omega | (dsimp only;omega))
 rintro v ⟨k',r',h1,h2,rfl⟩;unfold q8j;dsimp only;simp only [Int.toNat_natCast];by_cases hlt:k'>i
 · rw [qh (n:=k' - 1) (by omega)]
   with_reducible repeat' (first | apply dP | apply dX<;>intro _)
   · exact ⟨⟨_,_,by omega,by simp only [List.length_set];exact h2,rfl⟩,by first | omega | (dsimp only;omega)⟩
   all_goals first | (refine dO ?_;omega) | (exfalso;omega)
 · rw [decide_eq_false hlt]
   exact dP ⟨_,h2,rfl⟩
theorem g2h (G:jc) (hA:A.length≤1000000000000) (o n:Nat) (a m b mid s st r p:Int) (row:List Int) (h0:0≤st∧st≤r) (hr:r≤n) (hp:0≤p - r+1∧p - st<n) (hn:n≤100000000000000) :
 Df (kb G (((o:Int),(n:Int)),a,m,b,mid,s,st,r,p,row,T,A,B,())) (fun y=>∃(st':Int),st≤st'∧st'≤r∧y=(((o:Int),(n:Int)),a,m,b,mid,s,st',row,T,A,B,())):=by
 refine dL ?I ?m ?h _ ?hv ?hn
 case I=>exact (fun v=>∃(i':Int) (j':Int),st≤i'∧i'≤j'∧j'≤r∧v=(((o:Int),(n:Int)),a,m,b,mid,s,i',j',p,row,T,A,B,()))
 case m=>exact (fun v=>(v.2.2.2.2.2.2.2.1 - v.2.2.2.2.2.2.1).toNat)
 case hv=>exact ⟨st,r,Int.le_refl _,h0.2,Int.le_refl _,rfl⟩
 case hn=>exact (by first | omega | (dsimp only;omega))
 rintro v ⟨i',j',h1,h2,h3,rfl⟩;unfold q8k;dsimp only;simp only [Int.toNat_natCast];rw [v3g (by omega) (by omega) (by omega)];by_cases hlt:i'<j'
 · rw [qh (n:=(i'+j')/2+1) (by omega),qh (n:=p - (i'+j')/2) (by omega)]
   with_reducible repeat' (first | apply dP | apply dX<;>intro _)
   · refine dZ (k1x hA _ _) ?_
     rintro ⟨c,t,a',b',u⟩ hc;simp only [Prod.mk.injEq] at hc;obtain ⟨rfl,rfl,rfl,-⟩:=hc;dsimp only;with_reducible repeat' (first | apply dP | apply dX<;>intro _)
     · exact ⟨⟨_,_,by omega,by omega,by omega,rfl⟩,by first | omega | (dsimp only;omega)⟩
     · exact ⟨⟨_,_,by omega,by omega,by omega,rfl⟩,by first | omega | (dsimp only;omega)⟩
   all_goals first | (refine dO ?_;omega) | (exfalso;omega)
 · rw [decide_eq_false hlt]
   exact dP ⟨_,by omega,by omega,rfl⟩
def Mg (T:List R6) (A:List R4) (B:List R3) (G:jc) (o n:Nat) (k:Int):Prop:=∀(a m b:Int) (row:List Int),0≤a→a<m→m<b→b≤n→b - a<k →
 Df (G (((o:Int),(n:Int)),a,m,b,row,T,A,B,())) (fun y=>∃(r':List Int),r'.length=row.length∧y=(r',T,A,B,()))
theorem k1z (G:jc) (o n:Nat) (k:Int) (hG:Mg T A B G o n k) (b mid e:Int) (row:List Int) (h:0≤mid∧b≤n∧b - mid<k) :
 Df (xc G (((o:Int),(n:Int)),b,mid,e,row,T,A,B,())) (fun y=>∃(r':List Int),r'.length=row.length∧y=(r',T,A,B,())):=by
 show Df (q3v zi G zu _) _;unfold q3v;dsimp only;simp only [Int.toNat_natCast];with_reducible repeat' (first | apply dP | apply dX<;>intro _)
 · refine dZ (hG mid e b row (by omega) (by omega) (by omega) (by omega) (by omega)) ?_
   rintro y ⟨r',h,rfl⟩;exact dP ⟨_,h,rfl⟩
 · exact ⟨_,rfl,rfl⟩
 · exact ⟨_,rfl,rfl⟩
theorem k2a (G:jc) (o n:Nat) (k:Int) (hG:Mg T A B G o n k) (a b mid st e:Int) (row:List Int) (h0:0≤a∧mid≤n∧mid - a<k) (h:0≤mid∧b≤n∧b - mid<k) :
 Df (xd G (((o:Int),(n:Int)),a,b,mid,st,e,row,T,A,B,())) (fun y=>∃(r':List Int),r'.length=row.length∧y=(r',T,A,B,())):=by
 show Df (q3w zi G zu (xc G) _) _;unfold q3w;dsimp only;simp only [Int.toNat_natCast];have jy:∀r0:List Int,r0.length=row.length→Df ((xc G (((o:Int),(n:Int)),b,mid,e,r0,T,A,B,())).bind fun val=>some (val.fst,val.snd.fst,val.snd.snd.fst,val.snd.snd.snd.fst,())) (fun y=>∃(r':List Int),r'.length=row.length∧y=(r',T,A,B,())):=by
  intro r0 hr;refine dZ (k1z G o n k hG b mid e r0 h) ?_;rintro y ⟨r',h,rfl⟩;exact dP ⟨_,h.trans hr,rfl⟩
 with_reducible repeat' (first | apply dP | apply dX<;>intro _)
 · refine dZ (hG a st mid row (by omega) (by omega) (by omega) (by omega) (by omega)) ?_
   rintro y ⟨r',h,rfl⟩;exact jy r' h
 · exact jy row rfl
 · exact jy row rfl
theorem y9o (G:jc) (hA:A.length≤1000000000000) (o n:Nat) (k:Int) (hG:Mg T A B G o n k) (a m b mid s st r:Int) (row:List Int) (hn:n≤100000000000000) (hs:s=mid+m) (h0:0≤st∧st≤r) (hr:r≤n) (hp:0≤s - r∧s - st≤n)
 (ha:0≤a∧mid≤n∧mid - a<k) (h:0≤mid∧b≤n∧b - mid<k) (hm:m≤n) :
 Df (xv G (((o:Int),(n:Int)),a,m,b,mid,s,st,r,row,T,A,B,())) (fun y=>∃(r':List Int),r'.length=row.length∧y=(r',T,A,B,())):=by
 show Df (q3x zi G zu (xd G) (kb G) _) _;unfold q3x;dsimp only;simp only [Int.toNat_natCast];rw [qh (n:=s - 1) (by omega)];refine dZ (g2h G hA o n a m b mid s st r (s - 1) row h0 hr (by omega) hn) ?_;rintro y ⟨st',h1,h2,rfl⟩;dsimp only;simp only [Int.toNat_natCast];rw [qh (n:=s - st') (by omega)];have jy:∀r0:List Int,r0.length=row.length→Df ((xd G (((o:Int),(n:Int)),a,b,mid,st',s - st',r0,T,A,B,())).bind fun val=>some (val.fst,val.snd.fst,val.snd.snd.fst,val.snd.snd.snd.fst,())) (fun y=>∃(r':List Int),r'.length=row.length∧y=(r',T,A,B,())):=by
  intro r0 hr0;refine dZ (k2a G o n k hG a b mid st' (s - st') r0 ha h) ?_;rintro y ⟨r',h,rfl⟩;exact dP ⟨_,h.trans hr0,rfl⟩
 with_reducible repeat' (first | apply dP | apply dX<;>intro _)
 · refine dZ (b7b o n st' m (s - st') row (by omega) (by omega) hn) ?_
   rintro y ⟨r',h,rfl⟩;exact jy r' h
 · exact jy row rfl
 · exact jy row rfl
def q5k (G:jc):jc:=z7u zi G zu (xv G) (xw G) (xx G) (xy G) (xz G)
theorem w5j (hA:A.length≤1000000000000) (o n:Nat) (hn:n≤100000000000000):∀k:Nat,Mg T A B (q0u q5k k) o n (k:Int)
 | 0=>fun a m b row h0 h1 h2 h3 h4=>by omega
 | k+1=>fun a m b row h0 h1 h2 h3 h4=>by
  have hG:=w5j hA o n hn k;show Df (q5k (q0u q5k k) _) _;generalize q0u q5k k=G at hG ⊢;show Df (z7u zi G zu (xv G) (xw G) (xx G) (xy G) (xz G) _) _;unfold z7u;dsimp only;simp only [Int.toNat_natCast];rw [qh (n:=m - a) (by omega),qh (n:=b - m) (by omega),v3g (by omega) (by omega) (by omega),qh (n:=(a+b)/2+m) (by omega),qh (n:=(a+b)/2+m - b) (by omega)];have jy:∀{x:Option (List Int×List R6×List R4×List R3×Unit)},Df x (fun y=>∃(r':List Int),r'.length=row.length∧y=(r',T,A,B,()))→Df (x.bind fun val=>some (val.fst,val.snd.fst,val.snd.snd.fst,val.snd.snd.snd.fst,())) (fun y=>∃(r':List Int),r'.length=row.length∧y=(r',T,A,B,())):=by
   intro x hx;refine dZ hx ?_;rintro y ⟨r',h,rfl⟩;exact dP ⟨_,h,rfl⟩
  with_reducible repeat' (first | apply dP | apply dX<;>intro _)
  · refine dZ (g2d G hA o n a m b row (by omega) (by omega) (by omega) hn) ?_
    rintro y ⟨i',h5,h6,rfl⟩;dsimp only;simp only [Int.toNat_natCast];exact jy (g2e G o n i' a row (by omega) (by omega) hn (by omega))
  · refine dZ (g2f G hA o n m a m row (by omega) (by omega) (by omega) hn) ?_
    rintro y ⟨i',h5,h6,rfl⟩;dsimp only;simp only [Int.toNat_natCast];exact jy (g2g G o n i' m row (by omega) (by omega) hn)
  · exact jy (y9o G hA o n k hG a m b ((a+b)/2) ((a+b)/2+m) ((a+b)/2+m - b) ((a+b)/2) row hn rfl (by omega) (by omega) (by omega) (by omega) (by omega) (by omega))
  · exact jy (y9o G hA o n k hG a m b ((a+b)/2) ((a+b)/2+m) a m row hn rfl (by omega) (by omega) (by omega) (by omega) (by omega) (by omega))
theorem f3v (hA:A.length≤1000000000000) (o n:Nat) (hn:n≤100000000000000) (a m b:Int) (row:List Int) (h0:0≤a) (h1:a<m) (h2:m<b) (h3:b≤n) :
 Df (j3v (((o:Int),(n:Int)),a,m,b,row,T,A,B,())) (fun y=>∃(r':List Int),r'.length=row.length∧y=(r',T,A,B,())):=by
 show Df (q0u q5k jd _) _;exact w5j hA o n hn jd a m b row h0 h1 h2 h3 (by unfold jd;omega)
theorem g1y (hA:A.length≤1000000000000) (o n:Nat) (hn:n≤100000000000000) (row:List Int) :
 Df (q8a (((o:Int),(n:Int)),(n:Int),20,0,20,row,T,A,B,())) (fun y=>∃(a:Int) (r':List Int),0≤a∧a≤n∧r'.length=row.length∧y=(((o:Int),(n:Int)),(n:Int),20,a,r',T,A,B,())):=by
 refine dL ?I ?m ?h _ ?hv ?hn
 case I=>exact (fun v=>∃(a:Int) (r':List Int),0≤a∧a≤n∧r'.length=row.length∧v=(((o:Int),(n:Int)),(n:Int),20,a,a+20,r',T,A,B,()))
 case m=>exact (fun v=>(n - v.2.2.2.1).toNat)
 case hv=>exact ⟨0,row,Int.le_refl _,by omega,rfl,rfl⟩
 case hn=>exact (by first | omega | (dsimp only;omega))
 rintro v ⟨a,r',h1,h2,h3,rfl⟩;unfold j5u;dsimp only;simp only [Int.toNat_natCast];rw [qh (n:=a+20+20) (by omega)];with_reducible repeat' (first | apply dP | apply dX<;>intro _)
 · refine dZ (f3u hA o n a (a+20) r' (by omega) (by omega) hn) ?_
   rintro y ⟨r2,h4,rfl⟩;exact dP ⟨⟨a+20,r2,by omega,by omega,h4.trans h3,rfl⟩,by first | omega | (dsimp only;omega)⟩
 · exact ⟨_,_,h1,h2,h3,rfl⟩
theorem g1z (hA:A.length≤1000000000000) (o n:Nat) (hn:n≤100000000000000) (bs:Int) (hbs:1≤bs∧bs≤n) (row:List Int) :
 Df (q8b (((o:Int),(n:Int)),(n:Int),bs,0,2*bs,row,T,A,B,())) (fun y=>∃(a:Int) (r':List Int),0≤a∧a≤n∧r'.length=row.length∧y=(((o:Int),(n:Int)),(n:Int),bs,a,r',T,A,B,())):=by
 refine dL ?I ?m ?h _ ?hv ?hn
 case I=>exact (fun v=>∃(a:Int) (r':List Int),0≤a∧a≤n∧r'.length=row.length∧v=(((o:Int),(n:Int)),(n:Int),bs,a,a+2*bs,r',T,A,B,()))
 case m=>exact (fun v=>(n - v.2.2.2.1).toNat)
 case hv=>exact ⟨0,row,Int.le_refl _,by omega,rfl,by rw [Int.zero_add]⟩
 case hn=>exact (by first | omega | (dsimp only;omega))
 rintro v ⟨a,r',h1,h2,h3,rfl⟩;unfold j5v;dsimp only;simp only [Int.toNat_natCast];rw [qh (n:=2*bs) (by omega),qh (n:=a+bs) (by omega),qh (n:=a+2*bs+2*bs) (by omega)];with_reducible repeat' (first | apply dP | apply dX<;>intro _)
 · refine dZ (f3v hA o n hn a (a+bs) (a+2*bs) r' (by omega) (by omega) (by omega) (by omega)) ?_
   rintro y ⟨r2,h4,rfl⟩;exact dP ⟨⟨a+2*bs,r2,by omega,by omega,h4.trans h3,rfl⟩,by first | omega | (dsimp only;omega)⟩
 · exact ⟨_,_,h1,h2,h3,rfl⟩
theorem b6u (hA:A.length≤1000000000000) (o n:Nat) (hn:n≤100000000000000) (row:List Int) :
 Df (y1r (((o:Int),(n:Int)),(n:Int),row,T,A,B,())) (fun y=>∃(r':List Int),r'.length=row.length∧y=(r',T,A,B,())):=by
 unfold y1r v8t;dsimp only;simp only [Int.toNat_natCast];refine dZ (g1y hA o n hn row) ?_;rintro y ⟨a,r1,h1,h2,h3,rfl⟩;dsimp only;simp only [Int.toNat_natCast];refine dZ (f3u hA o n a n r1 (by omega) (by omega) hn) ?_;rintro y ⟨r2,h4,rfl⟩;dsimp only;refine dZ (P:=fun y=>∃(r':List Int),r'.length=row.length∧y=(r',T,A,B,())) ?_ ?_
 · refine dL ?I ?m ?h _ ?hv ?hn
   case I=>exact (fun v=>∃(bs:Int) (r':List Int),1≤bs∧bs≤400000000000000∧r'.length=row.length∧v=(((o:Int),(n:Int)),(n:Int),bs,r',T,A,B,()))
   case m=>exact (fun v=>(n - v.2.2.1).toNat)
   case hv=>exact ⟨20,r2,by omega,by omega,h4.trans h3,rfl⟩
   case hn=>exact (by first | omega | (dsimp only;omega))
   rintro v ⟨bs,r',h5,h6,h7,rfl⟩;unfold j5w;dsimp only;simp only [Int.toNat_natCast];rw [qh (n:=2*bs) (by omega)];with_reducible repeat' (first | apply dP | apply dX<;>intro _)
   · refine dZ (g1z hA o n hn bs (by omega) r') ?_
     rintro y ⟨a,r3,h8,h9,h10,rfl⟩;dsimp only;simp only [Int.toNat_natCast];rw [qh (n:=a+bs) (by omega),qh (n:=bs*2) (by omega)];with_reducible repeat' (first | apply dP | apply dX<;>intro _)
     · refine dZ (f3v hA o n hn a (a+bs) n r3 (by omega) (by omega) (by omega) (by omega)) ?_
       rintro y ⟨r4,h11,rfl⟩;exact dP ⟨⟨_,_,by omega,by omega,(h11.trans h10).trans h7,rfl⟩,by first | omega | (dsimp only;omega)⟩
     · exact ⟨⟨_,_,by omega,by omega,h10.trans h7,rfl⟩,by first | omega | (dsimp only;omega)⟩
   · exact ⟨_,h7,rfl⟩
 · rintro y ⟨r',h,rfl⟩
   exact dP ⟨_,h,rfl⟩
theorem b6g (hA:A.length≤1000000000000) (o n:Nat) (hn:n≤100000000000000) (row:List Int) :
 Df (j3u (((o:Int),(n:Int)),row,T,A,B,())) (fun y=>∃(r':List Int),r'.length=row.length∧y=(r',T,A,B,())):=by
 unfold j3u v8d;dsimp only;simp only [Int.toNat_natCast];refine dZ (b6u hA o n hn row) ?_;rintro y ⟨r',h,rfl⟩;exact dP ⟨_,h,rfl⟩
theorem g1m (hA:A.length≤1000000000000) (f k:Int) (row:List Int) (hf:0≤f∧f≤k) (hk:k≤row.length) (hn:row.length≤35184372088832) :
 Df (vz (f,k,T,A,B,row,())) (fun y=>∃(r':List Int),r'.length=row.length∧y=(k+1,k,T,A,B,r',())):=by
 unfold vz j5k;dsimp only;rw [qh (n:=k+1) (by omega)];with_reducible repeat' (first | apply dP | apply dX<;>intro _)
 · refine dZ (b6g hA f.toNat (k.toNat - f.toNat) (by omega) row) ?_
   rintro y ⟨r',h,rfl⟩;exact dP ⟨_,h,rfl⟩
 · refine dO ?_;omega
 · refine dO ?_;omega
theorem f3j (hA:A.length≤1000000000000) (l:List Int) (hl:l.length≤35184372088832):Df (y1n (T,A,B,l,())) (fun y=>y.1.length=l.length):=by
 unfold y1n v7n;dsimp only;refine dZ (P:=fun y=>y.1=l) ?_ ?_
 · unfold j9r
   dsimp only;with_reducible repeat' (first | apply dP | apply dX<;>intro _)
   · rfl
   · refine dO ?_;omega
 rintro ⟨l',u⟩ hl';dsimp only at hl' ⊢;subst hl';refine dZ (P:=fun y=>y.1.length=l'.length) ?_ (fun _ h=>dP h);refine dL ?I ?m ?h _ ?hv ?hn
 case I=>exact (fun v=>∃(f:Int) (k:Int) (r':List Int),0≤f∧f≤k∧k≤l'.length+1∧r'.length=l'.length∧v=(f,k,T,A,B,r',()))
 case m=>exact (fun v=>(l'.length+1 - v.2.1).toNat)
 case hv=>exact ⟨0,0,l',Int.le_refl _,Int.le_refl _,by omega,rfl,rfl⟩
 case hn=>exact (by first | omega | (dsimp only;omega))
 rintro v ⟨f,k,r',h1,h2,h3,h4,rfl⟩;unfold j5l;dsimp only;rw [qh (n:=k+1) (by omega)];have jy:k≤r'.length→Df ((vz (f,k,T,A,B,r',())).bind fun val=>some (Sum.inl (val.fst,IntKind.i64.wrap (val.snd.fst+1),val.snd.snd.fst,val.snd.snd.snd.fst,val.snd.snd.snd.snd.fst,val.snd.snd.snd.snd.snd.fst,())))
  (Sum.elim (fun v':Int×Int×List R6×List R4×List R3×List Int×Unit=>(∃(f:Int) (k:Int) (r':List Int),0≤f∧f≤k∧k≤l'.length+1∧r'.length=l'.length∧v'=(f,k,T,A,B,r',()))∧(l'.length+1 - v'.2.1).toNat<(l'.length+1 - k).toNat) (fun y:List Int×Unit=>y.1.length=l'.length)):=by
  intro hk;refine dZ (g1m hA f k r' (by omega) hk (by omega)) ?_;rintro y ⟨r2,h5,rfl⟩;dsimp only;rw [qh (n:=k+1) (by omega)];exact dP ⟨⟨_,_,_,by omega,by omega,by omega,h5.trans h4,rfl⟩,by first | omega | (dsimp only;omega)⟩
 with_reducible repeat' (first | apply dP | apply dX<;>intro _)
 · refine dZ (v0w T A B _ hA) ?_
   rintro ⟨c,u⟩ -
   dsimp only;with_reducible repeat' (first | apply dP | apply dX<;>intro _)
   · exact ⟨⟨_,_,_,by omega,by omega,by omega,h4,rfl⟩,by first | omega | (dsimp only;omega)⟩
   · exact jy (by omega)
 · refine dO ?_;omega
 · exact jy (by omega)
 · exact h4
end
section
variable {T:List R6} {A:List R4} {B:List R3}
theorem j8o (f:Int→Option Int) (h:∀x,∃y,f x=some y):∀l:List (Int×Int),∃y,z5x f l=some y
 | []=>⟨0,rfl⟩
 | x::l=>by
  obtain ⟨b,hb⟩:=h x.2;simp only [z5x,hb,Option.bind_some];cases (b != 6) with
  | true=>exact ⟨b,rfl⟩
  | false=>exact j8o f h l
theorem b5c (h:TK T A B) (l:List Int) (hl:l.length≤1000000000000):Df (j3q (T,A,B,l,())) (fun _=>True):=by
 unfold j3q;dsimp only;rw [decide_eq_true hl];obtain ⟨y,hy⟩:=j8o (fun x=>(q5y (T,A,B,x,())).map fun r=>r.1) (fun x=>by
  obtain ⟨y,e,-⟩:=g1g T A B x h.t;exact ⟨y.1,by simp only [e,Option.map_some]⟩) (bk l)
 exact ⟨(y,()),by simp only [cond_true,hy,Option.map_some],trivial⟩
theorem f2z (h:TK T A B) (l:List Int) (hl:l.length≤1000000000000):Df (y1h (T,A,B,l,())) (fun _=>True):=by
 unfold y1h w8a;dsimp only;refine dZ (f3e h l hl) ?_;rintro ⟨z0,z1,z2,z3,z4,z5,z6,z7,u⟩ -
 refine dZ (b5c h l hl) ?_;rintro ⟨e,u⟩ -
 refine dZ (b5d h l) ?_;rintro ⟨s,u⟩ -
 dsimp only;with_reducible repeat' (first | apply dP | apply dX<;>intro _)
 · exact dZ (v0s _ _ _ rfl) fun _ _=>dP trivial
 · exact dZ (v0s _ _ _ rfl) fun _ _=>dP trivial
 · refine dZ (g0x h l hl) ?_
   rintro ⟨b,u⟩ -
   dsimp only;with_reducible repeat' (first | apply dP | apply dX<;>intro _)
   all_goals trivial
 · trivial
theorem b6a (h:TK T A B) (l:List Int) (hl:l.length≤1000000000000):Df (x6s (T,A,B,l,())) (fun y=>y.2=(T,A,B,l,())):=by
 unfold x6s w8h;dsimp only;refine dZ (g0x h l hl) ?_;rintro ⟨b,u⟩ -
 dsimp only;with_reducible repeat' (first | apply dP | apply dX<;>intro _)
 · exact dZ (f2z h l hl) fun _ _=>dP rfl
 · rfl
theorem b5j (h:TK T A B) (s:List UInt8) (a b:Bool) (hs:s.length≤100000000000):Df (y1l (T,A,B,s,a,b,())) (fun y=>y.1.length≤384*s.length):=by
 unfold y1l v7d;dsimp only;refine dZ (d83 s (by omega)) ?_;rintro ⟨l,at_,u⟩ hl;dsimp only at hl ⊢;with_reducible repeat' (first | apply dP | apply dX<;>intro _)
 · exact (by simp:([]:List UInt8).length≤384*s.length)
 · refine dZ (f3k T A B l a (by omega)) ?_
   rintro ⟨l2,u⟩ h2;dsimp only at h2 ⊢;refine dZ (f3j h.a l2 (by omega)) ?_;rintro ⟨l3,u⟩ h3;dsimp only at h3 ⊢;with_reducible repeat' (first | apply dP | apply dX<;>intro _)
   · refine dZ (f3l T A B l3 (by omega) h.a) ?_
     rintro ⟨l4,u⟩ h4;dsimp only at h4 ⊢;refine dZ (x5h l4 (by omega)) ?_;rintro ⟨s5,b5,u⟩ h5;exact dP (by dsimp only at h5 ⊢;omega)
   · refine dZ (x5h l3 (by omega)) ?_
     rintro ⟨s5,b5,u⟩ h5;exact dP (by dsimp only at h5 ⊢;omega)
theorem g1b (h:TK T A B) (s:List UInt8) (hs:s.length≤100000000000):Df (z2j (T,A,B,s,())) (fun y=>y.1.length≤384*s.length):=by
 unfold z2j v6x;dsimp only;refine dZ (b5j h s false true hs) ?_;rintro ⟨x,b,u⟩ hx;exact dP hx
theorem v0r (h:TK T A B) (s:List UInt8) (hs:s.length≤10000000000):Df (j1o (T,A,B,s,())) (fun y=>y.1.length≤1536*s.length):=by
 unfold j1o x8m;dsimp only;refine dZ (d83 s (by omega)) ?_;rintro ⟨l,at_,u⟩ hl;dsimp only at hl ⊢;with_reducible repeat' (first | apply dP | apply dX<;>intro _)
 · exact (by simp:([]:List UInt8).length≤1536*s.length)
 · refine dZ (f3c T A B l (by omega)) ?_
   rintro ⟨l2,u⟩ h2;dsimp only at h2 ⊢;refine dZ (f3b T A B h.b l2 (by omega)) ?_;rintro ⟨l3,u⟩ h3;dsimp only at h3 ⊢;refine dZ (x5h l3 (by omega)) ?_;rintro ⟨s4,b4,u⟩ h4;dsimp only at h4 ⊢;refine dZ (g1b h s4 (by omega)) ?_;rintro ⟨s5,b5,u⟩ h5;exact dP (by dsimp only at h5 ⊢;omega)
theorem g0w (a b:List UInt8):Df (z7b (a,b,())) (fun y=>y.1=true→b.length≤a.length):=by
 unfold z7b v6l;dsimp only;with_reducible repeat' (first | apply dP | apply dX<;>intro _)
 · intro _;dsimp only at *;omega
 · refine dO ?_;omega
 · intro h;cases h
theorem b4z (a b:List UInt8):Df (x1s (a,b,())) (fun y=>y.1.length≤a.length):=by
 unfold x1s v6w;dsimp only;refine dZ (g0w a b) ?_;rintro ⟨x,u⟩ hx;dsimp only at hx ⊢;with_reducible repeat' (first | apply dP | apply dX<;>intro _)
 · exact Nat.le_refl _
 · exact (by simp:(List.drop _ a).length≤a.length)
 · rename_i h1 h2
   have:=hx h1;refine dO ?_;omega
theorem f2y (a b:List UInt8):Df (y1g (a,b,())) (fun y=>y.1.length≤a.length):=by
 unfold y1g v6m;dsimp only;refine dZ (b4z a b) ?_;rintro ⟨x,b,u⟩ hx;exact dP hx
theorem d96 (a b:List UInt8):Df (C96 (a,b,())) (fun _=>True):=by
 unfold C96 F96;dsimp only;exact dZ (g0w a b) fun _ _=>dP trivial
theorem b6z (a b:List UInt8) (ha:a.length≤1000000000000000) (hb:b.length≤1000000000000000):Df (x7c (a,b,())) (fun _=>True):=by
 unfold x7c w8o;dsimp only;rw [qh (n:=(a.length:Int) - (b.length:Int)) (by omega)];with_reducible repeat' (first | apply dP | apply dX<;>intro _)
 · trivial
 · refine dO ?_;omega
 · trivial
theorem b6q (a b:List UInt8) (ha:a.length≤1000000000000000) (hb:b.length≤1000000000000000):Df (x6y (a,b,())) (fun _=>True):=by
 unfold x6y w8m;dsimp only;exact dZ (b6z a b ha hb) fun _ _=>dP trivial
theorem f3p (a:List UInt8) (ha:a.length≤1000000000000000):Df (y1p (a,())) (fun _=>True):=by
 unfold y1p w8g;dsimp only;refine dZ (d96 _ _) ?_;rintro ⟨x,u⟩ -
 dsimp only;with_reducible repeat' (first | apply dP | apply dX<;>intro _)
 · trivial
 · refine dZ (b6q _ _ ha (by simp)) ?_
   rintro ⟨x,u⟩ -
   dsimp only;with_reducible repeat' (first | apply dP | apply dX<;>intro _)
   · trivial
   · trivial
   · refine dO ?_;omega
   · trivial
theorem b5w (a:List UInt8) (ha:a.length≤1000000000000000):Df (y1o (a,())) (fun y=>y.2.1=a):=by
 unfold y1o v7x;dsimp only;exact dZ (f3p a ha) fun _ _=>dP rfl
theorem b5v (h:TK T A B) (s:List UInt8) (hs:s.length≤100000000000):Df (x6r (T,A,B,s,())) (fun _=>True):=by
 unfold x6r w8f;dsimp only;refine dZ (g1b h s hs) ?_;rintro ⟨x,b,u⟩ -
 dsimp only;with_reducible repeat' (first | apply dP | apply dX<;>intro _)
 all_goals trivial
theorem b5u (h:TK T A B) (s:List UInt8) (hs:s.length≤100000000000):Df (z7n (s,T,A,B,())) (fun y=>y.2=(s,T,A,B,())∧(y.1=false→0<s.length)):=by
 unfold z7n x8t;dsimp only;refine dZ (d21 s (by omega)) ?_;rintro ⟨x,u⟩ hx;dsimp only at hx ⊢;with_reducible repeat' (first | apply dP | apply dX<;>intro _)
 · exact ⟨rfl,fun h=>by cases h⟩
 · refine dZ (b5v h s hs) ?_
   rintro ⟨x,u⟩ -
   exact dP ⟨rfl,fun _=>by omega⟩
theorem b5x (h:TK T A B) (l:List Int) (hl:0<l.length):Df (y1q (T,A,B,l,())) (fun y=>y.2=(T,A,B,l,())):=by
 unfold y1q v7y;dsimp only;with_reducible repeat' (first | apply dP | apply dX<;>intro _)
 · exact dZ (g1e T A B _ h.t) fun _ _=>dP rfl
 · refine dO ?_;omega
theorem b5t (a:Int):Df (x6q (a,())) (fun y=>y.2.1=a∧(y.1=false→a<0)):=by
 unfold x6q w8e;dsimp only;refine dP ⟨rfl,fun h => ?_⟩;dsimp only at h;simp only [decide_eq_false_iff_not] at h;omega
theorem b6b (l:List Int) (a:List UInt8) (b:Bool) (hl:l.length≤1000000000000):Df (x6t (l,a,b,())) (fun y=>y.2.1=l):=by
 unfold x6t w8i;dsimp only;exact dZ (g1h l hl) fun _ _=>dP rfl
theorem b6c (a:List UInt8):Df (x6u (a,())) (fun _=>True):=by
 unfold x6u w8j;dsimp only;exact dP trivial
theorem b5s (h:TK T A B) (a0 a1 a2 a3 a4 a5 a6 a7:Int) (at_:Int) (s:List UInt8) (l:List Int) (c:List UInt8) (d:Bool) (hs:s.length≤100000000000) (hl:l.length≤100000000000) (h0:at_<0→0<s.length→0<l.length) :
 Df (z7m (a0,a1,a2,a3,a4,a5,a6,a7,at_,s,T,A,B,l,c,d,())) (fun _=>True):=by
 unfold z7m x8s;dsimp only;refine dZ (b5t at_) ?_;rintro ⟨b,at',u⟩ hb;dsimp only at hb ⊢;obtain ⟨rfl,hb⟩:=hb;with_reducible repeat' (first | apply dP | apply dX<;>intro _)
 · trivial
 · rename_i h1
   refine dZ (b5u h s hs) ?_;rintro ⟨b2,y⟩ ⟨hy,h2⟩;dsimp only at hy h2;subst hy;dsimp only;with_reducible repeat' (first | apply dP | apply dX<;>intro _)
   · trivial
   · rename_i h3
     refine dZ (b5w s (by omega)) ?_;rintro ⟨b3,s',u⟩ hs';dsimp only at hs' ⊢;with_reducible repeat' (first | apply dP | apply dX<;>intro _)
     · trivial
     · refine dZ (b5x h l (h0 (hb h1) (h2 h3))) ?_
       rintro ⟨b4,y⟩ hy;dsimp only at hy;subst hy;dsimp only;with_reducible repeat' (first | apply dP | apply dX<;>intro _)
       · trivial
       · refine dZ (b5y h l (by omega)) ?_
         rintro ⟨b5,y⟩ hy;dsimp only at hy;subst hy;dsimp only;with_reducible repeat' (first | apply dP | apply dX<;>intro _)
         · trivial
         · refine dZ (b6a h l (by omega)) ?_
           rintro ⟨b6,y⟩ hy;dsimp only at hy;subst hy;dsimp only;with_reducible repeat' (first | apply dP | apply dX<;>intro _)
           · trivial
           · refine dZ (b6b l c d (by omega)) ?_
             rintro ⟨b7,l',c',d',u⟩ -
             dsimp only;with_reducible repeat' (first | apply dP | apply dX<;>intro _)
             · trivial
             · refine dZ (b6c _) ?_
               rintro ⟨b8,c8,u⟩ -
               dsimp only;with_reducible repeat' (first | apply dP | apply dX<;>intro _)
               all_goals trivial
theorem f3h (h:TK T A B) (s:List UInt8) (hs:s.length≤100000000000):Df (z2s (T,A,B,s,())) (fun _=>True):=by
 unfold z2s x8r;dsimp only;refine dZ (d83 s (by omega)) ?_;rintro ⟨l,at_,u⟩ hl;dsimp only at hl ⊢;refine dZ (b5s h _ _ _ _ _ _ _ _ at_ s l _ _ hs (by omega) hl.2.2) ?_;rintro ⟨e,y⟩ -
 exact dP trivial
theorem g1q (a:Int) (b:Bool):Df (q7t (a,b,())) (fun _=>True):=by
 unfold q7t z4e;dsimp only;with_reducible repeat' (first | apply dP | apply dX<;>intro _)
 all_goals trivial
theorem g1r (a:Int) (b:Bool):Df (q7u (a,b,())) (fun _=>True):=by
 unfold q7u z4f;dsimp only;with_reducible repeat' (first | apply dP | apply dX<;>intro _)
 all_goals first | trivial | exact dZ (g1q _ _) fun _ _=>dP trivial
theorem b6d (a:Int):Df (j7g (a,())) (fun _=>True):=by
 unfold j7g w8k;dsimp only;with_reducible repeat' (first | apply dP | apply dX<;>intro _)
 all_goals (refine dZ (g1r _ _) ?_;rintro ⟨x,u⟩ -;dsimp only;(repeat' (first | with_reducible apply dP | (with_reducible apply dB<;>intro _)));all_goals trivial)
theorem b4v (s:List UInt8) (b:Bool) (hs:s.length≤1000000000000000):Df (y1i (s,b,())) (fun _=>True):=by
 unfold y1i v6r;dsimp only;refine dZ (P:=fun _=>True) ?_ (fun z _=>by cases z<;>exact dP trivial);refine dL ?I ?m ?h _ ?hv ?hn
 case I=>exact (fun v=>v.2.1.1=s∧0≤v.2.1.2)
 case m=>exact (fun v=>s.length - v.2.1.2.toNat)
 case hv=>exact ⟨rfl,Int.le_refl _⟩
 case hn=>exact (by first | omega | (dsimp only;omega))
 · rintro ⟨x0,⟨x1,p⟩,u⟩ hI
   dsimp only at hI;obtain ⟨rfl,h0⟩:=hI;unfold j5b;dsimp only;with_reducible repeat' (first | apply dP | apply dX<;>intro _)
   · refine dZ (b6d _) ?_
     rintro ⟨x,u⟩ -
     dsimp only;have:=z9b x1 p.toNat
     with_reducible repeat' (first | apply dP | apply dX<;>intro _)
     · trivial
     · exact ⟨⟨rfl,by first | omega | (dsimp only;omega)⟩,by first | omega | (dsimp only;omega)⟩
   · trivial
end
section
variable {T:List R6} {A:List R4} {B:List R3}
theorem d84 (s:List UInt8) (hs:s.length≤1000000000000000):Df (C84 (s,())) (fun _=>True):=by
 unfold C84 F84;dsimp only;refine dZ (P:=fun _=>True) ?_ (fun _ _=>dP trivial);unfold x6i v6h;dsimp only;exact dZ (b4v s true hs) fun _ _=>dP trivial
theorem b5l (s:List UInt8) (hs:s.length≤1000000000000000):Df (z7j (s,())) (fun _=>True):=by
 unfold z7j v7j;dsimp only;refine dZ (P:=fun _=>True) ?_ (fun _ _=>dP trivial);unfold j7f z4d;dsimp only;refine dZ (P:=fun y=>y.2.1=s) (dP rfl) ?_;rintro ⟨b,s1,u⟩ h1;dsimp only at h1 ⊢;subst h1;with_reducible repeat' (first | apply dP | apply dX<;>intro _)
 · trivial
 · refine dZ (P:=fun y=>y.2.1=s1) (dP rfl) ?_
   rintro ⟨b,s2,u⟩ h2;dsimp only at h2 ⊢;subst h2;with_reducible repeat' (first | apply dP | apply dX<;>intro _)
   · trivial
   · refine dZ (P:=fun y=>y.2.1=s2) ?_ ?_
     · unfold x6v v7z
       dsimp only;exact dZ (d84 s2 hs) fun _ _=>dP rfl
     rintro ⟨b,s3,u⟩ h3;dsimp only at h3 ⊢;subst h3;with_reducible repeat' (first | apply dP | apply dX<;>intro _)
     · trivial
     · refine dZ (P:=fun _=>True) ?_ ?_
       · unfold v5w w8l
         dsimp only;exact dZ (f3p s3 hs) fun _ _=>dP trivial
       rintro ⟨b,s4,u⟩ -
       dsimp only;with_reducible repeat' (first | apply dP | apply dX<;>intro _)
       all_goals trivial
theorem k8w (n:Int):IntKind.u8.wrap n=n%256:=by simp [IntKind.wrap,IntKind.bits,IntKind.signed]
theorem v0y (x:Int) (b:Bool) (hb:b=true→65≤x∧x≤90):Df (q7y (x,b,())) (Sum.elim (fun y=>0≤y.1∧y.1≤35) (fun _=>True)):=by
 unfold q7y z4k;dsimp only;with_reducible repeat' (first | apply dP | apply dX<;>intro _)
 · rename_i h1
   have:=hb h1;rw [k8w,v5r];exact ⟨by first | omega | (dsimp only;omega),by first | omega | (dsimp only;omega)⟩
 · rw [k8w,v5r]
   exact ⟨by first | omega | (dsimp only;omega),by first | omega | (dsimp only;omega)⟩
 all_goals trivial
theorem v0z (x:Int) (b:Bool) (hb:b=true→48≤x∧x≤57):Df (q7z (x,b,())) (Sum.elim (fun y=>0≤y.1∧y.1≤35) (fun _=>True)):=by
 unfold q7z z4l;dsimp only;with_reducible repeat' (first | apply dP | apply dX<;>intro _)
 · rename_i h1
   have:=hb h1;rw [k8w,v5r,v5r];exact ⟨by first | omega | (dsimp only;omega),by first | omega | (dsimp only;omega)⟩
 · refine dZ (v0y x _ (fun h=>by simp only [decide_eq_true_eq] at h;omega)) ?_
   intro z hz;exact dS hz (fun a ha=>dP ha) (fun _ _=>dP trivial)
 · refine dZ (v0y x _ (fun h=>by cases h)) ?_
   intro z hz;exact dS hz (fun a ha=>dP ha) (fun _ _=>dP trivial)
theorem b6r (x:Int):Df (j1u (x,())) (fun y=>y.2.1=true→0≤y.1∧y.1≤35):=by
 unfold j1u w8n;dsimp only;with_reducible repeat' (first | apply dP | apply dX<;>intro _)
 · refine dZ (v0z x _ (fun h=>by simp only [decide_eq_true_eq] at h;omega)) ?_
   intro z hz;exact dS hz (fun a ha=>dP fun _=>ha) (fun _ _=>dP fun h=>by cases h)
 · refine dZ (v0z x _ (fun h=>by cases h)) ?_
   intro z hz;exact dS hz (fun a ha=>dP fun _=>ha) (fun _ _=>dP fun h=>by cases h)
theorem g1s (s:List UInt8) (b:Int) (hs:s.length≤1000000000000):Df (j4r (s,b,0,1,(s.length:Int),0,())) (Sum.elim (fun _=>True) (Sum.elim (fun _=>True) (fun y=>0≤y.1∧y.1≤2147483647∧y.2.1.length<s.length))):=by
 refine dL ?I ?m ?h _ ?hv ?hn
 case I=>exact (fun v=>v.1=s∧0≤v.2.2.1∧v.2.2.1≤2147483647∧0≤v.2.2.2.1∧v.2.2.2.1≤75161927645∧v.2.2.2.2.1=s.length∧0≤v.2.2.2.2.2.1∧v.2.2.2.2.2.1≤s.length)
 case m=>exact (fun v=>(s.length - v.2.2.2.2.2.1).toNat)
 case hv=>exact ⟨rfl,by first | omega | (dsimp only;omega),by first | omega | (dsimp only;omega),by first | omega | (dsimp only;omega),by first | omega | (dsimp only;omega),rfl,by first | omega | (dsimp only;omega),by first | omega | (dsimp only;omega)⟩
 case hn=>exact (by first | omega | (dsimp only;omega))
 rintro ⟨x0,x1,x2,x3,x4,x5,u⟩ hI;dsimp only at hI;obtain ⟨rfl,h0,h1,h2,h3,rfl,h4,h5⟩:=hI;unfold j5r;dsimp only;with_reducible repeat' (first | apply dP | apply dX<;>intro _)
 · refine dZ (b6r _) ?_
   rintro ⟨d,ok,u⟩ hd;dsimp only at hd ⊢;refine dH (fun _=>dP trivial) (fun hok => ?_);refine dD (fun _=>dP trivial) (fun hw => ?_)
   · have hd':=hd hok
     have p0:0≤d*x3:=Int.mul_nonneg hd'.1 h2;have p1:d*x3≤35*x3:=Int.mul_le_mul_of_nonneg_right hd'.2 h2;generalize d*x3=P at p0 p1 ⊢;rw [qh (n:=P) (by omega),qh (n:=x2+P) (by omega),qh (n:=x5+1) (by omega)];with_reducible repeat' (first | apply dP | apply dX<;>intro _)
     · trivial
     · refine dZ (g1w _ _) ?_
       rintro ⟨t,u⟩ ht;dsimp only at ht ⊢;have q0:0≤x3*(36 - t):=Int.mul_nonneg h2 (by omega);have q1:x3*(36 - t)≤x3*35:=Int.mul_le_mul_of_nonneg_left (by omega) h2;rw [qh (n:=36 - t) (by omega)];generalize x3*(36 - t)=R at q0 q1 ⊢;rw [qh (n:=R) (by omega)];with_reducible repeat' (first | apply dP | apply dX<;>intro _)
       · refine ⟨by first | omega | (dsimp only;omega),by first | omega | (dsimp only;omega),?_⟩
         simp only [List.length_drop];omega
       · refine dO ?_;omega
       · exact ⟨⟨rfl,by first | omega | (dsimp only;omega),by first | omega | (dsimp only;omega),by first | omega | (dsimp only;omega),by first | omega | (dsimp only;omega),rfl,by first | omega | (dsimp only;omega),by first | omega | (dsimp only;omega)⟩,by first | omega | (dsimp only;omega)⟩
 · refine dO ?_;omega
 · trivial
theorem f3q (s:List UInt8) (b:Int) (hs:s.length≤1000000000000):Df (j3t (s,b,())) (fun y=>y.1<0∨(0≤y.1∧y.1≤2147483647∧y.2.1.length<s.length)):=by
 unfold j3t v8b;dsimp only;refine dZ (g1s s b hs) ?_;intro z hz;refine dS hz ?_ ?_
 · intro u _
   exact dP (.inl (by first | omega | (dsimp only;omega)))
 · intro z2 hz2
   refine dS hz2 ?_ ?_
   · intro u _
     refine dZ (P:=fun y=>y.1<0) ?_ ?_
     · refine dL ?I ?m ?h _ ?hv ?hn
       case I=>exact (fun _=>True)
       case m=>exact (fun _=>0)
       case hv=>exact trivial
       case hn=>exact (by first | omega | (dsimp only;omega))
       intro v _;unfold q8f;exact dP (by decide:(-1:Int)<0)
     · rintro ⟨a,b,u⟩ h
       exact dP (.inl h)
   · rintro ⟨a,b,u⟩ h
     exact dP (.inr h)
theorem b6f (i:Int) (l:List Int) (x:Int) (hi:0≤i∧i≤l.length) (hl:l.length≤1000000000000):Df (j1t (i,l,[x],())) (fun y=>y.1.length=l.length+1):=by
 unfold j1t;dsimp only;rw [decide_eq_true hi.1,decide_eq_true hi.2,decide_eq_true hl];refine dP ?_;simp only [List.length_append,List.length_take,List.length_drop,List.length_cons,List.length_nil];omega
theorem g1l (L:Nat) (hL:L≤1000000000000) (s:List UInt8) (out:List Int) (h:s.length+out.length≤L):Df (j4n (s,128,0,72,true,out,())) (Sum.elim (fun y=>y.1.length≤L) (fun _=>True)):=by
 refine dL ?I ?m ?h _ ?hv ?hn
 case I=>exact (fun v=>v.1.length+v.2.2.2.2.2.1.length≤L∧128≤v.2.1∧v.2.1≤1114111∧0≤v.2.2.1∧v.2.2.1≤v.2.2.2.2.2.1.length)
 case m=>exact (fun v=>v.1.length)
 case hv=>exact ⟨h,by first | omega | (dsimp only;omega),by first | omega | (dsimp only;omega),by first | omega | (dsimp only;omega),by first | omega | (dsimp only;omega)⟩
 case hn=>exact (by first | omega | (dsimp only;omega))
 rintro ⟨x0,x1,x2,x3,x4,x5,u⟩ hI;dsimp only at hI;obtain ⟨h0,h1,h2,h3,h4⟩:=hI;unfold j5j;dsimp only;rw [qh (n:=(x5.length:Int)+1) (by omega)];with_reducible repeat' (first | apply dP | apply dX<;>intro _)
 · refine dZ (f3q x0 x3 (by omega)) ?_
   rintro ⟨d,rest,u⟩ hd;dsimp only at hd ⊢;refine dD (fun _=>dP trivial) (fun hneg => ?_)
   · have hd':=hd.resolve_left hneg
     rw [qh (n:=x2+d) (by omega)];with_reducible repeat' (first | apply dP | apply dX<;>intro _)
     · trivial
     · refine dZ (f3o _ _ _ hd'.1 (by omega)) ?_
       rintro ⟨b,u⟩ -
       dsimp only;have q0:0≤(x2+d)/((x5.length:Int)+1):=Int.ediv_nonneg (by omega) (by omega);have q1:(x2+d)/((x5.length:Int)+1)≤x2+d:=Int.ediv_le_self _ (by omega);have r0:0≤(x2+d)%((x5.length:Int)+1):=Int.emod_nonneg _ (by omega);have r1:(x2+d)%((x5.length:Int)+1)<(x5.length:Int)+1:=Int.emod_lt_of_pos _ (by omega);rw [Int.tdiv_eq_ediv_of_nonneg (by omega),Int.tmod_eq_emod_of_nonneg (by omega)];generalize (x2+d)/((x5.length:Int)+1)=q at q0 q1 ⊢;generalize (x2+d)%((x5.length:Int)+1)=r at r0 r1 ⊢;rw [qh (n:=q) (by omega),qh (n:=x1+q) (by omega)];with_reducible repeat' (first | apply dP | apply dX<;>intro _)
       · trivial
       · refine dZ (k1v _) ?_
         rintro ⟨ok,u⟩ -
         dsimp only;with_reducible repeat' (first | apply dP | apply dX<;>intro _)
         · trivial
         · refine dZ (b6f r x5 _ (by omega) (by omega)) ?_
           rintro ⟨out',u⟩ ho;dsimp only at ho ⊢;rw [qh (n:=r+1) (by omega)];exact dP ⟨⟨by first | omega | (dsimp only;omega),by first | omega | (dsimp only;omega),by first | omega | (dsimp only;omega),by first | omega | (dsimp only;omega),by first | omega | (dsimp only;omega)⟩,by first | omega | (dsimp only;omega)⟩
         · refine dO ?_;omega
       · refine dO ?_;omega
 · exact (by first | omega | (dsimp only;omega):x5.length≤L)
theorem v0u (L:Nat) (hL:L≤1000000000000) (s:List UInt8) (out:List Int) (h:s.length+out.length≤L):Df (q1c (s,out,())) (fun y=>y.2.1.length≤L):=by
 unfold q1c j5i;dsimp only;refine dZ (g1l L hL s out h) ?_;intro z hz;refine dS hz ?_ ?_
 · rintro ⟨a,u⟩ ha
   exact dP ha
 · rintro ⟨a,u⟩ -
   exact dP (by simp)
theorem b6e (s:List UInt8) (c:Int) (hs:s.length≤1000000000000):Df (j3s (s,c,())) (fun y => -1≤y.1∧y.1<s.length):=by
 unfold j3s v8a;dsimp only;refine dZ (P:=fun y => -1≤y.1∧y.1<s.length) ?_ (fun _ h=>dP h);unfold x6z v8q;dsimp only;rw [qh (n:=(s.length:Int) - 1) (by omega)];refine dZ (P:=Sum.elim (fun _=>True) (fun y => -1≤y.1∧y.1<s.length)) ?_ ?_
 · refine dL ?I ?m ?h _ ?hv ?hn
   case I=>exact (fun v=>v.1=s ∧ -1≤v.2.2.1∧v.2.2.1<s.length)
   case m=>exact (fun v=>(v.2.2.1+1).toNat)
   case hv=>exact ⟨rfl,by first | omega | (dsimp only;omega),by first | omega | (dsimp only;omega)⟩
   case hn=>exact (by first | omega | (dsimp only;omega))
   rintro ⟨x0,x1,x2,u⟩ hI;dsimp only at hI;obtain ⟨rfl,h0,h1⟩:=hI;unfold j5t;dsimp only;with_reducible repeat' (first | apply dP | apply dX<;>intro _)
   · exact ⟨by first | omega | (dsimp only;omega),by first | omega | (dsimp only;omega)⟩
   · rw [qh (n:=x2 - 1) (by omega)]
     exact ⟨⟨rfl,by first | omega | (dsimp only;omega),by first | omega | (dsimp only;omega)⟩,by first | omega | (dsimp only;omega)⟩
   · refine dO ?_;omega
   · trivial
 · intro z hz
   refine dS hz ?_ ?_
   · intro u _
     exact dP ⟨by first | omega | (dsimp only;omega),by first | omega | (dsimp only;omega)⟩
   · rintro ⟨a,u⟩ h
     exact dP h
theorem f3i (s:List UInt8) (hs:s.length≤1000000000000):Df (y1m (s,())) (fun y=>y.1.length≤s.length):=by
 unfold y1m v7k;dsimp only;refine dZ (d21 s (by omega)) ?_;rintro ⟨e,u⟩ he;dsimp only at he ⊢;with_reducible repeat' (first | apply dP | apply dX<;>intro _)
 · exact (by simp:([]:List Int).length≤s.length)
 · rename_i hneg
   have hall:=he.2 (by omega);refine dZ (b6e s 45 hs) ?_;rintro ⟨k,u⟩ hk;dsimp only at hk ⊢;rw [qh (n:=k+1) (by omega)];have hb:(decide ((List.take k.toNat s).length≤70368744177664)&&(List.take k.toNat s).all fun b=>decide (b.toNat<128))=true:=by
    rw [decide_eq_true (by rw [List.length_take];omega),Bool.true_and,List.all_eq_true];intro c hc;exact decide_eq_true (hall c (List.mem_of_mem_take hc))
   rw [hb];simp only [cond_true];with_reducible repeat' (first | apply dP | apply dX<;>intro _)
   · refine dZ (v0u s.length hs _ _ (by simp only [List.length_drop,List.length_map,List.length_take];omega)) ?_
     rintro ⟨a,b,u⟩ h;exact dP h
   · refine dO ?_;omega
   · refine dO ?_;omega
   · refine dZ (v0u s.length hs _ _ (by simp)) ?_
     rintro ⟨a,b,u⟩ h;exact dP h
theorem f3f (h:TK T A B) (s:List UInt8) (hs:s.length≤6000000):Df (z2k (T,A,B,s,())) (fun y=>y.1.length≤200000000000∧y.2.1.length≤200000000000):=by
 unfold z2k v7a;dsimp only;refine dZ (v0r h s (by omega)) ?_;rintro ⟨f,ok,u⟩ hf;dsimp only at hf ⊢;refine dZ (f2y f _) ?_;rintro ⟨rest,is,u⟩ hr;dsimp only at hr ⊢;with_reducible repeat' (first | apply dP | apply dX<;>intro _)
 · exact ⟨by simp,by simp⟩
 · refine dZ (d21 f (by omega)) ?_
   rintro ⟨e,u⟩ -
   dsimp only;with_reducible repeat' (first | apply dP | apply dX<;>intro _)
   · refine dZ (d83 f (by omega)) ?_
     rintro ⟨l,at_,u⟩ hl;dsimp only at hl ⊢;refine dZ (g1h l (by omega)) ?_;rintro ⟨code,b,u⟩ hc;dsimp only at hc ⊢;with_reducible repeat' (first | apply dP | apply dX<;>intro _)
     · refine dZ (f3h h f (by omega)) ?_
       rintro ⟨w,u⟩ -
       exact dP ⟨by simp only [List.length_append,List.length_cons,List.length_nil];omega,by first | omega | (dsimp only;omega)⟩
     · refine dO ?_;simp only [List.length_cons,List.length_nil] at *;omega
   · refine dZ (b5l f (by omega)) ?_
     rintro ⟨w,u⟩ -
     exact dP ⟨by first | omega | (dsimp only;omega),by first | omega | (dsimp only;omega)⟩
   · refine dZ (f3i rest (by omega)) ?_
     rintro ⟨l,ok2,u⟩ hl;dsimp only at hl ⊢;with_reducible repeat' (first | apply dP | apply dX<;>intro _)
     · exact ⟨by simp,by simp⟩
     · exact ⟨by simp,by simp⟩
     · refine dZ (x5h l (by omega)) ?_
       rintro ⟨us,b,u⟩ hu;dsimp only at hu ⊢;refine dZ (f3h h us (by omega)) ?_;rintro ⟨w,u⟩ -
       dsimp only;with_reducible repeat' (first | apply dP | apply dX<;>intro _)
       · exact ⟨by simp,by simp⟩
       · refine dZ (g1h l (by omega)) ?_
         rintro ⟨code,b,u⟩ -
         dsimp only;with_reducible repeat' (first | apply dP | apply dX<;>intro _)
         · exact ⟨by simp,by simp⟩
         · exact ⟨by first | omega | (dsimp only;omega),by first | omega | (dsimp only;omega)⟩
theorem b4w (h:TK T A B) (s:List UInt8) (hs:s.length≤6000000):Df (z2h (T,A,B,s,())) (fun y=>y.1.length≤200000000000):=by
 unfold z2h v6s;dsimp only;refine dZ (f3f h s hs) ?_;rintro ⟨a,b,e,u⟩ ha;dsimp only at ha ⊢;with_reducible repeat' (first | apply dP | apply dX<;>intro _)
 · exact (by simp:([]:List UInt8).length≤200000000000)
 · exact ha.1
theorem b4x (h:TK T A B) (s:List UInt8) (hs:s.length≤6000000):Df (y1j (T,A,B,s,())) (fun y=>y.1.length≤200000000000):=by
 unfold y1j w8b;dsimp only;refine dZ (f3f h s hs) ?_;rintro ⟨a,b,e,u⟩ ha;dsimp only at ha ⊢;with_reducible repeat' (first | apply dP | apply dX<;>intro _)
 · exact (by simp:([]:List UInt8).length≤200000000000)
 · exact ha.2
theorem j0v (c:UInt8):∀l:List UInt8,Lib.indexByte l c<l.length
 | []=>by simp [Lib.indexByte]
 | b::l=>by
  have:=j0v c l;simp only [Lib.indexByte,List.length_cons];split
  · omega
  · split<;>omega
theorem b4y (s:List UInt8) (c:Int):Df (j3o (s,c,())) (fun y => -1≤y.1∧y.1<s.length):=by
 unfold j3o v6u;dsimp only;exact dZ (P:=fun y => -1≤y.1∧y.1<s.length) (dP ⟨Lib.indexByte_ge s _,j0v _ s⟩) fun _ h=>dP h
theorem v0t (s:List UInt8) (b:Bool) (hb:b=true→0<s.length):Df (q3k (s,[46],1,b,())) (fun y => -1≤y.1∧y.1<s.length):=by
 unfold q3k j5f;dsimp only;with_reducible repeat' (first | apply dP | apply dX<;>intro _)
 · rename_i h1
   have:=hb h1;exact ⟨by first | omega | (dsimp only;omega),by first | omega | (dsimp only;omega)⟩
 · exact dZ (b4y s _) fun _ h=>dP h
 · rename_i h1 h2 h3
   exact absurd (by decide:(0:Int)<(([46]:List UInt8).length:Int)) h3
 all_goals (exfalso;omega)
theorem b4t (s:List UInt8) (hs:s.length≤1000000000000):Df (z7a (s,[46],())) (fun y=>y.1.length≤s.length∧y.2.1.length≤s.length∧(y.2.2.1=true→y.2.1.length<s.length)):=by
 unfold z7a v6k;dsimp only;refine dZ (P:=fun y=>y.1.length≤s.length∧y.2.1.length≤s.length∧(y.2.2.1=true→y.2.1.length<s.length)) ?_ (fun _ h=>dP h);unfold x6l v6v;dsimp only;refine dZ (P:=fun y => -1≤y.1∧y.1<s.length) ?_ ?_
 · unfold z2p x8q
   dsimp only;have e0:((([46]:List UInt8).length:Int)==0)=false:=rfl;rw [e0];simp only [cond_false];refine dZ (v0t s _ fun h => ?_) fun _ h=>dP h;have:=eq_of_beq h;rw [←this];decide
 rintro ⟨k,u⟩ hk;dsimp only at hk ⊢;rw [show (([46]:List UInt8).length:Int)=1 from rfl,qh (n:=k+1) (by omega)];with_reducible repeat' (first | apply dP | apply dX<;>intro _)
 · refine ⟨?_,?_,fun _ => ?_⟩
   · simp only [List.length_take];omega
   · simp only [List.length_drop];omega
   · simp only [List.length_drop];omega
 · refine dO ?_;omega
 · refine dO ?_;omega
 · exact ⟨Nat.le_refl _,by simp,fun h=>by cases h⟩
theorem j3h:∀(n:Nat) (s:List UInt8),s.length<n→s.length≤1000000000000→∃ps,vt n s=some ps∧ps.length≤n∧∀p∈ps,p.length≤s.length
 | n+1,s,hn,hs=>by
  obtain ⟨⟨a,b,ok,u⟩,e,h1,h2,h3⟩:=b4t s hs;dsimp only at h1 h2 h3;cases ok with
  | true =>
   have h4:=h3 rfl;obtain ⟨ps,e2,h5,h6⟩:=j3h n b (by omega) (by omega);refine ⟨a::ps,by simp only [vt,e,Option.bind_some,cond_true,e2,Option.map_some],by simp only [List.length_cons];omega,?_⟩;intro p hp;rcases List.mem_cons.1 hp with rfl | hp
   · exact h1
   · have:=h6 p hp;omega
  | false =>
   refine ⟨[a],by simp only [vt,e,Option.bind_some,cond_false],by simp only [List.length_cons,List.length_nil];omega,?_⟩;intro p hp;rw [List.mem_singleton] at hp;subst hp;exact h1
end
section
variable {T:List R6} {A:List R4} {B:List R3}
theorem z1e {s old:List UInt8} {i:Nat} (h:Lib.index s old=i):i+old.length≤s.length:=by
 have:=Lib.index_room s old (by omega);omega
theorem j3k (old new:List UInt8) (hl:new.length≤old.length):∀(k:Nat) (s:List UInt8),(Lib.replaceK old new k s).length≤s.length
 | 0,s=>Nat.le_refl _
 | k+1,s=>by
  by_cases h:Lib.index s old = -1
  · rw [Lib.replaceK,if_pos (by rw [h];rfl)];exact Nat.le_refl _
  · obtain ⟨i,hi⟩:∃i:Nat,Lib.index s old=i:=⟨(Lib.index s old).toNat,by have:=Lib.index_ge s old;omega⟩
    rw [Lib.replaceK_hit old new k s i hi];have h1:=j3k old new hl k (s.drop (i+old.length));have h2:=z1e hi;simp only [List.length_append,List.length_take,List.length_drop] at h1 ⊢;omega
theorem q5s (s old new:List UInt8) (hl:new.length≤old.length):(Lib.replaceAll s old new).length≤s.length:=by
 unfold Lib.replaceAll Lib.replace;split
 · exact Nat.le_refl _
 · exact j3k old new hl _ s
theorem j0x (f:List UInt8) (ok:Bool) (hf:f.length≤5000000):∃ls c,q0c f ok=some (ls,c)∧ls.length≤32∧∀p∈ls,p.length≤5000000:=by
 unfold q0c;cases ok with
 | false=>exact ⟨[],7,rfl,by simp,fun p hp=>by cases hp⟩
 | true =>
  cases hfe:f.isEmpty with
  | true=>exact ⟨[],13,rfl,by simp,fun p hp=>by cases hp⟩
  | false =>
   simp only [Bool.not_true,cond_false];rw [decide_eq_true (by omega)];simp only [cond_true];have hr:=q5s f [227,128,130] [46] (by decide);obtain ⟨ps,e,h1,h2⟩:=j3h (f.length+2) (Lib.replaceAll f [227,128,130] [46]) (by omega) (by omega);simp only [e,Option.bind_some];rw [decide_eq_true (by omega)];simp only [cond_true];by_cases h3:32<ps.length
   · rw [decide_eq_true h3]
     exact ⟨[],2,rfl,by simp,fun p hp=>by cases hp⟩
   · rw [decide_eq_false h3]
     exact ⟨ps,0,rfl,by omega,fun p hp=>by have:=h2 p hp;omega⟩
theorem z1i (l:List (List UInt8)) (x:List UInt8):Lib.lens (l++[x])=Lib.lens l+x.length:=by simp [Lib.lens]
theorem j8j (f g:List UInt8→Option (List UInt8×Int)) (hf:∀x:List UInt8,x.length≤5000000→∃y,f x=some y∧y.1.length≤200000000000) (hg:∀x:List UInt8,x.length≤5000000→∃y,g x=some y∧y.1.length≤200000000000) :
 ∀(ls ps qs:List (List UInt8)) (n:Nat),(∀p∈ls,p.length≤5000000)→ps.length+ls.length≤32→qs.length+ls.length≤32→Lib.lens ps≤200000000000*n→Lib.lens qs≤200000000000*n→n+ls.length≤32 →
  ∃r,q1y f g ls ps qs=some r∧r.2.1.length≤32∧r.2.2.length≤32∧Lib.lens r.2.1≤6400000000000∧Lib.lens r.2.2≤6400000000000
 | [],ps,qs,n,h,h1,h2,h3,h4,h5=>⟨(0,ps,qs),rfl,by simpa using h1,by simpa using h2,by simp only [List.length_nil] at h5;dsimp only;omega,by simp only [List.length_nil] at h5;dsimp only;omega⟩
 | x::ls,ps,qs,n,h,h1,h2,h3,h4,h5=>by
  obtain ⟨a,ea,ha⟩:=hf x (h x List.mem_cons_self);obtain ⟨b,eb,hb⟩:=hg x (h x List.mem_cons_self);simp only [q1y,ea,Option.bind_some];simp only [List.length_cons] at h1 h2 h5;cases hz:(a.2 != 0) with
  | true=>exact ⟨(a.2,[],[]),rfl,by simp,by simp,by simp [Lib.lens],by simp [Lib.lens]⟩
  | false =>
   simp only [cond_false,eb,Option.bind_some];exact j8j f g hf hg ls (ps++[a.1]) (qs++[b.1]) (n+1) (fun p hp=>h p (List.mem_cons_of_mem _ hp)) (by simp only [List.length_append,List.length_cons,List.length_nil];omega) (by simp only [List.length_append,List.length_cons,List.length_nil];omega)
    (by rw [z1i];omega) (by rw [z1i];omega) (by omega)
theorem j8u (l:List (List UInt8)) (h1:l.length≤32) (h2:Lib.lens l≤6400000000000):∃r,q5q (l,[46],())=some (r,()):=by
 unfold q5q;have hj:(Lib.join l [46]).length≤140737488355328:=by
  cases l with
  | nil=>exact Nat.zero_le _
  | cons x r =>
   rw [Lib.join_length];simp only [List.length_cons,List.length_nil] at h1 ⊢;omega
 dsimp only;rw [decide_eq_true (by omega),decide_eq_true hj];exact ⟨_,rfl⟩
theorem x5x (r:Int×List (List UInt8)×List (List UInt8)) (h1:r.2.1.length≤32) (h2:r.2.2.length≤32) (h3:Lib.lens r.2.1≤6400000000000) (h4:Lib.lens r.2.2≤6400000000000):∃o,y0q r=some o:=by
 unfold y0q;cases (r.1 != 0) with
 | true=>exact ⟨_,rfl⟩
 | false =>
  obtain ⟨a,ha⟩:=j8u r.2.1 h1 h3;obtain ⟨b,hb⟩:=j8u r.2.2 h2 h4;simp only [cond_false,ha,Option.bind_some,hb];cases decide (253<a.length) with
  | true=>exact ⟨_,rfl⟩
  | false=>exact ⟨_,rfl⟩
theorem b4s (h:TK T A B) (s:List UInt8) (hs:s.length≤3000):∃y,z2e (T,A,B,s,())=some y:=by
 obtain ⟨⟨f,ok,u⟩,e,hf⟩:=v0r h s (by omega);dsimp only at hf;obtain ⟨ls,c,e2,hll,hls⟩:=j0x f ok (by omega);unfold z2e;dsimp only;simp only [e,Option.bind_some,e2];cases (c != 0) with
 | true=>exact ⟨_,rfl⟩
 | false =>
  simp only [cond_false];rw [decide_eq_true hll];obtain ⟨r,er,h1,h2,h3,h4⟩:=j8j (fun x=>(z2h (T,A,B,x,())).map fun r=>(r.1,r.2.1)) (fun x=>(y1j (T,A,B,x,())).map fun r=>(r.1,r.2.1))
   (fun x hx=>by
    obtain ⟨y,e,hy⟩:=b4w h x (by omega);exact ⟨(y.1,y.2.1),by simp only [e,Option.map_some],hy⟩)
   (fun x hx=>by
    obtain ⟨y,e,hy⟩:=b4x h x (by omega);exact ⟨(y.1,y.2.1),by simp only [e,Option.map_some],hy⟩)
   ls [] [] 0 hls (by simpa using hll) (by simpa using hll) (by simp [Lib.lens]) (by simp [Lib.lens]) (by simpa using hll)
  obtain ⟨o,ho⟩:=x5x r h1 h2 h3 h4;simp only [cond_true,er,Option.bind_some,ho,Option.map_some];exact ⟨_,rfl⟩
end
def Pf {α:Type} (x:Option α) (Q:α→Prop):Prop:=∀y,x=some y→Q y
section
variable {α β γ:Type} {Q:α→Prop}
theorem pP {y:α} (h:Q y):Pf (some y) Q:=fun _ e=>by cases e;exact h
theorem pN:Pf (none:Option α) Q:=fun _ e=>by cases e
theorem pT {x:Option α}:Pf x (fun _=>True):=fun _ _=>trivial
theorem pZ {x:Option β} {f:β→Option α} {P:β→Prop} (h:Pf x P) (hf:∀a,P a→Pf (f a) Q):Pf (x.bind f) Q:=by
 intro y e;cases x with
 | none=>cases e
 | some a=>exact hf a (h a rfl) y e
theorem pM {x:Option α} {P:α→Prop} (h:Pf x P) (hf:∀a,P a→Q a):Pf x Q:=fun y e=>hf y (h y e)
theorem pA {x:Option α} {P P':α→Prop} (h:Pf x P) (h':Pf x P'):Pf x fun y=>P y∧P' y:=fun y e=>⟨h y e,h' y e⟩
theorem pX {b:Bool} {p q:Prop} [r:Rd b p q] {x y:Option α} (h1:p→Pf x Q) (h2:q→Pf y Q):Pf (bif b then x else y) Q:=by
 have h:b=true∨b=false:=by cases b<;>simp
 rcases h with h | h
 · rw [h];exact h1 (r.t h)
 · rw [h];exact h2 (r.f h)
theorem pS {f:β→Option α} {g:γ→Option α} {s:β⊕γ} {P:β→Prop} {P':γ→Prop} (hs:Sum.elim P P' s) (h1:∀a,P a→Pf (f a) Q) (h2:∀b,P' b→Pf (g b) Q):Pf (Sum.elim f g s) Q:=by
 cases s with
 | inl a=>exact h1 a hs
 | inr b=>exact h2 b hs
theorem pLn {F:β→Option (β⊕α)} (I:β→Prop) (h:∀v,I v→Pf (F v) (Sum.elim I Q)):∀(n:Nat) (v:β),I v→Pf (qc F n v) Q
 | 0,v,_=>fun _ e=>by cases e
 | n+1,v,hv=>by
  intro y e;simp only [qc] at e;cases hF:F v with
  | none=>rw [hF] at e;cases e
  | some z =>
   have hz:=h v hv z hF;rw [hF] at e;cases z with
   | inl v'=>exact pLn I h n v' hz y e
   | inr y' =>
    have e':some y'=some y:=e;cases e';exact hz
theorem pL {F:β→Option (β⊕α)} (I:β→Prop) (h:∀v,I v→Pf (F v) (Sum.elim I Q)) (v:β) (hv:I v):Pf (qc F jd v) Q:=pLn I h jd v hv
theorem pRn {F:(β→Option α)→β→Option α} {P:β→α→Prop} (h:∀G,(∀v,Pf (G v) (P v))→∀v,Pf (F G v) (P v)):∀(n:Nat) (v:β),Pf (q0u F n v) (P v)
 | 0,v=>fun _ e=>by cases e
 | n+1,v=>h (q0u F n) (pRn h n) v
theorem Df.pf {x:Option α} {P:α→Prop} (h:Df x P):Pf x P:=by
 obtain ⟨y,e,h⟩:=h;intro z ez;rw [e] at ez;cases ez;exact h
end
def kk (x:Int):Bool:=decide (0≤x)&&decide (x<128) && !(decide (97≤x)&&decide (x≤122)) && !(decide (65≤x)&&decide (x≤90)) && !(decide (48≤x)&&decide (x≤57)) && !decide (x=45)
theorem q2y (x:Int):kk x=true↔0≤x∧x<128∧(x<97∨122<x)∧(x<65∨90<x)∧(x<48∨57<x)∧x≠45:=by
 unfold kk;simp only [Bool.and_eq_true,Bool.not_eq_true',decide_eq_true_eq,Bool.and_eq_false_iff,decide_eq_false_iff_not];omega
theorem z9l {x:Int} (h:128≤x):kk x=false:=by
 cases hk:kk x with
 | false=>rfl
 | true=>have:=(q2y x).1 hk;omega
def stp (d:Bool) (s:Nat) (x:Int):Nat:=if 2≤s then 2 else if kk x=true then (if x=46∧d=true then s+1 else 2) else 0
def run (d:Bool) (s:Nat) (l:List Int):Nat:=l.foldl (stp d) s
theorem j9o (d:Bool) {s s':Nat} (h:s≤s') (x:Int):stp d s x≤stp d s' x:=by
 unfold stp;repeat' split
 all_goals omega
theorem j1g (d:Bool):∀(l:List Int) {s s':Nat},s≤s'→run d s l≤run d s' l
 | [],_,_,h=>h
 | x::l,_,_,h=>j1g d l (j9o d h x)
theorem q1t (d:Bool) {s:Nat} {x:Int} (h:kk x=false):stp d s x=if 2≤s then 2 else 0:=by
 unfold stp;rw [h];simp
theorem z6u (d:Bool) {s:Nat} (x:Int) (h:2≤s):stp d s x=2:=by
 unfold stp;rw [if_pos h]
theorem q5g (d:Bool):∀(l:List Int) {s:Nat},2≤s→2≤run d s l
 | [],_,h=>h
 | x::l,s,h=>q5g d l (Nat.le_of_eq (z6u d x h).symm)
theorem xg (d:Bool) (s:Nat) (p q:List Int):run d s (p++q)=run d (run d s p) q:=List.foldl_append
theorem q3d (d:Bool) (s:Nat) (x:Int) (q:List Int):run d s (x::q)=run d (stp d s x) q:=rfl
def Rr (p q:List Int):Prop:=∀d,run d 1 p≤run d 1 q
theorem Rr.refl (p:List Int):Rr p p:=fun d=>Nat.le_refl _
theorem Rr.trans {p q r:List Int} (h:Rr p q) (h':Rr q r):Rr p r:=fun d=>Nat.le_trans (h d) (h' d)
theorem j1h (d:Bool):∀(l:List Int) (s:Nat),l≠[]→(∀x∈l,kk x=false)→run d s l=if 2≤s then 2 else 0
 | [x],s,_,h=>q1t d (h x List.mem_cons_self)
 | x::y::l,s,_,h=>by
  rw [q3d,j1h d (y::l) _ (by simp) fun z hz=>h z (List.mem_cons_of_mem _ hz),q1t d (h x List.mem_cons_self)];split<;>simp
theorem ap {p q:List Int} (x:Int) (ys:List Int) (h:Rr p q) (hk:kk x=true→ys=[x]):Rr (p++[x]) (q++ys):=by
 intro d;rw [xg,xg];cases hx:kk x with
 | true=>rw [hk hx];exact j9o d (h d) x
 | false =>
  show stp d _ x≤_;rw [q1t d hx];split
  · rename_i h2
    exact q5g d ys (Nat.le_trans h2 (h d))
  · exact Nat.zero_le _
theorem apn {p q:List Int} (xs ys:List Int) (h:Rr p q) (hn:xs≠[]) (hx:∀x∈xs,kk x=false):Rr (p++xs) (q++ys):=by
 intro d;rw [xg,xg,j1h d xs _ hn hx];split
 · rename_i h2
   exact q5g d ys (Nat.le_trans h2 (h d))
 · exact Nat.zero_le _
theorem v5e (d:Bool):∀(l r:List Int) (s s':Nat),s≤s'→r.length=l.length→(∀(i:Nat) (x:Int),l[i]? = some x→kk x=true→r[i]? = some x)→run d s l≤run d s' r
 | [],[],s,s',h,_,_=>h
 | [],_::_,_,_,_,h,_=>by simp at h
 | _::_,[],_,_,_,h,_=>by simp at h
 | x::l,y::r,s,s',h,hl,hp=>by
  have hl':r.length=l.length:=by simpa using hl
  have hp':∀(i:Nat) (x:Int),l[i]? = some x→kk x=true→r[i]? = some x:=fun i z h1 h2=>by
   have:=hp (i+1) z (by simpa using h1) h2;simpa using this
  rw [q3d,q3d];refine v5e d l r _ _ ?_ hl' hp';cases hx:kk x with
  | true =>
   have:=hp 0 x (by simp) hx;simp only [List.getElem?_cons_zero,Option.some.injEq] at this;subst this;exact j9o d h y
  | false =>
   rw [q1t d hx];split
   · rename_i h2
     rw [z6u d y (by omega)];exact Nat.le_refl _
   · exact Nat.zero_le _
theorem Rr.pt {l r:List Int} (h:r.length=l.length) (hp:∀(i:Nat) (x:Int),l[i]? = some x→kk x=true→r[i]? = some x):Rr l r:=fun d=>v5e d l r 1 1 (Nat.le_refl _) h hp
theorem Rr.set {p q:List Int} (x:Int) (h:Rr p q) (hx:kk x=false) (i:Nat) (v:Int) (hi:kk (q.getD i 0)=false):Rr (p++[x]) (q.set i v):=by
 intro d;rw [xg];show stp d _ x≤_;rw [q1t d hx];split
 · rename_i h2
   have h3:Rr q (q.set i v):=by
    refine Rr.pt List.length_set fun j z hj hz => ?_;by_cases hij:i=j
    · subst hij
      rw [List.getD_eq_getElem?_getD,hj] at hi;simp only [Option.getD_some] at hi;rw [hi] at hz;cases hz
    · rw [List.getElem?_set_ne hij];exact hj
   exact Nat.le_trans h2 (Nat.le_trans (h d) (h3 d))
 · exact Nat.zero_le _
def bi (s:List UInt8):List Int:=s.map fun c=>(c.toNat:Int)
theorem xe (p q:List UInt8):bi (p++q)=bi p++bi q:=List.map_append
theorem w6t (l:List Int):∀s:Nat,2≤run false s l↔2≤s∨∃x∈l,kk x=true:=by
 induction l with
 | nil=>intro s;simp [run]
 | cons y l ih =>
  intro s;rw [q3d,ih];by_cases h2:2≤s
  · rw [z6u _ _ h2];simp [h2]
  · cases hy:kk y with
    | true =>
     have:stp false s y=2:=by unfold stp;rw [if_neg h2,if_pos hy];simp
     rw [this];simp only [Nat.le_refl,true_or,true_iff];exact .inr ⟨y,List.mem_cons_self,hy⟩
    | false =>
     rw [q1t _ hy,if_neg h2];constructor
     · rintro (h | ⟨x,hx,hk⟩)
       · omega
       · exact .inr ⟨x,List.mem_cons_of_mem _ hx,hk⟩
     · rintro (h | ⟨x,hx,hk⟩)
       · exact (h2 h).elim
       · rcases List.mem_cons.1 hx with rfl | hx
         · rw [hy] at hk;cases hk
         · exact .inr ⟨x,hx,hk⟩
theorem Rr.mem {p q:List Int} (h:Rr p q) (hp:∃x∈p,kk x=true):∃x∈q,kk x=true:=by
 have h1:=(w6t p 1).2 (.inr hp);rcases (w6t q 1).1 (Nat.le_trans h1 (h false)) with h | h
 · omega
 · exact h
theorem z1y (d:Bool):∀(l:List Int) (s:Nat),l≠[]→s<2→(∀x∈l,kk x=false)→run d s l=0:=fun l s hn hs h=>by
 rw [j1h d l s hn h,if_neg (by omega)]
def Fr (o n:Nat) (r r':List Int):Prop:=r'.length=r.length∧∀i:Nat,i<o∨o+n≤i→r'[i]? = r[i]?
theorem k2f {o n:Nat} {r:List Int}:Fr o n r r:=⟨rfl,fun _ _=>rfl⟩
theorem q2u {o n k:Nat} {r r':List Int} {x:Int} (h:Fr o n r r') (hk:k<n):Fr o n r (r'.set (o+k) x) :=
 ⟨List.length_set.trans h.1,fun i hi=>by
  rw [List.getElem?_set_ne (by omega)];exact h.2 i hi⟩
section
variable {T:List R6} {A:List R4} {B:List R3}
theorem k8j (a b:Int):Pf (zi (a,b,T,A,B,())) (fun y=>y.2=(T,A,B,())):=by
 unfold zi v8e;dsimp only;exact pZ pT fun _ _=>pZ pT fun _ _=>pP rfl
theorem g5o (o n:Nat) (a b i j:Int) (row r:List Int) (h:Fr o n row r) :
 Pf (q1e (((o:Int),(n:Int)),a,b,i,j,r,T,A,B,())) (fun y=>∃(a b i j:Int) (r':List Int),Fr o n row r'∧y=(((o:Int),(n:Int)),a,b,i,j,r',T,A,B,())):=by
 unfold q1e j5x;dsimp only;simp only [Int.toNat_natCast];with_reducible repeat' (first | exact pN | apply pP | apply pX<;>intro _)
 exact ⟨_,_,_,_,_,q2u (q2u h (by omega)) (by omega),rfl⟩
theorem g5p (o n:Nat) (a b i j:Int) (row r:List Int) (h:Fr o n row r) :
 Pf (q8d (((o:Int),(n:Int)),a,b,i,j,r,T,A,B,())) (fun y=>∃(a b i:Int) (r':List Int),Fr o n row r'∧y=(((o:Int),(n:Int)),a,b,i,r',T,A,B,())):=by
 refine pL ?I ?h _ ?hv
 case I=>exact (fun v=>∃(a b i j:Int) (r':List Int),Fr o n row r'∧v=(((o:Int),(n:Int)),a,b,i,j,r',T,A,B,()))
 case hv=>exact ⟨_,_,_,_,_,h,rfl⟩
 rintro v ⟨a,b,i,j,r',h1,rfl⟩;unfold j5y;dsimp only;simp only [Int.toNat_natCast];with_reducible repeat' (first | exact pN | apply pP | apply pX<;>intro _)
 · refine pZ (k8j _ _) ?_
   rintro ⟨c,t,a',b',u⟩ hc;simp only [Prod.mk.injEq] at hc;obtain ⟨rfl,rfl,rfl,-⟩:=hc;dsimp only;with_reducible repeat' (first | exact pN | apply pP | apply pX<;>intro _)
   · refine pZ (g5o o n a b i j row r' h1) ?_
     rintro y ⟨a,b,i,j,r2,h4,rfl⟩;dsimp only;simp only [Int.toNat_natCast];exact pP ⟨_,_,_,_,_,h4,rfl⟩
   · exact ⟨_,_,_,_,h1,rfl⟩
 · exact ⟨_,_,_,_,h1,rfl⟩
theorem f9e (o n:Nat) (a b:Int) (row r:List Int) (h:Fr o n row r) :
 Pf (q8c (((o:Int),(n:Int)),a,b,r,T,A,B,())) (fun y=>∃(r':List Int),Fr o n row r'∧y=(r',T,A,B,())):=by
 unfold q8c v9a;dsimp only;simp only [Int.toNat_natCast];refine pZ (P:=fun y=>∃(r':List Int),Fr o n row r'∧y=(r',T,A,B,())) ?_ ?_
 · refine pL ?I ?h _ ?hv
   case I=>exact (fun v=>∃(a b i:Int) (r':List Int),Fr o n row r'∧v=(((o:Int),(n:Int)),a,b,i,r',T,A,B,()))
   case hv=>exact ⟨_,_,_,_,h,rfl⟩
   rintro v ⟨a,b,i,r',h2,rfl⟩;unfold j5z;dsimp only;simp only [Int.toNat_natCast];with_reducible repeat' (first | exact pN | apply pP | apply pX<;>intro _)
   · refine pZ (g5p o n a b i i row r' h2) ?_
     rintro y ⟨a,b,i,r2,h4,rfl⟩;dsimp only;simp only [Int.toNat_natCast];exact pP ⟨_,_,_,_,h4,rfl⟩
   · exact ⟨_,h2,rfl⟩
 · rintro y ⟨r',h,rfl⟩
   exact pP ⟨_,h,rfl⟩
theorem g5v (o n:Nat) (a b k:Int) (row r:List Int) (h:Fr o n row r) :
 Pf (j9u (((o:Int),(n:Int)),a,b,k,r,T,A,B,())) (fun y=>∃(r':List Int),Fr o n row r'∧y=(r',T,A,B,())):=by
 unfold j9u v9d;dsimp only;simp only [Int.toNat_natCast];refine pZ (P:=fun y=>∃(r':List Int),Fr o n row r'∧y=(r',T,A,B,())) ?_ ?_
 · refine pL ?I ?h _ ?hv
   case I=>exact (fun v=>∃(a b k i:Int) (r':List Int),Fr o n row r'∧v=(((o:Int),(n:Int)),a,b,k,i,r',T,A,B,()))
   case hv=>exact ⟨_,_,_,_,_,h,rfl⟩
   rintro v ⟨a,b,k,i,r',h2,rfl⟩;unfold j6b;dsimp only;simp only [Int.toNat_natCast];with_reducible repeat' (first | exact pN | apply pP | apply pX<;>intro _)
   · exact ⟨_,_,_,_,_,q2u (q2u h2 (by omega)) (by omega),rfl⟩
   · exact ⟨_,h2,rfl⟩
 · rintro y ⟨r',h,rfl⟩
   exact pP ⟨_,h,rfl⟩
theorem d1n (o n:Nat) (a m b:Int) (row r:List Int) (h:Fr o n row r) :
 Pf (zu (((o:Int),(n:Int)),a,m,b,r,T,A,B,())) (fun y=>∃(r':List Int),Fr o n row r'∧y=(r',T,A,B,())):=by
 unfold zu v9c;dsimp only;simp only [Int.toNat_natCast];refine pZ (P:=fun y=>∃(m i:Int) (r':List Int),Fr o n row r'∧y=(((o:Int),(n:Int)),m,i,r',T,A,B,())) ?_ ?_
 · refine pL ?I ?h _ ?hv
   case I=>exact (fun v=>∃(m i j:Int) (r':List Int),Fr o n row r'∧v=(((o:Int),(n:Int)),m,i,j,r',T,A,B,()))
   case hv=>exact ⟨_,_,_,_,h,rfl⟩
   rintro v ⟨m,i,j,r',h5,rfl⟩;unfold j6a;dsimp only;simp only [Int.toNat_natCast];with_reducible repeat' (first | exact pN | apply pP | apply pX<;>intro _)
   · refine pZ (g5v o n _ _ _ row r' h5) ?_
     rintro y ⟨r2,h6,rfl⟩;exact pP ⟨_,_,_,_,h6,rfl⟩
   · refine pZ (g5v o n _ _ _ row r' h5) ?_
     rintro y ⟨r2,h6,rfl⟩;exact pP ⟨_,_,_,_,h6,rfl⟩
   · exact ⟨_,_,_,h5,rfl⟩
 · rintro y ⟨m,i,r',h4,rfl⟩
   dsimp only;simp only [Int.toNat_natCast];refine pZ (g5v o n _ _ _ row r' h4) ?_;rintro y ⟨r2,h6,rfl⟩;exact pP ⟨_,h6,rfl⟩
theorem g5q (G:jc) (o n:Nat) (a i j:Int) (row:List Int) :
 Pf (xw G (((o:Int),(n:Int)),a,i,j,row,T,A,B,())) (fun y=>∃(a i':Int),y=(((o:Int),(n:Int)),a,i',row,T,A,B,())):=by
 refine pL ?I ?h _ ?hv
 case I=>exact (fun v=>∃(a i' j':Int),v=(((o:Int),(n:Int)),a,i',j',row,T,A,B,()))
 case hv=>exact ⟨_,_,_,rfl⟩
 rintro v ⟨a,i',j',rfl⟩;unfold q8g;dsimp only;simp only [Int.toNat_natCast];with_reducible repeat' (first | exact pN | apply pP | apply pX<;>intro _)
 · refine pZ (k8j _ _) ?_
   rintro ⟨c,t,a',b',u⟩ hc;simp only [Prod.mk.injEq] at hc;obtain ⟨rfl,rfl,rfl,-⟩:=hc;dsimp only;with_reducible repeat' (first | exact pN | apply pP | apply pX<;>intro _)
   all_goals exact ⟨_,_,_,rfl⟩
 · exact ⟨_,_,rfl⟩
theorem g5s (G:jc) (o n:Nat) (a i j:Int) (row:List Int) :
 Pf (xy G (((o:Int),(n:Int)),a,i,j,row,T,A,B,())) (fun y=>∃(a i':Int),y=(((o:Int),(n:Int)),a,i',row,T,A,B,())):=by
 refine pL ?I ?h _ ?hv
 case I=>exact (fun v=>∃(a i' j':Int),v=(((o:Int),(n:Int)),a,i',j',row,T,A,B,()))
 case hv=>exact ⟨_,_,_,rfl⟩
 rintro v ⟨a,i',j',rfl⟩;unfold q8i;dsimp only;simp only [Int.toNat_natCast];with_reducible repeat' (first | exact pN | apply pP | apply pX<;>intro _)
 · refine pZ (k8j _ _) ?_
   rintro ⟨c,t,a',b',u⟩ hc;simp only [Prod.mk.injEq] at hc;obtain ⟨rfl,rfl,rfl,-⟩:=hc;dsimp only;with_reducible repeat' (first | exact pN | apply pP | apply pX<;>intro _)
   all_goals exact ⟨_,_,_,rfl⟩
 · exact ⟨_,_,rfl⟩
theorem g5r (G:jc) (o n:Nat) (i k:Int) (row r:List Int) (h:Fr o n row r) :
 Pf (xx G (((o:Int),(n:Int)),i,k,r,T,A,B,())) (fun y=>∃(r':List Int),Fr o n row r'∧y=(r',T,A,B,())):=by
 refine pL ?I ?h _ ?hv
 case I=>exact (fun v=>∃(i k:Int) (r':List Int),Fr o n row r'∧v=(((o:Int),(n:Int)),i,k,r',T,A,B,()))
 case hv=>exact ⟨_,_,_,h,rfl⟩
 rintro v ⟨i,k,r',h2,rfl⟩;unfold q8h;dsimp only;simp only [Int.toNat_natCast];with_reducible repeat' (first | exact pN | apply pP | apply pX<;>intro _)
 · exact ⟨_,_,_,q2u (q2u h2 (by omega)) (by omega),rfl⟩
 · exact ⟨_,h2,rfl⟩
theorem g5t (G:jc) (o n:Nat) (i k:Int) (row r:List Int) (h:Fr o n row r) :
 Pf (xz G (((o:Int),(n:Int)),i,k,r,T,A,B,())) (fun y=>∃(r':List Int),Fr o n row r'∧y=(r',T,A,B,())):=by
 refine pL ?I ?h _ ?hv
 case I=>exact (fun v=>∃(i k:Int) (r':List Int),Fr o n row r'∧v=(((o:Int),(n:Int)),i,k,r',T,A,B,()))
 case hv=>exact ⟨_,_,_,h,rfl⟩
 rintro v ⟨i,k,r',h2,rfl⟩;unfold q8j;dsimp only;simp only [Int.toNat_natCast];with_reducible repeat' (first | exact pN | apply pP | apply pX<;>intro _)
 · exact ⟨_,_,_,q2u (q2u h2 (by omega)) (by omega),rfl⟩
 · exact ⟨_,h2,rfl⟩
theorem g5u (G:jc) (o n:Nat) (a m b mid s st r p:Int) (row:List Int) :
 Pf (kb G (((o:Int),(n:Int)),a,m,b,mid,s,st,r,p,row,T,A,B,())) (fun y=>∃(a m b mid s st':Int),y=(((o:Int),(n:Int)),a,m,b,mid,s,st',row,T,A,B,())):=by
 refine pL ?I ?h _ ?hv
 case I=>exact (fun v=>∃(a m b mid s i' j' p:Int),v=(((o:Int),(n:Int)),a,m,b,mid,s,i',j',p,row,T,A,B,()))
 case hv=>exact ⟨_,_,_,_,_,_,_,_,rfl⟩
 rintro v ⟨a,m,b,mid,s,i',j',p,rfl⟩;unfold q8k;dsimp only;simp only [Int.toNat_natCast];with_reducible repeat' (first | exact pN | apply pP | apply pX<;>intro _)
 · refine pZ (k8j _ _) ?_
   rintro ⟨c,t,a',b',u⟩ hc;simp only [Prod.mk.injEq] at hc;obtain ⟨rfl,rfl,rfl,-⟩:=hc;dsimp only;with_reducible repeat' (first | exact pN | apply pP | apply pX<;>intro _)
   all_goals exact ⟨_,_,_,_,_,_,_,_,rfl⟩
 · exact ⟨_,_,_,_,_,_,rfl⟩
def Mq (T:List R6) (A:List R4) (B:List R3) (G:jc) (o n:Nat):Prop:=∀(a m b:Int) (row r:List Int),Fr o n row r →
 Pf (G (((o:Int),(n:Int)),a,m,b,r,T,A,B,())) (fun y=>∃(r':List Int),Fr o n row r'∧y=(r',T,A,B,()))
theorem k8l (G:jc) (o n:Nat) (hG:Mq T A B G o n) (b mid e:Int) (row r:List Int) (h:Fr o n row r) :
 Pf (xc G (((o:Int),(n:Int)),b,mid,e,r,T,A,B,())) (fun y=>∃(r':List Int),Fr o n row r'∧y=(r',T,A,B,())):=by
 show Pf (q3v zi G zu _) _;unfold q3v;dsimp only;simp only [Int.toNat_natCast];with_reducible repeat' (first | exact pN | apply pP | apply pX<;>intro _)
 · refine pZ (hG mid e b row r h) ?_
   rintro y ⟨r',h,rfl⟩;exact pP ⟨_,h,rfl⟩
 · exact ⟨_,h,rfl⟩
 · exact ⟨_,h,rfl⟩
theorem k8m (G:jc) (o n:Nat) (hG:Mq T A B G o n) (a b mid st e:Int) (row r:List Int) (h:Fr o n row r) :
 Pf (xd G (((o:Int),(n:Int)),a,b,mid,st,e,r,T,A,B,())) (fun y=>∃(r':List Int),Fr o n row r'∧y=(r',T,A,B,())):=by
 show Pf (q3w zi G zu (xc G) _) _;unfold q3w;dsimp only;simp only [Int.toNat_natCast];have jy:∀r0:List Int,Fr o n row r0→Pf ((xc G (((o:Int),(n:Int)),b,mid,e,r0,T,A,B,())).bind fun val=>some (val.fst,val.snd.fst,val.snd.snd.fst,val.snd.snd.snd.fst,())) (fun y=>∃(r':List Int),Fr o n row r'∧y=(r',T,A,B,())):=by
  intro r0 hr;refine pZ (k8l G o n hG b mid e row r0 hr) ?_;rintro y ⟨r',h,rfl⟩;exact pP ⟨_,h,rfl⟩
 with_reducible repeat' (first | exact pN | apply pP | apply pX<;>intro _)
 · refine pZ (hG a st mid row r h) ?_
   rintro y ⟨r',h,rfl⟩;exact jy r' h
 · exact jy r h
 · exact jy r h
theorem x1c (G:jc) (o n:Nat) (hG:Mq T A B G o n) (a m b mid s st q:Int) (row r:List Int) (h:Fr o n row r) :
 Pf (xv G (((o:Int),(n:Int)),a,m,b,mid,s,st,q,r,T,A,B,())) (fun y=>∃(r':List Int),Fr o n row r'∧y=(r',T,A,B,())):=by
 show Pf (q3x zi G zu (xd G) (kb G) _) _;unfold q3x;dsimp only;simp only [Int.toNat_natCast];refine pZ (g5u G o n a m b mid s st q _ r) ?_;rintro y ⟨a,m,b,mid,s,st',rfl⟩;dsimp only;simp only [Int.toNat_natCast];have jy:∀(e:Int) (r0:List Int),Fr o n row r0→Pf ((xd G (((o:Int),(n:Int)),a,b,mid,st',e,r0,T,A,B,())).bind fun val=>some (val.fst,val.snd.fst,val.snd.snd.fst,val.snd.snd.snd.fst,())) (fun y=>∃(r':List Int),Fr o n row r'∧y=(r',T,A,B,())):=by
  intro e r0 hr0;refine pZ (k8m G o n hG a b mid st' e row r0 hr0) ?_;rintro y ⟨r',h,rfl⟩;exact pP ⟨_,h,rfl⟩
 with_reducible repeat' (first | exact pN | apply pP | apply pX<;>intro _)
 · refine pZ (d1n o n _ _ _ row r h) ?_
   rintro y ⟨r',h,rfl⟩;exact jy _ r' h
 · exact jy _ r h
 · exact jy _ r h
theorem w6s (o n:Nat):∀k:Nat,Mq T A B (q0u q5k k) o n
 | 0=>fun a m b row r h=>fun _ e=>by cases e
 | k+1=>fun a m b row r h=>by
  have hG:=w6s o n k;show Pf (q5k (q0u q5k k) _) _;generalize q0u q5k k=G at hG ⊢;show Pf (z7u zi G zu (xv G) (xw G) (xx G) (xy G) (xz G) _) _;unfold z7u;dsimp only;simp only [Int.toNat_natCast];have jy:∀{x:Option (List Int×List R6×List R4×List R3×Unit)},Pf x (fun y=>∃(r':List Int),Fr o n row r'∧y=(r',T,A,B,()))→Pf (x.bind fun val=>some (val.fst,val.snd.fst,val.snd.snd.fst,val.snd.snd.snd.fst,())) (fun y=>∃(r':List Int),Fr o n row r'∧y=(r',T,A,B,())):=by
   intro x hx;refine pZ hx ?_;rintro y ⟨r',h,rfl⟩;exact pP ⟨_,h,rfl⟩
  with_reducible repeat' (first | exact pN | apply pP | apply pX<;>intro _)
  · refine pZ (g5q G o n _ _ _ r) ?_
    rintro y ⟨a',i',rfl⟩;dsimp only;simp only [Int.toNat_natCast];exact jy (g5r G o n _ _ row r h)
  · refine pZ (g5s G o n _ _ _ r) ?_
    rintro y ⟨a',i',rfl⟩;dsimp only;simp only [Int.toNat_natCast];exact jy (g5t G o n _ _ row r h)
  · exact jy (x1c G o n hG _ _ _ _ _ _ _ row r h)
  · exact jy (x1c G o n hG _ _ _ _ _ _ _ row r h)
theorem f9f (o n:Nat) (a m b:Int) (row r:List Int) (h:Fr o n row r) :
 Pf (j3v (((o:Int),(n:Int)),a,m,b,r,T,A,B,())) (fun y=>∃(r':List Int),Fr o n row r'∧y=(r',T,A,B,())):=by
 show Pf (q0u q5k jd _) _;exact w6s o n jd a m b row r h
theorem g5m (o n:Nat) (x y' z w:Int) (row r:List Int) (h:Fr o n row r) :
 Pf (q8a (((o:Int),(n:Int)),x,y',z,w,r,T,A,B,())) (fun y=>∃(x y' a:Int) (r':List Int),Fr o n row r'∧y=(((o:Int),(n:Int)),x,y',a,r',T,A,B,())):=by
 refine pL ?I ?h _ ?hv
 case I=>exact (fun v=>∃(x y' z w:Int) (r':List Int),Fr o n row r'∧v=(((o:Int),(n:Int)),x,y',z,w,r',T,A,B,()))
 case hv=>exact ⟨_,_,_,_,_,h,rfl⟩
 rintro v ⟨x,y',z,w,r',h3,rfl⟩;unfold j5u;dsimp only;simp only [Int.toNat_natCast];with_reducible repeat' (first | exact pN | apply pP | apply pX<;>intro _)
 · refine pZ (f9e o n _ _ row r' h3) ?_
   rintro y ⟨r2,h4,rfl⟩;exact pP ⟨_,_,_,_,_,h4,rfl⟩
 · exact ⟨_,_,_,_,h3,rfl⟩
theorem g5n (o n:Nat) (x y' z w:Int) (row r:List Int) (h:Fr o n row r) :
 Pf (q8b (((o:Int),(n:Int)),x,y',z,w,r,T,A,B,())) (fun y=>∃(x y' a:Int) (r':List Int),Fr o n row r'∧y=(((o:Int),(n:Int)),x,y',a,r',T,A,B,())):=by
 refine pL ?I ?h _ ?hv
 case I=>exact (fun v=>∃(x y' z w:Int) (r':List Int),Fr o n row r'∧v=(((o:Int),(n:Int)),x,y',z,w,r',T,A,B,()))
 case hv=>exact ⟨_,_,_,_,_,h,rfl⟩
 rintro v ⟨x,y',z,w,r',h3,rfl⟩;unfold j5v;dsimp only;simp only [Int.toNat_natCast];with_reducible repeat' (first | exact pN | apply pP | apply pX<;>intro _)
 · refine pZ (f9f o n _ _ _ row r' h3) ?_
   rintro y ⟨r2,h4,rfl⟩;exact pP ⟨_,_,_,_,_,h4,rfl⟩
 · exact ⟨_,_,_,_,h3,rfl⟩
theorem d1l (o n:Nat) (x:Int) (row r:List Int) (h:Fr o n row r) :
 Pf (y1r (((o:Int),(n:Int)),x,r,T,A,B,())) (fun y=>∃(r':List Int),Fr o n row r'∧y=(r',T,A,B,())):=by
 unfold y1r v8t;dsimp only;simp only [Int.toNat_natCast];refine pZ (g5m o n _ _ _ _ row r h) ?_;rintro y ⟨x,z,a,r1,h3,rfl⟩;dsimp only;simp only [Int.toNat_natCast];refine pZ (f9e o n _ _ row r1 h3) ?_;rintro y ⟨r2,h4,rfl⟩;dsimp only;refine pZ (P:=fun y=>∃(r':List Int),Fr o n row r'∧y=(r',T,A,B,())) ?_ ?_
 · refine pL ?I ?h _ ?hv
   case I=>exact (fun v=>∃(x bs:Int) (r':List Int),Fr o n row r'∧v=(((o:Int),(n:Int)),x,bs,r',T,A,B,()))
   case hv=>exact ⟨_,_,r2,h4,rfl⟩
   rintro v ⟨x,bs,r',h7,rfl⟩;unfold j5w;dsimp only;simp only [Int.toNat_natCast];with_reducible repeat' (first | exact pN | apply pP | apply pX<;>intro _)
   · refine pZ (g5n o n _ _ _ _ row r' h7) ?_
     rintro y ⟨x,bs,a,r3,h10,rfl⟩;dsimp only;simp only [Int.toNat_natCast];with_reducible repeat' (first | exact pN | apply pP | apply pX<;>intro _)
     · refine pZ (f9f o n _ _ _ row r3 h10) ?_
       rintro y ⟨r4,h11,rfl⟩;exact pP ⟨_,_,_,h11,rfl⟩
     · exact ⟨_,_,_,h10,rfl⟩
   · exact ⟨_,h7,rfl⟩
 · rintro y ⟨r',h,rfl⟩
   exact pP ⟨_,h,rfl⟩
theorem d1h (o n:Nat) (row:List Int) :
 Pf (j3u (((o:Int),(n:Int)),row,T,A,B,())) (fun y=>∃(r':List Int),Fr o n row r'∧y=(r',T,A,B,())):=by
 unfold j3u v8d;dsimp only;simp only [Int.toNat_natCast];refine pZ (d1l o n _ row row k2f) ?_;rintro y ⟨r',h,rfl⟩;exact pP ⟨_,h,rfl⟩
structure KT (T:List R6) (A:List R4) (B:List R3):Prop where
 cl:∀x,kk x=true→xb (T,A,B,x,())=some (0,())
 lo:∀x,kk x=true→j1r (T,A,B,x,())=some (x,())
 ca:∀x,kk x=true→q2d (T,A,B,x,())=some (false,())
theorem g5g (f k:Int) (row:List Int) :
 Pf (vz (f,k,T,A,B,row,())) (fun y=>∃(r':List Int),0≤f∧Fr f.toNat (k.toNat - f.toNat) row r'∧y=(IntKind.i64.wrap (k+1),k,T,A,B,r',())):=by
 unfold vz j5k;dsimp only;with_reducible repeat' (first | exact pN | apply pP | apply pX<;>intro _)
 rename_i h1 h2;refine pZ (d1h f.toNat (k.toNat - f.toNat) row) ?_;rintro y ⟨r',h,rfl⟩;exact pP ⟨_,h2.1,h,rfl⟩
theorem d0v (hK:KT T A B) (l:List Int) (hl:l.length≤35184372088832):Pf (y1n (T,A,B,l,())) (fun y=>Rr l y.1):=by
 unfold y1n v7n;dsimp only;refine pZ (P:=fun y=>y.1=l) ?_ ?_
 · unfold j9r
   dsimp only;with_reducible repeat' (first | exact pN | apply pP | apply pX<;>intro _)
   rfl
 rintro ⟨l',u⟩ hl';dsimp only at hl' ⊢;subst hl';refine pZ (P:=fun y=>Rr l' y.1) ?_ (fun _ h=>pP h);refine pL ?I ?h _ ?hv
 case I=>exact (fun v=>∃(f:Int) (k:Int) (r':List Int),0≤f∧f≤k∧k≤l'.length+1∧r'.length=l'.length∧(∀(i:Nat) (x:Int),l'[i]? = some x→kk x=true→r'[i]? = some x)∧(∀i:Nat,f≤i→i<k→∀x,r'[i]? = some x→kk x=false)∧v=(f,k,T,A,B,r',()))
 case hv=>exact ⟨0,0,l',Int.le_refl _,Int.le_refl _,by omega,rfl,fun _ _ h _=>h,fun i _ h=>by omega,rfl⟩
 rintro v ⟨f,k,r',h1,h2,h3,h4,h5,h6,rfl⟩;unfold j5l;dsimp only;have jy:k≤r'.length→Pf ((vz (f,k,T,A,B,r',())).bind fun val=>some (Sum.inl (val.fst,IntKind.i64.wrap (val.snd.fst+1),val.snd.snd.fst,val.snd.snd.snd.fst,val.snd.snd.snd.snd.fst,val.snd.snd.snd.snd.snd.fst,())))
  (Sum.elim (fun v':Int×Int×List R6×List R4×List R3×List Int×Unit=>∃(f:Int) (k:Int) (r':List Int),0≤f∧f≤k∧k≤l'.length+1∧r'.length=l'.length∧(∀(i:Nat) (x:Int),l'[i]? = some x→kk x=true→r'[i]? = some x)∧(∀i:Nat,f≤i→i<k→∀x,r'[i]? = some x→kk x=false)∧v'=(f,k,T,A,B,r',())) (fun y:List Int×Unit=>Rr l' y.1)):=by
  intro hk;refine pZ (g5g f k r') ?_;rintro y ⟨r2,h7,h8,rfl⟩;dsimp only;rw [qh (n:=k+1) (by omega)];refine pP ⟨_,_,_,by omega,Int.le_refl _,by omega,h8.1.trans h4,?_,fun i _ _=>by omega,rfl⟩;intro i x hi hx;have hr:=h5 i x hi hx;rw [h8.2 i]
  · exact hr
  · by_cases hik:f≤i∧(i:Int)<k
    · have:=h6 i hik.1 hik.2 x hr
      rw [this] at hx;cases hx
    · omega
 with_reducible repeat' (first | exact pN | apply pP | apply pX<;>intro _)
 · rename_i h7 h8 h9
   refine pZ (pM (P:=fun y=>kk (r'.getD k.toNat 0)=true→y.1=0) (fun y e hk=>by
    rw [hK.cl _ hk] at e;cases e;rfl) fun _ h=>h) ?_
   rintro ⟨c,u⟩ hc;dsimp only at hc ⊢;with_reducible repeat' (first | exact pN | apply pP | apply pX<;>intro _)
   · rename_i h10
     rw [qh (n:=k+1) (by omega)];refine ⟨_,_,_,h1,by omega,by omega,h4,h5,fun i hi hik x hx => ?_,rfl⟩;by_cases hlt:(i:Int)<k
     · exact h6 i hi hlt x hx
     · have hik':i=k.toNat:=by omega
       subst hik';cases hkx:kk x with
       | false=>rfl
       | true =>
        have:r'.getD k.toNat 0=x:=by rw [List.getD_eq_getElem?_getD,hx];rfl
        rw [this] at hc;have:=hc hkx;omega
   · exact jy (by omega)
 · exact jy (by omega)
 · exact Rr.pt h4 h5
end
end Go.Proofs.YtiacnhhmkdkpmaaGreatDoorA.W
