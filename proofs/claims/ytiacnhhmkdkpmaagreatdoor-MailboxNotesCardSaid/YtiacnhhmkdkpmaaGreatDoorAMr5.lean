/- The texts of the proof, one behind the other: W10, W11, W12, W13, PB, W14, PD0, PD1, PD2, PD3, PD4, PD5, PD6, PD7, PD8, PD9, PR0, PR1. -/
import Derived.Test.YtiacnhhmkdkpmaaGreatDoorAMr4
import Derived.Test.YtiacnhhmkdkpmaaGreatDoorAMr2
import Derived.Lib.IndexMore
set_option maxRecDepth 100000
set_option linter.unusedVariables false
namespace Go.Proofs.YtiacnhhmkdkpmaaGreatDoorA.W
open Go Go.Ae
abbrev q8l:=LqD×Int×qa×qa×Unit→Option (LqD×Int×qa×qa×Unit)
def y4b (f:q8l):LEnt:=⟨w0r,w3u,f⟩
abbrev x2p:=LqD×Int×qa×qa×Unit→Option (Bool×LqD×Int×qa×qa×Unit)
def g5c (f:x2p):FEnt:=⟨q5l,q5n,f⟩
def w8b (f146:vq):=lk [(146,x1x f146)]
theorem v1m:zj Tryz.prog (w8b yl):=(kc z9m kn)
def q1g (f146:vq):yq (LqD×Int×qa×qa×Unit) (LqD×Int×qa×qa×Unit):=fun (x0,x1,x2,x3,_) =>
 (f146 (0,x0,x1,x2,x3,())).bind fun v =>
 bif v.1==4 then
 some
 (Sum.inl
 (v.2.1,IntKind.i64.wrap (v.2.2.1+1),v.2.2.2.1,v.2.2.2.2.1,()))
 else
 (f146 (0,v.2.1,v.2.2.1,v.2.2.2.1,v.2.2.2.2.1,())).bind fun v =>
 bif v.1==3 then
 some
 (Sum.inl
 (v.2.1,IntKind.i64.wrap (v.2.2.1+1),v.2.2.2.1,v.2.2.2.2.1,
 ()))
 else some (Sum.inr (v.2.1,v.2.2.1,v.2.2.2.1,v.2.2.2.2.1,()))
def q6s:q8l:=qc (q1g yl) je
theorem k3p:jf 1 (qe (code Tryz.f109) [1,0,0,0]) (y4b q6s):=zl1 w0r w3u w8b q1g yl v1m
def b1g (f109_l0:q8l):Ann:=(.seq .nil (.seq (.blk (.loop (y4b f109_l0))) .nil))
def v5r (f146:vq) (f109_l0:q8l):x2p:=fun (x0,x1,x2,x3,_) =>
 (f109_l0 (x0,x1,x2,x3,())).bind fun v =>
 some (true,v.1,v.2.1,v.2.2.1,v.2.2.2.1,())
theorem b6b (f146:vq) (f109_l0:q8l):ye (w8b f146) 1 Tryz.f109 (b1g f109_l0) q5l q5n (v5r f146 f109_l0):=fun v=>by kernel_rfl
def x1a:x2p:=v5r yl q6s
theorem f3i:FO 109 (g5c x1a) :=
 qo v1m Tryz.func109 (And.intro k3p trivial) (b6b yl q6s)
abbrev j3s:=qa×LqD×Int×qa×qa×Unit→Option (Bool×LqD×Int×qa×qa×Unit)
def w6q (f:j3s):FEnt:=⟨w0s,q5n,f⟩
def f8x (f146:vq):=lk [(146,x1x f146)]
def x7w (f146:vq):j3s:=fun (x0,x1,x2,x3,x4,_) =>
 (f146 (0,x1,x2,x3,x4,())).bind fun v =>
 bif v.1==2 then
 bif decide (0≤v.2.2.1)&&decide (v.2.2.1<(↑(List.length v.2.1):Int)) then
 some
 ((List.getD v.2.1 (Int.toNat v.2.2.1)
 (0,([],0))).2.1 ==
 x0,
 v.2.1,v.2.2.1,v.2.2.2.1,v.2.2.2.2.1,())
 else none
 else some (false,v.2.1,v.2.2.1,v.2.2.2.1,v.2.2.2.2.1,())
theorem b6o (f146:vq):ye (f8x f146) 1 Tryz.f148 .nil w0s q5n (x7w f146):=fun v=>by kernel_rfl
def q7d:j3s:=x7w yl
theorem w5i:FO 148 (w6q q7d) :=
 q0 (kc z9m kn) Tryz.func148 (b6o yl)
abbrev q8u:=qa×LqD×Int×qa×qa×Unit→Option (qa×LqD×Int×qa×qa×Unit)
def y4t (f:q8u):LEnt:=⟨y8c,w3w,f⟩
abbrev q4i:=qa×LqD×Int×qa×qa×Unit→Option (qa×Bool×LqD×Int×qa×qa×Unit)
def y4s (f:q4i):LEnt:=⟨y8c,w3x,f⟩
abbrev j3r:=LqD×Int×qa×qa×Unit→Option (qa×Bool×LqD×Int×qa×qa×Unit)
def w6p (f:j3r):FEnt:=⟨q5l,w3v,f⟩
def v8w (f146:vq) (f148:j3s):=lk [(146,x1x f146),(148,w6q f148)]
theorem y2s:zj Tryz.prog (v8w yl q7d):=(kc z9m (kc w5i kn))
def wz (f146:vq) (f148:j3s):yq (qa×LqD×Int×qa×qa×Unit) (qa×LqD×Int×qa×qa×Unit):=fun (x0,x1,x2,x3,x4,_) =>
 (f148 ([46],x1,x2,x3,x4,())).bind fun v =>
 bif v.1 then
 (f146 (1,v.2.1,v.2.2.1,v.2.2.2.1,v.2.2.2.2.1,())).bind fun v =>
 bif v.1==0 then
 bif
 decide (0≤IntKind.i64.wrap (v.2.2.1+1)) &&
 decide (IntKind.i64.wrap (v.2.2.1+1)<(↑(List.length v.2.1):Int)) then
 bif
 decide
 ([46].length +
 List.length
 (List.getD v.2.1 (IntKind.i64.wrap (v.2.2.1+1)).toNat
 (0,([],0))).2.1 ≤
 9223372036854775807) then
 bif
 decide
 (x0.length +
 ([46] ++
 (List.getD v.2.1 (IntKind.i64.wrap (v.2.2.1+1)).toNat
 (0,([],0))).2.1).length ≤
 9223372036854775807) then
 some
 (Sum.inl
 (x0 ++
 ([46] ++
 (List.getD v.2.1 (IntKind.i64.wrap (v.2.2.1+1)).toNat
 (0,([],0))).2.1),
 v.2.1,IntKind.i64.wrap (v.2.2.1+2),v.2.2.2.1,v.2.2.2.2.1,
 ()))
 else none
 else none
 else none
 else some (Sum.inr (x0,v.2.1,v.2.2.1,v.2.2.2.1,v.2.2.2.2.1,()))
 else some (Sum.inr (x0,v.2.1,v.2.2.1,v.2.2.2.1,v.2.2.2.2.1,()))
def j4b:q8u:=qc (wz yl q7d) je
theorem k4h:jf 1 (qe (code Tryz.f147) [1,1,1,0,1,0,0]) (y4t j4b):=zl2 y8c w3w v8w wz yl q7d y2s
def k0d (f147_l0:q8u):Ann:=(.seq (.seq .nil (.blk (.loop (y4t f147_l0)))) .nil)
def z2z (f146:vq) (f148:j3s) (f147_l0:q8u):q4i:=fun (x0,x1,x2,x3,x4,_) =>
 (f147_l0 (x0,x1,IntKind.i64.wrap (x2+1),x3,x4,())).bind fun v =>
 some (v.1,true,v.2.1,v.2.2.1,v.2.2.2.1,v.2.2.2.2.1,())
theorem k2b (f146:vq) (f148:j3s) (f147_l0:q8u):AqC (v8w f146 f148) 1 (qe (code Tryz.f147) [1,1,1]) (k0d f147_l0) y8c w3x (z2z f146 f148 f147_l0):=fun v=>by kernel_rfl
def q7c:q4i:=z2z yl q7d j4b
theorem k4g:zp 1 (qe (code Tryz.f147) [1,1,1]) (y4s q7c) :=
 frd y2s (And.intro k4h trivial) (k2b yl q7d j4b)
def b1r (f147_c0:q4i):Ann:=(.seq .nil (.seq .nil (.cut .nil (y4s f147_c0))))
def x7v (f146:vq) (f148:j3s) (f147_c0:q4i):j3r:=fun (x0,x1,x2,x3,_) =>
 (f146 (0,x0,x1,x2,x3,())).bind fun v =>
 bif v.1 != 0 then
 some ([],false,v.2.1,v.2.2.1,v.2.2.2.1,v.2.2.2.2.1,())
 else
 bif decide (0≤v.2.2.1)&&decide (v.2.2.1<(↑(List.length v.2.1):Int)) then
 (f147_c0
 ((List.getD v.2.1 (Int.toNat v.2.2.1)
 (0,([],0))).2.1,
 v.2.1,v.2.2.1,v.2.2.2.1,v.2.2.2.2.1,())).bind
 fun v =>
 some
 (v.1,v.2.1,v.2.2.1,v.2.2.2.1,v.2.2.2.2.1,
 v.2.2.2.2.2.1,())
 else none
theorem b6n (f146:vq) (f148:j3s) (f147_c0:q4i):ye (v8w f146 f148) 1 Tryz.f147 (b1r f147_c0) q5l w3v (x7v f146 f148 f147_c0):=fun v=>by kernel_rfl
def q7b:j3r:=x7v yl q7d q7c
theorem w5h:FO 147 (w6p q7b) :=
 qo y2s Tryz.func147 (And.intro k4g trivial) (b6n yl q7d q7c)
abbrev q4a:=LqD×Int×qa×qa×Unit→Option (Bool×LqD×Int×qa×qa×Unit)
def y4c (f:q4a):LEnt:=⟨y8d,y8r,f⟩
abbrev x2q:=LqD×Int×qa×qa×Unit→Option (Bool×LqD×Int×qa×qa×Unit)
def g5d (f:x2q):FEnt:=⟨q5l,q5n,f⟩
def w8c (f146:vq) (f147:j3r):=lk [(146,x1x f146),(147,w6p f147)]
theorem v1n:zj Tryz.prog (w8c yl q7b):=(kc z9m (kc w5h kn))
def z2t (f146:vq) (f147:j3r):q4a:=fun (x0,x1,x2,x3,_) =>
 some (true,x0,IntKind.i64.wrap (x1+1),x2,x3,())
theorem k1t (f146:vq) (f147:j3r):AqC (w8c f146 f147) 1 (qe (code Tryz.f110) [1,0,1,0,1]) .nil y8d y8r (z2t f146 f147):=fun v=>by kernel_rfl
def q6t:q4a:=z2t yl q7b
theorem k3q:zp 1 (qe (code Tryz.f110) [1,0,1,0,1]) (y4c q6t) :=
 frc v1n (k1t yl q7b)
def b1h (f110_c0:q4a):Ann:=(.seq .nil (.seq (.seq .nil (.cond (.cut .nil (y4c f110_c0)) .nil)) .nil))
def x7s (f146:vq) (f147:j3r) (f110_c0:q4a):x2q:=fun (x0,x1,x2,x3,_) =>
 (f146 (0,x0,x1,x2,x3,())).bind fun v =>
 bif v.1==1 then
 bif decide (0≤v.2.2.1)&&decide (v.2.2.1<(↑(List.length v.2.1):Int)) then
 (f110_c0
 (v.2.1,v.2.2.1,
 (List.getD v.2.1 (Int.toNat v.2.2.1)
 (0,([],0))).2.1,
 v.2.2.2.2.1,())).bind
 fun v =>
 some (v.1,v.2.1,v.2.2.1,v.2.2.2.1,v.2.2.2.2.1,())
 else none
 else
 (f147 (v.2.1,v.2.2.1,v.2.2.2.1,v.2.2.2.2.1,())).bind fun v =>
 some (v.2.1,v.2.2.1,v.2.2.2.1,v.1,v.2.2.2.2.2.1,())
theorem b6c (f146:vq) (f147:j3r) (f110_c0:q4a):ye (w8c f146 f147) 1 Tryz.f110 (b1h f110_c0) q5l q5n (x7s f146 f147 f110_c0):=fun v=>by kernel_rfl
def x1b:x2q:=x7s yl q7b q6t
theorem f3j:FO 110 (g5d x1b) :=
 qo v1n Tryz.func110 (And.intro k3q trivial) (b6c yl q7b q6t)
abbrev x2r:=LqD×Int×qa×qa×Unit→Option (Bool×LqD×Int×qa×qa×Unit)
def g5e (f:x2r):FEnt:=⟨q5l,q5n,f⟩
def f8o (f148:j3s):=lk [(148,w6q f148)]
def v5s (f148:j3s):x2r:=fun (x0,x1,x2,x3,_) =>
 (f148 ([64],x0,x1,x2,x3,())).bind fun v =>
 some
 (v.1,v.2.1,IntKind.i64.wrap (v.2.2.1+1),v.2.2.2.1,v.2.2.2.2.1,
 ())
theorem b6d (f148:j3s):ye (f8o f148) 1 Tryz.f111 .nil q5l q5n (v5s f148):=fun v=>by kernel_rfl
def x1c:x2r:=v5s q7d
theorem f3k:FO 111 (g5e x1c) :=
 q0 (kc w5i kn) Tryz.func111 (b6d q7d)
abbrev j5v:=qa×Int×Int×qa×Unit→Option (qa×Unit)
def y4g (f:j5v):LEnt:=⟨w0t,w3y,f⟩
abbrev x8o:=qa×Unit→Option (qa×Unit)
def g5m (f:x8o):FEnt:=⟨xi,z4a,f⟩
def kf:yq (qa×Int×Int×qa×Unit) (qa×Unit):=fun (x0,x1,x2,x3,_) =>
 bif decide (x2<x1) then
 bif decide (0≤x2)&&decide (x2<(↑x0.length:Int)) then
 bif (↑(x0.getD x2.toNat 0).toNat:Int)==34 then
 bif decide (x3.length+[92].length≤140737488355328/1) then
 bif decide (0≤x2)&&decide (x2<(↑x0.length:Int)) then
 bif
 decide
 ((x3++[92]).length +
 [UInt8.ofNat (↑(x0.getD x2.toNat 0).toNat:Int).toNat].length ≤
 140737488355328/1) then
 some
 (Sum.inl
 (x0,x1,IntKind.i64.wrap (x2+1),
 x3++[92]++[UInt8.ofNat (↑(x0.getD x2.toNat 0).toNat:Int).toNat],
 ()))
 else none
 else none
 else none
 else
 bif decide (0≤x2)&&decide (x2<(↑x0.length:Int)) then
 bif (↑(x0.getD x2.toNat 0).toNat:Int)==92 then
 bif decide (x3.length+[92].length≤140737488355328/1) then
 bif decide (0≤x2)&&decide (x2<(↑x0.length:Int)) then
 bif
 decide
 ((x3++[92]).length +
 [UInt8.ofNat (↑(x0.getD x2.toNat 0).toNat:Int).toNat].length ≤
 140737488355328/1) then
 some
 (Sum.inl
 (x0,x1,IntKind.i64.wrap (x2+1),
 x3++[92]++[UInt8.ofNat (↑(x0.getD x2.toNat 0).toNat:Int).toNat],
 ()))
 else none
 else none
 else none
 else
 bif decide (0≤x2)&&decide (x2<(↑x0.length:Int)) then
 bif
 decide
 (x3.length+[UInt8.ofNat (↑(x0.getD x2.toNat 0).toNat:Int).toNat].length ≤
 140737488355328/1) then
 some
 (Sum.inl
 (x0,x1,IntKind.i64.wrap (x2+1),x3++[UInt8.ofNat (↑(x0.getD x2.toNat 0).toNat:Int).toNat],
 ()))
 else none
 else none
 else none
 else none
 else some (Sum.inr (x3,()))
def q6v:j5v:=qc (kf) je
theorem k3u:jf 0 (qe (code Tryz.f126) [1,1,0,1,0,0]) (y4g q6v):=zl0 w0t w3y vf kf kn
def b1k (f126_l0:j5v):Ann:=(.seq .nil (.seq .nil (.seq (.seq .nil (.blk (.loop (y4g f126_l0)))) .nil)))
def v5v (f126_l0:j5v):x8o:=fun (x0,_) =>
 (f126_l0 (x0,(↑x0.length:Int),0,[],())).bind fun v=>some (v.1,())
def x6a:x8o:=v5v q6v
theorem f3s:FO 126 (g5m x6a):=q5v xi z4a vf b1k v5v q6v kn Tryz.func126 (And.intro k3u trivial)
abbrev T89:=Int×qa×Int×Unit→Option (qa×Unit)
def E89 (f:T89):FEnt:=⟨w0u,z4a,f⟩
def K89 (f126:x8o):=lk [(126,g5m f126)]
def F89 (f126:x8o):T89:=fun (x0,x1,x2,_) =>
 bif x0==1 then
 (f126 (x1,())).bind fun v =>
 bif decide ([34].length+List.length v.1≤9223372036854775807) then
 bif decide (([34]++v.1).length+[34].length≤9223372036854775807) then
 some ([34]++v.1++[34],())
 else none
 else none
 else
 bif x0==3 then
 bif decide ([40].length+x1.length≤9223372036854775807) then
 bif decide (([40]++x1).length+[41].length≤9223372036854775807) then
 some ([40]++x1++[41],())
 else none
 else none
 else
 bif x0==5 then
 bif decide ([91].length+x1.length≤9223372036854775807) then
 bif decide (([91]++x1).length+[93].length≤9223372036854775807) then
 some ([91]++x1++[93],())
 else none
 else none
 else some (x1,())
def C89:T89:=F89 x6a
theorem f7r:FO 89 (E89 C89):=wy w0u z4a K89 F89 x6a (kc f3s kn) Tryz.func89
abbrev q4b:=LqD×Int×qa×qa×Unit→Option (Bool×LqD×Int×qa×qa×Unit)
def y4d (f:q4b):LEnt:=⟨y8d,y8r,f⟩
abbrev x2s:=LqD×Int×qa×qa×Unit→Option (Bool×LqD×Int×qa×qa×Unit)
def g5f (f:x2s):FEnt:=⟨q5l,q5n,f⟩
def w8d (f146:vq) (f147:j3r) (f89:T89):=lk [(146,x1x f146),(147,w6p f147),(89,E89 f89)]
theorem v1o:zj Tryz.prog (w8d yl q7b C89):=(kc z9m (kc w5h (kc f7r kn)))
def z2u (f146:vq) (f147:j3r) (f89:T89):q4b:=fun (x0,x1,x2,x3,_) =>
 some (true,x0,IntKind.i64.wrap (x1+1),x2,x3,())
def q6u:q4b:=z2u yl q7b C89
theorem k3r:zp 1 (qe (code Tryz.f112) [1,0,1,0,1]) (y4d q6u):=zc3 y8d y8r w8d z2u yl q7b C89 v1o
def b1i (f112_c0:q4b):Ann:=(.seq .nil (.seq (.seq .nil (.cond (.cut .nil (y4d f112_c0)) .nil)) .nil))
def x7t (f146:vq) (f147:j3r) (f89:T89) (f112_c0:q4b):x2s:=fun (x0,x1,x2,x3,_) =>
 (f146 (0,x0,x1,x2,x3,())).bind fun v =>
 bif v.1==5 then
 bif decide (0≤v.2.2.1)&&decide (v.2.2.1<(↑(List.length v.2.1):Int)) then
 (f89
 ((List.getD v.2.1 (Int.toNat v.2.2.1)
 (0,([],0))).1,
 (List.getD v.2.1 (Int.toNat v.2.2.1)
 (0,([],0))).2.1,
 (List.getD v.2.1 (Int.toNat v.2.2.1)
 (0,([],0))).2.2,
 ())).bind
 fun v1 =>
 (f112_c0 (v.2.1,v.2.2.1,v.2.2.2.1,v1.1,())).bind fun v =>
 some (v.1,v.2.1,v.2.2.1,v.2.2.2.1,v.2.2.2.2.1,())
 else none
 else
 (f147 (v.2.1,v.2.2.1,v.2.2.2.1,v.2.2.2.2.1,())).bind fun v =>
 some (v.2.1,v.2.2.1,v.2.2.2.1,v.2.2.2.2.1,v.1,())
theorem b6e (f146:vq) (f147:j3r) (f89:T89) (f112_c0:q4b):ye (w8d f146 f147 f89) 1 Tryz.f112 (b1i f112_c0) q5l q5n (x7t f146 f147 f89 f112_c0):=fun v=>by kernel_rfl
def x1d:x2s:=x7t yl q7b C89 q6u
theorem f3l:FO 112 (g5f x1d) :=
 qo v1o Tryz.func112 (And.intro k3r trivial) (b6e yl q7b C89 q6u)
abbrev T71:=LqD×Unit→Option (qa×qa×Int×Bool×Unit)
def E71 (f:T71):FEnt:=⟨w0v,w3z,f⟩
def K71 (f109:x2p) (f110:x2q) (f111:x2r) (f112:x2s):=lk [(109,g5c f109),(110,g5d f110),(111,g5e f111),(112,g5f f112)]
def N71:Ann:=(.seq .nil (.seq .nil (.seq (.seq .nil (.blk (.unroll 9 .nil))) .nil)))
def F71 (f109:x2p) (f110:x2q) (f111:x2r) (f112:x2s):T71:=fun (x0,_) =>
 (f109 (x0,0,[],[],())).bind fun v =>
 bif !v.1 then some ([],[],0,false,())
 else
 (f110 (v.2.1,v.2.2.1,v.2.2.2.1,v.2.2.2.2.1,())).bind fun v =>
 bif !v.1 then some ([],[],0,false,())
 else
 (f109 (v.2.1,v.2.2.1,v.2.2.2.1,v.2.2.2.2.1,())).bind fun v =>
 bif !v.1 then some ([],[],0,false,())
 else
 (f111 (v.2.1,v.2.2.1,v.2.2.2.1,v.2.2.2.2.1,())).bind fun v =>
 bif !v.1 then some ([],[],0,false,())
 else
 (f109 (v.2.1,v.2.2.1,v.2.2.2.1,v.2.2.2.2.1,())).bind fun v =>
 bif !v.1 then some ([],[],0,false,())
 else
 (f112 (v.2.1,v.2.2.1,v.2.2.2.1,v.2.2.2.2.1,())).bind
 fun v =>
 bif !v.1 then some ([],[],0,false,())
 else
 (f109 (v.2.1,v.2.2.1,v.2.2.2.1,v.2.2.2.2.1,())).bind
 fun v =>
 bif !v.1 then some ([],[],0,false,())
 else some (v.2.2.2.1,v.2.2.2.2.1,v.2.2.1,true,())
theorem h71 (f109:x2p) (f110:x2q) (f111:x2r) (f112:x2s):ye (K71 f109 f110 f111 f112) 0 Tryz.f71 N71 w0v w3z (F71 f109 f110 f111 f112):=fun v=>by kernel_rfl
def C71:T71:=F71 x1a x1b x1c x1d
theorem f7p:FO 71 (E71 C71) :=
 qo (kc f3i (kc f3j (kc f3k (kc f3l kn)))) Tryz.func71 trivial (h71 x1a x1b x1c x1d)
abbrev T85:=Int×Unit→Option (Bool×Unit)
def E85 (f:T85):FEnt:=⟨q5i,qz,f⟩
def F85:T85:=fun (x0,_) =>
 bif x0 != 9 then bif decide (x0<32) then some (true,()) else some (x0==127,())
 else some (false,())
def C85:T85:=F85
theorem b8v:FO 85 (E85 C85):=zq0 q5i qz vf F85 kn Tryz.func85
abbrev q4l:=Bool×(qa×Int)×Unit→Option ((Int×Unit)⊕Unit)
def j9z (f:q4l):LEnt:=⟨w0x,y8l,f⟩
abbrev j7e:=qa×Bool×Unit→Option (Int×Unit)
def x6v (f:j7e):FEnt:=⟨w0w,jd,f⟩
def y1k (f85:T85):=lk [(85,E85 f85)]
theorem z8t:zj Tryz.prog (y1k C85):=(kc b8v kn)
def q3s (f85:T85):yq (Bool×(qa×Int)×Unit) ((Int×Unit)⊕Unit):=fun (x0,x1,_) =>
 bif decide (Int.toNat x1.2<List.length x1.1) then
 (f85 ((↑(kw x1.1 (Int.toNat x1.2)).1:Int),())).bind fun v =>
 bif v.1==x0 then some (Sum.inr (Sum.inl ((↑(Int.toNat x1.2):Int),())))
 else some (Sum.inl (x0,(x1.1,(↑(Int.toNat x1.2+(kw x1.1 (Int.toNat x1.2)).2):Int)),()))
 else some (Sum.inr (Sum.inr ()))
def j1o:q4l:=qc (q3s C85) je
theorem x5e:jf 0 (qe (code Tryz.f156) [1,0,1,0,0]) (j9z j1o):=zl1 w0x y8l y1k q3s C85 z8t
def w9j (f156v1_l0:q4l):Ann:=(.seq .nil (.seq (.seq .nil (.blk (.loop (j9z f156v1_l0)))) .nil))
def z3b (f85:T85) (f156v1_l0:q4l):j7e:=fun (x0,x1,_) =>
 (f156v1_l0 (x1,(x0,(↑0:Int)),())).bind fun v =>
 Sum.elim (fun v=>some (v.1,())) (fun v=>some (-1,())) v
def q5x:j7e:=z3b C85 j1o
theorem k7h:FO 156 (x6v q5x):=wq w0w jd y1k w9j z3b C85 j1o z8t Tryz.func156 (And.intro x5e trivial)
abbrev j7d:=qa×Unit→Option (Int×Unit)
def x6s (f:j7d):FEnt:=⟨y8e,jd,f⟩
def w8e (f156v1:j7e):=lk [(156,x6v f156v1)]
def z2v (f156v1:j7e):j7d:=fun (x0,_) =>
 (f156v1 (x0,true,())).bind fun v=>some (v.1,())
def j6p:j7d:=z2v q5x
theorem k7g:FO 123 (x6s j6p):=wy y8e jd w8e z2v q5x (kc k7h kn) Tryz.func123
abbrev z0j:=qa×Unit→Option (Bool×Unit)
def k8l (f:z0j):FEnt:=⟨y8e,qz,f⟩
def g9o (f123v1:j7d):=lk [(123,x6s f123v1)]
def y7o (f123v1:j7d):z0j:=fun (x0,_) =>
 (f123v1 (x0,())).bind fun v=>some (decide (v.1≥0),())
def j7a:z0j:=y7o j6p
theorem g3l:FO 84 (k8l j7a):=wy y8e qz g9o y7o j6p (kc k7g kn) Tryz.func84
abbrev T86:=qa×Unit→Option (Bool×Unit)
def E86 (f:T86):FEnt:=⟨xi,qz,f⟩
def K86 (f96:T96):=lk [(96,E96 f96)]
def F86 (f96:T96):T86:=fun (x0,_) =>
 (f96 (x0,[91],())).bind fun v=>some (v.1,())
def C86:T86:=F86 C96
theorem g3m:FO 86 (E86 C86):=wy xi qz K86 F86 C96 (kc f7s kn) Tryz.func86
abbrev T87:=qq×qu×qv×qa×Unit→Option (qa×Int×Unit)
def E87 (f:T87):FEnt:=⟨xk,q2o,f⟩
def K87 (f124:k0s):=lk [(124,g5k f124)]
def F87 (f124:k0s):T87:=fun (x0,x1,x2,x3,_) =>
 (f124 (x0,x1,x2,x3,())).bind fun v=>some (v.1,v.2.2.1,())
def C87:T87:=F87 z1r
theorem g3n:FO 87 (E87 C87):=wy xk q2o K87 F87 z1r (kc f3q kn) Tryz.func87
abbrev T44:=qq×qu×qv×qa×qa×Unit→Option (Int×Unit)
def E44 (f:T44):FEnt:=⟨z0g,jd,f⟩
def K44 (f67:T67) (f83:T83) (f84v1:z0j) (f86:T86) (f87:T87):=lk [(67,E67 f67),(83,E83 f83),(84,k8l f84v1),(86,E86 f86),(87,E87 f87)]
def F44 (f67:T67) (f83:T83) (f84v1:z0j) (f86:T86) (f87:T87):T44:=fun (x0,x1,x2,x3,x4,_) =>
 (f83 (x3,())).bind fun v =>
 bif x3==[] then some (13,())
 else
 bif decide ((↑x3.length:Int)>64) then some (5,())
 else
 bif decide (v.2.1≥0) then some (7,())
 else
 (f84v1 (x3,())).bind fun v =>
 bif v.1 then some (8,())
 else
 (f86 (x4,())).bind fun v =>
 bif v.1 then
 (f67 (x4,())).bind fun v =>
 bif v.2.2.1 != 0 then some (4,())
 else
 bif (↑(List.length v.1):Int) != 1 then some (4,())
 else
 bif decide (0<(↑(List.length v.1):Int)) then
 bif
 (List.getD v.1 0
 (0,([],0))).1 !=
 5 then
 some (4,())
 else some (0,())
 else none
 else (f87 (x0,x1,x2,x4,())).bind fun v=>some (v.2.1,())
theorem h44 (f67:T67) (f83:T83) (f84v1:z0j) (f86:T86) (f87:T87):ye (K44 f67 f83 f84v1 f86 f87) 0 Tryz.f44 .nil z0g jd (F44 f67 f83 f84v1 f86 f87):=fun v=>by kernel_rfl
def C44:T44:=F44 C67 C83 j7a C86 C87
theorem k7o:FO 44 (E44 C44) :=
 q0 (kc f7o (kc z9o (kc g3l (kc g3m (kc g3n kn))))) Tryz.func44 (h44 C67 C83 j7a C86 C87)
abbrev j6c:=Int×(qa×Int)×Unit→Option (Int×Unit)
def y5o (f:j6c):LEnt:=⟨w0y,w4a,f⟩
abbrev j3v:=qa×Unit→Option (Int×Unit)
def w7d (f:j3v):FEnt:=⟨xi,jd,f⟩
def y7m:yq (Int×(qa×Int)×Unit) (Int×Unit):=fun (x0,x1,_) =>
 bif decide (Int.toNat x1.2<List.length x1.1) then
 some
 (Sum.inl
 (IntKind.i64.wrap (x0+1),(x1.1,(↑(Int.toNat x1.2+(kw x1.1 (Int.toNat x1.2)).2):Int)),
 ()))
 else some (Sum.inr (x0,()))
def z2h:j6c:=qc (y7m) je
theorem k5c:jf 0 (qe (code Tryz.f227) [1,0,1,0,0]) (y5o z2h):=zl0 w0y w4a vf y7m kn
def b2f (f227_l0:j6c):Ann:=(.seq .nil (.seq (.seq .nil (.blk (.loop (y5o f227_l0)))) .nil))
def g9j (f227_l0:j6c):j3v:=fun (x0,_) =>
 (f227_l0 (0,(x0,(↑0:Int)),())).bind fun v=>some (v.1,())
def j1r:j3v:=g9j z2h
theorem w5t:FO 227 (w7d j1r):=q5v xi jd vf b2f g9j z2h kn Tryz.func227 (And.intro k5c trivial)
abbrev x4b:=qa×Unit→Option (Int×Int×Unit)
def g7u (f:x4b):FEnt:=⟨xi,y8s,f⟩
def g9n:x4b:=fun (x0,_) =>
 bif decide ((↑x0.length:Int)<1) then some (65533,0,())
 else bif decide (0<(↑x0.length:Int)) then none else none
def x1r:x4b:=g9n
theorem f6f:FO 273 (g7u x1r):=zq0 xi y8s vf g9n kn Tryz.func273
abbrev q9g:=qa×Bool×Unit→Option ((Int×Int×Unit)⊕(Int×Int×Unit))
def y5p (f:q9g):LEnt:=⟨w0z,w4b,f⟩
abbrev z7m:=qa×Unit→Option (Int×Int×Unit)
def g6p (f:z7m):FEnt:=⟨xi,y8s,f⟩
def w8n (f273:x4b):=lk [(273,g7u f273)]
theorem v1x:zj Tryz.prog (w8n x1r):=(kc f6f kn)
def y7n (f273:x4b):q9g:=fun (x0,x1,_) =>
 bif x1 then
 bif decide (0<(↑x0.length:Int)) then
 some (Sum.inl (IntKind.i32.wrap (↑(x0.getD 0 0).toNat:Int),1,()))
 else none
 else (f273 (x0,())).bind fun v=>some (Sum.inr (v.1,v.2.1,()))
def z2i:q9g:=y7n x1r
theorem k5d:zp 0 (qe (code Tryz.f228) [1,0,1]) (y5p z2i):=zc1 w0z w4b w8n y7n x1r v1x
def b2g (f228_c0:q9g):Ann:=(.seq .nil (.seq (.cut .nil (y5p f228_c0)) .nil))
def g9k (f273:x4b) (f228_c0:q9g):z7m:=fun (x0,_) =>
 bif !x0==[] then
 bif decide (0<(↑x0.length:Int)) then
 (f228_c0 (x0,decide ((↑(x0.getD 0 0).toNat:Int)<128),())).bind fun v =>
 Sum.elim (fun v=>some (v.1,v.2.1,())) (fun v=>some (v.1,v.2.1,()))
 v
 else none
 else
 (f228_c0 (x0,false,())).bind fun v =>
 Sum.elim (fun v=>some (v.1,v.2.1,())) (fun v=>some (v.1,v.2.1,()))
 v
def z6r:z7m:=g9k x1r z2i
theorem f4z:FO 228 (g6p z6r):=wq xi y8s w8n b2g g9k x1r z2i v1x Tryz.func228 (And.intro k5d trivial)
abbrev q8z:=qa×Int×Int×List (qa)×Unit→Option (qa×Int×List (qa)×Unit)
def y5e (f:q8z):LEnt:=⟨w1a,w4c,f⟩
abbrev q8y:=qa×Int×Unit→Option (List (qa)×Unit)
def y5d (f:q8y):LEnt:=⟨w1b,w4d,f⟩
abbrev z4f:=qa×Int×Unit→Option (List (qa)×Unit)
def g6e (f:z4f):FEnt:=⟨y7y,z0i,f⟩
def v8z (f227:j3v) (f228:z7m):=lk [(227,w7d f227),(228,g6p f228)]
theorem y2v:zj Tryz.prog (v8z j1r z6r):=(kc w5t (kc f4z kn))
def y7k (f227:j3v) (f228:z7m):yq (qa×Int×Int×List (qa)×Unit) (qa×Int×List (qa)×Unit):=fun (x0,x1,x2,x3,_) =>
 bif decide (x2<IntKind.i64.wrap (x1 - 1)) then
 (f228 (x0,())).bind fun v =>
 bif decide (0≤v.2.1)&&decide (v.2.1≤(↑x0.length:Int)) then
 bif decide (0≤x2)&&decide (x2<(↑x3.length:Int)) then
 bif decide (0≤v.2.1)&&decide (v.2.1≤(↑x0.length:Int)) then
 some
 (Sum.inl
 (List.drop (Int.toNat v.2.1) x0,x1,IntKind.i64.wrap (x2+1),
 x3.set x2.toNat (List.take (Int.toNat v.2.1) x0),()))
 else none
 else none
 else none
 else some (Sum.inr (x0,x1,x3,()))
def z2a:q8z:=qc (y7k j1r z6r) je
theorem k4s:jf 0 (qe (code Tryz.f193) [1,1,1,1,0,1,0,0]) (y5e z2a):=zl2 w1a w4c v8z y7k j1r z6r y2v
def k0g (f193_l0:q8z):Ann:=(.seq .nil (.seq (.seq .nil (.blk (.loop (y5e f193_l0)))) .nil))
def y7j (f227:j3v) (f228:z7m) (f193_l0:q8z):q8y:=fun (x0,x1,_) =>
 bif
 decide (0≤x1) &&
 (decide (x1=x1)&&(decide ((↑16:Int)*x1≤281474976710656)&&decide (x1≤140737488355328))) then
 (f193_l0 (x0,x1,0,List.replicate x1.toNat [],())).bind fun v =>
 bif decide (v.2.1>0) then
 bif
 decide (0≤IntKind.i64.wrap (v.2.1 - 1)) &&
 decide (IntKind.i64.wrap (v.2.1 - 1)<(↑(List.length v.2.2.1):Int)) then
 some (List.set v.2.2.1 (IntKind.i64.wrap (v.2.1 - 1)).toNat v.1,())
 else none
 else some (v.2.2.1,())
 else none
theorem k2g (f227:j3v) (f228:z7m) (f193_l0:q8z):AqC (v8z f227 f228) 0 (qe (code Tryz.f193) [1,1,1]) (k0g f193_l0) w1b w4d (y7j f227 f228 f193_l0):=fun v=>by kernel_rfl
def z1z:q8y:=y7j j1r z6r z2a
theorem k4r:zp 0 (qe (code Tryz.f193) [1,1,1]) (y5d z1z) :=
 frd y2v (And.intro k4s trivial) (k2g j1r z6r z2a)
def b1z (f193_c0:q8y):Ann:=(.seq .nil (.seq .nil (.cut .nil (y5d f193_c0))))
def g9h (f227:j3v) (f228:z7m) (f193_c0:q8y):z4f:=fun (x0,x1,_) =>
 (f227 (x0,())).bind fun v =>
 bif decide (x1<0) then (f193_c0 (x0,v.1,())).bind fun v=>some (v.1,())
 else
 bif decide (x1>v.1) then (f193_c0 (x0,v.1,())).bind fun v=>some (v.1,())
 else (f193_c0 (x0,x1,())).bind fun v=>some (v.1,())
def z6p:z4f:=g9h j1r z6r z1z
theorem f4o:FO 193 (g6e z6p):=j3g y7y z0i v8z b1z g9h j1r z6r z1z y2v Tryz.func193 (And.intro k4r trivial)
abbrev j2a:=qa×qa×Unit→Option (Int×Unit)
def w6y (f:j2a):FEnt:=⟨zx,jd,f⟩
def f9o (f197:y1r):=lk [(197,w6z f197)]
def v6n (f197:y1r):j2a:=fun (x0,x1,_) =>
 (f197 (x0,x1,())).bind fun v=>some (v.1,())
def q2f:j2a:=v6n z2d
theorem w5p:FO 195 (w6y q2f):=wy zx jd f9o v6n z2d (kc w5q kn) Tryz.func195
abbrev j6a:=qa×qa×Int×Unit→Option (Int×Unit)
def y5f (f:j6a):LEnt:=⟨w1c,w4e,f⟩
abbrev z4g:=qa×qa×Unit→Option (Int×Unit)
def g6f (f:z4g):FEnt:=⟨zx,jd,f⟩
def w8k (f195:j2a) (f227:j3v) (f229:x8v):=lk [(195,w6y f195),(227,w7d f227),(229,g6q f229)]
theorem v1u:zj Tryz.prog (w8k q2f j1r x1m):=(kc w5p (kc w5t (kc f5a kn)))
def y7l (f195:j2a) (f227:j3v) (f229:x8v):yq (qa×qa×Int×Unit) (Int×Unit):=fun (x0,x1,x2,_) =>
 (f195 (x0,x1,())).bind fun v =>
 bif v.1 == -1 then some (Sum.inr (x2,()))
 else
 bif
 decide (0≤IntKind.i64.wrap (v.1+(↑x1.length:Int))) &&
 decide (IntKind.i64.wrap (v.1+(↑x1.length:Int))≤(↑x0.length:Int)) then
 some
 (Sum.inl
 (List.drop (IntKind.i64.wrap (v.1+(↑x1.length:Int))).toNat x0,x1,IntKind.i64.wrap (x2+1),
 ()))
 else none
theorem k2h (f195:j2a) (f227:j3v) (f229:x8v):AqL (w8k f195 f227 f229) 0 (qe (code Tryz.f194) [1,1,1,1,0,0]) .nil w1c w4e (y7l f195 f227 f229):=fun v=>by kernel_rfl
def z2c:j6a:=qc (y7l q2f j1r x1m) je
theorem k4t:jf 0 (qe (code Tryz.f194) [1,1,1,1,0,0]) (y5f z2c) :=
 frl v1u (k2h q2f j1r x1m)
def b2a (f194_l0:j6a):Ann:=(.seq .nil (.seq .nil (.seq .nil (.seq .nil (.blk (.loop (y5f f194_l0)))))))
def g9i (f195:j2a) (f227:j3v) (f229:x8v) (f194_l0:j6a):z4g:=fun (x0,x1,_) =>
 bif (↑x1.length:Int)==0 then (f227 (x0,())).bind fun v=>some (IntKind.i64.wrap (v.1+1),())
 else
 bif (↑x1.length:Int)==1 then
 bif decide (0<(↑x1.length:Int)) then
 (f229 (x0,(↑(x1.getD 0 0).toNat:Int),())).bind fun v=>some (v.1,())
 else none
 else (f194_l0 (x0,x1,0,())).bind fun v=>some (v.1,())
def z2b:z4g:=g9i q2f j1r x1m z2c
theorem f4p:FO 194 (g6f z2b):=y0o zx jd w8k b2a g9i q2f j1r x1m z2c v1u Tryz.func194 (And.intro k4t trivial)
abbrev q8w:=qa×qa×Int×Int×Int×List (qa)×Unit→Option (qa×Int×List (qa)×Unit)
def y4z (f:q8w):LEnt:=⟨w1e,w4f,f⟩
abbrev q8v:=qa×qa×Int×Int×Unit→Option (List (qa)×Unit)
def y4y (f:q8v):LEnt:=⟨w1f,w4g,f⟩
abbrev x8q:=qa×qa×Int×Int×Unit→Option (List (qa)×Unit)
def g5v (f:x8q):FEnt:=⟨w1d,z0i,f⟩
def v8y (f193:z4f) (f194:z4g) (f195:j2a):=lk [(193,g6e f193),(194,g6f f194),(195,w6y f195)]
theorem y2u:zj Tryz.prog (v8y z6p z2b q2f):=(kc f4o (kc f4p (kc w5p kn)))
def j4w (f193:z4f) (f194:z4g) (f195:j2a):yq (qa×qa×Int×Int×Int×List (qa)×Unit) (qa×Int×List (qa)×Unit):=fun (x0,x1,x2,x3,x4,x5,_) =>
 bif decide (x4<x3) then
 (f195 (x0,x1,())).bind fun v =>
 bif decide (v.1<0) then some (Sum.inr (x0,x4,x5,()))
 else
 bif
 decide (0≤IntKind.i64.wrap (v.1+x2)) &&
 decide (IntKind.i64.wrap (v.1+x2)≤(↑x0.length:Int)) then
 bif decide (0≤x4)&&decide (x4<(↑x5.length:Int)) then
 bif
 decide (0≤IntKind.i64.wrap (v.1+(↑x1.length:Int))) &&
 decide (IntKind.i64.wrap (v.1+(↑x1.length:Int))≤(↑x0.length:Int)) then
 some
 (Sum.inl
 (List.drop (IntKind.i64.wrap (v.1+(↑x1.length:Int))).toNat x0,x1,x2,x3,
 IntKind.i64.wrap (x4+1),x5.set x4.toNat (List.take (IntKind.i64.wrap (v.1+x2)).toNat x0),
 ()))
 else none
 else none
 else none
 else some (Sum.inr (x0,x4,x5,()))
theorem k2f (f193:z4f) (f194:z4g) (f195:j2a):AqL (v8y f193 f194 f195) 0 (qe (code Tryz.f161) [1,1,1,1,1,1,1,1,0,0,0]) .nil w1e w4f (j4w f193 f194 f195):=fun v=>by kernel_rfl
def j4d:q8w:=qc (j4w z6p z2b q2f) je
theorem k4n:jf 0 (qe (code Tryz.f161) [1,1,1,1,1,1,1,1,0,0,0]) (y4z j4d) :=
 frl y2u (k2f z6p z2b q2f)
def k0f (f161_l0:q8w):Ann:=(.seq .nil (.seq .nil (.seq .nil (.seq .nil (.seq (.blk (.loop (y4z f161_l0))) .nil)))))
def j4v (f193:z4f) (f194:z4g) (f195:j2a) (f161_l0:q8w):q8v:=fun (x0,x1,x2,x3,_) =>
 bif
 decide
 (0 ≤
 if IntKind.i64.wrap ((↑x0.length:Int)+1)<x3 then IntKind.i64.wrap ((↑x0.length:Int)+1) else x3) &&
 (decide
 ((if IntKind.i64.wrap ((↑x0.length:Int)+1)<x3 then IntKind.i64.wrap ((↑x0.length:Int)+1) else x3) =
 if IntKind.i64.wrap ((↑x0.length:Int)+1)<x3 then IntKind.i64.wrap ((↑x0.length:Int)+1) else x3) &&
 (decide
 (((↑16:Int) *
 if IntKind.i64.wrap ((↑x0.length:Int)+1)<x3 then IntKind.i64.wrap ((↑x0.length:Int)+1)
 else x3) ≤
 281474976710656) &&
 decide
 ((if IntKind.i64.wrap ((↑x0.length:Int)+1)<x3 then IntKind.i64.wrap ((↑x0.length:Int)+1)
 else x3) ≤
 140737488355328))) then
 (f161_l0
 (x0,x1,x2,
 IntKind.i64.wrap
 ((if IntKind.i64.wrap ((↑x0.length:Int)+1)<x3 then IntKind.i64.wrap ((↑x0.length:Int)+1)
 else x3) -
 1),
 0,
 List.replicate
 (if IntKind.i64.wrap ((↑x0.length:Int)+1)<x3 then IntKind.i64.wrap ((↑x0.length:Int)+1)
 else x3).toNat
 [],
 ())).bind
 fun v =>
 bif decide (0≤v.2.1)&&decide (v.2.1<(↑(List.length v.2.2.1):Int)) then
 bif
 decide (0≤IntKind.i64.wrap (v.2.1+1)) &&
 decide
 (IntKind.i64.wrap (v.2.1+1) ≤
 (↑(List.set v.2.2.1 (Int.toNat v.2.1) v.1).length:Int)) then
 some
 (List.take (IntKind.i64.wrap (v.2.1+1)).toNat
 (List.set v.2.2.1 (Int.toNat v.2.1) v.1),
 ())
 else none
 else none
 else none
theorem k2e (f193:z4f) (f194:z4g) (f195:j2a) (f161_l0:q8w):AqC (v8y f193 f194 f195) 0 (qe (code Tryz.f161) [1,1,1,1]) (k0f f161_l0) w1f w4g (j4v f193 f194 f195 f161_l0):=fun v=>by kernel_rfl
def q7f:q8v:=j4v z6p z2b q2f j4d
theorem k4m:zp 0 (qe (code Tryz.f161) [1,1,1,1]) (y4y q7f) :=
 frd y2u (And.intro k4n trivial) (k2e z6p z2b q2f j4d)
def b1v (f161_c0:q8v):Ann:=(.seq .nil (.seq .nil (.seq .nil (.cut .nil (y4y f161_c0)))))
def v6f (f193:z4f) (f194:z4g) (f195:j2a) (f161_c0:q8v):x8q:=fun (x0,x1,x2,x3,_) =>
 bif x3==0 then some ([],())
 else
 bif x1==[] then (f193 (x0,x3,())).bind fun v=>some (v.1,())
 else
 bif decide (x3<0) then
 (f194 (x0,x1,())).bind fun v =>
 (f161_c0 (x0,x1,x2,IntKind.i64.wrap (v.1+1),())).bind fun v=>some (v.1,())
 else (f161_c0 (x0,x1,x2,x3,())).bind fun v=>some (v.1,())
def y0t:x8q:=v6f z6p z2b q2f q7f
theorem f4e:FO 161 (g5v y0t):=y0o w1d z0i v8y b1v v6f z6p z2b q2f q7f y2u Tryz.func161 (And.intro k4m trivial)
abbrev x2u:=qa×qa×Unit→Option (List (qa)×Unit)
def g5l (f:x2u):FEnt:=⟨zx,z0i,f⟩
def f8t (f161:x8q):=lk [(161,g5v f161)]
def v5u (f161:x8q):x2u:=fun (x0,x1,_) =>
 (f161 (x0,x1,0,-1,())).bind fun v=>some (v.1,())
def z6h:x2u:=v5u y0t
theorem f3r:FO 125 (g5l z6h):=wy zx z0i f8t v5u y0t (kc f4e kn) Tryz.func125
abbrev z4q:=qa×Int×Int×Unit→Option ((qa×Unit)⊕(Bool×Unit))
def x7h (f:z4q):LEnt:=⟨w1g,w4h,f⟩
abbrev T47:=qa×Unit→Option (Bool×Unit)
def E47 (f:T47):FEnt:=⟨xi,qz,f⟩
def K47 (f90:T90):=lk [(90,E90 f90)]
theorem w4y:zj Tryz.prog (K47 C90):=(kc g3o kn)
def z3y (f90:T90):yq (qa×Int×Int×Unit) ((qa×Unit)⊕(Bool×Unit)):=fun (x0,x1,x2,_) =>
 bif decide (x2<x1) then
 bif decide (0≤x2)&&decide (x2<(↑x0.length:Int)) then
 (f90 ((↑(x0.getD x2.toNat 0).toNat:Int),())).bind fun v =>
 bif !v.1 then some (Sum.inr (Sum.inr (false,())))
 else some (Sum.inl (x0,x1,IntKind.i64.wrap (x2+1),()))
 else none
 else some (Sum.inr (Sum.inl (x0,())))
def y1b:z4q:=qc (z3y C90) je
theorem g2t:jf 0 (qe (code Tryz.f47) [1,0,1,0,0]) (x7h y1b):=zl1 w1g w4h K47 z3y C90 w4y
def N47 (f47_l0:z4q):Ann:=(.seq .nil (.seq (.seq .nil (.blk (.loop (x7h f47_l0)))) .nil))
def F47 (f90:T90) (f47_l0:z4q):T47:=fun (x0,_) =>
 (f47_l0 (x0,(↑x0.length:Int),0,())).bind fun v =>
 Sum.elim (fun v=>some (bif v.1==[] then false else true,()))
 (fun v=>some (v.1,())) v
def C47:T47:=F47 C90 y1b
theorem f7n:FO 47 (E47 C47):=wq xi qz K47 N47 F47 C90 y1b w4y Tryz.func47 (And.intro g2t trivial)
abbrev z4t:=List (qa)×Int×Int×Unit→Option (Unit⊕(Bool×Unit))
def x7p (f:z4t):LEnt:=⟨w1h,w4i,f⟩
abbrev T88:=qa×Unit→Option (Bool×Unit)
def E88 (f:T88):FEnt:=⟨xi,qz,f⟩
def K88 (f125:x2u) (f47:T47):=lk [(125,g5l f125),(47,E47 f47)]
theorem w5d:zj Tryz.prog (K88 z6h C47):=(kc f3r (kc f7n kn))
def z3z (f125:x2u) (f47:T47):yq (List (qa)×Int×Int×Unit) (Unit⊕(Bool×Unit)):=fun (x0,x1,x2,_) =>
 bif decide (x2<x1) then
 bif decide (0≤x2)&&decide (x2<(↑x0.length:Int)) then
 (f47 (x0.getD x2.toNat [],())).bind fun v =>
 bif !v.1 then some (Sum.inr (Sum.inr (false,())))
 else some (Sum.inl (x0,x1,IntKind.i64.wrap (x2+1),()))
 else none
 else some (Sum.inr (Sum.inl ()))
def y1f:z4t:=qc (z3z z6h C47) je
theorem g3b:jf 0 (qe (code Tryz.f88) [1,0,1,0,0]) (x7p y1f):=zl2 w1h w4i K88 z3z z6h C47 w5d
def N88 (f88_l0:z4t):Ann:=(.seq .nil (.seq (.seq .nil (.blk (.loop (x7p f88_l0)))) .nil))
def F88 (f125:x2u) (f47:T47) (f88_l0:z4t):T88:=fun (x0,_) =>
 (f125 (x0,[46],())).bind fun v =>
 (f88_l0 (v.1,(↑(List.length v.1):Int),0,())).bind fun v =>
 Sum.elim (fun v=>some (true,())) (fun v=>some (v.1,())) v
def C88:T88:=F88 z6h C47 y1f
theorem b8w:FO 88 (E88 C88):=j3g xi qz K88 N88 F88 z6h C47 y1f w5d Tryz.func88 (And.intro g3b trivial)
abbrev T45:=qa×qa×Unit→Option (qa×Unit)
def E45 (f:T45):FEnt:=⟨y8f,z4a,f⟩
def K45 (f88:T88) (f89:T89):=lk [(88,E88 f88),(89,E89 f89)]
def F45 (f88:T88) (f89:T89):T45:=fun (x0,x1,_) =>
 (f88 (x0,())).bind fun v =>
 bif !v.1 then
 (f89 (1,x0,0,())).bind fun v =>
 bif decide (List.length v.1+[64].length≤9223372036854775807) then
 bif decide ((v.1++[64]).length+x1.length≤9223372036854775807) then
 some (v.1++[64]++x1,())
 else none
 else none
 else
 bif decide (x0.length+[64].length≤9223372036854775807) then
 bif decide ((x0++[64]).length+x1.length≤9223372036854775807) then
 some (x0++[64]++x1,())
 else none
 else none
def C45:T45:=F45 C88 C89
theorem f7m:FO 45 (E45 C45):=zq2 y8f z4a K45 F45 C88 C89 (kc b8w (kc f7r kn)) Tryz.func45
abbrev T32:=qq×qu×qv×qa×Unit→Option (qa×qa×Int×Unit)
def E32 (f:T32):FEnt:=⟨xk,y8t,f⟩
def K32 (f44:T44) (f67:T67) (f71:T71):=lk [(44,E44 f44),(67,E67 f67),(71,E71 f71)]
def F32 (f44:T44) (f67:T67) (f71:T71):T32:=fun (x0,x1,x2,x3,_) =>
 (f67 (x3,())).bind fun v =>
 bif v.2.2.1 != 0 then some ([],[],v.2.2.1,())
 else
 (f71 (v.1,())).bind fun v1 =>
 bif !v1.2.2.2.1 then some ([],[],4,())
 else
 bif v1.2.2.1 != (↑(List.length v.1):Int) then some ([],[],4,())
 else
 (f44 (x0,x1,x2,v1.1,v1.2.1,())).bind fun v =>
 bif v.1 != 0 then some ([],[],v.1,()) else some (v1.1,v1.2.1,0,())
theorem h32 (f44:T44) (f67:T67) (f71:T71):ye (K32 f44 f67 f71) 0 Tryz.f32 .nil xk y8t (F32 f44 f67 f71):=fun v=>by kernel_rfl
def C32:T32:=F32 C44 C67 C71
theorem f7l:FO 32 (E32 C32) :=
 q0 (kc k7o (kc f7o (kc f7p kn))) Tryz.func32 (h32 C44 C67 C71)
abbrev T38:=qa×qa×Unit→Option (Bool×Unit)
def E38 (f:T38):FEnt:=⟨y8f,qz,f⟩
def F38:T38:=fun (x0,x1,_) =>
 bif decide ((↑x0.length:Int)≤150) then some (decide ((↑x1.length:Int)≤200),())
 else some (false,())
def C38:T38:=F38
theorem b8j:FO 38 (E38 C38):=zq0 y8f qz vf F38 kn Tryz.func38
end Go.Proofs.YtiacnhhmkdkpmaaGreatDoorA.W
set_option linter.unusedSimpArgs false
namespace Go.Proofs.YtiacnhhmkdkpmaaGreatDoorA.W
open Go Go.Ae
theorem wr {n:Int} (h1 : -9223372036854775808≤n) (h2:n≤9223372036854775807):IntKind.i64.wrap n=n:=by rw [IntKind.wrap_i64];omega
theorem wrN (n:Nat) (h:n≤9223372036854775806):IntKind.i64.wrap ((n:Int)+1)=((n+1:Nat):Int):=by rw [wr]<;>omega
theorem x0g (b:UInt8):UInt8.ofNat b.toNat=b:=by simp
theorem byte_back (b:UInt8):UInt8.ofNat ((b.toNat:Int)).toNat=b:=by simp
theorem getD_lt {α:Type} {l:List α} {i:Nat} {d:α} (h:i<l.length):l.getD i d=l[i]:=by simp [List.getD_eq_getElem?_getD,List.getElem?_eq_getElem h]
def wx (c:UInt8):List UInt8:=if c.toNat=34∨c.toNat=92 then [92,c] else [c]
def esc (s:List UInt8):List UInt8:=s.flatMap wx
theorem v0y (c:UInt8):(wx c).length≤2:=by unfold wx;split<;>simp
theorem j0q:∀s:List UInt8,(esc s).length≤2*s.length
 | []=>by simp [esc]
 | c::s=>by have:=j0q s;have:=v0y c;simp [esc] at *;omega
theorem y2g (s t:List UInt8):esc (s++t)=esc s++esc t:=by simp [esc]
theorem ql {α:Type} {s:List α} {k:Nat} (h:k<s.length):s.take (k+1)=s.take k++[s[k]]:=by
 rw [List.take_add_one,List.getElem?_eq_getElem h];rfl
theorem v0z {s:List UInt8} {k:Nat} (h:k<s.length):esc (s.take (k+1))=esc (s.take k)++wx s[k]:=by
 rw [ql h,y2g];simp [esc]
theorem ibT {a b:Int} (h:a=b):(a==b)=true:=by simp [h]
theorem ibF {a b:Int} (h:a≠b):(a==b)=false:=by simp [h]
theorem inT {a b:Int} (h:a≠b):(a != b)=true:=by simp [h]
theorem inF {a b:Int} (h:a=b):(a != b)=false:=by simp [h]
theorem y0l {a:UInt8} {n:Nat} (h:a.toNat=n):a=UInt8.ofNat n:=by subst h;simp
theorem g2d {c:UInt8} (h:c.toNat=34):wx c=[92]++[c]:=by simp [wx,h]
theorem g2b {c:UInt8} (h:c.toNat=92):wx c=[92]++[c]:=by simp [wx,h]
theorem g2c {c:UInt8} (h:¬c.toNat=34) (h2:¬c.toNat=92):wx c=[c]:=by simp [wx,h,h2]
theorem r14 (s:List UInt8) (k:Nat) (acc:List UInt8) (h:k<s.length) (hb:s.length≤9223372036854775806) (ha:acc.length+2≤140737488355328) :
 kf (s,(s.length:Int),(k:Int),acc,())=some (.inl (s,(s.length:Int),((k+1:Nat):Int),acc++wx s[k],())):=by
 by_cases e1:s[k].toNat=34
 · simp (disch:=omega) only [kf,decide_eq_true,cond_true,Bool.and_self,List.length_append,List.length_cons,List.length_nil,getD_lt,byte_back,wrN,Int.toNat_natCast,ibT,g2d,List.append_assoc,x0g]
 · by_cases e2:s[k].toNat=92
   · simp (disch:=omega) only [kf,decide_eq_true,cond_true,cond_false,Bool.and_self,List.length_append,List.length_cons,List.length_nil,getD_lt,byte_back,wrN,Int.toNat_natCast,ibT,ibF,g2b,List.append_assoc,x0g]
   · simp (disch:=omega) only [kf,decide_eq_true,cond_true,cond_false,Bool.and_self,List.length_append,List.length_cons,List.length_nil,getD_lt,byte_back,wrN,Int.toNat_natCast,ibT,ibF,g2c,List.append_assoc,x0g]
theorem c14 (s:List UInt8) (hb:s.length≤70368744177663):x6a (s,())=some (esc s,()):=by
 have key:∀(k:Nat) (n:Nat),k≤s.length→s.length - k<n→qc kf n (s,(s.length:Int),(k:Int),esc (s.take k),())=some (esc s,()):=by
  intro k n
  induction n generalizing k with
  | zero=>intro _ h;omega
  | succ n ih =>
   intro hk hn;by_cases h:k<s.length
   · have hl:=j0q (s.take k)
     rw [jl (r14 s k _ h (by omega) (by simp only [List.length_take] at hl;omega)),←v0z h];exact ih (k+1) (by omega) (by omega)
   · have:k=s.length:=by omega
     subst this;refine qk ?_;simp [kf]
 have:=key 0 je (by omega) (by unfold je;omega);simp only [List.take_zero] at this;show v5v q6v (s,())=_;simp only [v5v,q6v];rw [show qc kf je (s,(s.length:Int),0,[],())=some (esc s,()) from this];rfl
def src (k:Int) (s:List UInt8):List UInt8:=if k=1 then [34]++esc s++[34] else if k=3 then [40]++s++[41] else if k=5 then [91]++s++[93] else s
theorem c9 (k:Int) (s:List UInt8) (a:Int) (hb:s.length≤9000):C89 (k,s,a,())=some (src k s,()):=by
 have hl:=j0q s;show F89 x6a (k,s,a,())=_;by_cases e1:k=1
 · simp (disch:=omega) only [F89,c14,ibT,cond_true,decide_eq_true,List.length_append,List.length_cons,List.length_nil,Option.bind_some,src,if_pos]
 · by_cases e3:k=3
   · simp (disch:=omega) only [F89,ibT,ibF,cond_true,cond_false,decide_eq_true,List.length_append,List.length_cons,List.length_nil,Option.bind_some,src,if_pos,if_neg]
   · by_cases e5:k=5
     · simp (disch:=omega) only [F89,ibT,ibF,cond_true,cond_false,decide_eq_true,List.length_append,List.length_cons,List.length_nil,Option.bind_some,src,if_pos,if_neg]
     · simp (disch:=omega) only [F89,ibT,ibF,cond_true,cond_false,src,if_neg]
abbrev T64:=Int×Unit→Option (Int×Unit)
def E64 (f:T64):FEnt:=⟨j3q,w4j,f⟩
def F64:T64:=fun (x0,_) =>
 bif decide (x0≥65) then
 bif decide (x0≤90) then some (IntKind.u8.wrap (IntKind.u8.wrap (x0 - 65)+97),())
 else some (x0,())
 else some (x0,())
def C64:T64:=F64
theorem b8r:FO 64 (E64 C64):=zq0 j3q w4j vf F64 kn Tryz.func64
abbrev z4r:=qa×Int×Int×qa×Unit→Option (qa×Unit)
def x7i (f:z4r):LEnt:=⟨w1j,w4l,f⟩
abbrev T63:=qa×Unit→Option (qa×Unit)
def E63 (f:T63):FEnt:=⟨w1i,w4k,f⟩
def K63 (f64:T64):=lk [(64,E64 f64)]
theorem w4z:zj Tryz.prog (K63 C64):=(kc b8r kn)
def x8g (f64:T64):yq (qa×Int×Int×qa×Unit) (qa×Unit):=fun (x0,x1,x2,x3,_) =>
 bif decide (x2<x1) then
 bif decide (0≤x2)&&decide (x2<(↑x0.length:Int)) then
 (f64 ((↑(UInt8.toNat (x0.getD x2.toNat 0)):Int),())).bind fun v =>
 bif decide (x3.length+[UInt8.ofNat (Int.toNat v.1)].length≤140737488355328/1) then
 some (Sum.inl (x0,x1,IntKind.i64.wrap (x2+1),x3++[UInt8.ofNat (Int.toNat v.1)],()))
 else none
 else none
 else some (Sum.inr (x3,()))
def y1c:z4r:=qc (x8g C64) je
theorem g2u:jf 0 (qe (code Tryz.f63) [1,1,0,1,0,0]) (x7i y1c):=zl1 w1j w4l K63 x8g C64 w4z
def N63 (f63_l0:z4r):Ann:=(.seq .nil (.seq .nil (.seq (.seq .nil (.blk (.loop (x7i f63_l0)))) .nil)))
def F63 (f64:T64) (f63_l0:z4r):T63:=fun (x0,_) =>
 (f63_l0 (x0,(↑x0.length:Int),0,[],())).bind fun v=>some (v.1,())
def C63:T63:=F63 C64 y1c
theorem b8q:FO 63 (E63 C63):=wq w1i w4k K63 N63 F63 C64 y1c w4z Tryz.func63 (And.intro g2u trivial)
abbrev T25:=qa×Unit→Option (qa×Unit)
def E25 (f:T25):FEnt:=⟨xi,z4a,f⟩
def K25 (f63:T63):=lk [(63,E63 f63)]
def F25 (f63:T63):T25:=fun (x0,_) =>
 bif decide (x0.length≤9223372036854775807) then (f63 (x0,())).bind fun v=>some (v.1,()) else none
def C25:T25:=F25 C63
theorem b8i:FO 25 (E25 C25):=wy xi z4a K25 F25 C63 (kc b8q kn) Tryz.func25
abbrev q8x:=Int×Bool×qq×qu×qv×Unit→Option ((Bool×Unit)⊕(Int×qq×qu×qv×Unit))
def y5b (f:q8x):LEnt:=⟨w1k,w4m,f⟩
abbrev x3a:=qq×qu×qv×Int×Unit→Option (Bool×Unit)
def g6b (f:x3a):FEnt:=⟨Li0,qz,f⟩
def w8i (f215:j7g) (f216:q9b) (f217:z4h):=lk [(215,v5p f215),(216,x6x f216),(217,w7a f217)]
theorem v1s:zj Tryz.prog (w8i j3k zl q2e):=(kc v3s (kc x0i (kc w5r kn)))
def y7i (f215:j7g) (f216:q9b) (f217:z4h):q8x:=fun (x0,x1,x2,x3,x4,_) =>
 bif x1 then some (Sum.inl (true,()))
 else
 (f215 (x2,x3,x4,x0,())).bind fun v =>
 bif v.1==1 then
 (f216 (x2,x3,x4,x0,())).bind fun v =>
 bif !v.2.2.2.2.2.1 then some (Sum.inl (true,()))
 else
 bif !v.2.2.2.1 then some (Sum.inl (bif v.2.2.2.2.1 then false else true,()))
 else some (Sum.inl (false,()))
 else some (Sum.inr (x0,x2,x3,x4,()))
def z1x:q8x:=y7i j3k zl q2e
theorem k4p:zp 0 (qe (code Tryz.f184) [1,0,0,1]) (y5b z1x):=zc3 w1k w4m w8i y7i j3k zl q2e v1s
def b1x (f184_c0:q8x):Ann:=(.seq .nil (.seq (.blk (.cut .nil (y5b f184_c0))) .nil))
def g9g (f215:j7g) (f216:q9b) (f217:z4h) (f184_c0:q8x):x3a:=fun (x0,x1,x2,x3,_) =>
 bif decide (x3≥33) then
 (f184_c0 (x3,decide (x3≤126),x0,x1,x2,())).bind fun v =>
 Sum.elim (fun v=>some (v.1,()))
 (fun v =>
 (f217 (v.2.1,v.2.2.1,v.2.2.2.1,v.1,())).bind fun v =>
 some (v.1,()))
 v
 else
 (f184_c0 (x3,false,x0,x1,x2,())).bind fun v =>
 Sum.elim (fun v=>some (v.1,()))
 (fun v =>
 (f217 (v.2.1,v.2.2.1,v.2.2.2.1,v.1,())).bind fun v =>
 some (v.1,()))
 v
def w6i:x3a:=g9g j3k zl q2e z1x
theorem f4l:FO 184 (g6b w6i):=y0o Li0 qz w8i b1x g9g j3k zl q2e z1x v1s Tryz.func184 (And.intro k4p trivial)
abbrev x2z:=Int×qq×qu×qv×List (Int)×Unit→Option (Bool×qq×qu×qv×List (Int)×Unit)
def g6a (f:x2z):FEnt:=⟨w1l,j2t,f⟩
def f9k (f183:z4d) (f184:x3a):=lk [(183,w6v f183),(184,g6b f184)]
def g9f (f183:z4d) (f184:x3a):x2z:=fun (x0,x1,x2,x3,x4,_) =>
 (f183 (x1,x2,x3,x4,x0,())).bind fun v =>
 bif v.1==2 then some (true,x1,x2,x3,x4,())
 else
 bif v.1==0 then
 bif decide (0≤x0)&&decide (x0<(↑x4.length:Int)) then
 (f184 (x1,x2,x3,x4.getD x0.toNat 0,())).bind fun v =>
 some (bif v.1 then false else true,x1,x2,x3,x4,())
 else none
 else some (false,x1,x2,x3,x4,())
theorem b6r (f183:z4d) (f184:x3a):ye (f9k f183 f184) 2 Tryz.f182 .nil w1l j2t (g9f f183 f184):=fun v=>by kernel_rfl
def x1j:x2z:=g9f j3i w6i
theorem f4k:FO 182 (g6a x1j) :=
 q0 (kc w5m (kc f4l kn)) Tryz.func182 (b6r j3i w6i)
abbrev j5w:=Int×Int×qq×qu×qv×List (Int)×Unit→Option (Unit⊕(Int×Unit))
def y4u (f:j5w):LEnt:=⟨w1m,w4n,f⟩
abbrev x2w:=qq×qu×qv×qa×Unit→Option (Int×Unit)
def g5t (f:x2w):FEnt:=⟨xk,jd,f⟩
def w8f (f182:x2z) (f83:T83):=lk [(182,g6a f182),(83,E83 f83)]
theorem v1p:zj Tryz.prog (w8f x1j C83):=(kc f4k (kc z9o kn))
def y7h (f182:x2z) (f83:T83):yq (Int×Int×qq×qu×qv×List (Int)×Unit) (Unit⊕(Int×Unit)):=fun (x0,x1,x2,x3,x4,x5,_) =>
 bif decide (x1<x0) then
 (f182 (x1,x2,x3,x4,x5,())).bind fun v =>
 bif v.1 then some (Sum.inr (Sum.inr (8,())))
 else
 some
 (Sum.inl
 (x0,IntKind.i64.wrap (x1+1),v.2.1,v.2.2.1,v.2.2.2.1,v.2.2.2.2.1,
 ()))
 else some (Sum.inr (Sum.inl ()))
def z1s:j5w:=qc (y7h x1j C83) je
theorem k4i:jf 0 (qe (code Tryz.f152) [1,1,1,1,0,1,0,0]) (y4u z1s):=zl2 w1m w4n w8f y7h x1j C83 v1p
def b1s (f152_l0:j5w):Ann:=(.seq .nil (.seq .nil (.seq .nil (.seq .nil (.seq (.seq .nil (.blk (.loop (y4u f152_l0)))) .nil)))))
def g9c (f182:x2z) (f83:T83) (f152_l0:j5w):x2w:=fun (x0,x1,x2,x3,_) =>
 (f83 (x3,())).bind fun v =>
 bif decide (v.2.1≥0) then some (7,())
 else
 bif (↑(List.length v.1):Int)==0 then some (13,())
 else
 (f152_l0 ((↑(List.length v.1):Int),0,x0,x1,x2,v.1,())).bind fun v =>
 Sum.elim (fun v=>some (0,())) (fun v=>some (v.1,())) v
def w6h:x2w:=g9c x1j C83 z1s
theorem f4a:FO 152 (g5t w6h):=j3g xk jd w8f b1s g9c x1j C83 z1s v1p Tryz.func152 (And.intro k4i trivial)
abbrev z7d:=qq×qu×qv×qa×Unit→Option (qa×Int×Unit)
def g5h (f:z7d):FEnt:=⟨xk,q2o,f⟩
def f8q (f151:j9l) (f152:x2w) (f153:q5j) (f154:z4c) (f83:T83):=lk [(151,w6r f151),(152,g5t f152),(153,v5k f153),(154,w6s f154),(83,E83 f83)]
def g8z (f151:j9l) (f152:x2w) (f153:q5j) (f154:z4c) (f83:T83):z7d:=fun (x0,x1,x2,x3,_) =>
 (f151 (x0,x1,x2,x3,())).bind fun v =>
 bif !v.2.1 then some ([],7,())
 else
 (f152 (x0,x1,x2,v.1,())).bind fun v1 =>
 bif v1.1 != 0 then some ([],v1.1,())
 else
 (f83 (v.1,())).bind fun v2 =>
 (f153 (x0,x1,x2,v2.1,())).bind fun v3 =>
 bif v3.1 then
 (f154 (x0,x1,x2,v2.1,())).bind fun v4 =>
 bif !v4.1 then some ([],9,()) else some (v.1,0,())
 else some (v.1,0,())
theorem b6f (f151:j9l) (f152:x2w) (f153:q5j) (f154:z4c) (f83:T83):ye (f8q f151 f152 f153 f154 f83) 0 Tryz.f120 .nil xk q2o (g8z f151 f152 f153 f154 f83):=fun v=>by kernel_rfl
def x1f:z7d:=g8z j1n w6h q5w y0q C83
theorem f3n:FO 120 (g5h x1f) :=
 q0 (kc v3m (kc f4a (kc v3n (kc w5j (kc z9o kn))))) Tryz.func120 (b6f j1n w6h q5w y0q C83)
abbrev j2c:=qq×qu×qv×qa×qa×qa×qa×Unit→Option (qa×qa×Unit)
def x7l (f:j2c):LEnt:=⟨w1n,w4p,f⟩
abbrev T82:=qq×qu×qv×qa×qa×Unit→Option (qa×qa×Unit)
def E82 (f:T82):FEnt:=⟨z0g,w4o,f⟩
def K82 (f120:z7d) (f25:T25) (f86:T86) (f87:T87):=lk [(120,g5h f120),(25,E25 f25),(86,E86 f86),(87,E87 f87)]
theorem w5c:zj Tryz.prog (K82 x1f C25 C86 C87):=(kc f3n (kc b8i (kc g3m (kc g3n kn))))
def x8i (f120:z7d) (f25:T25) (f86:T86) (f87:T87):j2c:=fun (x0,x1,x2,x3,x4,x5,x6,_) =>
 (f86 (x4,())).bind fun v =>
 bif v.1 then (f25 (x4,())).bind fun v=>some (x3,v.1,())
 else
 (f87 (x0,x1,x2,x4,())).bind fun v =>
 bif v.2.1==0 then some (x3,v.1,()) else some (x3,x4,())
theorem g2k (f120:z7d) (f25:T25) (f86:T86) (f87:T87):AqC (K82 f120 f25 f86 f87) 0 (qe (code Tryz.f82) [1,1]) .nil w1n w4p (x8i f120 f25 f86 f87):=fun v=>by kernel_rfl
def y1e:j2c:=x8i x1f C25 C86 C87
theorem g2x:zp 0 (qe (code Tryz.f82) [1,1]) (x7l y1e) :=
 frc w5c (g2k x1f C25 C86 C87)
def N82 (f82_c0:j2c):Ann:=(.seq .nil (.cut .nil (x7l f82_c0)))
def F82 (f120:z7d) (f25:T25) (f86:T86) (f87:T87) (f82_c0:j2c):T82:=fun (x0,x1,x2,x3,x4,_) =>
 (f120 (x0,x1,x2,x3,())).bind fun v =>
 bif v.2.1==0 then
 (f82_c0 (x0,x1,x2,v.1,x4,[],[],())).bind fun v=>some (v.1,v.2.1,())
 else (f82_c0 (x0,x1,x2,x3,x4,[],[],())).bind fun v=>some (v.1,v.2.1,())
theorem h82 (f120:z7d) (f25:T25) (f86:T86) (f87:T87) (f82_c0:j2c):ye (K82 f120 f25 f86 f87) 0 Tryz.f82 (N82 f82_c0) z0g w4o (F82 f120 f25 f86 f87 f82_c0):=fun v=>by kernel_rfl
def C82:T82:=F82 x1f C25 C86 C87 y1e
theorem f7q:FO 82 (E82 C82) :=
 qo w5c Tryz.func82 (And.intro g2x trivial) (h82 x1f C25 C86 C87 y1e)
abbrev x2t:=qq×qu×qv×qa×Unit→Option (qa×Int×Unit)
def g5g (f:x2t):FEnt:=⟨xk,q2o,f⟩
def f8p (f21:T21) (f87:T87):=lk [(21,E21 f21),(87,E87 f87)]
def g8y (f21:T21) (f87:T87):x2t:=fun (x0,x1,x2,x3,_) =>
 (f87 (x0,x1,x2,x3,())).bind fun v =>
 bif v.2.1==0 then
 (f21 (x3,())).bind fun v1 =>
 bif decide (v1.1<0) then some (x3,0,()) else some (v.1,v.2.1,())
 else some (v.1,v.2.1,())
def x1e:x2t:=g8y C21 C87
theorem f3m:FO 118 (g5g x1e):=zq2 xk q2o f8p g8y C21 C87 (kc x5l (kc g3n kn)) Tryz.func118
abbrev j7m:=Bool×qq×qu×qv×qa×qa×qa×qa×Unit→Option ((Int×qa×qa×Unit)⊕(qq×qu×qv×qa×qa×qa×qa×Unit))
def x7k (f:j7m):LEnt:=⟨w1o,w4q,f⟩
abbrev T78:=qq×qu×qv×qa×qa×Unit→Option (qa×qa×Int×Unit)
def E78 (f:T78):FEnt:=⟨z0g,y8t,f⟩
def K78 (f118:x2t) (f21:T21) (f86:T86):=lk [(118,g5g f118),(21,E21 f21),(86,E86 f86)]
theorem w5b:zj Tryz.prog (K78 x1e C21 C86):=(kc f3m (kc x5l (kc g3m kn)))
def x8h (f118:x2t) (f21:T21) (f86:T86):j7m:=fun (x0,x1,x2,x3,x4,x5,x6,x7,_) =>
 bif x0 then some (Sum.inl (8,[],[],()))
 else
 (f86 (x5,())).bind fun v =>
 bif v.1 then some (Sum.inl (0,x4,x5,())) else some (Sum.inr (x1,x2,x3,x4,x5,x6,x7,()))
def y1d:j7m:=x8h x1e C21 C86
theorem g2w:zp 0 (qe (code Tryz.f78) [1,0,0,1]) (x7k y1d):=zc3 w1o w4q K78 x8h x1e C21 C86 w5b
def N78 (f78_c0:j7m):Ann:=(.seq .nil (.seq (.blk (.cut .nil (x7k f78_c0))) .nil))
def F78 (f118:x2t) (f21:T21) (f86:T86) (f78_c0:j7m):T78:=fun (x0,x1,x2,x3,x4,_) =>
 (f21 (x3,())).bind fun v =>
 bif decide (v.1≥0) then
 (f78_c0 (true,x0,x1,x2,x3,x4,[],[],())).bind fun v =>
 Sum.elim (fun v=>some (v.2.1,v.2.2.1,v.1,()))
 (fun v =>
 (f118 (v.1,v.2.1,v.2.2.1,v.2.2.2.2.1,())).bind fun v1 =>
 bif v1.2.1 != 0 then some ([],[],v1.2.1,())
 else some (v.2.2.2.1,v1.1,0,()))
 v
 else
 (f86 (x4,())).bind fun v =>
 bif v.1 then
 (f21 (x4,())).bind fun v =>
 (f78_c0 (decide (v.1≥0),x0,x1,x2,x3,x4,[],[],())).bind fun v =>
 Sum.elim (fun v=>some (v.2.1,v.2.2.1,v.1,()))
 (fun v =>
 (f118 (v.1,v.2.1,v.2.2.1,v.2.2.2.2.1,())).bind fun v1 =>
 bif v1.2.1 != 0 then some ([],[],v1.2.1,())
 else some (v.2.2.2.1,v1.1,0,()))
 v
 else
 (f78_c0 (false,x0,x1,x2,x3,x4,[],[],())).bind fun v =>
 Sum.elim (fun v=>some (v.2.1,v.2.2.1,v.1,()))
 (fun v =>
 (f118 (v.1,v.2.1,v.2.2.1,v.2.2.2.2.1,())).bind fun v1 =>
 bif v1.2.1 != 0 then some ([],[],v1.2.1,())
 else some (v.2.2.2.1,v1.1,0,()))
 v
def C78:T78:=F78 x1e C21 C86 y1d
theorem b8t:FO 78 (E78 C78):=y0o z0g y8t K78 N78 F78 x1e C21 C86 y1d w5b Tryz.func78 (And.intro g2w trivial)
def Df {α:Type} (x:Option α) (Q:α→Prop):Prop:=∃y,x=some y∧Q y
section
variable {α β γ:Type} {Q:α→Prop}
theorem dP {y:α} (h:Q y):Df (some y) Q:=⟨y,rfl,h⟩
theorem dO (h:False):Df (none:Option α) Q:=h.elim
theorem dZ {x:Option β} {f:β→Option α} {P:β→Prop} (h:Df x P) (hf:∀a,P a→Df (f a) Q):Df (x.bind f) Q:=by
 obtain ⟨a,rfl,ha⟩:=h;exact hf a ha
theorem Df.mono {x:Option α} {P:α→Prop} (h:Df x P) (hf:∀a,P a→Q a):Df x Q:=by
 obtain ⟨a,e,ha⟩:=h;exact ⟨a,e,hf a ha⟩
theorem Df.and {x:Option α} {P P':α→Prop} (h:Df x P) (h':Df x P'):Df x fun y=>P y∧P' y:=by
 obtain ⟨a,e,ha⟩:=h;obtain ⟨b,e',hb⟩:=h';rw [e] at e';cases e';exact ⟨a,e,ha,hb⟩
theorem dB {b:Bool} {x y:Option α} (h1:b=true→Df x Q) (h2:b=false→Df y Q):Df (bif b then x else y) Q:=by
 cases b
 · exact h2 rfl
 · exact h1 rfl
theorem dH {b:Bool} {x y:Option α} (h1:b=false→Df x Q) (h2:b=true→Df y Q):Df (bif !b then x else y) Q:=by
 cases b
 · exact h1 rfl
 · exact h2 rfl
theorem dD {p:Prop} {dp:Decidable p} {x y:Option α} (h1:p→Df x Q) (h2:¬p→Df y Q):Df (bif decide p then x else y) Q:=by
 by_cases h:p
 · rw [decide_eq_true h];exact h1 h
 · rw [decide_eq_false h];exact h2 h
theorem dG {a b:Int} {x y:Option α} (h1:a=b→Df x Q) (h2:a≠b→Df y Q):Df (bif a==b then x else y) Q:=by
 by_cases h:a=b
 · rw [ibT h];exact h1 h
 · rw [ibF h];exact h2 h
class Rd (b:Bool) (p q:outParam Prop):Prop where
 t:b=true→p
 f:b=false→q
instance (priority := low) (b : Bool) : Rd b (b = true) (b = false) := ⟨id, id⟩
instance (b : Bool) : Rd (!b) (b = false) (b = true) := ⟨fun h => by cases b <;> simp_all, fun h => by cases b <;> simp_all⟩
instance (p : Prop) [Decidable p] : Rd (decide p) p (¬ p) := ⟨of_decide_eq_true, of_decide_eq_false⟩
instance (p : Prop) [Decidable p] : Rd (!decide p) (¬ p) p := ⟨fun h => by simpa using h, fun h => by simpa using h⟩
instance (p q : Prop) [Decidable p] [Decidable q] : Rd (decide p && decide q) (p ∧ q) (¬ (p ∧ q)) := ⟨fun h => by simpa using h, fun h => by simpa using h⟩
instance (a b : Int) : Rd (a == b) (a = b) (a ≠ b) := ⟨fun h => by simpa using h, fun h => by simpa using h⟩
instance (a b : Int) : Rd (a != b) (a ≠ b) (a = b) := ⟨fun h => by simpa using h, fun h => by simpa using h⟩
theorem dX {b:Bool} {p q:Prop} [r:Rd b p q] {x y:Option α} (h1:p→Df x Q) (h2:q→Df y Q):Df (bif b then x else y) Q:=by
 have h:b=true∨b=false:=by cases b<;>simp
 rcases h with h | h
 · rw [h];exact h1 (r.t h)
 · rw [h];exact h2 (r.f h)
theorem dS {f:β→Option α} {g:γ→Option α} {s:β⊕γ} {P:β→Prop} {P':γ→Prop} (hs:Sum.elim P P' s) (h1:∀a,P a→Df (f a) Q) (h2:∀b,P' b→Df (g b) Q):Df (Sum.elim f g s) Q:=by
 cases s with
 | inl a=>exact h1 a hs
 | inr b=>exact h2 b hs
theorem Df.loop {F:β→Option (β⊕α)} (I:β→Prop) (μ:β→Nat) (h:∀v,I v→Df (F v) (Sum.elim (fun v'=>I v'∧μ v'<μ v) Q)) (n:Nat) (v:β) (hv:I v) (hn:μ v<n):Df (qc F n v) Q:=by
 refine z9a I Q μ (fun v hv => ?_) n v hv hn;obtain ⟨y,e,hy⟩:=h v hv;cases y with
 | inl v'=>exact .inl ⟨v',e,hy.1,hy.2⟩
 | inr y=>exact .inr ⟨y,e,hy⟩
theorem dL {F:β→Option (β⊕α)} (I:β→Prop) (μ:β→Nat) (h:∀v,I v→Df (F v) (Sum.elim (fun v'=>I v'∧μ v'<μ v) Q)) (v:β) (hv:I v) (hn:μ v<1000000000000000000):Df (qc F je v) Q :=
 Df.loop I μ h je v hv (by unfold je;omega)
end
theorem v5d (n:Int):IntKind.i64.wrap n=(n+9223372036854775808)%18446744073709551616 - 9223372036854775808:=by rw [IntKind.wrap_i64]
theorem d0m (n:Int):IntKind.i32.wrap n=(n+2147483648)%4294967296 - 2147483648:=by
 simp [IntKind.wrap,IntKind.bits,IntKind.signed];split<;>omega
theorem f8k (n:Int):IntKind.u64.wrap n=n%18446744073709551616:=IntKind.wrap_u64 n
theorem qh {n:Int} (h : -9000000000000000000≤n∧n≤9000000000000000000):IntKind.i64.wrap n=n:=by rw [v5d];omega
theorem g4y {n:Int} (h : -2000000000≤n∧n≤2000000000):IntKind.i32.wrap n=n:=by rw [d0m];omega
theorem v2s {a b:Int} (ha:0≤a) (hb:0≤b) (h:a+b≤9000000000000000000):IntKind.i64.wrap ((IntKind.u64.wrap (IntKind.i64.wrap (a+b))).fdiv (2^min 1 IntKind.u64.bits))=(a+b)/2:=by
 rw [qh (n:=a+b) (by omega),f8k,show (2:Int)^min 1 IntKind.u64.bits=2 from rfl,Int.fdiv_eq_ediv_of_nonneg _ (by omega),qh (by omega)];omega
theorem z8i (s:List UInt8) (p:Nat):1≤(kw s p).2:=by
 unfold kw Utf8.decode;dsimp only;repeat' split
 all_goals (first | omega | (dsimp only;omega))
theorem k1h (x:Int):Df (xb (x,())) (fun y=>y.1=true→0≤x∧x≤1114111):=by
 show Df (x7y _) _;unfold x7y;dsimp only;with_reducible repeat' (first | apply dP | apply dX<;>intro _)
 all_goals (dsimp only;intro h';first | omega | cases h')
theorem f1v (x:Int):Df (yz (x,())) (fun y=>0≤y.1∧y.1≤4):=by
 show Df (z6z xb _) _;unfold z6z;dsimp only;refine dZ (k1h x) ?_;rintro ⟨b,u⟩ hb;dsimp only;with_reducible repeat' (first | apply dP | apply dX<;>intro _)
 all_goals (first | omega | (dsimp only;omega))
theorem g0c (x:Int) (b:Bool):Df (q1a (x,b,())) (Sum.elim (fun y=>0≤y.1∧y.1≤3) (fun _=>True)):=by
 show Df (q3p _) _;unfold q3p;dsimp only;with_reducible repeat' (first | apply dP | apply dX<;>intro _)
 all_goals (first | trivial | exact ⟨by first | omega | (dsimp only;omega),by first | omega | (dsimp only;omega)⟩)
theorem g0d (x:Int) (b:Bool):Df (q1b (x,b,())) (Sum.elim (fun y=>0≤y.1∧y.1≤3) (fun _=>True)):=by
 show Df (q3q q1a _) _;unfold q3q;dsimp only;with_reducible repeat' (first | apply dP | apply dX<;>intro _)
 all_goals (first | trivial | exact ⟨by first | omega | (dsimp only;omega),by first | omega | (dsimp only;omega)⟩ | (refine dZ (g0c _ _) ?_;intro s hs;exact dS hs (fun a ha=>dP ha) (fun _ _=>dP trivial)))
theorem f1u (x:Int):Df (vy (x,())) (fun y => -1≤y.1∧y.1≤3):=by
 show Df (x1z q1b _) _;unfold x1z;dsimp only;with_reducible repeat' (first | apply dP | apply dX<;>intro _)
 all_goals (first | (first | omega | (dsimp only;omega)) | (refine dZ (g0d _ _) ?_;intro s hs;exact dS hs (fun a ha=>dP ⟨by have:=ha.1;dsimp only;omega,ha.2⟩) (fun _ _=>dP (by first | omega | (dsimp only;omega)))))
theorem f2u (s:List UInt8) (n r at_ k:Int) (o:List Int) (h:0≤at_) (hn:0≤n∧n≤3) (hl:at_+n<s.length) (hk:at_+1≤k) (hb:s.length≤1000000000000) :
 Df (q2j (s,n,r,at_,k,o,())) (Sum.elim (fun y=>y.1=s∧y.2.1=n∧y.2.2.2.1=at_∧y.2.2.2.2.1=o) (fun y=>y.1=at_∧y.2.1=o)):=by
 refine dL ?I ?m ?h _ ?hv ?hn
 case I=>exact (fun v=>v.1=s∧v.2.1=n∧v.2.2.2.1=at_∧v.2.2.2.2.2.1=o∧at_+1≤v.2.2.2.2.1)
 case m=>exact (fun v=>(at_+n+1 - v.2.2.2.2.1).toNat)
 case hv=>exact ⟨rfl,rfl,rfl,rfl,hk⟩
 case hn=>exact (by first | omega | (dsimp only;omega))
 rintro ⟨x0,x1,x2,x3,x4,x5,u⟩ hI;dsimp only at hI;obtain ⟨rfl,rfl,rfl,rfl,hI⟩:=hI;unfold q2l;dsimp only;rw [qh (n:=x3+x1) (by omega)];with_reducible repeat' (first | apply dP | apply dX<;>intro _)
 · exact ⟨rfl,rfl⟩
 · rw [qh (by omega)]
   exact ⟨⟨rfl,rfl,rfl,rfl,by first | omega | (dsimp only;omega)⟩,by first | omega | (dsimp only;omega)⟩
 · refine dO ?_;omega
 · refine dO ?_;omega
 · exact ⟨rfl,rfl,rfl,rfl⟩
theorem d83 (s:List UInt8) (hb:s.length≤1000000000000):Df (C83 (s,())) (fun y=>y.1.length≤s.length∧(y.2.1 = -1∨0≤y.2.1∧y.2.1<s.length)∧(y.2.1<0→0<s.length→0<y.1.length)):=by
 show Df (F83 vy yz q2i q6b _) _;unfold F83;dsimp only;refine dZ (P:=Sum.elim (fun y=>y.1.length≤s.length∧(0<s.length→0<y.1.length)) (fun y=>y.2.1.length≤s.length∧0≤y.1∧y.1<s.length)) ?_ ?_
 · refine dL ?I ?m ?h _ ?hv ?hn
   case I=>exact (fun v=>v.1=s∧0≤v.2.1∧v.2.1≤s.length∧v.2.2.1.length≤v.2.1∧(0<v.2.1→0<v.2.2.1.length))
   case m=>exact (fun v=>(s.length - v.2.1).toNat)
   case hv=>exact ⟨rfl,by first | omega | (dsimp only;omega),by first | omega | (dsimp only;omega),by simp,by simp⟩
   case hn=>exact (by first | omega | (dsimp only;omega))
   rintro ⟨x0,x1,x2,u⟩ hI;dsimp only at hI;obtain ⟨rfl,h0,h1,h2,h2'⟩:=hI;unfold vo;dsimp only;with_reducible repeat' (first | apply dP | apply dX<;>intro _)
   · refine dZ (f1u _) ?_
     rintro ⟨n,r,u⟩ hn;dsimp only at hn ⊢;rw [qh (n:=(x0.length:Int) - x1) (by omega)];with_reducible repeat' (first | apply dP | apply dX<;>intro _)
     · exact ⟨by first | omega | (dsimp only;omega),by first | omega | (dsimp only;omega),by first | omega | (dsimp only;omega)⟩
     · exact ⟨by first | omega | (dsimp only;omega),by first | omega | (dsimp only;omega),by first | omega | (dsimp only;omega)⟩
     · rw [qh (n:=x1+1) (by omega)]
       refine dZ (f2u x0 n r x1 (x1+1) x2 h0 (by omega) (by omega) (by omega) hb) ?_;intro s hs;refine dS hs ?_ ?_
       · rintro ⟨a0,a1,a2,a3,a4,u⟩ ha
         dsimp only at ha ⊢;obtain ⟨rfl,rfl,rfl,rfl⟩:=ha;refine dZ (f1v _) ?_;rintro ⟨m,u⟩ hm;dsimp only at hm ⊢;with_reducible repeat' (first | apply dP | apply dX<;>intro _)
         · exact ⟨by first | omega | (dsimp only;omega),by first | omega | (dsimp only;omega),by first | omega | (dsimp only;omega)⟩
         · rw [qh (n:=a1+1) (by omega),qh (by omega)]
           exact ⟨⟨rfl,by first | omega | (dsimp only;omega),by first | omega | (dsimp only;omega),by simp only [List.length_append,List.length_cons,List.length_nil];omega,fun _=>by simp only [List.length_append,List.length_cons,List.length_nil];omega⟩,by first | omega | (dsimp only;omega)⟩
         · refine dO ?_
           simp only [List.length_cons,List.length_nil] at *
           omega
       · rintro ⟨a0,a1,u⟩ ha
         dsimp only at ha ⊢;obtain ⟨rfl,rfl⟩:=ha;exact dP ⟨by first | omega | (dsimp only;omega),by first | omega | (dsimp only;omega),by first | omega | (dsimp only;omega)⟩
   · refine dO ?_;omega
   · exact ⟨by first | omega | (dsimp only;omega),fun _=>h2' (by omega)⟩
 · intro r hr
   refine dS hr ?_ ?_
   · rintro ⟨a,u⟩ ha
     exact dP ⟨ha.1,.inl rfl,fun _=>ha.2⟩
   · rintro ⟨a,b,u⟩ ha
     exact dP ⟨ha.1,.inr ha.2,fun h=>by have:=ha.2.1;dsimp only at h this;omega⟩
theorem x4w (l:List Int) (hb:l.length≤20000000000000):Df (z1v (l,())) (fun y=>y.1.length≤4*l.length):=by
 show Df (x2c yz q7g _) _;unfold x2c;dsimp only;refine dZ (P:=Sum.elim (fun y=>y.1.length≤4*l.length) (fun y=>y.1.length≤4*l.length)) ?_ ?_
 · refine dL ?I ?m ?h _ ?hv ?hn
   case I=>exact (fun v=>v.1=l∧v.2.1=l.length∧0≤v.2.2.1∧v.2.2.1≤l.length∧v.2.2.2.1.length≤4*v.2.2.1)
   case m=>exact (fun v=>(l.length - v.2.2.1).toNat)
   case hv=>exact ⟨rfl,rfl,by first | omega | (dsimp only;omega),by first | omega | (dsimp only;omega),by simp⟩
   case hn=>exact (by first | omega | (dsimp only;omega))
   rintro ⟨x0,x1,x2,x3,u⟩ hI;dsimp only at hI;obtain ⟨rfl,rfl,h0,h1,h2⟩:=hI;unfold j4x;dsimp only;with_reducible repeat' (first | apply dP | apply dX<;>intro _)
   · refine dZ (f1v _) ?_
     rintro ⟨m,u⟩ hm;dsimp only at hm ⊢;rw [qh (n:=x2+1) (by omega)];with_reducible repeat' (first | apply dP | apply dX<;>intro _)
     all_goals first
      | exact (by simp:(([]:List UInt8).length≤4*x0.length))
      | exact ⟨⟨rfl,rfl,by first | omega | (dsimp only;omega),by first | omega | (dsimp only;omega),by simp only [List.length_append,List.length_cons,List.length_nil];omega⟩,by first | omega | (dsimp only;omega)⟩
      | (refine dO ?_;simp only [List.length_cons,List.length_nil] at *;omega)
   · refine dO ?_;omega
   · exact (by first | omega | (dsimp only;omega):x3.length≤4*x0.length)
 · intro r hr
   refine dS hr ?_ ?_
   · rintro ⟨a,u⟩ ha;exact dP ha
   · rintro ⟨a,b,u⟩ ha;exact dP ha
theorem d21 (s:List UInt8) (hb:s.length≤1000000000000000):Df (C21 (s,())) (fun y=>y.1<s.length∧(y.1<0→∀c∈s,c.toNat<128)):=by
 show Df (F21 z2f _) _;unfold F21;dsimp only;refine dZ (P:=Sum.elim (fun y=>∀c∈s,c.toNat<128) (fun y=>0≤y.1∧y.1<s.length)) ?_ ?_
 · refine dL ?I ?m ?h _ ?hv ?hn
   case I=>exact (fun v=>v.1=s∧v.2.1=s.length∧0≤v.2.2.1∧v.2.2.1≤s.length∧∀c∈s.take v.2.2.1.toNat,c.toNat<128)
   case m=>exact (fun v=>(s.length - v.2.2.1).toNat)
   case hv=>exact ⟨rfl,rfl,by first | omega | (dsimp only;omega),by first | omega | (dsimp only;omega),by simp⟩
   case hn=>exact (by first | omega | (dsimp only;omega))
   rintro ⟨x0,x1,x2,u⟩ hI;dsimp only at hI;obtain ⟨rfl,rfl,h0,h1,h2⟩:=hI;unfold y1i;dsimp only;with_reducible repeat' (first | apply dP | apply dX<;>intro _)
   · exact ⟨by first | omega | (dsimp only;omega),by first | omega | (dsimp only;omega)⟩
   · rename_i h3 h4 h5
     rw [qh (n:=x2+1) (by omega)];have hlt:x2.toNat<x0.length:=by omega
     refine ⟨⟨rfl,rfl,by first | omega | (dsimp only;omega),by first | omega | (dsimp only;omega),?_⟩,by first | omega | (dsimp only;omega)⟩;dsimp only;intro c hc;rw [show (x2+1).toNat=x2.toNat+1 by omega,ql hlt] at hc;rcases List.mem_append.1 hc with hc | hc
     · exact h2 c hc
     · rw [List.mem_singleton] at hc
       rw [getD_lt hlt] at h5;subst hc;omega
   · refine dO ?_;omega
   · intro c hc
     refine h2 c ?_;rw [List.take_of_length_le (by omega)];exact hc
 · intro r hr
   refine dS hr ?_ ?_
   · intro u hu;exact dP ⟨by first | omega | (dsimp only;omega),fun _=>hu⟩
   · rintro ⟨a,u⟩ ha;exact dP ⟨ha.2,fun h=>by have:=ha.1;dsimp only at h this;omega⟩
abbrev R6:=Int×Int×Int×Int×Int×Int
abbrev R4:=Int×Int×Int×Int
abbrev R3:=Int×Int×Int
theorem f2q (a b c d e f g:Int):Df (z6v (a,b,c,d,e,f,g,())) (fun _=>True):=by
 show Df (v7z _) _;unfold v7z;dsimp only;with_reducible repeat' (first | apply dP | apply dX<;>intro _)
 all_goals trivial
theorem b5l (T:List R6) (r:Int) (hT:T.length≤1000000000000):Df (x6m (T,r,())) (fun y=>0≤y.1∧(y.2.1=true→y.1<T.length)):=by
 show Df (v7y z6v j4m _) _;unfold v7y;dsimp only;refine dZ (P:=fun y=>y.1=T∧y.2.2.1=T.length∧0≤y.2.2.2.1∧y.2.2.2.1≤T.length) ?_ ?_
 · refine dL ?I ?m ?h _ ?hv ?hn
   case I=>exact (fun v=>v.1=T∧v.2.2.1=T.length∧0≤v.2.2.2.1∧v.2.2.2.1≤v.2.2.2.2.1∧v.2.2.2.2.1≤T.length)
   case m=>exact (fun v=>(v.2.2.2.2.1 - v.2.2.2.1).toNat)
   case hv=>exact ⟨rfl,rfl,by first | omega | (dsimp only;omega),by first | omega | (dsimp only;omega),by first | omega | (dsimp only;omega)⟩
   case hn=>exact (by first | omega | (dsimp only;omega))
   rintro ⟨x0,x1,x2,x3,x4,u⟩ hI;dsimp only at hI;obtain ⟨rfl,rfl,h0,h1,h2⟩:=hI;unfold z3r;dsimp only;rw [v2s (by omega) (by omega) (by omega)];with_reducible repeat' (first | apply dP | apply dX<;>intro _)
   · refine dZ (f2q _ _ _ _ _ _ _) ?_
     rintro ⟨m,u⟩ -
     dsimp only;rw [qh (n:=(x3+x4)/2+1) (by omega)];with_reducible repeat' (first | apply dP | apply dX<;>intro _)
     · exact ⟨⟨rfl,rfl,by first | omega | (dsimp only;omega),by first | omega | (dsimp only;omega),by first | omega | (dsimp only;omega)⟩,by first | omega | (dsimp only;omega)⟩
     · exact ⟨⟨rfl,rfl,by first | omega | (dsimp only;omega),by first | omega | (dsimp only;omega),by first | omega | (dsimp only;omega)⟩,by first | omega | (dsimp only;omega)⟩
   · refine dO ?_;omega
   · exact ⟨rfl,rfl,by first | omega | (dsimp only;omega),by first | omega | (dsimp only;omega)⟩
 · rintro ⟨x0,x1,x2,x3,u⟩ hI
   dsimp only at hI ⊢;obtain ⟨rfl,rfl,h0,h1⟩:=hI;with_reducible repeat' (first | apply dP | apply dX<;>intro _)
   · refine dZ (f2q _ _ _ _ _ _ _) ?_
     rintro ⟨m,u⟩ -
     exact dP ⟨by first | omega | (dsimp only;omega),fun _=>by first | omega | (dsimp only;omega)⟩
   · refine dO ?_;omega
   · exact ⟨by first | omega | (dsimp only;omega),fun h=>by cases h⟩
theorem k1i (T:List R6) (A:List R4) (B:List R3) (r:Int) (hT:T.length≤1000000000000):Df (q7o (T,A,B,r,())) (fun y=>y.2.2.2.1=0∨∃e∈T,y.2.2.2.1=e.2.2.2.1):=by
 show Df (v7f x6m _) _;unfold v7f;dsimp only;refine dZ (b5l T r hT) ?_;rintro ⟨i,b,u⟩ h;dsimp only at h ⊢;with_reducible repeat' (first | apply dP | apply dX<;>intro _)
 · exact .inl rfl
 · rename_i h1
   have hlt:i.toNat<T.length:=by omega
   refine .inr ⟨T[i.toNat],List.getElem_mem hlt,?_⟩;dsimp only;rw [getD_lt hlt]
 · rename_i h1 h2
   have:=h.2 h1;refine dO ?_;omega
def TOk (T:List R6):Prop:=T.length≤1000000000000∧∀e∈T,0≤e.2.2.2.1∧e.2.2.2.1<8
theorem g0k (T:List R6) (A:List R4) (B:List R3) (r:Int) (hT:TOk T):Df (q5y (T,A,B,r,())) (fun y=>0≤y.1∧y.1<8):=by
 show Df (v6t q7o _) _;unfold v6t;dsimp only;refine dZ (k1i T A B r hT.1) ?_;rintro ⟨a,b,c,d,e,f,u⟩ h;dsimp only at h ⊢;refine dP ?_;rcases h with rfl | ⟨e,he,rfl⟩
 · exact ⟨by decide,by decide⟩
 · exact hT.2 e he
theorem f2d (T:List R6) (A:List R4) (B:List R3) (r:Int) (hT:TOk T):Df (j3k (T,A,B,r,())) (fun _=>True):=by
 show Df (v6r q7o _) _;unfold v6r;dsimp only;exact dZ (k1i T A B r hT.1) fun _ _=>dP trivial
theorem b5w (T:List R6) (A:List R4) (B:List R3) (r:Int) (hT:TOk T):Df (z6y (T,A,B,r,())) (fun _=>True):=by
 show Df (v8n q7o _) _;unfold v8n;dsimp only;exact dZ (k1i T A B r hT.1) fun _ _=>dP trivial
theorem g1e (T:List R6) (A:List R4) (B:List R3) (r:Int) (hT:TOk T):Df (j6y (T,A,B,r,())) (fun _=>True):=by
 show Df (v8k q7o _) _;unfold v8k;dsimp only;exact dZ (k1i T A B r hT.1) fun _ _=>dP trivial
theorem b5p (a b c d e:Int):Df (z6w (a,b,c,d,e,())) (fun _=>True):=by
 show Df (v8e _) _;unfold v8e;dsimp only;with_reducible repeat' (first | apply dP | apply dX<;>intro _)
 all_goals trivial
theorem b5o (A:List R4) (r:Int) (hA:A.length≤1000000000000):Df (x6p (A,r,())) (fun y=>y.1<A.length):=by
 show Df (v8d z6w j4n _) _;unfold v8d;dsimp only;refine dZ (P:=Sum.elim (fun _=>True) (fun y=>y.1<A.length)) ?_ ?_
 · refine dL ?I ?m ?h _ ?hv ?hn
   case I=>exact (fun v=>v.1=A∧v.2.1=A.length∧0≤v.2.2.1∧v.2.2.1≤A.length)
   case m=>exact (fun v=>(A.length - v.2.2.1).toNat)
   case hv=>exact ⟨rfl,rfl,by first | omega | (dsimp only;omega),by first | omega | (dsimp only;omega)⟩
   case hn=>exact (by first | omega | (dsimp only;omega))
   rintro ⟨x0,x1,x2,x3,u⟩ hI;dsimp only at hI;obtain ⟨rfl,rfl,h0,h1⟩:=hI;unfold z3u;dsimp only;with_reducible repeat' (first | apply dP | apply dX<;>intro _)
   · refine dZ (b5p _ _ _ _ _) ?_
     rintro ⟨m,m',u⟩ -
     dsimp only;rw [qh (n:=x2+1) (by omega)];with_reducible repeat' (first | apply dP | apply dX<;>intro _)
     · exact (by first | omega | (dsimp only;omega):x2<x0.length)
     · exact ⟨⟨rfl,rfl,by first | omega | (dsimp only;omega),by first | omega | (dsimp only;omega)⟩,by first | omega | (dsimp only;omega)⟩
   · refine dO ?_;omega
   · trivial
 · intro s hs
   refine dS hs ?_ ?_
   · rintro ⟨a,u⟩ -
     exact dP (by first | omega | (dsimp only;omega))
   · rintro ⟨a,b,u⟩ h
     exact dP h
theorem v0j (T:List R6) (A:List R4) (B:List R3) (r:Int) (hA:A.length≤1000000000000):Df (xc (T,A,B,r,())) (fun _=>True):=by
 show Df (v7o x6p _) _;unfold v7o;dsimp only;refine dZ (b5o A r hA) ?_;rintro ⟨i,b,u⟩ h;dsimp only at h ⊢;with_reducible repeat' (first | apply dP | apply dX<;>intro _)
 all_goals first | trivial | (refine dO ?_;omega)
theorem b4j (a b c d:Int):Df (z6s (a,b,c,d,())) (fun _=>True):=by
 show Df (v6y _) _;unfold v6y;dsimp only;with_reducible repeat' (first | apply dP | apply dX<;>intro _)
 all_goals trivial
theorem b4i (A:List R3) (r:Int) (hA:A.length≤1000000000000):Df (x6c (A,r,())) (fun y=>y.1<A.length):=by
 show Df (v6x z6s j4h _) _;unfold v6x;dsimp only;refine dZ (P:=Sum.elim (fun _=>True) (fun y=>y.1<A.length)) ?_ ?_
 · refine dL ?I ?m ?h _ ?hv ?hn
   case I=>exact (fun v=>v.1=A∧v.2.1=A.length∧0≤v.2.2.1∧v.2.2.1≤A.length)
   case m=>exact (fun v=>(A.length - v.2.2.1).toNat)
   case hv=>exact ⟨rfl,rfl,by first | omega | (dsimp only;omega),by first | omega | (dsimp only;omega)⟩
   case hn=>exact (by first | omega | (dsimp only;omega))
   rintro ⟨x0,x1,x2,x3,u⟩ hI;dsimp only at hI;obtain ⟨rfl,rfl,h0,h1⟩:=hI;unfold z3g;dsimp only;with_reducible repeat' (first | apply dP | apply dX<;>intro _)
   · refine dZ (b4j _ _ _ _) ?_
     rintro ⟨m,m',u⟩ -
     dsimp only;rw [qh (n:=x2+1) (by omega)];with_reducible repeat' (first | apply dP | apply dX<;>intro _)
     · exact (by first | omega | (dsimp only;omega):x2<x0.length)
     · exact ⟨⟨rfl,rfl,by first | omega | (dsimp only;omega),by first | omega | (dsimp only;omega)⟩,by first | omega | (dsimp only;omega)⟩
   · refine dO ?_;omega
   · trivial
 · intro s hs
   refine dS hs ?_ ?_
   · rintro ⟨a,u⟩ -
     exact dP (by first | omega | (dsimp only;omega))
   · rintro ⟨a,b,u⟩ h
     exact dP h
theorem b4c (T:List R6) (A:List R4) (B:List R3) (r:Int) (hB:B.length≤1000000000000):Df (j1q (T,A,B,r,())) (fun _=>True):=by
 show Df (v6o x6c _) _;unfold v6o;dsimp only;refine dZ (b4i B r hB) ?_;rintro ⟨i,b,u⟩ h;dsimp only at h ⊢;with_reducible repeat' (first | apply dP | apply dX<;>intro _)
 all_goals first | trivial | (refine dO ?_;omega)
theorem f2e (T:List R6) (A:List R4) (B:List R3) (r:Int):Df (zl (T,A,B,r,())) (fun _=>True):=by
 unfold zl;dsimp only;with_reducible repeat' (first | apply dP | apply dX<;>intro _)
 · trivial
 · cases q1t r with
   | none=>exact dP trivial
   | some s=>exact dP trivial
theorem b4d (T:List R6) (A:List R4) (B:List R3) (r:Int):Df (j9d (T,A,B,r,())) (fun _=>True):=by
 show Df (x2f zl _) _;unfold x2f;dsimp only;with_reducible repeat' (first | apply dP | apply dX<;>intro _)
 all_goals first | trivial | exact dZ (f2e T A B r) fun _ _=>dP trivial
theorem b4b (T:List R6) (A:List R4) (B:List R3) (l:List Int) (hl:l.length≤1000000000000):Df (x1k (l,T,A,B,())) (fun y=>y.1.length=l.length):=by
 show Df (x2e j9d q7i _) _;unfold x2e;dsimp only;refine dZ (P:=fun y=>y.1.length=l.length) ?_ (fun _ h=>dP h);refine dL ?I ?m ?h _ ?hv ?hn
 case I=>exact (fun v=>v.2.2.2.1=l∧v.2.2.2.2.1=l.length∧0≤v.2.2.2.2.2.1∧v.2.2.2.2.2.1≤l.length∧v.2.2.2.2.2.2.1.length=v.2.2.2.2.2.1)
 case m=>exact (fun v=>(l.length - v.2.2.2.2.2.1).toNat)
 case hv=>exact ⟨rfl,rfl,by first | omega | (dsimp only;omega),by first | omega | (dsimp only;omega),rfl⟩
 case hn=>exact (by first | omega | (dsimp only;omega))
 rintro ⟨x0,x1,x2,x3,x4,x5,x6,u⟩ hI;dsimp only at hI;obtain ⟨rfl,rfl,h0,h1,h2⟩:=hI;unfold j4z;dsimp only;with_reducible repeat' (first | apply dP | apply dX<;>intro _)
 · refine dZ (b4d _ _ _ _) ?_
   rintro ⟨m,u⟩ -
   dsimp only;rw [qh (n:=x5+1) (by omega)];with_reducible repeat' (first | apply dP | apply dX<;>intro _)
   · exact ⟨⟨rfl,rfl,by first | omega | (dsimp only;omega),by first | omega | (dsimp only;omega),by simp only [List.length_append,List.length_cons,List.length_nil];omega⟩,by first | omega | (dsimp only;omega)⟩
   · refine dO ?_;simp only [List.length_cons,List.length_nil] at *;omega
 · refine dO ?_;omega
 · exact (by first | omega | (dsimp only;omega):x6.length=x3.length)
theorem g0j (T:List R6) (A:List R4) (B:List R3) (hB:B.length≤1000000000000) (l:List Int) (hl:l.length≤1000000000000):Df (j1p (l,T,A,B,())) (fun y=>y.1.length=l.length):=by
 show Df (j1u j1q q0m _) _;unfold j1u;dsimp only;refine dZ (P:=fun y=>y.1.length=l.length) ?_ (fun _ h=>dP h);refine dL ?I ?m ?h _ ?hv ?hn
 case I=>exact (fun v=>v.2.2.1=B∧v.2.2.2.1=l∧v.2.2.2.2.1=l.length∧0≤v.2.2.2.2.2.1∧v.2.2.2.2.2.1≤l.length∧v.2.2.2.2.2.2.1.length=v.2.2.2.2.2.1)
 case m=>exact (fun v=>(l.length - v.2.2.2.2.2.1).toNat)
 case hv=>exact ⟨rfl,rfl,rfl,by first | omega | (dsimp only;omega),by first | omega | (dsimp only;omega),rfl⟩
 case hn=>exact (by first | omega | (dsimp only;omega))
 rintro ⟨x0,x1,x2,x3,x4,x5,x6,u⟩ hI;dsimp only at hI;obtain ⟨rfl,rfl,rfl,h0,h1,h2⟩:=hI;unfold q3t;dsimp only;with_reducible repeat' (first | apply dP | apply dX<;>intro _)
 · refine dZ (b4c _ _ _ _ hB) ?_
   rintro ⟨m,u⟩ -
   dsimp only;rw [qh (n:=x5+1) (by omega)];with_reducible repeat' (first | apply dP | apply dX<;>intro _)
   · exact ⟨⟨rfl,rfl,rfl,by first | omega | (dsimp only;omega),by first | omega | (dsimp only;omega),by simp only [List.length_append,List.length_cons,List.length_nil];omega⟩,by first | omega | (dsimp only;omega)⟩
   · refine dO ?_;simp only [List.length_cons,List.length_nil] at *;omega
 · refine dO ?_;omega
 · exact (by first | omega | (dsimp only;omega):x6.length=x3.length)
theorem f2a (T:List R6) (A:List R4) (B:List R3) (l:List Int) (hl:l.length≤1000000000000):Df (x1i (T,A,B,l,())) (fun y=>y.1.length=l.length):=by
 show Df (x8a x1k _) _;unfold x8a;dsimp only;exact dZ (b4b T A B l hl) fun _ h=>dP h
theorem f1z (T:List R6) (A:List R4) (B:List R3) (hB:B.length≤1000000000000) (l:List Int) (hl:l.length≤1000000000000):Df (x1h (T,A,B,l,())) (fun y=>y.1.length=l.length):=by
 show Df (x7z j1p _) _;unfold x7z;dsimp only;exact dZ (g0j T A B hB l hl) fun _ h=>dP h
theorem v0n (a b c:Int):Df (zz (a,b,c,())) (fun _=>True):=by
 show Df (z7a _) _;unfold z7a;dsimp only;with_reducible repeat' (first | apply dP | apply dX<;>intro _)
 all_goals trivial
theorem b5r (a:Int):Df (vm (a,())) (fun y=>y.1.length≤3):=by
 show Df (v8g _) _;unfold v8g;dsimp only;with_reducible repeat' (first | apply dP | apply dX<;>intro _)
 all_goals (dsimp only;simp)
theorem b5s (a b:List Int) (ha:a.length≤1000000) (hb:b.length≤1000000):Df (vh ([a,b],())) (fun y=>y.1.length=a.length+b.length):=by
 show Df (v8h j9g j4o j4p _) _;unfold v8h;dsimp only;refine dZ (P:=fun y=>y.1=[a,b]∧0≤y.2.1∧y.2.1≤2000000) ?_ ?_
 · refine dL ?I ?m ?h _ ?hv ?hn
   case I=>exact (fun v=>v.1=[a,b]∧v.2.2.1=[a,b]∧v.2.2.2.1=2∧((v.2.2.2.2.1=0∧v.2.1=0)∨(v.2.2.2.2.1=1∧v.2.1=a.length)∨(v.2.2.2.2.1=2∧v.2.1=a.length+b.length)))
   case m=>exact (fun v=>(2 - v.2.2.2.2.1).toNat)
   case hv=>exact ⟨rfl,rfl,rfl,.inl ⟨rfl,rfl⟩⟩
   case hn=>exact (by first | omega | (dsimp only;omega))
   rintro ⟨x0,x1,x2,x3,x4,u⟩ hI;dsimp only at hI;obtain ⟨rfl,rfl,rfl,hI⟩:=hI;unfold z3v;dsimp only;rcases hI with ⟨rfl,rfl⟩ | ⟨rfl,rfl⟩ | ⟨rfl,rfl⟩
   · have e:([a,b]:List (List Int)).getD (0:Int).toNat []=a:=rfl
     rw [e,qh (n:=0+(a.length:Int)) (by omega),qh (n:=(0:Int)+1) (by omega)];with_reducible repeat' (first | apply dP | apply dX<;>intro _)
     all_goals first
      | exact ⟨⟨rfl,rfl,rfl,.inr (.inl ⟨rfl,by first | omega | (dsimp only;omega)⟩)⟩,by first | omega | (dsimp only;omega)⟩
      | (refine dO ?_;simp only [List.length_cons,List.length_nil] at *;omega)
      | (exfalso;omega)
   · have e:([a,b]:List (List Int)).getD (1:Int).toNat []=b:=rfl
     rw [e,qh (n:=(a.length:Int)+(b.length:Int)) (by omega),qh (n:=(1:Int)+1) (by omega)];with_reducible repeat' (first | apply dP | apply dX<;>intro _)
     all_goals first
      | exact ⟨⟨rfl,rfl,rfl,.inr (.inr ⟨rfl,rfl⟩)⟩,by first | omega | (dsimp only;omega)⟩
      | (refine dO ?_;simp only [List.length_cons,List.length_nil] at *;omega)
      | (exfalso;omega)
   · with_reducible repeat' (first | apply dP | apply dX<;>intro _)
     all_goals first
      | exact ⟨rfl,by first | omega | (dsimp only;omega),by first | omega | (dsimp only;omega)⟩
      | (refine dO ?_;simp only [List.length_cons,List.length_nil] at *;omega)
      | (exfalso;omega)
 · rintro ⟨x0,x1,u⟩ hI
   dsimp only at hI ⊢;obtain ⟨rfl,h0,h1⟩:=hI;refine dZ (P:=fun y=>y.1=[]) ?_ ?_
   · unfold j9g
     dsimp only;with_reducible repeat' (first | apply dP | apply dX<;>intro _)
     · rfl
     · refine dO ?_;omega
   rintro ⟨x2,u⟩ hx;dsimp only at hx ⊢;subst hx;refine dZ (P:=fun y=>y.1.length=a.length+b.length) ?_ (fun _ h=>dP h);refine dL ?I ?m ?h _ ?hv ?hn
   case I=>exact (fun v=>v.1=[a,b]∧v.2.1=2∧((v.2.2.1=0∧v.2.2.2.1.length=0)∨(v.2.2.1=1∧v.2.2.2.1.length=a.length)∨(v.2.2.1=2∧v.2.2.2.1.length=a.length+b.length)))
   case m=>exact (fun v=>(2 - v.2.2.1).toNat)
   case hv=>exact ⟨rfl,rfl,.inl ⟨rfl,rfl⟩⟩
   case hn=>exact (by first | omega | (dsimp only;omega))
   rintro ⟨x0,x1,x2,x3,u⟩ hI;dsimp only at hI;obtain ⟨rfl,rfl,hI⟩:=hI;unfold z3w;dsimp only;rcases hI with ⟨rfl,hx⟩ | ⟨rfl,hx⟩ | ⟨rfl,hx⟩
   · have e:([a,b]:List (List Int)).getD (0:Int).toNat []=a:=rfl
     rw [e,qh (n:=(0:Int)+1) (by omega)];with_reducible repeat' (first | apply dP | apply dX<;>intro _)
     all_goals first
      | exact ⟨⟨rfl,rfl,.inr (.inl ⟨rfl,by simp only [List.length_append];omega⟩)⟩,by first | omega | (dsimp only;omega)⟩
      | (refine dO ?_;simp only [List.length_cons,List.length_nil] at *;omega)
      | (exfalso;omega)
   · have e:([a,b]:List (List Int)).getD (1:Int).toNat []=b:=rfl
     rw [e,qh (n:=(1:Int)+1) (by omega)];with_reducible repeat' (first | apply dP | apply dX<;>intro _)
     all_goals first
      | exact ⟨⟨rfl,rfl,.inr (.inr ⟨rfl,by simp only [List.length_append];omega⟩)⟩,by first | omega | (dsimp only;omega)⟩
      | (refine dO ?_;simp only [List.length_cons,List.length_nil] at *;omega)
      | (exfalso;omega)
   · with_reducible repeat' (first | apply dP | apply dX<;>intro _)
     all_goals first
      | exact hx
      | (refine dO ?_;simp only [List.length_cons,List.length_nil] at *;omega)
      | (exfalso;omega)
def nxt (r:Int):Option (Int×Int):=bif decide (65281≤r)&&decide (r≤65374) then some (r - 65248,0) else (q1t r).map fun s=>(s.2.1,s.2.2.1)
def dep:Nat→Int→Bool
 | 0,_=>false
 | n+1,r=>match nxt r with
  | none=>true
  | some (a,b)=>dep n a&&(b==0||dep n b)
theorem g1n:((List.range 94).all fun n=>dep 4 ((33+n:Nat):Int))=true:=by kernel_rfl
theorem g1o:(qw.all fun s=>dep 4 s.2.1&&(s.2.2.1==0||dep 4 s.2.2.1))=true:=by kernel_rfl
theorem k1n (r:Int):dep 5 r=true:=by
 unfold dep;cases h:nxt r with
 | none=>rfl
 | some p =>
  obtain ⟨a,b⟩:=p;dsimp only;unfold nxt at h;by_cases hw:65281≤r∧r≤65374
  · rw [decide_eq_true hw.1,decide_eq_true hw.2] at h
    simp only [Bool.and_self,cond_true,Option.some.injEq,Prod.mk.injEq] at h;obtain ⟨rfl,rfl⟩:=h;have:=List.all_eq_true.1 g1n (r - 65281).toNat (List.mem_range.2 (by omega))
    rw [show (((33+(r - 65281).toNat:Nat)):Int)=r - 65248 by omega] at this;rw [this];rfl
  · have e:(decide (65281≤r)&&decide (r≤65374))=false:=by simp;omega
    rw [e] at h;simp only [cond_false,Option.map_eq_some_iff] at h;obtain ⟨s,hs,he⟩:=h;have hm:s∈qw:=List.mem_of_find?_eq_some hs;have:=List.all_eq_true.1 g1o s hm;cases he;exact this
theorem f1p (T:List R6) (A:List R4) (B:List R3) (r:Int):Df (zl (T,A,B,r,())) (fun v=>v.2.2.2.2.2.1=false∨nxt r=some (v.2.1,v.2.2.1)):=by
 unfold zl nxt;dsimp only;with_reducible repeat' (first | apply dP | apply dX<;>intro _)
 · rename_i h
   refine .inr ?_;rw [decide_eq_true h.1,decide_eq_true h.2];rfl
 · rename_i h
   have e:(decide (65281≤r)&&decide (r≤65374))=false:=by simp;omega
   rw [e];cases q1t r with
   | none=>exact dP (.inl rfl)
   | some s=>exact dP (.inr rfl)
theorem v0k (G:q6f) (r:Int) (sf b:Bool) (T:List R6) (A:List R4) (B:List R3) (v0 a c:Int) (s o:Bool) (K:Nat) (hK:1≤K)
 (ha:b=false→c=0→Df (G (T,A,B,a,sf,())) (fun y=>y.1.length≤K)) :
 Df (yh zl G zz vm vh (r,sf,b,T,A,B,v0,a,c,s,o,())) (Sum.elim (fun y=>y.1.length≤K) (fun y=>y=(sf,T,A,B,v0,a,c,s,o,())∧b=false∧c≠0)):=by
 unfold yh;dsimp only;with_reducible repeat' (first | apply dP | apply dX<;>intro _)
 · exact (by simpa using hK:([r]:List Int).length≤K)
 · rename_i h1 h2
   exact dZ (ha h1 h2) fun y hy=>dP hy
 · rename_i h1 h2
   exact ⟨rfl,h1,h2⟩
theorem w4s (T:List R6) (A:List R4) (B:List R3):∀(n m:Nat) (r:Int) (sf:Bool),dep n r=true→n≤9 →
 Df (q0v (fun G=>j1v zl G zz vm vh (yh zl G zz vm vh)) (n+m) (T,A,B,r,sf,())) (fun y=>y.1.length≤3*2^n)
 | 0,m,r,sf,h,hn=>by cases h
 | n+1,m,r,sf,h,hn=>by
  rw [show n+1+m=(n+m)+1 by omega];show Df (j1v zl (q0v (fun G=>j1v zl G zz vm vh (yh zl G zz vm vh)) (n+m)) zz vm vh (yh zl (q0v (fun G=>j1v zl G zz vm vh (yh zl G zz vm vh)) (n+m)) zz vm vh) (T,A,B,r,sf,())) _;have ih:=w4s T A B n m;generalize q0v (fun G=>j1v zl G zz vm vh (yh zl G zz vm vh)) (n+m)=G at ih ⊢;have hp:3*2^n≤3*2^9:=Nat.mul_le_mul_left 3 (Nat.pow_le_pow_right (by omega) (by omega));have hp1:1≤2^n:=Nat.one_le_two_pow;have hp2:3*2^(n+1)=3*2^n+3*2^n:=by rw [Nat.pow_succ];omega
  generalize 3*2^n=K at ih hp hp2;have hK:3≤K∨True := .inr trivial;rw [hp2];have hK3:3≤K+K:=by
   have:3*2^1≤3*2^(n+1):=Nat.mul_le_mul_left 3 (Nat.pow_le_pow_right (by omega) (by omega));omega
  have ih':∀(r:Int) (sf:Bool),dep n r=true→Df (G (T,A,B,r,sf,())) (fun y=>y.1.length≤K):=fun r sf h=>ih r sf h (by omega);clear ih;unfold j1v;dsimp only;refine dZ (f1p T A B r) ?_;rintro ⟨v0,a,c,s,o,is,u⟩ hv;dsimp only at hv ⊢;refine dZ (v0n _ _ _) ?_;rintro ⟨b,u⟩ -
  dsimp only;have two:is=true→c≠0→∀sf,Df ((G (T,A,B,a,sf,())).bind fun val_2=>(G (T,A,B,c,sf,())).bind fun val=>(vh ([val_2.fst,val.fst],())).bind fun val=>some (val.fst,())) (fun y=>y.1.length≤K+K):=by
   intro his hc sf;rcases hv with rfl | hv
   · cases his
   · unfold dep at h
     rw [hv] at h;simp only [Bool.and_eq_true,Bool.or_eq_true,beq_iff_eq] at h;refine dZ (ih' a sf h.1) ?_;rintro ⟨p,u⟩ hp';refine dZ (ih' c sf (h.2.resolve_left hc)) ?_;rintro ⟨q,u⟩ hq;dsimp only at hp' hq ⊢;refine dZ (b5s p q (by omega) (by omega)) ?_;rintro ⟨z,u⟩ hz;exact dP (by dsimp only at hz ⊢;omega)
  have one:is=true→Df (G (T,A,B,a,sf,())) (fun y=>y.1.length≤K+K):=by
   intro his;rcases hv with rfl | hv
   · cases his
   · unfold dep at h
     rw [hv] at h;simp only [Bool.and_eq_true] at h;exact (ih' a sf h.1).mono fun _ h=>by omega
  with_reducible repeat' (first | apply dP | apply dX<;>intro _)
  · refine dZ (b5r _) ?_
    rintro ⟨l,u⟩ hl;exact dP (by dsimp only at hl ⊢;omega)
  · refine dZ (v0k G r sf true T A B v0 a c s o (K+K) (by omega) (fun h=>by cases h)) ?_
    intro z hz;refine dS hz (fun y hy=>dP hy) ?_;rintro y ⟨-,h,-⟩;cases h
  · rename_i h1 h2 h3
    refine dZ (v0k G r sf (!sf) T A B v0 a c s o (K+K) (by omega) (fun _ _=>one h2)) ?_;intro z hz;refine dS hz (fun y hy=>dP hy) ?_;rintro y ⟨rfl,-,hc⟩;exact two h2 hc sf
  · rename_i h1 h2 h3
    refine dZ (v0k G r sf false T A B v0 a c s o (K+K) (by omega) (fun _ _=>one h2)) ?_;intro z hz;refine dS hz (fun y hy=>dP hy) ?_;rintro y ⟨rfl,-,hc⟩;exact two h2 hc sf
theorem b5d (T:List R6) (A:List R4) (B:List R3) (r:Int) (sf:Bool):Df (j9f (T,A,B,r,sf,())) (fun y=>y.1.length≤96):=by
 obtain ⟨m,hm⟩:∃m,je=5+m:=⟨je - 5,by unfold je;omega⟩
 show Df (q0v (fun G=>j1v zl G zz vm vh (yh zl G zz vm vh)) je _) _;rw [hm];exact w4s T A B 5 m r sf (k1n r) (by omega)
theorem f2i (T:List R6) (A:List R4) (B:List R3) (l:List Int) (sf:Bool) (hl:l.length≤100000000000):Df (x6d (T,A,B,l,sf,())) (fun y=>y.1.length≤96*l.length):=by
 show Df (x2g j9f q7m _) _;unfold x2g;dsimp only;refine dZ (P:=fun y=>y.1.length≤96*l.length) ?_ (fun _ h=>dP h);refine dL ?I ?m ?h _ ?hv ?hn
 case I=>exact (fun v=>v.2.1=l∧v.2.2.1=l.length∧0≤v.2.2.2.1∧v.2.2.2.1≤l.length∧v.2.2.2.2.2.2.2.1.length≤96*v.2.2.2.1)
 case m=>exact (fun v=>(l.length - v.2.2.2.1).toNat)
 case hv=>exact ⟨rfl,rfl,by first | omega | (dsimp only;omega),by first | omega | (dsimp only;omega),by simp⟩
 case hn=>exact (by first | omega | (dsimp only;omega))
 rintro ⟨x0,x1,x2,x3,x4,x5,x6,x7,u⟩ hI;dsimp only at hI;obtain ⟨rfl,rfl,h0,h1,h2⟩:=hI;unfold j5f;dsimp only;with_reducible repeat' (first | apply dP | apply dX<;>intro _)
 · refine dZ (b5d _ _ _ _ _) ?_
   rintro ⟨z,u⟩ hz;dsimp only at hz ⊢;rw [qh (n:=x3+1) (by omega)];with_reducible repeat' (first | apply dP | apply dX<;>intro _)
   · exact ⟨⟨rfl,rfl,by first | omega | (dsimp only;omega),by first | omega | (dsimp only;omega),by simp only [List.length_append];omega⟩,by first | omega | (dsimp only;omega)⟩
   · refine dO ?_;omega
 · refine dO ?_;omega
 · exact (by first | omega | (dsimp only;omega):x7.length≤96*x1.length)
theorem b5t (T:List R6) (A:List R4) (B:List R3) (a b:Int):Df (q2h (T,A,B,a,b,())) (fun _=>True):=by
 unfold q2h;dsimp only;cases j8s a b with
 | none=>exact dP trivial
 | some s=>exact dP trivial
theorem g0x (a b:Int) (f:Bool) (T:List R6) (A:List R4) (B:List R3):Df (ka (a,b,f,T,A,B,())) (fun _=>True):=by
 show Df (q3v zz q2h _) _;unfold q3v;dsimp only;with_reducible repeat' (first | apply dP | apply dX<;>intro _)
 · trivial
 · refine dZ (v0n _ _ _) ?_
   rintro ⟨z,u⟩ -
   dsimp only;with_reducible repeat' (first | apply dP | apply dX<;>intro _)
   · refine dZ (v0n _ _ _) ?_
     rintro ⟨z,u⟩ -
     dsimp only;with_reducible repeat' (first | apply dP | apply dX<;>intro _)
     all_goals trivial
   all_goals trivial
theorem b5e (T:List R6) (A:List R4) (B:List R3) (a b:Int):Df (q7v (T,A,B,a,b,())) (fun _=>True):=by
 show Df (x2j zz q2h ka _) _;unfold x2j;dsimp only;have za:∀f,Df ((ka (a,b,f,T,A,B,())).bind fun val=>Sum.elim (fun val=>some (val.fst,val.snd.fst,())) (fun val=>(q2h (val.snd.snd.fst,val.snd.snd.snd.fst,val.snd.snd.snd.snd.fst,val.fst,val.snd.fst,())).bind fun val=>some (val.fst,val.snd.fst,())) val) (fun _=>True):=by
  intro f;refine dZ (g0x a b f T A B) ?_;intro z hz;cases z with
  | inl y=>exact dP trivial
  | inr y=>exact dZ (b5t _ _ _ _ _) fun _ _=>dP trivial
 refine dZ (v0n _ _ _) ?_;rintro ⟨z,u⟩ -
 dsimp only;with_reducible repeat' (first | apply dP | apply dX<;>intro _)
 · refine dZ (v0n _ _ _) ?_
   rintro ⟨z,u⟩ -
   exact za _
 · exact za _
theorem g0r (x0 x1 x2 x3:Int) (x4:List Int) (x5 x6:Int) (x7:Bool) (x8:List R6) (x9:List R4) (x10:List R3) (x11:List Int) (h:x7=true→0≤x0∧x0<x11.length) :
 Df (q1e (x0,x1,x2,x3,x4,x5,x6,x7,x8,x9,x10,x11,())) (Sum.elim (fun y=>∃l',l'.length=x11.length∧y=(x0,x1,x4,x5,x6,x8,x9,x10,l',())) (fun y=>y=(x0,x1,x2,x3,x4,x5,x6,x8,x9,x10,x11,()))):=by
 show Df (q3u xc q7v _) _;unfold q3u;dsimp only;with_reducible repeat' (first | apply dP | apply dX<;>intro _)
 · refine dZ (b5e _ _ _ _ _) ?_
   rintro ⟨a,b,u⟩ -
   dsimp only;with_reducible repeat' (first | apply dP | apply dX<;>intro _)
   · exact ⟨_,List.length_set,rfl⟩
   · rename_i h1 h2 h3 h4
     exact absurd h2 h4
   · exact rfl
 · rename_i h1 h2
   exact dO (h2 (h h1))
 · exact rfl
theorem f2j (T:List R6) (A:List R4) (B:List R3) (l:List Int) (hl:l.length≤10000000000000) (hA:A.length≤1000000000000):Df (x6e (T,A,B,l,())) (fun y=>y.1.length≤l.length):=by
 show Df (x2h xc q7v q7n _) _;unfold x2h;dsimp only;refine dZ (P:=fun y=>y.1.length≤l.length) ?_ (fun _ h=>dP h);refine dL ?I ?m ?h _ ?hv ?hn
 case I=>exact (fun v=>v.2.2.1=l∧v.2.2.2.1=l.length∧0≤v.2.2.2.2.1∧v.2.2.2.2.1≤l.length∧v.2.2.2.2.2.2.1=A∧v.2.2.2.2.2.2.2.2.1.length≤v.2.2.2.2.1∧v.1<v.2.2.2.2.2.2.2.2.1.length)
 case m=>exact (fun v=>(l.length - v.2.2.2.2.1).toNat)
 case hv=>exact ⟨rfl,rfl,by first | omega | (dsimp only;omega),by first | omega | (dsimp only;omega),rfl,by simp,by simp⟩
 case hn=>exact (by first | omega | (dsimp only;omega))
 rintro ⟨x0,x1,x2,x3,x4,x5,x6,x7,x8,u⟩ hI;dsimp only at hI;obtain ⟨rfl,rfl,h0,h1,rfl,h2,h3⟩:=hI;have za:∀(cl:Int) (f:Bool),(f=true→0≤x0∧x0<x8.length)→x4<x2.length→Df ((q1e (x0,x1,x2.getD x4.toNat 0,cl,x2,(x2.length:Int),x4,f,x5,x6,x7,x8,())).bind fun val =>
  Sum.elim (fun val=>some (Sum.inl (val.fst,val.snd.fst,val.snd.snd.fst,val.snd.snd.snd.fst,IntKind.i64.wrap (val.snd.snd.snd.snd.fst+1),val.snd.snd.snd.snd.snd.fst,val.snd.snd.snd.snd.snd.snd.fst,val.snd.snd.snd.snd.snd.snd.snd.fst,val.snd.snd.snd.snd.snd.snd.snd.snd.fst,())))
   (fun val=>bif decide (List.length val.snd.snd.snd.snd.snd.snd.snd.snd.snd.snd.fst+[val.snd.snd.fst].length≤140737488355328/4) then
    bif val.snd.snd.snd.fst==0 then some (Sum.inl (IntKind.i64.wrap ((↑(val.snd.snd.snd.snd.snd.snd.snd.snd.snd.snd.fst++[val.snd.snd.fst]).length:Int) - 1),0,val.snd.snd.snd.snd.fst,val.snd.snd.snd.snd.snd.fst,IntKind.i64.wrap (val.snd.snd.snd.snd.snd.snd.fst+1),val.snd.snd.snd.snd.snd.snd.snd.fst,val.snd.snd.snd.snd.snd.snd.snd.snd.fst,val.snd.snd.snd.snd.snd.snd.snd.snd.snd.fst,val.snd.snd.snd.snd.snd.snd.snd.snd.snd.snd.fst++[val.snd.snd.fst],()))
    else some (Sum.inl (val.fst,if val.snd.snd.snd.fst>val.snd.fst then val.snd.snd.snd.fst else val.snd.fst,val.snd.snd.snd.snd.fst,val.snd.snd.snd.snd.snd.fst,IntKind.i64.wrap (val.snd.snd.snd.snd.snd.snd.fst+1),val.snd.snd.snd.snd.snd.snd.snd.fst,val.snd.snd.snd.snd.snd.snd.snd.snd.fst,val.snd.snd.snd.snd.snd.snd.snd.snd.snd.fst,val.snd.snd.snd.snd.snd.snd.snd.snd.snd.snd.fst++[val.snd.snd.fst],()))
    else none) val)
  (Sum.elim (fun v':Int×Int×List Int×Int×Int×List R6×List R4×List R3×List Int×Unit=>(v'.2.2.1=x2∧v'.2.2.2.1=(x2.length:Int)∧0≤v'.2.2.2.2.1∧v'.2.2.2.2.1≤x2.length∧v'.2.2.2.2.2.2.1=x6∧v'.2.2.2.2.2.2.2.2.1.length≤v'.2.2.2.2.1∧v'.1<v'.2.2.2.2.2.2.2.2.1.length)∧(x2.length - v'.2.2.2.2.1).toNat<(x2.length - x4).toNat) (fun y:List Int×Unit=>y.1.length≤x2.length)):=by
  intro cl f hf hlt;refine dZ (g0r _ _ _ _ _ _ _ _ _ _ _ _ hf) ?_;intro z hz;refine dS hz ?_ ?_
  · rintro y ⟨l',hl',rfl⟩
    dsimp only;rw [qh (n:=x4+1) (by omega)];exact dP ⟨⟨rfl,rfl,by first | omega | (dsimp only;omega),by first | omega | (dsimp only;omega),rfl,by first | omega | (dsimp only;omega),by first | omega | (dsimp only;omega)⟩,by first | omega | (dsimp only;omega)⟩
  · rintro y rfl
    dsimp only;rw [qh (n:=x4+1) (by omega),qh (n:=((x8++[x2.getD x4.toNat 0]).length:Int) - 1) (by simp only [List.length_append,List.length_cons,List.length_nil];omega)];with_reducible repeat' (first | apply dP | apply dX<;>intro _)
    · exact ⟨⟨rfl,rfl,by first | omega | (dsimp only;omega),by first | omega | (dsimp only;omega),rfl,by simp only [List.length_append,List.length_cons,List.length_nil];omega,by simp only [List.length_append,List.length_cons,List.length_nil];omega⟩,by first | omega | (dsimp only;omega)⟩
    · exact ⟨⟨rfl,rfl,by first | omega | (dsimp only;omega),by first | omega | (dsimp only;omega),rfl,by simp only [List.length_append,List.length_cons,List.length_nil];omega,by simp only [List.length_append,List.length_cons,List.length_nil];omega⟩,by first | omega | (dsimp only;omega)⟩
    · refine dO ?_;simp only [List.length_cons,List.length_nil] at *;omega
 unfold j5g;dsimp only;with_reducible repeat' (first | apply dP | apply dX<;>intro _)
 · rename_i h4 h5
   refine dZ (v0j _ _ _ _ hA) ?_;rintro ⟨cl,u⟩ -
   dsimp only;with_reducible repeat' (first | apply dP | apply dX<;>intro _)
   · exact za _ _ (fun _=>by omega) (by omega)
   · exact za _ _ (fun _=>by omega) (by omega)
   · exact za _ _ (fun h=>by cases h) (by omega)
 · refine dO ?_;omega
 · exact (by first | omega | (dsimp only;omega):x8.length≤x2.length)
theorem g1a (a b:Int):Df (q2g (a,b,())) (fun y=>1≤y.1∧y.1≤26):=by
 show Df (v8a _) _;unfold v8a;dsimp only;refine dP ?_;dsimp only;generalize IntKind.i64.wrap (a - b)=n;split<;>split<;>omega
theorem g1b (a:Int) (b:Bool):Df (q7w (a,b,())) (fun _=>True):=by
 show Df (j5l _) _;unfold j5l;dsimp only;with_reducible repeat' (first | apply dP | apply dX<;>intro _)
 all_goals trivial
theorem k1k (a:Int):Df (z2n (a,())) (fun _=>True):=by
 show Df (v8b q7w _) _;unfold v8b;dsimp only;with_reducible repeat' (first | apply dP | apply dX<;>intro _)
 all_goals (refine dZ (g1b _ _) ?_;intro z hz;cases z<;>exact dP trivial)
theorem g0s (n b k:Int) (out:List UInt8) (j:Nat) (h0:0≤n) (h1:n<10^j) (hb:out.length+j≤100000000000000) (hn:n≤100000000000000) :
 Df (q3m (n,b,k,out,())) (fun y=>y.1.length≤out.length+j+1):=by
 refine dL ?I ?m ?h _ ?hv ?hn
 case I=>exact (fun v=>∃j':Nat,0≤v.1∧v.1<10^j'∧v.1≤n∧v.2.2.2.1.length+j'≤out.length+j)
 case m=>exact (fun v=>v.1.toNat)
 case hv=>exact ⟨j,h0,h1,Int.le_refl _,Nat.le_refl _⟩
 case hn=>exact (by first | omega | (dsimp only;omega))
 rintro ⟨x0,x1,x2,x3,u⟩ hI;dsimp only at hI;obtain ⟨j',i0,i1,i2,i3⟩:=hI;unfold j5h;dsimp only;refine dZ (g1a _ _) ?_;rintro ⟨t,u⟩ ht;dsimp only at ht ⊢;with_reducible repeat' (first | apply dP | apply dX<;>intro _)
 · refine dZ (k1k _) ?_
   rintro ⟨d,d',u⟩ -
   dsimp only;with_reducible repeat' (first | apply dP | apply dX<;>intro _)
   · exact (by simp only [List.length_append,List.length_cons,List.length_nil];omega:(x3++[_]).length≤out.length+j+1)
   · refine dO ?_;simp only [List.length_cons,List.length_nil] at *;omega
 · rename_i hge hne
   refine dZ (k1k _) ?_;rintro ⟨d,d',u⟩ -
   dsimp only;rw [qh (n:=36 - t) (by omega)] at hne ⊢;rw [qh (n:=x0 - t) (by omega),Int.tdiv_eq_ediv_of_nonneg (by omega)];have q0:0≤(x0 - t)/(36 - t):=Int.ediv_nonneg (by omega) (by omega);have q1:(x0 - t)/(36 - t)*(36 - t)≤x0 - t:=Int.ediv_mul_le _ (by omega);have q2:(x0 - t)/(36 - t)*10≤(x0 - t)/(36 - t)*(36 - t):=Int.mul_le_mul_of_nonneg_left (by omega) q0;generalize (x0 - t)/(36 - t)=q at q0 q1 q2 ⊢;rw [qh (n:=q) (by omega)];with_reducible repeat' (first | apply dP | apply dX<;>intro _)
   · obtain ⟨i,rfl⟩:∃i,j'=i+1:=by
      cases j' with
      | zero=>simp at i1;omega
      | succ i=>exact ⟨i,rfl⟩
     rw [Int.pow_succ] at i1;generalize hP:(10:Int)^i=P at i1;refine ⟨⟨i,q0,?_,?_,?_⟩,?_⟩
     · show q<10^i
       rw [hP];omega
     · dsimp only;omega
     · simp only [List.length_append,List.length_cons,List.length_nil];omega
     · dsimp only;omega
   · rename_i hz
     exact absurd hz hne
   · refine dO ?_;simp only [List.length_cons,List.length_nil] at *;omega
 · rename_i hge hne
   rw [qh (n:=36 - t) (by omega)] at hne;refine dO ?_;omega
theorem b4n (n b:Int) (out:List UInt8) (h0:0≤n) (h1:n<10^13) (hb:out.length≤90000000000000) :
 Df (q6a (n,b,out,())) (fun y=>y.1.length≤out.length+14):=by
 show Df (v7h q2g z2n q3m _) _;unfold v7h;dsimp only;refine dZ (g1a _ _) ?_;rintro ⟨t,u⟩ ht;dsimp only at ht ⊢;have h13:(10:Int)^13=10000000000000:=rfl;have h12:(10:Int)^12=1000000000000:=rfl;rw [h13] at h1;with_reducible repeat' (first | apply dP | apply dX<;>intro _)
 · refine dZ (k1k _) ?_
   rintro ⟨d,d',u⟩ -
   dsimp only;with_reducible repeat' (first | apply dP | apply dX<;>intro _)
   · exact (by simp only [List.length_append,List.length_cons,List.length_nil];omega:(out++[_]).length≤out.length+14)
   · refine dO ?_;simp only [List.length_cons,List.length_nil] at *;omega
 · rename_i hge hne
   refine dZ (k1k _) ?_;rintro ⟨d,d',u⟩ -
   dsimp only;rw [qh (n:=36 - t) (by omega)] at hne ⊢;rw [qh (n:=n - t) (by omega),Int.tdiv_eq_ediv_of_nonneg (by omega)];have q0:0≤(n - t)/(36 - t):=Int.ediv_nonneg (by omega) (by omega);have q1:(n - t)/(36 - t)*(36 - t)≤n - t:=Int.ediv_mul_le _ (by omega);have q2:(n - t)/(36 - t)*10≤(n - t)/(36 - t)*(36 - t):=Int.mul_le_mul_of_nonneg_left (by omega) q0;generalize (n - t)/(36 - t)=q at q0 q1 q2 ⊢;rw [qh (n:=q) (by omega)];with_reducible repeat' (first | apply dP | apply dX<;>intro _)
   · refine dZ (g0s q b _ (out++[UInt8.ofNat (Int.toNat d)]) 12 q0 (by rw [h12];omega) (by simp only [List.length_append,List.length_cons,List.length_nil];omega) (by omega)) ?_
     rintro ⟨y,u⟩ hy;simp only [List.length_append,List.length_cons,List.length_nil] at hy;exact dP (by first | omega | (dsimp only;omega))
   · rename_i hz
     exact absurd hz hne
   · refine dO ?_;simp only [List.length_cons,List.length_nil] at *;omega
 · rename_i hge hne
   rw [qh (n:=36 - t) (by omega)] at hne;refine dO ?_;omega
theorem g0t (a b:Int) (h0:0≤a) (h1:a≤100000000000000000):Df (q7q (a,b,())) (fun y=>0≤y.1∧y.1≤455):=by
 refine dL ?I ?m ?h _ ?hv ?hn
 case I=>exact (fun v=>0≤v.1∧v.1≤100000000000000000)
 case m=>exact (fun v=>v.1.toNat)
 case hv=>exact ⟨h0,h1⟩
 case hn=>exact (by first | omega | (dsimp only;omega))
 rintro ⟨x0,x1,u⟩ hI;dsimp only at hI;unfold z3k;dsimp only;with_reducible repeat' (first | apply dP | apply dX<;>intro _)
 · rw [Int.tdiv_eq_ediv_of_nonneg (by omega),qh (n:=x0/35) (by omega)]
   exact ⟨⟨by first | omega | (dsimp only;omega),by first | omega | (dsimp only;omega)⟩,by first | omega | (dsimp only;omega)⟩
 · exact ⟨by first | omega | (dsimp only;omega),by first | omega | (dsimp only;omega)⟩
theorem v0i (a c:Int) (h0:0≤a) (h1:a≤10000000000000000):Df (q7p (a,c,())) (fun _=>True):=by
 show Df (j5i q7q _) _;unfold j5i;dsimp only;have hm:1≤(if c>1 then c else 1):=by split<;>omega
 generalize (if c>1 then c else 1)=m at hm;have q0:0≤a/m:=Int.ediv_nonneg h0 (by omega);have q1:a/m≤a:=Int.ediv_le_self _ h0;rw [Int.tdiv_eq_ediv_of_nonneg h0,qh (n:=a/m) (by omega),qh (n:=a+a/m) (by omega)];with_reducible repeat' (first | apply dP | apply dX<;>intro _)
 · refine dZ (g0t _ _ (by omega) (by omega)) ?_
   rintro ⟨x,y,u⟩ h;dsimp only at h ⊢;rw [qh (n:=x+38) (by omega)];with_reducible repeat' (first | apply dP | apply dX<;>intro _)
   · trivial
   · refine dO ?_;omega
 · refine dO ?_;omega
theorem f2m (a c:Int) (f:Bool) (h0:0≤a) (h1:a≤10000000000000000):Df (wu (a,c,f,())) (fun _=>True):=by
 show Df (v7i q7p _) _;unfold v7i;dsimp only;rw [Int.tdiv_eq_ediv_of_nonneg h0,Int.tdiv_eq_ediv_of_nonneg h0,qh (n:=a/700) (by omega),qh (n:=a/2) (by omega)];with_reducible repeat' (first | apply dP | apply dX<;>intro _)
 · exact dZ (v0i _ _ (by omega) (by omega)) fun _ _=>dP trivial
 · exact dZ (v0i _ _ (by omega) (by omega)) fun _ _=>dP trivial
def cnt (n:Int) (l:List Int):Nat:=l.countP fun r=>decide (r<n)
def ceq (n:Int) (l:List Int):Nat:=l.countP fun r=>decide (r=n)
theorem j7y (n:Int) (l:List Int):cnt n l≤l.length:=List.countP_le_length
theorem z8g (n:Int):∀l:List Int,cnt (n+1) l=cnt n l+ceq n l
 | []=>rfl
 | x::l=>by
  have ih:=z8g n l;unfold cnt ceq at *
  simp only [List.countP_cons,decide_eq_true_eq];split<;>split<;>split<;>omega
theorem z8f {n m:Int} (h:n≤m):∀{l:List Int},(∀r∈l,n≤r→m≤r)→cnt m l=cnt n l
 | [],_=>rfl
 | x::l,hl=>by
  have ih:=z8f (l:=l) h fun r hr=>hl r (List.mem_cons_of_mem _ hr);have hx:=hl x List.mem_cons_self;unfold cnt at *
  simp only [List.countP_cons,decide_eq_true_eq];split<;>split<;>omega
theorem y8z {n:Int}:∀{l:List Int},(∀r∈l,r<n)→cnt n l=l.length
 | [],_=>rfl
 | x::l,hl=>by
  have ih:=y8z (l:=l) fun r hr=>hl r (List.mem_cons_of_mem _ hr);have hx:=hl x List.mem_cons_self;unfold cnt at *
  simp only [List.countP_cons,List.length_cons,decide_eq_true_eq,hx,if_true];omega
theorem y8y {n:Int}:∀{l:List Int},n∈l→1≤ceq n l
 | x::l,h=>by
  unfold ceq;simp only [List.countP_cons,decide_eq_true_eq];rcases List.mem_cons.1 h with rfl | h
  · simp
  · have:=y8y h
    unfold ceq at this;omega
theorem j7w {n:Int} {l:List Int} {i:Nat} (h:i<l.length):ceq n (l.take (i+1))=ceq n (l.take i)+if l[i]=n then 1 else 0:=by
 unfold ceq;rw [ql h,List.countP_append];simp [List.countP_cons]
theorem v0a {n:Int} {l:List Int} {i:Nat} (h:i<l.length):cnt n (l.take (i+1))=cnt n (l.take i)+if l[i]<n then 1 else 0:=by
 unfold cnt;rw [ql h,List.countP_append];simp [List.countP_cons]
theorem z8e (n:Int) (l:List Int) (i:Nat):ceq n (l.take i)≤ceq n l:=by
 unfold ceq;exact (List.take_sublist i l).countP_le
theorem b4m (l:List Int) (n:Int) (hn:0≤n) (hl:l.length≤1000000000000):Df (q5z (l,n,())) (fun y=>(y.1<0∧∀r∈l,r<n)∨(y.1∈l∧n≤y.1∧∀r∈l,n≤r→y.1≤r)):=by
 show Df (v7g j4i _) _;unfold v7g;dsimp only;refine dZ (P:=fun y=>(y.1<0∧∀r∈l,r<n)∨(y.1∈l∧n≤y.1∧∀r∈l,n≤r→y.1≤r)) ?_ (fun _ h=>dP h);refine dL ?I ?m ?h _ ?hv ?hn
 case I=>exact (fun v=>v.1=n∧v.2.2.1=l∧v.2.2.2.1=l.length∧0≤v.2.2.2.2.1∧v.2.2.2.2.1≤l.length∧((v.2.1<0∧∀r∈l.take v.2.2.2.2.1.toNat,r<n)∨(v.2.1∈l∧n≤v.2.1∧∀r∈l.take v.2.2.2.2.1.toNat,n≤r→v.2.1≤r)))
 case m=>exact (fun v=>(l.length - v.2.2.2.2.1).toNat)
 case hv=>exact ⟨rfl,rfl,rfl,by first | omega | (dsimp only;omega),by first | omega | (dsimp only;omega),.inl ⟨by first | omega | (dsimp only;omega),by simp⟩⟩
 case hn=>exact (by first | omega | (dsimp only;omega))
 rintro ⟨x0,x1,x2,x3,x4,u⟩ hI;dsimp only at hI;obtain ⟨rfl,rfl,rfl,h0,h1,hI⟩:=hI;unfold z3j;dsimp only;with_reducible repeat' (first | apply dP | apply dX<;>intro _)
 all_goals try rw [qh (n:=x4+1) (by omega)]
 · rename_i a1 a2 a3 a4
   have hlt:x4.toNat<x2.length:=by omega
   rw [getD_lt hlt] at a3 ⊢;refine ⟨⟨rfl,rfl,rfl,by first | omega | (dsimp only;omega),by first | omega | (dsimp only;omega),.inr ⟨List.getElem_mem hlt,a3,?_⟩⟩,by first | omega | (dsimp only;omega)⟩;dsimp only;intro r hr hge;rw [show (x4+1).toNat=x4.toNat+1 by omega,ql hlt] at hr;rcases List.mem_append.1 hr with hr | hr
   · rcases hI with ⟨_,hI⟩ | ⟨_,hx,_⟩
     · have:=hI r hr;omega
     · omega
   · rw [List.mem_singleton] at hr;omega
 · rename_i a1 a2 a3 a4 a5
   have hlt:x4.toNat<x2.length:=by omega
   rw [getD_lt hlt] at a3 a5 ⊢;refine ⟨⟨rfl,rfl,rfl,by first | omega | (dsimp only;omega),by first | omega | (dsimp only;omega),.inr ⟨List.getElem_mem hlt,a3,?_⟩⟩,by first | omega | (dsimp only;omega)⟩;dsimp only;intro r hr hge;rw [show (x4+1).toNat=x4.toNat+1 by omega,ql hlt] at hr;rcases List.mem_append.1 hr with hr | hr
   · rcases hI with ⟨hx,_⟩ | ⟨_,hx,hI⟩
     · omega
     · have:=hI r hr hge;omega
   · rw [List.mem_singleton] at hr;omega
 · rename_i a1 a2 a3 a4 a5
   have hlt:x4.toNat<x2.length:=by omega
   rw [getD_lt hlt] at a3 a5;refine ⟨⟨rfl,rfl,rfl,by first | omega | (dsimp only;omega),by first | omega | (dsimp only;omega),?_⟩,by first | omega | (dsimp only;omega)⟩;dsimp only;rcases hI with ⟨hx,_⟩ | ⟨hm,hx,hI⟩
   · omega
   · refine .inr ⟨hm,hx,fun r hr hge => ?_⟩
     rw [show (x4+1).toNat=x4.toNat+1 by omega,ql hlt] at hr;rcases List.mem_append.1 hr with hr | hr
     · exact hI r hr hge
     · rw [List.mem_singleton] at hr;omega
 · rename_i a1 a2 a3
   have hlt:x4.toNat<x2.length:=by omega
   rw [getD_lt hlt] at a3;refine ⟨⟨rfl,rfl,rfl,by first | omega | (dsimp only;omega),by first | omega | (dsimp only;omega),?_⟩,by first | omega | (dsimp only;omega)⟩;dsimp only;rcases hI with ⟨hx,hI⟩ | ⟨hm,hx,hI⟩
   · refine .inl ⟨hx,fun r hr => ?_⟩
     rw [show (x4+1).toNat=x4.toNat+1 by omega,ql hlt] at hr;rcases List.mem_append.1 hr with hr | hr
     · exact hI r hr
     · rw [List.mem_singleton] at hr;omega
   · refine .inr ⟨hm,hx,fun r hr hge => ?_⟩
     rw [show (x4+1).toNat=x4.toNat+1 by omega,ql hlt] at hr;rcases List.mem_append.1 hr with hr | hr
     · exact hI r hr hge
     · rw [List.mem_singleton] at hr;omega
 · refine dO ?_;omega
 · rw [List.take_of_length_le (by omega)] at hI
   exact hI
theorem g0m (l:List Int) (hl:l.length≤1000000000000):Df (q7k (l,l,(l.length:Int),0,[],())) (Sum.elim (fun y=>y.1=l∧(∀r∈l,0≤r∧r≤1114111)∧y.2.1.length=cnt 128 l) (fun y=>y.1=[])):=by
 refine dL ?I ?m ?h _ ?hv ?hn
 case I=>exact (fun v=>v.1=l∧v.2.1=l∧v.2.2.1=l.length∧0≤v.2.2.2.1∧v.2.2.2.1≤l.length∧(∀r∈l.take v.2.2.2.1.toNat,0≤r∧r≤1114111)∧v.2.2.2.2.1.length=cnt 128 (l.take v.2.2.2.1.toNat))
 case m=>exact (fun v=>(l.length - v.2.2.2.1).toNat)
 case hv=>exact ⟨rfl,rfl,rfl,by first | omega | (dsimp only;omega),by first | omega | (dsimp only;omega),by simp,rfl⟩
 case hn=>exact (by first | omega | (dsimp only;omega))
 rintro ⟨x0,x1,x2,x3,x4,u⟩ hI;dsimp only at hI;obtain ⟨rfl,rfl,rfl,h0,h1,h2,h3⟩:=hI;unfold z3d;dsimp only;with_reducible repeat' (first | apply dP | apply dX<;>intro _)
 · refine dZ (k1h _) ?_
   rintro ⟨b,u⟩ hb;dsimp only at hb ⊢;have hlt:x3.toNat<x1.length:=by omega
   have hc:=j7y 128 (x1.take x3.toNat);rw [List.length_take] at hc;have hr:b=true→∀r∈x1.take (x3.toNat+1),0≤r∧r≤1114111:=by
    intro hbt r hr;rw [ql hlt] at hr;rcases List.mem_append.1 hr with hr | hr
    · exact h2 r hr
    · rw [List.mem_singleton] at hr
      have:=hb hbt;rw [getD_lt hlt] at this;subst hr;exact this
   have hct:=v0a (n:=128) hlt;have hs:(x3+1).toNat=x3.toNat+1:=by omega
   rw [qh (n:=x3+1) (by omega)];with_reducible repeat' (first | apply dP | apply dX<;>intro _)
   · exact rfl
   · rename_i hbt hlow _
     rw [getD_lt hlt] at hlow;rw [if_pos hlow] at hct;exact ⟨⟨rfl,rfl,rfl,by first | omega | (dsimp only;omega),by first | omega | (dsimp only;omega),by dsimp only;rw [hs];exact hr hbt,by dsimp only;rw [hs,List.length_append,hct,h3];rfl⟩,by first | omega | (dsimp only;omega)⟩
   · refine dO ?_;simp only [List.length_cons,List.length_nil] at *;omega
   · rename_i hbt hlow
     rw [getD_lt hlt] at hlow;rw [if_neg hlow] at hct;exact ⟨⟨rfl,rfl,rfl,by first | omega | (dsimp only;omega),by first | omega | (dsimp only;omega),by dsimp only;rw [hs];exact hr hbt,by dsimp only;rw [hs,hct,h3];rfl⟩,by first | omega | (dsimp only;omega)⟩
 · refine dO ?_;omega
 · rw [List.take_of_length_le (by omega)] at h2 h3
   exact ⟨rfl,h2,h3⟩
theorem g0n (l:List Int) (p m delta bias h:Int) (out:List UInt8) (hl:l.length≤1000000000000) (hh:h=cnt m l) (hd:0≤delta∧delta≤2147483647) (ho:out.length≤l.length+1+14*cnt m l) :
 Df (j4f (l,p,m,delta,bias,h,l,(l.length:Int),0,out,())) (fun y=>y.1=l∧y.2.1=p∧y.2.2.1=m∧0≤y.2.2.2.1∧y.2.2.2.1≤2147483647+l.length∧y.2.2.2.2.2.1=cnt m l+ceq m l∧y.2.2.2.2.2.2.1.length≤l.length+1+14*(cnt m l+ceq m l)):=by
 refine dL ?I ?m ?h _ ?hv ?hn
 case I=>exact (fun v=>v.1=l∧v.2.1=p∧v.2.2.1=m∧0≤v.2.2.2.1∧v.2.2.2.1≤2147483647+v.2.2.2.2.2.2.2.2.1∧v.2.2.2.2.2.1=cnt m l+ceq m (l.take v.2.2.2.2.2.2.2.2.1.toNat)∧v.2.2.2.2.2.2.1=l∧v.2.2.2.2.2.2.2.1=l.length∧0≤v.2.2.2.2.2.2.2.2.1∧v.2.2.2.2.2.2.2.2.1≤l.length∧v.2.2.2.2.2.2.2.2.2.1.length≤l.length+1+14*(cnt m l+ceq m (l.take v.2.2.2.2.2.2.2.2.1.toNat)))
 case m=>exact (fun v=>(l.length - v.2.2.2.2.2.2.2.2.1).toNat)
 case hv=>exact ⟨rfl,rfl,rfl,hd.1,by first | omega | (dsimp only;omega),by dsimp only;rw [hh];simp [ceq],rfl,rfl,by first | omega | (dsimp only;omega),by first | omega | (dsimp only;omega),by dsimp only;simpa [ceq] using ho⟩
 case hn=>exact (by first | omega | (dsimp only;omega))
 rintro ⟨x0,x1,x2,x3,x4,x5,x6,x7,x8,x9,u⟩ hI;dsimp only at hI;obtain ⟨rfl,rfl,rfl,h0,h1,rfl,rfl,rfl,h2,h3,h4⟩:=hI;have c1:=j7y x2 x6;have c2:=z8e x2 x6 x8.toNat
 have c3:ceq x2 x6≤x6.length:=List.countP_le_length;unfold z3e;dsimp only;with_reducible repeat' (first | apply dP | apply dX<;>intro _)
 all_goals try rw [qh (n:=x8+1) (by omega)]
 · rename_i a1 a2 a3
   have hlt:x8.toNat<x6.length:=by omega
   have hct:=j7w (n:=x2) hlt;have hs:(x8+1).toNat=x8.toNat+1:=by omega
   rw [getD_lt hlt] at a3;rw [if_neg (by omega)] at hct;rw [qh (n:=x3+1) (by omega)];refine ⟨⟨rfl,rfl,rfl,by first | omega | (dsimp only;omega),by first | omega | (dsimp only;omega),?_,rfl,rfl,by first | omega | (dsimp only;omega),by first | omega | (dsimp only;omega),?_⟩,by first | omega | (dsimp only;omega)⟩
   · dsimp only;rw [hs,hct];simp
   · dsimp only;rw [hs,hct];omega
 · rename_i a1 a2 a3 a4
   have hlt:x8.toNat<x6.length:=by omega
   have hct:=j7w (n:=x2) hlt;have hs:(x8+1).toNat=x8.toNat+1:=by omega
   rw [getD_lt hlt] at a3 a4;rw [if_pos a4] at hct;refine dZ (b4n _ _ _ h0 (by rw [show (10:Int)^13=10000000000000 from rfl];omega) (by omega)) ?_;rintro ⟨y,u⟩ hy;dsimp only at hy ⊢;rw [qh (n:=((cnt x2 x6:Int)+(ceq x2 (x6.take x8.toNat):Int))+1) (by omega)];refine dZ (f2m _ _ _ h0 (by omega)) ?_;rintro ⟨z,u⟩ -
   dsimp only;refine dP ⟨⟨rfl,rfl,rfl,by first | omega | (dsimp only;omega),by first | omega | (dsimp only;omega),?_,rfl,rfl,by first | omega | (dsimp only;omega),by first | omega | (dsimp only;omega),?_⟩,by first | omega | (dsimp only;omega)⟩
   · dsimp only;rw [hs,hct];simp;omega
   · dsimp only;rw [hs,hct];omega
 · rename_i a1 a2 a3 a4
   have hlt:x8.toNat<x6.length:=by omega
   have hct:=j7w (n:=x2) hlt;have hs:(x8+1).toNat=x8.toNat+1:=by omega
   rw [getD_lt hlt] at a3 a4;rw [if_neg a4] at hct;refine ⟨⟨rfl,rfl,rfl,by first | omega | (dsimp only;omega),by first | omega | (dsimp only;omega),?_,rfl,rfl,by first | omega | (dsimp only;omega),by first | omega | (dsimp only;omega),?_⟩,by first | omega | (dsimp only;omega)⟩
   · dsimp only;rw [hs,hct];simp
   · dsimp only;rw [hs,hct];omega
 · refine dO ?_;omega
 · rw [List.take_of_length_le (by omega)] at h4 ⊢
   exact ⟨rfl,rfl,rfl,by first | omega | (dsimp only;omega),by first | omega | (dsimp only;omega),rfl,h4⟩
theorem g0o (l:List Int) (out:List UInt8) (hl:l.length≤1000000000000) (hr:∀r∈l,0≤r∧r≤1114111) (ho:out.length≤l.length+1) :
 Df (q7l (l,(cnt 128 l:Int),128,0,72,(cnt 128 l:Int),out,())) (Sum.elim (fun y=>y.1.length≤15*l.length+1) (fun y=>y.1=[])):=by
 refine dL ?I ?m ?h _ ?hv ?hn
 case I=>exact (fun v=>v.1=l∧128≤v.2.2.1∧v.2.2.1≤1114112∧0≤v.2.2.2.1∧v.2.2.2.1≤2147483648+l.length∧v.2.2.2.2.2.1=cnt v.2.2.1 l∧v.2.2.2.2.2.2.1.length≤l.length+1+14*cnt v.2.2.1 l)
 case m=>exact (fun v=>l.length - cnt v.2.2.1 l)
 case hv=>exact ⟨rfl,by first | omega | (dsimp only;omega),by first | omega | (dsimp only;omega),by first | omega | (dsimp only;omega),by first | omega | (dsimp only;omega),rfl,by first | omega | (dsimp only;omega)⟩
 case hn=>exact (by first | omega | (dsimp only;omega))
 rintro ⟨x0,x1,x2,x3,x4,x5,x6,u⟩ hI;dsimp only at hI;obtain ⟨rfl,h0,h1,h2,h3,rfl,h4⟩:=hI;have c1:=j7y x2 x0;unfold z3f;dsimp only;with_reducible repeat' (first | apply dP | apply dX<;>intro _)
 · rename_i hlt
   refine dZ (b4m x0 x2 (by omega) hl) ?_;rintro ⟨m,u⟩ hm;dsimp only at hm ⊢;rcases hm with ⟨_,hm⟩ | ⟨hm,hnm,hmin⟩
   · have:=y8z hm
     omega
   · have hm2:=hr m hm
     have hp0:0≤(m - x2)*((cnt x2 x0:Int)+1):=Int.mul_nonneg (by omega) (by omega);have hp1:(m - x2)*((cnt x2 x0:Int)+1)≤1114111*((cnt x2 x0:Int)+1):=Int.mul_le_mul_of_nonneg_right (by omega) (by omega);rw [g4y (n:=m - x2) (by omega),qh (n:=m - x2) (by omega),qh (n:=(cnt x2 x0:Int)+1) (by omega)];generalize (m - x2)*((cnt x2 x0:Int)+1)=P at hp0 hp1 ⊢;rw [qh (n:=P) (by omega),qh (n:=x3+P) (by omega)];have hsame:=z8f hnm hmin;have hpos:=y8y hm;have hsucc:=z8g m x0;have c4:=j7y (m+1) x0;with_reducible repeat' (first | apply dP | apply dX<;>intro _)
     · exact rfl
     · refine dZ (g0n x0 x1 m (x3+P) x4 _ x6 hl (by rw [hsame]) (by omega) (by omega)) ?_
       rintro ⟨y0,y1,y2,y3,y4,y5,y6,u⟩ hy;dsimp only at hy ⊢;obtain ⟨rfl,rfl,rfl,k0,k1,rfl,k2⟩:=hy;rw [g4y (n:=y2+1) (by omega),qh (n:=y3+1) (by omega)];refine dP ⟨⟨rfl,by first | omega | (dsimp only;omega),by first | omega | (dsimp only;omega),by first | omega | (dsimp only;omega),by first | omega | (dsimp only;omega),?_,?_⟩,?_⟩
       · dsimp only;rw [hsucc];simp
       · dsimp only;rw [hsucc];exact k2
       · dsimp only;omega
 · exact (by first | omega | (dsimp only;omega):x6.length≤15*x0.length+1)
theorem g0l (l:List Int) (hl:l.length≤1000000000000):Df (x1l (l,())) (fun y=>y.1.length≤15*l.length+1):=by
 show Df (v6u xb q5z q6a wu q7j q7k _) _;unfold v6u;dsimp only;refine dZ (g0m l hl) ?_;intro z hz;refine dS hz ?_ ?_
 · rintro ⟨x0,x1,u⟩ hx
   dsimp only at hx ⊢;obtain ⟨rfl,hr,hc⟩:=hx;have c0:=j7y 128 x0;have za:∀out:List UInt8,out.length≤x0.length+1→Df ((q7j (x0,(x1.length:Int),out,())).bind fun val=>some (val.fst,val.snd.fst,())) (fun y=>y.1.length≤15*x0.length+1):=by
    intro out ho;refine dZ (P:=fun y=>y.1.length≤15*x0.length+1) ?_ (fun _ h=>dP h);show Df (j5a xb q5z q6a wu q7l _) _;unfold j5a;dsimp only;rw [hc];refine dZ (g0o x0 out hl hr ho) ?_;intro z hz;refine dS hz ?_ ?_
    · rintro ⟨y,u⟩ hy;exact dP hy
    · rintro ⟨y,b,u⟩ hy
      dsimp only at hy;subst hy;exact dP (by simp)
   with_reducible repeat' (first | apply dP | apply dX<;>intro _)
   · exact za _ (by simp only [List.length_append,List.length_cons,List.length_nil];omega)
   · refine dO ?_;simp only [List.length_cons,List.length_nil] at *;omega
   · exact za _ (by omega)
 · rintro ⟨y,b,u⟩ hy
   dsimp only at hy;subst hy;exact dP (by simp)
structure TK (T:List R6) (A:List R4) (B:List R3):Prop where
 t:TOk T
 a:A.length≤1000000000000
 b:B.length≤1000000000000
section
variable {T:List R6} {A:List R4} {B:List R3}
theorem y2d (l:List Int) (p n:Int) (hp:0≤p∧p≤1000000000000000) (hn : -1000000000000001≤n∧n≤1000000000000001):Df (q0n (T,A,B,l,p,n,())) (fun y=>y.1≥0→0≤p+n∧p+n<l.length):=by
 show Df (v8i _) _;unfold v8i;dsimp only;rw [qh (n:=p+n) (by omega)];with_reducible repeat' (first | apply dP | apply dX<;>intro _)
 · intro h;dsimp only at h;omega
 · intro h;dsimp only at h;omega
 · intro h;omega
 · refine dO ?_;omega
theorem f2p (h:TK T A B) (l:List Int) (p:Int) (hp:0≤p∧p≤1000000000000000):Df (z2m (T,A,B,l,p,())) (fun _=>True):=by
 show Df (v7s xc q0n _) _;unfold v7s;dsimp only;refine dZ (y2d l p (-1) hp (by omega)) ?_;rintro ⟨x,u⟩ -
 exact dZ (v0j T A B _ h.a) fun _ _=>dP trivial
theorem f2r (h:TK T A B) (l:List Int) (p s:Int) (hp:0≤p∧p<l.length) (hl:l.length≤1000000000000) (hs:s=1∨s = -1):Df (x6q (T,A,B,l,p,s,())) (fun _=>True):=by
 show Df (v8j q0n z6y j4q _) _;unfold v8j;dsimp only;refine dZ (P:=fun _=>True) ?_ ?_
 · refine dL ?I ?m ?h _ ?hv ?hn
   case I=>exact (fun v=>v.1=s∧v.2.2.1=T∧v.2.2.2.2.2.1=l∧v.2.2.2.2.2.2.1=p ∧ -1≤p+v.2.1∧p+v.2.1≤l.length)
   case m=>exact (fun v=>(bif s==1 then (l.length - (p+v.2.1)) else p+v.2.1+1).toNat)
   case hv=>exact ⟨rfl,rfl,rfl,rfl,by first | omega | (dsimp only;omega),by first | omega | (dsimp only;omega)⟩
   case hn=>exact (by rcases hs with rfl | rfl<;>simp<;>omega)
   rintro ⟨x0,x1,x2,x3,x4,x5,x6,u⟩ hI;dsimp only at hI;obtain ⟨rfl,rfl,rfl,rfl,h0,h1⟩:=hI;unfold z3x;dsimp only;refine dZ (y2d x5 x6 x1 (by omega) (by omega)) ?_;rintro ⟨c,u⟩ hc;dsimp only at hc ⊢;with_reducible repeat' (first | apply dP | apply dX<;>intro _)
   · rename_i hge
     have hc':=hc hge;refine dZ (y2d x5 x6 x1 (by omega) (by omega)) ?_;rintro ⟨c,u⟩ -
     dsimp only;refine dZ (b5w x2 _ _ _ h.t) ?_;rintro ⟨j,u⟩ -
     dsimp only;rw [qh (n:=x1+x0) (by omega)];with_reducible repeat' (first | apply dP | apply dX<;>intro _)
     · trivial
     · refine ⟨⟨rfl,rfl,rfl,rfl,by first | omega | (dsimp only;omega),by first | omega | (dsimp only;omega)⟩,?_⟩
       rcases hs with rfl | rfl
       · simp only [show ((1:Int)==1)=true from rfl,cond_true];omega
       · simp only [show ((-1:Int)==1)=false from rfl,cond_false];omega
   · trivial
 · intro z hz
   cases z<;>exact dP trivial
theorem b5g (h:TK T A B) (l:List Int) (p:Int) (hp:0≤p∧p<l.length) (hl:l.length≤1000000000000):Df (x1s (T,A,B,l,p,())) (fun _=>True):=by
 show Df (v7t z2m x6q _) _;unfold v7t;dsimp only;refine dZ (f2r h l p 1 hp hl (.inl rfl)) ?_;rintro ⟨x,u⟩ -
 refine dZ (f2p h l p (by omega)) ?_;rintro ⟨y,u⟩ -
 dsimp only;with_reducible repeat' (first | apply dP | apply dX<;>intro _)
 · trivial
 · refine dZ (f2r h l p (-1) hp hl (.inr rfl)) ?_
   rintro ⟨x,u⟩ -
   dsimp only;with_reducible repeat' (first | apply dP | apply dX<;>intro _)
   all_goals trivial
theorem b5h (l:List Int) (p:Int) (hp:0≤p∧p≤1000000000000000):Df (x1t (T,A,B,l,p,())) (fun _=>True):=by
 show Df (v7u q0n _) _;unfold v7u;dsimp only;refine dZ (y2d l p (-1) hp (by omega)) ?_;rintro ⟨x,u⟩ -
 dsimp only;with_reducible repeat' (first | apply dP | apply dX<;>intro _)
 · exact dZ (y2d l p 1 hp (by omega)) fun _ _=>dP trivial
 · trivial
theorem b5i (h:TK T A B) (l:List Int) (p:Int) (hp:0≤p∧p≤1000000000000000):Df (x1u (T,A,B,l,p,())) (fun _=>True):=by
 show Df (v7v q0n j6y _) _;unfold v7v;dsimp only;refine dZ (y2d l p 1 hp (by omega)) ?_;rintro ⟨x,u⟩ -
 exact dZ (g1e T A B _ h.t) fun _ _=>dP trivial
theorem b5j (h:TK T A B) (l:List Int) (p:Int) (hp:0≤p∧p≤1000000000000000):Df (x1v (T,A,B,l,p,())) (fun _=>True):=by
 show Df (v7w q0n j6y _) _;unfold v7w;dsimp only;refine dZ (y2d l p (-1) hp (by omega)) ?_;rintro ⟨x,u⟩ -
 exact dZ (g1e T A B _ h.t) fun _ _=>dP trivial
theorem f2k (x:Int):Df (j6s (x,())) (fun _=>True):=by
 show Df (v7a _) _;unfold v7a;dsimp only;with_reducible repeat' (first | apply dP | apply dX<;>intro _)
 all_goals trivial
theorem f2l (x:Int):Df (j6t (x,())) (fun _=>True):=by
 show Df (v7d _) _;unfold v7d;dsimp only;with_reducible repeat' (first | apply dP | apply dX<;>intro _)
 all_goals trivial
theorem b5f (l:List Int) (hl:l.length≤1000000000000):Df (x6l (l,())) (fun _=>True):=by
 show Df (v7r j6t j4l _) _;unfold v7r;dsimp only;refine dZ (P:=fun _=>True) ?_ (fun z _=>by cases z<;>exact dP trivial);refine dL ?I ?m ?h _ ?hv ?hn
 case I=>exact (fun v=>v.1=l∧v.2.1=l.length∧0≤v.2.2.1∧v.2.2.1≤l.length)
 case m=>exact (fun v=>(l.length - v.2.2.1).toNat)
 case hv=>exact ⟨rfl,rfl,by first | omega | (dsimp only;omega),by first | omega | (dsimp only;omega)⟩
 case hn=>exact (by first | omega | (dsimp only;omega))
 rintro ⟨x0,x1,x2,u⟩ hI;dsimp only at hI;obtain ⟨rfl,rfl,h0,h1⟩:=hI;unfold z3o;dsimp only;with_reducible repeat' (first | apply dP | apply dX<;>intro _)
 · refine dZ (f2l _) ?_
   rintro ⟨b,u⟩ -
   dsimp only;rw [qh (n:=x2+1) (by omega)];with_reducible repeat' (first | apply dP | apply dX<;>intro _)
   · trivial
   · exact ⟨⟨rfl,rfl,by first | omega | (dsimp only;omega),by first | omega | (dsimp only;omega)⟩,by first | omega | (dsimp only;omega)⟩
 · refine dO ?_;omega
 · trivial
theorem g0y (l:List Int) (hl:l.length≤1000000000000):Df (j6w (l,())) (fun _=>True):=by
 show Df (z3p j6s q3n _) _;unfold z3p;dsimp only;refine dZ (P:=fun _=>True) ?_ (fun z _=>by cases z<;>exact dP trivial);refine dL ?I ?m ?h _ ?hv ?hn
 case I=>exact (fun v=>v.1=l∧v.2.1=l.length∧0≤v.2.2.1∧v.2.2.1≤l.length)
 case m=>exact (fun v=>(l.length - v.2.2.1).toNat)
 case hv=>exact ⟨rfl,rfl,by first | omega | (dsimp only;omega),by first | omega | (dsimp only;omega)⟩
 case hn=>exact (by first | omega | (dsimp only;omega))
 rintro ⟨x0,x1,x2,u⟩ hI;dsimp only at hI;obtain ⟨rfl,rfl,h0,h1⟩:=hI;unfold j1w;dsimp only;with_reducible repeat' (first | apply dP | apply dX<;>intro _)
 · refine dZ (f2k _) ?_
   rintro ⟨b,u⟩ -
   dsimp only;rw [qh (n:=x2+1) (by omega)];with_reducible repeat' (first | apply dP | apply dX<;>intro _)
   · trivial
   · exact ⟨⟨rfl,rfl,by first | omega | (dsimp only;omega),by first | omega | (dsimp only;omega)⟩,by first | omega | (dsimp only;omega)⟩
 · refine dO ?_;omega
 · trivial
theorem b4k (l:List Int) (p:Int) (hl:l.length≤1000000000000):Df (x1n (T,A,B,l,p,())) (fun _=>True):=by
 show Df (v7b v5g _) _;unfold v7b;dsimp only;refine dZ (P:=fun _=>True) ?_ (fun _ _=>dP trivial);show Df (v7c x6l _) _;unfold v7c;dsimp only;exact dZ (b5f l hl) fun _ _=>dP trivial
theorem b4l (l:List Int) (p:Int) (hl:l.length≤1000000000000):Df (x1o (T,A,B,l,p,())) (fun _=>True):=by
 show Df (v7e z2k _) _;unfold v7e;dsimp only;refine dZ (P:=fun _=>True) ?_ (fun _ _=>dP trivial);show Df (z3h j6w _) _;unfold z3h;dsimp only;exact dZ (g0y l hl) fun _ _=>dP trivial
theorem b5u (h:TK T A B) (r:Int) (l:List Int) (p:Int):Df (z6x (r,T,A,B,l,p,())) (fun y=>y.2=(T,A,B,l,p,())):=by
 show Df (v8l j6y _) _;unfold v8l;dsimp only;refine dZ (g1e T A B _ h.t) ?_;rintro ⟨x,u⟩ -
 dsimp only;with_reducible repeat' (first | apply dP | apply dX<;>intro _)
 all_goals rfl
theorem g0z (h:TK T A B) (l:List Int) (l':List Int) (p:Int) (hl:l.length≤1000000000000):Df (j6x (l,T,A,B,l',p,())) (fun _=>True):=by
 show Df (z3q z6x q3o _) _;unfold z3q;dsimp only;refine dZ (P:=fun _=>True) ?_ (fun z _=>by cases z<;>exact dP trivial);refine dL ?I ?m ?h _ ?hv ?hn
 case I=>exact (fun v=>v.1=l∧v.2.1=l.length∧0≤v.2.2.1∧v.2.2.1≤l.length∧v.2.2.2=(T,A,B,l',p,()))
 case m=>exact (fun v=>(l.length - v.2.2.1).toNat)
 case hv=>exact ⟨rfl,rfl,by first | omega | (dsimp only;omega),by first | omega | (dsimp only;omega),rfl⟩
 case hn=>exact (by first | omega | (dsimp only;omega))
 rintro ⟨x0,x1,x2,x3,x4,x5,x6,x7,u⟩ hI;dsimp only at hI;obtain ⟨rfl,rfl,h0,h1,h2⟩:=hI;simp only [Prod.mk.injEq] at h2;obtain ⟨rfl,rfl,rfl,rfl,rfl,-⟩:=h2;unfold j1x;dsimp only;with_reducible repeat' (first | apply dP | apply dX<;>intro _)
 · refine dZ (b5u h _ _ _) ?_
   rintro ⟨b,y1,y2,y3,y4,y5,u⟩ hy;simp only [Prod.mk.injEq] at hy;obtain ⟨rfl,rfl,rfl,rfl,rfl,-⟩:=hy;dsimp only;rw [qh (n:=x2+1) (by omega)];with_reducible repeat' (first | apply dP | apply dX<;>intro _)
   · trivial
   · exact ⟨⟨rfl,rfl,by first | omega | (dsimp only;omega),by first | omega | (dsimp only;omega),rfl⟩,by first | omega | (dsimp only;omega)⟩
 · refine dO ?_;omega
 · trivial
theorem b5k (h:TK T A B) (l:List Int) (p:Int) (hl:l.length≤1000000000000):Df (x1w (T,A,B,l,p,())) (fun _=>True):=by
 show Df (v7x z2l _) _;unfold v7x;dsimp only;refine dZ (P:=fun _=>True) ?_ (fun _ _=>dP trivial);show Df (z3i j6x _) _;unfold z3i;dsimp only;exact dZ (g0z h l l p hl) fun _ _=>dP trivial
theorem b4f (x:Int):Df (z2e (x,())) (fun _=>True):=by
 show Df (v6q j6s j6t v5h _) _;unfold v6q;dsimp only;refine dZ (f2k x) ?_;rintro ⟨b,u⟩ -
 dsimp only;with_reducible repeat' (first | apply dP | apply dX<;>intro _)
 · trivial
 · refine dZ (f2l x) ?_
   rintro ⟨b,u⟩ -
   dsimp only;with_reducible repeat' (first | apply dP | apply dX<;>intro _)
   · trivial
   · refine dZ (P:=fun _=>True) ⟨(),rfl,trivial⟩ ?_
     intro u _;with_reducible repeat' (first | apply dP | apply dX<;>intro _)
     all_goals trivial
theorem b3w (h:TK T A B) (l:List Int) (p:Int) (hl:l.length≤1000000000000) (hp:p≤1000000000000):Df (j3i (T,A,B,l,p,())) (fun _=>True):=by
 show Df (x2d z2e x1n x1o z2m x1s x1t x1u x1v x1w _) _;unfold x2d;dsimp only;have za:∀{x:Option (Bool×Unit)},Df x (fun _=>True)→Df (x.bind fun val=>bif val.fst then some ((1:Int),()) else some (2,())) (fun _=>True):=by
  intro x hx;refine dZ hx ?_;rintro ⟨b,u⟩ -
  dsimp only;with_reducible repeat' (first | apply dP | apply dX<;>intro _)
  all_goals trivial
 with_reducible repeat' (first | apply dP | apply dX<;>intro _)
 · trivial
 · trivial
 · refine dZ (b4f _) ?_
   intro z _;rcases z with z | z | z | z | z | z | z | z | z
   · exact za (b4k l p hl)
   · exact za (b4l l p hl)
   · exact za (f2p h l p (by omega))
   · exact za (b5g h l p (by omega) hl)
   · exact za (b5h l p (by omega))
   · exact za (b5i h l p (by omega))
   · exact za (b5j h l p (by omega))
   · exact za (b5k h l p hl)
   · exact dP trivial
 · refine dO ?_;omega
theorem b4g (h:TK T A B) (r:Int):Df (q2e (T,A,B,r,())) (fun _=>True):=by
 show Df (v6s j3k zl _) _;unfold v6s;dsimp only;refine dZ (f2e T A B r) ?_;rintro ⟨v0,a,c,s,o,is,u⟩ -
 dsimp only;with_reducible repeat' (first | apply dP | apply dX<;>intro _)
 all_goals first
  | trivial
  | (refine dZ (f2d T A B r h.t) ?_;rintro ⟨x,u⟩ -;dsimp only;(repeat' (first | apply dP | (apply dG<;>intro _)));all_goals trivial)
theorem b4v (h:TK T A B) (l:List Int) (hl:l.length≤1000000000000):Df (x1q (T,A,B,l,())) (fun _=>True):=by
 show Df (x2i j3i q2e q7r _) _;unfold x2i;dsimp only;refine dZ (P:=fun _=>True) ?_ (fun z _=>by cases z<;>exact dP trivial);refine dL ?I ?m ?h _ ?hv ?hn
 case I=>exact (fun v=>v.1=l∧v.2.1=l∧v.2.2.1=l.length∧0≤v.2.2.2.1∧v.2.2.2.1≤l.length∧v.2.2.2.2=(T,A,B,()))
 case m=>exact (fun v=>(l.length - v.2.2.2.1).toNat)
 case hv=>exact ⟨rfl,rfl,rfl,by first | omega | (dsimp only;omega),by first | omega | (dsimp only;omega),rfl⟩
 case hn=>exact (by first | omega | (dsimp only;omega))
 rintro ⟨x0,x1,x2,x3,x4,x5,x6,u⟩ hI;dsimp only at hI;obtain ⟨rfl,rfl,rfl,h0,h1,h2⟩:=hI;simp only [Prod.mk.injEq] at h2;obtain ⟨rfl,rfl,rfl,-⟩:=h2;unfold j5j;dsimp only;with_reducible repeat' (first | apply dP | apply dX<;>intro _)
 · refine dZ (b3w h _ _ hl (by omega)) ?_
   rintro ⟨b,u⟩ -
   dsimp only;rw [qh (n:=x3+1) (by omega)];with_reducible repeat' (first | apply dP | apply dX<;>intro _)
   · trivial
   · refine dZ (b4g h _) ?_
     rintro ⟨b,u⟩ -
     dsimp only;with_reducible repeat' (first | apply dP | apply dX<;>intro _)
     · trivial
     · exact ⟨⟨rfl,rfl,rfl,by first | omega | (dsimp only;omega),by first | omega | (dsimp only;omega),rfl⟩,by first | omega | (dsimp only;omega)⟩
   · exact ⟨⟨rfl,rfl,rfl,by first | omega | (dsimp only;omega),by first | omega | (dsimp only;omega),rfl⟩,by first | omega | (dsimp only;omega)⟩
 · refine dO ?_;omega
 · trivial
theorem b4u (h:TK T A B) (l:List Int) (hl:l.length≤1000000000000):Df (x1p (T,A,B,l,())) (fun y=>y.2=(T,A,B,l,())):=by
 show Df (x8f x1q _) _;unfold x8f;dsimp only;exact dZ (b4v h l hl) fun _ _=>dP rfl
theorem f2b (h:TK T A B) (l:List Int) (hl:l.length≤1000000000000):Df (q7h (T,A,B,l,())) (fun _=>True):=by
 show Df (v6k q5y j4e _) _;unfold v6k;dsimp only;refine dZ (P:=fun y=>y.1.length=8∧y.2.1.length=8) ?_ ?_
 · refine dL ?I ?m ?h _ ?hv ?hn
   case I=>exact (fun v=>v.1=l∧v.2.1=l.length∧0≤v.2.2.1∧v.2.2.1≤l.length∧v.2.2.2.1=T∧v.2.2.2.2.2.2.1.length=8∧v.2.2.2.2.2.2.2.1.length=8)
   case m=>exact (fun v=>(l.length - v.2.2.1).toNat)
   case hv=>exact ⟨rfl,rfl,by first | omega | (dsimp only;omega),by first | omega | (dsimp only;omega),rfl,rfl,rfl⟩
   case hn=>exact (by first | omega | (dsimp only;omega))
   rintro ⟨x0,x1,x2,x3,x4,x5,x6,x7,u⟩ hI;dsimp only at hI;obtain ⟨rfl,rfl,h0,h1,rfl,h2,h3⟩:=hI;unfold z3c;dsimp only;with_reducible repeat' (first | apply dP | apply dX<;>intro _)
   · refine dZ (g0k x3 _ _ _ h.t) ?_
     rintro ⟨b,u⟩ hb;dsimp only at hb ⊢;rw [qh (n:=x2+1) (by omega)];with_reducible repeat' (first | apply dP | apply dX<;>intro _)
     all_goals first
      | exact ⟨⟨rfl,rfl,by first | omega | (dsimp only;omega),by first | omega | (dsimp only;omega),rfl,h2,by simp only [List.length_set];omega⟩,by first | omega | (dsimp only;omega)⟩
      | (refine dO ?_;omega)
   · refine dO ?_;omega
   · exact ⟨h2,h3⟩
 · rintro ⟨x0,x1,u⟩ hx
   dsimp only at hx ⊢;with_reducible repeat' (first | apply dP | apply dX<;>intro _)
   all_goals first | trivial | (refine dO ?_;omega)
theorem f1x (h:TK T A B) (l:List Int) (hl:l.length≤1000000000000):Df (q5w (T,A,B,l,())) (fun _=>True):=by
 show Df (v6c q7h _) _;unfold v6c;dsimp only;exact dZ (f2b h l hl) fun _ _=>dP trivial
theorem b3y (h:TK T A B) (l:List Int):Df (j6r (T,A,B,l,())) (fun _=>True):=by
 show Df (v6l q5y _) _;unfold v6l;dsimp only;with_reducible repeat' (first | apply dP | apply dX<;>intro _)
 · trivial
 · refine dZ (g0k T A B _ h.t) ?_
   rintro ⟨b,u⟩ -
   dsimp only;with_reducible repeat' (first | apply dP | apply dX<;>intro _)
   all_goals trivial
 · refine dO ?_;omega
theorem g0f (x:Bool) (y:Bool) (z:List Int) (hz:z.length=8):Df (q7e (x,y,z,())) (fun _=>True):=by
 show Df (j4s q5w q7h j3j j6r _) _;unfold j4s;dsimp only;with_reducible repeat' (first | apply dP | apply dX<;>intro _)
 all_goals first | trivial | (refine dO ?_;omega) | (rename_i h1 h2;exact absurd (show Int.toNat 1<z.length by rw [hz];decide) h2)
theorem v0f (x:Int) (y:Bool) (z:List Int) (hz:z.length=8):Df (j4c (x,y,z,())) (fun _=>True):=by
 show Df (j4t q5w q7h j3j j6r q7e _) _;unfold j4t;dsimp only;with_reducible repeat' (first | apply dP | apply dX<;>intro _)
 all_goals exact dZ (g0f _ _ z hz) fun _ _=>dP trivial
end
section
variable {T:List R6} {A:List R4} {B:List R3}
theorem k1j (hA:A.length≤1000000000000) (a b:Int):Df (zi (a,b,T,A,B,())) (fun y=>y.2=(T,A,B,())):=by
 unfold zi v7q;dsimp only;refine dZ (v0j T A B _ hA) ?_;rintro ⟨x,u⟩ -
 exact dZ (v0j T A B _ hA) fun _ _=>dP rfl
theorem g1f (o n:Nat) (a b i j:Int) (row:List Int) (hj:1≤j∧j<n) (hn:n≤100000000000000) :
 Df (q1f (((o:Int),(n:Int)),a,b,i,j,row,T,A,B,())) (fun y=>∃(r':List Int),r'.length=row.length∧y=(((o:Int),(n:Int)),a,b,i,j - 1,r',T,A,B,())):=by
 unfold q1f j5q;dsimp only;simp only [Int.toNat_natCast];rw [qh (n:=j - 1) (by omega)];with_reducible repeat' (first | apply dP | apply dX<;>intro _)
 · exact ⟨_,by simp only [List.length_set],rfl⟩
 all_goals (refine dO ?_;omega)
theorem g1g (hA:A.length≤1000000000000) (o n:Nat) (a b i j:Int) (row:List Int) (ha:0≤a) (hj:a≤j∧j<n) (hn:n≤100000000000000) :
 Df (q8c (((o:Int),(n:Int)),a,b,i,j,row,T,A,B,())) (fun y=>∃(r':List Int),r'.length=row.length∧y=(((o:Int),(n:Int)),a,b,i,r',T,A,B,())):=by
 refine dL ?I ?m ?h _ ?hv ?hn
 case I=>exact (fun v=>∃(j':Int) (r':List Int),a≤j'∧j'<n∧r'.length=row.length∧v=(((o:Int),(n:Int)),a,b,i,j',r',T,A,B,()))
 case m=>exact (fun v=>(v.2.2.2.2.1 - a).toNat)
 case hv=>exact ⟨j,row,hj.1,hj.2,rfl,rfl⟩
 case hn=>exact (by first | omega | (dsimp only;omega))
 rintro v ⟨j',r',h1,h2,h3,rfl⟩;unfold j5r;dsimp only;simp only [Int.toNat_natCast];rw [qh (n:=j' - 1) (by omega)];with_reducible repeat' (first | apply dP | apply dX<;>intro _)
 · refine dZ (k1j hA _ _) ?_
   rintro ⟨c,t,a',b',u⟩ hc;simp only [Prod.mk.injEq] at hc;obtain ⟨rfl,rfl,rfl,-⟩:=hc;dsimp only;with_reducible repeat' (first | apply dP | apply dX<;>intro _)
   · refine dZ (g1f o n a b i j' r' (by omega) hn) ?_
     rintro y ⟨r2,h4,rfl⟩;dsimp only;simp only [Int.toNat_natCast];exact dP ⟨⟨_,_,by omega,by omega,h4.trans h3,rfl⟩,by first | omega | (dsimp only;omega)⟩
   · exact ⟨_,h3,rfl⟩
 · refine dO ?_;omega
 · refine dO ?_;omega
 · exact ⟨_,h3,rfl⟩
theorem f2s (hA:A.length≤1000000000000) (o n:Nat) (a b:Int) (row:List Int) (ha:0≤a∧a≤n) (hb:b≤n) (hn:n≤100000000000000) :
 Df (q8b (((o:Int),(n:Int)),a,b,row,T,A,B,())) (fun y=>∃(r':List Int),r'.length=row.length∧y=(r',T,A,B,())):=by
 unfold q8b v8m;dsimp only;simp only [Int.toNat_natCast];rw [qh (n:=a+1) (by omega)];refine dZ (P:=fun y=>∃(r':List Int),r'.length=row.length∧y=(r',T,A,B,())) ?_ ?_
 · refine dL ?I ?m ?h _ ?hv ?hn
   case I=>exact (fun v=>∃(i:Int) (r':List Int),a+1≤i∧r'.length=row.length∧v=(((o:Int),(n:Int)),a,b,i,r',T,A,B,()))
   case m=>exact (fun v=>(b - v.2.2.2.1).toNat)
   case hv=>exact ⟨a+1,row,Int.le_refl _,rfl,rfl⟩
   case hn=>exact (by first | omega | (dsimp only;omega))
   rintro v ⟨i,r',h1,h2,rfl⟩;unfold j5s;dsimp only;simp only [Int.toNat_natCast];with_reducible repeat' (first | apply dP | apply dX<;>intro _)
   · refine dZ (g1g hA o n a b i i r' ha.1 (by omega) hn) ?_
     rintro y ⟨r2,h4,rfl⟩;dsimp only;simp only [Int.toNat_natCast];rw [qh (n:=i+1) (by omega)];exact dP ⟨⟨_,_,by omega,h4.trans h2,rfl⟩,by first | omega | (dsimp only;omega)⟩
   · exact ⟨_,h2,rfl⟩
 · rintro y ⟨r',h,rfl⟩
   exact dP ⟨_,h,rfl⟩
theorem g1m (o n:Nat) (a b k:Int) (row:List Int) (ha:0≤a∧a+k≤n) (hb:0≤b∧b+k≤n) (hn:n≤100000000000000) :
 Df (j9h (((o:Int),(n:Int)),a,b,k,row,T,A,B,())) (fun y=>∃(r':List Int),r'.length=row.length∧y=(r',T,A,B,())):=by
 unfold j9h v8p;dsimp only;simp only [Int.toNat_natCast];refine dZ (P:=fun y=>∃(r':List Int),r'.length=row.length∧y=(r',T,A,B,())) ?_ ?_
 · refine dL ?I ?m ?h _ ?hv ?hn
   case I=>exact (fun v=>∃(i:Int) (r':List Int),0≤i∧r'.length=row.length∧v=(((o:Int),(n:Int)),a,b,k,i,r',T,A,B,()))
   case m=>exact (fun v=>(k - v.2.2.2.2.1).toNat)
   case hv=>exact ⟨0,row,Int.le_refl _,rfl,rfl⟩
   case hn=>exact (by first | omega | (dsimp only;omega))
   rintro v ⟨i,r',h1,h2,rfl⟩;unfold j5u;dsimp only;simp only [Int.toNat_natCast];by_cases hlt:i<k
   · rw [qh (n:=a+i) (by omega),qh (n:=b+i) (by omega),qh (n:=i+1) (by omega)]
     with_reducible repeat' (first | apply dP | apply dX<;>intro _)
     · exact ⟨⟨_,_,by omega,by simp only [List.length_set];exact h2,rfl⟩,by first | omega | (dsimp only;omega)⟩
     all_goals first | (refine dO ?_;omega) | (exfalso;omega)
   · rw [decide_eq_false hlt]
     exact dP ⟨_,h2,rfl⟩
 · rintro y ⟨r',h,rfl⟩
   exact dP ⟨_,h,rfl⟩
theorem b5x (o n:Nat) (a m b:Int) (row:List Int) (ha:0≤a∧a<m) (hb:m<b∧b≤n) (hn:n≤100000000000000) :
 Df (zu (((o:Int),(n:Int)),a,m,b,row,T,A,B,())) (fun y=>∃(r':List Int),r'.length=row.length∧y=(r',T,A,B,())):=by
 unfold zu v8o;dsimp only;simp only [Int.toNat_natCast];rw [qh (n:=m - a) (by omega),qh (n:=b - m) (by omega)];refine dZ (P:=fun y=>∃(i:Int) (r':List Int),0≤i∧i≤m - a∧m+i≤n∧r'.length=row.length∧y=(((o:Int),(n:Int)),m,i,r',T,A,B,())) ?_ ?_
 · refine dL ?I ?m ?h _ ?hv ?hn
   case I=>exact (fun v=>∃(i:Int) (j:Int) (r':List Int),0<i∧0<j∧i≤m - a∧j≤b - m∧r'.length=row.length∧v=(((o:Int),(n:Int)),m,i,j,r',T,A,B,()))
   case m=>exact (fun v=>(v.2.2.1+v.2.2.2.1).toNat)
   case hv=>exact ⟨m - a,b - m,row,by omega,by omega,Int.le_refl _,Int.le_refl _,rfl,rfl⟩
   case hn=>exact (by first | omega | (dsimp only;omega))
   rintro v ⟨i,j,r',h1,h2,h3,h4,h5,rfl⟩;unfold j5t;dsimp only;simp only [Int.toNat_natCast];rw [qh (n:=m - i) (by omega),qh (n:=i - j) (by omega),qh (n:=j - i) (by omega),qh (n:=m+j) (by omega),qh (n:=m+j - i) (by omega)];with_reducible repeat' (first | apply dP | apply dX<;>intro _)
   · refine dZ (g1m o n (m - i) m j r' (by omega) (by omega) hn) ?_
     rintro y ⟨r2,h6,rfl⟩;dsimp only;exact dP ⟨⟨_,_,_,by omega,by omega,by omega,by omega,h6.trans h5,rfl⟩,by first | omega | (dsimp only;omega)⟩
   · refine dZ (g1m o n (m - i) (m+j - i) i r' (by omega) (by omega) hn) ?_
     rintro y ⟨r2,h6,rfl⟩;dsimp only;exact dP ⟨⟨_,_,_,by omega,by omega,by omega,by omega,h6.trans h5,rfl⟩,by first | omega | (dsimp only;omega)⟩
   · exact ⟨_,_,by omega,by omega,by omega,h5,rfl⟩
 · rintro y ⟨i,r',h1,h2,h3,h4,rfl⟩
   dsimp only;simp only [Int.toNat_natCast];rw [qh (n:=m - i) (by omega)];refine dZ (g1m o n (m - i) m i r' (by omega) (by omega) hn) ?_;rintro y ⟨r2,h6,rfl⟩;exact dP ⟨_,h6.trans h4,rfl⟩
theorem g1h (G:jc) (hA:A.length≤1000000000000) (o n:Nat) (a i j:Int) (row:List Int) (ha:0≤a∧a<n) (hi:0≤i∧i≤j) (hj:j≤n) (hn:n≤100000000000000) :
 Df (xw G (((o:Int),(n:Int)),a,i,j,row,T,A,B,())) (fun y=>∃(i':Int),i≤i'∧i'≤j∧y=(((o:Int),(n:Int)),a,i',row,T,A,B,())):=by
 refine dL ?I ?m ?h _ ?hv ?hn
 case I=>exact (fun v=>∃(i':Int) (j':Int),i≤i'∧i'≤j'∧j'≤j∧v=(((o:Int),(n:Int)),a,i',j',row,T,A,B,()))
 case m=>exact (fun v=>(v.2.2.2.1 - v.2.2.1).toNat)
 case hv=>exact ⟨i,j,Int.le_refl _,hi.2,Int.le_refl _,rfl⟩
 case hn=>exact (by first | omega | (dsimp only;omega))
 rintro v ⟨i',j',h1,h2,h3,rfl⟩;unfold q8f;dsimp only;simp only [Int.toNat_natCast];rw [v2s (by omega) (by omega) (by omega),qh (n:=(i'+j')/2+1) (by omega)];with_reducible repeat' (first | apply dP | apply dX<;>intro _)
 · refine dZ (k1j hA _ _) ?_
   rintro ⟨c,t,a',b',u⟩ hc;simp only [Prod.mk.injEq] at hc;obtain ⟨rfl,rfl,rfl,-⟩:=hc;dsimp only;with_reducible repeat' (first | apply dP | apply dX<;>intro _)
   · exact ⟨⟨_,_,by omega,by omega,by omega,rfl⟩,by first | omega | (dsimp only;omega)⟩
   · exact ⟨⟨_,_,by omega,by omega,by omega,rfl⟩,by first | omega | (dsimp only;omega)⟩
 · refine dO ?_;omega
 · refine dO ?_;omega
 · exact ⟨_,by omega,by omega,rfl⟩
theorem g1j (G:jc) (hA:A.length≤1000000000000) (o n:Nat) (a i j:Int) (row:List Int) (ha:0≤a∧a<n) (hi:0≤i∧i≤j) (hj:j≤n) (hn:n≤100000000000000) :
 Df (xy G (((o:Int),(n:Int)),a,i,j,row,T,A,B,())) (fun y=>∃(i':Int),i≤i'∧i'≤j∧y=(((o:Int),(n:Int)),a,i',row,T,A,B,())):=by
 refine dL ?I ?m ?h _ ?hv ?hn
 case I=>exact (fun v=>∃(i':Int) (j':Int),i≤i'∧i'≤j'∧j'≤j∧v=(((o:Int),(n:Int)),a,i',j',row,T,A,B,()))
 case m=>exact (fun v=>(v.2.2.2.1 - v.2.2.1).toNat)
 case hv=>exact ⟨i,j,Int.le_refl _,hi.2,Int.le_refl _,rfl⟩
 case hn=>exact (by first | omega | (dsimp only;omega))
 rintro v ⟨i',j',h1,h2,h3,rfl⟩;unfold q8h;dsimp only;simp only [Int.toNat_natCast];rw [v2s (by omega) (by omega) (by omega),qh (n:=(i'+j')/2+1) (by omega)];with_reducible repeat' (first | apply dP | apply dX<;>intro _)
 · refine dZ (k1j hA _ _) ?_
   rintro ⟨c,t,a',b',u⟩ hc;simp only [Prod.mk.injEq] at hc;obtain ⟨rfl,rfl,rfl,-⟩:=hc;dsimp only;with_reducible repeat' (first | apply dP | apply dX<;>intro _)
   · exact ⟨⟨_,_,by omega,by omega,by omega,rfl⟩,by first | omega | (dsimp only;omega)⟩
   · exact ⟨⟨_,_,by omega,by omega,by omega,rfl⟩,by first | omega | (dsimp only;omega)⟩
 · refine dO ?_;omega
 · refine dO ?_;omega
 · exact ⟨_,by omega,by omega,rfl⟩
theorem g1i (G:jc) (o n:Nat) (i k:Int) (row:List Int) (hk:0≤k) (hi:i≤n) (hn:n≤100000000000000) (hi0:0≤i) :
 Df (xx G (((o:Int),(n:Int)),i,k,row,T,A,B,())) (fun y=>∃(r':List Int),r'.length=row.length∧y=(r',T,A,B,())):=by
 refine dL ?I ?m ?h _ ?hv ?hn
 case I=>exact (fun v=>∃(k':Int) (r':List Int),0≤k'∧r'.length=row.length∧v=(((o:Int),(n:Int)),i,k',r',T,A,B,()))
 case m=>exact (fun v=>(i - v.2.2.1).toNat)
 case hv=>exact ⟨k,row,hk,rfl,rfl⟩
 case hn=>exact (by first | omega | (dsimp only;omega))
 rintro v ⟨k',r',h1,h2,rfl⟩;unfold q8g;dsimp only;simp only [Int.toNat_natCast];rw [qh (n:=i - 1) (by omega)];by_cases hlt:k'<i - 1
 · rw [qh (n:=k'+1) (by omega)]
   with_reducible repeat' (first | apply dP | apply dX<;>intro _)
   · exact ⟨⟨_,_,by omega,by simp only [List.length_set];exact h2,rfl⟩,by first | omega | (dsimp only;omega)⟩
   all_goals first | (refine dO ?_;omega) | (exfalso;omega)
 · rw [decide_eq_false hlt]
   exact dP ⟨_,h2,rfl⟩
theorem g1k (G:jc) (o n:Nat) (i k:Int) (row:List Int) (hk:k<n) (hi:0≤i) (hn:n≤100000000000000) :
 Df (xz G (((o:Int),(n:Int)),i,k,row,T,A,B,())) (fun y=>∃(r':List Int),r'.length=row.length∧y=(r',T,A,B,())):=by
 refine dL ?I ?m ?h _ ?hv ?hn
 case I=>exact (fun v=>∃(k':Int) (r':List Int),k'<n∧r'.length=row.length∧v=(((o:Int),(n:Int)),i,k',r',T,A,B,()))
 case m=>exact (fun v=>(v.2.2.1 - i).toNat)
 case hv=>exact ⟨k,row,hk,rfl,rfl⟩
 case hn=>exact (by first | omega | (dsimp only;omega))
 rintro v ⟨k',r',h1,h2,rfl⟩;unfold q8i;dsimp only;simp only [Int.toNat_natCast];by_cases hlt:k'>i
 · rw [qh (n:=k' - 1) (by omega)]
   with_reducible repeat' (first | apply dP | apply dX<;>intro _)
   · exact ⟨⟨_,_,by omega,by simp only [List.length_set];exact h2,rfl⟩,by first | omega | (dsimp only;omega)⟩
   all_goals first | (refine dO ?_;omega) | (exfalso;omega)
 · rw [decide_eq_false hlt]
   exact dP ⟨_,h2,rfl⟩
theorem g1l (G:jc) (hA:A.length≤1000000000000) (o n:Nat) (a m b mid s st r p:Int) (row:List Int) (h0:0≤st∧st≤r) (hr:r≤n) (hp:0≤p - r+1∧p - st<n) (hn:n≤100000000000000) :
 Df (kb G (((o:Int),(n:Int)),a,m,b,mid,s,st,r,p,row,T,A,B,())) (fun y=>∃(st':Int),st≤st'∧st'≤r∧y=(((o:Int),(n:Int)),a,m,b,mid,s,st',row,T,A,B,())):=by
 refine dL ?I ?m ?h _ ?hv ?hn
 case I=>exact (fun v=>∃(i':Int) (j':Int),st≤i'∧i'≤j'∧j'≤r∧v=(((o:Int),(n:Int)),a,m,b,mid,s,i',j',p,row,T,A,B,()))
 case m=>exact (fun v=>(v.2.2.2.2.2.2.2.1 - v.2.2.2.2.2.2.1).toNat)
 case hv=>exact ⟨st,r,Int.le_refl _,h0.2,Int.le_refl _,rfl⟩
 case hn=>exact (by first | omega | (dsimp only;omega))
 rintro v ⟨i',j',h1,h2,h3,rfl⟩;unfold q8j;dsimp only;simp only [Int.toNat_natCast];rw [v2s (by omega) (by omega) (by omega)];by_cases hlt:i'<j'
 · rw [qh (n:=(i'+j')/2+1) (by omega),qh (n:=p - (i'+j')/2) (by omega)]
   with_reducible repeat' (first | apply dP | apply dX<;>intro _)
   · refine dZ (k1j hA _ _) ?_
     rintro ⟨c,t,a',b',u⟩ hc;simp only [Prod.mk.injEq] at hc;obtain ⟨rfl,rfl,rfl,-⟩:=hc;dsimp only;with_reducible repeat' (first | apply dP | apply dX<;>intro _)
     · exact ⟨⟨_,_,by omega,by omega,by omega,rfl⟩,by first | omega | (dsimp only;omega)⟩
     · exact ⟨⟨_,_,by omega,by omega,by omega,rfl⟩,by first | omega | (dsimp only;omega)⟩
   all_goals first | (refine dO ?_;omega) | (exfalso;omega)
 · rw [decide_eq_false hlt]
   exact dP ⟨_,by omega,by omega,rfl⟩
def Mg (T:List R6) (A:List R4) (B:List R3) (G:jc) (o n:Nat) (k:Int):Prop:=∀(a m b:Int) (row:List Int),0≤a→a<m→m<b→b≤n→b - a<k →
 Df (G (((o:Int),(n:Int)),a,m,b,row,T,A,B,())) (fun y=>∃(r':List Int),r'.length=row.length∧y=(r',T,A,B,()))
theorem k1l (G:jc) (o n:Nat) (k:Int) (hG:Mg T A B G o n k) (b mid e:Int) (row:List Int) (h:0≤mid∧b≤n∧b - mid<k) :
 Df (xd G (((o:Int),(n:Int)),b,mid,e,row,T,A,B,())) (fun y=>∃(r':List Int),r'.length=row.length∧y=(r',T,A,B,())):=by
 show Df (q3w zi G zu _) _;unfold q3w;dsimp only;simp only [Int.toNat_natCast];with_reducible repeat' (first | apply dP | apply dX<;>intro _)
 · refine dZ (hG mid e b row (by omega) (by omega) (by omega) (by omega) (by omega)) ?_
   rintro y ⟨r',h,rfl⟩;exact dP ⟨_,h,rfl⟩
 · exact ⟨_,rfl,rfl⟩
 · exact ⟨_,rfl,rfl⟩
theorem k1m (G:jc) (o n:Nat) (k:Int) (hG:Mg T A B G o n k) (a b mid st e:Int) (row:List Int) (h0:0≤a∧mid≤n∧mid - a<k) (h:0≤mid∧b≤n∧b - mid<k) :
 Df (xe G (((o:Int),(n:Int)),a,b,mid,st,e,row,T,A,B,())) (fun y=>∃(r':List Int),r'.length=row.length∧y=(r',T,A,B,())):=by
 show Df (q3x zi G zu (xd G) _) _;unfold q3x;dsimp only;simp only [Int.toNat_natCast];have za:∀r0:List Int,r0.length=row.length→Df ((xd G (((o:Int),(n:Int)),b,mid,e,r0,T,A,B,())).bind fun val=>some (val.fst,val.snd.fst,val.snd.snd.fst,val.snd.snd.snd.fst,())) (fun y=>∃(r':List Int),r'.length=row.length∧y=(r',T,A,B,())):=by
  intro r0 hr;refine dZ (k1l G o n k hG b mid e r0 h) ?_;rintro y ⟨r',h,rfl⟩;exact dP ⟨_,h.trans hr,rfl⟩
 with_reducible repeat' (first | apply dP | apply dX<;>intro _)
 · refine dZ (hG a st mid row (by omega) (by omega) (by omega) (by omega) (by omega)) ?_
   rintro y ⟨r',h,rfl⟩;exact za r' h
 · exact za row rfl
 · exact za row rfl
theorem y9b (G:jc) (hA:A.length≤1000000000000) (o n:Nat) (k:Int) (hG:Mg T A B G o n k) (a m b mid s st r:Int) (row:List Int) (hn:n≤100000000000000) (hs:s=mid+m) (h0:0≤st∧st≤r) (hr:r≤n) (hp:0≤s - r∧s - st≤n)
 (ha:0≤a∧mid≤n∧mid - a<k) (h:0≤mid∧b≤n∧b - mid<k) (hm:m≤n) :
 Df (xv G (((o:Int),(n:Int)),a,m,b,mid,s,st,r,row,T,A,B,())) (fun y=>∃(r':List Int),r'.length=row.length∧y=(r',T,A,B,())):=by
 show Df (q3y zi G zu (xe G) (kb G) _) _;unfold q3y;dsimp only;simp only [Int.toNat_natCast];rw [qh (n:=s - 1) (by omega)];refine dZ (g1l G hA o n a m b mid s st r (s - 1) row h0 hr (by omega) hn) ?_;rintro y ⟨st',h1,h2,rfl⟩;dsimp only;simp only [Int.toNat_natCast];rw [qh (n:=s - st') (by omega)];have za:∀r0:List Int,r0.length=row.length→Df ((xe G (((o:Int),(n:Int)),a,b,mid,st',s - st',r0,T,A,B,())).bind fun val=>some (val.fst,val.snd.fst,val.snd.snd.fst,val.snd.snd.snd.fst,())) (fun y=>∃(r':List Int),r'.length=row.length∧y=(r',T,A,B,())):=by
  intro r0 hr0;refine dZ (k1m G o n k hG a b mid st' (s - st') r0 ha h) ?_;rintro y ⟨r',h,rfl⟩;exact dP ⟨_,h.trans hr0,rfl⟩
 with_reducible repeat' (first | apply dP | apply dX<;>intro _)
 · refine dZ (b5x o n st' m (s - st') row (by omega) (by omega) hn) ?_
   rintro y ⟨r',h,rfl⟩;exact za r' h
 · exact za row rfl
 · exact za row rfl
def q5k (G:jc):jc:=z7b zi G zu (xv G) (xw G) (xx G) (xy G) (xz G)
theorem w4t (hA:A.length≤1000000000000) (o n:Nat) (hn:n≤100000000000000):∀k:Nat,Mg T A B (q0v q5k k) o n (k:Int)
 | 0=>fun a m b row h0 h1 h2 h3 h4=>by omega
 | k+1=>fun a m b row h0 h1 h2 h3 h4=>by
  have hG:=w4t hA o n hn k;show Df (q5k (q0v q5k k) _) _;generalize q0v q5k k=G at hG ⊢;show Df (z7b zi G zu (xv G) (xw G) (xx G) (xy G) (xz G) _) _;unfold z7b;dsimp only;simp only [Int.toNat_natCast];rw [qh (n:=m - a) (by omega),qh (n:=b - m) (by omega),v2s (by omega) (by omega) (by omega),qh (n:=(a+b)/2+m) (by omega),qh (n:=(a+b)/2+m - b) (by omega)];have za:∀{x:Option (List Int×List R6×List R4×List R3×Unit)},Df x (fun y=>∃(r':List Int),r'.length=row.length∧y=(r',T,A,B,()))→Df (x.bind fun val=>some (val.fst,val.snd.fst,val.snd.snd.fst,val.snd.snd.snd.fst,())) (fun y=>∃(r':List Int),r'.length=row.length∧y=(r',T,A,B,())):=by
   intro x hx;refine dZ hx ?_;rintro y ⟨r',h,rfl⟩;exact dP ⟨_,h,rfl⟩
  with_reducible repeat' (first | apply dP | apply dX<;>intro _)
  · refine dZ (g1h G hA o n a m b row (by omega) (by omega) (by omega) hn) ?_
    rintro y ⟨i',h5,h6,rfl⟩;dsimp only;simp only [Int.toNat_natCast];exact za (g1i G o n i' a row (by omega) (by omega) hn (by omega))
  · refine dZ (g1j G hA o n m a m row (by omega) (by omega) (by omega) hn) ?_
    rintro y ⟨i',h5,h6,rfl⟩;dsimp only;simp only [Int.toNat_natCast];exact za (g1k G o n i' m row (by omega) (by omega) hn)
  · exact za (y9b G hA o n k hG a m b ((a+b)/2) ((a+b)/2+m) ((a+b)/2+m - b) ((a+b)/2) row hn rfl (by omega) (by omega) (by omega) (by omega) (by omega) (by omega))
  · exact za (y9b G hA o n k hG a m b ((a+b)/2) ((a+b)/2+m) a m row hn rfl (by omega) (by omega) (by omega) (by omega) (by omega) (by omega))
theorem f2t (hA:A.length≤1000000000000) (o n:Nat) (hn:n≤100000000000000) (a m b:Int) (row:List Int) (h0:0≤a) (h1:a<m) (h2:m<b) (h3:b≤n) :
 Df (j3o (((o:Int),(n:Int)),a,m,b,row,T,A,B,())) (fun y=>∃(r':List Int),r'.length=row.length∧y=(r',T,A,B,())):=by
 show Df (q0v q5k je _) _;exact w4t hA o n hn je a m b row h0 h1 h2 h3 (by unfold je;omega)
theorem g1c (hA:A.length≤1000000000000) (o n:Nat) (hn:n≤100000000000000) (row:List Int) :
 Df (q7z (((o:Int),(n:Int)),(n:Int),20,0,20,row,T,A,B,())) (fun y=>∃(a:Int) (r':List Int),0≤a∧a≤n∧r'.length=row.length∧y=(((o:Int),(n:Int)),(n:Int),20,a,r',T,A,B,())):=by
 refine dL ?I ?m ?h _ ?hv ?hn
 case I=>exact (fun v=>∃(a:Int) (r':List Int),0≤a∧a≤n∧r'.length=row.length∧v=(((o:Int),(n:Int)),(n:Int),20,a,a+20,r',T,A,B,()))
 case m=>exact (fun v=>(n - v.2.2.2.1).toNat)
 case hv=>exact ⟨0,row,Int.le_refl _,by omega,rfl,rfl⟩
 case hn=>exact (by first | omega | (dsimp only;omega))
 rintro v ⟨a,r',h1,h2,h3,rfl⟩;unfold j5n;dsimp only;simp only [Int.toNat_natCast];rw [qh (n:=a+20+20) (by omega)];with_reducible repeat' (first | apply dP | apply dX<;>intro _)
 · refine dZ (f2s hA o n a (a+20) r' (by omega) (by omega) hn) ?_
   rintro y ⟨r2,h4,rfl⟩;exact dP ⟨⟨a+20,r2,by omega,by omega,h4.trans h3,rfl⟩,by first | omega | (dsimp only;omega)⟩
 · exact ⟨_,_,h1,h2,h3,rfl⟩
theorem g1d (hA:A.length≤1000000000000) (o n:Nat) (hn:n≤100000000000000) (bs:Int) (hbs:1≤bs∧bs≤n) (row:List Int) :
 Df (q8a (((o:Int),(n:Int)),(n:Int),bs,0,2*bs,row,T,A,B,())) (fun y=>∃(a:Int) (r':List Int),0≤a∧a≤n∧r'.length=row.length∧y=(((o:Int),(n:Int)),(n:Int),bs,a,r',T,A,B,())):=by
 refine dL ?I ?m ?h _ ?hv ?hn
 case I=>exact (fun v=>∃(a:Int) (r':List Int),0≤a∧a≤n∧r'.length=row.length∧v=(((o:Int),(n:Int)),(n:Int),bs,a,a+2*bs,r',T,A,B,()))
 case m=>exact (fun v=>(n - v.2.2.2.1).toNat)
 case hv=>exact ⟨0,row,Int.le_refl _,by omega,rfl,by rw [Int.zero_add]⟩
 case hn=>exact (by first | omega | (dsimp only;omega))
 rintro v ⟨a,r',h1,h2,h3,rfl⟩;unfold j5o;dsimp only;simp only [Int.toNat_natCast];rw [qh (n:=2*bs) (by omega),qh (n:=a+bs) (by omega),qh (n:=a+2*bs+2*bs) (by omega)];with_reducible repeat' (first | apply dP | apply dX<;>intro _)
 · refine dZ (f2t hA o n hn a (a+bs) (a+2*bs) r' (by omega) (by omega) (by omega) (by omega)) ?_
   rintro y ⟨r2,h4,rfl⟩;exact dP ⟨⟨a+2*bs,r2,by omega,by omega,h4.trans h3,rfl⟩,by first | omega | (dsimp only;omega)⟩
 · exact ⟨_,_,h1,h2,h3,rfl⟩
theorem b5q (hA:A.length≤1000000000000) (o n:Nat) (hn:n≤100000000000000) (row:List Int) :
 Df (y1a (((o:Int),(n:Int)),(n:Int),row,T,A,B,())) (fun y=>∃(r':List Int),r'.length=row.length∧y=(r',T,A,B,())):=by
 unfold y1a v8f;dsimp only;simp only [Int.toNat_natCast];refine dZ (g1c hA o n hn row) ?_;rintro y ⟨a,r1,h1,h2,h3,rfl⟩;dsimp only;simp only [Int.toNat_natCast];refine dZ (f2s hA o n a n r1 (by omega) (by omega) hn) ?_;rintro y ⟨r2,h4,rfl⟩;dsimp only;refine dZ (P:=fun y=>∃(r':List Int),r'.length=row.length∧y=(r',T,A,B,())) ?_ ?_
 · refine dL ?I ?m ?h _ ?hv ?hn
   case I=>exact (fun v=>∃(bs:Int) (r':List Int),1≤bs∧bs≤400000000000000∧r'.length=row.length∧v=(((o:Int),(n:Int)),(n:Int),bs,r',T,A,B,()))
   case m=>exact (fun v=>(n - v.2.2.1).toNat)
   case hv=>exact ⟨20,r2,by omega,by omega,h4.trans h3,rfl⟩
   case hn=>exact (by first | omega | (dsimp only;omega))
   rintro v ⟨bs,r',h5,h6,h7,rfl⟩;unfold j5p;dsimp only;simp only [Int.toNat_natCast];rw [qh (n:=2*bs) (by omega)];with_reducible repeat' (first | apply dP | apply dX<;>intro _)
   · refine dZ (g1d hA o n hn bs (by omega) r') ?_
     rintro y ⟨a,r3,h8,h9,h10,rfl⟩;dsimp only;simp only [Int.toNat_natCast];rw [qh (n:=a+bs) (by omega),qh (n:=bs*2) (by omega)];with_reducible repeat' (first | apply dP | apply dX<;>intro _)
     · refine dZ (f2t hA o n hn a (a+bs) n r3 (by omega) (by omega) (by omega) (by omega)) ?_
       rintro y ⟨r4,h11,rfl⟩;exact dP ⟨⟨_,_,by omega,by omega,(h11.trans h10).trans h7,rfl⟩,by first | omega | (dsimp only;omega)⟩
     · exact ⟨⟨_,_,by omega,by omega,h10.trans h7,rfl⟩,by first | omega | (dsimp only;omega)⟩
   · exact ⟨_,h7,rfl⟩
 · rintro y ⟨r',h,rfl⟩
   exact dP ⟨_,h,rfl⟩
theorem b5c (hA:A.length≤1000000000000) (o n:Nat) (hn:n≤100000000000000) (row:List Int) :
 Df (j3n (((o:Int),(n:Int)),row,T,A,B,())) (fun y=>∃(r':List Int),r'.length=row.length∧y=(r',T,A,B,())):=by
 unfold j3n v7p;dsimp only;simp only [Int.toNat_natCast];refine dZ (b5q hA o n hn row) ?_;rintro y ⟨r',h,rfl⟩;exact dP ⟨_,h,rfl⟩
theorem g0q (hA:A.length≤1000000000000) (f k:Int) (row:List Int) (hf:0≤f∧f≤k) (hk:k≤row.length) (hn:row.length≤35184372088832) :
 Df (vz (f,k,T,A,B,row,())) (fun y=>∃(r':List Int),r'.length=row.length∧y=(k+1,k,T,A,B,r',())):=by
 unfold vz j5d;dsimp only;rw [qh (n:=k+1) (by omega)];with_reducible repeat' (first | apply dP | apply dX<;>intro _)
 · refine dZ (b5c hA f.toNat (k.toNat - f.toNat) (by omega) row) ?_
   rintro y ⟨r',h,rfl⟩;exact dP ⟨_,h,rfl⟩
 · refine dO ?_;omega
 · refine dO ?_;omega
theorem f2h (hA:A.length≤1000000000000) (l:List Int) (hl:l.length≤35184372088832):Df (y0w (T,A,B,l,())) (fun y=>y.1.length=l.length):=by
 unfold y0w v6z;dsimp only;refine dZ (P:=fun y=>y.1=l) ?_ ?_
 · unfold j9e
   dsimp only;with_reducible repeat' (first | apply dP | apply dX<;>intro _)
   · rfl
   · refine dO ?_;omega
 rintro ⟨l',u⟩ hl';dsimp only at hl' ⊢;subst hl';refine dZ (P:=fun y=>y.1.length=l'.length) ?_ (fun _ h=>dP h);refine dL ?I ?m ?h _ ?hv ?hn
 case I=>exact (fun v=>∃(f:Int) (k:Int) (r':List Int),0≤f∧f≤k∧k≤l'.length+1∧r'.length=l'.length∧v=(f,k,T,A,B,r',()))
 case m=>exact (fun v=>(l'.length+1 - v.2.1).toNat)
 case hv=>exact ⟨0,0,l',Int.le_refl _,Int.le_refl _,by omega,rfl,rfl⟩
 case hn=>exact (by first | omega | (dsimp only;omega))
 rintro v ⟨f,k,r',h1,h2,h3,h4,rfl⟩;unfold j5e;dsimp only;rw [qh (n:=k+1) (by omega)];have za:k≤r'.length→Df ((vz (f,k,T,A,B,r',())).bind fun val=>some (Sum.inl (val.fst,IntKind.i64.wrap (val.snd.fst+1),val.snd.snd.fst,val.snd.snd.snd.fst,val.snd.snd.snd.snd.fst,val.snd.snd.snd.snd.snd.fst,())))
  (Sum.elim (fun v':Int×Int×List R6×List R4×List R3×List Int×Unit=>(∃(f:Int) (k:Int) (r':List Int),0≤f∧f≤k∧k≤l'.length+1∧r'.length=l'.length∧v'=(f,k,T,A,B,r',()))∧(l'.length+1 - v'.2.1).toNat<(l'.length+1 - k).toNat) (fun y:List Int×Unit=>y.1.length=l'.length)):=by
  intro hk;refine dZ (g0q hA f k r' (by omega) hk (by omega)) ?_;rintro y ⟨r2,h5,rfl⟩;dsimp only;rw [qh (n:=k+1) (by omega)];exact dP ⟨⟨_,_,_,by omega,by omega,by omega,h5.trans h4,rfl⟩,by first | omega | (dsimp only;omega)⟩
 with_reducible repeat' (first | apply dP | apply dX<;>intro _)
 · refine dZ (v0j T A B _ hA) ?_
   rintro ⟨c,u⟩ -
   dsimp only;with_reducible repeat' (first | apply dP | apply dX<;>intro _)
   · exact ⟨⟨_,_,_,by omega,by omega,by omega,h4,rfl⟩,by first | omega | (dsimp only;omega)⟩
   · exact za (by omega)
 · refine dO ?_;omega
 · exact za (by omega)
 · exact h4
end
section
variable {T:List R6} {A:List R4} {B:List R3}
theorem j8a (f:Int→Option Int) (h:∀x,∃y,f x=some y):∀l:List (Int×Int),∃y,z5g f l=some y
 | []=>⟨0,rfl⟩
 | x::l=>by
  obtain ⟨b,hb⟩:=h x.2;simp only [z5g,hb,Option.bind_some];cases (b != 6) with
  | true=>exact ⟨b,rfl⟩
  | false=>exact j8a f h l
theorem b3x (h:TK T A B) (l:List Int) (hl:l.length≤1000000000000):Df (j3j (T,A,B,l,())) (fun _=>True):=by
 unfold j3j;dsimp only;rw [decide_eq_true hl];obtain ⟨y,hy⟩:=j8a (fun x=>(q5y (T,A,B,x,())).map fun r=>r.1) (fun x=>by
  obtain ⟨y,e,-⟩:=g0k T A B x h.t;exact ⟨y.1,by simp only [e,Option.map_some]⟩) (bk l)
 exact ⟨(y,()),by simp only [cond_true,hy,Option.map_some],trivial⟩
theorem b3q (h:TK T A B) (l:List Int) (hl:l.length≤1000000000000):Df (y0q (T,A,B,l,())) (fun _=>True):=by
 unfold y0q w7n;dsimp only;refine dZ (f2b h l hl) ?_;rintro ⟨z0,z1,z2,z3,z4,z5,z6,z7,u⟩ -
 refine dZ (b3x h l hl) ?_;rintro ⟨e,u⟩ -
 refine dZ (b3y h l) ?_;rintro ⟨s,u⟩ -
 dsimp only;with_reducible repeat' (first | apply dP | apply dX<;>intro _)
 · exact dZ (v0f _ _ _ rfl) fun _ _=>dP trivial
 · exact dZ (v0f _ _ _ rfl) fun _ _=>dP trivial
 · refine dZ (f1x h l hl) ?_
   rintro ⟨b,u⟩ -
   dsimp only;with_reducible repeat' (first | apply dP | apply dX<;>intro _)
   all_goals trivial
 · trivial
theorem b4w (h:TK T A B) (l:List Int) (hl:l.length≤1000000000000):Df (x6h (T,A,B,l,())) (fun y=>y.2=(T,A,B,l,())):=by
 unfold x6h w7s;dsimp only;refine dZ (f1x h l hl) ?_;rintro ⟨b,u⟩ -
 dsimp only;with_reducible repeat' (first | apply dP | apply dX<;>intro _)
 · exact dZ (b3q h l hl) fun _ _=>dP rfl
 · rfl
theorem b4e (h:TK T A B) (s:List UInt8) (a b:Bool) (hs:s.length≤100000000000):Df (y0u (T,A,B,s,a,b,())) (fun y=>y.1.length≤384*s.length):=by
 unfold y0u v6p;dsimp only;refine dZ (d83 s (by omega)) ?_;rintro ⟨l,at_,u⟩ hl;dsimp only at hl ⊢;with_reducible repeat' (first | apply dP | apply dX<;>intro _)
 · exact (by simp:([]:List UInt8).length≤384*s.length)
 · refine dZ (f2i T A B l a (by omega)) ?_
   rintro ⟨l2,u⟩ h2;dsimp only at h2 ⊢;refine dZ (f2h h.a l2 (by omega)) ?_;rintro ⟨l3,u⟩ h3;dsimp only at h3 ⊢;with_reducible repeat' (first | apply dP | apply dX<;>intro _)
   · refine dZ (f2j T A B l3 (by omega) h.a) ?_
     rintro ⟨l4,u⟩ h4;dsimp only at h4 ⊢;refine dZ (x4w l4 (by omega)) ?_;rintro ⟨s5,b5,u⟩ h5;exact dP (by dsimp only at h5 ⊢;omega)
   · refine dZ (x4w l3 (by omega)) ?_
     rintro ⟨s5,b5,u⟩ h5;exact dP (by dsimp only at h5 ⊢;omega)
theorem g0i (h:TK T A B) (s:List UInt8) (hs:s.length≤100000000000):Df (z1w (T,A,B,s,())) (fun y=>y.1.length≤384*s.length):=by
 unfold z1w v6j;dsimp only;refine dZ (b4e h s false true hs) ?_;rintro ⟨x,b,u⟩ hx;exact dP hx
theorem k1g (h:TK T A B) (s:List UInt8) (hs:s.length≤10000000000):Df (j1n (T,A,B,s,())) (fun y=>y.1.length≤1536*s.length):=by
 unfold j1n x7x;dsimp only;refine dZ (d83 s (by omega)) ?_;rintro ⟨l,at_,u⟩ hl;dsimp only at hl ⊢;with_reducible repeat' (first | apply dP | apply dX<;>intro _)
 · exact (by simp:([]:List UInt8).length≤1536*s.length)
 · refine dZ (f2a T A B l (by omega)) ?_
   rintro ⟨l2,u⟩ h2;dsimp only at h2 ⊢;refine dZ (f1z T A B h.b l2 (by omega)) ?_;rintro ⟨l3,u⟩ h3;dsimp only at h3 ⊢;refine dZ (x4w l3 (by omega)) ?_;rintro ⟨s4,b4,u⟩ h4;dsimp only at h4 ⊢;refine dZ (g0i h s4 (by omega)) ?_;rintro ⟨s5,b5,u⟩ h5;exact dP (by dsimp only at h5 ⊢;omega)
theorem g0e (a b:List UInt8):Df (z6j (a,b,())) (fun y=>y.1=true→b.length≤a.length):=by
 unfold z6j v5x;dsimp only;with_reducible repeat' (first | apply dP | apply dX<;>intro _)
 · intro _;dsimp only at *;omega
 · refine dO ?_;omega
 · intro h;cases h
theorem b3v (a b:List UInt8):Df (x1g (a,b,())) (fun y=>y.1.length≤a.length):=by
 unfold x1g v6i;dsimp only;refine dZ (g0e a b) ?_;rintro ⟨x,u⟩ hx;dsimp only at hx ⊢;with_reducible repeat' (first | apply dP | apply dX<;>intro _)
 · exact Nat.le_refl _
 · exact (by simp:(List.drop _ a).length≤a.length)
 · rename_i h1 h2
   have:=hx h1;refine dO ?_;omega
theorem f1w (a b:List UInt8):Df (y0p (a,b,())) (fun y=>y.1.length≤a.length):=by
 unfold y0p v5y;dsimp only;refine dZ (b3v a b) ?_;rintro ⟨x,b,u⟩ hx;exact dP hx
theorem d96 (a b:List UInt8):Df (C96 (a,b,())) (fun _=>True):=by
 unfold C96 F96;dsimp only;exact dZ (g0e a b) fun _ _=>dP trivial
theorem b5v (a b:List UInt8) (ha:a.length≤1000000000000000) (hb:b.length≤1000000000000000):Df (x6r (a,b,())) (fun _=>True):=by
 unfold x6r w7z;dsimp only;rw [qh (n:=(a.length:Int) - (b.length:Int)) (by omega)];with_reducible repeat' (first | apply dP | apply dX<;>intro _)
 · trivial
 · refine dO ?_;omega
 · trivial
theorem b5m (a b:List UInt8) (ha:a.length≤1000000000000000) (hb:b.length≤1000000000000000):Df (x6n (a,b,())) (fun _=>True):=by
 unfold x6n w7x;dsimp only;exact dZ (b5v a b ha hb) fun _ _=>dP trivial
theorem f2n (a:List UInt8) (ha:a.length≤1000000000000000):Df (y0y (a,())) (fun _=>True):=by
 unfold y0y w7r;dsimp only;refine dZ (d96 _ _) ?_;rintro ⟨x,u⟩ -
 dsimp only;with_reducible repeat' (first | apply dP | apply dX<;>intro _)
 · trivial
 · refine dZ (b5m _ _ ha (by simp)) ?_
   rintro ⟨x,u⟩ -
   dsimp only;with_reducible repeat' (first | apply dP | apply dX<;>intro _)
   · trivial
   · trivial
   · refine dO ?_;omega
   · trivial
theorem b4s (a:List UInt8) (ha:a.length≤1000000000000000):Df (y0x (a,())) (fun y=>y.2.1=a):=by
 unfold y0x v7j;dsimp only;exact dZ (f2n a ha) fun _ _=>dP rfl
theorem b4r (h:TK T A B) (s:List UInt8) (hs:s.length≤100000000000):Df (x6g (T,A,B,s,())) (fun _=>True):=by
 unfold x6g w7q;dsimp only;refine dZ (g0i h s hs) ?_;rintro ⟨x,b,u⟩ -
 dsimp only;with_reducible repeat' (first | apply dP | apply dX<;>intro _)
 all_goals trivial
theorem b4q (h:TK T A B) (s:List UInt8) (hs:s.length≤100000000000):Df (z6u (s,T,A,B,())) (fun y=>y.2=(s,T,A,B,())∧(y.1=false→0<s.length)):=by
 unfold z6u x8e;dsimp only;refine dZ (d21 s (by omega)) ?_;rintro ⟨x,u⟩ hx;dsimp only at hx ⊢;with_reducible repeat' (first | apply dP | apply dX<;>intro _)
 · exact ⟨rfl,fun h=>by cases h⟩
 · refine dZ (b4r h s hs) ?_
   rintro ⟨x,u⟩ -
   exact dP ⟨rfl,fun _=>by omega⟩
theorem b4t (h:TK T A B) (l:List Int) (hl:0<l.length):Df (y0z (T,A,B,l,())) (fun y=>y.2=(T,A,B,l,())):=by
 unfold y0z v7k;dsimp only;with_reducible repeat' (first | apply dP | apply dX<;>intro _)
 · exact dZ (f2d T A B _ h.t) fun _ _=>dP rfl
 · refine dO ?_;omega
theorem b4p (a:Int):Df (x6f (a,())) (fun y=>y.2.1=a∧(y.1=false→a<0)):=by
 unfold x6f w7p;dsimp only;refine dP ⟨rfl,fun h => ?_⟩;dsimp only at h;simp only [decide_eq_false_iff_not] at h;omega
theorem b4x (l:List Int) (a:List UInt8) (b:Bool) (hl:l.length≤1000000000000):Df (x6i (l,a,b,())) (fun y=>y.2.1=l):=by
 unfold x6i w7t;dsimp only;exact dZ (g0l l hl) fun _ _=>dP rfl
theorem b4y (a:List UInt8):Df (x6j (a,())) (fun _=>True):=by
 unfold x6j w7u;dsimp only;exact dP trivial
theorem b4o (h:TK T A B) (a0 a1 a2 a3 a4 a5 a6 a7:Int) (at_:Int) (s:List UInt8) (l:List Int) (c:List UInt8) (d:Bool) (hs:s.length≤100000000000) (hl:l.length≤100000000000) (h0:at_<0→0<s.length→0<l.length) :
 Df (z6t (a0,a1,a2,a3,a4,a5,a6,a7,at_,s,T,A,B,l,c,d,())) (fun _=>True):=by
 unfold z6t x8d;dsimp only;refine dZ (b4p at_) ?_;rintro ⟨b,at',u⟩ hb;dsimp only at hb ⊢;obtain ⟨rfl,hb⟩:=hb;with_reducible repeat' (first | apply dP | apply dX<;>intro _)
 · trivial
 · rename_i h1
   refine dZ (b4q h s hs) ?_;rintro ⟨b2,y⟩ ⟨hy,h2⟩;dsimp only at hy h2;subst hy;dsimp only;with_reducible repeat' (first | apply dP | apply dX<;>intro _)
   · trivial
   · rename_i h3
     refine dZ (b4s s (by omega)) ?_;rintro ⟨b3,s',u⟩ hs';dsimp only at hs' ⊢;with_reducible repeat' (first | apply dP | apply dX<;>intro _)
     · trivial
     · refine dZ (b4t h l (h0 (hb h1) (h2 h3))) ?_
       rintro ⟨b4,y⟩ hy;dsimp only at hy;subst hy;dsimp only;with_reducible repeat' (first | apply dP | apply dX<;>intro _)
       · trivial
       · refine dZ (b4u h l (by omega)) ?_
         rintro ⟨b5,y⟩ hy;dsimp only at hy;subst hy;dsimp only;with_reducible repeat' (first | apply dP | apply dX<;>intro _)
         · trivial
         · refine dZ (b4w h l (by omega)) ?_
           rintro ⟨b6,y⟩ hy;dsimp only at hy;subst hy;dsimp only;with_reducible repeat' (first | apply dP | apply dX<;>intro _)
           · trivial
           · refine dZ (b4x l c d (by omega)) ?_
             rintro ⟨b7,l',c',d',u⟩ -
             dsimp only;with_reducible repeat' (first | apply dP | apply dX<;>intro _)
             · trivial
             · refine dZ (b4y _) ?_
               rintro ⟨b8,c8,u⟩ -
               dsimp only;with_reducible repeat' (first | apply dP | apply dX<;>intro _)
               all_goals trivial
theorem f2f (h:TK T A B) (s:List UInt8) (hs:s.length≤100000000000):Df (z2g (T,A,B,s,())) (fun _=>True):=by
 unfold z2g x8c;dsimp only;refine dZ (d83 s (by omega)) ?_;rintro ⟨l,at_,u⟩ hl;dsimp only at hl ⊢;refine dZ (b4o h _ _ _ _ _ _ _ _ at_ s l _ _ hs (by omega) hl.2.2) ?_;rintro ⟨e,y⟩ -
 exact dP trivial
theorem g0u (a:Int) (b:Bool):Df (q7s (a,b,())) (fun _=>True):=by
 unfold q7s z3m;dsimp only;with_reducible repeat' (first | apply dP | apply dX<;>intro _)
 all_goals trivial
theorem g0v (a:Int) (b:Bool):Df (q7t (a,b,())) (fun _=>True):=by
 unfold q7t z3n;dsimp only;with_reducible repeat' (first | apply dP | apply dX<;>intro _)
 all_goals first | trivial | exact dZ (g0u _ _) fun _ _=>dP trivial
theorem b4z (a:Int):Df (j6v (a,())) (fun _=>True):=by
 unfold j6v w7v;dsimp only;with_reducible repeat' (first | apply dP | apply dX<;>intro _)
 all_goals (refine dZ (g0v _ _) ?_;rintro ⟨x,u⟩ -;dsimp only;(repeat' (first | with_reducible apply dP | (with_reducible apply dB<;>intro _)));all_goals trivial)
theorem b3r (s:List UInt8) (b:Bool) (hs:s.length≤1000000000000000):Df (y0r (s,b,())) (fun _=>True):=by
 unfold y0r v6d;dsimp only;refine dZ (P:=fun _=>True) ?_ (fun z _=>by cases z<;>exact dP trivial);refine dL ?I ?m ?h _ ?hv ?hn
 case I=>exact (fun v=>v.2.1.1=s∧0≤v.2.1.2)
 case m=>exact (fun v=>s.length - v.2.1.2.toNat)
 case hv=>exact ⟨rfl,Int.le_refl _⟩
 case hn=>exact (by first | omega | (dsimp only;omega))
 · rintro ⟨x0,⟨x1,p⟩,u⟩ hI
   dsimp only at hI;obtain ⟨rfl,h0⟩:=hI;unfold j4u;dsimp only;with_reducible repeat' (first | apply dP | apply dX<;>intro _)
   · refine dZ (b4z _) ?_
     rintro ⟨x,u⟩ -
     dsimp only;have:=z8i x1 p.toNat
     with_reducible repeat' (first | apply dP | apply dX<;>intro _)
     · trivial
     · exact ⟨⟨rfl,by first | omega | (dsimp only;omega)⟩,by first | omega | (dsimp only;omega)⟩
   · trivial
end
section
variable {T:List R6} {A:List R4} {B:List R3}
theorem d84 (s:List UInt8) (hs:s.length≤1000000000000000):Df (C84 (s,())) (fun _=>True):=by
 unfold C84 F84;dsimp only;refine dZ (P:=fun _=>True) ?_ (fun _ _=>dP trivial);unfold x5z v5t;dsimp only;exact dZ (b3r s true hs) fun _ _=>dP trivial
theorem b4h (s:List UInt8) (hs:s.length≤1000000000000000):Df (z6q (s,())) (fun _=>True):=by
 unfold z6q v6v;dsimp only;refine dZ (P:=fun _=>True) ?_ (fun _ _=>dP trivial);unfold j6u z3l;dsimp only;refine dZ (P:=fun y=>y.2.1=s) (dP rfl) ?_;rintro ⟨b,s1,u⟩ h1;dsimp only at h1 ⊢;subst h1;with_reducible repeat' (first | apply dP | apply dX<;>intro _)
 · trivial
 · refine dZ (P:=fun y=>y.2.1=s1) (dP rfl) ?_
   rintro ⟨b,s2,u⟩ h2;dsimp only at h2 ⊢;subst h2;with_reducible repeat' (first | apply dP | apply dX<;>intro _)
   · trivial
   · refine dZ (P:=fun y=>y.2.1=s2) ?_ ?_
     · unfold x6k v7l
       dsimp only;exact dZ (d84 s2 hs) fun _ _=>dP rfl
     rintro ⟨b,s3,u⟩ h3;dsimp only at h3 ⊢;subst h3;with_reducible repeat' (first | apply dP | apply dX<;>intro _)
     · trivial
     · refine dZ (P:=fun _=>True) ?_ ?_
       · unfold v5i w7w
         dsimp only;exact dZ (f2n s3 hs) fun _ _=>dP trivial
       rintro ⟨b,s4,u⟩ -
       dsimp only;with_reducible repeat' (first | apply dP | apply dX<;>intro _)
       all_goals trivial
theorem k8k (n:Int):IntKind.u8.wrap n=n%256:=by simp [IntKind.wrap,IntKind.bits,IntKind.signed]
theorem v0l (x:Int) (b:Bool) (hb:b=true→65≤x∧x≤90):Df (q7x (x,b,())) (Sum.elim (fun y=>0≤y.1∧y.1≤35) (fun _=>True)):=by
 unfold q7x z3s;dsimp only;with_reducible repeat' (first | apply dP | apply dX<;>intro _)
 · rename_i h1
   have:=hb h1;rw [k8k,v5d];exact ⟨by first | omega | (dsimp only;omega),by first | omega | (dsimp only;omega)⟩
 · rw [k8k,v5d]
   exact ⟨by first | omega | (dsimp only;omega),by first | omega | (dsimp only;omega)⟩
 all_goals trivial
theorem v0m (x:Int) (b:Bool) (hb:b=true→48≤x∧x≤57):Df (q7y (x,b,())) (Sum.elim (fun y=>0≤y.1∧y.1≤35) (fun _=>True)):=by
 unfold q7y z3t;dsimp only;with_reducible repeat' (first | apply dP | apply dX<;>intro _)
 · rename_i h1
   have:=hb h1;rw [k8k,v5d,v5d];exact ⟨by first | omega | (dsimp only;omega),by first | omega | (dsimp only;omega)⟩
 · refine dZ (v0l x _ (fun h=>by simp only [decide_eq_true_eq] at h;omega)) ?_
   intro z hz;exact dS hz (fun a ha=>dP ha) (fun _ _=>dP trivial)
 · refine dZ (v0l x _ (fun h=>by cases h)) ?_
   intro z hz;exact dS hz (fun a ha=>dP ha) (fun _ _=>dP trivial)
theorem b5n (x:Int):Df (j1t (x,())) (fun y=>y.2.1=true→0≤y.1∧y.1≤35):=by
 unfold j1t w7y;dsimp only;with_reducible repeat' (first | apply dP | apply dX<;>intro _)
 · refine dZ (v0m x _ (fun h=>by simp only [decide_eq_true_eq] at h;omega)) ?_
   intro z hz;exact dS hz (fun a ha=>dP fun _=>ha) (fun _ _=>dP fun h=>by cases h)
 · refine dZ (v0m x _ (fun h=>by cases h)) ?_
   intro z hz;exact dS hz (fun a ha=>dP fun _=>ha) (fun _ _=>dP fun h=>by cases h)
theorem g0w (s:List UInt8) (b:Int) (hs:s.length≤1000000000000):Df (j4k (s,b,0,1,(s.length:Int),0,())) (Sum.elim (fun _=>True) (Sum.elim (fun _=>True) (fun y=>0≤y.1∧y.1≤2147483647∧y.2.1.length<s.length))):=by
 refine dL ?I ?m ?h _ ?hv ?hn
 case I=>exact (fun v=>v.1=s∧0≤v.2.2.1∧v.2.2.1≤2147483647∧0≤v.2.2.2.1∧v.2.2.2.1≤75161927645∧v.2.2.2.2.1=s.length∧0≤v.2.2.2.2.2.1∧v.2.2.2.2.2.1≤s.length)
 case m=>exact (fun v=>(s.length - v.2.2.2.2.2.1).toNat)
 case hv=>exact ⟨rfl,by first | omega | (dsimp only;omega),by first | omega | (dsimp only;omega),by first | omega | (dsimp only;omega),by first | omega | (dsimp only;omega),rfl,by first | omega | (dsimp only;omega),by first | omega | (dsimp only;omega)⟩
 case hn=>exact (by first | omega | (dsimp only;omega))
 rintro ⟨x0,x1,x2,x3,x4,x5,u⟩ hI;dsimp only at hI;obtain ⟨rfl,h0,h1,h2,h3,rfl,h4,h5⟩:=hI;unfold j5k;dsimp only;with_reducible repeat' (first | apply dP | apply dX<;>intro _)
 · refine dZ (b5n _) ?_
   rintro ⟨d,ok,u⟩ hd;dsimp only at hd ⊢;refine dH (fun _=>dP trivial) (fun hok => ?_);refine dD (fun _=>dP trivial) (fun hw => ?_)
   · have hd':=hd hok
     have p0:0≤d*x3:=Int.mul_nonneg hd'.1 h2;have p1:d*x3≤35*x3:=Int.mul_le_mul_of_nonneg_right hd'.2 h2;generalize d*x3=P at p0 p1 ⊢;rw [qh (n:=P) (by omega),qh (n:=x2+P) (by omega),qh (n:=x5+1) (by omega)];with_reducible repeat' (first | apply dP | apply dX<;>intro _)
     · trivial
     · refine dZ (g1a _ _) ?_
       rintro ⟨t,u⟩ ht;dsimp only at ht ⊢;have q0:0≤x3*(36 - t):=Int.mul_nonneg h2 (by omega);have q1:x3*(36 - t)≤x3*35:=Int.mul_le_mul_of_nonneg_left (by omega) h2;rw [qh (n:=36 - t) (by omega)];generalize x3*(36 - t)=R at q0 q1 ⊢;rw [qh (n:=R) (by omega)];with_reducible repeat' (first | apply dP | apply dX<;>intro _)
       · refine ⟨by first | omega | (dsimp only;omega),by first | omega | (dsimp only;omega),?_⟩
         simp only [List.length_drop];omega
       · refine dO ?_;omega
       · exact ⟨⟨rfl,by first | omega | (dsimp only;omega),by first | omega | (dsimp only;omega),by first | omega | (dsimp only;omega),by first | omega | (dsimp only;omega),rfl,by first | omega | (dsimp only;omega),by first | omega | (dsimp only;omega)⟩,by first | omega | (dsimp only;omega)⟩
 · refine dO ?_;omega
 · trivial
theorem f2o (s:List UInt8) (b:Int) (hs:s.length≤1000000000000):Df (j3m (s,b,())) (fun y=>y.1<0∨(0≤y.1∧y.1≤2147483647∧y.2.1.length<s.length)):=by
 unfold j3m v7n;dsimp only;refine dZ (g0w s b hs) ?_;intro z hz;refine dS hz ?_ ?_
 · intro u _
   exact dP (.inl (by first | omega | (dsimp only;omega)))
 · intro z2 hz2
   refine dS hz2 ?_ ?_
   · intro u _
     refine dZ (P:=fun y=>y.1<0) ?_ ?_
     · refine dL ?I ?m ?h _ ?hv ?hn
       case I=>exact (fun _=>True)
       case m=>exact (fun _=>0)
       case hv=>exact trivial
       case hn=>exact (by first | omega | (dsimp only;omega))
       intro v _;unfold q8e;exact dP (by decide:(-1:Int)<0)
     · rintro ⟨a,b,u⟩ h
       exact dP (.inl h)
   · rintro ⟨a,b,u⟩ h
     exact dP (.inr h)
theorem b5b (i:Int) (l:List Int) (x:Int) (hi:0≤i∧i≤l.length) (hl:l.length≤1000000000000):Df (j1s (i,l,[x],())) (fun y=>y.1.length=l.length+1):=by
 unfold j1s;dsimp only;rw [decide_eq_true hi.1,decide_eq_true hi.2,decide_eq_true hl];refine dP ?_;simp only [List.length_append,List.length_take,List.length_drop,List.length_cons,List.length_nil];omega
theorem g0p (L:Nat) (hL:L≤1000000000000) (s:List UInt8) (out:List Int) (h:s.length+out.length≤L):Df (j4g (s,128,0,72,true,out,())) (Sum.elim (fun y=>y.1.length≤L) (fun _=>True)):=by
 refine dL ?I ?m ?h _ ?hv ?hn
 case I=>exact (fun v=>v.1.length+v.2.2.2.2.2.1.length≤L∧128≤v.2.1∧v.2.1≤1114111∧0≤v.2.2.1∧v.2.2.1≤v.2.2.2.2.2.1.length)
 case m=>exact (fun v=>v.1.length)
 case hv=>exact ⟨h,by first | omega | (dsimp only;omega),by first | omega | (dsimp only;omega),by first | omega | (dsimp only;omega),by first | omega | (dsimp only;omega)⟩
 case hn=>exact (by first | omega | (dsimp only;omega))
 rintro ⟨x0,x1,x2,x3,x4,x5,u⟩ hI;dsimp only at hI;obtain ⟨h0,h1,h2,h3,h4⟩:=hI;unfold j5c;dsimp only;rw [qh (n:=(x5.length:Int)+1) (by omega)];with_reducible repeat' (first | apply dP | apply dX<;>intro _)
 · refine dZ (f2o x0 x3 (by omega)) ?_
   rintro ⟨d,rest,u⟩ hd;dsimp only at hd ⊢;refine dD (fun _=>dP trivial) (fun hneg => ?_)
   · have hd':=hd.resolve_left hneg
     rw [qh (n:=x2+d) (by omega)];with_reducible repeat' (first | apply dP | apply dX<;>intro _)
     · trivial
     · refine dZ (f2m _ _ _ hd'.1 (by omega)) ?_
       rintro ⟨b,u⟩ -
       dsimp only;have q0:0≤(x2+d)/((x5.length:Int)+1):=Int.ediv_nonneg (by omega) (by omega);have q1:(x2+d)/((x5.length:Int)+1)≤x2+d:=Int.ediv_le_self _ (by omega);have r0:0≤(x2+d)%((x5.length:Int)+1):=Int.emod_nonneg _ (by omega);have r1:(x2+d)%((x5.length:Int)+1)<(x5.length:Int)+1:=Int.emod_lt_of_pos _ (by omega);rw [Int.tdiv_eq_ediv_of_nonneg (by omega),Int.tmod_eq_emod_of_nonneg (by omega)];generalize (x2+d)/((x5.length:Int)+1)=q at q0 q1 ⊢;generalize (x2+d)%((x5.length:Int)+1)=r at r0 r1 ⊢;rw [qh (n:=q) (by omega),qh (n:=x1+q) (by omega)];with_reducible repeat' (first | apply dP | apply dX<;>intro _)
       · trivial
       · refine dZ (k1h _) ?_
         rintro ⟨ok,u⟩ -
         dsimp only;with_reducible repeat' (first | apply dP | apply dX<;>intro _)
         · trivial
         · refine dZ (b5b r x5 _ (by omega) (by omega)) ?_
           rintro ⟨out',u⟩ ho;dsimp only at ho ⊢;rw [qh (n:=r+1) (by omega)];exact dP ⟨⟨by first | omega | (dsimp only;omega),by first | omega | (dsimp only;omega),by first | omega | (dsimp only;omega),by first | omega | (dsimp only;omega),by first | omega | (dsimp only;omega)⟩,by first | omega | (dsimp only;omega)⟩
         · refine dO ?_;omega
       · refine dO ?_;omega
 · exact (by first | omega | (dsimp only;omega):x5.length≤L)
theorem v0h (L:Nat) (hL:L≤1000000000000) (s:List UInt8) (out:List Int) (h:s.length+out.length≤L):Df (q1d (s,out,())) (fun y=>y.2.1.length≤L):=by
 unfold q1d j5b;dsimp only;refine dZ (g0p L hL s out h) ?_;intro z hz;refine dS hz ?_ ?_
 · rintro ⟨a,u⟩ ha
   exact dP ha
 · rintro ⟨a,u⟩ -
   exact dP (by simp)
theorem b5a (s:List UInt8) (c:Int) (hs:s.length≤1000000000000):Df (j3l (s,c,())) (fun y => -1≤y.1∧y.1<s.length):=by
 unfold j3l v7m;dsimp only;refine dZ (P:=fun y => -1≤y.1∧y.1<s.length) ?_ (fun _ h=>dP h);unfold x6o v8c;dsimp only;rw [qh (n:=(s.length:Int) - 1) (by omega)];refine dZ (P:=Sum.elim (fun _=>True) (fun y => -1≤y.1∧y.1<s.length)) ?_ ?_
 · refine dL ?I ?m ?h _ ?hv ?hn
   case I=>exact (fun v=>v.1=s ∧ -1≤v.2.2.1∧v.2.2.1<s.length)
   case m=>exact (fun v=>(v.2.2.1+1).toNat)
   case hv=>exact ⟨rfl,by first | omega | (dsimp only;omega),by first | omega | (dsimp only;omega)⟩
   case hn=>exact (by first | omega | (dsimp only;omega))
   rintro ⟨x0,x1,x2,u⟩ hI;dsimp only at hI;obtain ⟨rfl,h0,h1⟩:=hI;unfold j5m;dsimp only;with_reducible repeat' (first | apply dP | apply dX<;>intro _)
   · exact ⟨by first | omega | (dsimp only;omega),by first | omega | (dsimp only;omega)⟩
   · rw [qh (n:=x2 - 1) (by omega)]
     exact ⟨⟨rfl,by first | omega | (dsimp only;omega),by first | omega | (dsimp only;omega)⟩,by first | omega | (dsimp only;omega)⟩
   · refine dO ?_;omega
   · trivial
 · intro z hz
   refine dS hz ?_ ?_
   · intro u _
     exact dP ⟨by first | omega | (dsimp only;omega),by first | omega | (dsimp only;omega)⟩
   · rintro ⟨a,u⟩ h
     exact dP h
theorem f2g (s:List UInt8) (hs:s.length≤1000000000000):Df (y0v (s,())) (fun y=>y.1.length≤s.length):=by
 unfold y0v v6w;dsimp only;refine dZ (d21 s (by omega)) ?_;rintro ⟨e,u⟩ he;dsimp only at he ⊢;with_reducible repeat' (first | apply dP | apply dX<;>intro _)
 · exact (by simp:([]:List Int).length≤s.length)
 · rename_i hneg
   have hall:=he.2 (by omega);refine dZ (b5a s 45 hs) ?_;rintro ⟨k,u⟩ hk;dsimp only at hk ⊢;rw [qh (n:=k+1) (by omega)];have hb:(decide ((List.take k.toNat s).length≤70368744177664)&&(List.take k.toNat s).all fun b=>decide (b.toNat<128))=true:=by
    rw [decide_eq_true (by rw [List.length_take];omega),Bool.true_and,List.all_eq_true];intro c hc;exact decide_eq_true (hall c (List.mem_of_mem_take hc))
   rw [hb];simp only [cond_true];with_reducible repeat' (first | apply dP | apply dX<;>intro _)
   · refine dZ (v0h s.length hs _ _ (by simp only [List.length_drop,List.length_map,List.length_take];omega)) ?_
     rintro ⟨a,b,u⟩ h;exact dP h
   · refine dO ?_;omega
   · refine dO ?_;omega
   · refine dZ (v0h s.length hs _ _ (by simp)) ?_
     rintro ⟨a,b,u⟩ h;exact dP h
theorem f2c (h:TK T A B) (s:List UInt8) (hs:s.length≤6000000):Df (z1y (T,A,B,s,())) (fun y=>y.1.length≤200000000000∧y.2.1.length≤200000000000):=by
 unfold z1y v6m;dsimp only;refine dZ (k1g h s (by omega)) ?_;rintro ⟨f,ok,u⟩ hf;dsimp only at hf ⊢;refine dZ (f1w f _) ?_;rintro ⟨rest,is,u⟩ hr;dsimp only at hr ⊢;with_reducible repeat' (first | apply dP | apply dX<;>intro _)
 · exact ⟨by simp,by simp⟩
 · refine dZ (d21 f (by omega)) ?_
   rintro ⟨e,u⟩ -
   dsimp only;with_reducible repeat' (first | apply dP | apply dX<;>intro _)
   · refine dZ (d83 f (by omega)) ?_
     rintro ⟨l,at_,u⟩ hl;dsimp only at hl ⊢;refine dZ (g0l l (by omega)) ?_;rintro ⟨code,b,u⟩ hc;dsimp only at hc ⊢;with_reducible repeat' (first | apply dP | apply dX<;>intro _)
     · refine dZ (f2f h f (by omega)) ?_
       rintro ⟨w,u⟩ -
       exact dP ⟨by simp only [List.length_append,List.length_cons,List.length_nil];omega,by first | omega | (dsimp only;omega)⟩
     · refine dO ?_;simp only [List.length_cons,List.length_nil] at *;omega
   · refine dZ (b4h f (by omega)) ?_
     rintro ⟨w,u⟩ -
     exact dP ⟨by first | omega | (dsimp only;omega),by first | omega | (dsimp only;omega)⟩
   · refine dZ (f2g rest (by omega)) ?_
     rintro ⟨l,ok2,u⟩ hl;dsimp only at hl ⊢;with_reducible repeat' (first | apply dP | apply dX<;>intro _)
     · exact ⟨by simp,by simp⟩
     · exact ⟨by simp,by simp⟩
     · refine dZ (x4w l (by omega)) ?_
       rintro ⟨us,b,u⟩ hu;dsimp only at hu ⊢;refine dZ (f2f h us (by omega)) ?_;rintro ⟨w,u⟩ -
       dsimp only;with_reducible repeat' (first | apply dP | apply dX<;>intro _)
       · exact ⟨by simp,by simp⟩
       · refine dZ (g0l l (by omega)) ?_
         rintro ⟨code,b,u⟩ -
         dsimp only;with_reducible repeat' (first | apply dP | apply dX<;>intro _)
         · exact ⟨by simp,by simp⟩
         · exact ⟨by first | omega | (dsimp only;omega),by first | omega | (dsimp only;omega)⟩
theorem b3s (h:TK T A B) (s:List UInt8) (hs:s.length≤6000000):Df (z1u (T,A,B,s,())) (fun y=>y.1.length≤200000000000):=by
 unfold z1u v6e;dsimp only;refine dZ (f2c h s hs) ?_;rintro ⟨a,b,e,u⟩ ha;dsimp only at ha ⊢;with_reducible repeat' (first | apply dP | apply dX<;>intro _)
 · exact (by simp:([]:List UInt8).length≤200000000000)
 · exact ha.1
theorem b3t (h:TK T A B) (s:List UInt8) (hs:s.length≤6000000):Df (y0s (T,A,B,s,())) (fun y=>y.1.length≤200000000000):=by
 unfold y0s w7o;dsimp only;refine dZ (f2c h s hs) ?_;rintro ⟨a,b,e,u⟩ ha;dsimp only at ha ⊢;with_reducible repeat' (first | apply dP | apply dX<;>intro _)
 · exact (by simp:([]:List UInt8).length≤200000000000)
 · exact ha.2
theorem j0u (c:UInt8):∀l:List UInt8,Lib.indexByte l c<l.length
 | []=>by simp [Lib.indexByte]
 | b::l=>by
  have:=j0u c l;simp only [Lib.indexByte,List.length_cons];split
  · omega
  · split<;>omega
theorem b3u (s:List UInt8) (c:Int):Df (j3h (s,c,())) (fun y => -1≤y.1∧y.1<s.length):=by
 unfold j3h v6g;dsimp only;exact dZ (P:=fun y => -1≤y.1∧y.1<s.length) (dP ⟨Lib.indexByte_ge s _,j0u _ s⟩) fun _ h=>dP h
theorem v0g (s:List UInt8) (b:Bool) (hb:b=true→0<s.length):Df (q3l (s,[46],1,b,())) (fun y => -1≤y.1∧y.1<s.length):=by
 unfold q3l j4y;dsimp only;with_reducible repeat' (first | apply dP | apply dX<;>intro _)
 · rename_i h1
   have:=hb h1;exact ⟨by first | omega | (dsimp only;omega),by first | omega | (dsimp only;omega)⟩
 · exact dZ (b3u s _) fun _ h=>dP h
 · rename_i h1 h2 h3
   exact absurd (by decide:(0:Int)<(([46]:List UInt8).length:Int)) h3
 all_goals (exfalso;omega)
theorem b3p (s:List UInt8) (hs:s.length≤1000000000000):Df (z6i (s,[46],())) (fun y=>y.1.length≤s.length∧y.2.1.length≤s.length∧(y.2.2.1=true→y.2.1.length<s.length)):=by
 unfold z6i v5w;dsimp only;refine dZ (P:=fun y=>y.1.length≤s.length∧y.2.1.length≤s.length∧(y.2.2.1=true→y.2.1.length<s.length)) ?_ (fun _ h=>dP h);unfold x6b v6h;dsimp only;refine dZ (P:=fun y => -1≤y.1∧y.1<s.length) ?_ ?_
 · unfold z2d x8b
   dsimp only;have e0:((([46]:List UInt8).length:Int)==0)=false:=rfl;rw [e0];simp only [cond_false];refine dZ (v0g s _ fun h => ?_) fun _ h=>dP h;have:=eq_of_beq h;rw [←this];decide
 rintro ⟨k,u⟩ hk;dsimp only at hk ⊢;rw [show (([46]:List UInt8).length:Int)=1 from rfl,qh (n:=k+1) (by omega)];with_reducible repeat' (first | apply dP | apply dX<;>intro _)
 · refine ⟨?_,?_,fun _ => ?_⟩
   · simp only [List.length_take];omega
   · simp only [List.length_drop];omega
   · simp only [List.length_drop];omega
 · refine dO ?_;omega
 · refine dO ?_;omega
 · exact ⟨Nat.le_refl _,by simp,fun h=>by cases h⟩
theorem j3b:∀(n:Nat) (s:List UInt8),s.length<n→s.length≤1000000000000→∃ps,vt n s=some ps∧ps.length≤n∧∀p∈ps,p.length≤s.length
 | n+1,s,hn,hs=>by
  obtain ⟨⟨a,b,ok,u⟩,e,h1,h2,h3⟩:=b3p s hs;dsimp only at h1 h2 h3;cases ok with
  | true =>
   have h4:=h3 rfl;obtain ⟨ps,e2,h5,h6⟩:=j3b n b (by omega) (by omega);refine ⟨a::ps,by simp only [vt,e,Option.bind_some,cond_true,e2,Option.map_some],by simp only [List.length_cons];omega,?_⟩;intro p hp;rcases List.mem_cons.1 hp with rfl | hp
   · exact h1
   · have:=h6 p hp;omega
  | false =>
   refine ⟨[a],by simp only [vt,e,Option.bind_some,cond_false],by simp only [List.length_cons,List.length_nil];omega,?_⟩;intro p hp;rw [List.mem_singleton] at hp;subst hp;exact h1
end
section
variable {T:List R6} {A:List R4} {B:List R3}
theorem z0s {s old:List UInt8} {i:Nat} (h:Lib.index s old=i):i+old.length≤s.length:=by
 have:=Lib.index_room s old (by omega);omega
theorem j3e (old new:List UInt8) (hl:new.length≤old.length):∀(k:Nat) (s:List UInt8),(Lib.replaceK old new k s).length≤s.length
 | 0,s=>Nat.le_refl _
 | k+1,s=>by
  by_cases h:Lib.index s old = -1
  · rw [Lib.replaceK,if_pos (by rw [h];rfl)];exact Nat.le_refl _
  · obtain ⟨i,hi⟩:∃i:Nat,Lib.index s old=i:=⟨(Lib.index s old).toNat,by have:=Lib.index_ge s old;omega⟩
    rw [Lib.replaceK_hit old new k s i hi];have h1:=j3e old new hl k (s.drop (i+old.length));have h2:=z0s hi;simp only [List.length_append,List.length_take,List.length_drop] at h1 ⊢;omega
theorem q5s (s old new:List UInt8) (hl:new.length≤old.length):(Lib.replaceAll s old new).length≤s.length:=by
 unfold Lib.replaceAll Lib.replace;split
 · exact Nat.le_refl _
 · exact j3e old new hl _ s
theorem j0w (f:List UInt8) (ok:Bool) (hf:f.length≤5000000):∃ls c,q0e f ok=some (ls,c)∧ls.length≤32∧∀p∈ls,p.length≤5000000:=by
 unfold q0e;cases ok with
 | false=>exact ⟨[],7,rfl,by simp,fun p hp=>by cases hp⟩
 | true =>
  cases hfe:f.isEmpty with
  | true=>exact ⟨[],13,rfl,by simp,fun p hp=>by cases hp⟩
  | false =>
   simp only [Bool.not_true,cond_false];rw [decide_eq_true (by omega)];simp only [cond_true];have hr:=q5s f [227,128,130] [46] (by decide);obtain ⟨ps,e,h1,h2⟩:=j3b (f.length+2) (Lib.replaceAll f [227,128,130] [46]) (by omega) (by omega);simp only [e,Option.bind_some];rw [decide_eq_true (by omega)];simp only [cond_true];by_cases h3:32<ps.length
   · rw [decide_eq_true h3]
     exact ⟨[],2,rfl,by simp,fun p hp=>by cases hp⟩
   · rw [decide_eq_false h3]
     exact ⟨ps,0,rfl,by omega,fun p hp=>by have:=h2 p hp;omega⟩
theorem z0v (l:List (List UInt8)) (x:List UInt8):Lib.lens (l++[x])=Lib.lens l+x.length:=by simp [Lib.lens]
theorem j7v (f g:List UInt8→Option (List UInt8×Int)) (hf:∀x:List UInt8,x.length≤5000000→∃y,f x=some y∧y.1.length≤200000000000) (hg:∀x:List UInt8,x.length≤5000000→∃y,g x=some y∧y.1.length≤200000000000) :
 ∀(ls ps qs:List (List UInt8)) (n:Nat),(∀p∈ls,p.length≤5000000)→ps.length+ls.length≤32→qs.length+ls.length≤32→Lib.lens ps≤200000000000*n→Lib.lens qs≤200000000000*n→n+ls.length≤32 →
  ∃r,q1z f g ls ps qs=some r∧r.2.1.length≤32∧r.2.2.length≤32∧Lib.lens r.2.1≤6400000000000∧Lib.lens r.2.2≤6400000000000
 | [],ps,qs,n,h,h1,h2,h3,h4,h5=>⟨(0,ps,qs),rfl,by simpa using h1,by simpa using h2,by simp only [List.length_nil] at h5;dsimp only;omega,by simp only [List.length_nil] at h5;dsimp only;omega⟩
 | x::ls,ps,qs,n,h,h1,h2,h3,h4,h5=>by
  obtain ⟨a,ea,ha⟩:=hf x (h x List.mem_cons_self);obtain ⟨b,eb,hb⟩:=hg x (h x List.mem_cons_self);simp only [q1z,ea,Option.bind_some];simp only [List.length_cons] at h1 h2 h5;cases hz:(a.2 != 0) with
  | true=>exact ⟨(a.2,[],[]),rfl,by simp,by simp,by simp [Lib.lens],by simp [Lib.lens]⟩
  | false =>
   simp only [cond_false,eb,Option.bind_some];exact j7v f g hf hg ls (ps++[a.1]) (qs++[b.1]) (n+1) (fun p hp=>h p (List.mem_cons_of_mem _ hp)) (by simp only [List.length_append,List.length_cons,List.length_nil];omega) (by simp only [List.length_append,List.length_cons,List.length_nil];omega)
    (by rw [z0v];omega) (by rw [z0v];omega) (by omega)
theorem j8g (l:List (List UInt8)) (h1:l.length≤32) (h2:Lib.lens l≤6400000000000):∃r,q5q (l,[46],())=some (r,()):=by
 unfold q5q;have hj:(Lib.join l [46]).length≤140737488355328:=by
  cases l with
  | nil=>exact Nat.zero_le _
  | cons x r =>
   rw [Lib.join_length];simp only [List.length_cons,List.length_nil] at h1 ⊢;omega
 dsimp only;rw [decide_eq_true (by omega),decide_eq_true hj];exact ⟨_,rfl⟩
theorem x5n (r:Int×List (List UInt8)×List (List UInt8)) (h1:r.2.1.length≤32) (h2:r.2.2.length≤32) (h3:Lib.lens r.2.1≤6400000000000) (h4:Lib.lens r.2.2≤6400000000000):∃o,z9y r=some o:=by
 unfold z9y;cases (r.1 != 0) with
 | true=>exact ⟨_,rfl⟩
 | false =>
  obtain ⟨a,ha⟩:=j8g r.2.1 h1 h3;obtain ⟨b,hb⟩:=j8g r.2.2 h2 h4;simp only [cond_false,ha,Option.bind_some,hb];cases decide (253<a.length) with
  | true=>exact ⟨_,rfl⟩
  | false=>exact ⟨_,rfl⟩
theorem b3o (h:TK T A B) (s:List UInt8) (hs:s.length≤3000):∃y,z1r (T,A,B,s,())=some y:=by
 obtain ⟨⟨f,ok,u⟩,e,hf⟩:=k1g h s (by omega);dsimp only at hf;obtain ⟨ls,c,e2,hll,hls⟩:=j0w f ok (by omega);unfold z1r;dsimp only;simp only [e,Option.bind_some,e2];cases (c != 0) with
 | true=>exact ⟨_,rfl⟩
 | false =>
  simp only [cond_false];rw [decide_eq_true hll];obtain ⟨r,er,h1,h2,h3,h4⟩:=j7v (fun x=>(z1u (T,A,B,x,())).map fun r=>(r.1,r.2.1)) (fun x=>(y0s (T,A,B,x,())).map fun r=>(r.1,r.2.1))
   (fun x hx=>by
    obtain ⟨y,e,hy⟩:=b3s h x (by omega);exact ⟨(y.1,y.2.1),by simp only [e,Option.map_some],hy⟩)
   (fun x hx=>by
    obtain ⟨y,e,hy⟩:=b3t h x (by omega);exact ⟨(y.1,y.2.1),by simp only [e,Option.map_some],hy⟩)
   ls [] [] 0 hls (by simpa using hll) (by simpa using hll) (by simp [Lib.lens]) (by simp [Lib.lens]) (by simpa using hll)
  obtain ⟨o,ho⟩:=x5n r h1 h2 h3 h4;simp only [cond_true,er,Option.bind_some,ho,Option.map_some];exact ⟨_,rfl⟩
end
def Pf {α:Type} (x:Option α) (Q:α→Prop):Prop:=∀y,x=some y→Q y
section
variable {α β γ:Type} {Q:α→Prop}
theorem pP {y:α} (h:Q y):Pf (some y) Q:=fun _ e=>by cases e;exact h
theorem pN:Pf (none:Option α) Q:=fun _ e=>by cases e
theorem pT {x:Option α}:Pf x (fun _=>True):=fun _ _=>trivial
theorem pZ {x:Option β} {f:β→Option α} {P:β→Prop} (h:Pf x P) (hf:∀a,P a→Pf (f a) Q):Pf (x.bind f) Q:=by
 intro y e;cases x with
 | none=>cases e
 | some a=>exact hf a (h a rfl) y e
theorem pM {x:Option α} {P:α→Prop} (h:Pf x P) (hf:∀a,P a→Q a):Pf x Q:=fun y e=>hf y (h y e)
theorem pA {x:Option α} {P P':α→Prop} (h:Pf x P) (h':Pf x P'):Pf x fun y=>P y∧P' y:=fun y e=>⟨h y e,h' y e⟩
theorem pX {b:Bool} {p q:Prop} [r:Rd b p q] {x y:Option α} (h1:p→Pf x Q) (h2:q→Pf y Q):Pf (bif b then x else y) Q:=by
 have h:b=true∨b=false:=by cases b<;>simp
 rcases h with h | h
 · rw [h];exact h1 (r.t h)
 · rw [h];exact h2 (r.f h)
theorem pS {f:β→Option α} {g:γ→Option α} {s:β⊕γ} {P:β→Prop} {P':γ→Prop} (hs:Sum.elim P P' s) (h1:∀a,P a→Pf (f a) Q) (h2:∀b,P' b→Pf (g b) Q):Pf (Sum.elim f g s) Q:=by
 cases s with
 | inl a=>exact h1 a hs
 | inr b=>exact h2 b hs
theorem pLn {F:β→Option (β⊕α)} (I:β→Prop) (h:∀v,I v→Pf (F v) (Sum.elim I Q)):∀(n:Nat) (v:β),I v→Pf (qc F n v) Q
 | 0,v,_=>fun _ e=>by cases e
 | n+1,v,hv=>by
  intro y e;simp only [qc] at e;cases hF:F v with
  | none=>rw [hF] at e;cases e
  | some z =>
   have hz:=h v hv z hF;rw [hF] at e;cases z with
   | inl v'=>exact pLn I h n v' hz y e
   | inr y' =>
    have e':some y'=some y:=e;cases e';exact hz
theorem pL {F:β→Option (β⊕α)} (I:β→Prop) (h:∀v,I v→Pf (F v) (Sum.elim I Q)) (v:β) (hv:I v):Pf (qc F je v) Q:=pLn I h je v hv
theorem pRn {F:(β→Option α)→β→Option α} {P:β→α→Prop} (h:∀G,(∀v,Pf (G v) (P v))→∀v,Pf (F G v) (P v)):∀(n:Nat) (v:β),Pf (q0v F n v) (P v)
 | 0,v=>fun _ e=>by cases e
 | n+1,v=>h (q0v F n) (pRn h n) v
theorem Df.pf {x:Option α} {P:α→Prop} (h:Df x P):Pf x P:=by
 obtain ⟨y,e,h⟩:=h;intro z ez;rw [e] at ez;cases ez;exact h
end
def kk (x:Int):Bool:=decide (0≤x)&&decide (x<128) && !(decide (97≤x)&&decide (x≤122)) && !(decide (65≤x)&&decide (x≤90)) && !(decide (48≤x)&&decide (x≤57)) && !decide (x=45)
theorem q2z (x:Int):kk x=true↔0≤x∧x<128∧(x<97∨122<x)∧(x<65∨90<x)∧(x<48∨57<x)∧x≠45:=by
 unfold kk;simp only [Bool.and_eq_true,Bool.not_eq_true',decide_eq_true_eq,Bool.and_eq_false_iff,decide_eq_false_iff_not];omega
theorem z8s {x:Int} (h:128≤x):kk x=false:=by
 cases hk:kk x with
 | false=>rfl
 | true=>have:=(q2z x).1 hk;omega
def stp (d:Bool) (s:Nat) (x:Int):Nat:=if 2≤s then 2 else if kk x=true then (if x=46∧d=true then s+1 else 2) else 0
def run (d:Bool) (s:Nat) (l:List Int):Nat:=l.foldl (stp d) s
theorem j9a (d:Bool) {s s':Nat} (h:s≤s') (x:Int):stp d s x≤stp d s' x:=by
 unfold stp;repeat' split
 all_goals omega
theorem j1f (d:Bool):∀(l:List Int) {s s':Nat},s≤s'→run d s l≤run d s' l
 | [],_,_,h=>h
 | x::l,_,_,h=>j1f d l (j9a d h x)
theorem q1u (d:Bool) {s:Nat} {x:Int} (h:kk x=false):stp d s x=if 2≤s then 2 else 0:=by
 unfold stp;rw [h];simp
theorem z6d (d:Bool) {s:Nat} (x:Int) (h:2≤s):stp d s x=2:=by
 unfold stp;rw [if_pos h]
theorem q5g (d:Bool):∀(l:List Int) {s:Nat},2≤s→2≤run d s l
 | [],_,h=>h
 | x::l,s,h=>q5g d l (Nat.le_of_eq (z6d d x h).symm)
theorem xh (d:Bool) (s:Nat) (p q:List Int):run d s (p++q)=run d (run d s p) q:=List.foldl_append
theorem q3e (d:Bool) (s:Nat) (x:Int) (q:List Int):run d s (x::q)=run d (stp d s x) q:=rfl
def Rr (p q:List Int):Prop:=∀d,run d 1 p≤run d 1 q
theorem Rr.refl (p:List Int):Rr p p:=fun d=>Nat.le_refl _
theorem Rr.trans {p q r:List Int} (h:Rr p q) (h':Rr q r):Rr p r:=fun d=>Nat.le_trans (h d) (h' d)
theorem j1g (d:Bool):∀(l:List Int) (s:Nat),l≠[]→(∀x∈l,kk x=false)→run d s l=if 2≤s then 2 else 0
 | [x],s,_,h=>q1u d (h x List.mem_cons_self)
 | x::y::l,s,_,h=>by
  rw [q3e,j1g d (y::l) _ (by simp) fun z hz=>h z (List.mem_cons_of_mem _ hz),q1u d (h x List.mem_cons_self)];split<;>simp
theorem ap {p q:List Int} (x:Int) (ys:List Int) (h:Rr p q) (hk:kk x=true→ys=[x]):Rr (p++[x]) (q++ys):=by
 intro d;rw [xh,xh];cases hx:kk x with
 | true=>rw [hk hx];exact j9a d (h d) x
 | false =>
  show stp d _ x≤_;rw [q1u d hx];split
  · rename_i h2
    exact q5g d ys (Nat.le_trans h2 (h d))
  · exact Nat.zero_le _
theorem apn {p q:List Int} (xs ys:List Int) (h:Rr p q) (hn:xs≠[]) (hx:∀x∈xs,kk x=false):Rr (p++xs) (q++ys):=by
 intro d;rw [xh,xh,j1g d xs _ hn hx];split
 · rename_i h2
   exact q5g d ys (Nat.le_trans h2 (h d))
 · exact Nat.zero_le _
theorem v4s (d:Bool):∀(l r:List Int) (s s':Nat),s≤s'→r.length=l.length→(∀(i:Nat) (x:Int),l[i]? = some x→kk x=true→r[i]? = some x)→run d s l≤run d s' r
 | [],[],s,s',h,_,_=>h
 | [],_::_,_,_,_,h,_=>by simp at h
 | _::_,[],_,_,_,h,_=>by simp at h
 | x::l,y::r,s,s',h,hl,hp=>by
  have hl':r.length=l.length:=by simpa using hl
  have hp':∀(i:Nat) (x:Int),l[i]? = some x→kk x=true→r[i]? = some x:=fun i z h1 h2=>by
   have:=hp (i+1) z (by simpa using h1) h2;simpa using this
  rw [q3e,q3e];refine v4s d l r _ _ ?_ hl' hp';cases hx:kk x with
  | true =>
   have:=hp 0 x (by simp) hx;simp only [List.getElem?_cons_zero,Option.some.injEq] at this;subst this;exact j9a d h y
  | false =>
   rw [q1u d hx];split
   · rename_i h2
     rw [z6d d y (by omega)];exact Nat.le_refl _
   · exact Nat.zero_le _
theorem Rr.pt {l r:List Int} (h:r.length=l.length) (hp:∀(i:Nat) (x:Int),l[i]? = some x→kk x=true→r[i]? = some x):Rr l r:=fun d=>v4s d l r 1 1 (Nat.le_refl _) h hp
theorem Rr.set {p q:List Int} (x:Int) (h:Rr p q) (hx:kk x=false) (i:Nat) (v:Int) (hi:kk (q.getD i 0)=false):Rr (p++[x]) (q.set i v):=by
 intro d;rw [xh];show stp d _ x≤_;rw [q1u d hx];split
 · rename_i h2
   have h3:Rr q (q.set i v):=by
    refine Rr.pt List.length_set fun j z hj hz => ?_;by_cases hij:i=j
    · subst hij
      rw [List.getD_eq_getElem?_getD,hj] at hi;simp only [Option.getD_some] at hi;rw [hi] at hz;cases hz
    · rw [List.getElem?_set_ne hij];exact hj
   exact Nat.le_trans h2 (Nat.le_trans (h d) (h3 d))
 · exact Nat.zero_le _
def bi (s:List UInt8):List Int:=s.map fun c=>(c.toNat:Int)
theorem xf (p q:List UInt8):bi (p++q)=bi p++bi q:=List.map_append
theorem w6f (l:List Int):∀s:Nat,2≤run false s l↔2≤s∨∃x∈l,kk x=true:=by
 induction l with
 | nil=>intro s;simp [run]
 | cons y l ih =>
  intro s;rw [q3e,ih];by_cases h2:2≤s
  · rw [z6d _ _ h2];simp [h2]
  · cases hy:kk y with
    | true =>
     have:stp false s y=2:=by unfold stp;rw [if_neg h2,if_pos hy];simp
     rw [this];simp only [Nat.le_refl,true_or,true_iff];exact .inr ⟨y,List.mem_cons_self,hy⟩
    | false =>
     rw [q1u _ hy,if_neg h2];constructor
     · rintro (h | ⟨x,hx,hk⟩)
       · omega
       · exact .inr ⟨x,List.mem_cons_of_mem _ hx,hk⟩
     · rintro (h | ⟨x,hx,hk⟩)
       · exact (h2 h).elim
       · rcases List.mem_cons.1 hx with rfl | hx
         · rw [hy] at hk;cases hk
         · exact .inr ⟨x,hx,hk⟩
theorem Rr.mem {p q:List Int} (h:Rr p q) (hp:∃x∈p,kk x=true):∃x∈q,kk x=true:=by
 have h1:=(w6f p 1).2 (.inr hp);rcases (w6f q 1).1 (Nat.le_trans h1 (h false)) with h | h
 · omega
 · exact h
theorem z1l (d:Bool):∀(l:List Int) (s:Nat),l≠[]→s<2→(∀x∈l,kk x=false)→run d s l=0:=fun l s hn hs h=>by
 rw [j1g d l s hn h,if_neg (by omega)]
def Fr (o n:Nat) (r r':List Int):Prop:=r'.length=r.length∧∀i:Nat,i<o∨o+n≤i→r'[i]? = r[i]?
theorem k1r {o n:Nat} {r:List Int}:Fr o n r r:=⟨rfl,fun _ _=>rfl⟩
theorem q2v {o n k:Nat} {r r':List Int} {x:Int} (h:Fr o n r r') (hk:k<n):Fr o n r (r'.set (o+k) x) :=
 ⟨List.length_set.trans h.1,fun i hi=>by
  rw [List.getElem?_set_ne (by omega)];exact h.2 i hi⟩
section
variable {T:List R6} {A:List R4} {B:List R3}
theorem k7v (a b:Int):Pf (zi (a,b,T,A,B,())) (fun y=>y.2=(T,A,B,())):=by
 unfold zi v7q;dsimp only;exact pZ pT fun _ _=>pZ pT fun _ _=>pP rfl
theorem g4j (o n:Nat) (a b i j:Int) (row r:List Int) (h:Fr o n row r) :
 Pf (q1f (((o:Int),(n:Int)),a,b,i,j,r,T,A,B,())) (fun y=>∃(a b i j:Int) (r':List Int),Fr o n row r'∧y=(((o:Int),(n:Int)),a,b,i,j,r',T,A,B,())):=by
 unfold q1f j5q;dsimp only;simp only [Int.toNat_natCast];with_reducible repeat' (first | exact pN | apply pP | apply pX<;>intro _)
 exact ⟨_,_,_,_,_,q2v (q2v h (by omega)) (by omega),rfl⟩
theorem g4k (o n:Nat) (a b i j:Int) (row r:List Int) (h:Fr o n row r) :
 Pf (q8c (((o:Int),(n:Int)),a,b,i,j,r,T,A,B,())) (fun y=>∃(a b i:Int) (r':List Int),Fr o n row r'∧y=(((o:Int),(n:Int)),a,b,i,r',T,A,B,())):=by
 refine pL ?I ?h _ ?hv
 case I=>exact (fun v=>∃(a b i j:Int) (r':List Int),Fr o n row r'∧v=(((o:Int),(n:Int)),a,b,i,j,r',T,A,B,()))
 case hv=>exact ⟨_,_,_,_,_,h,rfl⟩
 rintro v ⟨a,b,i,j,r',h1,rfl⟩;unfold j5r;dsimp only;simp only [Int.toNat_natCast];with_reducible repeat' (first | exact pN | apply pP | apply pX<;>intro _)
 · refine pZ (k7v _ _) ?_
   rintro ⟨c,t,a',b',u⟩ hc;simp only [Prod.mk.injEq] at hc;obtain ⟨rfl,rfl,rfl,-⟩:=hc;dsimp only;with_reducible repeat' (first | exact pN | apply pP | apply pX<;>intro _)
   · refine pZ (g4j o n a b i j row r' h1) ?_
     rintro y ⟨a,b,i,j,r2,h4,rfl⟩;dsimp only;simp only [Int.toNat_natCast];exact pP ⟨_,_,_,_,_,h4,rfl⟩
   · exact ⟨_,_,_,_,h1,rfl⟩
 · exact ⟨_,_,_,_,h1,rfl⟩
theorem f8a (o n:Nat) (a b:Int) (row r:List Int) (h:Fr o n row r) :
 Pf (q8b (((o:Int),(n:Int)),a,b,r,T,A,B,())) (fun y=>∃(r':List Int),Fr o n row r'∧y=(r',T,A,B,())):=by
 unfold q8b v8m;dsimp only;simp only [Int.toNat_natCast];refine pZ (P:=fun y=>∃(r':List Int),Fr o n row r'∧y=(r',T,A,B,())) ?_ ?_
 · refine pL ?I ?h _ ?hv
   case I=>exact (fun v=>∃(a b i:Int) (r':List Int),Fr o n row r'∧v=(((o:Int),(n:Int)),a,b,i,r',T,A,B,()))
   case hv=>exact ⟨_,_,_,_,h,rfl⟩
   rintro v ⟨a,b,i,r',h2,rfl⟩;unfold j5s;dsimp only;simp only [Int.toNat_natCast];with_reducible repeat' (first | exact pN | apply pP | apply pX<;>intro _)
   · refine pZ (g4k o n a b i i row r' h2) ?_
     rintro y ⟨a,b,i,r2,h4,rfl⟩;dsimp only;simp only [Int.toNat_natCast];exact pP ⟨_,_,_,_,h4,rfl⟩
   · exact ⟨_,h2,rfl⟩
 · rintro y ⟨r',h,rfl⟩
   exact pP ⟨_,h,rfl⟩
theorem g4q (o n:Nat) (a b k:Int) (row r:List Int) (h:Fr o n row r) :
 Pf (j9h (((o:Int),(n:Int)),a,b,k,r,T,A,B,())) (fun y=>∃(r':List Int),Fr o n row r'∧y=(r',T,A,B,())):=by
 unfold j9h v8p;dsimp only;simp only [Int.toNat_natCast];refine pZ (P:=fun y=>∃(r':List Int),Fr o n row r'∧y=(r',T,A,B,())) ?_ ?_
 · refine pL ?I ?h _ ?hv
   case I=>exact (fun v=>∃(a b k i:Int) (r':List Int),Fr o n row r'∧v=(((o:Int),(n:Int)),a,b,k,i,r',T,A,B,()))
   case hv=>exact ⟨_,_,_,_,_,h,rfl⟩
   rintro v ⟨a,b,k,i,r',h2,rfl⟩;unfold j5u;dsimp only;simp only [Int.toNat_natCast];with_reducible repeat' (first | exact pN | apply pP | apply pX<;>intro _)
   · exact ⟨_,_,_,_,_,q2v (q2v h2 (by omega)) (by omega),rfl⟩
   · exact ⟨_,h2,rfl⟩
 · rintro y ⟨r',h,rfl⟩
   exact pP ⟨_,h,rfl⟩
theorem d0k (o n:Nat) (a m b:Int) (row r:List Int) (h:Fr o n row r) :
 Pf (zu (((o:Int),(n:Int)),a,m,b,r,T,A,B,())) (fun y=>∃(r':List Int),Fr o n row r'∧y=(r',T,A,B,())):=by
 unfold zu v8o;dsimp only;simp only [Int.toNat_natCast];refine pZ (P:=fun y=>∃(m i:Int) (r':List Int),Fr o n row r'∧y=(((o:Int),(n:Int)),m,i,r',T,A,B,())) ?_ ?_
 · refine pL ?I ?h _ ?hv
   case I=>exact (fun v=>∃(m i j:Int) (r':List Int),Fr o n row r'∧v=(((o:Int),(n:Int)),m,i,j,r',T,A,B,()))
   case hv=>exact ⟨_,_,_,_,h,rfl⟩
   rintro v ⟨m,i,j,r',h5,rfl⟩;unfold j5t;dsimp only;simp only [Int.toNat_natCast];with_reducible repeat' (first | exact pN | apply pP | apply pX<;>intro _)
   · refine pZ (g4q o n _ _ _ row r' h5) ?_
     rintro y ⟨r2,h6,rfl⟩;exact pP ⟨_,_,_,_,h6,rfl⟩
   · refine pZ (g4q o n _ _ _ row r' h5) ?_
     rintro y ⟨r2,h6,rfl⟩;exact pP ⟨_,_,_,_,h6,rfl⟩
   · exact ⟨_,_,_,h5,rfl⟩
 · rintro y ⟨m,i,r',h4,rfl⟩
   dsimp only;simp only [Int.toNat_natCast];refine pZ (g4q o n _ _ _ row r' h4) ?_;rintro y ⟨r2,h6,rfl⟩;exact pP ⟨_,h6,rfl⟩
theorem g4l (G:jc) (o n:Nat) (a i j:Int) (row:List Int) :
 Pf (xw G (((o:Int),(n:Int)),a,i,j,row,T,A,B,())) (fun y=>∃(a i':Int),y=(((o:Int),(n:Int)),a,i',row,T,A,B,())):=by
 refine pL ?I ?h _ ?hv
 case I=>exact (fun v=>∃(a i' j':Int),v=(((o:Int),(n:Int)),a,i',j',row,T,A,B,()))
 case hv=>exact ⟨_,_,_,rfl⟩
 rintro v ⟨a,i',j',rfl⟩;unfold q8f;dsimp only;simp only [Int.toNat_natCast];with_reducible repeat' (first | exact pN | apply pP | apply pX<;>intro _)
 · refine pZ (k7v _ _) ?_
   rintro ⟨c,t,a',b',u⟩ hc;simp only [Prod.mk.injEq] at hc;obtain ⟨rfl,rfl,rfl,-⟩:=hc;dsimp only;with_reducible repeat' (first | exact pN | apply pP | apply pX<;>intro _)
   all_goals exact ⟨_,_,_,rfl⟩
 · exact ⟨_,_,rfl⟩
theorem g4n (G:jc) (o n:Nat) (a i j:Int) (row:List Int) :
 Pf (xy G (((o:Int),(n:Int)),a,i,j,row,T,A,B,())) (fun y=>∃(a i':Int),y=(((o:Int),(n:Int)),a,i',row,T,A,B,())):=by
 refine pL ?I ?h _ ?hv
 case I=>exact (fun v=>∃(a i' j':Int),v=(((o:Int),(n:Int)),a,i',j',row,T,A,B,()))
 case hv=>exact ⟨_,_,_,rfl⟩
 rintro v ⟨a,i',j',rfl⟩;unfold q8h;dsimp only;simp only [Int.toNat_natCast];with_reducible repeat' (first | exact pN | apply pP | apply pX<;>intro _)
 · refine pZ (k7v _ _) ?_
   rintro ⟨c,t,a',b',u⟩ hc;simp only [Prod.mk.injEq] at hc;obtain ⟨rfl,rfl,rfl,-⟩:=hc;dsimp only;with_reducible repeat' (first | exact pN | apply pP | apply pX<;>intro _)
   all_goals exact ⟨_,_,_,rfl⟩
 · exact ⟨_,_,rfl⟩
theorem g4m (G:jc) (o n:Nat) (i k:Int) (row r:List Int) (h:Fr o n row r) :
 Pf (xx G (((o:Int),(n:Int)),i,k,r,T,A,B,())) (fun y=>∃(r':List Int),Fr o n row r'∧y=(r',T,A,B,())):=by
 refine pL ?I ?h _ ?hv
 case I=>exact (fun v=>∃(i k:Int) (r':List Int),Fr o n row r'∧v=(((o:Int),(n:Int)),i,k,r',T,A,B,()))
 case hv=>exact ⟨_,_,_,h,rfl⟩
 rintro v ⟨i,k,r',h2,rfl⟩;unfold q8g;dsimp only;simp only [Int.toNat_natCast];with_reducible repeat' (first | exact pN | apply pP | apply pX<;>intro _)
 · exact ⟨_,_,_,q2v (q2v h2 (by omega)) (by omega),rfl⟩
 · exact ⟨_,h2,rfl⟩
theorem g4o (G:jc) (o n:Nat) (i k:Int) (row r:List Int) (h:Fr o n row r) :
 Pf (xz G (((o:Int),(n:Int)),i,k,r,T,A,B,())) (fun y=>∃(r':List Int),Fr o n row r'∧y=(r',T,A,B,())):=by
 refine pL ?I ?h _ ?hv
 case I=>exact (fun v=>∃(i k:Int) (r':List Int),Fr o n row r'∧v=(((o:Int),(n:Int)),i,k,r',T,A,B,()))
 case hv=>exact ⟨_,_,_,h,rfl⟩
 rintro v ⟨i,k,r',h2,rfl⟩;unfold q8i;dsimp only;simp only [Int.toNat_natCast];with_reducible repeat' (first | exact pN | apply pP | apply pX<;>intro _)
 · exact ⟨_,_,_,q2v (q2v h2 (by omega)) (by omega),rfl⟩
 · exact ⟨_,h2,rfl⟩
theorem g4p (G:jc) (o n:Nat) (a m b mid s st r p:Int) (row:List Int) :
 Pf (kb G (((o:Int),(n:Int)),a,m,b,mid,s,st,r,p,row,T,A,B,())) (fun y=>∃(a m b mid s st':Int),y=(((o:Int),(n:Int)),a,m,b,mid,s,st',row,T,A,B,())):=by
 refine pL ?I ?h _ ?hv
 case I=>exact (fun v=>∃(a m b mid s i' j' p:Int),v=(((o:Int),(n:Int)),a,m,b,mid,s,i',j',p,row,T,A,B,()))
 case hv=>exact ⟨_,_,_,_,_,_,_,_,rfl⟩
 rintro v ⟨a,m,b,mid,s,i',j',p,rfl⟩;unfold q8j;dsimp only;simp only [Int.toNat_natCast];with_reducible repeat' (first | exact pN | apply pP | apply pX<;>intro _)
 · refine pZ (k7v _ _) ?_
   rintro ⟨c,t,a',b',u⟩ hc;simp only [Prod.mk.injEq] at hc;obtain ⟨rfl,rfl,rfl,-⟩:=hc;dsimp only;with_reducible repeat' (first | exact pN | apply pP | apply pX<;>intro _)
   all_goals exact ⟨_,_,_,_,_,_,_,_,rfl⟩
 · exact ⟨_,_,_,_,_,_,rfl⟩
def Mq (T:List R6) (A:List R4) (B:List R3) (G:jc) (o n:Nat):Prop:=∀(a m b:Int) (row r:List Int),Fr o n row r →
 Pf (G (((o:Int),(n:Int)),a,m,b,r,T,A,B,())) (fun y=>∃(r':List Int),Fr o n row r'∧y=(r',T,A,B,()))
theorem k7x (G:jc) (o n:Nat) (hG:Mq T A B G o n) (b mid e:Int) (row r:List Int) (h:Fr o n row r) :
 Pf (xd G (((o:Int),(n:Int)),b,mid,e,r,T,A,B,())) (fun y=>∃(r':List Int),Fr o n row r'∧y=(r',T,A,B,())):=by
 show Pf (q3w zi G zu _) _;unfold q3w;dsimp only;simp only [Int.toNat_natCast];with_reducible repeat' (first | exact pN | apply pP | apply pX<;>intro _)
 · refine pZ (hG mid e b row r h) ?_
   rintro y ⟨r',h,rfl⟩;exact pP ⟨_,h,rfl⟩
 · exact ⟨_,h,rfl⟩
 · exact ⟨_,h,rfl⟩
theorem k7y (G:jc) (o n:Nat) (hG:Mq T A B G o n) (a b mid st e:Int) (row r:List Int) (h:Fr o n row r) :
 Pf (xe G (((o:Int),(n:Int)),a,b,mid,st,e,r,T,A,B,())) (fun y=>∃(r':List Int),Fr o n row r'∧y=(r',T,A,B,())):=by
 show Pf (q3x zi G zu (xd G) _) _;unfold q3x;dsimp only;simp only [Int.toNat_natCast];have za:∀r0:List Int,Fr o n row r0→Pf ((xd G (((o:Int),(n:Int)),b,mid,e,r0,T,A,B,())).bind fun val=>some (val.fst,val.snd.fst,val.snd.snd.fst,val.snd.snd.snd.fst,())) (fun y=>∃(r':List Int),Fr o n row r'∧y=(r',T,A,B,())):=by
  intro r0 hr;refine pZ (k7x G o n hG b mid e row r0 hr) ?_;rintro y ⟨r',h,rfl⟩;exact pP ⟨_,h,rfl⟩
 with_reducible repeat' (first | exact pN | apply pP | apply pX<;>intro _)
 · refine pZ (hG a st mid row r h) ?_
   rintro y ⟨r',h,rfl⟩;exact za r' h
 · exact za r h
 · exact za r h
theorem x0o (G:jc) (o n:Nat) (hG:Mq T A B G o n) (a m b mid s st q:Int) (row r:List Int) (h:Fr o n row r) :
 Pf (xv G (((o:Int),(n:Int)),a,m,b,mid,s,st,q,r,T,A,B,())) (fun y=>∃(r':List Int),Fr o n row r'∧y=(r',T,A,B,())):=by
 show Pf (q3y zi G zu (xe G) (kb G) _) _;unfold q3y;dsimp only;simp only [Int.toNat_natCast];refine pZ (g4p G o n a m b mid s st q _ r) ?_;rintro y ⟨a,m,b,mid,s,st',rfl⟩;dsimp only;simp only [Int.toNat_natCast];have za:∀(e:Int) (r0:List Int),Fr o n row r0→Pf ((xe G (((o:Int),(n:Int)),a,b,mid,st',e,r0,T,A,B,())).bind fun val=>some (val.fst,val.snd.fst,val.snd.snd.fst,val.snd.snd.snd.fst,())) (fun y=>∃(r':List Int),Fr o n row r'∧y=(r',T,A,B,())):=by
  intro e r0 hr0;refine pZ (k7y G o n hG a b mid st' e row r0 hr0) ?_;rintro y ⟨r',h,rfl⟩;exact pP ⟨_,h,rfl⟩
 with_reducible repeat' (first | exact pN | apply pP | apply pX<;>intro _)
 · refine pZ (d0k o n _ _ _ row r h) ?_
   rintro y ⟨r',h,rfl⟩;exact za _ r' h
 · exact za _ r h
 · exact za _ r h
theorem w6e (o n:Nat):∀k:Nat,Mq T A B (q0v q5k k) o n
 | 0=>fun a m b row r h=>fun _ e=>by cases e
 | k+1=>fun a m b row r h=>by
  have hG:=w6e o n k;show Pf (q5k (q0v q5k k) _) _;generalize q0v q5k k=G at hG ⊢;show Pf (z7b zi G zu (xv G) (xw G) (xx G) (xy G) (xz G) _) _;unfold z7b;dsimp only;simp only [Int.toNat_natCast];have za:∀{x:Option (List Int×List R6×List R4×List R3×Unit)},Pf x (fun y=>∃(r':List Int),Fr o n row r'∧y=(r',T,A,B,()))→Pf (x.bind fun val=>some (val.fst,val.snd.fst,val.snd.snd.fst,val.snd.snd.snd.fst,())) (fun y=>∃(r':List Int),Fr o n row r'∧y=(r',T,A,B,())):=by
   intro x hx;refine pZ hx ?_;rintro y ⟨r',h,rfl⟩;exact pP ⟨_,h,rfl⟩
  with_reducible repeat' (first | exact pN | apply pP | apply pX<;>intro _)
  · refine pZ (g4l G o n _ _ _ r) ?_
    rintro y ⟨a',i',rfl⟩;dsimp only;simp only [Int.toNat_natCast];exact za (g4m G o n _ _ row r h)
  · refine pZ (g4n G o n _ _ _ r) ?_
    rintro y ⟨a',i',rfl⟩;dsimp only;simp only [Int.toNat_natCast];exact za (g4o G o n _ _ row r h)
  · exact za (x0o G o n hG _ _ _ _ _ _ _ row r h)
  · exact za (x0o G o n hG _ _ _ _ _ _ _ row r h)
theorem f8b (o n:Nat) (a m b:Int) (row r:List Int) (h:Fr o n row r) :
 Pf (j3o (((o:Int),(n:Int)),a,m,b,r,T,A,B,())) (fun y=>∃(r':List Int),Fr o n row r'∧y=(r',T,A,B,())):=by
 show Pf (q0v q5k je _) _;exact w6e o n je a m b row r h
theorem g4h (o n:Nat) (x y' z w:Int) (row r:List Int) (h:Fr o n row r) :
 Pf (q7z (((o:Int),(n:Int)),x,y',z,w,r,T,A,B,())) (fun y=>∃(x y' a:Int) (r':List Int),Fr o n row r'∧y=(((o:Int),(n:Int)),x,y',a,r',T,A,B,())):=by
 refine pL ?I ?h _ ?hv
 case I=>exact (fun v=>∃(x y' z w:Int) (r':List Int),Fr o n row r'∧v=(((o:Int),(n:Int)),x,y',z,w,r',T,A,B,()))
 case hv=>exact ⟨_,_,_,_,_,h,rfl⟩
 rintro v ⟨x,y',z,w,r',h3,rfl⟩;unfold j5n;dsimp only;simp only [Int.toNat_natCast];with_reducible repeat' (first | exact pN | apply pP | apply pX<;>intro _)
 · refine pZ (f8a o n _ _ row r' h3) ?_
   rintro y ⟨r2,h4,rfl⟩;exact pP ⟨_,_,_,_,_,h4,rfl⟩
 · exact ⟨_,_,_,_,h3,rfl⟩
theorem g4i (o n:Nat) (x y' z w:Int) (row r:List Int) (h:Fr o n row r) :
 Pf (q8a (((o:Int),(n:Int)),x,y',z,w,r,T,A,B,())) (fun y=>∃(x y' a:Int) (r':List Int),Fr o n row r'∧y=(((o:Int),(n:Int)),x,y',a,r',T,A,B,())):=by
 refine pL ?I ?h _ ?hv
 case I=>exact (fun v=>∃(x y' z w:Int) (r':List Int),Fr o n row r'∧v=(((o:Int),(n:Int)),x,y',z,w,r',T,A,B,()))
 case hv=>exact ⟨_,_,_,_,_,h,rfl⟩
 rintro v ⟨x,y',z,w,r',h3,rfl⟩;unfold j5o;dsimp only;simp only [Int.toNat_natCast];with_reducible repeat' (first | exact pN | apply pP | apply pX<;>intro _)
 · refine pZ (f8b o n _ _ _ row r' h3) ?_
   rintro y ⟨r2,h4,rfl⟩;exact pP ⟨_,_,_,_,_,h4,rfl⟩
 · exact ⟨_,_,_,_,h3,rfl⟩
theorem d0i (o n:Nat) (x:Int) (row r:List Int) (h:Fr o n row r) :
 Pf (y1a (((o:Int),(n:Int)),x,r,T,A,B,())) (fun y=>∃(r':List Int),Fr o n row r'∧y=(r',T,A,B,())):=by
 unfold y1a v8f;dsimp only;simp only [Int.toNat_natCast];refine pZ (g4h o n _ _ _ _ row r h) ?_;rintro y ⟨x,z,a,r1,h3,rfl⟩;dsimp only;simp only [Int.toNat_natCast];refine pZ (f8a o n _ _ row r1 h3) ?_;rintro y ⟨r2,h4,rfl⟩;dsimp only;refine pZ (P:=fun y=>∃(r':List Int),Fr o n row r'∧y=(r',T,A,B,())) ?_ ?_
 · refine pL ?I ?h _ ?hv
   case I=>exact (fun v=>∃(x bs:Int) (r':List Int),Fr o n row r'∧v=(((o:Int),(n:Int)),x,bs,r',T,A,B,()))
   case hv=>exact ⟨_,_,r2,h4,rfl⟩
   rintro v ⟨x,bs,r',h7,rfl⟩;unfold j5p;dsimp only;simp only [Int.toNat_natCast];with_reducible repeat' (first | exact pN | apply pP | apply pX<;>intro _)
   · refine pZ (g4i o n _ _ _ _ row r' h7) ?_
     rintro y ⟨x,bs,a,r3,h10,rfl⟩;dsimp only;simp only [Int.toNat_natCast];with_reducible repeat' (first | exact pN | apply pP | apply pX<;>intro _)
     · refine pZ (f8b o n _ _ _ row r3 h10) ?_
       rintro y ⟨r4,h11,rfl⟩;exact pP ⟨_,_,_,h11,rfl⟩
     · exact ⟨_,_,_,h10,rfl⟩
   · exact ⟨_,h7,rfl⟩
 · rintro y ⟨r',h,rfl⟩
   exact pP ⟨_,h,rfl⟩
theorem d0e (o n:Nat) (row:List Int) :
 Pf (j3n (((o:Int),(n:Int)),row,T,A,B,())) (fun y=>∃(r':List Int),Fr o n row r'∧y=(r',T,A,B,())):=by
 unfold j3n v7p;dsimp only;simp only [Int.toNat_natCast];refine pZ (d0i o n _ row row k1r) ?_;rintro y ⟨r',h,rfl⟩;exact pP ⟨_,h,rfl⟩
structure KT (T:List R6) (A:List R4) (B:List R3):Prop where
 cl:∀x,kk x=true→xc (T,A,B,x,())=some (0,())
 lo:∀x,kk x=true→j1q (T,A,B,x,())=some (x,())
 ca:∀x,kk x=true→q2e (T,A,B,x,())=some (false,())
theorem g4b (f k:Int) (row:List Int) :
 Pf (vz (f,k,T,A,B,row,())) (fun y=>∃(r':List Int),0≤f∧Fr f.toNat (k.toNat - f.toNat) row r'∧y=(IntKind.i64.wrap (k+1),k,T,A,B,r',())):=by
 unfold vz j5d;dsimp only;with_reducible repeat' (first | exact pN | apply pP | apply pX<;>intro _)
 rename_i h1 h2;refine pZ (d0e f.toNat (k.toNat - f.toNat) row) ?_;rintro y ⟨r',h,rfl⟩;exact pP ⟨_,h2.1,h,rfl⟩
theorem b9s (hK:KT T A B) (l:List Int) (hl:l.length≤35184372088832):Pf (y0w (T,A,B,l,())) (fun y=>Rr l y.1):=by
 unfold y0w v6z;dsimp only;refine pZ (P:=fun y=>y.1=l) ?_ ?_
 · unfold j9e
   dsimp only;with_reducible repeat' (first | exact pN | apply pP | apply pX<;>intro _)
   rfl
 rintro ⟨l',u⟩ hl';dsimp only at hl' ⊢;subst hl';refine pZ (P:=fun y=>Rr l' y.1) ?_ (fun _ h=>pP h);refine pL ?I ?h _ ?hv
 case I=>exact (fun v=>∃(f:Int) (k:Int) (r':List Int),0≤f∧f≤k∧k≤l'.length+1∧r'.length=l'.length∧(∀(i:Nat) (x:Int),l'[i]? = some x→kk x=true→r'[i]? = some x)∧(∀i:Nat,f≤i→i<k→∀x,r'[i]? = some x→kk x=false)∧v=(f,k,T,A,B,r',()))
 case hv=>exact ⟨0,0,l',Int.le_refl _,Int.le_refl _,by omega,rfl,fun _ _ h _=>h,fun i _ h=>by omega,rfl⟩
 rintro v ⟨f,k,r',h1,h2,h3,h4,h5,h6,rfl⟩;unfold j5e;dsimp only;have za:k≤r'.length→Pf ((vz (f,k,T,A,B,r',())).bind fun val=>some (Sum.inl (val.fst,IntKind.i64.wrap (val.snd.fst+1),val.snd.snd.fst,val.snd.snd.snd.fst,val.snd.snd.snd.snd.fst,val.snd.snd.snd.snd.snd.fst,())))
  (Sum.elim (fun v':Int×Int×List R6×List R4×List R3×List Int×Unit=>∃(f:Int) (k:Int) (r':List Int),0≤f∧f≤k∧k≤l'.length+1∧r'.length=l'.length∧(∀(i:Nat) (x:Int),l'[i]? = some x→kk x=true→r'[i]? = some x)∧(∀i:Nat,f≤i→i<k→∀x,r'[i]? = some x→kk x=false)∧v'=(f,k,T,A,B,r',())) (fun y:List Int×Unit=>Rr l' y.1)):=by
  intro hk;refine pZ (g4b f k r') ?_;rintro y ⟨r2,h7,h8,rfl⟩;dsimp only;rw [qh (n:=k+1) (by omega)];refine pP ⟨_,_,_,by omega,Int.le_refl _,by omega,h8.1.trans h4,?_,fun i _ _=>by omega,rfl⟩;intro i x hi hx;have hr:=h5 i x hi hx;rw [h8.2 i]
  · exact hr
  · by_cases hik:f≤i∧(i:Int)<k
    · have:=h6 i hik.1 hik.2 x hr
      rw [this] at hx;cases hx
    · omega
 with_reducible repeat' (first | exact pN | apply pP | apply pX<;>intro _)
 · rename_i h7 h8 h9
   refine pZ (pM (P:=fun y=>kk (r'.getD k.toNat 0)=true→y.1=0) (fun y e hk=>by
    rw [hK.cl _ hk] at e;cases e;rfl) fun _ h=>h) ?_
   rintro ⟨c,u⟩ hc;dsimp only at hc ⊢;with_reducible repeat' (first | exact pN | apply pP | apply pX<;>intro _)
   · rename_i h10
     rw [qh (n:=k+1) (by omega)];refine ⟨_,_,_,h1,by omega,by omega,h4,h5,fun i hi hik x hx => ?_,rfl⟩;by_cases hlt:(i:Int)<k
     · exact h6 i hi hlt x hx
     · have hik':i=k.toNat:=by omega
       subst hik';cases hkx:kk x with
       | false=>rfl
       | true =>
        have:r'.getD k.toNat 0=x:=by rw [List.getD_eq_getElem?_getD,hx];rfl
        rw [this] at hc;have:=hc hkx;omega
   · exact za (by omega)
 · exact za (by omega)
 · exact Rr.pt h4 h5
end
end Go.Proofs.YtiacnhhmkdkpmaaGreatDoorA.W
