/- The texts of the proof, one behind the other: W10, W11, W12, W13, PB, W14, PD0, PD1, PD2, PD3, PD4, PD5, PD6, PD7, PD8, PD9, PR0. -/
import Derived.Test.YtiacnhhmkdkpmaaGreatDoorAMv4
import Derived.Test.YtiacnhhmkdkpmaaGreatDoorAMv2
import Derived.Lib.IndexMore
set_option maxRecDepth 100000
set_option linter.unusedVariables false
namespace Go.Proofs.YtiacnhhmkdkpmaaGreatDoorA.W
open Go Go.Ae
abbrev j0h:=ya×Int×qa×qa×Unit→Option (ya×Int×qa×qa×Unit)
def y9v (f:j0h):LEnt:=⟨w9i,g3c,f⟩
abbrev x8r:=ya×Int×qa×qa×Unit→Option (Bool×ya×Int×qa×qa×Unit)
def f6x (f:x8r):FEnt:=⟨q7d,q7f,f⟩
def g8m (f146:kg):=lk [(146,x7w f146)]
theorem v8u:zd Tryz.prog (g8m yx):=(kc y4k kn)
def q2l (f146:kg):ye (ya×Int×qa×qa×Unit) (ya×Int×qa×qa×Unit):=fun (x0,x1,x2,x3,_)=>(f146 (0,x0,x1,x2,x3,())).bind fun v=>bif v.1==4 then some (Sum.inl (v.2.1,IntKind.i64.wrap (v.2.2.1+1),v.2.2.2.1,v.2.2.2.2.1,())) else (f146 (0,v.2.1,v.2.2.1,v.2.2.2.1,v.2.2.2.2.1,())).bind fun v=>bif v.1==3 then some (Sum.inl (v.2.1,IntKind.i64.wrap (v.2.2.1+1),v.2.2.2.1,v.2.2.2.2.1,())) else some (Sum.inr (v.2.1,v.2.2.1,v.2.2.2.1,v.2.2.2.2.1,()))
def q8j:j0h:=qb (q2l yx) je
theorem w1w:jf 1 (qd (code Tryz.f109) [1,0,0,0]) (y9v q8j):=zl1 w9i g3c g8m q2l yx v8u
def d3v (f109_l0:j0h):Ann:=(.seq .nil (.seq (.blk (.loop (y9v f109_l0))) .nil))
def k3k (f146:kg) (f109_l0:j0h):x8r:=fun (x0,x1,x2,x3,_)=>(f109_l0 (x0,x1,x2,x3,())).bind fun v=>some (true,v.1,v.2.1,v.2.2.1,v.2.2.2.1,())
theorem d8z (f146:kg) (f109_l0:j0h):yd (g8m f146) 1 Tryz.f109 (d3v f109_l0) q7d q7f (k3k f146 f109_l0):=fun v=>by kernel_rfl
def x7b:x8r:=k3k yx q8j
theorem b5t:FO 109 (f6x x7b) :=
 qo v8u Tryz.func109 (And.intro w1w trivial) (d8z yx q8j)
abbrev j6h:=qa×ya×Int×qa×qa×Unit→Option (Bool×ya×Int×qa×qa×Unit)
def g7b (f:j6h):FEnt:=⟨w9j,q7f,f⟩
def d1l (f146:kg):=lk [(146,x7w f146)]
def v4t (f146:kg):j6h:=fun (x0,x1,x2,x3,x4,_)=>(f146 (0,x1,x2,x3,x4,())).bind fun v=>bif v.1==2 then bif decide (0≤v.2.2.1)&&decide (v.2.2.1<(↑(List.length v.2.1):Int)) then some ((List.getD v.2.1 (Int.toNat v.2.2.1) (0,([],0))).2.1==x0,v.2.1,v.2.2.1,v.2.2.2.1,v.2.2.2.2.1,()) else none else some (false,v.2.1,v.2.2.1,v.2.2.2.1,v.2.2.2.2.1,())
theorem d9l (f146:kg):yd (d1l f146) 1 Tryz.f148 .nil w9j q7f (v4t f146):=fun v=>by kernel_rfl
def q8x:j6h:=v4t yx
theorem g5p:FO 148 (g7b q8x) :=
 q0 (kc y4k kn) Tryz.func148 (d9l yx)
abbrev j0v:=qa×ya×Int×qa×qa×Unit→Option (qa×ya×Int×qa×qa×Unit)
def x0s (f:j0v):LEnt:=⟨x3z,g3e,f⟩
abbrev q5z:=qa×ya×Int×qa×qa×Unit→Option (qa×Bool×ya×Int×qa×qa×Unit)
def x0r (f:q5z):LEnt:=⟨x3z,g3f,f⟩
abbrev j4i:=ya×Int×qa×qa×Unit→Option (qa×Bool×ya×Int×qa×qa×Unit)
def g7a (f:j4i):FEnt:=⟨q7d,g3d,f⟩
def k6v (f146:kg) (f148:j6h):=lk [(146,x7w f146),(148,g7b f148)]
theorem y8e:zd Tryz.prog (k6v yx q8x):=(kc y4k (kc g5p kn))
def q0u (f146:kg) (f148:j6h):ye (qa×ya×Int×qa×qa×Unit) (qa×ya×Int×qa×qa×Unit):=fun (x0,x1,x2,x3,x4,_)=>(f148 ([46],x1,x2,x3,x4,())).bind fun v=>bif v.1 then (f146 (1,v.2.1,v.2.2.1,v.2.2.2.1,v.2.2.2.2.1,())).bind fun v=>bif v.1==0 then bif decide (0≤IntKind.i64.wrap (v.2.2.1+1))&&decide (IntKind.i64.wrap (v.2.2.1+1)<(↑(List.length v.2.1):Int)) then bif decide ([46].length+List.length (List.getD v.2.1 (IntKind.i64.wrap (v.2.2.1+1)).toNat (0,([],0))).2.1≤9223372036854775807) then bif decide (x0.length+([46]++(List.getD v.2.1 (IntKind.i64.wrap (v.2.2.1+1)).toNat (0,([],0))).2.1).length≤9223372036854775807) then some (Sum.inl (x0++([46]++(List.getD v.2.1 (IntKind.i64.wrap (v.2.2.1+1)).toNat (0,([],0))).2.1),v.2.1,IntKind.i64.wrap (v.2.2.1+2),v.2.2.2.1,v.2.2.2.2.1,())) else none else none else none else some (Sum.inr (x0,v.2.1,v.2.2.1,v.2.2.2.1,v.2.2.2.2.1,())) else some (Sum.inr (x0,v.2.1,v.2.2.1,v.2.2.2.1,v.2.2.2.2.1,()))
def j6p:j0v:=qb (q0u yx q8x) je
theorem w2t:jf 1 (qd (code Tryz.f147) [1,1,1,0,1,0,0]) (x0s j6p):=zl2 x3z g3e k6v q0u yx q8x y8e
def k8d (f147_l0:j0v):Ann:=(.seq (.seq .nil (.blk (.loop (x0s f147_l0)))) .nil)
def z7h (f146:kg) (f148:j6h) (f147_l0:j0v):q5z:=fun (x0,x1,x2,x3,x4,_)=>(f147_l0 (x0,x1,IntKind.i64.wrap (x2+1),x3,x4,())).bind fun v=>some (v.1,true,v.2.1,v.2.2.1,v.2.2.2.1,v.2.2.2.2.1,())
theorem w0k (f146:kg) (f148:j6h) (f147_l0:j0v):AqC (k6v f146 f148) 1 (qd (code Tryz.f147) [1,1,1]) (k8d f147_l0) x3z g3f (z7h f146 f148 f147_l0):=fun v=>by kernel_rfl
def q8w:q5z:=z7h yx q8x j6p
theorem w2s:zo 1 (qd (code Tryz.f147) [1,1,1]) (x0r q8w) :=
 frd y8e (And.intro w2t trivial) (w0k yx q8x j6p)
def d4k (f147_c0:q5z):Ann:=(.seq .nil (.seq .nil (.cut .nil (x0r f147_c0))))
def v4s (f146:kg) (f148:j6h) (f147_c0:q5z):j4i:=fun (x0,x1,x2,x3,_)=>(f146 (0,x0,x1,x2,x3,())).bind fun v=>bif v.1 != 0 then some ([],false,v.2.1,v.2.2.1,v.2.2.2.1,v.2.2.2.2.1,()) else bif decide (0≤v.2.2.1)&&decide (v.2.2.1<(↑(List.length v.2.1):Int)) then (f147_c0 ((List.getD v.2.1 (Int.toNat v.2.2.1) (0,([],0))).2.1,v.2.1,v.2.2.1,v.2.2.2.1,v.2.2.2.2.1,())).bind fun v=>some (v.1,v.2.1,v.2.2.1,v.2.2.2.1,v.2.2.2.2.1,v.2.2.2.2.2.1,()) else none
theorem d9k (f146:kg) (f148:j6h) (f147_c0:q5z):yd (k6v f146 f148) 1 Tryz.f147 (d4k f147_c0) q7d g3d (v4s f146 f148 f147_c0):=fun v=>by kernel_rfl
def q8v:j4i:=v4s yx q8x q8w
theorem g5o:FO 147 (g7a q8v) :=
 qo y8e Tryz.func147 (And.intro w2s trivial) (d9k yx q8x q8w)
abbrev q5q:=ya×Int×qa×qa×Unit→Option (Bool×ya×Int×qa×qa×Unit)
def y9w (f:q5q):LEnt:=⟨x4a,x4v,f⟩
abbrev x8s:=ya×Int×qa×qa×Unit→Option (Bool×ya×Int×qa×qa×Unit)
def f6y (f:x8s):FEnt:=⟨q7d,q7f,f⟩
def g8n (f146:kg) (f147:j4i):=lk [(146,x7w f146),(147,g7a f147)]
theorem v8v:zd Tryz.prog (g8n yx q8v):=(kc y4k (kc g5o kn))
def z7a (f146:kg) (f147:j4i):q5q:=fun (x0,x1,x2,x3,_)=>some (true,x0,IntKind.i64.wrap (x1+1),x2,x3,())
theorem w0b (f146:kg) (f147:j4i):AqC (g8n f146 f147) 1 (qd (code Tryz.f110) [1,0,1,0,1]) .nil x4a x4v (z7a f146 f147):=fun v=>by kernel_rfl
def q8k:q5q:=z7a yx q8v
theorem w1x:zo 1 (qd (code Tryz.f110) [1,0,1,0,1]) (y9w q8k) :=
 frc v8v (w0b yx q8v)
def d3w (f110_c0:q5q):Ann:=(.seq .nil (.seq (.seq .nil (.cond (.cut .nil (y9w f110_c0)) .nil)) .nil))
def v4o (f146:kg) (f147:j4i) (f110_c0:q5q):x8s:=fun (x0,x1,x2,x3,_)=>(f146 (0,x0,x1,x2,x3,())).bind fun v=>bif v.1==1 then bif decide (0≤v.2.2.1)&&decide (v.2.2.1<(↑(List.length v.2.1):Int)) then (f110_c0 (v.2.1,v.2.2.1,(List.getD v.2.1 (Int.toNat v.2.2.1) (0,([],0))).2.1,v.2.2.2.2.1,())).bind fun v=>some (v.1,v.2.1,v.2.2.1,v.2.2.2.1,v.2.2.2.2.1,()) else none else (f147 (v.2.1,v.2.2.1,v.2.2.2.1,v.2.2.2.2.1,())).bind fun v=>some (v.2.1,v.2.2.1,v.2.2.2.1,v.1,v.2.2.2.2.2.1,())
theorem d9a (f146:kg) (f147:j4i) (f110_c0:q5q):yd (g8n f146 f147) 1 Tryz.f110 (d3w f110_c0) q7d q7f (v4o f146 f147 f110_c0):=fun v=>by kernel_rfl
def x7c:x8s:=v4o yx q8v q8k
theorem b5u:FO 110 (f6y x7c) :=
 qo v8v Tryz.func110 (And.intro w1x trivial) (d9a yx q8v q8k)
abbrev x8t:=ya×Int×qa×qa×Unit→Option (Bool×ya×Int×qa×qa×Unit)
def f6z (f:x8t):FEnt:=⟨q7d,q7f,f⟩
def d1d (f148:j6h):=lk [(148,g7b f148)]
def k3l (f148:j6h):x8t:=fun (x0,x1,x2,x3,_)=>(f148 ([64],x0,x1,x2,x3,())).bind fun v=>some (v.1,v.2.1,IntKind.i64.wrap (v.2.2.1+1),v.2.2.2.1,v.2.2.2.2.1,())
theorem d9b (f148:j6h):yd (d1d f148) 1 Tryz.f111 .nil q7d q7f (k3l f148):=fun v=>by kernel_rfl
def x7d:x8t:=k3l q8x
theorem b5v:FO 111 (f6z x7d) :=
 q0 (kc g5p kn) Tryz.func111 (d9b q8x)
abbrev j8l:=qa×Int×Int×qa×Unit→Option (qa×Unit)
def x0b (f:j8l):LEnt:=⟨w9k,g3g,f⟩
abbrev v5j:=qa×Unit→Option (qa×Unit)
def f7h (f:v5j):FEnt:=⟨kf,z0j,f⟩
def we:ye (qa×Int×Int×qa×Unit) (qa×Unit):=fun (x0,x1,x2,x3,_)=>bif decide (x2<x1) then bif decide (0≤x2)&&decide (x2<(↑x0.length:Int)) then bif (↑(x0.getD x2.toNat 0).toNat:Int)==34 then bif decide (x3.length+[92].length≤140737488355328/1) then bif decide (0≤x2)&&decide (x2<(↑x0.length:Int)) then bif decide ((x3++[92]).length+[UInt8.ofNat (↑(x0.getD x2.toNat 0).toNat:Int).toNat].length≤140737488355328/1) then some (Sum.inl (x0,x1,IntKind.i64.wrap (x2+1),x3++[92]++[UInt8.ofNat (↑(x0.getD x2.toNat 0).toNat:Int).toNat],())) else none else none else none else bif decide (0≤x2)&&decide (x2<(↑x0.length:Int)) then bif (↑(x0.getD x2.toNat 0).toNat:Int)==92 then bif decide (x3.length+[92].length≤140737488355328/1) then bif decide (0≤x2)&&decide (x2<(↑x0.length:Int)) then bif decide ((x3++[92]).length+[UInt8.ofNat (↑(x0.getD x2.toNat 0).toNat:Int).toNat].length≤140737488355328/1) then some (Sum.inl (x0,x1,IntKind.i64.wrap (x2+1),x3++[92]++[UInt8.ofNat (↑(x0.getD x2.toNat 0).toNat:Int).toNat],())) else none else none else none else bif decide (0≤x2)&&decide (x2<(↑x0.length:Int)) then bif decide (x3.length+[UInt8.ofNat (↑(x0.getD x2.toNat 0).toNat:Int).toNat].length≤140737488355328/1) then some (Sum.inl (x0,x1,IntKind.i64.wrap (x2+1),x3++[UInt8.ofNat (↑(x0.getD x2.toNat 0).toNat:Int).toNat],())) else none else none else none else none else some (Sum.inr (x3,()))
def q8m:j8l:=qb (we) je
theorem w2c:jf 0 (qd (code Tryz.f126) [1,1,0,1,0,0]) (x0b q8m):=zl0 w9k g3g xc we kn
def d4a (f126_l0:j8l):Ann:=(.seq .nil (.seq .nil (.seq (.seq .nil (.blk (.loop (x0b f126_l0)))) .nil)))
def k3o (f126_l0:j8l):v5j:=fun (x0,_)=>(f126_l0 (x0,(↑x0.length:Int),0,[],())).bind fun v=>some (v.1,())
def v2h:v5j:=k3o q8m
theorem b6d:FO 126 (f7h v2h):=q2c kf z0j xc d4a k3o q8m kn Tryz.func126 (And.intro w2c trivial)
abbrev T89:=Int×qa×Int×Unit→Option (qa×Unit)
def E89 (f:T89):FEnt:=⟨w9l,z0j,f⟩
def K89 (f126:v5j):=lk [(126,f7h f126)]
def F89 (f126:v5j):T89:=fun (x0,x1,x2,_)=>bif x0==1 then (f126 (x1,())).bind fun v=>bif decide ([34].length+List.length v.1≤9223372036854775807) then bif decide (([34]++v.1).length+[34].length≤9223372036854775807) then some ([34]++v.1++[34],()) else none else none else bif x0==3 then bif decide ([40].length+x1.length≤9223372036854775807) then bif decide (([40]++x1).length+[41].length≤9223372036854775807) then some ([40]++x1++[41],()) else none else none else bif x0==5 then bif decide ([91].length+x1.length≤9223372036854775807) then bif decide (([91]++x1).length+[93].length≤9223372036854775807) then some ([91]++x1++[93],()) else none else none else some (x1,())
def C89:T89:=F89 v2h
theorem f5c:FO 89 (E89 C89):=kl w9l z0j K89 F89 v2h (kc b6d kn) Tryz.func89
abbrev q5r:=ya×Int×qa×qa×Unit→Option (Bool×ya×Int×qa×qa×Unit)
def y9x (f:q5r):LEnt:=⟨x4a,x4v,f⟩
abbrev x8u:=ya×Int×qa×qa×Unit→Option (Bool×ya×Int×qa×qa×Unit)
def f7a (f:x8u):FEnt:=⟨q7d,q7f,f⟩
def g8o (f146:kg) (f147:j4i) (f89:T89):=lk [(146,x7w f146),(147,g7a f147),(89,E89 f89)]
theorem v8w:zd Tryz.prog (g8o yx q8v C89):=(kc y4k (kc g5o (kc f5c kn)))
def z7b (f146:kg) (f147:j4i) (f89:T89):q5r:=fun (x0,x1,x2,x3,_)=>some (true,x0,IntKind.i64.wrap (x1+1),x2,x3,())
theorem w0c (f146:kg) (f147:j4i) (f89:T89):AqC (g8o f146 f147 f89) 1 (qd (code Tryz.f112) [1,0,1,0,1]) .nil x4a x4v (z7b f146 f147 f89):=fun v=>by kernel_rfl
def q8l:q5r:=z7b yx q8v C89
theorem w1y:zo 1 (qd (code Tryz.f112) [1,0,1,0,1]) (y9x q8l) :=
 frc v8w (w0c yx q8v C89)
def d3x (f112_c0:q5r):Ann:=(.seq .nil (.seq (.seq .nil (.cond (.cut .nil (y9x f112_c0)) .nil)) .nil))
def v4p (f146:kg) (f147:j4i) (f89:T89) (f112_c0:q5r):x8u:=fun (x0,x1,x2,x3,_)=>(f146 (0,x0,x1,x2,x3,())).bind fun v=>bif v.1==5 then bif decide (0≤v.2.2.1)&&decide (v.2.2.1<(↑(List.length v.2.1):Int)) then (f89 ((List.getD v.2.1 (Int.toNat v.2.2.1) (0,([],0))).1,(List.getD v.2.1 (Int.toNat v.2.2.1) (0,([],0))).2.1,(List.getD v.2.1 (Int.toNat v.2.2.1) (0,([],0))).2.2,())).bind fun v1=>(f112_c0 (v.2.1,v.2.2.1,v.2.2.2.1,v1.1,())).bind fun v=>some (v.1,v.2.1,v.2.2.1,v.2.2.2.1,v.2.2.2.2.1,()) else none else (f147 (v.2.1,v.2.2.1,v.2.2.2.1,v.2.2.2.2.1,())).bind fun v=>some (v.2.1,v.2.2.1,v.2.2.2.1,v.2.2.2.2.1,v.1,())
theorem d9c (f146:kg) (f147:j4i) (f89:T89) (f112_c0:q5r):yd (g8o f146 f147 f89) 1 Tryz.f112 (d3x f112_c0) q7d q7f (v4p f146 f147 f89 f112_c0):=fun v=>by kernel_rfl
def x7e:x8u:=v4p yx q8v C89 q8l
theorem b5w:FO 112 (f7a x7e) :=
 qo v8w Tryz.func112 (And.intro w1y trivial) (d9c yx q8v C89 q8l)
abbrev T71:=ya×Unit→Option (qa×qa×Int×Bool×Unit)
def E71 (f:T71):FEnt:=⟨w9m,g3h,f⟩
def K71 (f109:x8r) (f110:x8s) (f111:x8t) (f112:x8u):=lk [(109,f6x f109),(110,f6y f110),(111,f6z f111),(112,f7a f112)]
def N71:Ann:=(.seq .nil (.seq .nil (.seq (.seq .nil (.blk (.unroll 9 .nil))) .nil)))
def F71 (f109:x8r) (f110:x8s) (f111:x8t) (f112:x8u):T71:=fun (x0,_)=>(f109 (x0,0,[],[],())).bind fun v=>bif !v.1 then some ([],[],0,false,()) else (f110 (v.2.1,v.2.2.1,v.2.2.2.1,v.2.2.2.2.1,())).bind fun v=>bif !v.1 then some ([],[],0,false,()) else (f109 (v.2.1,v.2.2.1,v.2.2.2.1,v.2.2.2.2.1,())).bind fun v=>bif !v.1 then some ([],[],0,false,()) else (f111 (v.2.1,v.2.2.1,v.2.2.2.1,v.2.2.2.2.1,())).bind fun v=>bif !v.1 then some ([],[],0,false,()) else (f109 (v.2.1,v.2.2.1,v.2.2.2.1,v.2.2.2.2.1,())).bind fun v=>bif !v.1 then some ([],[],0,false,()) else (f112 (v.2.1,v.2.2.1,v.2.2.2.1,v.2.2.2.2.1,())).bind fun v=>bif !v.1 then some ([],[],0,false,()) else (f109 (v.2.1,v.2.2.1,v.2.2.2.1,v.2.2.2.2.1,())).bind fun v=>bif !v.1 then some ([],[],0,false,()) else some (v.2.2.2.1,v.2.2.2.2.1,v.2.2.1,true,())
theorem h71 (f109:x8r) (f110:x8s) (f111:x8t) (f112:x8u):yd (K71 f109 f110 f111 f112) 0 Tryz.f71 N71 w9m g3h (F71 f109 f110 f111 f112):=fun v=>by kernel_rfl
def C71:T71:=F71 x7b x7c x7d x7e
theorem m1t:FO 71 (E71 C71) :=
 qo (kc b5t (kc b5u (kc b5v (kc b5w kn)))) Tryz.func71 trivial (h71 x7b x7c x7d x7e)
abbrev q5w:=Int×Bool×ya×Int×qa×qa×qa×qa×Unit→Option (Bool×ya×Int×qa×qa×Unit)
def x0m (f:q5w):LEnt:=⟨w9n,g3j,f⟩
abbrev y2b:=ya×Int×Unit→Option (qa×qa×Bool×ya×Int×Unit)
def f7p (f:y2b):FEnt:=⟨q3e,g3i,f⟩
def g8s (f71:T71):=lk [(71,E71 f71)]
theorem v8y:zd Tryz.prog (g8s C71):=(kc m1t kn)
def j7g (f71:T71):q5w:=fun (x0,x1,x2,x3,x4,x5,x6,x7,_)=>some (x1,x2,IntKind.i64.wrap (x3+x0),x6,x7,())
def q4w:q5w:=j7g C71
theorem w2n:zo 1 (qd (code Tryz.f143) [1,1]) (x0m q4w):=zc1 w9n g3j g8s j7g C71 v8y
def d4g (f143_c0:q5w):Ann:=(.seq .nil (.cut .nil (x0m f143_c0)))
def k3v (f71:T71) (f143_c0:q5w):y2b:=fun (x0,x1,_)=>bif decide (0≤x1)&&decide (x1≤(↑x0.length:Int)) then (f71 (List.drop x1.toNat x0,())).bind fun v=>(f143_c0 (v.2.2.1,v.2.2.2.1,x0,x1,[],[],v.1,v.2.1,())).bind fun v=>some (v.2.2.2.1,v.2.2.2.2.1,v.1,v.2.1,v.2.2.1,()) else none
theorem j4t (f71:T71) (f143_c0:q5w):yd (g8s f71) 1 Tryz.f143 (d4g f143_c0) q3e g3i (k3v f71 f143_c0):=fun v=>by kernel_rfl
def j5z:y2b:=k3v C71 q4w
theorem b6m:FO 143 (f7p j5z) :=
 qo v8y Tryz.func143 (And.intro w2n trivial) (j4t C71 q4w)
abbrev j8n:=List (Int)×Int×Int×Int×Unit→Option (Unit⊕(Int×Unit))
def x0y (f:j8n):LEnt:=⟨w9o,q0w,f⟩
abbrev v5o:=List (Int)×Int×Unit→Option (Int×Unit)
def f7w (f:v5o):FEnt:=⟨x4b,jh,f⟩
def q0v:ye (List (Int)×Int×Int×Int×Unit) (Unit⊕(Int×Unit)):=fun (x0,x1,x2,x3,_)=>bif decide (x3<x2) then bif decide (0≤x3)&&decide (x3<(↑x0.length:Int)) then bif x1==x0.getD x3.toNat 0 then some (Sum.inr (Sum.inr (x3,()))) else some (Sum.inl (x0,x1,x2,IntKind.i64.wrap (x3+1),())) else none else some (Sum.inr (Sum.inl ()))
def q9a:j8n:=qb (q0v) je
theorem w2z:jf 0 (qd (code Tryz.f175) [1,0,1,0,0]) (x0y q9a):=zl0 w9o q0w xc q0v kn
def d4o (f175_l0:j8n):Ann:=(.seq .nil (.seq (.seq .nil (.blk (.loop (x0y f175_l0)))) .nil))
def k4g (f175_l0:j8n):v5o:=fun (x0,x1,_)=>(f175_l0 (x0,x1,(↑x0.length:Int),0,())).bind fun v=>Sum.elim (fun v=>some (-1,())) (fun v=>some (v.1,())) v
def v2l:v5o:=k4g q9a
theorem b6u:FO 175 (f7w v2l):=q2c x4b jh xc d4o k4g q9a kn Tryz.func175 (And.intro w2z trivial)
abbrev x8y:=List (Int)×Int×Unit→Option (Bool×Unit)
def f7o (f:x8y):FEnt:=⟨x4b,qq,f⟩
def d1k (f175:v5o):=lk [(175,f7w f175)]
def k3u (f175:v5o):x8y:=fun (x0,x1,_)=>(f175 (x0,x1,())).bind fun v=>some (decide (v.1≥0),())
def v2i:x8y:=k3u v2l
theorem b6l:FO 142 (f7o v2i):=kl x4b qq d1k k3u v2l (kc b6u kn) Tryz.func142
abbrev q3m:=List (Int)×ya×Int×Unit→Option (Bool×ya×Int×Unit)
def k2z (f:q3m):FEnt:=⟨w9p,x4w,f⟩
def d1c (f142:x8y):=lk [(142,f7o f142)]
def k3j (f142:x8y):q3m:=fun (x0,x1,x2,_)=>bif decide (x2<(↑x1.length:Int)) then bif decide (0≤x2)&&decide (x2<(↑x1.length:Int)) then (f142 (x0,(x1.getD x2.toNat (0,([],0))).1,())).bind fun v=>some (v.1,x1,x2,()) else none else some (false,x1,x2,())
theorem d8y (f142:x8y):yd (d1c f142) 1 Tryz.f106 .nil w9p x4w (k3j f142):=fun v=>by kernel_rfl
def ky:q3m:=k3j v2i
theorem k0w:FO 106 (k2z ky) :=
 q0 (kc b6l kn) Tryz.func106 (d8y v2i)
abbrev j0u:=ya×Int×Unit→Option (ya×Int×Unit)
def x0p (f:j0u):LEnt:=⟨w9q,g3l,f⟩
abbrev q1q:=ya×Int×Unit→Option (ya×Int×Unit)
def k3b (f:q1q):FEnt:=⟨q3e,g3k,f⟩
def g8t (f106:q3m):=lk [(106,k2z f106)]
theorem v8z:zd Tryz.prog (g8t ky):=(kc k0w kn)
def q5g (f106:q3m):ye (ya×Int×Unit) (ya×Int×Unit):=fun (x0,x1,_)=>(f106 ([4,3],x0,x1,())).bind fun v=>bif v.1 then some (Sum.inl (v.2.1,IntKind.i64.wrap (v.2.2.1+1),())) else some (Sum.inr (v.2.1,v.2.2.1,()))
def q8t:j0u:=qb (q5g ky) je
theorem w2q:jf 1 (qd (code Tryz.f145) [0,0]) (x0p q8t):=zl1 w9q g3l g8t q5g ky v8z
def d4i (f145_l0:j0u):Ann:=(.blk (.loop (x0p f145_l0)))
def k3x (f106:q3m) (f145_l0:j0u):q1q:=fun (x0,x1,_)=>(f145_l0 (x0,x1,())).bind fun v=>some (v.1,v.2.1,())
theorem z9u (f106:q3m) (f145_l0:j0u):yd (g8t f106) 1 Tryz.f145 (d4i f145_l0) q3e g3k (k3x f106 f145_l0):=fun v=>by kernel_rfl
def xj:q1q:=k3x ky q8t
theorem k0y:FO 145 (k3b xj) :=
 qo v8z Tryz.func145 (And.intro w2q trivial) (z9u ky q8t)
abbrev q5x:=ya×Int×List (qa)×Unit→Option (ya×Int×List (qa)×Unit)
def x0n (f:q5x):LEnt:=⟨x4c,g3n,f⟩
abbrev j0t:=ya×Int×List (qa)×Unit→Option (ya×Int×List (qa)×Unit)
def x0o (f:j0t):LEnt:=⟨x4c,g3o,f⟩
abbrev j4h:=ya×Int×Unit→Option (qa×Bool×ya×Int×Unit)
def g6z (f:j4h):FEnt:=⟨q3e,g3m,f⟩
def k6u (f106:q3m) (f145:q1q) (f73:T73):=lk [(106,k2z f106),(145,k3b f145),(73,E73 f73)]
theorem y8d:zd Tryz.prog (k6u ky xj C73):=(kc k0w (kc k0y (kc w6e kn)))
def z7f (f106:q3m) (f145:q1q) (f73:T73):q5x:=fun (x0,x1,x2,_)=>some (x0,IntKind.i64.wrap (x1+1),x2,())
theorem w0i (f106:q3m) (f145:q1q) (f73:T73):AqC (k6u f106 f145 f73) 1 (qd (code Tryz.f144) [1,1,0,1,0,0,1,0,0,1]) .nil x4c g3n (z7f f106 f145 f73):=fun v=>by kernel_rfl
def q8r:q5x:=z7f ky xj C73
theorem w2o:zo 1 (qd (code Tryz.f144) [1,1,0,1,0,0,1,0,0,1]) (x0n q8r) :=
 frc y8d (w0i ky xj C73)
def k8c (f144_c0:q5x):Ann:=(.seq .nil (.seq (.blk (.cut .nil (x0n f144_c0))) .nil))
def q5f (f106:q3m) (f145:q1q) (f73:T73) (f144_c0:q5x):ye (ya×Int×List (qa)×Unit) (ya×Int×List (qa)×Unit):=fun (x0,x1,x2,_)=>(f106 ([0,1],x0,x1,())).bind fun v=>bif v.1 then bif decide (0≤v.2.2.1)&&decide (v.2.2.1<(↑(List.length v.2.1):Int)) then bif decide (x2.length+[(List.getD v.2.1 (Int.toNat v.2.2.1) (0,([],0))).2.1].length≤140737488355328/16) then (f144_c0 (v.2.1,v.2.2.1,x2++[(List.getD v.2.1 (Int.toNat v.2.2.1) (0,([],0))).2.1],())).bind fun v=>(f145 (v.1,v.2.1,())).bind fun v1=>some (Sum.inl (v1.1,v1.2.1,v.2.2.1,())) else none else none else some (Sum.inr (v.2.1,v.2.2.1,x2,()))
theorem w0j (f106:q3m) (f145:q1q) (f73:T73) (f144_c0:q5x):AqL (k6u f106 f145 f73) 1 (qd (code Tryz.f144) [1,1,0,1,0,0]) (k8c f144_c0) x4c g3o (q5f f106 f145 f73 f144_c0):=fun v=>by kernel_rfl
def q8s:j0t:=qb (q5f ky xj C73 q8r) je
theorem w2p:jf 1 (qd (code Tryz.f144) [1,1,0,1,0,0]) (x0o q8s) :=
 frm y8d (And.intro w2o trivial) (w0j ky xj C73 q8r)
def d4h (f144_l0:j0t):Ann:=(.seq .nil (.seq .nil (.seq (.seq .nil (.blk (.loop (x0o f144_l0)))) .nil)))
def k3w (f106:q3m) (f145:q1q) (f73:T73) (f144_l0:j0t):j4h:=fun (x0,x1,_)=>(f145 (x0,x1,())).bind fun v=>(f144_l0 (v.1,v.2.1,[],())).bind fun v=>(f73 (v.2.2.1,[32],())).bind fun v1=>some (v1.1,decide ((↑(List.length v.2.2.1):Int)>0),v.1,v.2.1,())
theorem z1y (f106:q3m) (f145:q1q) (f73:T73) (f144_l0:j0t):yd (k6u f106 f145 f73) 1 Tryz.f144 (d4h f144_l0) q3e g3m (k3w f106 f145 f73 f144_l0):=fun v=>by kernel_rfl
def q0p:j4h:=k3w ky xj C73 q8s
theorem g5n:FO 144 (g6z q0p) :=
 qo y8d Tryz.func144 (And.intro w2p trivial) (z1y ky xj C73 q8s)
abbrev j4o:=ya×Int×Unit→Option (Bool×ya×Int×Unit)
def v4f (f:j4o):LEnt:=⟨w9s,g3p,f⟩
abbrev T68:=qa×ya×Int×Unit→Option (Bool×ya×Int×Unit)
def E68 (f:T68):FEnt:=⟨w9r,x4w,f⟩
def K68 (f106:q3m):=lk [(106,k2z f106)]
theorem g5c:zd Tryz.prog (K68 ky):=(kc k0w kn)
def y6l (f106:q3m):j4o:=fun (x0,x1,_)=>some (true,x0,IntKind.i64.wrap (x1+1),())
def z0a:j4o:=y6l ky
theorem f4f:zo 1 (qd (code Tryz.f68) [1,1]) (v4f z0a):=zc1 w9s g3p K68 y6l ky g5c
def N68 (f68_c0:j4o):Ann:=(.seq .nil (.cut .nil (v4f f68_c0)))
def F68 (f106:q3m) (f68_c0:j4o):T68:=fun (x0,x1,x2,_)=>(f106 ([2],x1,x2,())).bind fun v=>bif !v.1 then some (false,v.2.1,v.2.2.1,()) else bif decide (0≤v.2.2.1)&&decide (v.2.2.1<(↑(List.length v.2.1):Int)) then bif !(List.getD v.2.1 (Int.toNat v.2.2.1) (0,([],0))).2.1==x0 then some (false,v.2.1,v.2.2.1,()) else (f68_c0 (v.2.1,v.2.2.1,())).bind fun v=>some (v.1,v.2.1,v.2.2.1,()) else none
theorem h68 (f106:q3m) (f68_c0:j4o):yd (K68 f106) 1 Tryz.f68 (N68 f68_c0) w9r x4w (F68 f106 f68_c0):=fun v=>by kernel_rfl
def C68:T68:=F68 ky z0a
theorem f4x:FO 68 (E68 C68) :=
 qo g5c Tryz.func68 (And.intro f4f trivial) (h68 ky z0a)
abbrev q5p:=qa×Bool×ya×Int×qa×Bool×qa×qa×Unit→Option (Bool×ya×Int×qa×Bool×List ((qa×qa))×Unit)
def y9t (f:q5p):LEnt:=⟨w9t,g3q,f⟩
abbrev z0m:=ya×Int×Unit→Option (qa×Bool×List ((qa×qa))×Bool×ya×Int×Unit)
def g6w (f:z0m):FEnt:=⟨q3e,z4k,f⟩
def g8k (f143:y2b) (f144:j4h) (f145:q1q) (f68:T68):=lk [(143,f7p f143),(144,g6z f144),(145,k3b f145),(68,E68 f68)]
theorem v8s:zd Tryz.prog (g8k j5z q0p xj C68):=(kc b6m (kc g5n (kc k0y (kc f4x kn))))
def q5b (f143:y2b) (f144:j4h) (f145:q1q) (f68:T68):q5p:=fun (x0,x1,x2,x3,x4,x5,x6,x7,_)=>(f145 (x2,x3,())).bind fun v=>some (x1,v.1,v.2.1,x0,false,[(x6,x7)],())
theorem k9z (f143:y2b) (f144:j4h) (f145:q1q) (f68:T68):AqC (g8k f143 f144 f145 f68) 1 (qd (code Tryz.f107) [1,1,1,1,1,1]) .nil w9t g3q (q5b f143 f144 f145 f68):=fun v=>by kernel_rfl
def xl:q5p:=q5b j5z q0p xj C68
theorem w1u:zo 1 (qd (code Tryz.f107) [1,1,1,1,1,1]) (y9t xl) :=
 frc v8s (k9z j5z q0p xj C68)
def d3t (f107_c0:q5p):Ann:=(.seq .nil (.seq .nil (.seq .nil (.seq .nil (.seq .nil (.cut .nil (y9t f107_c0)))))))
def z3b (f143:y2b) (f144:j4h) (f145:q1q) (f68:T68) (f107_c0:q5p):z0m:=fun (x0,x1,_)=>(f143 (x0,x1,())).bind fun v=>bif v.2.2.1 then some ([],false,[(v.1,v.2.1)],true,v.2.2.2.1,v.2.2.2.2.1,()) else (f144 (v.2.2.2.1,v.2.2.2.2.1,())).bind fun v=>(f68 ([60],v.2.2.1,v.2.2.2.1,())).bind fun v1=>bif !v1.1 then some ([],false,[],false,v1.2.1,v1.2.2.1,()) else (f143 (v1.2.1,v1.2.2.1,())).bind fun v2=>bif v2.2.2.1 then (f68 ([62],v2.2.2.2.1,v2.2.2.2.2.1,())).bind fun v3=>(f107_c0 (v.1,v3.1,v3.2.1,v3.2.2.1,[],false,v2.1,v2.2.1,())).bind fun v=>some (v.2.2.2.1,v.2.2.2.2.1,v.2.2.2.2.2.1,v.1,v.2.1,v.2.2.1,()) else (f107_c0 (v.1,false,v2.2.2.2.1,v2.2.2.2.2.1,[],false,v2.1,v2.2.1,())).bind fun v=>some (v.2.2.2.1,v.2.2.2.2.1,v.2.2.2.2.2.1,v.1,v.2.1,v.2.2.1,())
theorem z1x (f143:y2b) (f144:j4h) (f145:q1q) (f68:T68) (f107_c0:q5p):yd (g8k f143 f144 f145 f68) 1 Tryz.f107 (d3t f107_c0) q3e z4k (z3b f143 f144 f145 f68 f107_c0):=fun v=>by kernel_rfl
def wu:z0m:=z3b j5z q0p xj C68 xl
theorem g5k:FO 107 (g6w wu) :=
 qo v8s Tryz.func107 (And.intro w1u trivial) (z1x j5z q0p xj C68 xl)
abbrev j0g:=Bool×ya×Int×qa×Bool×qa×Bool×List ((qa×qa))×Unit→Option ((ya×Int×qa×Bool×qa×Bool×List ((qa×qa))×Unit)⊕(Bool×ya×Int×qa×Bool×Unit))
def y9u (f:j0g):LEnt:=⟨w9u,g3r,f⟩
abbrev x8q:=ya×Int×Unit→Option (qa×Bool×List ((qa×qa))×Bool×ya×Int×Unit)
def f6w (f:x8q):FEnt:=⟨q3e,z4k,f⟩
def g8l (f107:z0m) (f144:j4h) (f145:q1q) (f68:T68):=lk [(107,g6w f107),(144,g6z f144),(145,k3b f145),(68,E68 f68)]
theorem v8t:zd Tryz.prog (g8l wu q0p xj C68):=(kc g5k (kc g5n (kc k0y (kc f4x kn))))
def q0t (f107:z0m) (f144:j4h) (f145:q1q) (f68:T68):ye (Bool×ya×Int×qa×Bool×qa×Bool×List ((qa×qa))×Unit) ((ya×Int×qa×Bool×qa×Bool×List ((qa×qa))×Unit)⊕(Bool×ya×Int×qa×Bool×Unit)):=fun (x0,x1,x2,x3,x4,x5,x6,x7,_)=>bif x0 then bif decide ((↑x7.length:Int)>0) then (f68 ([44],x1,x2,())).bind fun v=>bif !v.1 then some (Sum.inr (Sum.inr (false,v.2.1,v.2.2.1,[],false,()))) else (f107 (v.2.1,v.2.2.1,())).bind fun v=>bif !v.2.2.2.1 then some (Sum.inr (Sum.inr (false,v.2.2.2.2.1,v.2.2.2.2.2.1,[],false,()))) else bif decide (x7.length+List.length v.2.2.1≤140737488355328/32) then (f68 ([59],v.2.2.2.2.1,v.2.2.2.2.2.1,())).bind fun v1=>some (Sum.inl (bif v1.1 then false else true,v1.2.1,v1.2.2.1,x3,x4,x5,x6,x7++v.2.2.1,())) else none else (f107 (x1,x2,())).bind fun v=>bif !v.2.2.2.1 then some (Sum.inr (Sum.inr (false,v.2.2.2.2.1,v.2.2.2.2.2.1,[],false,()))) else bif decide (x7.length+List.length v.2.2.1≤140737488355328/32) then (f68 ([59],v.2.2.2.2.1,v.2.2.2.2.2.1,())).bind fun v1=>some (Sum.inl (bif v1.1 then false else true,v1.2.1,v1.2.2.1,x3,x4,x5,x6,x7++v.2.2.1,())) else none else some (Sum.inr (Sum.inl (x1,x2,x3,x4,x5,x6,x7,())))
theorem w0a (f107:z0m) (f144:j4h) (f145:q1q) (f68:T68):AqL (g8l f107 f144 f145 f68) 1 (qd (code Tryz.f108) [1,1,1,1,1,0,1,0,0]) .nil w9u g3r (q0t f107 f144 f145 f68):=fun v=>by kernel_rfl
def q2d:j0g:=qb (q0t wu q0p xj C68) je
theorem w1v:jf 1 (qd (code Tryz.f108) [1,1,1,1,1,0,1,0,0]) (y9u q2d) :=
 frl v8t (w0a wu q0p xj C68)
def d3u (f108_l0:j0g):Ann:=(.seq .nil (.seq .nil (.seq .nil (.seq .nil (.seq .nil (.seq (.seq .nil (.blk (.loop (y9u f108_l0)))) .nil))))))
def x7y (f107:z0m) (f144:j4h) (f145:q1q) (f68:T68) (f108_l0:j0g):x8q:=fun (x0,x1,_)=>(f144 (x0,x1,())).bind fun v=>bif v.1==[] then some ([],false,[],false,v.2.2.1,v.2.2.2.1,()) else (f68 ([58],v.2.2.1,v.2.2.2.1,())).bind fun v1=>bif !v1.1 then some ([],false,[],false,v1.2.1,v1.2.2.1,()) else (f145 (v1.2.1,v1.2.2.1,())).bind fun v2=>(f68 ([59],v2.1,v2.2.1,())).bind fun v3=>(f108_l0 (!v3.1,v3.2.1,v3.2.2.1,[],false,v.1,true,[],())).bind fun v=>Sum.elim (fun v=>(f145 (v.1,v.2.1,())).bind fun v4=>some (v.2.2.2.2.1,v.2.2.2.2.2.1,v.2.2.2.2.2.2.1,true,v4.1,v4.2.1,())) (fun v=>some (v.2.2.2.1,v.2.2.2.2.1,[],v.1,v.2.1,v.2.2.1,())) v
theorem f3d (f107:z0m) (f144:j4h) (f145:q1q) (f68:T68) (f108_l0:j0g):yd (g8l f107 f144 f145 f68) 1 Tryz.f108 (d3u f108_l0) q3e z4k (x7y f107 f144 f145 f68 f108_l0):=fun v=>by kernel_rfl
def j9k:x8q:=x7y wu q0p xj C68 q2d
theorem b5s:FO 108 (f6w j9k) :=
 qo v8t Tryz.func108 (And.intro w1v trivial) (f3d wu q0p xj C68 q2d)
abbrev T69:=ya×Int×Unit→Option (qa×Bool×List ((qa×qa))×Bool×ya×Int×Unit)
def E69 (f:T69):FEnt:=⟨q3e,z4k,f⟩
def K69 (f107:z0m) (f108:x8q):=lk [(107,g6w f107),(108,f6w f108)]
def N69:Ann:=(.seq .nil (.seq .nil (.seq (.seq .nil (.blk (.unroll 4 .nil))) .nil)))
def F69 (f107:z0m) (f108:x8q):T69:=fun (x0,x1,_)=>(f107 (x0,x1,())).bind fun v=>bif v.2.2.2.1 then some (v.1,v.2.1,v.2.2.1,true,v.2.2.2.2.1,v.2.2.2.2.2.1,()) else (f108 (v.2.2.2.2.1,x1,())).bind fun v=>bif v.2.2.2.1 then some (v.1,v.2.1,v.2.2.1,true,v.2.2.2.2.1,v.2.2.2.2.2.1,()) else some ([],false,[],false,v.2.2.2.2.1,v.2.2.2.2.2.1,())
theorem h69 (f107:z0m) (f108:x8q):yd (K69 f107 f108) 1 Tryz.f69 N69 q3e z4k (F69 f107 f108):=fun v=>by kernel_rfl
def C69:T69:=F69 wu j9k
theorem m1s:FO 69 (E69 C69) :=
 qo (kc g5k (kc b5s kn)) Tryz.func69 trivial (h69 wu j9k)
abbrev z8u:=List ((qa×(Bool×List ((qa×qa)))))×Int×Int×List ((qa×qa))×Unit→Option (List ((qa×qa))×Unit)
def v3v (f:z8u):LEnt:=⟨w9v,g3t,f⟩
abbrev T31:=List ((qa×(Bool×List ((qa×qa)))))×Unit→Option (List ((qa×qa))×Unit)
def E31 (f:T31):FEnt:=⟨z4h,g3s,f⟩
def z0h:ye (List ((qa×(Bool×List ((qa×qa)))))×Int×Int×List ((qa×qa))×Unit) (List ((qa×qa))×Unit):=fun (x0,x1,x2,x3,_)=>bif decide (x2<x1) then bif decide (0≤x2)&&decide (x2<(↑x0.length:Int)) then bif decide (x3.length+List.length (x0.getD x2.toNat ([],(false,[]))).2.2≤140737488355328/32) then some (Sum.inl (x0,x1,IntKind.i64.wrap (x2+1),x3++(x0.getD x2.toNat ([],(false,[]))).2.2,())) else none else none else some (Sum.inr (x3,()))
def j9w:z8u:=qb (z0h) je
theorem f3v:jf 0 (qd (code Tryz.f31) [1,1,0,1,0,0]) (v3v j9w):=zl0 w9v g3t xc z0h kn
def N31 (f31_l0:z8u):Ann:=(.seq .nil (.seq .nil (.seq (.seq .nil (.blk (.loop (v3v f31_l0)))) .nil)))
def F31 (f31_l0:z8u):T31:=fun (x0,_)=>(f31_l0 (x0,(↑x0.length:Int),0,[],())).bind fun v=>some (v.1,())
def C31:T31:=F31 j9w
theorem f4w:FO 31 (E31 C31):=q2c z4h g3s xc N31 F31 j9w kn Tryz.func31 (And.intro f3v trivial)
abbrev T85:=Int×Unit→Option (Bool×Unit)
def E85 (f:T85):FEnt:=⟨q3l,qq,f⟩
def F85:T85:=fun (x0,_)=>bif x0 != 9 then bif decide (x0<32) then some (true,()) else some (x0==127,()) else some (false,())
def C85:T85:=F85
theorem m2a:FO 85 (E85 C85):=zq0 q3l qq xc F85 kn Tryz.func85
abbrev q6c:=Bool×(qa×Int)×Unit→Option ((Int×Unit)⊕Unit)
def z3x (f:q6c):LEnt:=⟨w9x,z4j,f⟩
abbrev z0s:=qa×Bool×Unit→Option (Int×Unit)
def v3i (f:z0s):FEnt:=⟨w9w,jh,f⟩
def y6q (f85:T85):=lk [(85,E85 f85)]
theorem y3s:zd Tryz.prog (y6q C85):=(kc m2a kn)
def q5h (f85:T85):ye (Bool×(qa×Int)×Unit) ((Int×Unit)⊕Unit):=fun (x0,x1,_)=>bif decide (Int.toNat x1.2<List.length x1.1) then (f85 ((↑(vd x1.1 (Int.toNat x1.2)).1:Int),())).bind fun v=>bif v.1==x0 then some (Sum.inr (Sum.inl ((↑(Int.toNat x1.2):Int),()))) else some (Sum.inl (x0,(x1.1,(↑(Int.toNat x1.2+(vd x1.1 (Int.toNat x1.2)).2):Int)),())) else some (Sum.inr (Sum.inr ()))
def j3t:q6c:=qb (q5h C85) je
theorem v1l:jf 0 (qd (code Tryz.f156) [1,0,1,0,0]) (z3x j3t):=zl1 w9x z4j y6q q5h C85 y3s
def g9y (f156v1_l0:q6c):Ann:=(.seq .nil (.seq (.seq .nil (.blk (.loop (z3x f156v1_l0)))) .nil))
def z7i (f85:T85) (f156v1_l0:q6c):z0s:=fun (x0,x1,_)=>(f156v1_l0 (x1,(x0,(↑0:Int)),())).bind fun v=>Sum.elim (fun v=>some (v.1,())) (fun v=>some (-1,())) v
def q7m:z0s:=z7i C85 j3t
theorem w5w:FO 156 (v3i q7m):=xi w9w jh y6q g9y z7i C85 j3t y3s Tryz.func156 (And.intro v1l trivial)
abbrev z0q:=qa×Unit→Option (Int×Unit)
def v3f (f:z0q):FEnt:=⟨x4d,jh,f⟩
def g8q (f156v1:z0s):=lk [(156,v3i f156v1)]
def z7c (f156v1:z0s):z0q:=fun (x0,_)=>(f156v1 (x0,true,())).bind fun v=>some (v.1,())
def j9m:z0q:=z7c q7m
theorem w5u:FO 123 (v3f j9m):=kl x4d jh g8q z7c q7m (kc w5w kn) Tryz.func123
abbrev z4m:=qa×Unit→Option (Bool×Unit)
def w7b (f:z4m):FEnt:=⟨x4d,qq,f⟩
def b1k (f123v1:z0q):=lk [(123,v3f f123v1)]
def x3l (f123v1:z0q):z4m:=fun (x0,_)=>(f123v1 (x0,())).bind fun v=>some (decide (v.1≥0),())
def z0c:z4m:=x3l j9m
theorem f5a:FO 84 (w7b z0c):=kl x4d qq b1k x3l j9m (kc w5u kn) Tryz.func84
abbrev T86:=qa×Unit→Option (Bool×Unit)
def E86 (f:T86):FEnt:=⟨kf,qq,f⟩
def K86 (f96:T96):=lk [(96,E96 f96)]
def F86 (f96:T96):T86:=fun (x0,_)=>(f96 (x0,[91],())).bind fun v=>some (v.1,())
def C86:T86:=F86 C96
theorem m2b:FO 86 (E86 C86):=kl kf qq K86 F86 C96 (kc d0e kn) Tryz.func86
abbrev T87:=qu×qw×qx×qa×Unit→Option (qa×Int×Unit)
def E87 (f:T87):FEnt:=⟨q1h,z0k,f⟩
def K87 (f124:k8s):=lk [(124,f7f f124)]
def F87 (f124:k8s):T87:=fun (x0,x1,x2,x3,_)=>(f124 (x0,x1,x2,x3,())).bind fun v=>some (v.1,v.2.2.1,())
def C87:T87:=F87 z5x
theorem m2c:FO 87 (E87 C87):=kl q1h z0k K87 F87 z5x (kc b6b kn) Tryz.func87
abbrev T44:=qu×qw×qx×qa×qa×Unit→Option (Int×Unit)
def E44 (f:T44):FEnt:=⟨w9y,jh,f⟩
def K44 (f67:T67) (f83:T83) (f84v1:z4m) (f86:T86) (f87:T87):=lk [(67,E67 f67),(83,E83 f83),(84,w7b f84v1),(86,E86 f86),(87,E87 f87)]
def F44 (f67:T67) (f83:T83) (f84v1:z4m) (f86:T86) (f87:T87):T44:=fun (x0,x1,x2,x3,x4,_)=>(f83 (x3,())).bind fun v=>bif x3==[] then some (13,()) else bif decide ((↑x3.length:Int)>64) then some (5,()) else bif decide (v.2.1≥0) then some (7,()) else (f84v1 (x3,())).bind fun v=>bif v.1 then some (8,()) else (f86 (x4,())).bind fun v=>bif v.1 then (f67 (x4,())).bind fun v=>bif v.2.2.1 != 0 then some (4,()) else bif (↑(List.length v.1):Int) != 1 then some (4,()) else bif decide (0<(↑(List.length v.1):Int)) then bif (List.getD v.1 0 (0,([],0))).1 != 5 then some (4,()) else some (0,()) else none else (f87 (x0,x1,x2,x4,())).bind fun v=>some (v.2.1,())
theorem h44 (f67:T67) (f83:T83) (f84v1:z4m) (f86:T86) (f87:T87):yd (K44 f67 f83 f84v1 f86 f87) 0 Tryz.f44 .nil w9y jh (F44 f67 f83 f84v1 f86 f87):=fun v=>by kernel_rfl
def C44:T44:=F44 C67 C83 z0c C86 C87
theorem m1l:FO 44 (E44 C44) :=
 q0 (kc d0c (kc y8s (kc f5a (kc m2b (kc m2c kn))))) Tryz.func44 (h44 C67 C83 z0c C86 C87)
abbrev z9c:=List ((qa×qa))×Int×Int×qu×qw×qx×Unit→Option (Unit⊕(Int×Unit))
def v4g (f:z9c):LEnt:=⟨g0a,x4m,f⟩
abbrev T70:=qu×qw×qx×List ((qa×qa))×Unit→Option (Int×Unit)
def E70 (f:T70):FEnt:=⟨w9z,jh,f⟩
def K70 (f44:T44):=lk [(44,E44 f44)]
theorem g5d:zd Tryz.prog (K70 C44):=(kc m1l kn)
def z8h (f44:T44):ye (List ((qa×qa))×Int×Int×qu×qw×qx×Unit) (Unit⊕(Int×Unit)):=fun (x0,x1,x2,x3,x4,x5,_)=>bif decide (x2<x1) then bif decide (0≤x2)&&decide (x2<(↑x0.length:Int)) then (f44 (x3,x4,x5,(x0.getD x2.toNat ([],[])).1,(x0.getD x2.toNat ([],[])).2,())).bind fun v=>bif v.1 != 0 then some (Sum.inr (Sum.inr (v.1,()))) else some (Sum.inl (x0,x1,IntKind.i64.wrap (x2+1),x3,x4,x5,())) else none else some (Sum.inr (Sum.inl ()))
def y6b:z9c:=qb (z8h C44) je
theorem f4g:jf 0 (qd (code Tryz.f70) [1,1,0,1,0,0]) (v4g y6b):=zl1 g0a x4m K70 z8h C44 g5d
def N70 (f70_l0:z9c):Ann:=(.seq .nil (.seq .nil (.seq (.seq .nil (.blk (.loop (v4g f70_l0)))) .nil)))
def F70 (f44:T44) (f70_l0:z9c):T70:=fun (x0,x1,x2,x3,_)=>bif decide ((↑x3.length:Int)>100) then some (2,()) else (f70_l0 (x3,(↑x3.length:Int),0,x0,x1,x2,())).bind fun v=>Sum.elim (fun v=>some (0,())) (fun v=>some (v.1,())) v
def C70:T70:=F70 C44 y6b
theorem d0d:FO 70 (E70 C70):=xi w9z jh K70 N70 F70 C44 y6b g5d Tryz.func70 (And.intro f4g trivial)
abbrev z1b:=ya×Bool×qu×qw×qx×ya×Int×List ((qa×(Bool×List ((qa×qa)))))×Unit→Option ((ya×qu×qw×qx×ya×Int×List ((qa×(Bool×List ((qa×qa)))))×Unit)⊕(Int×Unit))
def v3u (f:z1b):LEnt:=⟨g0b,g3v,f⟩
abbrev T30:=qu×qw×qx×qa×Unit→Option (List ((qa×(Bool×List ((qa×qa)))))×Int×Unit)
def E30 (f:T30):FEnt:=⟨q1h,g3u,f⟩
def K30 (f31:T31) (f67:T67) (f68:T68) (f69:T69) (f70:T70):=lk [(31,E31 f31),(67,E67 f67),(68,E68 f68),(69,E69 f69),(70,E70 f70)]
theorem g4x:zd Tryz.prog (K30 C31 C67 C68 C69 C70):=(kc f4w (kc d0c (kc f4x (kc m1s (kc d0d kn)))))
def q3t (f31:T31) (f67:T67) (f68:T68) (f69:T69) (f70:T70):ye (ya×Bool×qu×qw×qx×ya×Int×List ((qa×(Bool×List ((qa×qa)))))×Unit) ((ya×qu×qw×qx×ya×Int×List ((qa×(Bool×List ((qa×qa)))))×Unit)⊕(Int×Unit)):=fun (x0,x1,x2,x3,x4,x5,x6,x7,_)=>bif x1 then (f69 (x5,x6,())).bind fun v=>bif !v.2.2.2.1 then some (Sum.inr (Sum.inr (4,()))) else bif decide (x7.length+[(v.1,v.2.1,v.2.2.1)].length≤140737488355328/48) then (f68 ([44],v.2.2.2.2.1,v.2.2.2.2.2.1,())).bind fun v1=>some (Sum.inl (x0,v1.1,x2,x3,x4,v1.2.1,v1.2.2.1,x7++[(v.1,v.2.1,v.2.2.1)],())) else none else some (Sum.inr (Sum.inl (x0,x2,x3,x4,x5,x6,x7,())))
theorem f3i (f31:T31) (f67:T67) (f68:T68) (f69:T69) (f70:T70):AqL (K30 f31 f67 f68 f69 f70) 0 (qd (code Tryz.f30) [1,1,1,1,1,0,1,0,0]) .nil g0b g3v (q3t f31 f67 f68 f69 f70):=fun v=>by kernel_rfl
def q3q:z1b:=qb (q3t C31 C67 C68 C69 C70) je
theorem f3u:jf 0 (qd (code Tryz.f30) [1,1,1,1,1,0,1,0,0]) (v3u q3q) :=
 frl g4x (f3i C31 C67 C68 C69 C70)
def N30 (f30_l0:z1b):Ann:=(.seq .nil (.seq .nil (.seq .nil (.seq .nil (.seq .nil (.seq (.seq .nil (.blk (.loop (v3u f30_l0)))) .nil))))))
def F30 (f31:T31) (f67:T67) (f68:T68) (f69:T69) (f70:T70) (f30_l0:z1b):T30:=fun (x0,x1,x2,x3,_)=>(f67 (x3,())).bind fun v=>bif v.2.2.1 != 0 then some ([],v.2.2.1,()) else (f30_l0 (v.1,true,x0,x1,x2,v.1,0,[],())).bind fun v=>Sum.elim (fun v=>bif decide (v.2.2.2.2.2.1<(↑(List.length v.1):Int)) then some ([],4,()) else (f31 (v.2.2.2.2.2.2.1,())).bind fun v1=>(f70 (v.2.1,v.2.2.1,v.2.2.2.1,v1.1,())).bind fun v2=>bif v2.1 != 0 then some ([],v2.1,()) else some (v.2.2.2.2.2.2.1,0,())) (fun v=>some ([],v.1,())) v
theorem h30 (f31:T31) (f67:T67) (f68:T68) (f69:T69) (f70:T70) (f30_l0:z1b):yd (K30 f31 f67 f68 f69 f70) 0 Tryz.f30 (N30 f30_l0) q1h g3u (F30 f31 f67 f68 f69 f70 f30_l0):=fun v=>by kernel_rfl
def C30:T30:=F30 C31 C67 C68 C69 C70 q3q
theorem b9n:FO 30 (E30 C30) :=
 qo g4x Tryz.func30 (And.intro f3u trivial) (h30 C31 C67 C68 C69 C70 q3q)
abbrev j8r:=Int×(qa×Int)×Unit→Option (Int×Unit)
def x1m (f:j8r):LEnt:=⟨g0c,g3w,f⟩
abbrev j4k:=qa×Unit→Option (Int×Unit)
def g7m (f:j4k):FEnt:=⟨kf,jh,f⟩
def x3j:ye (Int×(qa×Int)×Unit) (Int×Unit):=fun (x0,x1,_)=>bif decide (Int.toNat x1.2<List.length x1.1) then some (Sum.inl (IntKind.i64.wrap (x0+1),(x1.1,(↑(Int.toNat x1.2+(vd x1.1 (Int.toNat x1.2)).2):Int)),())) else some (Sum.inr (x0,()))
def z6l:j8r:=qb (x3j) je
theorem w3n:jf 0 (qd (code Tryz.f227) [1,0,1,0,0]) (x1m z6l):=zl0 g0c g3w xc x3j kn
def d4x (f227_l0:j8r):Ann:=(.seq .nil (.seq (.seq .nil (.blk (.loop (x1m f227_l0)))) .nil))
def b1d (f227_l0:j8r):j4k:=fun (x0,_)=>(f227_l0 (0,(x0,(↑0:Int)),())).bind fun v=>some (v.1,())
def j3y:j4k:=b1d z6l
theorem g6a:FO 227 (g7m j3y):=q2c kf jh xc d4x b1d z6l kn Tryz.func227 (And.intro w3n trivial)
abbrev v0f:=qa×Unit→Option (Int×Int×Unit)
def f9t (f:v0f):FEnt:=⟨kf,x4x,f⟩
def b1h:v0f:=fun (x0,_)=>bif decide ((↑x0.length:Int)<1) then some (65533,0,()) else bif decide (0<(↑x0.length:Int)) then none else none
def x7q:v0f:=b1h
theorem b8t:FO 273 (f9t x7q):=zq0 kf x4x xc b1h kn Tryz.func273
abbrev j1f:=qa×Bool×Unit→Option ((Int×Int×Unit)⊕(Int×Int×Unit))
def x1n (f:j1f):LEnt:=⟨g0d,g3x,f⟩
abbrev y2g:=qa×Unit→Option (Int×Int×Unit)
def f8o (f:y2g):FEnt:=⟨kf,x4x,f⟩
def g9a (f273:v0f):=lk [(273,f9t f273)]
theorem v9g:zd Tryz.prog (g9a x7q):=(kc b8t kn)
def x3k (f273:v0f):j1f:=fun (x0,x1,_)=>bif x1 then bif decide (0<(↑x0.length:Int)) then some (Sum.inl (IntKind.i32.wrap (↑(x0.getD 0 0).toNat:Int),1,())) else none else (f273 (x0,())).bind fun v=>some (Sum.inr (v.1,v.2.1,()))
def z6m:j1f:=x3k x7q
theorem w3o:zo 0 (qd (code Tryz.f228) [1,0,1]) (x1n z6m):=zc1 g0d g3x g9a x3k x7q v9g
def d4y (f228_c0:j1f):Ann:=(.seq .nil (.seq (.cut .nil (x1n f228_c0)) .nil))
def b1e (f273:v0f) (f228_c0:j1f):y2g:=fun (x0,_)=>bif !x0==[] then bif decide (0<(↑x0.length:Int)) then (f228_c0 (x0,decide ((↑(x0.getD 0 0).toNat:Int)<128),())).bind fun v=>Sum.elim (fun v=>some (v.1,v.2.1,())) (fun v=>some (v.1,v.2.1,())) v else none else (f228_c0 (x0,false,())).bind fun v=>Sum.elim (fun v=>some (v.1,v.2.1,())) (fun v=>some (v.1,v.2.1,())) v
def y1h:y2g:=b1e x7q z6m
theorem b7n:FO 228 (f8o y1h):=xi kf x4x g9a d4y b1e x7q z6m v9g Tryz.func228 (And.intro w3o trivial)
abbrev j0y:=qa×Int×Int×List (qa)×Unit→Option (qa×Int×List (qa)×Unit)
def x1c (f:j0y):LEnt:=⟨g0e,g3y,f⟩
abbrev j0x:=qa×Int×Unit→Option (List (qa)×Unit)
def x1b (f:j0x):LEnt:=⟨g0f,g3z,f⟩
abbrev z3g:=qa×Int×Unit→Option (List (qa)×Unit)
def f8c (f:z3g):FEnt:=⟨x3v,z4l,f⟩
def k6y (f227:j4k) (f228:y2g):=lk [(227,g7m f227),(228,f8o f228)]
theorem y8h:zd Tryz.prog (k6y j3y y1h):=(kc g6a (kc b7n kn))
def x3h (f227:j4k) (f228:y2g):ye (qa×Int×Int×List (qa)×Unit) (qa×Int×List (qa)×Unit):=fun (x0,x1,x2,x3,_)=>bif decide (x2<IntKind.i64.wrap (x1-1)) then (f228 (x0,())).bind fun v=>bif decide (0≤v.2.1)&&decide (v.2.1≤(↑x0.length:Int)) then bif decide (0≤x2)&&decide (x2<(↑x3.length:Int)) then bif decide (0≤v.2.1)&&decide (v.2.1≤(↑x0.length:Int)) then some (Sum.inl (List.drop (Int.toNat v.2.1) x0,x1,IntKind.i64.wrap (x2+1),x3.set x2.toNat (List.take (Int.toNat v.2.1) x0),())) else none else none else none else some (Sum.inr (x0,x1,x3,()))
def z6e:j0y:=qb (x3h j3y y1h) je
theorem w3d:jf 0 (qd (code Tryz.f193) [1,1,1,1,0,1,0,0]) (x1c z6e):=zl2 g0e g3y k6y x3h j3y y1h y8h
def k8g (f193_l0:j0y):Ann:=(.seq .nil (.seq (.seq .nil (.blk (.loop (x1c f193_l0)))) .nil))
def x3g (f227:j4k) (f228:y2g) (f193_l0:j0y):j0x:=fun (x0,x1,_)=>bif decide (0≤x1)&&(decide (x1=x1)&&(decide ((↑16:Int)*x1≤281474976710656)&&decide (x1≤140737488355328))) then (f193_l0 (x0,x1,0,List.replicate x1.toNat [],())).bind fun v=>bif decide (v.2.1>0) then bif decide (0≤IntKind.i64.wrap (v.2.1-1))&&decide (IntKind.i64.wrap (v.2.1-1)<(↑(List.length v.2.2.1):Int)) then some (List.set v.2.2.1 (IntKind.i64.wrap (v.2.1-1)).toNat v.1,()) else none else some (v.2.2.1,()) else none
theorem w0p (f227:j4k) (f228:y2g) (f193_l0:j0y):AqC (k6y f227 f228) 0 (qd (code Tryz.f193) [1,1,1]) (k8g f193_l0) g0f g3z (x3g f227 f228 f193_l0):=fun v=>by kernel_rfl
def z6d:j0x:=x3g j3y y1h z6e
theorem w3c:zo 0 (qd (code Tryz.f193) [1,1,1]) (x1b z6d) :=
 frd y8h (And.intro w3d trivial) (w0p j3y y1h z6e)
def d4r (f193_c0:j0x):Ann:=(.seq .nil (.seq .nil (.cut .nil (x1b f193_c0))))
def b1b (f227:j4k) (f228:y2g) (f193_c0:j0x):z3g:=fun (x0,x1,_)=>(f227 (x0,())).bind fun v=>bif decide (x1<0) then (f193_c0 (x0,v.1,())).bind fun v=>some (v.1,()) else bif decide (x1>v.1) then (f193_c0 (x0,v.1,())).bind fun v=>some (v.1,()) else (f193_c0 (x0,x1,())).bind fun v=>some (v.1,())
def y1f:z3g:=b1b j3y y1h z6d
theorem b7b:FO 193 (f8c y1f):=j5x x3v z4l k6y d4r b1b j3y y1h z6d y8h Tryz.func193 (And.intro w3c trivial)
abbrev q7v:=qa×qa×Unit→Option (Int×Unit)
def g7h (f:q7v):FEnt:=⟨yh,jh,f⟩
def d2b (f197:y6z):=lk [(197,g7i f197)]
def k4l (f197:y6z):q7v:=fun (x0,x1,_)=>(f197 (x0,x1,())).bind fun v=>some (v.1,())
def q3n:q7v:=k4l z6h
theorem g5w:FO 195 (g7h q3n):=kl yh jh d2b k4l z6h (kc g5x kn) Tryz.func195
abbrev j0z:=qa×qa×Int×Unit→Option (Int×Unit)
def x1d (f:j0z):LEnt:=⟨g0g,g4a,f⟩
abbrev z3h:=qa×qa×Unit→Option (Int×Unit)
def f8d (f:z3h):FEnt:=⟨yh,jh,f⟩
def g8x (f195:q7v) (f227:j4k) (f229:x9k):=lk [(195,g7h f195),(227,g7m f227),(229,f8p f229)]
theorem v9d:zd Tryz.prog (g8x q3n j3y x7l):=(kc g5w (kc g6a (kc b7o kn)))
def x3i (f195:q7v) (f227:j4k) (f229:x9k):ye (qa×qa×Int×Unit) (Int×Unit):=fun (x0,x1,x2,_)=>(f195 (x0,x1,())).bind fun v=>bif v.1 == -1 then some (Sum.inr (x2,())) else bif decide (0≤IntKind.i64.wrap (v.1+(↑x1.length:Int)))&&decide (IntKind.i64.wrap (v.1+(↑x1.length:Int))≤(↑x0.length:Int)) then some (Sum.inl (List.drop (IntKind.i64.wrap (v.1+(↑x1.length:Int))).toNat x0,x1,IntKind.i64.wrap (x2+1),())) else none
theorem w0q (f195:q7v) (f227:j4k) (f229:x9k):AqL (g8x f195 f227 f229) 0 (qd (code Tryz.f194) [1,1,1,1,0,0]) .nil g0g g4a (x3i f195 f227 f229):=fun v=>by kernel_rfl
def z6g:j0z:=qb (x3i q3n j3y x7l) je
theorem w3e:jf 0 (qd (code Tryz.f194) [1,1,1,1,0,0]) (x1d z6g) :=
 frl v9d (w0q q3n j3y x7l)
def d4s (f194_l0:j0z):Ann:=(.seq .nil (.seq .nil (.seq .nil (.seq .nil (.blk (.loop (x1d f194_l0)))))))
def b1c (f195:q7v) (f227:j4k) (f229:x9k) (f194_l0:j0z):z3h:=fun (x0,x1,_)=>bif (↑x1.length:Int)==0 then (f227 (x0,())).bind fun v=>some (IntKind.i64.wrap (v.1+1),()) else bif (↑x1.length:Int)==1 then bif decide (0<(↑x1.length:Int)) then (f229 (x0,(↑(x1.getD 0 0).toNat:Int),())).bind fun v=>some (v.1,()) else none else (f194_l0 (x0,x1,0,())).bind fun v=>some (v.1,())
theorem d9r (f195:q7v) (f227:j4k) (f229:x9k) (f194_l0:j0z):yd (g8x f195 f227 f229) 0 Tryz.f194 (d4s f194_l0) yh jh (b1c f195 f227 f229 f194_l0):=fun v=>by kernel_rfl
def z6f:z3h:=b1c q3n j3y x7l z6g
theorem b7c:FO 194 (f8d z6f) :=
 qo v9d Tryz.func194 (And.intro w3e trivial) (d9r q3n j3y x7l z6g)
abbrev j0w:=qa×qa×Int×Int×Int×List (qa)×Unit→Option (qa×Int×List (qa)×Unit)
def x0x (f:j0w):LEnt:=⟨g0i,g4b,f⟩
abbrev q6e:=qa×qa×Int×Int×Unit→Option (List (qa)×Unit)
def x0w (f:q6e):LEnt:=⟨g0j,g4c,f⟩
abbrev v5l:=qa×qa×Int×Int×Unit→Option (List (qa)×Unit)
def f7t (f:v5l):FEnt:=⟨g0h,z4l,f⟩
def k6x (f193:z3g) (f194:z3h) (f195:q7v):=lk [(193,f8c f193),(194,f8d f194),(195,g7h f195)]
theorem y8g:zd Tryz.prog (k6x y1f z6f q3n):=(kc b7b (kc b7c (kc g5w kn)))
def j7l (f193:z3g) (f194:z3h) (f195:q7v):ye (qa×qa×Int×Int×Int×List (qa)×Unit) (qa×Int×List (qa)×Unit):=fun (x0,x1,x2,x3,x4,x5,_)=>bif decide (x4<x3) then (f195 (x0,x1,())).bind fun v=>bif decide (v.1<0) then some (Sum.inr (x0,x4,x5,())) else bif decide (0≤IntKind.i64.wrap (v.1+x2))&&decide (IntKind.i64.wrap (v.1+x2)≤(↑x0.length:Int)) then bif decide (0≤x4)&&decide (x4<(↑x5.length:Int)) then bif decide (0≤IntKind.i64.wrap (v.1+(↑x1.length:Int)))&&decide (IntKind.i64.wrap (v.1+(↑x1.length:Int))≤(↑x0.length:Int)) then some (Sum.inl (List.drop (IntKind.i64.wrap (v.1+(↑x1.length:Int))).toNat x0,x1,x2,x3,IntKind.i64.wrap (x4+1),x5.set x4.toNat (List.take (IntKind.i64.wrap (v.1+x2)).toNat x0),())) else none else none else none else some (Sum.inr (x0,x4,x5,()))
theorem w0o (f193:z3g) (f194:z3h) (f195:q7v):AqL (k6x f193 f194 f195) 0 (qd (code Tryz.f161) [1,1,1,1,1,1,1,1,0,0,0]) .nil g0i g4b (j7l f193 f194 f195):=fun v=>by kernel_rfl
def j6r:j0w:=qb (j7l y1f z6f q3n) je
theorem w2y:jf 0 (qd (code Tryz.f161) [1,1,1,1,1,1,1,1,0,0,0]) (x0x j6r) :=
 frl y8g (w0o y1f z6f q3n)
def k8f (f161_l0:j0w):Ann:=(.seq .nil (.seq .nil (.seq .nil (.seq .nil (.seq (.blk (.loop (x0x f161_l0))) .nil)))))
def j7k (f193:z3g) (f194:z3h) (f195:q7v) (f161_l0:j0w):q6e:=fun (x0,x1,x2,x3,_)=>bif decide (0≤if IntKind.i64.wrap ((↑x0.length:Int)+1)<x3 then IntKind.i64.wrap ((↑x0.length:Int)+1) else x3)&&(decide ((if IntKind.i64.wrap ((↑x0.length:Int)+1)<x3 then IntKind.i64.wrap ((↑x0.length:Int)+1) else x3)=if IntKind.i64.wrap ((↑x0.length:Int)+1)<x3 then IntKind.i64.wrap ((↑x0.length:Int)+1) else x3)&&(decide (((↑16:Int)*if IntKind.i64.wrap ((↑x0.length:Int)+1)<x3 then IntKind.i64.wrap ((↑x0.length:Int)+1) else x3)≤281474976710656)&&decide ((if IntKind.i64.wrap ((↑x0.length:Int)+1)<x3 then IntKind.i64.wrap ((↑x0.length:Int)+1) else x3)≤140737488355328))) then (f161_l0 (x0,x1,x2,IntKind.i64.wrap ((if IntKind.i64.wrap ((↑x0.length:Int)+1)<x3 then IntKind.i64.wrap ((↑x0.length:Int)+1) else x3)-1),0,List.replicate (if IntKind.i64.wrap ((↑x0.length:Int)+1)<x3 then IntKind.i64.wrap ((↑x0.length:Int)+1) else x3).toNat [],())).bind fun v=>bif decide (0≤v.2.1)&&decide (v.2.1<(↑(List.length v.2.2.1):Int)) then bif decide (0≤IntKind.i64.wrap (v.2.1+1))&&decide (IntKind.i64.wrap (v.2.1+1)≤(↑(List.set v.2.2.1 (Int.toNat v.2.1) v.1).length:Int)) then some (List.take (IntKind.i64.wrap (v.2.1+1)).toNat (List.set v.2.2.1 (Int.toNat v.2.1) v.1),()) else none else none else none
theorem w0n (f193:z3g) (f194:z3h) (f195:q7v) (f161_l0:j0w):AqC (k6x f193 f194 f195) 0 (qd (code Tryz.f161) [1,1,1,1]) (k8f f161_l0) g0j g4c (j7k f193 f194 f195 f161_l0):=fun v=>by kernel_rfl
def q8z:q6e:=j7k y1f z6f q3n j6r
theorem w2x:zo 0 (qd (code Tryz.f161) [1,1,1,1]) (x0w q8z) :=
 frd y8g (And.intro w2y trivial) (w0n y1f z6f q3n j6r)
def d4n (f161_c0:q6e):Ann:=(.seq .nil (.seq .nil (.seq .nil (.cut .nil (x0w f161_c0)))))
def k4c (f193:z3g) (f194:z3h) (f195:q7v) (f161_c0:q6e):v5l:=fun (x0,x1,x2,x3,_)=>bif x3==0 then some ([],()) else bif x1==[] then (f193 (x0,x3,())).bind fun v=>some (v.1,()) else bif decide (x3<0) then (f194 (x0,x1,())).bind fun v=>(f161_c0 (x0,x1,x2,IntKind.i64.wrap (v.1+1),())).bind fun v=>some (v.1,()) else (f161_c0 (x0,x1,x2,x3,())).bind fun v=>some (v.1,())
theorem d9o (f193:z3g) (f194:z3h) (f195:q7v) (f161_c0:q6e):yd (k6x f193 f194 f195) 0 Tryz.f161 (d4n f161_c0) g0h z4l (k4c f193 f194 f195 f161_c0):=fun v=>by kernel_rfl
def y5p:v5l:=k4c y1f z6f q3n q8z
theorem b6r:FO 161 (f7t y5p) :=
 qo y8g Tryz.func161 (And.intro w2x trivial) (d9o y1f z6f q3n q8z)
abbrev x8w:=qa×qa×Unit→Option (List (qa)×Unit)
def f7g (f:x8w):FEnt:=⟨yh,z4l,f⟩
def d1g (f161:v5l):=lk [(161,f7t f161)]
def k3n (f161:v5l):x8w:=fun (x0,x1,_)=>(f161 (x0,x1,0,-1,())).bind fun v=>some (v.1,())
def y0x:x8w:=k3n y5p
theorem b6c:FO 125 (f7g y0x):=kl yh z4l d1g k3n y5p (kc b6r kn) Tryz.func125
abbrev z9a:=qa×Int×Int×Unit→Option ((qa×Unit)⊕(Bool×Unit))
def v4d (f:z9a):LEnt:=⟨g0k,g4d,f⟩
abbrev T47:=qa×Unit→Option (Bool×Unit)
def E47 (f:T47):FEnt:=⟨kf,qq,f⟩
def K47 (f90:T90):=lk [(90,E90 f90)]
theorem g5a:zd Tryz.prog (K47 C90):=(kc f5d kn)
def z8g (f90:T90):ye (qa×Int×Int×Unit) ((qa×Unit)⊕(Bool×Unit)):=fun (x0,x1,x2,_)=>bif decide (x2<x1) then bif decide (0≤x2)&&decide (x2<(↑x0.length:Int)) then (f90 ((↑(x0.getD x2.toNat 0).toNat:Int),())).bind fun v=>bif !v.1 then some (Sum.inr (Sum.inr (false,()))) else some (Sum.inl (x0,x1,IntKind.i64.wrap (x2+1),())) else none else some (Sum.inr (Sum.inl (x0,())))
def y6a:z9a:=qb (z8g C90) je
theorem f4d:jf 0 (qd (code Tryz.f47) [1,0,1,0,0]) (v4d y6a):=zl1 g0k g4d K47 z8g C90 g5a
def N47 (f47_l0:z9a):Ann:=(.seq .nil (.seq (.seq .nil (.blk (.loop (v4d f47_l0)))) .nil))
def F47 (f90:T90) (f47_l0:z9a):T47:=fun (x0,_)=>(f47_l0 (x0,(↑x0.length:Int),0,())).bind fun v=>Sum.elim (fun v=>some (bif v.1==[] then false else true,())) (fun v=>some (v.1,())) v
def C47:T47:=F47 C90 y6a
theorem m1n:FO 47 (E47 C47):=xi kf qq K47 N47 F47 C90 y6a g5a Tryz.func47 (And.intro f4d trivial)
abbrev z9d:=List (qa)×Int×Int×Unit→Option (Unit⊕(Bool×Unit))
def v4l (f:z9d):LEnt:=⟨g0l,g4e,f⟩
abbrev T88:=qa×Unit→Option (Bool×Unit)
def E88 (f:T88):FEnt:=⟨kf,qq,f⟩
def K88 (f125:x8w) (f47:T47):=lk [(125,f7g f125),(47,E47 f47)]
theorem g5f:zd Tryz.prog (K88 y0x C47):=(kc b6c (kc m1n kn))
def z8i (f125:x8w) (f47:T47):ye (List (qa)×Int×Int×Unit) (Unit⊕(Bool×Unit)):=fun (x0,x1,x2,_)=>bif decide (x2<x1) then bif decide (0≤x2)&&decide (x2<(↑x0.length:Int)) then (f47 (x0.getD x2.toNat [],())).bind fun v=>bif !v.1 then some (Sum.inr (Sum.inr (false,()))) else some (Sum.inl (x0,x1,IntKind.i64.wrap (x2+1),())) else none else some (Sum.inr (Sum.inl ()))
def y6c:z9d:=qb (z8i y0x C47) je
theorem f4l:jf 0 (qd (code Tryz.f88) [1,0,1,0,0]) (v4l y6c):=zl2 g0l g4e K88 z8i y0x C47 g5f
def N88 (f88_l0:z9d):Ann:=(.seq .nil (.seq (.seq .nil (.blk (.loop (v4l f88_l0)))) .nil))
def F88 (f125:x8w) (f47:T47) (f88_l0:z9d):T88:=fun (x0,_)=>(f125 (x0,[46],())).bind fun v=>(f88_l0 (v.1,(↑(List.length v.1):Int),0,())).bind fun v=>Sum.elim (fun v=>some (true,())) (fun v=>some (v.1,())) v
def C88:T88:=F88 y0x C47 y6c
theorem m2d:FO 88 (E88 C88):=j5x kf qq K88 N88 F88 y0x C47 y6c g5f Tryz.func88 (And.intro f4l trivial)
abbrev T45:=qa×qa×Unit→Option (qa×Unit)
def E45 (f:T45):FEnt:=⟨x4e,z0j,f⟩
def K45 (f88:T88) (f89:T89):=lk [(88,E88 f88),(89,E89 f89)]
def F45 (f88:T88) (f89:T89):T45:=fun (x0,x1,_)=>(f88 (x0,())).bind fun v=>bif !v.1 then (f89 (1,x0,0,())).bind fun v=>bif decide (List.length v.1+[64].length≤9223372036854775807) then bif decide ((v.1++[64]).length+x1.length≤9223372036854775807) then some (v.1++[64]++x1,()) else none else none else bif decide (x0.length+[64].length≤9223372036854775807) then bif decide ((x0++[64]).length+x1.length≤9223372036854775807) then some (x0++[64]++x1,()) else none else none
def C45:T45:=F45 C88 C89
theorem m1m:FO 45 (E45 C45):=zq2 x4e z0j K45 F45 C88 C89 (kc m2d (kc f5c kn)) Tryz.func45
abbrev z1c:=List ((qa×qa))×Int×Int×qa×Bool×List ((qa×qa))×List (qa)×Unit→Option (qa×Bool×List ((qa×qa))×List (qa)×Unit)
def v4h (f:z1c):LEnt:=⟨g0m,g4f,f⟩
abbrev T72:=qa×Bool×List ((qa×qa))×Unit→Option (qa×Unit)
def E72 (f:T72):FEnt:=⟨j5i,z0j,f⟩
def K72 (f45:T45) (f73:T73) (f89:T89):=lk [(45,E45 f45),(73,E73 f73),(89,E89 f89)]
theorem g5e:zd Tryz.prog (K72 C45 C73 C89):=(kc m1m (kc w6e (kc f5c kn)))
def y6m (f45:T45) (f73:T73) (f89:T89):ye (List ((qa×qa))×Int×Int×qa×Bool×List ((qa×qa))×List (qa)×Unit) (qa×Bool×List ((qa×qa))×List (qa)×Unit):=fun (x0,x1,x2,x3,x4,x5,x6,_)=>bif decide (x2<x1) then bif decide (0≤x2)&&decide (x2<(↑x0.length:Int)) then (f45 ((x0.getD x2.toNat ([],[])).1,(x0.getD x2.toNat ([],[])).2,())).bind fun v=>bif decide (x6.length+[v.1].length≤140737488355328/16) then some (Sum.inl (x0,x1,IntKind.i64.wrap (x2+1),x3,x4,x5,x6++[v.1],())) else none else none else some (Sum.inr (x3,x4,x5,x6,()))
theorem f3l (f45:T45) (f73:T73) (f89:T89):AqL (K72 f45 f73 f89) 0 (qd (code Tryz.f72) [1,1,0,1,0,0]) .nil g0m g4f (y6m f45 f73 f89):=fun v=>by kernel_rfl
def z0b:z1c:=qb (y6m C45 C73 C89) je
theorem f4h:jf 0 (qd (code Tryz.f72) [1,1,0,1,0,0]) (v4h z0b) :=
 frl g5e (f3l C45 C73 C89)
def N72 (f72_l0:z1c):Ann:=(.seq .nil (.seq .nil (.seq (.seq .nil (.blk (.loop (v4h f72_l0)))) .nil)))
def F72 (f45:T45) (f73:T73) (f89:T89) (f72_l0:z1c):T72:=fun (x0,x1,x2,_)=>(f72_l0 (x2,(↑x2.length:Int),0,x0,x1,x2,[],())).bind fun v=>(f89 (1,v.1,0,())).bind fun v1=>(f73 (v.2.2.2.1,[44,32],())).bind fun v2=>bif v.2.1 then bif decide (List.length v1.1+[58].length≤9223372036854775807) then bif decide ((v1.1++[58]).length+List.length v2.1≤9223372036854775807) then bif decide ((v1.1++[58]++v2.1).length+[59].length≤9223372036854775807) then some (v1.1++[58]++v2.1++[59],()) else none else none else none else bif !v.1==[] then bif decide (List.length v1.1+[32,60].length≤9223372036854775807) then bif decide ((v1.1++[32,60]).length+List.length v2.1≤9223372036854775807) then bif decide ((v1.1++[32,60]++v2.1).length+[62].length≤9223372036854775807) then some (v1.1++[32,60]++v2.1++[62],()) else none else none else none else some (v2.1,())
theorem h72 (f45:T45) (f73:T73) (f89:T89) (f72_l0:z1c):yd (K72 f45 f73 f89) 0 Tryz.f72 (N72 f72_l0) j5i z0j (F72 f45 f73 f89 f72_l0):=fun v=>by kernel_rfl
def C72:T72:=F72 C45 C73 C89 z0b
theorem m1u:FO 72 (E72 C72) :=
 qo g5e Tryz.func72 (And.intro f4h trivial) (h72 C45 C73 C89 z0b)
abbrev z8x:=List ((qa×(Bool×List ((qa×qa)))))×Int×Int×List (qa)×Unit→Option (List (qa)×Unit)
def v3y (f:z8x):LEnt:=⟨g0n,g4g,f⟩
abbrev T34:=List ((qa×(Bool×List ((qa×qa)))))×Unit→Option (qa×Unit)
def E34 (f:T34):FEnt:=⟨z4h,z0j,f⟩
def K34 (f72:T72) (f73:T73):=lk [(72,E72 f72),(73,E73 f73)]
theorem g4y:zd Tryz.prog (K34 C72 C73):=(kc m1u (kc w6e kn))
def y6i (f72:T72) (f73:T73):ye (List ((qa×(Bool×List ((qa×qa)))))×Int×Int×List (qa)×Unit) (List (qa)×Unit):=fun (x0,x1,x2,x3,_)=>bif decide (x2<x1) then bif decide (0≤x2)&&decide (x2<(↑x0.length:Int)) then (f72 ((x0.getD x2.toNat ([],(false,[]))).1,(x0.getD x2.toNat ([],(false,[]))).2.1,(x0.getD x2.toNat ([],(false,[]))).2.2,())).bind fun v=>bif decide (x3.length+[v.1].length≤140737488355328/16) then some (Sum.inl (x0,x1,IntKind.i64.wrap (x2+1),x3++[v.1],())) else none else none else some (Sum.inr (x3,()))
def j9x:z8x:=qb (y6i C72 C73) je
theorem f3y:jf 0 (qd (code Tryz.f34) [1,1,0,1,0,0]) (v3y j9x):=zl2 g0n g4g K34 y6i C72 C73 g4y
def N34 (f34_l0:z8x):Ann:=(.seq .nil (.seq .nil (.seq (.seq .nil (.blk (.loop (v3y f34_l0)))) .nil)))
def F34 (f72:T72) (f73:T73) (f34_l0:z8x):T34:=fun (x0,_)=>(f34_l0 (x0,(↑x0.length:Int),0,[],())).bind fun v=>(f73 (v.1,[44,32],())).bind fun v=>some (v.1,())
def C34:T34:=F34 C72 C73 j9x
theorem d0a:FO 34 (E34 C34):=j5x z4h z0j K34 N34 F34 C72 C73 j9x g4y Tryz.func34 (And.intro f3y trivial)
abbrev T75:=qa×Bool×List ((qa×qa))×Unit→Option (Bool×Unit)
def E75 (f:T75):FEnt:=⟨j5i,qq,f⟩
def F75:T75:=fun (x0,x1,x2,_)=>bif x1 then bif x0==[] then some (true,()) else bif !x1 then some (bif (↑x2.length:Int)==1 then false else true,()) else some (false,()) else bif !x1 then some (bif (↑x2.length:Int)==1 then false else true,()) else some (false,())
def C75:T75:=F75
theorem m1w:FO 75 (E75 C75):=zq0 j5i qq xc F75 kn Tryz.func75
abbrev j8k:=List ((qa×(Bool×List ((qa×qa)))))×Int×Int×Unit→Option (Unit⊕(Int×Unit))
def y9y (f:j8k):LEnt:=⟨g0o,q0w,f⟩
abbrev v5h:=List ((qa×(Bool×List ((qa×qa)))))×Unit→Option (Int×Unit)
def f7b (f:v5h):FEnt:=⟨x4f,jh,f⟩
def g8p (f75:T75):=lk [(75,E75 f75)]
theorem v8x:zd Tryz.prog (g8p C75):=(kc m1w kn)
def x3f (f75:T75):ye (List ((qa×(Bool×List ((qa×qa)))))×Int×Int×Unit) (Unit⊕(Int×Unit)):=fun (x0,x1,x2,_)=>bif decide (x2<x1) then bif decide (0≤x2)&&decide (x2<(↑x0.length:Int)) then (f75 ((x0.getD x2.toNat ([],(false,[]))).1,(x0.getD x2.toNat ([],(false,[]))).2.1,(x0.getD x2.toNat ([],(false,[]))).2.2,())).bind fun v=>bif v.1 then some (Sum.inr (Sum.inr (x2,()))) else some (Sum.inl (x0,x1,IntKind.i64.wrap (x2+1),())) else none else some (Sum.inr (Sum.inl ()))
def z5w:j8k:=qb (x3f C75) je
theorem w1z:jf 0 (qd (code Tryz.f116) [1,0,1,0,0]) (y9y z5w):=zl1 g0o q0w g8p x3f C75 v8x
def d3y (f116_l0:j8k):Ann:=(.seq .nil (.seq (.seq .nil (.blk (.loop (y9y f116_l0)))) .nil))
def v4q (f75:T75) (f116_l0:j8k):v5h:=fun (x0,_)=>(f116_l0 (x0,(↑x0.length:Int),0,())).bind fun v=>Sum.elim (fun v=>some (-1,())) (fun v=>some (v.1,())) v
def x7f:v5h:=v4q C75 z5w
theorem b5x:FO 116 (f7b x7f):=xi x4f jh g8p d3y v4q C75 z5w v8x Tryz.func116 (And.intro w1z trivial)
abbrev T74:=List ((qa×(Bool×List ((qa×qa)))))×Unit→Option (Bool×Unit)
def E74 (f:T74):FEnt:=⟨x4f,qq,f⟩
def K74 (f116:v5h):=lk [(116,f7b f116)]
def F74 (f116:v5h):T74:=fun (x0,_)=>(f116 (x0,())).bind fun v=>some (decide (v.1≥0),())
def C74:T74:=F74 x7f
theorem m1v:FO 74 (E74 C74):=kl x4f qq K74 F74 x7f (kc b5x kn) Tryz.func74
abbrev T76:=qa×Bool×List ((qa×qa))×Unit→Option (Bool×Unit)
def E76 (f:T76):FEnt:=⟨j5i,qq,f⟩
def K76 (f83:T83):=lk [(83,E83 f83)]
def F76 (f83:T83):T76:=fun (x0,x1,x2,_)=>(f83 (x0,())).bind fun v=>some (decide (v.2.1≥0),())
def C76:T76:=F76 C83
theorem m1x:FO 76 (E76 C76):=kl j5i qq K76 F76 C83 (kc y8s kn) Tryz.func76
abbrev q5s:=List ((qa×(Bool×List ((qa×qa)))))×Int×Int×Unit→Option (Unit⊕(Int×Unit))
def z3v (f:q5s):LEnt:=⟨g0p,q0w,f⟩
abbrev z0n:=List ((qa×(Bool×List ((qa×qa)))))×Unit→Option (Int×Unit)
def v3d (f:z0n):FEnt:=⟨x4g,jh,f⟩
def y6o (f76:T76):=lk [(76,E76 f76)]
theorem y3q:zd Tryz.prog (y6o C76):=(kc m1x kn)
def z4c (f76:T76):ye (List ((qa×(Bool×List ((qa×qa)))))×Int×Int×Unit) (Unit⊕(Int×Unit)):=fun (x0,x1,x2,_)=>bif decide (x2<x1) then bif decide (0≤x2)&&decide (x2<(↑x0.length:Int)) then (f76 ((x0.getD x2.toNat ([],(false,[]))).1,(x0.getD x2.toNat ([],(false,[]))).2.1,(x0.getD x2.toNat ([],(false,[]))).2.2,())).bind fun v=>bif v.1 then some (Sum.inr (Sum.inr (x2,()))) else some (Sum.inl (x0,x1,IntKind.i64.wrap (x2+1),())) else none else some (Sum.inr (Sum.inl ()))
def j3o:q5s:=qb (z4c C76) je
theorem v1j:jf 0 (qd (code Tryz.f116) [1,0,1,0,0]) (z3v j3o):=zl1 g0p q0w y6o z4c C76 y3q
def g9w (f116v1_l0:q5s):Ann:=(.seq .nil (.seq (.seq .nil (.blk (.loop (z3v f116v1_l0)))) .nil))
def z0d (f76:T76) (f116v1_l0:q5s):z0n:=fun (x0,_)=>(f116v1_l0 (x0,(↑x0.length:Int),0,())).bind fun v=>Sum.elim (fun v=>some (-1,())) (fun v=>some (v.1,())) v
def j3n:z0n:=z0d C76 j3o
theorem w5s:FO 116 (v3d j3n):=xi x4g jh y6o g9w z0d C76 j3o y3q Tryz.func116 (And.intro v1j trivial)
abbrev j5j:=List ((qa×(Bool×List ((qa×qa)))))×Unit→Option (Bool×Unit)
def w6z (f:j5j):FEnt:=⟨x4g,qq,f⟩
def b1i (f116v1:z0n):=lk [(116,v3d f116v1)]
def y1s (f116v1:z0n):j5j:=fun (x0,_)=>(f116v1 (x0,())).bind fun v=>some (decide (v.1≥0),())
def wv:j5j:=y1s j3n
theorem f4y:FO 74 (w6z wv):=kl x4g qq b1i y1s j3n (kc w5s kn) Tryz.func74
abbrev x8v:=Int×Unit→Option (Bool×Unit)
def f7c (f:x8v):FEnt:=⟨q3l,qq,f⟩
def x7z:x8v:=fun (x0,_)=>bif x0 != 9 then bif decide (x0<32) then some (true,()) else some (x0==127,()) else some (false,())
def j5y:x8v:=x7z
theorem b5y:FO 117 (f7c j5y):=zq0 q3l qq xc x7z kn Tryz.func117
abbrev q6d:=Bool×(qa×Int)×Unit→Option ((Int×Unit)⊕Unit)
def z3y (f:q6d):LEnt:=⟨g0r,z4j,f⟩
abbrev z0t:=qa×Bool×Unit→Option (Int×Unit)
def v3j (f:z0t):FEnt:=⟨g0q,jh,f⟩
def y6r (f117:x8v):=lk [(117,f7c f117)]
theorem y3t:zd Tryz.prog (y6r j5y):=(kc b5y kn)
def q1p (f117:x8v):ye (Bool×(qa×Int)×Unit) ((Int×Unit)⊕Unit):=fun (x0,x1,_)=>bif decide (Int.toNat x1.2<List.length x1.1) then (f117 ((↑(vd x1.1 (Int.toNat x1.2)).1:Int),())).bind fun v=>bif v.1==x0 then some (Sum.inr (Sum.inl ((↑(Int.toNat x1.2):Int),()))) else some (Sum.inl (x0,(x1.1,(↑(Int.toNat x1.2+(vd x1.1 (Int.toNat x1.2)).2):Int)),())) else some (Sum.inr (Sum.inr ()))
def j3u:q6d:=qb (q1p j5y) je
theorem v1m:jf 0 (qd (code Tryz.f156) [1,0,1,0,0]) (z3y j3u):=zl1 g0r z4j y6r q1p j5y y3t
def g9z (f156v2_l0:q6d):Ann:=(.seq .nil (.seq (.seq .nil (.blk (.loop (z3y f156v2_l0)))) .nil))
def z0g (f117:x8v) (f156v2_l0:q6d):z0t:=fun (x0,x1,_)=>(f156v2_l0 (x1,(x0,(↑0:Int)),())).bind fun v=>Sum.elim (fun v=>some (v.1,())) (fun v=>some (-1,())) v
def q2h:z0t:=z0g j5y j3u
theorem w5x:FO 156 (v3j q2h):=xi g0q jh y6r g9z z0g j5y j3u y3t Tryz.func156 (And.intro v1m trivial)
abbrev z0r:=qa×Unit→Option (Int×Unit)
def v3g (f:z0r):FEnt:=⟨x4h,jh,f⟩
def g8r (f156v2:z0t):=lk [(156,v3j f156v2)]
def z0f (f156v2:z0t):z0r:=fun (x0,_)=>(f156v2 (x0,true,())).bind fun v=>some (v.1,())
def j3r:z0r:=z0f q2h
theorem w5v:FO 123 (v3g j3r):=kl x4h jh g8r z0f q2h (kc w5x kn) Tryz.func123
abbrev y2l:=qa×Unit→Option (Bool×Unit)
def w7c (f:y2l):FEnt:=⟨x4h,qq,f⟩
def b1l (f123v2:z0r):=lk [(123,v3g f123v2)]
def y1u (f123v2:z0r):y2l:=fun (x0,_)=>(f123v2 (x0,())).bind fun v=>some (decide (v.1≥0),())
def z3u:y2l:=y1u j3r
theorem f5b:FO 84 (w7c z3u):=kl x4h qq b1l y1u j3r (kc w5v kn) Tryz.func84
abbrev T77:=qa×Bool×List ((qa×qa))×Unit→Option (Bool×Unit)
def E77 (f:T77):FEnt:=⟨j5i,qq,f⟩
def K77 (f84v2:y2l):=lk [(84,w7c f84v2)]
def F77 (f84v2:y2l):T77:=fun (x0,x1,x2,_)=>(f84v2 (x0,())).bind fun v=>some (v.1,())
def C77:T77:=F77 z3u
theorem m1y:FO 77 (E77 C77):=kl j5i qq K77 F77 z3u (kc f5b kn) Tryz.func77
abbrev q5t:=List ((qa×(Bool×List ((qa×qa)))))×Int×Int×Unit→Option (Unit⊕(Int×Unit))
def z3w (f:q5t):LEnt:=⟨g0s,q0w,f⟩
abbrev z0o:=List ((qa×(Bool×List ((qa×qa)))))×Unit→Option (Int×Unit)
def v3e (f:z0o):FEnt:=⟨x4i,jh,f⟩
def y6p (f77:T77):=lk [(77,E77 f77)]
theorem y3r:zd Tryz.prog (y6p C77):=(kc m1y kn)
def z4d (f77:T77):ye (List ((qa×(Bool×List ((qa×qa)))))×Int×Int×Unit) (Unit⊕(Int×Unit)):=fun (x0,x1,x2,_)=>bif decide (x2<x1) then bif decide (0≤x2)&&decide (x2<(↑x0.length:Int)) then (f77 ((x0.getD x2.toNat ([],(false,[]))).1,(x0.getD x2.toNat ([],(false,[]))).2.1,(x0.getD x2.toNat ([],(false,[]))).2.2,())).bind fun v=>bif v.1 then some (Sum.inr (Sum.inr (x2,()))) else some (Sum.inl (x0,x1,IntKind.i64.wrap (x2+1),())) else none else some (Sum.inr (Sum.inl ()))
def j3q:q5t:=qb (z4d C77) je
theorem v1k:jf 0 (qd (code Tryz.f116) [1,0,1,0,0]) (z3w j3q):=zl1 g0s q0w y6p z4d C77 y3r
def g9x (f116v2_l0:q5t):Ann:=(.seq .nil (.seq (.seq .nil (.blk (.loop (z3w f116v2_l0)))) .nil))
def z0e (f77:T77) (f116v2_l0:q5t):z0o:=fun (x0,_)=>(f116v2_l0 (x0,(↑x0.length:Int),0,())).bind fun v=>Sum.elim (fun v=>some (-1,())) (fun v=>some (v.1,())) v
def j3p:z0o:=z0e C77 j3q
theorem w5t:FO 116 (v3e j3p):=xi x4i jh y6p g9x z0e C77 j3q y3r Tryz.func116 (And.intro v1k trivial)
abbrev j5k:=List ((qa×(Bool×List ((qa×qa)))))×Unit→Option (Bool×Unit)
def w7a (f:j5k):FEnt:=⟨x4i,qq,f⟩
def b1j (f116v2:z0o):=lk [(116,v3e f116v2)]
def y1t (f116v2:z0o):j5k:=fun (x0,_)=>(f116v2 (x0,())).bind fun v=>some (decide (v.1≥0),())
def ww:j5k:=y1t j3p
theorem f4z:FO 74 (w7a ww):=kl x4i qq b1j y1t j3p (kc w5t kn) Tryz.func74
abbrev j4m:=List ((qa×(Bool×List ((qa×qa)))))×Bool×qu×qw×qx×Unit→Option ((Int×Unit)⊕(List ((qa×(Bool×List ((qa×qa)))))×qu×qw×qx×Unit))
def v3z (f:j4m):LEnt:=⟨g0u,g4h,f⟩
abbrev T35:=qu×qw×qx×List ((qa×(Bool×List ((qa×qa)))))×Unit→Option (Int×Unit)
def E35 (f:T35):FEnt:=⟨g0t,jh,f⟩
def K35 (f31:T31) (f70:T70) (f74:T74) (f74v1:j5j) (f74v2:j5k):=lk [(31,E31 f31),(70,E70 f70),(74,E74 f74),(74,w6z f74v1),(74,w7a f74v2)]
theorem g4z:zd Tryz.prog (K35 C31 C70 C74 wv ww):=(kc f4w (kc d0d (kc m1v (kc f4y (kc f4z kn)))))
def z0i (f31:T31) (f70:T70) (f74:T74) (f74v1:j5j) (f74v2:j5k):j4m:=fun (x0,x1,x2,x3,x4,_)=>bif x1 then some (Sum.inl (1,())) else (f74v1 (x0,())).bind fun v=>bif v.1 then some (Sum.inl (7,())) else (f74v2 (x0,())).bind fun v=>bif v.1 then some (Sum.inl (8,())) else some (Sum.inr (x0,x2,x3,x4,()))
theorem f3j (f31:T31) (f70:T70) (f74:T74) (f74v1:j5j) (f74v2:j5k):AqC (K35 f31 f70 f74 f74v1 f74v2) 0 (qd (code Tryz.f35) [1,0,0,1]) .nil g0u g4h (z0i f31 f70 f74 f74v1 f74v2):=fun v=>by kernel_rfl
def q7q:j4m:=z0i C31 C70 C74 wv ww
theorem f3z:zo 0 (qd (code Tryz.f35) [1,0,0,1]) (v3z q7q) :=
 frc g4z (f3j C31 C70 C74 wv ww)
def N35 (f35_c0:j4m):Ann:=(.seq .nil (.seq (.blk (.cut .nil (v3z f35_c0))) .nil))
def F35 (f31:T31) (f70:T70) (f74:T74) (f74v1:j5j) (f74v2:j5k) (f35_c0:j4m):T35:=fun (x0,x1,x2,x3,_)=>bif (↑x3.length:Int)==0 then (f35_c0 (x3,true,x0,x1,x2,())).bind fun v=>Sum.elim (fun v=>some (v.1,())) (fun v=>(f31 (v.1,())).bind fun v1=>(f70 (v.2.1,v.2.2.1,v.2.2.2.1,v1.1,())).bind fun v=>some (v.1,())) v else (f74 (x3,())).bind fun v=>(f35_c0 (x3,v.1,x0,x1,x2,())).bind fun v=>Sum.elim (fun v=>some (v.1,())) (fun v=>(f31 (v.1,())).bind fun v1=>(f70 (v.2.1,v.2.2.1,v.2.2.2.1,v1.1,())).bind fun v=>some (v.1,())) v
theorem h35 (f31:T31) (f70:T70) (f74:T74) (f74v1:j5j) (f74v2:j5k) (f35_c0:j4m):yd (K35 f31 f70 f74 f74v1 f74v2) 0 Tryz.f35 (N35 f35_c0) g0t jh (F35 f31 f70 f74 f74v1 f74v2 f35_c0):=fun v=>by kernel_rfl
def C35:T35:=F35 C31 C70 C74 wv ww q7q
theorem d0b:FO 35 (E35 C35) :=
 qo g4z Tryz.func35 (And.intro f3z trivial) (h35 C31 C70 C74 wv ww q7q)
abbrev T29:=Unit→Option (Bool×Unit)
def E29 (f:T29):FEnt:=⟨Li7,qq,f⟩
def K29 (f18:T18) (f30:T30) (f31:T31) (f34:T34) (f35:T35):=lk [(18,E18 f18),(30,E30 f30),(31,E31 f31),(34,E34 f34),(35,E35 f35)]
def C29:T29:=fun _=>some (true,())
theorem h29:y7f Γ (K29 C18 C30 C31 C34 C35) 0 Tryz.f29.ntmps Tryz.f29.results.toList (code Tryz.f29) .nil (em id Li7 ()).1 (em id Li7 ()).2 (z2e 0 qq)=some (true,()):=by kernel_rfl
theorem m1h:FO 29 (E29 C29) :=
 q0 (kc b6w (kc b9n (kc f4w (kc d0a (kc d0b kn))))) Tryz.func29 (fun v=>h29)
abbrev T38:=qa×qa×Unit→Option (Bool×Unit)
def E38 (f:T38):FEnt:=⟨x4e,qq,f⟩
def F38:T38:=fun (x0,x1,_)=>bif decide ((↑x0.length:Int)≤150) then some (decide ((↑x1.length:Int)≤200),()) else some (false,())
def C38:T38:=F38
theorem m1k:FO 38 (E38 C38):=zq0 x4e qq xc F38 kn Tryz.func38
abbrev z8v:=List ((qa×(Bool×List ((qa×qa)))))×Int×Int×Unit→Option ((List ((qa×(Bool×List ((qa×qa)))))×Int×Unit)⊕(Bool×Unit))
def v3w (f:z8v):LEnt:=⟨g0v,g4i,f⟩
abbrev z8w:=List ((qa×(Bool×List ((qa×qa)))))×Int×Unit→Option ((List ((qa×(Bool×List ((qa×qa)))))×Unit)⊕(Bool×Unit))
def v3x (f:z8w):LEnt:=⟨g0w,g4j,f⟩
abbrev T33:=List ((qa×(Bool×List ((qa×qa)))))×Unit→Option (Bool×Unit)
def E33 (f:T33):FEnt:=⟨z4h,qq,f⟩
def K33 (f38:T38):=lk [(38,E38 f38)]
theorem v9s:zd Tryz.prog (K33 C38):=(kc m1k kn)
def y6g (f38:T38):ye (List ((qa×(Bool×List ((qa×qa)))))×Int×Int×Unit) ((List ((qa×(Bool×List ((qa×qa)))))×Int×Unit)⊕(Bool×Unit)):=fun (x0,x1,x2,_)=>bif decide (0≤x1)&&decide (x1<(↑x0.length:Int)) then bif decide (x2<(↑(List.length (x0.getD x1.toNat ([],(false,[]))).2.2):Int)) then bif decide (0≤x1)&&decide (x1<(↑x0.length:Int)) then bif decide (0≤x2)&&decide (x2<(↑(List.length (x0.getD x1.toNat ([],(false,[]))).2.2):Int)) then (f38 ((List.getD (x0.getD x1.toNat ([],(false,[]))).2.2 x2.toNat ([],[])).1,(List.getD (x0.getD x1.toNat ([],(false,[]))).2.2 x2.toNat ([],[])).2,())).bind fun v=>bif !v.1 then some (Sum.inr (Sum.inr (false,()))) else some (Sum.inl (x0,x1,IntKind.i64.wrap (x2+1),())) else none else none else some (Sum.inr (Sum.inl (x0,x1,()))) else none
def z6x:z8v:=qb (y6g C38) je
theorem f3w:jf 0 (qd (code Tryz.f33) [1,0,1,0,0,1,0,0,1,1,0,0]) (v3w z6x):=zl1 g0v g4i K33 y6g C38 v9s
def f0e (f33_l0:z8v):Ann:=(.seq .nil (.seq (.blk (.seq .nil (.seq .nil (.blk (.loop (v3w f33_l0)))))) .nil))
def y6h (f38:T38) (f33_l0:z8v):ye (List ((qa×(Bool×List ((qa×qa)))))×Int×Unit) ((List ((qa×(Bool×List ((qa×qa)))))×Unit)⊕(Bool×Unit)):=fun (x0,x1,_)=>bif decide (x1<(↑x0.length:Int)) then bif decide (0≤x1)&&decide (x1<(↑x0.length:Int)) then bif decide ((↑(List.length (x0.getD x1.toNat ([],(false,[]))).1):Int)>150) then some (Sum.inr (Sum.inr (false,()))) else bif decide (0≤x1)&&decide (x1<(↑x0.length:Int)) then bif decide ((↑(List.length (x0.getD x1.toNat ([],(false,[]))).2.2):Int)>120) then some (Sum.inr (Sum.inr (false,()))) else (f33_l0 (x0,x1,0,())).bind fun v=>Sum.elim (fun v=>some (Sum.inl (v.1,IntKind.i64.wrap (v.2.1+1),()))) (fun v=>some (Sum.inr (Sum.inr (v.1,())))) v else none else none else some (Sum.inr (Sum.inl (x0,())))
def y5y:z8w:=qb (y6h C38 z6x) je
theorem f3x:jf 0 (qd (code Tryz.f33) [1,0,1,0,0]) (v3x y5y):=y5l g0w g4j K33 f0e y6h C38 z6x v9s (And.intro f3w trivial)
def N33 (f33_l1:z8w):Ann:=(.seq .nil (.seq (.seq .nil (.blk (.loop (v3x f33_l1)))) .nil))
def F33 (f38:T38) (f33_l1:z8w):T33:=fun (x0,_)=>(f33_l1 (x0,0,())).bind fun v=>Sum.elim (fun v=>some (decide ((↑(List.length v.1):Int)≤12),())) (fun v=>some (v.1,())) v
def C33:T33:=F33 C38 y5y
theorem m1i:FO 33 (E33 C33):=xi z4h qq K33 N33 F33 C38 y5y v9s Tryz.func33 (And.intro f3x trivial)
abbrev z8y:=List ((qa×(Bool×List ((qa×qa)))))×List ((qa×(Bool×List ((qa×qa)))))×Int×Int×Unit→Option ((List ((qa×(Bool×List ((qa×qa)))))×List ((qa×(Bool×List ((qa×qa)))))×Int×Unit)⊕(Bool×Unit))
def v4b (f:z8y):LEnt:=⟨g0y,g4k,f⟩
abbrev j4n:=List ((qa×(Bool×List ((qa×qa)))))×List ((qa×(Bool×List ((qa×qa)))))×Int×Unit→Option ((List ((qa×(Bool×List ((qa×qa)))))×List ((qa×(Bool×List ((qa×qa)))))×Int×Unit)⊕(Bool×Unit))
def v4a (f:j4n):LEnt:=⟨x4j,g4l,f⟩
abbrev z8z:=List ((qa×(Bool×List ((qa×qa)))))×List ((qa×(Bool×List ((qa×qa)))))×Int×Unit→Option (Unit⊕(Bool×Unit))
def v4c (f:z8z):LEnt:=⟨x4j,g4m,f⟩
abbrev T36:=List ((qa×(Bool×List ((qa×qa)))))×List ((qa×(Bool×List ((qa×qa)))))×Unit→Option (Bool×Unit)
def E36 (f:T36):FEnt:=⟨g0x,qq,f⟩
def y6j:ye (List ((qa×(Bool×List ((qa×qa)))))×List ((qa×(Bool×List ((qa×qa)))))×Int×Int×Unit) ((List ((qa×(Bool×List ((qa×qa)))))×List ((qa×(Bool×List ((qa×qa)))))×Int×Unit)⊕(Bool×Unit)):=fun (x0,x1,x2,x3,_)=>bif decide (0≤x2)&&decide (x2<(↑x0.length:Int)) then bif decide (x3<(↑(List.length (x0.getD x2.toNat ([],(false,[]))).2.2):Int)) then bif decide (0≤x2)&&decide (x2<(↑x0.length:Int)) then bif decide (0≤x3)&&decide (x3<(↑(List.length (x0.getD x2.toNat ([],(false,[]))).2.2):Int)) then bif decide (0≤x2)&&decide (x2<(↑x1.length:Int)) then bif decide (0≤x3)&&decide (x3<(↑(List.length (x1.getD x2.toNat ([],(false,[]))).2.2):Int)) then bif !((List.getD (x0.getD x2.toNat ([],(false,[]))).2.2 x3.toNat ([],[])).1==(List.getD (x1.getD x2.toNat ([],(false,[]))).2.2 x3.toNat ([],[])).1&&((List.getD (x0.getD x2.toNat ([],(false,[]))).2.2 x3.toNat ([],[])).2==(List.getD (x1.getD x2.toNat ([],(false,[]))).2.2 x3.toNat ([],[])).2&&true)) then some (Sum.inr (Sum.inr (false,()))) else some (Sum.inl (x0,x1,x2,IntKind.i64.wrap (x3+1),())) else none else none else none else none else some (Sum.inr (Sum.inl (x0,x1,x2,()))) else none
def j9y:z8y:=qb (y6j) je
theorem f4b:jf 0 (qd (code Tryz.f36) [1,1,0,1,0,0,1,0,0,1,1,0,0]) (v4b j9y):=zl0 g0y g4k xc y6j kn
def f0f (f36_l0:z8y):Ann:=(.seq .nil (.blk (.loop (v4b f36_l0))))
def z8f (f36_l0:z8y):j4n:=fun (x0,x1,x2,_)=>(f36_l0 (x0,x1,x2,0,())).bind fun v=>Sum.elim (fun v=>some (Sum.inl (v.1,v.2.1,v.2.2.1,()))) (fun v=>some (Sum.inr (v.1,()))) v
def z6y:j4n:=z8f j9y
theorem f4a:zo 0 (qd (code Tryz.f36) [1,1,0,1,0,0,1,0,0,1]) (v4a z6y):=y5k x4j g4l xc f0f z8f j9y kn (And.intro f4b trivial)
def f0g (f36_c0:j4n):Ann:=(.seq .nil (.seq (.blk (.cut .nil (v4a f36_c0))) .nil))
def y6k (f36_c0:j4n):ye (List ((qa×(Bool×List ((qa×qa)))))×List ((qa×(Bool×List ((qa×qa)))))×Int×Unit) (Unit⊕(Bool×Unit)):=fun (x0,x1,x2,_)=>bif decide (x2<(↑x0.length:Int)) then bif decide (0≤x2)&&decide (x2<(↑x0.length:Int)) then bif decide (0≤x2)&&decide (x2<(↑x1.length:Int)) then bif !(x0.getD x2.toNat ([],(false,[]))).1==(x1.getD x2.toNat ([],(false,[]))).1 then some (Sum.inr (Sum.inr (false,()))) else bif decide (0≤x2)&&decide (x2<(↑x0.length:Int)) then bif decide (0≤x2)&&decide (x2<(↑x1.length:Int)) then bif !(x0.getD x2.toNat ([],(false,[]))).2.1==(x1.getD x2.toNat ([],(false,[]))).2.1 then some (Sum.inr (Sum.inr (false,()))) else bif decide (0≤x2)&&decide (x2<(↑x0.length:Int)) then bif decide (0≤x2)&&decide (x2<(↑x1.length:Int)) then bif (↑(List.length (x0.getD x2.toNat ([],(false,[]))).2.2):Int) != (↑(List.length (x1.getD x2.toNat ([],(false,[]))).2.2):Int) then some (Sum.inr (Sum.inr (false,()))) else (f36_c0 (x0,x1,x2,())).bind fun v=>Sum.elim (fun v=>some (Sum.inl (v.1,v.2.1,IntKind.i64.wrap (v.2.2.1+1),()))) (fun v=>some (Sum.inr (Sum.inr (v.1,())))) v else none else none else none else none else none else none else some (Sum.inr (Sum.inl ()))
theorem f3k (f36_c0:j4n):AqL xc 0 (qd (code Tryz.f36) [1,1,0,1,0,0]) (f0g f36_c0) x4j g4m (y6k f36_c0):=fun v=>by kernel_rfl
def y5z:z8z:=qb (y6k z6y) je
theorem f4c:jf 0 (qd (code Tryz.f36) [1,1,0,1,0,0]) (v4c y5z) :=
 frm kn (And.intro f4a trivial) (f3k z6y)
def N36 (f36_l1:z8z):Ann:=(.seq .nil (.seq .nil (.seq (.seq .nil (.blk (.loop (v4c f36_l1)))) .nil)))
def F36 (f36_l1:z8z):T36:=fun (x0,x1,_)=>bif (↑x0.length:Int) != (↑x1.length:Int) then some (false,()) else (f36_l1 (x0,x1,0,())).bind fun v=>Sum.elim (fun v=>some (true,())) (fun v=>some (v.1,())) v
def C36:T36:=F36 y5z
theorem m1j:FO 36 (E36 C36):=q2c g0x qq xc N36 F36 y5z kn Tryz.func36 (And.intro f4c trivial)
abbrev j4g:=qa×Bool×qu×qw×qx×Unit→Option (Bool×Unit)
def v3c (f:j4g):LEnt:=⟨g1a,g4n,f⟩
abbrev T10:=List ((qa×(Bool×List ((qa×qa)))))×qa×Unit→Option (Bool×Unit)
def E10 (f:T10):FEnt:=⟨g0z,qq,f⟩
def K10 (f18:T18) (f29:T29) (f30:T30) (f33:T33) (f34:T34) (f35:T35) (f36:T36):=lk [(18,E18 f18),(29,E29 f29),(30,E30 f30),(33,E33 f33),(34,E34 f34),(35,E35 f35),(36,E36 f36)]
theorem g4w:zd Tryz.prog (K10 C18 C29 C30 C33 C34 C35 C36):=(kc b6w (kc m1h (kc b9n (kc m1i (kc d0a (kc d0b (kc m1j kn)))))))
def z6z (f18:T18) (f29:T29) (f30:T30) (f33:T33) (f34:T34) (f35:T35) (f36:T36):j4g:=fun (x0,x1,x2,x3,x4,_)=>(f30 (x2,x3,x4,x0,())).bind fun v=>bif v.2.1 != 0 then bif x1 then some ((↑(List.length v.1):Int)==0,()) else some (false,()) else (f34 (v.1,())).bind fun v1=>(f30 (x2,x3,x4,v1.1,())).bind fun v2=>bif x1 then (f35 (x2,x3,x4,v.1,())).bind fun v3=>bif v3.1==0 then bif v2.2.1==0 then (f36 (v.1,v2.1,())).bind fun v=>bif v.1 then some (true,()) else some (v2.2.1==5,()) else some (v2.2.1==5,()) else some (false,()) else some (false,())
theorem f3e (f18:T18) (f29:T29) (f30:T30) (f33:T33) (f34:T34) (f35:T35) (f36:T36):AqC (K10 f18 f29 f30 f33 f34 f35 f36) 0 (qd (code Tryz.f10) [1,1,1,1,1,1,1]) .nil g1a g4n (z6z f18 f29 f30 f33 f34 f35 f36):=fun v=>by kernel_rfl
def j9l:j4g:=z6z C18 C29 C30 C33 C34 C35 C36
theorem f3s:zo 0 (qd (code Tryz.f10) [1,1,1,1,1,1,1]) (v3c j9l) :=
 frc g4w (f3e C18 C29 C30 C33 C34 C35 C36)
def N10 (f10_c0:j4g):Ann:=(.seq .nil (.seq .nil (.seq .nil (.seq .nil (.seq .nil (.seq .nil (.cut .nil (v3c f10_c0))))))))
def F10 (f18:T18) (f29:T29) (f30:T30) (f33:T33) (f34:T34) (f35:T35) (f36:T36) (f10_c0:j4g):T10:=fun (x0,x1,_)=>(f29 ()).bind fun v=>(f33 (x0,())).bind fun v1=>bif !v1.1 then some (v.1,()) else bif decide ((↑x1.length:Int)>400) then some (v.1,()) else (f18 ()).bind fun v2=>(f34 (x0,())).bind fun v3=>(f35 (v2.1,v2.2.1,v2.2.2.1,x0,())).bind fun v4=>bif v4.1==0 then (f30 (v2.1,v2.2.1,v2.2.2.1,v3.1,())).bind fun v5=>bif decide ((↑(List.length v3.1):Int)>2000) then bif v5.2.1 != 5 then some (false,()) else bif decide ((↑(List.length v3.1):Int)≤2000) then bif v5.2.1 != 0 then some (false,()) else (f36 (v5.1,x0,())).bind fun v6=>bif !v6.1 then some (false,()) else (f10_c0 (x1,v.1,v2.1,v2.2.1,v2.2.2.1,())).bind fun v=>some (v.1,()) else (f10_c0 (x1,v.1,v2.1,v2.2.1,v2.2.2.1,())).bind fun v=>some (v.1,()) else bif decide ((↑(List.length v3.1):Int)≤2000) then bif v5.2.1 != 0 then some (false,()) else (f36 (v5.1,x0,())).bind fun v6=>bif !v6.1 then some (false,()) else (f10_c0 (x1,v.1,v2.1,v2.2.1,v2.2.2.1,())).bind fun v=>some (v.1,()) else (f10_c0 (x1,v.1,v2.1,v2.2.1,v2.2.2.1,())).bind fun v=>some (v.1,()) else (f10_c0 (x1,v.1,v2.1,v2.2.1,v2.2.2.1,())).bind fun v=>some (v.1,())
theorem h10 (f18:T18) (f29:T29) (f30:T30) (f33:T33) (f34:T34) (f35:T35) (f36:T36) (f10_c0:j4g):yd (K10 f18 f29 f30 f33 f34 f35 f36) 0 Tryz.f10 (N10 f10_c0) g0z qq (F10 f18 f29 f30 f33 f34 f35 f36 f10_c0):=fun v=>by kernel_rfl
def C10:T10:=F10 C18 C29 C30 C33 C34 C35 C36 j9l
theorem ok10:FO 10 (E10 C10) :=
 qo g4w Tryz.func10 (And.intro f3s trivial) (h10 C18 C29 C30 C33 C34 C35 C36 j9l)
end Go.Proofs.YtiacnhhmkdkpmaaGreatDoorA.W
set_option linter.unusedSimpArgs false
namespace Go.Proofs.YtiacnhhmkdkpmaaGreatDoorA.W
open Go Go.Ae
theorem wr {n:Int} (h1 : -9223372036854775808≤n) (h2:n≤9223372036854775807):IntKind.i64.wrap n=n:=by rw [IntKind.wrap_i64];omega
theorem wrN (n:Nat) (h:n≤9223372036854775806):IntKind.i64.wrap ((n:Int)+1)=((n+1:Nat):Int):=by rw [wr]<;>omega
theorem x6l (b:UInt8):UInt8.ofNat b.toNat=b:=by simp
theorem byte_back (b:UInt8):UInt8.ofNat ((b.toNat:Int)).toNat=b:=by simp
theorem getD_lt {α:Type} {l:List α} {i:Nat} {d:α} (h:i<l.length):l.getD i d=l[i]:=by simp [List.getD_eq_getElem?_getD,List.getElem?_eq_getElem h]
def q0s (c:UInt8):List UInt8:=if c.toNat=34∨c.toNat=92 then [92,c] else [c]
def esc (s:List UInt8):List UInt8:=s.flatMap q0s
theorem v8e (c:UInt8):(q0s c).length≤2:=by unfold q0s;split<;>simp
theorem q2o:∀s:List UInt8,(esc s).length≤2*s.length
 | []=>by simp [esc]
 | c::s=>by have:=q2o s;have:=v8e c;simp [esc] at *;omega
theorem y7q (s t:List UInt8):esc (s++t)=esc s++esc t:=by simp [esc]
theorem qg {α:Type} {s:List α} {k:Nat} (h:k<s.length):s.take (k+1)=s.take k++[s[k]]:=by
 rw [List.take_add_one,List.getElem?_eq_getElem h];rfl
theorem v8f {s:List UInt8} {k:Nat} (h:k<s.length):esc (s.take (k+1))=esc (s.take k)++q0s s[k]:=by
 rw [qg h,y7q];simp [esc]
theorem ibT {a b:Int} (h:a=b):(a==b)=true:=by simp [h]
theorem ibF {a b:Int} (h:a≠b):(a==b)=false:=by simp [h]
theorem inT {a b:Int} (h:a≠b):(a != b)=true:=by simp [h]
theorem inF {a b:Int} (h:a=b):(a != b)=false:=by simp [h]
theorem z5t {a:UInt8} {n:Nat} (h:a.toNat=n):a=UInt8.ofNat n:=by subst h;simp
theorem f3a {c:UInt8} (h:c.toNat=34):q0s c=[92]++[c]:=by simp [q0s,h]
theorem f2y {c:UInt8} (h:c.toNat=92):q0s c=[92]++[c]:=by simp [q0s,h]
theorem f2z {c:UInt8} (h:¬c.toNat=34) (h2:¬c.toNat=92):q0s c=[c]:=by simp [q0s,h,h2]
theorem r14 (s:List UInt8) (k:Nat) (acc:List UInt8) (h:k<s.length) (hb:s.length≤9223372036854775806) (ha:acc.length+2≤140737488355328) :
 we (s,(s.length:Int),(k:Int),acc,())=some (.inl (s,(s.length:Int),((k+1:Nat):Int),acc++q0s s[k],())):=by
 by_cases e1:s[k].toNat=34
 · simp (disch:=omega) only [we,decide_eq_true,cond_true,Bool.and_self,jv,getD_lt,byte_back,wrN,Int.toNat_natCast,ibT,f3a,List.append_assoc,x6l]
 · by_cases e2:s[k].toNat=92
   · simp (disch:=omega) only [we,decide_eq_true,cond_true,cond_false,Bool.and_self,jv,getD_lt,byte_back,wrN,Int.toNat_natCast,ibT,ibF,f2y,List.append_assoc,x6l]
   · simp (disch:=omega) only [we,decide_eq_true,cond_true,cond_false,Bool.and_self,jv,getD_lt,byte_back,wrN,Int.toNat_natCast,ibT,ibF,f2z,List.append_assoc,x6l]
theorem c14 (s:List UInt8) (hb:s.length≤70368744177663):v2h (s,())=some (esc s,()):=by
 have key:∀(k:Nat) (n:Nat),k≤s.length→s.length-k<n→qb we n (s,(s.length:Int),(k:Int),esc (s.take k),())=some (esc s,()):=by
  intro k n
  induction n generalizing k with
  | zero=>intro _ h;omega
  | succ n ih =>
   intro hk hn;by_cases h:k<s.length
   · have hl:=q2o (s.take k)
     rw [qy (r14 s k _ h (by omega) (by simp only [List.length_take] at hl;omega)),←v8f h];exact ih (k+1) (by omega) (by omega)
   · have:k=s.length:=by omega
     subst this;refine qe ?_;simp [we]
 have:=key 0 je (by omega) (by unfold je;omega);simp only [List.take_zero] at this;show k3o q8m (s,())=_;simp only [k3o,q8m];rw [show qb we je (s,(s.length:Int),0,[],())=some (esc s,()) from this];rfl
def src (k:Int) (s:List UInt8):List UInt8:=if k=1 then [34]++esc s++[34] else if k=3 then [40]++s++[41] else if k=5 then [91]++s++[93] else s
theorem c9 (k:Int) (s:List UInt8) (a:Int) (hb:s.length≤9000):C89 (k,s,a,())=some (src k s,()):=by
 have hl:=q2o s;show F89 v2h (k,s,a,())=_;by_cases e1:k=1
 · simp (disch:=omega) only [F89,c14,ibT,cond_true,decide_eq_true,jv,Option.bind_some,src,if_pos]
 · by_cases e3:k=3
   · simp (disch:=omega) only [F89,ibT,ibF,cond_true,cond_false,decide_eq_true,jv,Option.bind_some,src,if_pos,if_neg]
   · by_cases e5:k=5
     · simp (disch:=omega) only [F89,ibT,ibF,cond_true,cond_false,decide_eq_true,jv,Option.bind_some,src,if_pos,if_neg]
     · simp (disch:=omega) only [F89,ibT,ibF,cond_true,cond_false,src,if_neg]
def Df {α:Type} (x:Option α) (Q:α→Prop):Prop:=∃y,x=some y∧Q y
section
variable {α β γ:Type} {Q:α→Prop}
theorem dP {y:α} (h:Q y):Df (some y) Q:=⟨y,rfl,h⟩
theorem dO (h:False):Df (none:Option α) Q:=h.elim
theorem dZ {x:Option β} {f:β→Option α} {P:β→Prop} (h:Df x P) (hf:∀a,P a→Df (f a) Q):Df (x.bind f) Q:=by
 obtain ⟨a,rfl,ha⟩:=h;exact hf a ha
theorem Df.mono {x:Option α} {P:α→Prop} (h:Df x P) (hf:∀a,P a→Q a):Df x Q:=by
 obtain ⟨a,e,ha⟩:=h;exact ⟨a,e,hf a ha⟩
theorem Df.and {x:Option α} {P P':α→Prop} (h:Df x P) (h':Df x P'):Df x fun y=>P y∧P' y:=by
 obtain ⟨a,e,ha⟩:=h;obtain ⟨b,e',hb⟩:=h';rw [e] at e';cases e';exact ⟨a,e,ha,hb⟩
theorem dB {b:Bool} {x y:Option α} (h1:b=true→Df x Q) (h2:b=false→Df y Q):Df (bif b then x else y) Q:=by
 cases b
 · exact h2 rfl
 · exact h1 rfl
theorem dH {b:Bool} {x y:Option α} (h1:b=false→Df x Q) (h2:b=true→Df y Q):Df (bif !b then x else y) Q:=by
 cases b
 · exact h1 rfl
 · exact h2 rfl
theorem dD {p:Prop} {dp:Decidable p} {x y:Option α} (h1:p→Df x Q) (h2:¬p→Df y Q):Df (bif decide p then x else y) Q:=by
 by_cases h:p
 · rw [decide_eq_true h];exact h1 h
 · rw [decide_eq_false h];exact h2 h
theorem dG {a b:Int} {x y:Option α} (h1:a=b→Df x Q) (h2:a≠b→Df y Q):Df (bif a==b then x else y) Q:=by
 by_cases h:a=b
 · rw [ibT h];exact h1 h
 · rw [ibF h];exact h2 h
class Rd (b:Bool) (p q:outParam Prop):Prop where
 t:b=true→p
 f:b=false→q
instance (priority := low) (b : Bool) : Rd b (b = true) (b = false) := ⟨id, id⟩
instance (b : Bool) : Rd (!b) (b = false) (b = true) := ⟨fun h => by cases b <;> simp_all, fun h => by cases b <;> simp_all⟩
instance (p : Prop) [Decidable p] : Rd (decide p) p (¬ p) := ⟨of_decide_eq_true, of_decide_eq_false⟩
instance (p : Prop) [Decidable p] : Rd (!decide p) (¬ p) p := ⟨fun h => by simpa using h, fun h => by simpa using h⟩
instance (p q : Prop) [Decidable p] [Decidable q] : Rd (decide p && decide q) (p ∧ q) (¬ (p ∧ q)) := ⟨fun h => by simpa using h, fun h => by simpa using h⟩
instance (a b : Int) : Rd (a == b) (a = b) (a ≠ b) := ⟨fun h => by simpa using h, fun h => by simpa using h⟩
instance (a b : Int) : Rd (a != b) (a ≠ b) (a = b) := ⟨fun h => by simpa using h, fun h => by simpa using h⟩
theorem dX {b:Bool} {p q:Prop} [r:Rd b p q] {x y:Option α} (h1:p→Df x Q) (h2:q→Df y Q):Df (bif b then x else y) Q:=by
 have h:b=true∨b=false:=by cases b<;>simp
 rcases h with h|h
 · rw [h];exact h1 (r.t h)
 · rw [h];exact h2 (r.f h)
theorem dS {f:β→Option α} {g:γ→Option α} {s:β⊕γ} {P:β→Prop} {P':γ→Prop} (hs:Sum.elim P P' s) (h1:∀a,P a→Df (f a) Q) (h2:∀b,P' b→Df (g b) Q):Df (Sum.elim f g s) Q:=by
 cases s with
 | inl a=>exact h1 a hs
 | inr b=>exact h2 b hs
theorem Df.loop {F:β→Option (β⊕α)} (I:β→Prop) (μ:β→Nat) (h:∀v,I v→Df (F v) (Sum.elim (fun v'=>I v'∧μ v'<μ v) Q)) (n:Nat) (v:β) (hv:I v) (hn:μ v<n):Df (qb F n v) Q:=by
 refine y4a I Q μ (fun v hv => ?_) n v hv hn;obtain ⟨y,e,hy⟩:=h v hv;cases y with
 | inl v'=>exact .inl ⟨v',e,hy.1,hy.2⟩
 | inr y=>exact .inr ⟨y,e,hy⟩
theorem dL {F:β→Option (β⊕α)} (I:β→Prop) (μ:β→Nat) (h:∀v,I v→Df (F v) (Sum.elim (fun v'=>I v'∧μ v'<μ v) Q)) (v:β) (hv:I v) (hn:μ v<1000000000000000000):Df (qb F je v) Q :=
 Df.loop I μ h je v hv (by unfold je;omega)
end
theorem k2t (n:Int):IntKind.i64.wrap n=(n+9223372036854775808)%18446744073709551616-9223372036854775808:=by rw [IntKind.wrap_i64]
theorem m4b (n:Int):IntKind.i32.wrap n=(n+2147483648)%4294967296-2147483648:=by
 simp [IntKind.wrap,IntKind.bits,IntKind.signed];split<;>omega
theorem d0x (n:Int):IntKind.u64.wrap n=n%18446744073709551616:=IntKind.wrap_u64 n
theorem qh {n:Int} (h : -9000000000000000000≤n∧n≤9000000000000000000):IntKind.i64.wrap n=n:=by rw [k2t];omega
theorem f6r {n:Int} (h : -2000000000≤n∧n≤2000000000):IntKind.i32.wrap n=n:=by rw [m4b];omega
theorem k0e {a b:Int} (ha:0≤a) (hb:0≤b) (h:a+b≤9000000000000000000):IntKind.i64.wrap ((IntKind.u64.wrap (IntKind.i64.wrap (a+b))).fdiv (2^min 1 IntKind.u64.bits))=(a+b)/2:=by
 rw [qh (n:=a+b) (by omega),d0x,show (2:Int)^min 1 IntKind.u64.bits=2 from rfl,Int.fdiv_eq_ediv_of_nonneg _ (by omega),qh (by omega)];omega
theorem z1p (s:List UInt8) (p:Nat):1≤(vd s p).2:=by
 unfold vd Utf8.decode;dsimp only;repeat' split
 all_goals (first|omega|(dsimp only;omega))
theorem k9k (x:Int):Df (xp (x,())) (fun y=>y.1=true→0≤x∧x≤1114111):=by
 show Df (v4v _) _;unfold v4v;dsimp only;with_reducible repeat' (first|apply dP|apply dX<;>intro _)
 all_goals (dsimp only;intro h';first|omega|cases h')
theorem b3v (x:Int):Df (xm (x,())) (fun y=>0≤y.1∧y.1≤4):=by
 show Df (y1p xp _) _;unfold y1p;dsimp only;refine dZ (k9k x) ?_;rintro ⟨b,u⟩ hb;dsimp only;with_reducible repeat' (first|apply dP|apply dX<;>intro _)
 all_goals (first|omega|(dsimp only;omega))
theorem f0y (x:Int) (b:Bool):Df (q2e (x,b,())) (Sum.elim (fun y=>0≤y.1∧y.1≤3) (fun _=>True)):=by
 show Df (q5c _) _;unfold q5c;dsimp only;with_reducible repeat' (first|apply dP|apply dX<;>intro _)
 all_goals (first|trivial|exact ⟨by (try dsimp only);omega,by (try dsimp only);omega⟩)
theorem f0z (x:Int) (b:Bool):Df (q2f (x,b,())) (Sum.elim (fun y=>0≤y.1∧y.1≤3) (fun _=>True)):=by
 show Df (q5d q2e _) _;unfold q5d;dsimp only;with_reducible repeat' (first|apply dP|apply dX<;>intro _)
 all_goals (first|trivial|exact ⟨by (try dsimp only);omega,by (try dsimp only);omega⟩|(refine dZ (f0y _ _) ?_;intro s hs;exact dS hs (fun a ha=>dP ha) (fun _ _=>dP trivial)))
theorem b3u (x:Int):Df (kz (x,())) (fun y => -1≤y.1∧y.1≤3):=by
 show Df (x8a q2f _) _;unfold x8a;dsimp only;with_reducible repeat' (first|apply dP|apply dX<;>intro _)
 all_goals (first|(first|omega|(dsimp only;omega))|(refine dZ (f0z _ _) ?_;intro s hs;exact dS hs (fun a ha=>dP ⟨by have:=ha.1;dsimp only;omega,ha.2⟩) (fun _ _=>dP (by (try dsimp only);omega))))
theorem b4w (s:List UInt8) (n r at_ k:Int) (o:List Int) (h:0≤at_) (hn:0≤n∧n≤3) (hl:at_+n<s.length) (hk:at_+1≤k) (hb:s.length≤1000000000000) :
 Df (q3s (s,n,r,at_,k,o,())) (Sum.elim (fun y=>y.1=s∧y.2.1=n∧y.2.2.2.1=at_∧y.2.2.2.2.1=o) (fun y=>y.1=at_∧y.2.1=o)):=by
 refine dL ?I ?m ?h _ ?hv ?hn
 case I=>exact (fun v=>v.1=s∧v.2.1=n∧v.2.2.2.1=at_∧v.2.2.2.2.2.1=o∧at_+1≤v.2.2.2.2.1)
 case m=>exact (fun v=>(at_+n+1-v.2.2.2.2.1).toNat)
 case hv=>exact ⟨rfl,rfl,rfl,rfl,hk⟩
 case hn=>exact (by (try dsimp only);omega)
 rintro ⟨x0,x1,x2,x3,x4,x5,u⟩ hI;dsimp only at hI;obtain ⟨rfl,rfl,rfl,rfl,hI⟩:=hI;unfold q3v;dsimp only;rw [qh (n:=x3+x1) (by omega)];with_reducible repeat' (first|apply dP|apply dX<;>intro _)
 · exact ⟨rfl,rfl⟩
 · rw [qh (by omega)]
   exact ⟨⟨rfl,rfl,rfl,rfl,by (try dsimp only);omega⟩,by (try dsimp only);omega⟩
 · refine dO ?_;omega
 · refine dO ?_;omega
 · exact ⟨rfl,rfl,rfl,rfl⟩
theorem d83 (s:List UInt8) (hb:s.length≤1000000000000):Df (C83 (s,())) (fun y=>y.1.length≤s.length∧(y.2.1 = -1∨0≤y.2.1∧y.2.1<s.length)∧(y.2.1<0→0<s.length→0<y.1.length)):=by
 show Df (F83 kz xm q3r q7r _) _;unfold F83;dsimp only;refine dZ (P:=Sum.elim (fun y=>y.1.length≤s.length∧(0<s.length→0<y.1.length)) (fun y=>y.2.1.length≤s.length∧0≤y.1∧y.1<s.length)) ?_ ?_
 · refine dL ?I ?m ?h _ ?hv ?hn
   case I=>exact (fun v=>v.1=s∧0≤v.2.1∧v.2.1≤s.length∧v.2.2.1.length≤v.2.1∧(0<v.2.1→0<v.2.2.1.length))
   case m=>exact (fun v=>(s.length-v.2.1).toNat)
   case hv=>exact ⟨rfl,by (try dsimp only);omega,by (try dsimp only);omega,by simp,by simp⟩
   case hn=>exact (by (try dsimp only);omega)
   rintro ⟨x0,x1,x2,u⟩ hI;dsimp only at hI;obtain ⟨rfl,h0,h1,h2,h2'⟩:=hI;unfold kp;dsimp only;with_reducible repeat' (first|apply dP|apply dX<;>intro _)
   · refine dZ (b3u _) ?_
     rintro ⟨n,r,u⟩ hn;dsimp only at hn ⊢;rw [qh (n:=(x0.length:Int)-x1) (by omega)];with_reducible repeat' (first|apply dP|apply dX<;>intro _)
     · exact ⟨by (try dsimp only);omega,by (try dsimp only);omega,by (try dsimp only);omega⟩
     · exact ⟨by (try dsimp only);omega,by (try dsimp only);omega,by (try dsimp only);omega⟩
     · rw [qh (n:=x1+1) (by omega)]
       refine dZ (b4w x0 n r x1 (x1+1) x2 h0 (by omega) (by omega) (by omega) hb) ?_;intro s hs;refine dS hs ?_ ?_
       · rintro ⟨a0,a1,a2,a3,a4,u⟩ ha
         dsimp only at ha ⊢;obtain ⟨rfl,rfl,rfl,rfl⟩:=ha;refine dZ (b3v _) ?_;rintro ⟨m,u⟩ hm;dsimp only at hm ⊢;with_reducible repeat' (first|apply dP|apply dX<;>intro _)
         · exact ⟨by (try dsimp only);omega,by (try dsimp only);omega,by (try dsimp only);omega⟩
         · rw [qh (n:=a1+1) (by omega),qh (by omega)]
           exact ⟨⟨rfl,by (try dsimp only);omega,by (try dsimp only);omega,by simp only [jv];omega,fun _=>by simp only [jv];omega⟩,by (try dsimp only);omega⟩
         · refine dO ?_
           simp only [List.length_cons,List.length_nil] at *
           omega
       · rintro ⟨a0,a1,u⟩ ha
         dsimp only at ha ⊢;obtain ⟨rfl,rfl⟩:=ha;exact dP ⟨by (try dsimp only);omega,by (try dsimp only);omega,by (try dsimp only);omega⟩
   · refine dO ?_;omega
   · exact ⟨by (try dsimp only);omega,fun _=>h2' (by omega)⟩
 · intro r hr
   refine dS hr ?_ ?_
   · rintro ⟨a,u⟩ ha
     exact dP ⟨ha.1,.inl rfl,fun _=>ha.2⟩
   · rintro ⟨a,b,u⟩ ha
     exact dP ⟨ha.1,.inr ha.2,fun h=>by have:=ha.2.1;dsimp only at h this;omega⟩
theorem v1b (l:List Int) (hb:l.length≤20000000000000):Df (z6a (l,())) (fun y=>y.1.length≤4*l.length):=by
 show Df (x8d xm q9b _) _;unfold x8d;dsimp only;refine dZ (P:=Sum.elim (fun y=>y.1.length≤4*l.length) (fun y=>y.1.length≤4*l.length)) ?_ ?_
 · refine dL ?I ?m ?h _ ?hv ?hn
   case I=>exact (fun v=>v.1=l∧v.2.1=l.length∧0≤v.2.2.1∧v.2.2.1≤l.length∧v.2.2.2.1.length≤4*v.2.2.1)
   case m=>exact (fun v=>(l.length-v.2.2.1).toNat)
   case hv=>exact ⟨rfl,rfl,by (try dsimp only);omega,by (try dsimp only);omega,by simp⟩
   case hn=>exact (by (try dsimp only);omega)
   rintro ⟨x0,x1,x2,x3,u⟩ hI;dsimp only at hI;obtain ⟨rfl,rfl,h0,h1,h2⟩:=hI;unfold j7m;dsimp only;with_reducible repeat' (first|apply dP|apply dX<;>intro _)
   · refine dZ (b3v _) ?_
     rintro ⟨m,u⟩ hm;dsimp only at hm ⊢;rw [qh (n:=x2+1) (by omega)];with_reducible repeat' (first|apply dP|apply dX<;>intro _)
     all_goals first
      | exact (by simp:(([]:List UInt8).length≤4*x0.length))
      | exact ⟨⟨rfl,rfl,by (try dsimp only);omega,by (try dsimp only);omega,by simp only [jv];omega⟩,by (try dsimp only);omega⟩
      | (refine dO ?_;simp only [List.length_cons,List.length_nil] at *;omega)
   · refine dO ?_;omega
   · exact (by (try dsimp only);omega:x3.length≤4*x0.length)
 · intro r hr
   refine dS hr ?_ ?_
   · rintro ⟨a,u⟩ ha;exact dP ha
   · rintro ⟨a,b,u⟩ ha;exact dP ha
theorem d21 (s:List UInt8) (hb:s.length≤1000000000000000):Df (C21 (s,())) (fun y=>y.1<s.length∧(y.1<0→∀c∈s,c.toNat<128)):=by
 show Df (F21 z6j _) _;unfold F21;dsimp only;refine dZ (P:=Sum.elim (fun y=>∀c∈s,c.toNat<128) (fun y=>0≤y.1∧y.1<s.length)) ?_ ?_
 · refine dL ?I ?m ?h _ ?hv ?hn
   case I=>exact (fun v=>v.1=s∧v.2.1=s.length∧0≤v.2.2.1∧v.2.2.1≤s.length∧∀c∈s.take v.2.2.1.toNat,c.toNat<128)
   case m=>exact (fun v=>(s.length-v.2.2.1).toNat)
   case hv=>exact ⟨rfl,rfl,by (try dsimp only);omega,by (try dsimp only);omega,by simp⟩
   case hn=>exact (by (try dsimp only);omega)
   rintro ⟨x0,x1,x2,u⟩ hI;dsimp only at hI;obtain ⟨rfl,rfl,h0,h1,h2⟩:=hI;unfold y6f;dsimp only;with_reducible repeat' (first|apply dP|apply dX<;>intro _)
   · exact ⟨by (try dsimp only);omega,by (try dsimp only);omega⟩
   · rename_i h3 h4 h5
     rw [qh (n:=x2+1) (by omega)];have hlt:x2.toNat<x0.length:=by omega
     refine ⟨⟨rfl,rfl,by (try dsimp only);omega,by (try dsimp only);omega,?_⟩,by (try dsimp only);omega⟩;dsimp only;intro c hc;rw [show (x2+1).toNat=x2.toNat+1 by omega,qg hlt] at hc;rcases List.mem_append.1 hc with hc|hc
     · exact h2 c hc
     · rw [List.mem_singleton] at hc
       rw [getD_lt hlt] at h5;subst hc;omega
   · refine dO ?_;omega
   · intro c hc
     refine h2 c ?_;rw [List.take_of_length_le (by omega)];exact hc
 · intro r hr
   refine dS hr ?_ ?_
   · intro u hu;exact dP ⟨by (try dsimp only);omega,fun _=>hu⟩
   · rintro ⟨a,u⟩ ha;exact dP ⟨ha.2,fun h=>by have:=ha.1;dsimp only at h this;omega⟩
abbrev R6:=Int×Int×Int×Int×Int×Int
abbrev R4:=Int×Int×Int×Int
abbrev R3:=Int×Int×Int
theorem b4q (a b c d e f g:Int):Df (y1l (a,b,c,d,e,f,g,())) (fun _=>True):=by
 show Df (k5x _) _;unfold k5x;dsimp only;with_reducible repeat' (first|apply dP|apply dX<;>intro _)
 all_goals trivial
theorem d8h (T:List R6) (r:Int) (hT:T.length≤1000000000000):Df (v2w (T,r,())) (fun y=>0≤y.1∧(y.2.1=true→y.1<T.length)):=by
 show Df (k5w y1l j7a _) _;unfold k5w;dsimp only;refine dZ (P:=fun y=>y.1=T∧y.2.2.1=T.length∧0≤y.2.2.2.1∧y.2.2.2.1≤T.length) ?_ ?_
 · refine dL ?I ?m ?h _ ?hv ?hn
   case I=>exact (fun v=>v.1=T∧v.2.2.1=T.length∧0≤v.2.2.2.1∧v.2.2.2.1≤v.2.2.2.2.1∧v.2.2.2.2.1≤T.length)
   case m=>exact (fun v=>(v.2.2.2.2.1-v.2.2.2.1).toNat)
   case hv=>exact ⟨rfl,rfl,by (try dsimp only);omega,by (try dsimp only);omega,by (try dsimp only);omega⟩
   case hn=>exact (by (try dsimp only);omega)
   rintro ⟨x0,x1,x2,x3,x4,u⟩ hI;dsimp only at hI;obtain ⟨rfl,rfl,h0,h1,h2⟩:=hI;unfold z7y;dsimp only;rw [k0e (by omega) (by omega) (by omega)];with_reducible repeat' (first|apply dP|apply dX<;>intro _)
   · refine dZ (b4q _ _ _ _ _ _ _) ?_
     rintro ⟨m,u⟩ -
     dsimp only;rw [qh (n:=(x3+x4)/2+1) (by omega)];with_reducible repeat' (first|apply dP|apply dX<;>intro _)
     · exact ⟨⟨rfl,rfl,by (try dsimp only);omega,by (try dsimp only);omega,by (try dsimp only);omega⟩,by (try dsimp only);omega⟩
     · exact ⟨⟨rfl,rfl,by (try dsimp only);omega,by (try dsimp only);omega,by (try dsimp only);omega⟩,by (try dsimp only);omega⟩
   · refine dO ?_;omega
   · exact ⟨rfl,rfl,by (try dsimp only);omega,by (try dsimp only);omega⟩
 · rintro ⟨x0,x1,x2,x3,u⟩ hI
   dsimp only at hI ⊢;obtain ⟨rfl,rfl,h0,h1⟩:=hI;with_reducible repeat' (first|apply dP|apply dX<;>intro _)
   · refine dZ (b4q _ _ _ _ _ _ _) ?_
     rintro ⟨m,u⟩ -
     exact dP ⟨by (try dsimp only);omega,fun _=>by (try dsimp only);omega⟩
   · refine dO ?_;omega
   · exact ⟨by (try dsimp only);omega,fun h=>by cases h⟩
theorem k9l (T:List R6) (A:List R4) (B:List R3) (r:Int) (hT:T.length≤1000000000000):Df (q9j (T,A,B,r,())) (fun y=>y.2.2.2.1=0∨∃e∈T,y.2.2.2.1=e.2.2.2.1):=by
 show Df (k5d v2w _) _;unfold k5d;dsimp only;refine dZ (d8h T r hT) ?_;rintro ⟨i,b,u⟩ h;dsimp only at h ⊢;with_reducible repeat' (first|apply dP|apply dX<;>intro _)
 · exact .inl rfl
 · rename_i h1
   have hlt:i.toNat<T.length:=by omega
   refine .inr ⟨T[i.toNat],List.getElem_mem hlt,?_⟩;dsimp only;rw [getD_lt hlt]
 · rename_i h1 h2
   have:=h.2 h1;refine dO ?_;omega
def TOk (T:List R6):Prop:=T.length≤1000000000000∧∀e∈T,0≤e.2.2.2.1∧e.2.2.2.1<8
theorem f1h (T:List R6) (A:List R4) (B:List R3) (r:Int) (hT:TOk T):Df (q7n (T,A,B,r,())) (fun y=>0≤y.1∧y.1<8):=by
 show Df (k4r q9j _) _;unfold k4r;dsimp only;refine dZ (k9l T A B r hT.1) ?_;rintro ⟨a,b,c,d,e,f,u⟩ h;dsimp only at h ⊢;refine dP ?_;rcases h with rfl|⟨e,he,rfl⟩
 · exact ⟨by decide,by decide⟩
 · exact hT.2 e he
theorem b4d (T:List R6) (A:List R4) (B:List R3) (r:Int) (hT:TOk T):Df (y5r (T,A,B,r,())) (fun _=>True):=by
 show Df (k4p q9j _) _;unfold k4p;dsimp only;exact dZ (k9l T A B r hT.1) fun _ _=>dP trivial
theorem d8s (T:List R6) (A:List R4) (B:List R3) (r:Int) (hT:TOk T):Df (y1o (T,A,B,r,())) (fun _=>True):=by
 show Df (k6l q9j _) _;unfold k6l;dsimp only;exact dZ (k9l T A B r hT.1) fun _ _=>dP trivial
theorem f2b (T:List R6) (A:List R4) (B:List R3) (r:Int) (hT:TOk T):Df (j9v (T,A,B,r,())) (fun _=>True):=by
 show Df (k6i q9j _) _;unfold k6i;dsimp only;exact dZ (k9l T A B r hT.1) fun _ _=>dP trivial
theorem d8l (a b c d e:Int):Df (y1m (a,b,c,d,e,())) (fun _=>True):=by
 show Df (k6c _) _;unfold k6c;dsimp only;with_reducible repeat' (first|apply dP|apply dX<;>intro _)
 all_goals trivial
theorem d8k (A:List R4) (r:Int) (hA:A.length≤1000000000000):Df (v2z (A,r,())) (fun y=>y.1<A.length):=by
 show Df (k6b y1m j7b _) _;unfold k6b;dsimp only;refine dZ (P:=Sum.elim (fun _=>True) (fun y=>y.1<A.length)) ?_ ?_
 · refine dL ?I ?m ?h _ ?hv ?hn
   case I=>exact (fun v=>v.1=A∧v.2.1=A.length∧0≤v.2.2.1∧v.2.2.1≤A.length)
   case m=>exact (fun v=>(A.length-v.2.2.1).toNat)
   case hv=>exact ⟨rfl,rfl,by (try dsimp only);omega,by (try dsimp only);omega⟩
   case hn=>exact (by (try dsimp only);omega)
   rintro ⟨x0,x1,x2,x3,u⟩ hI;dsimp only at hI;obtain ⟨rfl,rfl,h0,h1⟩:=hI;unfold z8b;dsimp only;with_reducible repeat' (first|apply dP|apply dX<;>intro _)
   · refine dZ (d8l _ _ _ _ _) ?_
     rintro ⟨m,m',u⟩ -
     dsimp only;rw [qh (n:=x2+1) (by omega)];with_reducible repeat' (first|apply dP|apply dX<;>intro _)
     · exact (by (try dsimp only);omega:x2<x0.length)
     · exact ⟨⟨rfl,rfl,by (try dsimp only);omega,by (try dsimp only);omega⟩,by (try dsimp only);omega⟩
   · refine dO ?_;omega
   · trivial
 · intro s hs
   refine dS hs ?_ ?_
   · rintro ⟨a,u⟩ -
     exact dP (by (try dsimp only);omega)
   · rintro ⟨a,b,u⟩ h
     exact dP h
theorem v7i (T:List R6) (A:List R4) (B:List R3) (r:Int) (hA:A.length≤1000000000000):Df (xq (T,A,B,r,())) (fun _=>True):=by
 show Df (k5m v2z _) _;unfold k5m;dsimp only;refine dZ (d8k A r hA) ?_;rintro ⟨i,b,u⟩ h;dsimp only at h ⊢;with_reducible repeat' (first|apply dP|apply dX<;>intro _)
 all_goals first|trivial|(refine dO ?_;omega)
theorem d7f (a b c d:Int):Df (y1i (a,b,c,d,())) (fun _=>True):=by
 show Df (k4w _) _;unfold k4w;dsimp only;with_reducible repeat' (first|apply dP|apply dX<;>intro _)
 all_goals trivial
theorem d7e (A:List R3) (r:Int) (hA:A.length≤1000000000000):Df (v2m (A,r,())) (fun y=>y.1<A.length):=by
 show Df (k4v y1i j6v _) _;unfold k4v;dsimp only;refine dZ (P:=Sum.elim (fun _=>True) (fun y=>y.1<A.length)) ?_ ?_
 · refine dL ?I ?m ?h _ ?hv ?hn
   case I=>exact (fun v=>v.1=A∧v.2.1=A.length∧0≤v.2.2.1∧v.2.2.1≤A.length)
   case m=>exact (fun v=>(A.length-v.2.2.1).toNat)
   case hv=>exact ⟨rfl,rfl,by (try dsimp only);omega,by (try dsimp only);omega⟩
   case hn=>exact (by (try dsimp only);omega)
   rintro ⟨x0,x1,x2,x3,u⟩ hI;dsimp only at hI;obtain ⟨rfl,rfl,h0,h1⟩:=hI;unfold z7n;dsimp only;with_reducible repeat' (first|apply dP|apply dX<;>intro _)
   · refine dZ (d7f _ _ _ _) ?_
     rintro ⟨m,m',u⟩ -
     dsimp only;rw [qh (n:=x2+1) (by omega)];with_reducible repeat' (first|apply dP|apply dX<;>intro _)
     · exact (by (try dsimp only);omega:x2<x0.length)
     · exact ⟨⟨rfl,rfl,by (try dsimp only);omega,by (try dsimp only);omega⟩,by (try dsimp only);omega⟩
   · refine dO ?_;omega
   · trivial
 · intro s hs
   refine dS hs ?_ ?_
   · rintro ⟨a,u⟩ -
     exact dP (by (try dsimp only);omega)
   · rintro ⟨a,b,u⟩ h
     exact dP h
theorem d6y (T:List R6) (A:List R4) (B:List R3) (r:Int) (hB:B.length≤1000000000000):Df (j3w (T,A,B,r,())) (fun _=>True):=by
 show Df (k4m v2m _) _;unfold k4m;dsimp only;refine dZ (d7e B r hB) ?_;rintro ⟨i,b,u⟩ h;dsimp only at h ⊢;with_reducible repeat' (first|apply dP|apply dX<;>intro _)
 all_goals first|trivial|(refine dO ?_;omega)
theorem b4e (T:List R6) (A:List R4) (B:List R3) (r:Int):Df (zz (T,A,B,r,())) (fun _=>True):=by
 unfold zz;dsimp only;with_reducible repeat' (first|apply dP|apply dX<;>intro _)
 · trivial
 · cases q2z r with
   | none=>exact dP trivial
   | some s=>exact dP trivial
theorem d6z (T:List R6) (A:List R4) (B:List R3) (r:Int):Df (z2v (T,A,B,r,())) (fun _=>True):=by
 show Df (x8g zz _) _;unfold x8g;dsimp only;with_reducible repeat' (first|apply dP|apply dX<;>intro _)
 all_goals first|trivial|exact dZ (b4e T A B r) fun _ _=>dP trivial
theorem d6x (T:List R6) (A:List R4) (B:List R3) (l:List Int) (hl:l.length≤1000000000000):Df (x7j (l,T,A,B,())) (fun y=>y.1.length=l.length):=by
 show Df (x8f z2v q9d _) _;unfold x8f;dsimp only;refine dZ (P:=fun y=>y.1.length=l.length) ?_ (fun _ h=>dP h);refine dL ?I ?m ?h _ ?hv ?hn
 case I=>exact (fun v=>v.2.2.2.1=l∧v.2.2.2.2.1=l.length∧0≤v.2.2.2.2.2.1∧v.2.2.2.2.2.1≤l.length∧v.2.2.2.2.2.2.1.length=v.2.2.2.2.2.1)
 case m=>exact (fun v=>(l.length-v.2.2.2.2.2.1).toNat)
 case hv=>exact ⟨rfl,rfl,by (try dsimp only);omega,by (try dsimp only);omega,rfl⟩
 case hn=>exact (by (try dsimp only);omega)
 rintro ⟨x0,x1,x2,x3,x4,x5,x6,u⟩ hI;dsimp only at hI;obtain ⟨rfl,rfl,h0,h1,h2⟩:=hI;unfold j7o;dsimp only;with_reducible repeat' (first|apply dP|apply dX<;>intro _)
 · refine dZ (d6z _ _ _ _) ?_
   rintro ⟨m,u⟩ -
   dsimp only;rw [qh (n:=x5+1) (by omega)];with_reducible repeat' (first|apply dP|apply dX<;>intro _)
   · exact ⟨⟨rfl,rfl,by (try dsimp only);omega,by (try dsimp only);omega,by simp only [jv];omega⟩,by (try dsimp only);omega⟩
   · refine dO ?_;simp only [List.length_cons,List.length_nil] at *;omega
 · refine dO ?_;omega
 · exact (by (try dsimp only);omega:x6.length=x3.length)
theorem f1g (T:List R6) (A:List R4) (B:List R3) (hB:B.length≤1000000000000) (l:List Int) (hl:l.length≤1000000000000):Df (j3v (l,T,A,B,())) (fun y=>y.1.length=l.length):=by
 show Df (j4b j3w q1n _) _;unfold j4b;dsimp only;refine dZ (P:=fun y=>y.1.length=l.length) ?_ (fun _ h=>dP h);refine dL ?I ?m ?h _ ?hv ?hn
 case I=>exact (fun v=>v.2.2.1=B∧v.2.2.2.1=l∧v.2.2.2.2.1=l.length∧0≤v.2.2.2.2.2.1∧v.2.2.2.2.2.1≤l.length∧v.2.2.2.2.2.2.1.length=v.2.2.2.2.2.1)
 case m=>exact (fun v=>(l.length-v.2.2.2.2.2.1).toNat)
 case hv=>exact ⟨rfl,rfl,rfl,by (try dsimp only);omega,by (try dsimp only);omega,rfl⟩
 case hn=>exact (by (try dsimp only);omega)
 rintro ⟨x0,x1,x2,x3,x4,x5,x6,u⟩ hI;dsimp only at hI;obtain ⟨rfl,rfl,rfl,h0,h1,h2⟩:=hI;unfold q5i;dsimp only;with_reducible repeat' (first|apply dP|apply dX<;>intro _)
 · refine dZ (d6y _ _ _ _ hB) ?_
   rintro ⟨m,u⟩ -
   dsimp only;rw [qh (n:=x5+1) (by omega)];with_reducible repeat' (first|apply dP|apply dX<;>intro _)
   · exact ⟨⟨rfl,rfl,rfl,by (try dsimp only);omega,by (try dsimp only);omega,by simp only [jv];omega⟩,by (try dsimp only);omega⟩
   · refine dO ?_;simp only [List.length_cons,List.length_nil] at *;omega
 · refine dO ?_;omega
 · exact (by (try dsimp only);omega:x6.length=x3.length)
theorem b4a (T:List R6) (A:List R4) (B:List R3) (l:List Int) (hl:l.length≤1000000000000):Df (x7i (T,A,B,l,())) (fun y=>y.1.length=l.length):=by
 show Df (v4x x7j _) _;unfold v4x;dsimp only;exact dZ (d6x T A B l hl) fun _ h=>dP h
theorem b3z (T:List R6) (A:List R4) (B:List R3) (hB:B.length≤1000000000000) (l:List Int) (hl:l.length≤1000000000000):Df (x7h (T,A,B,l,())) (fun y=>y.1.length=l.length):=by
 show Df (v4w j3v _) _;unfold v4w;dsimp only;exact dZ (f1g T A B hB l hl) fun _ h=>dP h
theorem v7m (a b c:Int):Df (yk (a,b,c,())) (fun _=>True):=by
 show Df (y1q _) _;unfold y1q;dsimp only;with_reducible repeat' (first|apply dP|apply dX<;>intro _)
 all_goals trivial
theorem d8n (a:Int):Df (km (a,())) (fun y=>y.1.length≤3):=by
 show Df (k6e _) _;unfold k6e;dsimp only;with_reducible repeat' (first|apply dP|apply dX<;>intro _)
 all_goals (dsimp only;simp)
theorem d8o (a b:List Int) (ha:a.length≤1000000) (hb:b.length≤1000000):Df (ke ([a,b],())) (fun y=>y.1.length=a.length+b.length):=by
 show Df (k6f z2y j7c j7d _) _;unfold k6f;dsimp only;refine dZ (P:=fun y=>y.1=[a,b]∧0≤y.2.1∧y.2.1≤2000000) ?_ ?_
 · refine dL ?I ?m ?h _ ?hv ?hn
   case I=>exact (fun v=>v.1=[a,b]∧v.2.2.1=[a,b]∧v.2.2.2.1=2∧((v.2.2.2.2.1=0∧v.2.1=0)∨(v.2.2.2.2.1=1∧v.2.1=a.length)∨(v.2.2.2.2.1=2∧v.2.1=a.length+b.length)))
   case m=>exact (fun v=>(2-v.2.2.2.2.1).toNat)
   case hv=>exact ⟨rfl,rfl,rfl,.inl ⟨rfl,rfl⟩⟩
   case hn=>exact (by (try dsimp only);omega)
   rintro ⟨x0,x1,x2,x3,x4,u⟩ hI;dsimp only at hI;obtain ⟨rfl,rfl,rfl,hI⟩:=hI;unfold z8c;dsimp only;rcases hI with ⟨rfl,rfl⟩|⟨rfl,rfl⟩|⟨rfl,rfl⟩
   · have e:([a,b]:List (List Int)).getD (0:Int).toNat []=a:=rfl
     rw [e,qh (n:=0+(a.length:Int)) (by omega),qh (n:=(0:Int)+1) (by omega)];with_reducible repeat' (first|apply dP|apply dX<;>intro _)
     all_goals first
      | exact ⟨⟨rfl,rfl,rfl,.inr (.inl ⟨rfl,by (try dsimp only);omega⟩)⟩,by (try dsimp only);omega⟩
      | (refine dO ?_;simp only [List.length_cons,List.length_nil] at *;omega)
      | (exfalso;omega)
   · have e:([a,b]:List (List Int)).getD (1:Int).toNat []=b:=rfl
     rw [e,qh (n:=(a.length:Int)+(b.length:Int)) (by omega),qh (n:=(1:Int)+1) (by omega)];with_reducible repeat' (first|apply dP|apply dX<;>intro _)
     all_goals first
      | exact ⟨⟨rfl,rfl,rfl,.inr (.inr ⟨rfl,rfl⟩)⟩,by (try dsimp only);omega⟩
      | (refine dO ?_;simp only [List.length_cons,List.length_nil] at *;omega)
      | (exfalso;omega)
   · with_reducible repeat' (first|apply dP|apply dX<;>intro _)
     all_goals first
      | exact ⟨rfl,by (try dsimp only);omega,by (try dsimp only);omega⟩
      | (refine dO ?_;simp only [List.length_cons,List.length_nil] at *;omega)
      | (exfalso;omega)
 · rintro ⟨x0,x1,u⟩ hI
   dsimp only at hI ⊢;obtain ⟨rfl,h0,h1⟩:=hI;refine dZ (P:=fun y=>y.1=[]) ?_ ?_
   · unfold z2y
     dsimp only;with_reducible repeat' (first|apply dP|apply dX<;>intro _)
     · rfl
     · refine dO ?_;omega
   rintro ⟨x2,u⟩ hx;dsimp only at hx ⊢;subst hx;refine dZ (P:=fun y=>y.1.length=a.length+b.length) ?_ (fun _ h=>dP h);refine dL ?I ?m ?h _ ?hv ?hn
   case I=>exact (fun v=>v.1=[a,b]∧v.2.1=2∧((v.2.2.1=0∧v.2.2.2.1.length=0)∨(v.2.2.1=1∧v.2.2.2.1.length=a.length)∨(v.2.2.1=2∧v.2.2.2.1.length=a.length+b.length)))
   case m=>exact (fun v=>(2-v.2.2.1).toNat)
   case hv=>exact ⟨rfl,rfl,.inl ⟨rfl,rfl⟩⟩
   case hn=>exact (by (try dsimp only);omega)
   rintro ⟨x0,x1,x2,x3,u⟩ hI;dsimp only at hI;obtain ⟨rfl,rfl,hI⟩:=hI;unfold z8d;dsimp only;rcases hI with ⟨rfl,hx⟩|⟨rfl,hx⟩|⟨rfl,hx⟩
   · have e:([a,b]:List (List Int)).getD (0:Int).toNat []=a:=rfl
     rw [e,qh (n:=(0:Int)+1) (by omega)];with_reducible repeat' (first|apply dP|apply dX<;>intro _)
     all_goals first
      | exact ⟨⟨rfl,rfl,.inr (.inl ⟨rfl,by simp only [List.length_append];omega⟩)⟩,by (try dsimp only);omega⟩
      | (refine dO ?_;simp only [List.length_cons,List.length_nil] at *;omega)
      | (exfalso;omega)
   · have e:([a,b]:List (List Int)).getD (1:Int).toNat []=b:=rfl
     rw [e,qh (n:=(1:Int)+1) (by omega)];with_reducible repeat' (first|apply dP|apply dX<;>intro _)
     all_goals first
      | exact ⟨⟨rfl,rfl,.inr (.inr ⟨rfl,by simp only [List.length_append];omega⟩)⟩,by (try dsimp only);omega⟩
      | (refine dO ?_;simp only [List.length_cons,List.length_nil] at *;omega)
      | (exfalso;omega)
   · with_reducible repeat' (first|apply dP|apply dX<;>intro _)
     all_goals first
      | exact hx
      | (refine dO ?_;simp only [List.length_cons,List.length_nil] at *;omega)
      | (exfalso;omega)
def nxt (r:Int):Option (Int×Int):=bif decide (65281≤r)&&decide (r≤65374) then some (r-65248,0) else (q2z r).map fun s=>(s.2.1,s.2.2.1)
def dep:Nat→Int→Bool
 | 0,_=>false
 | n+1,r=>match nxt r with
  | none=>true
  | some (a,b)=>dep n a&&(b==0||dep n b)
theorem f2k:((List.range 94).all fun n=>dep 4 ((33+n:Nat):Int))=true:=by kernel_rfl
theorem f2l:(qv.all fun s=>dep 4 s.2.1&&(s.2.2.1==0||dep 4 s.2.2.1))=true:=by kernel_rfl
theorem k9q (r:Int):dep 5 r=true:=by
 unfold dep;cases h:nxt r with
 | none=>rfl
 | some p =>
  obtain ⟨a,b⟩:=p;dsimp only;unfold nxt at h;by_cases hw:65281≤r∧r≤65374
  · rw [decide_eq_true hw.1,decide_eq_true hw.2] at h
    simp only [Bool.and_self,cond_true,Option.some.injEq,Prod.mk.injEq] at h;obtain ⟨rfl,rfl⟩:=h;have:=List.all_eq_true.1 f2k (r-65281).toNat (List.mem_range.2 (by omega))
    rw [show (((33+(r-65281).toNat:Nat)):Int)=r-65248 by omega] at this;rw [this];rfl
  · have e:(decide (65281≤r)&&decide (r≤65374))=false:=by simp;omega
    rw [e] at h;simp only [cond_false,Option.map_eq_some_iff] at h;obtain ⟨s,hs,he⟩:=h;have hm:s∈qv:=List.mem_of_find?_eq_some hs;have:=List.all_eq_true.1 f2l s hm;cases he;exact this
theorem b3n (T:List R6) (A:List R4) (B:List R3) (r:Int):Df (zz (T,A,B,r,())) (fun v=>v.2.2.2.2.2.1=false∨nxt r=some (v.2.1,v.2.2.1)):=by
 unfold zz nxt;dsimp only;with_reducible repeat' (first|apply dP|apply dX<;>intro _)
 · rename_i h
   refine .inr ?_;rw [decide_eq_true h.1,decide_eq_true h.2];rfl
 · rename_i h
   have e:(decide (65281≤r)&&decide (r≤65374))=false:=by simp;omega
   rw [e];cases q2z r with
   | none=>exact dP (.inl rfl)
   | some s=>exact dP (.inr rfl)
theorem v7j (G:q7w) (r:Int) (sf b:Bool) (T:List R6) (A:List R4) (B:List R3) (v0 a c:Int) (s o:Bool) (K:Nat) (hK:1≤K)
 (ha:b=false→c=0→Df (G (T,A,B,a,sf,())) (fun y=>y.1.length≤K)) :
 Df (yt zz G yk km ke (r,sf,b,T,A,B,v0,a,c,s,o,())) (Sum.elim (fun y=>y.1.length≤K) (fun y=>y=(sf,T,A,B,v0,a,c,s,o,())∧b=false∧c≠0)):=by
 unfold yt;dsimp only;with_reducible repeat' (first|apply dP|apply dX<;>intro _)
 · exact (by simpa using hK:([r]:List Int).length≤K)
 · rename_i h1 h2
   exact dZ (ha h1 h2) fun y hy=>dP hy
 · rename_i h1 h2
   exact ⟨rfl,h1,h2⟩
theorem g4p (T:List R6) (A:List R4) (B:List R3):∀(n m:Nat) (r:Int) (sf:Bool),dep n r=true→n≤9 →
 Df (q1x (fun G=>j4c zz G yk km ke (yt zz G yk km ke)) (n+m) (T,A,B,r,sf,())) (fun y=>y.1.length≤3*2^n)
 | 0,m,r,sf,h,hn=>by cases h
 | n+1,m,r,sf,h,hn=>by
  rw [show n+1+m=(n+m)+1 by omega];show Df (j4c zz (q1x (fun G=>j4c zz G yk km ke (yt zz G yk km ke)) (n+m)) yk km ke (yt zz (q1x (fun G=>j4c zz G yk km ke (yt zz G yk km ke)) (n+m)) yk km ke) (T,A,B,r,sf,())) _;have ih:=g4p T A B n m;generalize q1x (fun G=>j4c zz G yk km ke (yt zz G yk km ke)) (n+m)=G at ih ⊢;have hp:3*2^n≤3*2^9:=Nat.mul_le_mul_left 3 (Nat.pow_le_pow_right (by omega) (by omega));have hp1:1≤2^n:=Nat.one_le_two_pow;have hp2:3*2^(n+1)=3*2^n+3*2^n:=by rw [Nat.pow_succ];omega
  generalize 3*2^n=K at ih hp hp2;have hK:3≤K∨True := .inr trivial;rw [hp2];have hK3:3≤K+K:=by
   have:3*2^1≤3*2^(n+1):=Nat.mul_le_mul_left 3 (Nat.pow_le_pow_right (by omega) (by omega));omega
  have ih':∀(r:Int) (sf:Bool),dep n r=true→Df (G (T,A,B,r,sf,())) (fun y=>y.1.length≤K):=fun r sf h=>ih r sf h (by omega);clear ih;unfold j4c;dsimp only;refine dZ (b3n T A B r) ?_;rintro ⟨v0,a,c,s,o,is,u⟩ hv;dsimp only at hv ⊢;refine dZ (v7m _ _ _) ?_;rintro ⟨b,u⟩ -
  dsimp only;have two:is=true→c≠0→∀sf,Df ((G (T,A,B,a,sf,())).bind fun val_2=>(G (T,A,B,c,sf,())).bind fun val=>(ke ([val_2.fst,val.fst],())).bind fun val=>some (val.fst,())) (fun y=>y.1.length≤K+K):=by
   intro his hc sf;rcases hv with rfl|hv
   · cases his
   · unfold dep at h
     rw [hv] at h;simp only [Bool.and_eq_true,Bool.or_eq_true,beq_iff_eq] at h;refine dZ (ih' a sf h.1) ?_;rintro ⟨p,u⟩ hp';refine dZ (ih' c sf (h.2.resolve_left hc)) ?_;rintro ⟨q,u⟩ hq;dsimp only at hp' hq ⊢;refine dZ (d8o p q (by omega) (by omega)) ?_;rintro ⟨z,u⟩ hz;exact dP (by dsimp only at hz ⊢;omega)
  have one:is=true→Df (G (T,A,B,a,sf,())) (fun y=>y.1.length≤K+K):=by
   intro his;rcases hv with rfl|hv
   · cases his
   · unfold dep at h
     rw [hv] at h;simp only [Bool.and_eq_true] at h;exact (ih' a sf h.1).mono fun _ h=>by omega
  with_reducible repeat' (first|apply dP|apply dX<;>intro _)
  · refine dZ (d8n _) ?_
    rintro ⟨l,u⟩ hl;exact dP (by dsimp only at hl ⊢;omega)
  · refine dZ (v7j G r sf true T A B v0 a c s o (K+K) (by omega) (fun h=>by cases h)) ?_
    intro z hz;refine dS hz (fun y hy=>dP hy) ?_;rintro y ⟨-,h,-⟩;cases h
  · rename_i h1 h2 h3
    refine dZ (v7j G r sf (!sf) T A B v0 a c s o (K+K) (by omega) (fun _ _=>one h2)) ?_;intro z hz;refine dS hz (fun y hy=>dP hy) ?_;rintro y ⟨rfl,-,hc⟩;exact two h2 hc sf
  · rename_i h1 h2 h3
    refine dZ (v7j G r sf false T A B v0 a c s o (K+K) (by omega) (fun _ _=>one h2)) ?_;intro z hz;refine dS hz (fun y hy=>dP hy) ?_;rintro y ⟨rfl,-,hc⟩;exact two h2 hc sf
theorem d7z (T:List R6) (A:List R4) (B:List R3) (r:Int) (sf:Bool):Df (z2x (T,A,B,r,sf,())) (fun y=>y.1.length≤96):=by
 obtain ⟨m,hm⟩:∃m,je=5+m:=⟨je-5,by unfold je;omega⟩
 show Df (q1x (fun G=>j4c zz G yk km ke (yt zz G yk km ke)) je _) _;rw [hm];exact g4p T A B 5 m r sf (k9q r) (by omega)
theorem b4i (T:List R6) (A:List R4) (B:List R3) (l:List Int) (sf:Bool) (hl:l.length≤100000000000):Df (v2n (T,A,B,l,sf,())) (fun y=>y.1.length≤96*l.length):=by
 show Df (x8h z2x q9h _) _;unfold x8h;dsimp only;refine dZ (P:=fun y=>y.1.length≤96*l.length) ?_ (fun _ h=>dP h);refine dL ?I ?m ?h _ ?hv ?hn
 case I=>exact (fun v=>v.2.1=l∧v.2.2.1=l.length∧0≤v.2.2.2.1∧v.2.2.2.1≤l.length∧v.2.2.2.2.2.2.2.1.length≤96*v.2.2.2.1)
 case m=>exact (fun v=>(l.length-v.2.2.2.1).toNat)
 case hv=>exact ⟨rfl,rfl,by (try dsimp only);omega,by (try dsimp only);omega,by simp⟩
 case hn=>exact (by (try dsimp only);omega)
 rintro ⟨x0,x1,x2,x3,x4,x5,x6,x7,u⟩ hI;dsimp only at hI;obtain ⟨rfl,rfl,h0,h1,h2⟩:=hI;unfold j7u;dsimp only;with_reducible repeat' (first|apply dP|apply dX<;>intro _)
 · refine dZ (d7z _ _ _ _ _) ?_
   rintro ⟨z,u⟩ hz;dsimp only at hz ⊢;rw [qh (n:=x3+1) (by omega)];with_reducible repeat' (first|apply dP|apply dX<;>intro _)
   · exact ⟨⟨rfl,rfl,by (try dsimp only);omega,by (try dsimp only);omega,by simp only [List.length_append];omega⟩,by (try dsimp only);omega⟩
   · refine dO ?_;omega
 · refine dO ?_;omega
 · exact (by (try dsimp only);omega:x7.length≤96*x1.length)
theorem d8p (T:List R6) (A:List R4) (B:List R3) (a b:Int):Df (q3p (T,A,B,a,b,())) (fun _=>True):=by
 unfold q3p;dsimp only;cases z2l a b with
 | none=>exact dP trivial
 | some s=>exact dP trivial
theorem f1u (a b:Int) (f:Bool) (T:List R6) (A:List R4) (B:List R3):Df (wb (a,b,f,T,A,B,())) (fun _=>True):=by
 show Df (q5k yk q3p _) _;unfold q5k;dsimp only;with_reducible repeat' (first|apply dP|apply dX<;>intro _)
 · trivial
 · refine dZ (v7m _ _ _) ?_
   rintro ⟨z,u⟩ -
   dsimp only;with_reducible repeat' (first|apply dP|apply dX<;>intro _)
   · refine dZ (v7m _ _ _) ?_
     rintro ⟨z,u⟩ -
     dsimp only;with_reducible repeat' (first|apply dP|apply dX<;>intro _)
     all_goals trivial
   all_goals trivial
theorem d8a (T:List R6) (A:List R4) (B:List R3) (a b:Int):Df (q9q (T,A,B,a,b,())) (fun _=>True):=by
 show Df (x8k yk q3p wb _) _;unfold x8k;dsimp only;have zg:∀f,Df ((wb (a,b,f,T,A,B,())).bind fun val=>Sum.elim (fun val=>some (val.fst,val.snd.fst,())) (fun val=>(q3p (val.snd.snd.fst,val.snd.snd.snd.fst,val.snd.snd.snd.snd.fst,val.fst,val.snd.fst,())).bind fun val=>some (val.fst,val.snd.fst,())) val) (fun _=>True):=by
  intro f;refine dZ (f1u a b f T A B) ?_;intro z hz;cases z with
  | inl y=>exact dP trivial
  | inr y=>exact dZ (d8p _ _ _ _ _) fun _ _=>dP trivial
 refine dZ (v7m _ _ _) ?_;rintro ⟨z,u⟩ -
 dsimp only;with_reducible repeat' (first|apply dP|apply dX<;>intro _)
 · refine dZ (v7m _ _ _) ?_
   rintro ⟨z,u⟩ -
   exact zg _
 · exact zg _
theorem f1o (x0 x1 x2 x3:Int) (x4:List Int) (x5 x6:Int) (x7:Bool) (x8:List R6) (x9:List R4) (x10:List R3) (x11:List Int) (h:x7=true→0≤x0∧x0<x11.length) :
 Df (q2j (x0,x1,x2,x3,x4,x5,x6,x7,x8,x9,x10,x11,())) (Sum.elim (fun y=>∃l',l'.length=x11.length∧y=(x0,x1,x4,x5,x6,x8,x9,x10,l',())) (fun y=>y=(x0,x1,x2,x3,x4,x5,x6,x8,x9,x10,x11,()))):=by
 show Df (q5j xq q9q _) _;unfold q5j;dsimp only;with_reducible repeat' (first|apply dP|apply dX<;>intro _)
 · refine dZ (d8a _ _ _ _ _) ?_
   rintro ⟨a,b,u⟩ -
   dsimp only;with_reducible repeat' (first|apply dP|apply dX<;>intro _)
   · exact ⟨_,List.length_set,rfl⟩
   · rename_i h1 h2 h3 h4
     exact absurd h2 h4
   · exact rfl
 · rename_i h1 h2
   exact dO (h2 (h h1))
 · exact rfl
theorem b4j (T:List R6) (A:List R4) (B:List R3) (l:List Int) (hl:l.length≤10000000000000) (hA:A.length≤1000000000000):Df (v2o (T,A,B,l,())) (fun y=>y.1.length≤l.length):=by
 show Df (x8i xq q9q q9i _) _;unfold x8i;dsimp only;refine dZ (P:=fun y=>y.1.length≤l.length) ?_ (fun _ h=>dP h);refine dL ?I ?m ?h _ ?hv ?hn
 case I=>exact (fun v=>v.2.2.1=l∧v.2.2.2.1=l.length∧0≤v.2.2.2.2.1∧v.2.2.2.2.1≤l.length∧v.2.2.2.2.2.2.1=A∧v.2.2.2.2.2.2.2.2.1.length≤v.2.2.2.2.1∧v.1<v.2.2.2.2.2.2.2.2.1.length)
 case m=>exact (fun v=>(l.length-v.2.2.2.2.1).toNat)
 case hv=>exact ⟨rfl,rfl,by (try dsimp only);omega,by (try dsimp only);omega,rfl,by simp,by simp⟩
 case hn=>exact (by (try dsimp only);omega)
 rintro ⟨x0,x1,x2,x3,x4,x5,x6,x7,x8,u⟩ hI;dsimp only at hI;obtain ⟨rfl,rfl,h0,h1,rfl,h2,h3⟩:=hI;have zg:∀(cl:Int) (f:Bool),(f=true→0≤x0∧x0<x8.length)→x4<x2.length→Df ((q2j (x0,x1,x2.getD x4.toNat 0,cl,x2,(x2.length:Int),x4,f,x5,x6,x7,x8,())).bind fun val =>
  Sum.elim (fun val=>some (Sum.inl (val.fst,val.snd.fst,val.snd.snd.fst,val.snd.snd.snd.fst,IntKind.i64.wrap (val.snd.snd.snd.snd.fst+1),val.snd.snd.snd.snd.snd.fst,val.snd.snd.snd.snd.snd.snd.fst,val.snd.snd.snd.snd.snd.snd.snd.fst,val.snd.snd.snd.snd.snd.snd.snd.snd.fst,())))
   (fun val=>bif decide (List.length val.snd.snd.snd.snd.snd.snd.snd.snd.snd.snd.fst+[val.snd.snd.fst].length≤140737488355328/4) then
    bif val.snd.snd.snd.fst==0 then some (Sum.inl (IntKind.i64.wrap ((↑(val.snd.snd.snd.snd.snd.snd.snd.snd.snd.snd.fst++[val.snd.snd.fst]).length:Int)-1),0,val.snd.snd.snd.snd.fst,val.snd.snd.snd.snd.snd.fst,IntKind.i64.wrap (val.snd.snd.snd.snd.snd.snd.fst+1),val.snd.snd.snd.snd.snd.snd.snd.fst,val.snd.snd.snd.snd.snd.snd.snd.snd.fst,val.snd.snd.snd.snd.snd.snd.snd.snd.snd.fst,val.snd.snd.snd.snd.snd.snd.snd.snd.snd.snd.fst++[val.snd.snd.fst],()))
    else some (Sum.inl (val.fst,if val.snd.snd.snd.fst>val.snd.fst then val.snd.snd.snd.fst else val.snd.fst,val.snd.snd.snd.snd.fst,val.snd.snd.snd.snd.snd.fst,IntKind.i64.wrap (val.snd.snd.snd.snd.snd.snd.fst+1),val.snd.snd.snd.snd.snd.snd.snd.fst,val.snd.snd.snd.snd.snd.snd.snd.snd.fst,val.snd.snd.snd.snd.snd.snd.snd.snd.snd.fst,val.snd.snd.snd.snd.snd.snd.snd.snd.snd.snd.fst++[val.snd.snd.fst],()))
    else none) val)
  (Sum.elim (fun v':Int×Int×List Int×Int×Int×List R6×List R4×List R3×List Int×Unit=>(v'.2.2.1=x2∧v'.2.2.2.1=(x2.length:Int)∧0≤v'.2.2.2.2.1∧v'.2.2.2.2.1≤x2.length∧v'.2.2.2.2.2.2.1=x6∧v'.2.2.2.2.2.2.2.2.1.length≤v'.2.2.2.2.1∧v'.1<v'.2.2.2.2.2.2.2.2.1.length)∧(x2.length-v'.2.2.2.2.1).toNat<(x2.length-x4).toNat) (fun y:List Int×Unit=>y.1.length≤x2.length)):=by
  intro cl f hf hlt;refine dZ (f1o _ _ _ _ _ _ _ _ _ _ _ _ hf) ?_;intro z hz;refine dS hz ?_ ?_
  · rintro y ⟨l',hl',rfl⟩
    dsimp only;rw [qh (n:=x4+1) (by omega)];exact dP ⟨⟨rfl,rfl,by (try dsimp only);omega,by (try dsimp only);omega,rfl,by (try dsimp only);omega,by (try dsimp only);omega⟩,by (try dsimp only);omega⟩
  · rintro y rfl
    dsimp only;rw [qh (n:=x4+1) (by omega),qh (n:=((x8++[x2.getD x4.toNat 0]).length:Int)-1) (by simp only [jv];omega)];with_reducible repeat' (first|apply dP|apply dX<;>intro _)
    · exact ⟨⟨rfl,rfl,by (try dsimp only);omega,by (try dsimp only);omega,rfl,by simp only [jv];omega,by simp only [jv];omega⟩,by (try dsimp only);omega⟩
    · exact ⟨⟨rfl,rfl,by (try dsimp only);omega,by (try dsimp only);omega,rfl,by simp only [jv];omega,by simp only [jv];omega⟩,by (try dsimp only);omega⟩
    · refine dO ?_;simp only [List.length_cons,List.length_nil] at *;omega
 unfold j7v;dsimp only;with_reducible repeat' (first|apply dP|apply dX<;>intro _)
 · rename_i h4 h5
   refine dZ (v7i _ _ _ _ hA) ?_;rintro ⟨cl,u⟩ -
   dsimp only;with_reducible repeat' (first|apply dP|apply dX<;>intro _)
   · exact zg _ _ (fun _=>by omega) (by omega)
   · exact zg _ _ (fun _=>by omega) (by omega)
   · exact zg _ _ (fun h=>by cases h) (by omega)
 · refine dO ?_;omega
 · exact (by (try dsimp only);omega:x8.length≤x2.length)
theorem f1x (a b:Int):Df (q3o (a,b,())) (fun y=>1≤y.1∧y.1≤26):=by
 show Df (k5y _) _;unfold k5y;dsimp only;refine dP ?_;dsimp only;generalize IntKind.i64.wrap (a-b)=n;split<;>split<;>omega
theorem f1y (a:Int) (b:Bool):Df (q9r (a,b,())) (fun _=>True):=by
 show Df (j8a _) _;unfold j8a;dsimp only;with_reducible repeat' (first|apply dP|apply dX<;>intro _)
 all_goals trivial
theorem k9n (a:Int):Df (z6r (a,())) (fun _=>True):=by
 show Df (k5z q9r _) _;unfold k5z;dsimp only;with_reducible repeat' (first|apply dP|apply dX<;>intro _)
 all_goals (refine dZ (f1y _ _) ?_;intro z hz;cases z<;>exact dP trivial)
theorem f1p (n b k:Int) (out:List UInt8) (j:Nat) (h0:0≤n) (h1:n<10^j) (hb:out.length+j≤100000000000000) (hn:n≤100000000000000) :
 Df (q4y (n,b,k,out,())) (fun y=>y.1.length≤out.length+j+1):=by
 refine dL ?I ?m ?h _ ?hv ?hn
 case I=>exact (fun v=>∃j':Nat,0≤v.1∧v.1<10^j'∧v.1≤n∧v.2.2.2.1.length+j'≤out.length+j)
 case m=>exact (fun v=>v.1.toNat)
 case hv=>exact ⟨j,h0,h1,Int.le_refl _,Nat.le_refl _⟩
 case hn=>exact (by (try dsimp only);omega)
 rintro ⟨x0,x1,x2,x3,u⟩ hI;dsimp only at hI;obtain ⟨j',i0,i1,i2,i3⟩:=hI;unfold j7w;dsimp only;refine dZ (f1x _ _) ?_;rintro ⟨t,u⟩ ht;dsimp only at ht ⊢;with_reducible repeat' (first|apply dP|apply dX<;>intro _)
 · refine dZ (k9n _) ?_
   rintro ⟨d,d',u⟩ -
   dsimp only;with_reducible repeat' (first|apply dP|apply dX<;>intro _)
   · exact (by simp only [jv];omega:(x3++[_]).length≤out.length+j+1)
   · refine dO ?_;simp only [List.length_cons,List.length_nil] at *;omega
 · rename_i hge hne
   refine dZ (k9n _) ?_;rintro ⟨d,d',u⟩ -
   dsimp only;rw [qh (n:=36-t) (by omega)] at hne ⊢;rw [qh (n:=x0-t) (by omega),Int.tdiv_eq_ediv_of_nonneg (by omega)];have q0:0≤(x0-t)/(36-t):=Int.ediv_nonneg (by omega) (by omega);have q1:(x0-t)/(36-t)*(36-t)≤x0-t:=Int.ediv_mul_le _ (by omega);have q2:(x0-t)/(36-t)*10≤(x0-t)/(36-t)*(36-t):=Int.mul_le_mul_of_nonneg_left (by omega) q0;generalize (x0-t)/(36-t)=q at q0 q1 q2 ⊢;rw [qh (n:=q) (by omega)];with_reducible repeat' (first|apply dP|apply dX<;>intro _)
   · obtain ⟨i,rfl⟩:∃i,j'=i+1:=by
      cases j' with
      | zero=>simp at i1;omega
      | succ i=>exact ⟨i,rfl⟩
     rw [Int.pow_succ] at i1;generalize hP:(10:Int)^i=P at i1;refine ⟨⟨i,q0,?_,?_,?_⟩,?_⟩
     · show q<10^i
       rw [hP];omega
     · dsimp only;omega
     · simp only [jv];omega
     · dsimp only;omega
   · rename_i hz
     exact absurd hz hne
   · refine dO ?_;simp only [List.length_cons,List.length_nil] at *;omega
 · rename_i hge hne
   rw [qh (n:=36-t) (by omega)] at hne;refine dO ?_;omega
theorem d7j (n b:Int) (out:List UInt8) (h0:0≤n) (h1:n<10^13) (hb:out.length≤90000000000000) :
 Df (q7p (n,b,out,())) (fun y=>y.1.length≤out.length+14):=by
 show Df (k5f q3o z6r q4y _) _;unfold k5f;dsimp only;refine dZ (f1x _ _) ?_;rintro ⟨t,u⟩ ht;dsimp only at ht ⊢;have h13:(10:Int)^13=10000000000000:=rfl;have h12:(10:Int)^12=1000000000000:=rfl;rw [h13] at h1;with_reducible repeat' (first|apply dP|apply dX<;>intro _)
 · refine dZ (k9n _) ?_
   rintro ⟨d,d',u⟩ -
   dsimp only;with_reducible repeat' (first|apply dP|apply dX<;>intro _)
   · exact (by simp only [jv];omega:(out++[_]).length≤out.length+14)
   · refine dO ?_;simp only [List.length_cons,List.length_nil] at *;omega
 · rename_i hge hne
   refine dZ (k9n _) ?_;rintro ⟨d,d',u⟩ -
   dsimp only;rw [qh (n:=36-t) (by omega)] at hne ⊢;rw [qh (n:=n-t) (by omega),Int.tdiv_eq_ediv_of_nonneg (by omega)];have q0:0≤(n-t)/(36-t):=Int.ediv_nonneg (by omega) (by omega);have q1:(n-t)/(36-t)*(36-t)≤n-t:=Int.ediv_mul_le _ (by omega);have q2:(n-t)/(36-t)*10≤(n-t)/(36-t)*(36-t):=Int.mul_le_mul_of_nonneg_left (by omega) q0;generalize (n-t)/(36-t)=q at q0 q1 q2 ⊢;rw [qh (n:=q) (by omega)];with_reducible repeat' (first|apply dP|apply dX<;>intro _)
   · refine dZ (f1p q b _ (out++[UInt8.ofNat (Int.toNat d)]) 12 q0 (by rw [h12];omega) (by simp only [jv];omega) (by omega)) ?_
     rintro ⟨y,u⟩ hy;simp only [jv] at hy;exact dP (by (try dsimp only);omega)
   · rename_i hz
     exact absurd hz hne
   · refine dO ?_;simp only [List.length_cons,List.length_nil] at *;omega
 · rename_i hge hne
   rw [qh (n:=36-t) (by omega)] at hne;refine dO ?_;omega
theorem f1q (a b:Int) (h0:0≤a) (h1:a≤100000000000000000):Df (q9l (a,b,())) (fun y=>0≤y.1∧y.1≤455):=by
 refine dL ?I ?m ?h _ ?hv ?hn
 case I=>exact (fun v=>0≤v.1∧v.1≤100000000000000000)
 case m=>exact (fun v=>v.1.toNat)
 case hv=>exact ⟨h0,h1⟩
 case hn=>exact (by (try dsimp only);omega)
 rintro ⟨x0,x1,u⟩ hI;dsimp only at hI;unfold z7r;dsimp only;with_reducible repeat' (first|apply dP|apply dX<;>intro _)
 · rw [Int.tdiv_eq_ediv_of_nonneg (by omega),qh (n:=x0/35) (by omega)]
   exact ⟨⟨by (try dsimp only);omega,by (try dsimp only);omega⟩,by (try dsimp only);omega⟩
 · exact ⟨by (try dsimp only);omega,by (try dsimp only);omega⟩
theorem v7h (a c:Int) (h0:0≤a) (h1:a≤10000000000000000):Df (q9k (a,c,())) (fun _=>True):=by
 show Df (j7x q9l _) _;unfold j7x;dsimp only;have hm:1≤(if c>1 then c else 1):=by split<;>omega
 generalize (if c>1 then c else 1)=m at hm;have q0:0≤a/m:=Int.ediv_nonneg h0 (by omega);have q1:a/m≤a:=Int.ediv_le_self _ h0;rw [Int.tdiv_eq_ediv_of_nonneg h0,qh (n:=a/m) (by omega),qh (n:=a+a/m) (by omega)];with_reducible repeat' (first|apply dP|apply dX<;>intro _)
 · refine dZ (f1q _ _ (by omega) (by omega)) ?_
   rintro ⟨x,y,u⟩ h;dsimp only at h ⊢;rw [qh (n:=x+38) (by omega)];with_reducible repeat' (first|apply dP|apply dX<;>intro _)
   · trivial
   · refine dO ?_;omega
 · refine dO ?_;omega
theorem b4m (a c:Int) (f:Bool) (h0:0≤a) (h1:a≤10000000000000000):Df (q0q (a,c,f,())) (fun _=>True):=by
 show Df (k5g q9k _) _;unfold k5g;dsimp only;rw [Int.tdiv_eq_ediv_of_nonneg h0,Int.tdiv_eq_ediv_of_nonneg h0,qh (n:=a/700) (by omega),qh (n:=a/2) (by omega)];with_reducible repeat' (first|apply dP|apply dX<;>intro _)
 · exact dZ (v7h _ _ (by omega) (by omega)) fun _ _=>dP trivial
 · exact dZ (v7h _ _ (by omega) (by omega)) fun _ _=>dP trivial
def cnt (n:Int) (l:List Int):Nat:=l.countP fun r=>decide (r<n)
def ceq (n:Int) (l:List Int):Nat:=l.countP fun r=>decide (r=n)
theorem z1o (n:Int) (l:List Int):cnt n l≤l.length:=List.countP_le_length
theorem y3d (n:Int):∀l:List Int,cnt (n+1) l=cnt n l+ceq n l
 | []=>rfl
 | x::l=>by
  have ih:=y3d n l;unfold cnt ceq at *
  simp only [List.countP_cons,decide_eq_true_eq];split<;>split<;>split<;>omega
theorem y3c {n m:Int} (h:n≤m):∀{l:List Int},(∀r∈l,n≤r→m≤r)→cnt m l=cnt n l
 | [],_=>rfl
 | x::l,hl=>by
  have ih:=y3c (l:=l) h fun r hr=>hl r (List.mem_cons_of_mem _ hr);have hx:=hl x List.mem_cons_self;unfold cnt at *
  simp only [List.countP_cons,decide_eq_true_eq];split<;>split<;>omega
theorem x5d {n:Int}:∀{l:List Int},(∀r∈l,r<n)→cnt n l=l.length
 | [],_=>rfl
 | x::l,hl=>by
  have ih:=x5d (l:=l) fun r hr=>hl r (List.mem_cons_of_mem _ hr);have hx:=hl x List.mem_cons_self;unfold cnt at *
  simp only [List.countP_cons,List.length_cons,decide_eq_true_eq,hx,if_true];omega
theorem x5c {n:Int}:∀{l:List Int},n∈l→1≤ceq n l
 | x::l,h=>by
  unfold ceq;simp only [List.countP_cons,decide_eq_true_eq];rcases List.mem_cons.1 h with rfl|h
  · simp
  · have:=x5c h
    unfold ceq at this;omega
theorem z1m {n:Int} {l:List Int} {i:Nat} (h:i<l.length):ceq n (l.take (i+1))=ceq n (l.take i)+if l[i]=n then 1 else 0:=by
 unfold ceq;rw [qg h,List.countP_append];simp [List.countP_cons]
theorem v6z {n:Int} {l:List Int} {i:Nat} (h:i<l.length):cnt n (l.take (i+1))=cnt n (l.take i)+if l[i]<n then 1 else 0:=by
 unfold cnt;rw [qg h,List.countP_append];simp [List.countP_cons]
theorem y3b (n:Int) (l:List Int) (i:Nat):ceq n (l.take i)≤ceq n l:=by
 unfold ceq;exact (List.take_sublist i l).countP_le
theorem d7i (l:List Int) (n:Int) (hn:0≤n) (hl:l.length≤1000000000000):Df (q7o (l,n,())) (fun y=>(y.1<0∧∀r∈l,r<n)∨(y.1∈l∧n≤y.1∧∀r∈l,n≤r→y.1≤r)):=by
 show Df (k5e j6w _) _;unfold k5e;dsimp only;refine dZ (P:=fun y=>(y.1<0∧∀r∈l,r<n)∨(y.1∈l∧n≤y.1∧∀r∈l,n≤r→y.1≤r)) ?_ (fun _ h=>dP h);refine dL ?I ?m ?h _ ?hv ?hn
 case I=>exact (fun v=>v.1=n∧v.2.2.1=l∧v.2.2.2.1=l.length∧0≤v.2.2.2.2.1∧v.2.2.2.2.1≤l.length∧((v.2.1<0∧∀r∈l.take v.2.2.2.2.1.toNat,r<n)∨(v.2.1∈l∧n≤v.2.1∧∀r∈l.take v.2.2.2.2.1.toNat,n≤r→v.2.1≤r)))
 case m=>exact (fun v=>(l.length-v.2.2.2.2.1).toNat)
 case hv=>exact ⟨rfl,rfl,rfl,by (try dsimp only);omega,by (try dsimp only);omega,.inl ⟨by (try dsimp only);omega,by simp⟩⟩
 case hn=>exact (by (try dsimp only);omega)
 rintro ⟨x0,x1,x2,x3,x4,u⟩ hI;dsimp only at hI;obtain ⟨rfl,rfl,rfl,h0,h1,hI⟩:=hI;unfold z7q;dsimp only;with_reducible repeat' (first|apply dP|apply dX<;>intro _)
 all_goals try rw [qh (n:=x4+1) (by omega)]
 · rename_i a1 a2 a3 a4
   have hlt:x4.toNat<x2.length:=by omega
   rw [getD_lt hlt] at a3 ⊢;refine ⟨⟨rfl,rfl,rfl,by (try dsimp only);omega,by (try dsimp only);omega,.inr ⟨List.getElem_mem hlt,a3,?_⟩⟩,by (try dsimp only);omega⟩;dsimp only;intro r hr hge;rw [show (x4+1).toNat=x4.toNat+1 by omega,qg hlt] at hr;rcases List.mem_append.1 hr with hr|hr
   · rcases hI with ⟨_,hI⟩|⟨_,hx,_⟩
     · have:=hI r hr;omega
     · omega
   · rw [List.mem_singleton] at hr;omega
 · rename_i a1 a2 a3 a4 a5
   have hlt:x4.toNat<x2.length:=by omega
   rw [getD_lt hlt] at a3 a5 ⊢;refine ⟨⟨rfl,rfl,rfl,by (try dsimp only);omega,by (try dsimp only);omega,.inr ⟨List.getElem_mem hlt,a3,?_⟩⟩,by (try dsimp only);omega⟩;dsimp only;intro r hr hge;rw [show (x4+1).toNat=x4.toNat+1 by omega,qg hlt] at hr;rcases List.mem_append.1 hr with hr|hr
   · rcases hI with ⟨hx,_⟩|⟨_,hx,hI⟩
     · omega
     · have:=hI r hr hge;omega
   · rw [List.mem_singleton] at hr;omega
 · rename_i a1 a2 a3 a4 a5
   have hlt:x4.toNat<x2.length:=by omega
   rw [getD_lt hlt] at a3 a5;refine ⟨⟨rfl,rfl,rfl,by (try dsimp only);omega,by (try dsimp only);omega,?_⟩,by (try dsimp only);omega⟩;dsimp only;rcases hI with ⟨hx,_⟩|⟨hm,hx,hI⟩
   · omega
   · refine .inr ⟨hm,hx,fun r hr hge => ?_⟩
     rw [show (x4+1).toNat=x4.toNat+1 by omega,qg hlt] at hr;rcases List.mem_append.1 hr with hr|hr
     · exact hI r hr hge
     · rw [List.mem_singleton] at hr;omega
 · rename_i a1 a2 a3
   have hlt:x4.toNat<x2.length:=by omega
   rw [getD_lt hlt] at a3;refine ⟨⟨rfl,rfl,rfl,by (try dsimp only);omega,by (try dsimp only);omega,?_⟩,by (try dsimp only);omega⟩;dsimp only;rcases hI with ⟨hx,hI⟩|⟨hm,hx,hI⟩
   · refine .inl ⟨hx,fun r hr => ?_⟩
     rw [show (x4+1).toNat=x4.toNat+1 by omega,qg hlt] at hr;rcases List.mem_append.1 hr with hr|hr
     · exact hI r hr
     · rw [List.mem_singleton] at hr;omega
   · refine .inr ⟨hm,hx,fun r hr hge => ?_⟩
     rw [show (x4+1).toNat=x4.toNat+1 by omega,qg hlt] at hr;rcases List.mem_append.1 hr with hr|hr
     · exact hI r hr hge
     · rw [List.mem_singleton] at hr;omega
 · refine dO ?_;omega
 · rw [List.take_of_length_le (by omega)] at hI
   exact hI
theorem f1j (l:List Int) (hl:l.length≤1000000000000):Df (q9f (l,l,(l.length:Int),0,[],())) (Sum.elim (fun y=>y.1=l∧(∀r∈l,0≤r∧r≤1114111)∧y.2.1.length=cnt 128 l) (fun y=>y.1=[])):=by
 refine dL ?I ?m ?h _ ?hv ?hn
 case I=>exact (fun v=>v.1=l∧v.2.1=l∧v.2.2.1=l.length∧0≤v.2.2.2.1∧v.2.2.2.1≤l.length∧(∀r∈l.take v.2.2.2.1.toNat,0≤r∧r≤1114111)∧v.2.2.2.2.1.length=cnt 128 (l.take v.2.2.2.1.toNat))
 case m=>exact (fun v=>(l.length-v.2.2.2.1).toNat)
 case hv=>exact ⟨rfl,rfl,rfl,by (try dsimp only);omega,by (try dsimp only);omega,by simp,rfl⟩
 case hn=>exact (by (try dsimp only);omega)
 rintro ⟨x0,x1,x2,x3,x4,u⟩ hI;dsimp only at hI;obtain ⟨rfl,rfl,rfl,h0,h1,h2,h3⟩:=hI;unfold z7k;dsimp only;with_reducible repeat' (first|apply dP|apply dX<;>intro _)
 · refine dZ (k9k _) ?_
   rintro ⟨b,u⟩ hb;dsimp only at hb ⊢;have hlt:x3.toNat<x1.length:=by omega
   have hc:=z1o 128 (x1.take x3.toNat);rw [List.length_take] at hc;have hr:b=true→∀r∈x1.take (x3.toNat+1),0≤r∧r≤1114111:=by
    intro hbt r hr;rw [qg hlt] at hr;rcases List.mem_append.1 hr with hr|hr
    · exact h2 r hr
    · rw [List.mem_singleton] at hr
      have:=hb hbt;rw [getD_lt hlt] at this;subst hr;exact this
   have hct:=v6z (n:=128) hlt;have hs:(x3+1).toNat=x3.toNat+1:=by omega
   rw [qh (n:=x3+1) (by omega)];with_reducible repeat' (first|apply dP|apply dX<;>intro _)
   · exact rfl
   · rename_i hbt hlow _
     rw [getD_lt hlt] at hlow;rw [if_pos hlow] at hct;exact ⟨⟨rfl,rfl,rfl,by (try dsimp only);omega,by (try dsimp only);omega,by dsimp only;rw [hs];exact hr hbt,by dsimp only;rw [hs,List.length_append,hct,h3];rfl⟩,by (try dsimp only);omega⟩
   · refine dO ?_;simp only [List.length_cons,List.length_nil] at *;omega
   · rename_i hbt hlow
     rw [getD_lt hlt] at hlow;rw [if_neg hlow] at hct;exact ⟨⟨rfl,rfl,rfl,by (try dsimp only);omega,by (try dsimp only);omega,by dsimp only;rw [hs];exact hr hbt,by dsimp only;rw [hs,hct,h3];rfl⟩,by (try dsimp only);omega⟩
 · refine dO ?_;omega
 · rw [List.take_of_length_le (by omega)] at h2 h3
   exact ⟨rfl,h2,h3⟩
theorem f1k (l:List Int) (p m delta bias h:Int) (out:List UInt8) (hl:l.length≤1000000000000) (hh:h=cnt m l) (hd:0≤delta∧delta≤2147483647) (ho:out.length≤l.length+1+14*cnt m l) :
 Df (j6t (l,p,m,delta,bias,h,l,(l.length:Int),0,out,())) (fun y=>y.1=l∧y.2.1=p∧y.2.2.1=m∧0≤y.2.2.2.1∧y.2.2.2.1≤2147483647+l.length∧y.2.2.2.2.2.1=cnt m l+ceq m l∧y.2.2.2.2.2.2.1.length≤l.length+1+14*(cnt m l+ceq m l)):=by
 refine dL ?I ?m ?h _ ?hv ?hn
 case I=>exact (fun v=>v.1=l∧v.2.1=p∧v.2.2.1=m∧0≤v.2.2.2.1∧v.2.2.2.1≤2147483647+v.2.2.2.2.2.2.2.2.1∧v.2.2.2.2.2.1=cnt m l+ceq m (l.take v.2.2.2.2.2.2.2.2.1.toNat)∧v.2.2.2.2.2.2.1=l∧v.2.2.2.2.2.2.2.1=l.length∧0≤v.2.2.2.2.2.2.2.2.1∧v.2.2.2.2.2.2.2.2.1≤l.length∧v.2.2.2.2.2.2.2.2.2.1.length≤l.length+1+14*(cnt m l+ceq m (l.take v.2.2.2.2.2.2.2.2.1.toNat)))
 case m=>exact (fun v=>(l.length-v.2.2.2.2.2.2.2.2.1).toNat)
 case hv=>exact ⟨rfl,rfl,rfl,hd.1,by (try dsimp only);omega,by dsimp only;rw [hh];simp [ceq],rfl,rfl,by (try dsimp only);omega,by (try dsimp only);omega,by dsimp only;simpa [ceq] using ho⟩
 case hn=>exact (by (try dsimp only);omega)
 rintro ⟨x0,x1,x2,x3,x4,x5,x6,x7,x8,x9,u⟩ hI;dsimp only at hI;obtain ⟨rfl,rfl,rfl,h0,h1,rfl,rfl,rfl,h2,h3,h4⟩:=hI;have c1:=z1o x2 x6;have c2:=y3b x2 x6 x8.toNat
 have c3:ceq x2 x6≤x6.length:=List.countP_le_length;unfold z7l;dsimp only;with_reducible repeat' (first|apply dP|apply dX<;>intro _)
 all_goals try rw [qh (n:=x8+1) (by omega)]
 · rename_i a1 a2 a3
   have hlt:x8.toNat<x6.length:=by omega
   have hct:=z1m (n:=x2) hlt;have hs:(x8+1).toNat=x8.toNat+1:=by omega
   rw [getD_lt hlt] at a3;rw [if_neg (by omega)] at hct;rw [qh (n:=x3+1) (by omega)];refine ⟨⟨rfl,rfl,rfl,by (try dsimp only);omega,by (try dsimp only);omega,?_,rfl,rfl,by (try dsimp only);omega,by (try dsimp only);omega,?_⟩,by (try dsimp only);omega⟩
   · dsimp only;rw [hs,hct];simp
   · dsimp only;rw [hs,hct];omega
 · rename_i a1 a2 a3 a4
   have hlt:x8.toNat<x6.length:=by omega
   have hct:=z1m (n:=x2) hlt;have hs:(x8+1).toNat=x8.toNat+1:=by omega
   rw [getD_lt hlt] at a3 a4;rw [if_pos a4] at hct;refine dZ (d7j _ _ _ h0 (by rw [show (10:Int)^13=10000000000000 from rfl];omega) (by omega)) ?_;rintro ⟨y,u⟩ hy;dsimp only at hy ⊢;rw [qh (n:=((cnt x2 x6:Int)+(ceq x2 (x6.take x8.toNat):Int))+1) (by omega)];refine dZ (b4m _ _ _ h0 (by omega)) ?_;rintro ⟨z,u⟩ -
   dsimp only;refine dP ⟨⟨rfl,rfl,rfl,by (try dsimp only);omega,by (try dsimp only);omega,?_,rfl,rfl,by (try dsimp only);omega,by (try dsimp only);omega,?_⟩,by (try dsimp only);omega⟩
   · dsimp only;rw [hs,hct];simp;omega
   · dsimp only;rw [hs,hct];omega
 · rename_i a1 a2 a3 a4
   have hlt:x8.toNat<x6.length:=by omega
   have hct:=z1m (n:=x2) hlt;have hs:(x8+1).toNat=x8.toNat+1:=by omega
   rw [getD_lt hlt] at a3 a4;rw [if_neg a4] at hct;refine ⟨⟨rfl,rfl,rfl,by (try dsimp only);omega,by (try dsimp only);omega,?_,rfl,rfl,by (try dsimp only);omega,by (try dsimp only);omega,?_⟩,by (try dsimp only);omega⟩
   · dsimp only;rw [hs,hct];simp
   · dsimp only;rw [hs,hct];omega
 · refine dO ?_;omega
 · rw [List.take_of_length_le (by omega)] at h4 ⊢
   exact ⟨rfl,rfl,rfl,by (try dsimp only);omega,by (try dsimp only);omega,rfl,h4⟩
theorem f1l (l:List Int) (out:List UInt8) (hl:l.length≤1000000000000) (hr:∀r∈l,0≤r∧r≤1114111) (ho:out.length≤l.length+1) :
 Df (q9g (l,(cnt 128 l:Int),128,0,72,(cnt 128 l:Int),out,())) (Sum.elim (fun y=>y.1.length≤15*l.length+1) (fun y=>y.1=[])):=by
 refine dL ?I ?m ?h _ ?hv ?hn
 case I=>exact (fun v=>v.1=l∧128≤v.2.2.1∧v.2.2.1≤1114112∧0≤v.2.2.2.1∧v.2.2.2.1≤2147483648+l.length∧v.2.2.2.2.2.1=cnt v.2.2.1 l∧v.2.2.2.2.2.2.1.length≤l.length+1+14*cnt v.2.2.1 l)
 case m=>exact (fun v=>l.length-cnt v.2.2.1 l)
 case hv=>exact ⟨rfl,by (try dsimp only);omega,by (try dsimp only);omega,by (try dsimp only);omega,by (try dsimp only);omega,rfl,by (try dsimp only);omega⟩
 case hn=>exact (by (try dsimp only);omega)
 rintro ⟨x0,x1,x2,x3,x4,x5,x6,u⟩ hI;dsimp only at hI;obtain ⟨rfl,h0,h1,h2,h3,rfl,h4⟩:=hI;have c1:=z1o x2 x0;unfold z7m;dsimp only;with_reducible repeat' (first|apply dP|apply dX<;>intro _)
 · rename_i hlt
   refine dZ (d7i x0 x2 (by omega) hl) ?_;rintro ⟨m,u⟩ hm;dsimp only at hm ⊢;rcases hm with ⟨_,hm⟩|⟨hm,hnm,hmin⟩
   · have:=x5d hm
     omega
   · have hm2:=hr m hm
     have hp0:0≤(m-x2)*((cnt x2 x0:Int)+1):=Int.mul_nonneg (by omega) (by omega);have hp1:(m-x2)*((cnt x2 x0:Int)+1)≤1114111*((cnt x2 x0:Int)+1):=Int.mul_le_mul_of_nonneg_right (by omega) (by omega);rw [f6r (n:=m-x2) (by omega),qh (n:=m-x2) (by omega),qh (n:=(cnt x2 x0:Int)+1) (by omega)];generalize (m-x2)*((cnt x2 x0:Int)+1)=P at hp0 hp1 ⊢;rw [qh (n:=P) (by omega),qh (n:=x3+P) (by omega)];have hsame:=y3c hnm hmin;have hpos:=x5c hm;have hsucc:=y3d m x0;have c4:=z1o (m+1) x0;with_reducible repeat' (first|apply dP|apply dX<;>intro _)
     · exact rfl
     · refine dZ (f1k x0 x1 m (x3+P) x4 _ x6 hl (by rw [hsame]) (by omega) (by omega)) ?_
       rintro ⟨y0,y1,y2,y3,y4,y5,y6,u⟩ hy;dsimp only at hy ⊢;obtain ⟨rfl,rfl,rfl,k0,k1,rfl,k2⟩:=hy;rw [f6r (n:=y2+1) (by omega),qh (n:=y3+1) (by omega)];refine dP ⟨⟨rfl,by (try dsimp only);omega,by (try dsimp only);omega,by (try dsimp only);omega,by (try dsimp only);omega,?_,?_⟩,?_⟩
       · dsimp only;rw [hsucc];simp
       · dsimp only;rw [hsucc];exact k2
       · dsimp only;omega
 · exact (by (try dsimp only);omega:x6.length≤15*x0.length+1)
theorem f1i (l:List Int) (hl:l.length≤1000000000000):Df (x7k (l,())) (fun y=>y.1.length≤15*l.length+1):=by
 show Df (k4s xp q7o q7p q0q q9e q9f _) _;unfold k4s;dsimp only;refine dZ (f1j l hl) ?_;intro z hz;refine dS hz ?_ ?_
 · rintro ⟨x0,x1,u⟩ hx
   dsimp only at hx ⊢;obtain ⟨rfl,hr,hc⟩:=hx;have c0:=z1o 128 x0;have zg:∀out:List UInt8,out.length≤x0.length+1→Df ((q9e (x0,(x1.length:Int),out,())).bind fun val=>some (val.fst,val.snd.fst,())) (fun y=>y.1.length≤15*x0.length+1):=by
    intro out ho;refine dZ (P:=fun y=>y.1.length≤15*x0.length+1) ?_ (fun _ h=>dP h);show Df (j7p xp q7o q7p q0q q9g _) _;unfold j7p;dsimp only;rw [hc];refine dZ (f1l x0 out hl hr ho) ?_;intro z hz;refine dS hz ?_ ?_
    · rintro ⟨y,u⟩ hy;exact dP hy
    · rintro ⟨y,b,u⟩ hy
      dsimp only at hy;subst hy;exact dP (by simp)
   with_reducible repeat' (first|apply dP|apply dX<;>intro _)
   · exact zg _ (by simp only [jv];omega)
   · refine dO ?_;simp only [List.length_cons,List.length_nil] at *;omega
   · exact zg _ (by omega)
 · rintro ⟨y,b,u⟩ hy
   dsimp only at hy;subst hy;exact dP (by simp)
structure TK (T:List R6) (A:List R4) (B:List R3):Prop where
 t:TOk T
 a:A.length≤1000000000000
 b:B.length≤1000000000000
section
variable {T:List R6} {A:List R4} {B:List R3}
theorem y7l (l:List Int) (p n:Int) (hp:0≤p∧p≤1000000000000000) (hn : -1000000000000001≤n∧n≤1000000000000001):Df (q1o (T,A,B,l,p,n,())) (fun y=>y.1≥0→0≤p+n∧p+n<l.length):=by
 show Df (k6g _) _;unfold k6g;dsimp only;rw [qh (n:=p+n) (by omega)];with_reducible repeat' (first|apply dP|apply dX<;>intro _)
 · intro h;dsimp only at h;omega
 · intro h;dsimp only at h;omega
 · intro h;omega
 · refine dO ?_;omega
theorem b4p (h:TK T A B) (l:List Int) (p:Int) (hp:0≤p∧p≤1000000000000000):Df (z6q (T,A,B,l,p,())) (fun _=>True):=by
 show Df (k5q xq q1o _) _;unfold k5q;dsimp only;refine dZ (y7l l p (-1) hp (by omega)) ?_;rintro ⟨x,u⟩ -
 exact dZ (v7i T A B _ h.a) fun _ _=>dP trivial
theorem b4r (h:TK T A B) (l:List Int) (p s:Int) (hp:0≤p∧p<l.length) (hl:l.length≤1000000000000) (hs:s=1∨s = -1):Df (v3a (T,A,B,l,p,s,())) (fun _=>True):=by
 show Df (k6h q1o y1o j7e _) _;unfold k6h;dsimp only;refine dZ (P:=fun _=>True) ?_ ?_
 · refine dL ?I ?m ?h _ ?hv ?hn
   case I=>exact (fun v=>v.1=s∧v.2.2.1=T∧v.2.2.2.2.2.1=l∧v.2.2.2.2.2.2.1=p ∧ -1≤p+v.2.1∧p+v.2.1≤l.length)
   case m=>exact (fun v=>(bif s==1 then (l.length-(p+v.2.1)) else p+v.2.1+1).toNat)
   case hv=>exact ⟨rfl,rfl,rfl,rfl,by (try dsimp only);omega,by (try dsimp only);omega⟩
   case hn=>exact (by rcases hs with rfl|rfl<;>simp<;>omega)
   rintro ⟨x0,x1,x2,x3,x4,x5,x6,u⟩ hI;dsimp only at hI;obtain ⟨rfl,rfl,rfl,rfl,h0,h1⟩:=hI;unfold z8e;dsimp only;refine dZ (y7l x5 x6 x1 (by omega) (by omega)) ?_;rintro ⟨c,u⟩ hc;dsimp only at hc ⊢;with_reducible repeat' (first|apply dP|apply dX<;>intro _)
   · rename_i hge
     have hc':=hc hge;refine dZ (y7l x5 x6 x1 (by omega) (by omega)) ?_;rintro ⟨c,u⟩ -
     dsimp only;refine dZ (d8s x2 _ _ _ h.t) ?_;rintro ⟨j,u⟩ -
     dsimp only;rw [qh (n:=x1+x0) (by omega)];with_reducible repeat' (first|apply dP|apply dX<;>intro _)
     · trivial
     · refine ⟨⟨rfl,rfl,rfl,rfl,by (try dsimp only);omega,by (try dsimp only);omega⟩,?_⟩
       rcases hs with rfl|rfl
       · simp only [show ((1:Int)==1)=true from rfl,cond_true];omega
       · simp only [show ((-1:Int)==1)=false from rfl,cond_false];omega
   · trivial
 · intro z hz
   cases z<;>exact dP trivial
theorem d8c (h:TK T A B) (l:List Int) (p:Int) (hp:0≤p∧p<l.length) (hl:l.length≤1000000000000):Df (x7r (T,A,B,l,p,())) (fun _=>True):=by
 show Df (k5r z6q v3a _) _;unfold k5r;dsimp only;refine dZ (b4r h l p 1 hp hl (.inl rfl)) ?_;rintro ⟨x,u⟩ -
 refine dZ (b4p h l p (by omega)) ?_;rintro ⟨y,u⟩ -
 dsimp only;with_reducible repeat' (first|apply dP|apply dX<;>intro _)
 · trivial
 · refine dZ (b4r h l p (-1) hp hl (.inr rfl)) ?_
   rintro ⟨x,u⟩ -
   dsimp only;with_reducible repeat' (first|apply dP|apply dX<;>intro _)
   all_goals trivial
theorem d8d (l:List Int) (p:Int) (hp:0≤p∧p≤1000000000000000):Df (x7s (T,A,B,l,p,())) (fun _=>True):=by
 show Df (k5s q1o _) _;unfold k5s;dsimp only;refine dZ (y7l l p (-1) hp (by omega)) ?_;rintro ⟨x,u⟩ -
 dsimp only;with_reducible repeat' (first|apply dP|apply dX<;>intro _)
 · exact dZ (y7l l p 1 hp (by omega)) fun _ _=>dP trivial
 · trivial
theorem d8e (h:TK T A B) (l:List Int) (p:Int) (hp:0≤p∧p≤1000000000000000):Df (x7t (T,A,B,l,p,())) (fun _=>True):=by
 show Df (k5t q1o j9v _) _;unfold k5t;dsimp only;refine dZ (y7l l p 1 hp (by omega)) ?_;rintro ⟨x,u⟩ -
 exact dZ (f2b T A B _ h.t) fun _ _=>dP trivial
theorem d8f (h:TK T A B) (l:List Int) (p:Int) (hp:0≤p∧p≤1000000000000000):Df (x7u (T,A,B,l,p,())) (fun _=>True):=by
 show Df (k5u q1o j9v _) _;unfold k5u;dsimp only;refine dZ (y7l l p (-1) hp (by omega)) ?_;rintro ⟨x,u⟩ -
 exact dZ (f2b T A B _ h.t) fun _ _=>dP trivial
theorem b4k (x:Int):Df (j9p (x,())) (fun _=>True):=by
 show Df (k4y _) _;unfold k4y;dsimp only;with_reducible repeat' (first|apply dP|apply dX<;>intro _)
 all_goals trivial
theorem b4l (x:Int):Df (j9q (x,())) (fun _=>True):=by
 show Df (k5b _) _;unfold k5b;dsimp only;with_reducible repeat' (first|apply dP|apply dX<;>intro _)
 all_goals trivial
theorem d8b (l:List Int) (hl:l.length≤1000000000000):Df (v2v (l,())) (fun _=>True):=by
 show Df (k5p j9q j6z _) _;unfold k5p;dsimp only;refine dZ (P:=fun _=>True) ?_ (fun z _=>by cases z<;>exact dP trivial);refine dL ?I ?m ?h _ ?hv ?hn
 case I=>exact (fun v=>v.1=l∧v.2.1=l.length∧0≤v.2.2.1∧v.2.2.1≤l.length)
 case m=>exact (fun v=>(l.length-v.2.2.1).toNat)
 case hv=>exact ⟨rfl,rfl,by (try dsimp only);omega,by (try dsimp only);omega⟩
 case hn=>exact (by (try dsimp only);omega)
 rintro ⟨x0,x1,x2,u⟩ hI;dsimp only at hI;obtain ⟨rfl,rfl,h0,h1⟩:=hI;unfold z7v;dsimp only;with_reducible repeat' (first|apply dP|apply dX<;>intro _)
 · refine dZ (b4l _) ?_
   rintro ⟨b,u⟩ -
   dsimp only;rw [qh (n:=x2+1) (by omega)];with_reducible repeat' (first|apply dP|apply dX<;>intro _)
   · trivial
   · exact ⟨⟨rfl,rfl,by (try dsimp only);omega,by (try dsimp only);omega⟩,by (try dsimp only);omega⟩
 · refine dO ?_;omega
 · trivial
theorem f1v (l:List Int) (hl:l.length≤1000000000000):Df (j9t (l,())) (fun _=>True):=by
 show Df (z7w j9p q4z _) _;unfold z7w;dsimp only;refine dZ (P:=fun _=>True) ?_ (fun z _=>by cases z<;>exact dP trivial);refine dL ?I ?m ?h _ ?hv ?hn
 case I=>exact (fun v=>v.1=l∧v.2.1=l.length∧0≤v.2.2.1∧v.2.2.1≤l.length)
 case m=>exact (fun v=>(l.length-v.2.2.1).toNat)
 case hv=>exact ⟨rfl,rfl,by (try dsimp only);omega,by (try dsimp only);omega⟩
 case hn=>exact (by (try dsimp only);omega)
 rintro ⟨x0,x1,x2,u⟩ hI;dsimp only at hI;obtain ⟨rfl,rfl,h0,h1⟩:=hI;unfold j4d;dsimp only;with_reducible repeat' (first|apply dP|apply dX<;>intro _)
 · refine dZ (b4k _) ?_
   rintro ⟨b,u⟩ -
   dsimp only;rw [qh (n:=x2+1) (by omega)];with_reducible repeat' (first|apply dP|apply dX<;>intro _)
   · trivial
   · exact ⟨⟨rfl,rfl,by (try dsimp only);omega,by (try dsimp only);omega⟩,by (try dsimp only);omega⟩
 · refine dO ?_;omega
 · trivial
theorem d7g (l:List Int) (p:Int) (hl:l.length≤1000000000000):Df (x7m (T,A,B,l,p,())) (fun _=>True):=by
 show Df (k4z k2w _) _;unfold k4z;dsimp only;refine dZ (P:=fun _=>True) ?_ (fun _ _=>dP trivial);show Df (k5a v2v _) _;unfold k5a;dsimp only;exact dZ (d8b l hl) fun _ _=>dP trivial
theorem d7h (l:List Int) (p:Int) (hl:l.length≤1000000000000):Df (x7n (T,A,B,l,p,())) (fun _=>True):=by
 show Df (k5c z6o _) _;unfold k5c;dsimp only;refine dZ (P:=fun _=>True) ?_ (fun _ _=>dP trivial);show Df (z7o j9t _) _;unfold z7o;dsimp only;exact dZ (f1v l hl) fun _ _=>dP trivial
theorem d8q (h:TK T A B) (r:Int) (l:List Int) (p:Int):Df (y1n (r,T,A,B,l,p,())) (fun y=>y.2=(T,A,B,l,p,())):=by
 show Df (k6j j9v _) _;unfold k6j;dsimp only;refine dZ (f2b T A B _ h.t) ?_;rintro ⟨x,u⟩ -
 dsimp only;with_reducible repeat' (first|apply dP|apply dX<;>intro _)
 all_goals rfl
theorem f1w (h:TK T A B) (l:List Int) (l':List Int) (p:Int) (hl:l.length≤1000000000000):Df (j9u (l,T,A,B,l',p,())) (fun _=>True):=by
 show Df (z7x y1n q5a _) _;unfold z7x;dsimp only;refine dZ (P:=fun _=>True) ?_ (fun z _=>by cases z<;>exact dP trivial);refine dL ?I ?m ?h _ ?hv ?hn
 case I=>exact (fun v=>v.1=l∧v.2.1=l.length∧0≤v.2.2.1∧v.2.2.1≤l.length∧v.2.2.2=(T,A,B,l',p,()))
 case m=>exact (fun v=>(l.length-v.2.2.1).toNat)
 case hv=>exact ⟨rfl,rfl,by (try dsimp only);omega,by (try dsimp only);omega,rfl⟩
 case hn=>exact (by (try dsimp only);omega)
 rintro ⟨x0,x1,x2,x3,x4,x5,x6,x7,u⟩ hI;dsimp only at hI;obtain ⟨rfl,rfl,h0,h1,h2⟩:=hI;simp only [Prod.mk.injEq] at h2;obtain ⟨rfl,rfl,rfl,rfl,rfl,-⟩:=h2;unfold j4e;dsimp only;with_reducible repeat' (first|apply dP|apply dX<;>intro _)
 · refine dZ (d8q h _ _ _) ?_
   rintro ⟨b,y1,y2,y3,y4,y5,u⟩ hy;simp only [Prod.mk.injEq] at hy;obtain ⟨rfl,rfl,rfl,rfl,rfl,-⟩:=hy;dsimp only;rw [qh (n:=x2+1) (by omega)];with_reducible repeat' (first|apply dP|apply dX<;>intro _)
   · trivial
   · exact ⟨⟨rfl,rfl,by (try dsimp only);omega,by (try dsimp only);omega,rfl⟩,by (try dsimp only);omega⟩
 · refine dO ?_;omega
 · trivial
theorem d8g (h:TK T A B) (l:List Int) (p:Int) (hl:l.length≤1000000000000):Df (x7v (T,A,B,l,p,())) (fun _=>True):=by
 show Df (k5v z6p _) _;unfold k5v;dsimp only;refine dZ (P:=fun _=>True) ?_ (fun _ _=>dP trivial);show Df (z7p j9u _) _;unfold z7p;dsimp only;exact dZ (f1w h l l p hl) fun _ _=>dP trivial
theorem d7b (x:Int):Df (z6i (x,())) (fun _=>True):=by
 show Df (k4o j9p j9q k2x _) _;unfold k4o;dsimp only;refine dZ (b4k x) ?_;rintro ⟨b,u⟩ -
 dsimp only;with_reducible repeat' (first|apply dP|apply dX<;>intro _)
 · trivial
 · refine dZ (b4l x) ?_
   rintro ⟨b,u⟩ -
   dsimp only;with_reducible repeat' (first|apply dP|apply dX<;>intro _)
   · trivial
   · refine dZ (P:=fun _=>True) ⟨(),rfl,trivial⟩ ?_
     intro u _;with_reducible repeat' (first|apply dP|apply dX<;>intro _)
     all_goals trivial
theorem d6s (h:TK T A B) (l:List Int) (p:Int) (hl:l.length≤1000000000000) (hp:p≤1000000000000):Df (z2u (T,A,B,l,p,())) (fun _=>True):=by
 show Df (x8e z6i x7m x7n z6q x7r x7s x7t x7u x7v _) _;unfold x8e;dsimp only;have zg:∀{x:Option (Bool×Unit)},Df x (fun _=>True)→Df (x.bind fun val=>bif val.fst then some ((1:Int),()) else some (2,())) (fun _=>True):=by
  intro x hx;refine dZ hx ?_;rintro ⟨b,u⟩ -
  dsimp only;with_reducible repeat' (first|apply dP|apply dX<;>intro _)
  all_goals trivial
 with_reducible repeat' (first|apply dP|apply dX<;>intro _)
 · trivial
 · trivial
 · refine dZ (d7b _) ?_
   intro z _;rcases z with z|z|z|z|z|z|z|z|z
   · exact zg (d7g l p hl)
   · exact zg (d7h l p hl)
   · exact zg (b4p h l p (by omega))
   · exact zg (d8c h l p (by omega) hl)
   · exact zg (d8d l p (by omega))
   · exact zg (d8e h l p (by omega))
   · exact zg (d8f h l p (by omega))
   · exact zg (d8g h l p hl)
   · exact dP trivial
 · refine dO ?_;omega
theorem d7c (h:TK T A B) (r:Int):Df (j3x (T,A,B,r,())) (fun _=>True):=by
 show Df (k4q y5r zz _) _;unfold k4q;dsimp only;refine dZ (b4e T A B r) ?_;rintro ⟨v0,a,c,s,o,is,u⟩ -
 dsimp only;with_reducible repeat' (first|apply dP|apply dX<;>intro _)
 all_goals first
  | trivial
  | (refine dZ (b4d T A B r h.t) ?_;rintro ⟨x,u⟩ -;dsimp only;(repeat' (first|apply dP|(apply dG<;>intro _)));all_goals trivial)
theorem d7r (h:TK T A B) (l:List Int) (hl:l.length≤1000000000000):Df (x7p (T,A,B,l,())) (fun _=>True):=by
 show Df (x8j z2u j3x q9m _) _;unfold x8j;dsimp only;refine dZ (P:=fun _=>True) ?_ (fun z _=>by cases z<;>exact dP trivial);refine dL ?I ?m ?h _ ?hv ?hn
 case I=>exact (fun v=>v.1=l∧v.2.1=l∧v.2.2.1=l.length∧0≤v.2.2.2.1∧v.2.2.2.1≤l.length∧v.2.2.2.2=(T,A,B,()))
 case m=>exact (fun v=>(l.length-v.2.2.2.1).toNat)
 case hv=>exact ⟨rfl,rfl,rfl,by (try dsimp only);omega,by (try dsimp only);omega,rfl⟩
 case hn=>exact (by (try dsimp only);omega)
 rintro ⟨x0,x1,x2,x3,x4,x5,x6,u⟩ hI;dsimp only at hI;obtain ⟨rfl,rfl,rfl,h0,h1,h2⟩:=hI;simp only [Prod.mk.injEq] at h2;obtain ⟨rfl,rfl,rfl,-⟩:=h2;unfold j7y;dsimp only;with_reducible repeat' (first|apply dP|apply dX<;>intro _)
 · refine dZ (d6s h _ _ hl (by omega)) ?_
   rintro ⟨b,u⟩ -
   dsimp only;rw [qh (n:=x3+1) (by omega)];with_reducible repeat' (first|apply dP|apply dX<;>intro _)
   · trivial
   · refine dZ (d7c h _) ?_
     rintro ⟨b,u⟩ -
     dsimp only;with_reducible repeat' (first|apply dP|apply dX<;>intro _)
     · trivial
     · exact ⟨⟨rfl,rfl,rfl,by (try dsimp only);omega,by (try dsimp only);omega,rfl⟩,by (try dsimp only);omega⟩
   · exact ⟨⟨rfl,rfl,rfl,by (try dsimp only);omega,by (try dsimp only);omega,rfl⟩,by (try dsimp only);omega⟩
 · refine dO ?_;omega
 · trivial
theorem d7q (h:TK T A B) (l:List Int) (hl:l.length≤1000000000000):Df (x7o (T,A,B,l,())) (fun y=>y.2=(T,A,B,l,())):=by
 show Df (v5c x7p _) _;unfold v5c;dsimp only;exact dZ (d7r h l hl) fun _ _=>dP rfl
theorem b4b (h:TK T A B) (l:List Int) (hl:l.length≤1000000000000):Df (q9c (T,A,B,l,())) (fun _=>True):=by
 show Df (k4i q7n j6s _) _;unfold k4i;dsimp only;refine dZ (P:=fun y=>y.1.length=8∧y.2.1.length=8) ?_ ?_
 · refine dL ?I ?m ?h _ ?hv ?hn
   case I=>exact (fun v=>v.1=l∧v.2.1=l.length∧0≤v.2.2.1∧v.2.2.1≤l.length∧v.2.2.2.1=T∧v.2.2.2.2.2.2.1.length=8∧v.2.2.2.2.2.2.2.1.length=8)
   case m=>exact (fun v=>(l.length-v.2.2.1).toNat)
   case hv=>exact ⟨rfl,rfl,by (try dsimp only);omega,by (try dsimp only);omega,rfl,rfl,rfl⟩
   case hn=>exact (by (try dsimp only);omega)
   rintro ⟨x0,x1,x2,x3,x4,x5,x6,x7,u⟩ hI;dsimp only at hI;obtain ⟨rfl,rfl,h0,h1,rfl,h2,h3⟩:=hI;unfold z7j;dsimp only;with_reducible repeat' (first|apply dP|apply dX<;>intro _)
   · refine dZ (f1h x3 _ _ _ h.t) ?_
     rintro ⟨b,u⟩ hb;dsimp only at hb ⊢;rw [qh (n:=x2+1) (by omega)];with_reducible repeat' (first|apply dP|apply dX<;>intro _)
     all_goals first
      | exact ⟨⟨rfl,rfl,by (try dsimp only);omega,by (try dsimp only);omega,rfl,h2,by simp only [List.length_set];omega⟩,by (try dsimp only);omega⟩
      | (refine dO ?_;omega)
   · refine dO ?_;omega
   · exact ⟨h2,h3⟩
 · rintro ⟨x0,x1,u⟩ hx
   dsimp only at hx ⊢;with_reducible repeat' (first|apply dP|apply dX<;>intro _)
   all_goals first|trivial|(refine dO ?_;omega)
theorem b3x (h:TK T A B) (l:List Int) (hl:l.length≤1000000000000):Df (j3s (T,A,B,l,())) (fun _=>True):=by
 show Df (k3z q9c _) _;unfold k3z;dsimp only;exact dZ (b4b h l hl) fun _ _=>dP trivial
theorem d6u (h:TK T A B) (l:List Int):Df (j9o (T,A,B,l,())) (fun _=>True):=by
 show Df (k4j q7n _) _;unfold k4j;dsimp only;with_reducible repeat' (first|apply dP|apply dX<;>intro _)
 · trivial
 · refine dZ (f1h T A B _ h.t) ?_
   rintro ⟨b,u⟩ -
   dsimp only;with_reducible repeat' (first|apply dP|apply dX<;>intro _)
   all_goals trivial
 · refine dO ?_;omega
theorem f1b (x:Bool) (y:Bool) (z:List Int) (hz:z.length=8):Df (q8y (x,y,z,())) (fun _=>True):=by
 show Df (j7h j3s q9c j6b j9o _) _;unfold j7h;dsimp only;with_reducible repeat' (first|apply dP|apply dX<;>intro _)
 all_goals first|trivial|(refine dO ?_;omega)|(rename_i h1 h2;exact absurd (show Int.toNat 1<z.length by rw [hz];decide) h2)
theorem v7e (x:Int) (y:Bool) (z:List Int) (hz:z.length=8):Df (j6q (x,y,z,())) (fun _=>True):=by
 show Df (j7i j3s q9c j6b j9o q8y _) _;unfold j7i;dsimp only;with_reducible repeat' (first|apply dP|apply dX<;>intro _)
 all_goals exact dZ (f1b _ _ z hz) fun _ _=>dP trivial
end
section
variable {T:List R6} {A:List R4} {B:List R3}
theorem k9m (hA:A.length≤1000000000000) (a b:Int):Df (zm (a,b,T,A,B,())) (fun y=>y.2=(T,A,B,())):=by
 unfold zm k5o;dsimp only;refine dZ (v7i T A B _ hA) ?_;rintro ⟨x,u⟩ -
 exact dZ (v7i T A B _ hA) fun _ _=>dP rfl
theorem f2c (o n:Nat) (a b i j:Int) (row:List Int) (hj:1≤j∧j<n) (hn:n≤100000000000000) :
 Df (q2k (((o:Int),(n:Int)),a,b,i,j,row,T,A,B,())) (fun y=>∃(r':List Int),r'.length=row.length∧y=(((o:Int),(n:Int)),a,b,i,j-1,r',T,A,B,())):=by
 unfold q2k j8f;dsimp only;simp only [Int.toNat_natCast];rw [qh (n:=j-1) (by omega)];with_reducible repeat' (first|apply dP|apply dX<;>intro _)
 · exact ⟨_,by simp only [List.length_set],rfl⟩
 all_goals (refine dO ?_;omega)
theorem f2d (hA:A.length≤1000000000000) (o n:Nat) (a b i j:Int) (row:List Int) (ha:0≤a) (hj:a≤j∧j<n) (hn:n≤100000000000000) :
 Df (q9x (((o:Int),(n:Int)),a,b,i,j,row,T,A,B,())) (fun y=>∃(r':List Int),r'.length=row.length∧y=(((o:Int),(n:Int)),a,b,i,r',T,A,B,())):=by
 refine dL ?I ?m ?h _ ?hv ?hn
 case I=>exact (fun v=>∃(j':Int) (r':List Int),a≤j'∧j'<n∧r'.length=row.length∧v=(((o:Int),(n:Int)),a,b,i,j',r',T,A,B,()))
 case m=>exact (fun v=>(v.2.2.2.2.1-a).toNat)
 case hv=>exact ⟨j,row,hj.1,hj.2,rfl,rfl⟩
 case hn=>exact (by (try dsimp only);omega)
 rintro v ⟨j',r',h1,h2,h3,rfl⟩;unfold j8g;dsimp only;simp only [Int.toNat_natCast];rw [qh (n:=j'-1) (by omega)];with_reducible repeat' (first|apply dP|apply dX<;>intro _)
 · refine dZ (k9m hA _ _) ?_
   rintro ⟨c,t,a',b',u⟩ hc;simp only [Prod.mk.injEq] at hc;obtain ⟨rfl,rfl,rfl,-⟩:=hc;dsimp only;with_reducible repeat' (first|apply dP|apply dX<;>intro _)
   · refine dZ (f2c o n a b i j' r' (by omega) hn) ?_
     rintro y ⟨r2,h4,rfl⟩;dsimp only;simp only [Int.toNat_natCast];exact dP ⟨⟨_,_,by omega,by omega,h4.trans h3,rfl⟩,by (try dsimp only);omega⟩
   · exact ⟨_,h3,rfl⟩
 · refine dO ?_;omega
 · refine dO ?_;omega
 · exact ⟨_,h3,rfl⟩
theorem b4s (hA:A.length≤1000000000000) (o n:Nat) (a b:Int) (row:List Int) (ha:0≤a∧a≤n) (hb:b≤n) (hn:n≤100000000000000) :
 Df (q9w (((o:Int),(n:Int)),a,b,row,T,A,B,())) (fun y=>∃(r':List Int),r'.length=row.length∧y=(r',T,A,B,())):=by
 unfold q9w k6k;dsimp only;simp only [Int.toNat_natCast];rw [qh (n:=a+1) (by omega)];refine dZ (P:=fun y=>∃(r':List Int),r'.length=row.length∧y=(r',T,A,B,())) ?_ ?_
 · refine dL ?I ?m ?h _ ?hv ?hn
   case I=>exact (fun v=>∃(i:Int) (r':List Int),a+1≤i∧r'.length=row.length∧v=(((o:Int),(n:Int)),a,b,i,r',T,A,B,()))
   case m=>exact (fun v=>(b-v.2.2.2.1).toNat)
   case hv=>exact ⟨a+1,row,Int.le_refl _,rfl,rfl⟩
   case hn=>exact (by (try dsimp only);omega)
   rintro v ⟨i,r',h1,h2,rfl⟩;unfold j8h;dsimp only;simp only [Int.toNat_natCast];with_reducible repeat' (first|apply dP|apply dX<;>intro _)
   · refine dZ (f2d hA o n a b i i r' ha.1 (by omega) hn) ?_
     rintro y ⟨r2,h4,rfl⟩;dsimp only;simp only [Int.toNat_natCast];rw [qh (n:=i+1) (by omega)];exact dP ⟨⟨_,_,by omega,h4.trans h2,rfl⟩,by (try dsimp only);omega⟩
   · exact ⟨_,h2,rfl⟩
 · rintro y ⟨r',h,rfl⟩
   exact dP ⟨_,h,rfl⟩
theorem f2j (o n:Nat) (a b k:Int) (row:List Int) (ha:0≤a∧a+k≤n) (hb:0≤b∧b+k≤n) (hn:n≤100000000000000) :
 Df (z2z (((o:Int),(n:Int)),a,b,k,row,T,A,B,())) (fun y=>∃(r':List Int),r'.length=row.length∧y=(r',T,A,B,())):=by
 unfold z2z k6n;dsimp only;simp only [Int.toNat_natCast];refine dZ (P:=fun y=>∃(r':List Int),r'.length=row.length∧y=(r',T,A,B,())) ?_ ?_
 · refine dL ?I ?m ?h _ ?hv ?hn
   case I=>exact (fun v=>∃(i:Int) (r':List Int),0≤i∧r'.length=row.length∧v=(((o:Int),(n:Int)),a,b,k,i,r',T,A,B,()))
   case m=>exact (fun v=>(k-v.2.2.2.2.1).toNat)
   case hv=>exact ⟨0,row,Int.le_refl _,rfl,rfl⟩
   case hn=>exact (by (try dsimp only);omega)
   rintro v ⟨i,r',h1,h2,rfl⟩;unfold j8j;dsimp only;simp only [Int.toNat_natCast];by_cases hlt:i<k
   · rw [qh (n:=a+i) (by omega),qh (n:=b+i) (by omega),qh (n:=i+1) (by omega)]
     with_reducible repeat' (first|apply dP|apply dX<;>intro _)
     · exact ⟨⟨_,_,by omega,by simp only [List.length_set];exact h2,rfl⟩,by (try dsimp only);omega⟩
     all_goals first|(refine dO ?_;omega)|(exfalso;omega)
   · rw [decide_eq_false hlt]
     exact dP ⟨_,h2,rfl⟩
 · rintro y ⟨r',h,rfl⟩
   exact dP ⟨_,h,rfl⟩
theorem d8t (o n:Nat) (a m b:Int) (row:List Int) (ha:0≤a∧a<m) (hb:m<b∧b≤n) (hn:n≤100000000000000) :
 Df (yc (((o:Int),(n:Int)),a,m,b,row,T,A,B,())) (fun y=>∃(r':List Int),r'.length=row.length∧y=(r',T,A,B,())):=by
 unfold yc k6m;dsimp only;simp only [Int.toNat_natCast];rw [qh (n:=m-a) (by omega),qh (n:=b-m) (by omega)];refine dZ (P:=fun y=>∃(i:Int) (r':List Int),0≤i∧i≤m-a∧m+i≤n∧r'.length=row.length∧y=(((o:Int),(n:Int)),m,i,r',T,A,B,())) ?_ ?_
 · refine dL ?I ?m ?h _ ?hv ?hn
   case I=>exact (fun v=>∃(i:Int) (j:Int) (r':List Int),0<i∧0<j∧i≤m-a∧j≤b-m∧r'.length=row.length∧v=(((o:Int),(n:Int)),m,i,j,r',T,A,B,()))
   case m=>exact (fun v=>(v.2.2.1+v.2.2.2.1).toNat)
   case hv=>exact ⟨m-a,b-m,row,by omega,by omega,Int.le_refl _,Int.le_refl _,rfl,rfl⟩
   case hn=>exact (by (try dsimp only);omega)
   rintro v ⟨i,j,r',h1,h2,h3,h4,h5,rfl⟩;unfold j8i;dsimp only;simp only [Int.toNat_natCast];rw [qh (n:=m-i) (by omega),qh (n:=i-j) (by omega),qh (n:=j-i) (by omega),qh (n:=m+j) (by omega),qh (n:=m+j-i) (by omega)];with_reducible repeat' (first|apply dP|apply dX<;>intro _)
   · refine dZ (f2j o n (m-i) m j r' (by omega) (by omega) hn) ?_
     rintro y ⟨r2,h6,rfl⟩;dsimp only;exact dP ⟨⟨_,_,_,by omega,by omega,by omega,by omega,h6.trans h5,rfl⟩,by (try dsimp only);omega⟩
   · refine dZ (f2j o n (m-i) (m+j-i) i r' (by omega) (by omega) hn) ?_
     rintro y ⟨r2,h6,rfl⟩;dsimp only;exact dP ⟨⟨_,_,_,by omega,by omega,by omega,by omega,h6.trans h5,rfl⟩,by (try dsimp only);omega⟩
   · exact ⟨_,_,by omega,by omega,by omega,h5,rfl⟩
 · rintro y ⟨i,r',h1,h2,h3,h4,rfl⟩
   dsimp only;simp only [Int.toNat_natCast];rw [qh (n:=m-i) (by omega)];refine dZ (f2j o n (m-i) m i r' (by omega) (by omega) hn) ?_;rintro y ⟨r2,h6,rfl⟩;exact dP ⟨_,h6.trans h4,rfl⟩
theorem f2e (G:jk) (hA:A.length≤1000000000000) (o n:Nat) (a i j:Int) (row:List Int) (ha:0≤a∧a<n) (hi:0≤i∧i≤j) (hj:j≤n) (hn:n≤100000000000000) :
 Df (vt G (((o:Int),(n:Int)),a,i,j,row,T,A,B,())) (fun y=>∃(i':Int),i≤i'∧i'≤j∧y=(((o:Int),(n:Int)),a,i',row,T,A,B,())):=by
 refine dL ?I ?m ?h _ ?hv ?hn
 case I=>exact (fun v=>∃(i':Int) (j':Int),i≤i'∧i'≤j'∧j'≤j∧v=(((o:Int),(n:Int)),a,i',j',row,T,A,B,()))
 case m=>exact (fun v=>(v.2.2.2.1-v.2.2.1).toNat)
 case hv=>exact ⟨i,j,Int.le_refl _,hi.2,Int.le_refl _,rfl⟩
 case hn=>exact (by (try dsimp only);omega)
 rintro v ⟨i',j',h1,h2,h3,rfl⟩;unfold j0a;dsimp only;simp only [Int.toNat_natCast];rw [k0e (by omega) (by omega) (by omega),qh (n:=(i'+j')/2+1) (by omega)];with_reducible repeat' (first|apply dP|apply dX<;>intro _)
 · refine dZ (k9m hA _ _) ?_
   rintro ⟨c,t,a',b',u⟩ hc;simp only [Prod.mk.injEq] at hc;obtain ⟨rfl,rfl,rfl,-⟩:=hc;dsimp only;with_reducible repeat' (first|apply dP|apply dX<;>intro _)
   · exact ⟨⟨_,_,by omega,by omega,by omega,rfl⟩,by (try dsimp only);omega⟩
   · exact ⟨⟨_,_,by omega,by omega,by omega,rfl⟩,by (try dsimp only);omega⟩
 · refine dO ?_;omega
 · refine dO ?_;omega
 · exact ⟨_,by omega,by omega,rfl⟩
theorem f2g (G:jk) (hA:A.length≤1000000000000) (o n:Nat) (a i j:Int) (row:List Int) (ha:0≤a∧a<n) (hi:0≤i∧i≤j) (hj:j≤n) (hn:n≤100000000000000) :
 Df (vw G (((o:Int),(n:Int)),a,i,j,row,T,A,B,())) (fun y=>∃(i':Int),i≤i'∧i'≤j∧y=(((o:Int),(n:Int)),a,i',row,T,A,B,())):=by
 refine dL ?I ?m ?h _ ?hv ?hn
 case I=>exact (fun v=>∃(i':Int) (j':Int),i≤i'∧i'≤j'∧j'≤j∧v=(((o:Int),(n:Int)),a,i',j',row,T,A,B,()))
 case m=>exact (fun v=>(v.2.2.2.1-v.2.2.1).toNat)
 case hv=>exact ⟨i,j,Int.le_refl _,hi.2,Int.le_refl _,rfl⟩
 case hn=>exact (by (try dsimp only);omega)
 rintro v ⟨i',j',h1,h2,h3,rfl⟩;unfold j0c;dsimp only;simp only [Int.toNat_natCast];rw [k0e (by omega) (by omega) (by omega),qh (n:=(i'+j')/2+1) (by omega)];with_reducible repeat' (first|apply dP|apply dX<;>intro _)
 · refine dZ (k9m hA _ _) ?_
   rintro ⟨c,t,a',b',u⟩ hc;simp only [Prod.mk.injEq] at hc;obtain ⟨rfl,rfl,rfl,-⟩:=hc;dsimp only;with_reducible repeat' (first|apply dP|apply dX<;>intro _)
   · exact ⟨⟨_,_,by omega,by omega,by omega,rfl⟩,by (try dsimp only);omega⟩
   · exact ⟨⟨_,_,by omega,by omega,by omega,rfl⟩,by (try dsimp only);omega⟩
 · refine dO ?_;omega
 · refine dO ?_;omega
 · exact ⟨_,by omega,by omega,rfl⟩
theorem f2f (G:jk) (o n:Nat) (i k:Int) (row:List Int) (hk:0≤k) (hi:i≤n) (hn:n≤100000000000000) (hi0:0≤i) :
 Df (vv G (((o:Int),(n:Int)),i,k,row,T,A,B,())) (fun y=>∃(r':List Int),r'.length=row.length∧y=(r',T,A,B,())):=by
 refine dL ?I ?m ?h _ ?hv ?hn
 case I=>exact (fun v=>∃(k':Int) (r':List Int),0≤k'∧r'.length=row.length∧v=(((o:Int),(n:Int)),i,k',r',T,A,B,()))
 case m=>exact (fun v=>(i-v.2.2.1).toNat)
 case hv=>exact ⟨k,row,hk,rfl,rfl⟩
 case hn=>exact (by (try dsimp only);omega)
 rintro v ⟨k',r',h1,h2,rfl⟩;unfold j0b;dsimp only;simp only [Int.toNat_natCast];rw [qh (n:=i-1) (by omega)];by_cases hlt:k'<i-1
 · rw [qh (n:=k'+1) (by omega)]
   with_reducible repeat' (first|apply dP|apply dX<;>intro _)
   · exact ⟨⟨_,_,by omega,by simp only [List.length_set];exact h2,rfl⟩,by (try dsimp only);omega⟩
   all_goals first|(refine dO ?_;omega)|(exfalso;omega)
 · rw [decide_eq_false hlt]
   exact dP ⟨_,h2,rfl⟩
theorem f2h (G:jk) (o n:Nat) (i k:Int) (row:List Int) (hk:k<n) (hi:0≤i) (hn:n≤100000000000000) :
 Df (vy G (((o:Int),(n:Int)),i,k,row,T,A,B,())) (fun y=>∃(r':List Int),r'.length=row.length∧y=(r',T,A,B,())):=by
 refine dL ?I ?m ?h _ ?hv ?hn
 case I=>exact (fun v=>∃(k':Int) (r':List Int),k'<n∧r'.length=row.length∧v=(((o:Int),(n:Int)),i,k',r',T,A,B,()))
 case m=>exact (fun v=>(v.2.2.1-i).toNat)
 case hv=>exact ⟨k,row,hk,rfl,rfl⟩
 case hn=>exact (by (try dsimp only);omega)
 rintro v ⟨k',r',h1,h2,rfl⟩;unfold j0d;dsimp only;simp only [Int.toNat_natCast];by_cases hlt:k'>i
 · rw [qh (n:=k'-1) (by omega)]
   with_reducible repeat' (first|apply dP|apply dX<;>intro _)
   · exact ⟨⟨_,_,by omega,by simp only [List.length_set];exact h2,rfl⟩,by (try dsimp only);omega⟩
   all_goals first|(refine dO ?_;omega)|(exfalso;omega)
 · rw [decide_eq_false hlt]
   exact dP ⟨_,h2,rfl⟩
theorem f2i (G:jk) (hA:A.length≤1000000000000) (o n:Nat) (a m b mid s st r p:Int) (row:List Int) (h0:0≤st∧st≤r) (hr:r≤n) (hp:0≤p-r+1∧p-st<n) (hn:n≤100000000000000) :
 Df (wc G (((o:Int),(n:Int)),a,m,b,mid,s,st,r,p,row,T,A,B,())) (fun y=>∃(st':Int),st≤st'∧st'≤r∧y=(((o:Int),(n:Int)),a,m,b,mid,s,st',row,T,A,B,())):=by
 refine dL ?I ?m ?h _ ?hv ?hn
 case I=>exact (fun v=>∃(i':Int) (j':Int),st≤i'∧i'≤j'∧j'≤r∧v=(((o:Int),(n:Int)),a,m,b,mid,s,i',j',p,row,T,A,B,()))
 case m=>exact (fun v=>(v.2.2.2.2.2.2.2.1-v.2.2.2.2.2.2.1).toNat)
 case hv=>exact ⟨st,r,Int.le_refl _,h0.2,Int.le_refl _,rfl⟩
 case hn=>exact (by (try dsimp only);omega)
 rintro v ⟨i',j',h1,h2,h3,rfl⟩;unfold j0e;dsimp only;simp only [Int.toNat_natCast];rw [k0e (by omega) (by omega) (by omega)];by_cases hlt:i'<j'
 · rw [qh (n:=(i'+j')/2+1) (by omega),qh (n:=p-(i'+j')/2) (by omega)]
   with_reducible repeat' (first|apply dP|apply dX<;>intro _)
   · refine dZ (k9m hA _ _) ?_
     rintro ⟨c,t,a',b',u⟩ hc;simp only [Prod.mk.injEq] at hc;obtain ⟨rfl,rfl,rfl,-⟩:=hc;dsimp only;with_reducible repeat' (first|apply dP|apply dX<;>intro _)
     · exact ⟨⟨_,_,by omega,by omega,by omega,rfl⟩,by (try dsimp only);omega⟩
     · exact ⟨⟨_,_,by omega,by omega,by omega,rfl⟩,by (try dsimp only);omega⟩
   all_goals first|(refine dO ?_;omega)|(exfalso;omega)
 · rw [decide_eq_false hlt]
   exact dP ⟨_,by omega,by omega,rfl⟩
def Mg (T:List R6) (A:List R4) (B:List R3) (G:jk) (o n:Nat) (k:Int):Prop:=∀(a m b:Int) (row:List Int),0≤a→a<m→m<b→b≤n→b-a<k →
 Df (G (((o:Int),(n:Int)),a,m,b,row,T,A,B,())) (fun y=>∃(r':List Int),r'.length=row.length∧y=(r',T,A,B,()))
theorem k9o (G:jk) (o n:Nat) (k:Int) (hG:Mg T A B G o n k) (b mid e:Int) (row:List Int) (h:0≤mid∧b≤n∧b-mid<k) :
 Df (xr G (((o:Int),(n:Int)),b,mid,e,row,T,A,B,())) (fun y=>∃(r':List Int),r'.length=row.length∧y=(r',T,A,B,())):=by
 show Df (q5l zm G yc _) _;unfold q5l;dsimp only;simp only [Int.toNat_natCast];with_reducible repeat' (first|apply dP|apply dX<;>intro _)
 · refine dZ (hG mid e b row (by omega) (by omega) (by omega) (by omega) (by omega)) ?_
   rintro y ⟨r',h,rfl⟩;exact dP ⟨_,h,rfl⟩
 · exact ⟨_,rfl,rfl⟩
 · exact ⟨_,rfl,rfl⟩
theorem k9p (G:jk) (o n:Nat) (k:Int) (hG:Mg T A B G o n k) (a b mid st e:Int) (row:List Int) (h0:0≤a∧mid≤n∧mid-a<k) (h:0≤mid∧b≤n∧b-mid<k) :
 Df (xt G (((o:Int),(n:Int)),a,b,mid,st,e,row,T,A,B,())) (fun y=>∃(r':List Int),r'.length=row.length∧y=(r',T,A,B,())):=by
 show Df (q5m zm G yc (xr G) _) _;unfold q5m;dsimp only;simp only [Int.toNat_natCast];have zg:∀r0:List Int,r0.length=row.length→Df ((xr G (((o:Int),(n:Int)),b,mid,e,r0,T,A,B,())).bind fun val=>some (val.fst,val.snd.fst,val.snd.snd.fst,val.snd.snd.snd.fst,())) (fun y=>∃(r':List Int),r'.length=row.length∧y=(r',T,A,B,())):=by
  intro r0 hr;refine dZ (k9o G o n k hG b mid e r0 h) ?_;rintro y ⟨r',h,rfl⟩;exact dP ⟨_,h.trans hr,rfl⟩
 with_reducible repeat' (first|apply dP|apply dX<;>intro _)
 · refine dZ (hG a st mid row (by omega) (by omega) (by omega) (by omega) (by omega)) ?_
   rintro y ⟨r',h,rfl⟩;exact zg r' h
 · exact zg row rfl
 · exact zg row rfl
theorem x5f (G:jk) (hA:A.length≤1000000000000) (o n:Nat) (k:Int) (hG:Mg T A B G o n k) (a m b mid s st r:Int) (row:List Int) (hn:n≤100000000000000) (hs:s=mid+m) (h0:0≤st∧st≤r) (hr:r≤n) (hp:0≤s-r∧s-st≤n)
 (ha:0≤a∧mid≤n∧mid-a<k) (h:0≤mid∧b≤n∧b-mid<k) (hm:m≤n) :
 Df (vr G (((o:Int),(n:Int)),a,m,b,mid,s,st,r,row,T,A,B,())) (fun y=>∃(r':List Int),r'.length=row.length∧y=(r',T,A,B,())):=by
 show Df (q5n zm G yc (xt G) (wc G) _) _;unfold q5n;dsimp only;simp only [Int.toNat_natCast];rw [qh (n:=s-1) (by omega)];refine dZ (f2i G hA o n a m b mid s st r (s-1) row h0 hr (by omega) hn) ?_;rintro y ⟨st',h1,h2,rfl⟩;dsimp only;simp only [Int.toNat_natCast];rw [qh (n:=s-st') (by omega)];have zg:∀r0:List Int,r0.length=row.length→Df ((xt G (((o:Int),(n:Int)),a,b,mid,st',s-st',r0,T,A,B,())).bind fun val=>some (val.fst,val.snd.fst,val.snd.snd.fst,val.snd.snd.snd.fst,())) (fun y=>∃(r':List Int),r'.length=row.length∧y=(r',T,A,B,())):=by
  intro r0 hr0;refine dZ (k9p G o n k hG a b mid st' (s-st') r0 ha h) ?_;rintro y ⟨r',h,rfl⟩;exact dP ⟨_,h.trans hr0,rfl⟩
 with_reducible repeat' (first|apply dP|apply dX<;>intro _)
 · refine dZ (d8t o n st' m (s-st') row (by omega) (by omega) hn) ?_
   rintro y ⟨r',h,rfl⟩;exact zg r' h
 · exact zg row rfl
 · exact zg row rfl
def q7c (G:jk):jk:=y1r zm G yc (vr G) (vt G) (vv G) (vw G) (vy G)
theorem g4q (hA:A.length≤1000000000000) (o n:Nat) (hn:n≤100000000000000):∀k:Nat,Mg T A B (q1x q7c k) o n (k:Int)
 | 0=>fun a m b row h0 h1 h2 h3 h4=>by omega
 | k+1=>fun a m b row h0 h1 h2 h3 h4=>by
  have hG:=g4q hA o n hn k;show Df (q7c (q1x q7c k) _) _;generalize q1x q7c k=G at hG ⊢;show Df (y1r zm G yc (vr G) (vt G) (vv G) (vw G) (vy G) _) _;unfold y1r;dsimp only;simp only [Int.toNat_natCast];rw [qh (n:=m-a) (by omega),qh (n:=b-m) (by omega),k0e (by omega) (by omega) (by omega),qh (n:=(a+b)/2+m) (by omega),qh (n:=(a+b)/2+m-b) (by omega)];have zg:∀{x:Option (List Int×List R6×List R4×List R3×Unit)},Df x (fun y=>∃(r':List Int),r'.length=row.length∧y=(r',T,A,B,()))→Df (x.bind fun val=>some (val.fst,val.snd.fst,val.snd.snd.fst,val.snd.snd.snd.fst,())) (fun y=>∃(r':List Int),r'.length=row.length∧y=(r',T,A,B,())):=by
   intro x hx;refine dZ hx ?_;rintro y ⟨r',h,rfl⟩;exact dP ⟨_,h,rfl⟩
  with_reducible repeat' (first|apply dP|apply dX<;>intro _)
  · refine dZ (f2e G hA o n a m b row (by omega) (by omega) (by omega) hn) ?_
    rintro y ⟨i',h5,h6,rfl⟩;dsimp only;simp only [Int.toNat_natCast];exact zg (f2f G o n i' a row (by omega) (by omega) hn (by omega))
  · refine dZ (f2g G hA o n m a m row (by omega) (by omega) (by omega) hn) ?_
    rintro y ⟨i',h5,h6,rfl⟩;dsimp only;simp only [Int.toNat_natCast];exact zg (f2h G o n i' m row (by omega) (by omega) hn)
  · exact zg (x5f G hA o n k hG a m b ((a+b)/2) ((a+b)/2+m) ((a+b)/2+m-b) ((a+b)/2) row hn rfl (by omega) (by omega) (by omega) (by omega) (by omega) (by omega))
  · exact zg (x5f G hA o n k hG a m b ((a+b)/2) ((a+b)/2+m) a m row hn rfl (by omega) (by omega) (by omega) (by omega) (by omega) (by omega))
theorem b4t (hA:A.length≤1000000000000) (o n:Nat) (hn:n≤100000000000000) (a m b:Int) (row:List Int) (h0:0≤a) (h1:a<m) (h2:m<b) (h3:b≤n) :
 Df (j6f (((o:Int),(n:Int)),a,m,b,row,T,A,B,())) (fun y=>∃(r':List Int),r'.length=row.length∧y=(r',T,A,B,())):=by
 show Df (q1x q7c je _) _;exact g4q hA o n hn je a m b row h0 h1 h2 h3 (by unfold je;omega)
theorem f1z (hA:A.length≤1000000000000) (o n:Nat) (hn:n≤100000000000000) (row:List Int) :
 Df (q9u (((o:Int),(n:Int)),(n:Int),20,0,20,row,T,A,B,())) (fun y=>∃(a:Int) (r':List Int),0≤a∧a≤n∧r'.length=row.length∧y=(((o:Int),(n:Int)),(n:Int),20,a,r',T,A,B,())):=by
 refine dL ?I ?m ?h _ ?hv ?hn
 case I=>exact (fun v=>∃(a:Int) (r':List Int),0≤a∧a≤n∧r'.length=row.length∧v=(((o:Int),(n:Int)),(n:Int),20,a,a+20,r',T,A,B,()))
 case m=>exact (fun v=>(n-v.2.2.2.1).toNat)
 case hv=>exact ⟨0,row,Int.le_refl _,by omega,rfl,rfl⟩
 case hn=>exact (by (try dsimp only);omega)
 rintro v ⟨a,r',h1,h2,h3,rfl⟩;unfold j8c;dsimp only;simp only [Int.toNat_natCast];rw [qh (n:=a+20+20) (by omega)];with_reducible repeat' (first|apply dP|apply dX<;>intro _)
 · refine dZ (b4s hA o n a (a+20) r' (by omega) (by omega) hn) ?_
   rintro y ⟨r2,h4,rfl⟩;exact dP ⟨⟨a+20,r2,by omega,by omega,h4.trans h3,rfl⟩,by (try dsimp only);omega⟩
 · exact ⟨_,_,h1,h2,h3,rfl⟩
theorem f2a (hA:A.length≤1000000000000) (o n:Nat) (hn:n≤100000000000000) (bs:Int) (hbs:1≤bs∧bs≤n) (row:List Int) :
 Df (q9v (((o:Int),(n:Int)),(n:Int),bs,0,2*bs,row,T,A,B,())) (fun y=>∃(a:Int) (r':List Int),0≤a∧a≤n∧r'.length=row.length∧y=(((o:Int),(n:Int)),(n:Int),bs,a,r',T,A,B,())):=by
 refine dL ?I ?m ?h _ ?hv ?hn
 case I=>exact (fun v=>∃(a:Int) (r':List Int),0≤a∧a≤n∧r'.length=row.length∧v=(((o:Int),(n:Int)),(n:Int),bs,a,a+2*bs,r',T,A,B,()))
 case m=>exact (fun v=>(n-v.2.2.2.1).toNat)
 case hv=>exact ⟨0,row,Int.le_refl _,by omega,rfl,by rw [Int.zero_add]⟩
 case hn=>exact (by (try dsimp only);omega)
 rintro v ⟨a,r',h1,h2,h3,rfl⟩;unfold j8d;dsimp only;simp only [Int.toNat_natCast];rw [qh (n:=2*bs) (by omega),qh (n:=a+bs) (by omega),qh (n:=a+2*bs+2*bs) (by omega)];with_reducible repeat' (first|apply dP|apply dX<;>intro _)
 · refine dZ (b4t hA o n hn a (a+bs) (a+2*bs) r' (by omega) (by omega) (by omega) (by omega)) ?_
   rintro y ⟨r2,h4,rfl⟩;exact dP ⟨⟨a+2*bs,r2,by omega,by omega,h4.trans h3,rfl⟩,by (try dsimp only);omega⟩
 · exact ⟨_,_,h1,h2,h3,rfl⟩
theorem d8m (hA:A.length≤1000000000000) (o n:Nat) (hn:n≤100000000000000) (row:List Int) :
 Df (y5x (((o:Int),(n:Int)),(n:Int),row,T,A,B,())) (fun y=>∃(r':List Int),r'.length=row.length∧y=(r',T,A,B,())):=by
 unfold y5x k6d;dsimp only;simp only [Int.toNat_natCast];refine dZ (f1z hA o n hn row) ?_;rintro y ⟨a,r1,h1,h2,h3,rfl⟩;dsimp only;simp only [Int.toNat_natCast];refine dZ (b4s hA o n a n r1 (by omega) (by omega) hn) ?_;rintro y ⟨r2,h4,rfl⟩;dsimp only;refine dZ (P:=fun y=>∃(r':List Int),r'.length=row.length∧y=(r',T,A,B,())) ?_ ?_
 · refine dL ?I ?m ?h _ ?hv ?hn
   case I=>exact (fun v=>∃(bs:Int) (r':List Int),1≤bs∧bs≤400000000000000∧r'.length=row.length∧v=(((o:Int),(n:Int)),(n:Int),bs,r',T,A,B,()))
   case m=>exact (fun v=>(n-v.2.2.1).toNat)
   case hv=>exact ⟨20,r2,by omega,by omega,h4.trans h3,rfl⟩
   case hn=>exact (by (try dsimp only);omega)
   rintro v ⟨bs,r',h5,h6,h7,rfl⟩;unfold j8e;dsimp only;simp only [Int.toNat_natCast];rw [qh (n:=2*bs) (by omega)];with_reducible repeat' (first|apply dP|apply dX<;>intro _)
   · refine dZ (f2a hA o n hn bs (by omega) r') ?_
     rintro y ⟨a,r3,h8,h9,h10,rfl⟩;dsimp only;simp only [Int.toNat_natCast];rw [qh (n:=a+bs) (by omega),qh (n:=bs*2) (by omega)];with_reducible repeat' (first|apply dP|apply dX<;>intro _)
     · refine dZ (b4t hA o n hn a (a+bs) n r3 (by omega) (by omega) (by omega) (by omega)) ?_
       rintro y ⟨r4,h11,rfl⟩;exact dP ⟨⟨_,_,by omega,by omega,(h11.trans h10).trans h7,rfl⟩,by (try dsimp only);omega⟩
     · exact ⟨⟨_,_,by omega,by omega,h10.trans h7,rfl⟩,by (try dsimp only);omega⟩
   · exact ⟨_,h7,rfl⟩
 · rintro y ⟨r',h,rfl⟩
   exact dP ⟨_,h,rfl⟩
theorem d7y (hA:A.length≤1000000000000) (o n:Nat) (hn:n≤100000000000000) (row:List Int) :
 Df (j6e (((o:Int),(n:Int)),row,T,A,B,())) (fun y=>∃(r':List Int),r'.length=row.length∧y=(r',T,A,B,())):=by
 unfold j6e k5n;dsimp only;simp only [Int.toNat_natCast];refine dZ (d8m hA o n hn row) ?_;rintro y ⟨r',h,rfl⟩;exact dP ⟨_,h,rfl⟩
theorem f1n (hA:A.length≤1000000000000) (f k:Int) (row:List Int) (hf:0≤f∧f≤k) (hk:k≤row.length) (hn:row.length≤35184372088832) :
 Df (wa (f,k,T,A,B,row,())) (fun y=>∃(r':List Int),r'.length=row.length∧y=(k+1,k,T,A,B,r',())):=by
 unfold wa j7s;dsimp only;rw [qh (n:=k+1) (by omega)];with_reducible repeat' (first|apply dP|apply dX<;>intro _)
 · refine dZ (d7y hA f.toNat (k.toNat-f.toNat) (by omega) row) ?_
   rintro y ⟨r',h,rfl⟩;exact dP ⟨_,h,rfl⟩
 · refine dO ?_;omega
 · refine dO ?_;omega
theorem b4h (hA:A.length≤1000000000000) (l:List Int) (hl:l.length≤35184372088832):Df (y5t (T,A,B,l,())) (fun y=>y.1.length=l.length):=by
 unfold y5t k4x;dsimp only;refine dZ (P:=fun y=>y.1=l) ?_ ?_
 · unfold z2w
   dsimp only;with_reducible repeat' (first|apply dP|apply dX<;>intro _)
   · rfl
   · refine dO ?_;omega
 rintro ⟨l',u⟩ hl';dsimp only at hl' ⊢;subst hl';refine dZ (P:=fun y=>y.1.length=l'.length) ?_ (fun _ h=>dP h);refine dL ?I ?m ?h _ ?hv ?hn
 case I=>exact (fun v=>∃(f:Int) (k:Int) (r':List Int),0≤f∧f≤k∧k≤l'.length+1∧r'.length=l'.length∧v=(f,k,T,A,B,r',()))
 case m=>exact (fun v=>(l'.length+1-v.2.1).toNat)
 case hv=>exact ⟨0,0,l',Int.le_refl _,Int.le_refl _,by omega,rfl,rfl⟩
 case hn=>exact (by (try dsimp only);omega)
 rintro v ⟨f,k,r',h1,h2,h3,h4,rfl⟩;unfold j7t;dsimp only;rw [qh (n:=k+1) (by omega)];have zg:k≤r'.length→Df ((wa (f,k,T,A,B,r',())).bind fun val=>some (Sum.inl (val.fst,IntKind.i64.wrap (val.snd.fst+1),val.snd.snd.fst,val.snd.snd.snd.fst,val.snd.snd.snd.snd.fst,val.snd.snd.snd.snd.snd.fst,())))
  (Sum.elim (fun v':Int×Int×List R6×List R4×List R3×List Int×Unit=>(∃(f:Int) (k:Int) (r':List Int),0≤f∧f≤k∧k≤l'.length+1∧r'.length=l'.length∧v'=(f,k,T,A,B,r',()))∧(l'.length+1-v'.2.1).toNat<(l'.length+1-k).toNat) (fun y:List Int×Unit=>y.1.length=l'.length)):=by
  intro hk;refine dZ (f1n hA f k r' (by omega) hk (by omega)) ?_;rintro y ⟨r2,h5,rfl⟩;dsimp only;rw [qh (n:=k+1) (by omega)];exact dP ⟨⟨_,_,_,by omega,by omega,by omega,h5.trans h4,rfl⟩,by (try dsimp only);omega⟩
 with_reducible repeat' (first|apply dP|apply dX<;>intro _)
 · refine dZ (v7i T A B _ hA) ?_
   rintro ⟨c,u⟩ -
   dsimp only;with_reducible repeat' (first|apply dP|apply dX<;>intro _)
   · exact ⟨⟨_,_,_,by omega,by omega,by omega,h4,rfl⟩,by (try dsimp only);omega⟩
   · exact zg (by omega)
 · refine dO ?_;omega
 · exact zg (by omega)
 · exact h4
end
section
variable {T:List R6} {A:List R4} {B:List R3}
theorem z1r (f:Int→Option Int) (h:∀x,∃y,f x=some y):∀l:List (Int×Int),∃y,z9p f l=some y
 | []=>⟨0,rfl⟩
 | x::l=>by
  obtain ⟨b,hb⟩:=h x.2;simp only [z9p,hb,Option.bind_some];cases (b != 6) with
  | true=>exact ⟨b,rfl⟩
  | false=>exact z1r f h l
theorem d6t (h:TK T A B) (l:List Int) (hl:l.length≤1000000000000):Df (j6b (T,A,B,l,())) (fun _=>True):=by
 unfold j6b;dsimp only;rw [decide_eq_true hl];obtain ⟨y,hy⟩:=z1r (fun x=>(q7n (T,A,B,x,())).map fun r=>r.1) (fun x=>by
  obtain ⟨y,e,-⟩:=f1h T A B x h.t;exact ⟨y.1,by simp only [e,Option.map_some]⟩) (bk l)
 exact ⟨(y,()),by simp only [cond_true,hy,Option.map_some],trivial⟩
theorem d6m (h:TK T A B) (l:List Int) (hl:l.length≤1000000000000):Df (v2j (T,A,B,l,())) (fun _=>True):=by
 unfold v2j g7w;dsimp only;refine dZ (b4b h l hl) ?_;rintro ⟨z0,z1,z2,z3,z4,z5,z6,z7,u⟩ -
 refine dZ (d6t h l hl) ?_;rintro ⟨e,u⟩ -
 refine dZ (d6u h l) ?_;rintro ⟨s,u⟩ -
 dsimp only;with_reducible repeat' (first|apply dP|apply dX<;>intro _)
 · exact dZ (v7e _ _ _ rfl) fun _ _=>dP trivial
 · exact dZ (v7e _ _ _ rfl) fun _ _=>dP trivial
 · refine dZ (b3x h l hl) ?_
   rintro ⟨b,u⟩ -
   dsimp only;with_reducible repeat' (first|apply dP|apply dX<;>intro _)
   all_goals trivial
 · trivial
theorem d7s (h:TK T A B) (l:List Int) (hl:l.length≤1000000000000):Df (v2r (T,A,B,l,())) (fun y=>y.2=(T,A,B,l,())):=by
 unfold v2r g8b;dsimp only;refine dZ (b3x h l hl) ?_;rintro ⟨b,u⟩ -
 dsimp only;with_reducible repeat' (first|apply dP|apply dX<;>intro _)
 · exact dZ (d6m h l hl) fun _ _=>dP rfl
 · rfl
theorem d7a (h:TK T A B) (s:List UInt8) (a b:Bool) (hs:s.length≤100000000000):Df (y5q (T,A,B,s,a,b,())) (fun y=>y.1.length≤384*s.length):=by
 unfold y5q k4n;dsimp only;refine dZ (d83 s (by omega)) ?_;rintro ⟨l,at_,u⟩ hl;dsimp only at hl ⊢;with_reducible repeat' (first|apply dP|apply dX<;>intro _)
 · exact (by simp:([]:List UInt8).length≤384*s.length)
 · refine dZ (b4i T A B l a (by omega)) ?_
   rintro ⟨l2,u⟩ h2;dsimp only at h2 ⊢;refine dZ (b4h h.a l2 (by omega)) ?_;rintro ⟨l3,u⟩ h3;dsimp only at h3 ⊢;with_reducible repeat' (first|apply dP|apply dX<;>intro _)
   · refine dZ (b4j T A B l3 (by omega) h.a) ?_
     rintro ⟨l4,u⟩ h4;dsimp only at h4 ⊢;refine dZ (v1b l4 (by omega)) ?_;rintro ⟨s5,b5,u⟩ h5;exact dP (by dsimp only at h5 ⊢;omega)
   · refine dZ (v1b l3 (by omega)) ?_
     rintro ⟨s5,b5,u⟩ h5;exact dP (by dsimp only at h5 ⊢;omega)
theorem f1f (h:TK T A B) (s:List UInt8) (hs:s.length≤100000000000):Df (z6b (T,A,B,s,())) (fun y=>y.1.length≤384*s.length):=by
 unfold z6b k4h;dsimp only;refine dZ (d7a h s false true hs) ?_;rintro ⟨x,b,u⟩ hx;exact dP hx
theorem k9j (h:TK T A B) (s:List UInt8) (hs:s.length≤10000000000):Df (j9n (T,A,B,s,())) (fun y=>y.1.length≤1536*s.length):=by
 unfold j9n v4u;dsimp only;refine dZ (d83 s (by omega)) ?_;rintro ⟨l,at_,u⟩ hl;dsimp only at hl ⊢;with_reducible repeat' (first|apply dP|apply dX<;>intro _)
 · exact (by simp:([]:List UInt8).length≤1536*s.length)
 · refine dZ (b4a T A B l (by omega)) ?_
   rintro ⟨l2,u⟩ h2;dsimp only at h2 ⊢;refine dZ (b3z T A B h.b l2 (by omega)) ?_;rintro ⟨l3,u⟩ h3;dsimp only at h3 ⊢;refine dZ (v1b l3 (by omega)) ?_;rintro ⟨s4,b4,u⟩ h4;dsimp only at h4 ⊢;refine dZ (f1f h s4 (by omega)) ?_;rintro ⟨s5,b5,u⟩ h5;exact dP (by dsimp only at h5 ⊢;omega)
theorem f1a (a b:List UInt8):Df (y0z (a,b,())) (fun y=>y.1=true→b.length≤a.length):=by
 unfold y0z k3q;dsimp only;with_reducible repeat' (first|apply dP|apply dX<;>intro _)
 · intro _;dsimp only at *;omega
 · refine dO ?_;omega
 · intro h;cases h
theorem d6r (a b:List UInt8):Df (x7g (a,b,())) (fun y=>y.1.length≤a.length):=by
 unfold x7g k4f;dsimp only;refine dZ (f1a a b) ?_;rintro ⟨x,u⟩ hx;dsimp only at hx ⊢;with_reducible repeat' (first|apply dP|apply dX<;>intro _)
 · exact Nat.le_refl _
 · exact (by simp:(List.drop _ a).length≤a.length)
 · rename_i h1 h2
   have:=hx h1;refine dO ?_;omega
theorem b3w (a b:List UInt8):Df (y5m (a,b,())) (fun y=>y.1.length≤a.length):=by
 unfold y5m k3r;dsimp only;refine dZ (d6r a b) ?_;rintro ⟨x,b,u⟩ hx;exact dP hx
theorem d96 (a b:List UInt8):Df (C96 (a,b,())) (fun _=>True):=by
 unfold C96 F96;dsimp only;exact dZ (f1a a b) fun _ _=>dP trivial
theorem d8r (a b:List UInt8) (ha:a.length≤1000000000000000) (hb:b.length≤1000000000000000):Df (v3b (a,b,())) (fun _=>True):=by
 unfold v3b g8i;dsimp only;rw [qh (n:=(a.length:Int)-(b.length:Int)) (by omega)];with_reducible repeat' (first|apply dP|apply dX<;>intro _)
 · trivial
 · refine dO ?_;omega
 · trivial
theorem d8i (a b:List UInt8) (ha:a.length≤1000000000000000) (hb:b.length≤1000000000000000):Df (v2x (a,b,())) (fun _=>True):=by
 unfold v2x g8g;dsimp only;exact dZ (d8r a b ha hb) fun _ _=>dP trivial
theorem b4n (a:List UInt8) (ha:a.length≤1000000000000000):Df (y5v (a,())) (fun _=>True):=by
 unfold y5v g8a;dsimp only;refine dZ (d96 _ _) ?_;rintro ⟨x,u⟩ -
 dsimp only;with_reducible repeat' (first|apply dP|apply dX<;>intro _)
 · trivial
 · refine dZ (d8i _ _ ha (by simp)) ?_
   rintro ⟨x,u⟩ -
   dsimp only;with_reducible repeat' (first|apply dP|apply dX<;>intro _)
   · trivial
   · trivial
   · refine dO ?_;omega
   · trivial
theorem d7o (a:List UInt8) (ha:a.length≤1000000000000000):Df (y5u (a,())) (fun y=>y.2.1=a):=by
 unfold y5u k5h;dsimp only;exact dZ (b4n a ha) fun _ _=>dP rfl
theorem d7n (h:TK T A B) (s:List UInt8) (hs:s.length≤100000000000):Df (v2q (T,A,B,s,())) (fun _=>True):=by
 unfold v2q g7z;dsimp only;refine dZ (f1f h s hs) ?_;rintro ⟨x,b,u⟩ -
 dsimp only;with_reducible repeat' (first|apply dP|apply dX<;>intro _)
 all_goals trivial
theorem d7m (h:TK T A B) (s:List UInt8) (hs:s.length≤100000000000):Df (y1k (s,T,A,B,())) (fun y=>y.2=(s,T,A,B,())∧(y.1=false→0<s.length)):=by
 unfold y1k v5b;dsimp only;refine dZ (d21 s (by omega)) ?_;rintro ⟨x,u⟩ hx;dsimp only at hx ⊢;with_reducible repeat' (first|apply dP|apply dX<;>intro _)
 · exact ⟨rfl,fun h=>by cases h⟩
 · refine dZ (d7n h s hs) ?_
   rintro ⟨x,u⟩ -
   exact dP ⟨rfl,fun _=>by omega⟩
theorem d7p (h:TK T A B) (l:List Int) (hl:0<l.length):Df (y5w (T,A,B,l,())) (fun y=>y.2=(T,A,B,l,())):=by
 unfold y5w k5i;dsimp only;with_reducible repeat' (first|apply dP|apply dX<;>intro _)
 · exact dZ (b4d T A B _ h.t) fun _ _=>dP rfl
 · refine dO ?_;omega
theorem d7l (a:Int):Df (v2p (a,())) (fun y=>y.2.1=a∧(y.1=false→a<0)):=by
 unfold v2p g7y;dsimp only;refine dP ⟨rfl,fun h => ?_⟩;dsimp only at h;simp only [decide_eq_false_iff_not] at h;omega
theorem d7t (l:List Int) (a:List UInt8) (b:Bool) (hl:l.length≤1000000000000):Df (v2s (l,a,b,())) (fun y=>y.2.1=l):=by
 unfold v2s g8c;dsimp only;exact dZ (f1i l hl) fun _ _=>dP rfl
theorem d7u (a:List UInt8):Df (v2t (a,())) (fun _=>True):=by
 unfold v2t g8d;dsimp only;exact dP trivial
theorem d7k (h:TK T A B) (a0 a1 a2 a3 a4 a5 a6 a7:Int) (at_:Int) (s:List UInt8) (l:List Int) (c:List UInt8) (d:Bool) (hs:s.length≤100000000000) (hl:l.length≤100000000000) (h0:at_<0→0<s.length→0<l.length) :
 Df (y1j (a0,a1,a2,a3,a4,a5,a6,a7,at_,s,T,A,B,l,c,d,())) (fun _=>True):=by
 unfold y1j v5a;dsimp only;refine dZ (d7l at_) ?_;rintro ⟨b,at',u⟩ hb;dsimp only at hb ⊢;obtain ⟨rfl,hb⟩:=hb;with_reducible repeat' (first|apply dP|apply dX<;>intro _)
 · trivial
 · rename_i h1
   refine dZ (d7m h s hs) ?_;rintro ⟨b2,y⟩ ⟨hy,h2⟩;dsimp only at hy h2;subst hy;dsimp only;with_reducible repeat' (first|apply dP|apply dX<;>intro _)
   · trivial
   · rename_i h3
     refine dZ (d7o s (by omega)) ?_;rintro ⟨b3,s',u⟩ hs';dsimp only at hs' ⊢;with_reducible repeat' (first|apply dP|apply dX<;>intro _)
     · trivial
     · refine dZ (d7p h l (h0 (hb h1) (h2 h3))) ?_
       rintro ⟨b4,y⟩ hy;dsimp only at hy;subst hy;dsimp only;with_reducible repeat' (first|apply dP|apply dX<;>intro _)
       · trivial
       · refine dZ (d7q h l (by omega)) ?_
         rintro ⟨b5,y⟩ hy;dsimp only at hy;subst hy;dsimp only;with_reducible repeat' (first|apply dP|apply dX<;>intro _)
         · trivial
         · refine dZ (d7s h l (by omega)) ?_
           rintro ⟨b6,y⟩ hy;dsimp only at hy;subst hy;dsimp only;with_reducible repeat' (first|apply dP|apply dX<;>intro _)
           · trivial
           · refine dZ (d7t l c d (by omega)) ?_
             rintro ⟨b7,l',c',d',u⟩ -
             dsimp only;with_reducible repeat' (first|apply dP|apply dX<;>intro _)
             · trivial
             · refine dZ (d7u _) ?_
               rintro ⟨b8,c8,u⟩ -
               dsimp only;with_reducible repeat' (first|apply dP|apply dX<;>intro _)
               all_goals trivial
theorem b4f (h:TK T A B) (s:List UInt8) (hs:s.length≤100000000000):Df (z6k (T,A,B,s,())) (fun _=>True):=by
 unfold z6k v4z;dsimp only;refine dZ (d83 s (by omega)) ?_;rintro ⟨l,at_,u⟩ hl;dsimp only at hl ⊢;refine dZ (d7k h _ _ _ _ _ _ _ _ at_ s l _ _ hs (by omega) hl.2.2) ?_;rintro ⟨e,y⟩ -
 exact dP trivial
theorem f1r (a:Int) (b:Bool):Df (q9n (a,b,())) (fun _=>True):=by
 unfold q9n z7t;dsimp only;with_reducible repeat' (first|apply dP|apply dX<;>intro _)
 all_goals trivial
theorem f1s (a:Int) (b:Bool):Df (q9o (a,b,())) (fun _=>True):=by
 unfold q9o z7u;dsimp only;with_reducible repeat' (first|apply dP|apply dX<;>intro _)
 all_goals first|trivial|exact dZ (f1r _ _) fun _ _=>dP trivial
theorem d7v (a:Int):Df (j9s (a,())) (fun _=>True):=by
 unfold j9s g8e;dsimp only;with_reducible repeat' (first|apply dP|apply dX<;>intro _)
 all_goals (refine dZ (f1s _ _) ?_;rintro ⟨x,u⟩ -;dsimp only;(repeat' (first|with_reducible apply dP|(with_reducible apply dB<;>intro _)));all_goals trivial)
theorem d6n (s:List UInt8) (b:Bool) (hs:s.length≤1000000000000000):Df (y5n (s,b,())) (fun _=>True):=by
 unfold y5n k4a;dsimp only;refine dZ (P:=fun _=>True) ?_ (fun z _=>by cases z<;>exact dP trivial);refine dL ?I ?m ?h _ ?hv ?hn
 case I=>exact (fun v=>v.2.1.1=s∧0≤v.2.1.2)
 case m=>exact (fun v=>s.length-v.2.1.2.toNat)
 case hv=>exact ⟨rfl,Int.le_refl _⟩
 case hn=>exact (by (try dsimp only);omega)
 · rintro ⟨x0,⟨x1,p⟩,u⟩ hI
   dsimp only at hI;obtain ⟨rfl,h0⟩:=hI;unfold j7j;dsimp only;with_reducible repeat' (first|apply dP|apply dX<;>intro _)
   · refine dZ (d7v _) ?_
     rintro ⟨x,u⟩ -
     dsimp only;have:=z1p x1 p.toNat
     with_reducible repeat' (first|apply dP|apply dX<;>intro _)
     · trivial
     · exact ⟨⟨rfl,by (try dsimp only);omega⟩,by (try dsimp only);omega⟩
   · trivial
end
section
variable {T:List R6} {A:List R4} {B:List R3}
theorem d84 (s:List UInt8) (hs:s.length≤1000000000000000):Df (C84 (s,())) (fun _=>True):=by
 unfold C84 F84;dsimp only;refine dZ (P:=fun _=>True) ?_ (fun _ _=>dP trivial);unfold v2g k3m;dsimp only;exact dZ (d6n s true hs) fun _ _=>dP trivial
theorem d7d (s:List UInt8) (hs:s.length≤1000000000000000):Df (y1g (s,())) (fun _=>True):=by
 unfold y1g k4t;dsimp only;refine dZ (P:=fun _=>True) ?_ (fun _ _=>dP trivial);unfold j9r z7s;dsimp only;refine dZ (P:=fun y=>y.2.1=s) (dP rfl) ?_;rintro ⟨b,s1,u⟩ h1;dsimp only at h1 ⊢;subst h1;with_reducible repeat' (first|apply dP|apply dX<;>intro _)
 · trivial
 · refine dZ (P:=fun y=>y.2.1=s1) (dP rfl) ?_
   rintro ⟨b,s2,u⟩ h2;dsimp only at h2 ⊢;subst h2;with_reducible repeat' (first|apply dP|apply dX<;>intro _)
   · trivial
   · refine dZ (P:=fun y=>y.2.1=s2) ?_ ?_
     · unfold v2u k5j
       dsimp only;exact dZ (d84 s2 hs) fun _ _=>dP rfl
     rintro ⟨b,s3,u⟩ h3;dsimp only at h3 ⊢;subst h3;with_reducible repeat' (first|apply dP|apply dX<;>intro _)
     · trivial
     · refine dZ (P:=fun _=>True) ?_ ?_
       · unfold k2y g8f
         dsimp only;exact dZ (b4n s3 hs) fun _ _=>dP trivial
       rintro ⟨b,s4,u⟩ -
       dsimp only;with_reducible repeat' (first|apply dP|apply dX<;>intro _)
       all_goals trivial
theorem w6y (n:Int):IntKind.u8.wrap n=n%256:=by simp [IntKind.wrap,IntKind.bits,IntKind.signed]
theorem v7k (x:Int) (b:Bool) (hb:b=true→65≤x∧x≤90):Df (q9s (x,b,())) (Sum.elim (fun y=>0≤y.1∧y.1≤35) (fun _=>True)):=by
 unfold q9s z7z;dsimp only;with_reducible repeat' (first|apply dP|apply dX<;>intro _)
 · rename_i h1
   have:=hb h1;rw [w6y,k2t];exact ⟨by (try dsimp only);omega,by (try dsimp only);omega⟩
 · rw [w6y,k2t]
   exact ⟨by (try dsimp only);omega,by (try dsimp only);omega⟩
 all_goals trivial
theorem v7l (x:Int) (b:Bool) (hb:b=true→48≤x∧x≤57):Df (q9t (x,b,())) (Sum.elim (fun y=>0≤y.1∧y.1≤35) (fun _=>True)):=by
 unfold q9t z8a;dsimp only;with_reducible repeat' (first|apply dP|apply dX<;>intro _)
 · rename_i h1
   have:=hb h1;rw [w6y,k2t,k2t];exact ⟨by (try dsimp only);omega,by (try dsimp only);omega⟩
 · refine dZ (v7k x _ (fun h=>by simp only [decide_eq_true_eq] at h;omega)) ?_
   intro z hz;exact dS hz (fun a ha=>dP ha) (fun _ _=>dP trivial)
 · refine dZ (v7k x _ (fun h=>by cases h)) ?_
   intro z hz;exact dS hz (fun a ha=>dP ha) (fun _ _=>dP trivial)
theorem d8j (x:Int):Df (j4a (x,())) (fun y=>y.2.1=true→0≤y.1∧y.1≤35):=by
 unfold j4a g8h;dsimp only;with_reducible repeat' (first|apply dP|apply dX<;>intro _)
 · refine dZ (v7l x _ (fun h=>by simp only [decide_eq_true_eq] at h;omega)) ?_
   intro z hz;exact dS hz (fun a ha=>dP fun _=>ha) (fun _ _=>dP fun h=>by cases h)
 · refine dZ (v7l x _ (fun h=>by cases h)) ?_
   intro z hz;exact dS hz (fun a ha=>dP fun _=>ha) (fun _ _=>dP fun h=>by cases h)
theorem f1t (s:List UInt8) (b:Int) (hs:s.length≤1000000000000):Df (j6y (s,b,0,1,(s.length:Int),0,())) (Sum.elim (fun _=>True) (Sum.elim (fun _=>True) (fun y=>0≤y.1∧y.1≤2147483647∧y.2.1.length<s.length))):=by
 refine dL ?I ?m ?h _ ?hv ?hn
 case I=>exact (fun v=>v.1=s∧0≤v.2.2.1∧v.2.2.1≤2147483647∧0≤v.2.2.2.1∧v.2.2.2.1≤75161927645∧v.2.2.2.2.1=s.length∧0≤v.2.2.2.2.2.1∧v.2.2.2.2.2.1≤s.length)
 case m=>exact (fun v=>(s.length-v.2.2.2.2.2.1).toNat)
 case hv=>exact ⟨rfl,by (try dsimp only);omega,by (try dsimp only);omega,by (try dsimp only);omega,by (try dsimp only);omega,rfl,by (try dsimp only);omega,by (try dsimp only);omega⟩
 case hn=>exact (by (try dsimp only);omega)
 rintro ⟨x0,x1,x2,x3,x4,x5,u⟩ hI;dsimp only at hI;obtain ⟨rfl,h0,h1,h2,h3,rfl,h4,h5⟩:=hI;unfold j7z;dsimp only;with_reducible repeat' (first|apply dP|apply dX<;>intro _)
 · refine dZ (d8j _) ?_
   rintro ⟨d,ok,u⟩ hd;dsimp only at hd ⊢;refine dH (fun _=>dP trivial) (fun hok => ?_);refine dD (fun _=>dP trivial) (fun hw => ?_)
   · have hd':=hd hok
     have p0:0≤d*x3:=Int.mul_nonneg hd'.1 h2;have p1:d*x3≤35*x3:=Int.mul_le_mul_of_nonneg_right hd'.2 h2;generalize d*x3=P at p0 p1 ⊢;rw [qh (n:=P) (by omega),qh (n:=x2+P) (by omega),qh (n:=x5+1) (by omega)];with_reducible repeat' (first|apply dP|apply dX<;>intro _)
     · trivial
     · refine dZ (f1x _ _) ?_
       rintro ⟨t,u⟩ ht;dsimp only at ht ⊢;have q0:0≤x3*(36-t):=Int.mul_nonneg h2 (by omega);have q1:x3*(36-t)≤x3*35:=Int.mul_le_mul_of_nonneg_left (by omega) h2;rw [qh (n:=36-t) (by omega)];generalize x3*(36-t)=R at q0 q1 ⊢;rw [qh (n:=R) (by omega)];with_reducible repeat' (first|apply dP|apply dX<;>intro _)
       · refine ⟨by (try dsimp only);omega,by (try dsimp only);omega,?_⟩
         simp only [List.length_drop];omega
       · refine dO ?_;omega
       · exact ⟨⟨rfl,by (try dsimp only);omega,by (try dsimp only);omega,by (try dsimp only);omega,by (try dsimp only);omega,rfl,by (try dsimp only);omega,by (try dsimp only);omega⟩,by (try dsimp only);omega⟩
 · refine dO ?_;omega
 · trivial
theorem b4o (s:List UInt8) (b:Int) (hs:s.length≤1000000000000):Df (j6d (s,b,())) (fun y=>y.1<0∨(0≤y.1∧y.1≤2147483647∧y.2.1.length<s.length)):=by
 unfold j6d k5l;dsimp only;refine dZ (f1t s b hs) ?_;intro z hz;refine dS hz ?_ ?_
 · intro u _
   exact dP (.inl (by (try dsimp only);omega))
 · intro z2 hz2
   refine dS hz2 ?_ ?_
   · intro u _
     refine dZ (P:=fun y=>y.1<0) ?_ ?_
     · refine dL ?I ?m ?h _ ?hv ?hn
       case I=>exact (fun _=>True)
       case m=>exact (fun _=>0)
       case hv=>exact trivial
       case hn=>exact (by (try dsimp only);omega)
       intro v _;unfold q9z;exact dP (by decide:(-1:Int)<0)
     · rintro ⟨a,b,u⟩ h
       exact dP (.inl h)
   · rintro ⟨a,b,u⟩ h
     exact dP (.inr h)
theorem d7x (i:Int) (l:List Int) (x:Int) (hi:0≤i∧i≤l.length) (hl:l.length≤1000000000000):Df (j3z (i,l,[x],())) (fun y=>y.1.length=l.length+1):=by
 unfold j3z;dsimp only;rw [decide_eq_true hi.1,decide_eq_true hi.2,decide_eq_true hl];refine dP ?_;simp only [List.length_append,List.length_take,List.length_drop,List.length_cons,List.length_nil];omega
theorem f1m (L:Nat) (hL:L≤1000000000000) (s:List UInt8) (out:List Int) (h:s.length+out.length≤L):Df (j6u (s,128,0,72,true,out,())) (Sum.elim (fun y=>y.1.length≤L) (fun _=>True)):=by
 refine dL ?I ?m ?h _ ?hv ?hn
 case I=>exact (fun v=>v.1.length+v.2.2.2.2.2.1.length≤L∧128≤v.2.1∧v.2.1≤1114111∧0≤v.2.2.1∧v.2.2.1≤v.2.2.2.2.2.1.length)
 case m=>exact (fun v=>v.1.length)
 case hv=>exact ⟨h,by (try dsimp only);omega,by (try dsimp only);omega,by (try dsimp only);omega,by (try dsimp only);omega⟩
 case hn=>exact (by (try dsimp only);omega)
 rintro ⟨x0,x1,x2,x3,x4,x5,u⟩ hI;dsimp only at hI;obtain ⟨h0,h1,h2,h3,h4⟩:=hI;unfold j7r;dsimp only;rw [qh (n:=(x5.length:Int)+1) (by omega)];with_reducible repeat' (first|apply dP|apply dX<;>intro _)
 · refine dZ (b4o x0 x3 (by omega)) ?_
   rintro ⟨d,rest,u⟩ hd;dsimp only at hd ⊢;refine dD (fun _=>dP trivial) (fun hneg => ?_)
   · have hd':=hd.resolve_left hneg
     rw [qh (n:=x2+d) (by omega)];with_reducible repeat' (first|apply dP|apply dX<;>intro _)
     · trivial
     · refine dZ (b4m _ _ _ hd'.1 (by omega)) ?_
       rintro ⟨b,u⟩ -
       dsimp only;have q0:0≤(x2+d)/((x5.length:Int)+1):=Int.ediv_nonneg (by omega) (by omega);have q1:(x2+d)/((x5.length:Int)+1)≤x2+d:=Int.ediv_le_self _ (by omega);have r0:0≤(x2+d)%((x5.length:Int)+1):=Int.emod_nonneg _ (by omega);have r1:(x2+d)%((x5.length:Int)+1)<(x5.length:Int)+1:=Int.emod_lt_of_pos _ (by omega);rw [Int.tdiv_eq_ediv_of_nonneg (by omega),Int.tmod_eq_emod_of_nonneg (by omega)];generalize (x2+d)/((x5.length:Int)+1)=q at q0 q1 ⊢;generalize (x2+d)%((x5.length:Int)+1)=r at r0 r1 ⊢;rw [qh (n:=q) (by omega),qh (n:=x1+q) (by omega)];with_reducible repeat' (first|apply dP|apply dX<;>intro _)
       · trivial
       · refine dZ (k9k _) ?_
         rintro ⟨ok,u⟩ -
         dsimp only;with_reducible repeat' (first|apply dP|apply dX<;>intro _)
         · trivial
         · refine dZ (d7x r x5 _ (by omega) (by omega)) ?_
           rintro ⟨out',u⟩ ho;dsimp only at ho ⊢;rw [qh (n:=r+1) (by omega)];exact dP ⟨⟨by (try dsimp only);omega,by (try dsimp only);omega,by (try dsimp only);omega,by (try dsimp only);omega,by (try dsimp only);omega⟩,by (try dsimp only);omega⟩
         · refine dO ?_;omega
       · refine dO ?_;omega
 · exact (by (try dsimp only);omega:x5.length≤L)
theorem v7g (L:Nat) (hL:L≤1000000000000) (s:List UInt8) (out:List Int) (h:s.length+out.length≤L):Df (q2i (s,out,())) (fun y=>y.2.1.length≤L):=by
 unfold q2i j7q;dsimp only;refine dZ (f1m L hL s out h) ?_;intro z hz;refine dS hz ?_ ?_
 · rintro ⟨a,u⟩ ha
   exact dP ha
 · rintro ⟨a,u⟩ -
   exact dP (by simp)
theorem d7w (s:List UInt8) (c:Int) (hs:s.length≤1000000000000):Df (j6c (s,c,())) (fun y => -1≤y.1∧y.1<s.length):=by
 unfold j6c k5k;dsimp only;refine dZ (P:=fun y => -1≤y.1∧y.1<s.length) ?_ (fun _ h=>dP h);unfold v2y k6a;dsimp only;rw [qh (n:=(s.length:Int)-1) (by omega)];refine dZ (P:=Sum.elim (fun _=>True) (fun y => -1≤y.1∧y.1<s.length)) ?_ ?_
 · refine dL ?I ?m ?h _ ?hv ?hn
   case I=>exact (fun v=>v.1=s ∧ -1≤v.2.2.1∧v.2.2.1<s.length)
   case m=>exact (fun v=>(v.2.2.1+1).toNat)
   case hv=>exact ⟨rfl,by (try dsimp only);omega,by (try dsimp only);omega⟩
   case hn=>exact (by (try dsimp only);omega)
   rintro ⟨x0,x1,x2,u⟩ hI;dsimp only at hI;obtain ⟨rfl,h0,h1⟩:=hI;unfold j8b;dsimp only;with_reducible repeat' (first|apply dP|apply dX<;>intro _)
   · exact ⟨by (try dsimp only);omega,by (try dsimp only);omega⟩
   · rw [qh (n:=x2-1) (by omega)]
     exact ⟨⟨rfl,by (try dsimp only);omega,by (try dsimp only);omega⟩,by (try dsimp only);omega⟩
   · refine dO ?_;omega
   · trivial
 · intro z hz
   refine dS hz ?_ ?_
   · intro u _
     exact dP ⟨by (try dsimp only);omega,by (try dsimp only);omega⟩
   · rintro ⟨a,u⟩ h
     exact dP h
theorem b4g (s:List UInt8) (hs:s.length≤1000000000000):Df (y5s (s,())) (fun y=>y.1.length≤s.length):=by
 unfold y5s k4u;dsimp only;refine dZ (d21 s (by omega)) ?_;rintro ⟨e,u⟩ he;dsimp only at he ⊢;with_reducible repeat' (first|apply dP|apply dX<;>intro _)
 · exact (by simp:([]:List Int).length≤s.length)
 · rename_i hneg
   have hall:=he.2 (by omega);refine dZ (d7w s 45 hs) ?_;rintro ⟨k,u⟩ hk;dsimp only at hk ⊢;rw [qh (n:=k+1) (by omega)];have hb:(decide ((List.take k.toNat s).length≤70368744177664)&&(List.take k.toNat s).all fun b=>decide (b.toNat<128))=true:=by
    rw [decide_eq_true (by rw [List.length_take];omega),Bool.true_and,List.all_eq_true];intro c hc;exact decide_eq_true (hall c (List.mem_of_mem_take hc))
   rw [hb];simp only [cond_true];with_reducible repeat' (first|apply dP|apply dX<;>intro _)
   · refine dZ (v7g s.length hs _ _ (by simp only [List.length_drop,List.length_map,List.length_take];omega)) ?_
     rintro ⟨a,b,u⟩ h;exact dP h
   · refine dO ?_;omega
   · refine dO ?_;omega
   · refine dZ (v7g s.length hs _ _ (by simp)) ?_
     rintro ⟨a,b,u⟩ h;exact dP h
theorem b4c (h:TK T A B) (s:List UInt8) (hs:s.length≤6000000):Df (z6c (T,A,B,s,())) (fun y=>y.1.length≤200000000000∧y.2.1.length≤200000000000):=by
 unfold z6c k4k;dsimp only;refine dZ (k9j h s (by omega)) ?_;rintro ⟨f,ok,u⟩ hf;dsimp only at hf ⊢;refine dZ (b3w f _) ?_;rintro ⟨rest,is,u⟩ hr;dsimp only at hr ⊢;with_reducible repeat' (first|apply dP|apply dX<;>intro _)
 · exact ⟨by simp,by simp⟩
 · refine dZ (d21 f (by omega)) ?_
   rintro ⟨e,u⟩ -
   dsimp only;with_reducible repeat' (first|apply dP|apply dX<;>intro _)
   · refine dZ (d83 f (by omega)) ?_
     rintro ⟨l,at_,u⟩ hl;dsimp only at hl ⊢;refine dZ (f1i l (by omega)) ?_;rintro ⟨code,b,u⟩ hc;dsimp only at hc ⊢;with_reducible repeat' (first|apply dP|apply dX<;>intro _)
     · refine dZ (b4f h f (by omega)) ?_
       rintro ⟨w,u⟩ -
       exact dP ⟨by simp only [jv];omega,by (try dsimp only);omega⟩
     · refine dO ?_;simp only [List.length_cons,List.length_nil] at *;omega
   · refine dZ (d7d f (by omega)) ?_
     rintro ⟨w,u⟩ -
     exact dP ⟨by (try dsimp only);omega,by (try dsimp only);omega⟩
   · refine dZ (b4g rest (by omega)) ?_
     rintro ⟨l,ok2,u⟩ hl;dsimp only at hl ⊢;with_reducible repeat' (first|apply dP|apply dX<;>intro _)
     · exact ⟨by simp,by simp⟩
     · exact ⟨by simp,by simp⟩
     · refine dZ (v1b l (by omega)) ?_
       rintro ⟨us,b,u⟩ hu;dsimp only at hu ⊢;refine dZ (b4f h us (by omega)) ?_;rintro ⟨w,u⟩ -
       dsimp only;with_reducible repeat' (first|apply dP|apply dX<;>intro _)
       · exact ⟨by simp,by simp⟩
       · refine dZ (f1i l (by omega)) ?_
         rintro ⟨code,b,u⟩ -
         dsimp only;with_reducible repeat' (first|apply dP|apply dX<;>intro _)
         · exact ⟨by simp,by simp⟩
         · exact ⟨by (try dsimp only);omega,by (try dsimp only);omega⟩
theorem d6o (h:TK T A B) (s:List UInt8) (hs:s.length≤6000000):Df (z5z (T,A,B,s,())) (fun y=>y.1.length≤200000000000):=by
 unfold z5z k4b;dsimp only;refine dZ (b4c h s hs) ?_;rintro ⟨a,b,e,u⟩ ha;dsimp only at ha ⊢;with_reducible repeat' (first|apply dP|apply dX<;>intro _)
 · exact (by simp:([]:List UInt8).length≤200000000000)
 · exact ha.1
theorem d6p (h:TK T A B) (s:List UInt8) (hs:s.length≤6000000):Df (y5o (T,A,B,s,())) (fun y=>y.1.length≤200000000000):=by
 unfold y5o g7x;dsimp only;refine dZ (b4c h s hs) ?_;rintro ⟨a,b,e,u⟩ ha;dsimp only at ha ⊢;with_reducible repeat' (first|apply dP|apply dX<;>intro _)
 · exact (by simp:([]:List UInt8).length≤200000000000)
 · exact ha.2
theorem j2t (c:UInt8):∀l:List UInt8,Lib.indexByte l c<l.length
 | []=>by simp [Lib.indexByte]
 | b::l=>by
  have:=j2t c l;simp only [Lib.indexByte,List.length_cons];split
  · omega
  · split<;>omega
theorem d6q (s:List UInt8) (c:Int):Df (j6a (s,c,())) (fun y => -1≤y.1∧y.1<s.length):=by
 unfold j6a k4d;dsimp only;exact dZ (P:=fun y => -1≤y.1∧y.1<s.length) (dP ⟨Lib.indexByte_ge s _,j2t _ s⟩) fun _ h=>dP h
theorem v7f (s:List UInt8) (b:Bool) (hb:b=true→0<s.length):Df (q4x (s,[46],1,b,())) (fun y => -1≤y.1∧y.1<s.length):=by
 unfold q4x j7n;dsimp only;with_reducible repeat' (first|apply dP|apply dX<;>intro _)
 · rename_i h1
   have:=hb h1;exact ⟨by (try dsimp only);omega,by (try dsimp only);omega⟩
 · exact dZ (d6q s _) fun _ h=>dP h
 · rename_i h1 h2 h3
   exact absurd (by decide:(0:Int)<(([46]:List UInt8).length:Int)) h3
 all_goals (exfalso;omega)
theorem d6l (s:List UInt8) (hs:s.length≤1000000000000):Df (y0y (s,[46],())) (fun y=>y.1.length≤s.length∧y.2.1.length≤s.length∧(y.2.2.1=true→y.2.1.length<s.length)):=by
 unfold y0y k3p;dsimp only;refine dZ (P:=fun y=>y.1.length≤s.length∧y.2.1.length≤s.length∧(y.2.2.1=true→y.2.1.length<s.length)) ?_ (fun _ h=>dP h);unfold v2k k4e;dsimp only;refine dZ (P:=fun y => -1≤y.1∧y.1<s.length) ?_ ?_
 · unfold z6h v4y
   dsimp only;have e0:((([46]:List UInt8).length:Int)==0)=false:=rfl;rw [e0];simp only [cond_false];refine dZ (v7f s _ fun h => ?_) fun _ h=>dP h;have:=eq_of_beq h;rw [←this];decide
 rintro ⟨k,u⟩ hk;dsimp only at hk ⊢;rw [show (([46]:List UInt8).length:Int)=1 from rfl,qh (n:=k+1) (by omega)];with_reducible repeat' (first|apply dP|apply dX<;>intro _)
 · refine ⟨?_,?_,fun _ => ?_⟩
   · simp only [List.length_take];omega
   · simp only [List.length_drop];omega
   · simp only [List.length_drop];omega
 · refine dO ?_;omega
 · refine dO ?_;omega
 · exact ⟨Nat.le_refl _,by simp,fun h=>by cases h⟩
theorem j5s:∀(n:Nat) (s:List UInt8),s.length<n→s.length≤1000000000000→∃ps,ku n s=some ps∧ps.length≤n∧∀p∈ps,p.length≤s.length
 | n+1,s,hn,hs=>by
  obtain ⟨⟨a,b,ok,u⟩,e,h1,h2,h3⟩:=d6l s hs;dsimp only at h1 h2 h3;cases ok with
  | true =>
   have h4:=h3 rfl;obtain ⟨ps,e2,h5,h6⟩:=j5s n b (by omega) (by omega);refine ⟨a::ps,by simp only [ku,e,Option.bind_some,cond_true,e2,Option.map_some],by simp only [List.length_cons];omega,?_⟩;intro p hp;rcases List.mem_cons.1 hp with rfl|hp
   · exact h1
   · have:=h6 p hp;omega
  | false =>
   refine ⟨[a],by simp only [ku,e,Option.bind_some,cond_false],by simp only [List.length_cons,List.length_nil];omega,?_⟩;intro p hp;rw [List.mem_singleton] at hp;subst hp;exact h1
end
section
variable {T:List R6} {A:List R4} {B:List R3}
theorem z4v {s old:List UInt8} {i:Nat} (h:Lib.index s old=i):i+old.length≤s.length:=by
 have:=Lib.index_room s old (by omega);omega
theorem j5v (old new:List UInt8) (hl:new.length≤old.length):∀(k:Nat) (s:List UInt8),(Lib.replaceK old new k s).length≤s.length
 | 0,s=>Nat.le_refl _
 | k+1,s=>by
  by_cases h:Lib.index s old = -1
  · rw [Lib.replaceK,if_pos (by rw [h];rfl)];exact Nat.le_refl _
  · obtain ⟨i,hi⟩:∃i:Nat,Lib.index s old=i:=⟨(Lib.index s old).toNat,by have:=Lib.index_ge s old;omega⟩
    rw [Lib.replaceK_hit old new k s i hi];have h1:=j5v old new hl k (s.drop (i+old.length));have h2:=z4v hi;simp only [List.length_append,List.length_take,List.length_drop] at h1 ⊢;omega
theorem q7j (s old new:List UInt8) (hl:new.length≤old.length):(Lib.replaceAll s old new).length≤s.length:=by
 unfold Lib.replaceAll Lib.replace;split
 · exact Nat.le_refl _
 · exact j5v old new hl _ s
theorem j2v (f:List UInt8) (ok:Bool) (hf:f.length≤5000000):∃ls c,q1d f ok=some (ls,c)∧ls.length≤32∧∀p∈ls,p.length≤5000000:=by
 unfold q1d;cases ok with
 | false=>exact ⟨[],7,rfl,by simp,fun p hp=>by cases hp⟩
 | true =>
  cases hfe:f.isEmpty with
  | true=>exact ⟨[],13,rfl,by simp,fun p hp=>by cases hp⟩
  | false =>
   simp only [Bool.not_true,cond_false];rw [decide_eq_true (by omega)];simp only [cond_true];have hr:=q7j f [227,128,130] [46] (by decide);obtain ⟨ps,e,h1,h2⟩:=j5s (f.length+2) (Lib.replaceAll f [227,128,130] [46]) (by omega) (by omega);simp only [e,Option.bind_some];rw [decide_eq_true (by omega)];simp only [cond_true];by_cases h3:32<ps.length
   · rw [decide_eq_true h3]
     exact ⟨[],2,rfl,by simp,fun p hp=>by cases hp⟩
   · rw [decide_eq_false h3]
     exact ⟨ps,0,rfl,by omega,fun p hp=>by have:=h2 p hp;omega⟩
theorem z4y (l:List (List UInt8)) (x:List UInt8):Lib.lens (l++[x])=Lib.lens l+x.length:=by simp [Lib.lens]
theorem z1l (f g:List UInt8→Option (List UInt8×Int)) (hf:∀x:List UInt8,x.length≤5000000→∃y,f x=some y∧y.1.length≤200000000000) (hg:∀x:List UInt8,x.length≤5000000→∃y,g x=some y∧y.1.length≤200000000000) :
 ∀(ls ps qs:List (List UInt8)) (n:Nat),(∀p∈ls,p.length≤5000000)→ps.length+ls.length≤32→qs.length+ls.length≤32→Lib.lens ps≤200000000000*n→Lib.lens qs≤200000000000*n→n+ls.length≤32 →
  ∃r,q3g f g ls ps qs=some r∧r.2.1.length≤32∧r.2.2.length≤32∧Lib.lens r.2.1≤6400000000000∧Lib.lens r.2.2≤6400000000000
 | [],ps,qs,n,h,h1,h2,h3,h4,h5=>⟨(0,ps,qs),rfl,by simpa using h1,by simpa using h2,by simp only [List.length_nil] at h5;dsimp only;omega,by simp only [List.length_nil] at h5;dsimp only;omega⟩
 | x::ls,ps,qs,n,h,h1,h2,h3,h4,h5=>by
  obtain ⟨a,ea,ha⟩:=hf x (h x List.mem_cons_self);obtain ⟨b,eb,hb⟩:=hg x (h x List.mem_cons_self);simp only [q3g,ea,Option.bind_some];simp only [List.length_cons] at h1 h2 h5;cases hz:(a.2 != 0) with
  | true=>exact ⟨(a.2,[],[]),rfl,by simp,by simp,by simp [Lib.lens],by simp [Lib.lens]⟩
  | false =>
   simp only [cond_false,eb,Option.bind_some];exact z1l f g hf hg ls (ps++[a.1]) (qs++[b.1]) (n+1) (fun p hp=>h p (List.mem_cons_of_mem _ hp)) (by simp only [jv];omega) (by simp only [jv];omega)
    (by rw [z4y];omega) (by rw [z4y];omega) (by omega)
theorem z2a (l:List (List UInt8)) (h1:l.length≤32) (h2:Lib.lens l≤6400000000000):∃r,q1c (l,[46],())=some (r,()):=by
 unfold q1c;have hj:(Lib.join l [46]).length≤140737488355328:=by
  cases l with
  | nil=>exact Nat.zero_le _
  | cons x r =>
   rw [Lib.join_length];simp only [List.length_cons,List.length_nil] at h1 ⊢;omega
 dsimp only;rw [decide_eq_true (by omega),decide_eq_true hj];exact ⟨_,rfl⟩
theorem v1v (r:Int×List (List UInt8)×List (List UInt8)) (h1:r.2.1.length≤32) (h2:r.2.2.length≤32) (h3:Lib.lens r.2.1≤6400000000000) (h4:Lib.lens r.2.2≤6400000000000):∃o,y4w r=some o:=by
 unfold y4w;cases (r.1 != 0) with
 | true=>exact ⟨_,rfl⟩
 | false =>
  obtain ⟨a,ha⟩:=z2a r.2.1 h1 h3;obtain ⟨b,hb⟩:=z2a r.2.2 h2 h4;simp only [cond_false,ha,Option.bind_some,hb];cases decide (253<a.length) with
  | true=>exact ⟨_,rfl⟩
  | false=>exact ⟨_,rfl⟩
theorem d6k (h:TK T A B) (s:List UInt8) (hs:s.length≤3000):∃y,z5x (T,A,B,s,())=some y:=by
 obtain ⟨⟨f,ok,u⟩,e,hf⟩:=k9j h s (by omega);dsimp only at hf;obtain ⟨ls,c,e2,hll,hls⟩:=j2v f ok (by omega);unfold z5x;dsimp only;simp only [e,Option.bind_some,e2];cases (c != 0) with
 | true=>exact ⟨_,rfl⟩
 | false =>
  simp only [cond_false];rw [decide_eq_true hll];obtain ⟨r,er,h1,h2,h3,h4⟩:=z1l (fun x=>(z5z (T,A,B,x,())).map fun r=>(r.1,r.2.1)) (fun x=>(y5o (T,A,B,x,())).map fun r=>(r.1,r.2.1))
   (fun x hx=>by
    obtain ⟨y,e,hy⟩:=d6o h x (by omega);exact ⟨(y.1,y.2.1),by simp only [e,Option.map_some],hy⟩)
   (fun x hx=>by
    obtain ⟨y,e,hy⟩:=d6p h x (by omega);exact ⟨(y.1,y.2.1),by simp only [e,Option.map_some],hy⟩)
   ls [] [] 0 hls (by simpa using hll) (by simpa using hll) (by simp [Lib.lens]) (by simp [Lib.lens]) (by simpa using hll)
  obtain ⟨o,ho⟩:=v1v r h1 h2 h3 h4;simp only [cond_true,er,Option.bind_some,ho,Option.map_some];exact ⟨_,rfl⟩
end
def Pf {α:Type} (x:Option α) (Q:α→Prop):Prop:=∀y,x=some y→Q y
section
variable {α β γ:Type} {Q:α→Prop}
theorem pP {y:α} (h:Q y):Pf (some y) Q:=fun _ e=>by cases e;exact h
theorem pN:Pf (none:Option α) Q:=fun _ e=>by cases e
theorem pT {x:Option α}:Pf x (fun _=>True):=fun _ _=>trivial
theorem pZ {x:Option β} {f:β→Option α} {P:β→Prop} (h:Pf x P) (hf:∀a,P a→Pf (f a) Q):Pf (x.bind f) Q:=by
 intro y e;cases x with
 | none=>cases e
 | some a=>exact hf a (h a rfl) y e
theorem pM {x:Option α} {P:α→Prop} (h:Pf x P) (hf:∀a,P a→Q a):Pf x Q:=fun y e=>hf y (h y e)
theorem pA {x:Option α} {P P':α→Prop} (h:Pf x P) (h':Pf x P'):Pf x fun y=>P y∧P' y:=fun y e=>⟨h y e,h' y e⟩
theorem pX {b:Bool} {p q:Prop} [r:Rd b p q] {x y:Option α} (h1:p→Pf x Q) (h2:q→Pf y Q):Pf (bif b then x else y) Q:=by
 have h:b=true∨b=false:=by cases b<;>simp
 rcases h with h|h
 · rw [h];exact h1 (r.t h)
 · rw [h];exact h2 (r.f h)
theorem pS {f:β→Option α} {g:γ→Option α} {s:β⊕γ} {P:β→Prop} {P':γ→Prop} (hs:Sum.elim P P' s) (h1:∀a,P a→Pf (f a) Q) (h2:∀b,P' b→Pf (g b) Q):Pf (Sum.elim f g s) Q:=by
 cases s with
 | inl a=>exact h1 a hs
 | inr b=>exact h2 b hs
theorem pLn {F:β→Option (β⊕α)} (I:β→Prop) (h:∀v,I v→Pf (F v) (Sum.elim I Q)):∀(n:Nat) (v:β),I v→Pf (qb F n v) Q
 | 0,v,_=>fun _ e=>by cases e
 | n+1,v,hv=>by
  intro y e;simp only [qb] at e;cases hF:F v with
  | none=>rw [hF] at e;cases e
  | some z =>
   have hz:=h v hv z hF;rw [hF] at e;cases z with
   | inl v'=>exact pLn I h n v' hz y e
   | inr y' =>
    have e':some y'=some y:=e;cases e';exact hz
theorem pL {F:β→Option (β⊕α)} (I:β→Prop) (h:∀v,I v→Pf (F v) (Sum.elim I Q)) (v:β) (hv:I v):Pf (qb F je v) Q:=pLn I h je v hv
theorem pRn {F:(β→Option α)→β→Option α} {P:β→α→Prop} (h:∀G,(∀v,Pf (G v) (P v))→∀v,Pf (F G v) (P v)):∀(n:Nat) (v:β),Pf (q1x F n v) (P v)
 | 0,v=>fun _ e=>by cases e
 | n+1,v=>h (q1x F n) (pRn h n) v
theorem Df.pf {x:Option α} {P:α→Prop} (h:Df x P):Pf x P:=by
 obtain ⟨y,e,h⟩:=h;intro z ez;rw [e] at ez;cases ez;exact h
end
def kk (x:Int):Bool:=decide (0≤x)&&decide (x<128) && !(decide (97≤x)&&decide (x≤122)) && !(decide (65≤x)&&decide (x≤90)) && !(decide (48≤x)&&decide (x≤57)) && !decide (x=45)
theorem q4j (x:Int):kk x=true↔0≤x∧x<128∧(x<97∨122<x)∧(x<65∨90<x)∧(x<48∨57<x)∧x≠45:=by
 unfold kk;simp only [Bool.and_eq_true,Bool.not_eq_true',decide_eq_true_eq,Bool.and_eq_false_iff,decide_eq_false_iff_not];omega
theorem y3p {x:Int} (h:128≤x):kk x=false:=by
 cases hk:kk x with
 | false=>rfl
 | true=>have:=(q4j x).1 hk;omega
def stp (d:Bool) (s:Nat) (x:Int):Nat:=if 2≤s then 2 else if kk x=true then (if x=46∧d=true then s+1 else 2) else 0
def run (d:Bool) (s:Nat) (l:List Int):Nat:=l.foldl (stp d) s
theorem z2t (d:Bool) {s s':Nat} (h:s≤s') (x:Int):stp d s x≤stp d s' x:=by
 unfold stp;repeat' split
 all_goals omega
theorem j3f (d:Bool):∀(l:List Int) {s s':Nat},s≤s'→run d s l≤run d s' l
 | [],_,_,h=>h
 | x::l,_,_,h=>j3f d l (z2t d h x)
theorem q3a (d:Bool) {s:Nat} {x:Int} (h:kk x=false):stp d s x=if 2≤s then 2 else 0:=by
 unfold stp;rw [h];simp
theorem y0s (d:Bool) {s:Nat} (x:Int) (h:2≤s):stp d s x=2:=by
 unfold stp;rw [if_pos h]
theorem q6z (d:Bool):∀(l:List Int) {s:Nat},2≤s→2≤run d s l
 | [],_,h=>h
 | x::l,s,h=>q6z d l (Nat.le_of_eq (y0s d x h).symm)
theorem xx (d:Bool) (s:Nat) (p q:List Int):run d s (p++q)=run d (run d s p) q:=List.foldl_append
theorem q4p (d:Bool) (s:Nat) (x:Int) (q:List Int):run d s (x::q)=run d (stp d s x) q:=rfl
def Rr (p q:List Int):Prop:=∀d,run d 1 p≤run d 1 q
theorem Rr.refl (p:List Int):Rr p p:=fun d=>Nat.le_refl _
theorem Rr.trans {p q r:List Int} (h:Rr p q) (h':Rr q r):Rr p r:=fun d=>Nat.le_trans (h d) (h' d)
theorem j3g (d:Bool):∀(l:List Int) (s:Nat),l≠[]→(∀x∈l,kk x=false)→run d s l=if 2≤s then 2 else 0
 | [x],s,_,h=>q3a d (h x List.mem_cons_self)
 | x::y::l,s,_,h=>by
  rw [q4p,j3g d (y::l) _ (by simp) fun z hz=>h z (List.mem_cons_of_mem _ hz),q3a d (h x List.mem_cons_self)];split<;>simp
theorem ap {p q:List Int} (x:Int) (ys:List Int) (h:Rr p q) (hk:kk x=true→ys=[x]):Rr (p++[x]) (q++ys):=by
 intro d;rw [xx,xx];cases hx:kk x with
 | true=>rw [hk hx];exact z2t d (h d) x
 | false =>
  show stp d _ x≤_;rw [q3a d hx];split
  · rename_i h2
    exact q6z d ys (Nat.le_trans h2 (h d))
  · exact Nat.zero_le _
theorem apn {p q:List Int} (xs ys:List Int) (h:Rr p q) (hn:xs≠[]) (hx:∀x∈xs,kk x=false):Rr (p++xs) (q++ys):=by
 intro d;rw [xx,xx,j3g d xs _ hn hx];split
 · rename_i h2
   exact q6z d ys (Nat.le_trans h2 (h d))
 · exact Nat.zero_le _
theorem k2b (d:Bool):∀(l r:List Int) (s s':Nat),s≤s'→r.length=l.length→(∀(i:Nat) (x:Int),l[i]? = some x→kk x=true→r[i]? = some x)→run d s l≤run d s' r
 | [],[],s,s',h,_,_=>h
 | [],_::_,_,_,_,h,_=>by simp at h
 | _::_,[],_,_,_,h,_=>by simp at h
 | x::l,y::r,s,s',h,hl,hp=>by
  have hl':r.length=l.length:=by simpa using hl
  have hp':∀(i:Nat) (x:Int),l[i]? = some x→kk x=true→r[i]? = some x:=fun i z h1 h2=>by
   have:=hp (i+1) z (by simpa using h1) h2;simpa using this
  rw [q4p,q4p];refine k2b d l r _ _ ?_ hl' hp';cases hx:kk x with
  | true =>
   have:=hp 0 x (by simp) hx;simp only [List.getElem?_cons_zero,Option.some.injEq] at this;subst this;exact z2t d h y
  | false =>
   rw [q3a d hx];split
   · rename_i h2
     rw [y0s d y (by omega)];exact Nat.le_refl _
   · exact Nat.zero_le _
theorem Rr.pt {l r:List Int} (h:r.length=l.length) (hp:∀(i:Nat) (x:Int),l[i]? = some x→kk x=true→r[i]? = some x):Rr l r:=fun d=>k2b d l r 1 1 (Nat.le_refl _) h hp
theorem Rr.set {p q:List Int} (x:Int) (h:Rr p q) (hx:kk x=false) (i:Nat) (v:Int) (hi:kk (q.getD i 0)=false):Rr (p++[x]) (q.set i v):=by
 intro d;rw [xx];show stp d _ x≤_;rw [q3a d hx];split
 · rename_i h2
   have h3:Rr q (q.set i v):=by
    refine Rr.pt List.length_set fun j z hj hz => ?_;by_cases hij:i=j
    · subst hij
      rw [List.getD_eq_getElem?_getD,hj] at hi;simp only [Option.getD_some] at hi;rw [hi] at hz;cases hz
    · rw [List.getElem?_set_ne hij];exact hj
   exact Nat.le_trans h2 (Nat.le_trans (h d) (h3 d))
 · exact Nat.zero_le _
def bi (s:List UInt8):List Int:=s.map fun c=>(c.toNat:Int)
theorem xu (p q:List UInt8):bi (p++q)=bi p++bi q:=List.map_append
theorem g6q (l:List Int):∀s:Nat,2≤run false s l↔2≤s∨∃x∈l,kk x=true:=by
 induction l with
 | nil=>intro s;simp [run]
 | cons y l ih =>
  intro s;rw [q4p,ih];by_cases h2:2≤s
  · rw [y0s _ _ h2];simp [h2]
  · cases hy:kk y with
    | true =>
     have:stp false s y=2:=by unfold stp;rw [if_neg h2,if_pos hy];simp
     rw [this];simp only [Nat.le_refl,true_or,true_iff];exact .inr ⟨y,List.mem_cons_self,hy⟩
    | false =>
     rw [q3a _ hy,if_neg h2];constructor
     · rintro (h|⟨x,hx,hk⟩)
       · omega
       · exact .inr ⟨x,List.mem_cons_of_mem _ hx,hk⟩
     · rintro (h|⟨x,hx,hk⟩)
       · exact (h2 h).elim
       · rcases List.mem_cons.1 hx with rfl|hx
         · rw [hy] at hk;cases hk
         · exact .inr ⟨x,hx,hk⟩
theorem Rr.mem {p q:List Int} (h:Rr p q) (hp:∃x∈p,kk x=true):∃x∈q,kk x=true:=by
 have h1:=(g6q p 1).2 (.inr hp);rcases (g6q q 1).1 (Nat.le_trans h1 (h false)) with h|h
 · omega
 · exact h
theorem z5p (d:Bool):∀(l:List Int) (s:Nat),l≠[]→s<2→(∀x∈l,kk x=false)→run d s l=0:=fun l s hn hs h=>by
 rw [j3g d l s hn h,if_neg (by omega)]
end Go.Proofs.YtiacnhhmkdkpmaaGreatDoorA.W
