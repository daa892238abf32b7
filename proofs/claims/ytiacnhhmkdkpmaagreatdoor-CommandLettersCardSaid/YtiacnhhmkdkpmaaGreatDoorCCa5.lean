/- The texts of the proof, one behind the other: W11, W12, W13, PB, PL1, PL2, PL3, PL4, PL5, PL6, PL7, PQ, PL8, PL9, PM1, PM2, W14, PD0, PD1, PD2, PD3, PD4, PD5, PD6. -/
import Derived.Test.YtiacnhhmkdkpmaaGreatDoorCCa4
import Derived.Test.YtiacnhhmkdkpmaaGreatDoorCCa2
set_option maxRecDepth 100000
set_option linter.unusedVariables false
namespace Go.Proofs.YtiacnhhmkdkpmaaGreatDoorC.W
open Go Go.Ae
abbrev T85:=Int×Unit→Option (Bool×Unit)
def E85 (f:T85):FEnt:=⟨q2k,qw,f⟩
def F85:T85:=fun (x0,_)=>bif x0 != 9 then bif decide (x0<32) then some (true,()) else some (x0==127,()) else some (false,())
def C85:T85:=F85
theorem d6c:FO 85 (E85 C85):=zq0 q2k qw yp F85 kn Tryz.func85
abbrev q4k:=Bool×(qa×Int)×Unit→Option ((Int×Unit)⊕Unit)
def z0r (f:q4k):LEnt:=⟨w3u,x1l,f⟩
abbrev j7i:=qa×Bool×Unit→Option (Int×Unit)
def x9t (f:j7i):FEnt:=⟨w3t,jb,f⟩
def y3z (f85:T85):=lk [(85,E85 f85)]
theorem y0t:zb Tryz.prog (y3z C85):=(kc d6c kn)
def q3w (f85:T85):yh (Bool×(qa×Int)×Unit) ((Int×Unit)⊕Unit):=fun (x0,x1,_)=>bif decide (Int.toNat x1.2<List.length x1.1) then (f85 ((↑(xl x1.1 (Int.toNat x1.2)).1:Int),())).bind fun v=>bif v.1==x0 then some (Sum.inr (Sum.inl ((↑(Int.toNat x1.2):Int),()))) else some (Sum.inl (x0,(x1.1,(↑(Int.toNat x1.2+(xl x1.1 (Int.toNat x1.2)).2):Int)),())) else some (Sum.inr (Sum.inr ()))
def j1l:q4k:=qc (q3w C85) jc
theorem x7o:jf 0 (qe (code Tryz.f156) [1,0,1,0,0]) (z0r j1l):=zl1 w3u x1l y3z q3w C85 y0t
def g4x (f156v1_l0:q4k):Ann:=(.seq .nil (.seq (.seq .nil (.blk (.loop (z0r f156v1_l0)))) .nil))
def z3y (f85:T85) (f156v1_l0:q4k):j7i:=fun (x0,x1,_)=>(f156v1_l0 (x1,(x0,(↑0:Int)),())).bind fun v=>Sum.elim (fun v=>some (v.1,())) (fun v=>some (-1,())) v
def j1k:j7i:=z3y C85 j1l
theorem w0l:FO 156 (x9t j1k):=ve w3t jb y3z g4x z3y C85 j1l y0t Tryz.func156 (And.intro x7o trivial)
abbrev j7e:=qa×Unit→Option (Int×Unit)
def x9q (f:j7e):FEnt:=⟨x1a,jb,f⟩
def g3s (f156v1:j7i):=lk [(156,x9t f156v1)]
def z3r (f156v1:j7i):j7e:=fun (x0,_)=>(f156v1 (x0,true,())).bind fun v=>some (v.1,())
def j6k:j7e:=z3r j1k
theorem w0j:FO 123 (x9q j6k):=vf x1a jb g3s z3r j1k (kc w0l kn) Tryz.func123
abbrev z1e:=qa×Unit→Option (Bool×Unit)
def w1j (f:z1e):FEnt:=⟨x1a,qw,f⟩
def f5d (f123v1:j7e):=lk [(123,x9q f123v1)]
def x0j (f123v1:j7e):z1e:=fun (x0,_)=>(f123v1 (x0,())).bind fun v=>some (decide (v.1≥0),())
def q5n:z1e:=x0j j6k
theorem g9v:FO 84 (w1j q5n):=vf x1a qw f5d x0j j6k (kc w0j kn) Tryz.func84
abbrev T86:=qa×Unit→Option (Bool×Unit)
def E86 (f:T86):FEnt:=⟨zy,qw,f⟩
def K86 (f96:T96):=lk [(96,E96 f96)]
def F86 (f96:T96):T86:=fun (x0,_)=>(f96 (x0,[91],())).bind fun v=>some (v.1,())
def C86:T86:=F86 C96
theorem d6d:FO 86 (E86 C86):=vf zy qw K86 F86 C96 (kc g9y kn) Tryz.func86
abbrev T87:=qq×qu×qv×qa×Unit→Option (qa×Int×Unit)
def E87 (f:T87):FEnt:=⟨ki,j7c,f⟩
def K87 (f124:k3v):=lk [(124,f1a f124)]
def F87 (f124:k3v):T87:=fun (x0,x1,x2,x3,_)=>(f124 (x0,x1,x2,x3,())).bind fun v=>some (v.1,v.2.2.1,())
def C87:T87:=F87 z8d
theorem d6e:FO 87 (E87 C87):=vf ki j7c K87 F87 z8d (kc f9u kn) Tryz.func87
abbrev T44:=qq×qu×qv×qa×qa×Unit→Option (Int×Unit)
def E44 (f:T44):FEnt:=⟨w3v,jb,f⟩
def K44 (f67:T67) (f83:T83) (f84v1:z1e) (f86:T86) (f87:T87):=lk [(67,E67 f67),(83,E83 f83),(84,w1j f84v1),(86,E86 f86),(87,E87 f87)]
def F44 (f67:T67) (f83:T83) (f84v1:z1e) (f86:T86) (f87:T87):T44:=fun (x0,x1,x2,x3,x4,_)=>(f83 (x3,())).bind fun v=>bif x3==[] then some (13,()) else bif decide ((↑x3.length:Int)>64) then some (5,()) else bif decide (v.2.1≥0) then some (7,()) else (f84v1 (x3,())).bind fun v=>bif v.1 then some (8,()) else (f86 (x4,())).bind fun v=>bif v.1 then (f67 (x4,())).bind fun v=>bif v.2.2.1 != 0 then some (4,()) else bif (↑(List.length v.1):Int) != 1 then some (4,()) else bif decide (0<(↑(List.length v.1):Int)) then bif (List.getD v.1 0 (0,([],0))).1 != 5 then some (4,()) else some (0,()) else none else (f87 (x0,x1,x2,x4,())).bind fun v=>some (v.2.1,())
theorem h44 (f67:T67) (f83:T83) (f84v1:z1e) (f86:T86) (f87:T87):zw (K44 f67 f83 f84v1 f86 f87) 0 Tryz.f44 .nil w3v jb (F44 f67 f83 f84v1 f86 f87):=fun v=>by kernel_rfl
def C44:T44:=F44 C67 C83 q5n C86 C87
theorem b3r:FO 44 (E44 C44) :=
 q0 (kc b3u (kc x7v (kc g9v (kc d6d (kc d6e kn))))) Tryz.func44 (h44 C67 C83 q5n C86 C87)
abbrev j5w:=Int×(qa×Int)×Unit→Option (Int×Unit)
def y8k (f:j5w):LEnt:=⟨w3w,w7o,f⟩
abbrev j1w:=qa×Unit→Option (Int×Unit)
def g1j (f:j1w):FEnt:=⟨zy,jb,f⟩
def x0g:yh (Int×(qa×Int)×Unit) (Int×Unit):=fun (x0,x1,_)=>bif decide (Int.toNat x1.2<List.length x1.1) then some (Sum.inl (IntKind.i64.wrap (x0+1),(x1.1,(↑(Int.toNat x1.2+(xl x1.1 (Int.toNat x1.2)).2):Int)),())) else some (Sum.inr (x0,()))
def z3a:j5w:=qc (x0g) jc
theorem k8h:jf 0 (qe (code Tryz.f227) [1,0,1,0,0]) (y8k z3a):=zl0 w3w w7o yp x0g kn
def b8d (f227_l0:j5w):Ann:=(.seq .nil (.seq (.seq .nil (.blk (.loop (y8k f227_l0)))) .nil))
def f4y (f227_l0:j5w):j1w:=fun (x0,_)=>(f227_l0 (0,(x0,(↑0:Int)),())).bind fun v=>some (v.1,())
def j1p:j1w:=f4y z3a
theorem g0h:FO 227 (g1j j1p):=q1a zy jb yp b8d f4y z3a kn Tryz.func227 (And.intro k8h trivial)
abbrev x6m:=qa×Unit→Option (Int×Int×Unit)
def f3o (f:x6m):FEnt:=⟨zy,x1s,f⟩
def f5c:x6m:=fun (x0,_)=>bif decide ((↑x0.length:Int)<1) then some (65533,0,()) else bif decide (0<(↑x0.length:Int)) then none else none
def x4h:x6m:=f5c
theorem b2l:FO 273 (f3o x4h):=zq0 zy x1s yp f5c kn Tryz.func273
abbrev q9h:=qa×Bool×Unit→Option ((Int×Int×Unit)⊕(Int×Int×Unit))
def y8l (f:q9h):LEnt:=⟨w3x,w7p,f⟩
abbrev z9k:=qa×Unit→Option (Int×Int×Unit)
def f2j (f:z9k):FEnt:=⟨zy,x1s,f⟩
def g4b (f273:x6m):=lk [(273,f3o f273)]
theorem v5a:zb Tryz.prog (g4b x4h):=(kc b2l kn)
def x0h (f273:x6m):q9h:=fun (x0,x1,_)=>bif x1 then bif decide (0<(↑x0.length:Int)) then some (Sum.inl (IntKind.i32.wrap (↑(x0.getD 0 0).toNat:Int),1,())) else none else (f273 (x0,())).bind fun v=>some (Sum.inr (v.1,v.2.1,()))
def z3b:q9h:=x0h x4h
theorem k8i:jy 0 (qe (code Tryz.f228) [1,0,1]) (y8l z3b):=zc1 w3x w7p g4b x0h x4h v5a
def b8e (f228_c0:q9h):Ann:=(.seq .nil (.seq (.cut .nil (y8l f228_c0)) .nil))
def f4z (f273:x6m) (f228_c0:q9h):z9k:=fun (x0,_)=>bif !x0==[] then bif decide (0<(↑x0.length:Int)) then (f228_c0 (x0,decide ((↑(x0.getD 0 0).toNat:Int)<128),())).bind fun v=>Sum.elim (fun v=>some (v.1,v.2.1,())) (fun v=>some (v.1,v.2.1,())) v else none else (f228_c0 (x0,false,())).bind fun v=>Sum.elim (fun v=>some (v.1,v.2.1,())) (fun v=>some (v.1,v.2.1,())) v
def z8m:z9k:=f4z x4h z3b
theorem b1e:FO 228 (f2j z8m):=ve zy x1s g4b b8e f4z x4h z3b v5a Tryz.func228 (And.intro k8i trivial)
abbrev q9a:=qa×Int×Int×List (qa)×Unit→Option (qa×Int×List (qa)×Unit)
def y7z (f:q9a):LEnt:=⟨w3y,w7q,f⟩
abbrev q8z:=qa×Int×Unit→Option (List (qa)×Unit)
def y7y (f:q8z):LEnt:=⟨w3z,w7r,f⟩
abbrev z0a:=qa×Int×Unit→Option (List (qa)×Unit)
def f1w (f:z0a):FEnt:=⟨x0t,z1b,f⟩
def k2a (f227:j1w) (f228:z9k):=lk [(227,g1j f227),(228,f2j f228)]
theorem y5n:zb Tryz.prog (k2a j1p z8m):=(kc g0h (kc b1e kn))
def x0e (f227:j1w) (f228:z9k):yh (qa×Int×Int×List (qa)×Unit) (qa×Int×List (qa)×Unit):=fun (x0,x1,x2,x3,_)=>bif decide (x2<IntKind.i64.wrap (x1-1)) then (f228 (x0,())).bind fun v=>bif decide (0≤v.2.1)&&decide (v.2.1≤(↑x0.length:Int)) then bif decide (0≤x2)&&decide (x2<(↑x3.length:Int)) then bif decide (0≤v.2.1)&&decide (v.2.1≤(↑x0.length:Int)) then some (Sum.inl (List.drop (Int.toNat v.2.1) x0,x1,IntKind.i64.wrap (x2+1),x3.set x2.toNat (List.take (Int.toNat v.2.1) x0),())) else none else none else none else some (Sum.inr (x0,x1,x3,()))
def z2v:q9a:=qc (x0e j1p z8m) jc
theorem k7w:jf 0 (qe (code Tryz.f193) [1,1,1,1,0,1,0,0]) (y7z z2v):=zl2 w3y w7q k2a x0e j1p z8m y5n
def k3j (f193_l0:q9a):Ann:=(.seq .nil (.seq (.seq .nil (.blk (.loop (y7z f193_l0)))) .nil))
def x0d (f227:j1w) (f228:z9k) (f193_l0:q9a):q8z:=fun (x0,x1,_)=>bif decide (0≤x1)&&(decide (x1=x1)&&(decide ((↑16:Int)*x1≤281474976710656)&&decide (x1≤140737488355328))) then (f193_l0 (x0,x1,0,List.replicate x1.toNat [],())).bind fun v=>bif decide (v.2.1>0) then bif decide (0≤IntKind.i64.wrap (v.2.1-1))&&decide (IntKind.i64.wrap (v.2.1-1)<(↑(List.length v.2.2.1):Int)) then some (List.set v.2.2.1 (IntKind.i64.wrap (v.2.1-1)).toNat v.1,()) else none else some (v.2.2.1,()) else none
theorem k5k (f227:j1w) (f228:z9k) (f193_l0:q9a):AqC (k2a f227 f228) 0 (qe (code Tryz.f193) [1,1,1]) (k3j f193_l0) w3z w7r (x0d f227 f228 f193_l0):=fun v=>by kernel_rfl
def z2u:q8z:=x0d j1p z8m z2v
theorem k7v:jy 0 (qe (code Tryz.f193) [1,1,1]) (y7y z2u) :=
 frd y5n (And.intro k7w trivial) (k5k j1p z8m z2v)
def b7w (f193_c0:q8z):Ann:=(.seq .nil (.seq .nil (.cut .nil (y7y f193_c0))))
def f4w (f227:j1w) (f228:z9k) (f193_c0:q8z):z0a:=fun (x0,x1,_)=>(f227 (x0,())).bind fun v=>bif decide (x1<0) then (f193_c0 (x0,v.1,())).bind fun v=>some (v.1,()) else bif decide (x1>v.1) then (f193_c0 (x0,v.1,())).bind fun v=>some (v.1,()) else (f193_c0 (x0,x1,())).bind fun v=>some (v.1,())
def j6n:z0a:=f4w j1p z8m z2u
theorem b0r:FO 193 (f1w j6n):=q5y x0t z1b k2a b7w f4w j1p z8m z2u y5n Tryz.func193 (And.intro k7v trivial)
abbrev q6h:=qa×qa×Unit→Option (Int×Unit)
def g1e (f:q6h):FEnt:=⟨zu,jb,f⟩
def b5k (f197:y4j):=lk [(197,g1f f197)]
def v9x (f197:y4j):q6h:=fun (x0,x1,_)=>(f197 (x0,x1,())).bind fun v=>some (v.1,())
def q2l:q6h:=v9x z2x
theorem g0d:FO 195 (g1e q2l):=vf zu jb b5k v9x z2x (kc g0e kn) Tryz.func195
abbrev q9b:=qa×qa×Int×Unit→Option (Int×Unit)
def y8a (f:q9b):LEnt:=⟨w4a,w7s,f⟩
abbrev z0b:=qa×qa×Unit→Option (Int×Unit)
def f1x (f:z0b):FEnt:=⟨zu,jb,f⟩
def g3y (f195:q6h) (f227:j1w) (f229:x5r):=lk [(195,g1e f195),(227,g1j f227),(229,f2k f229)]
theorem v4x:zb Tryz.prog (g3y q2l j1p x4g):=(kc g0d (kc g0h (kc b1f kn)))
def x0f (f195:q6h) (f227:j1w) (f229:x5r):yh (qa×qa×Int×Unit) (Int×Unit):=fun (x0,x1,x2,_)=>(f195 (x0,x1,())).bind fun v=>bif v.1 == -1 then some (Sum.inr (x2,())) else bif decide (0≤IntKind.i64.wrap (v.1+(↑x1.length:Int)))&&decide (IntKind.i64.wrap (v.1+(↑x1.length:Int))≤(↑x0.length:Int)) then some (Sum.inl (List.drop (IntKind.i64.wrap (v.1+(↑x1.length:Int))).toNat x0,x1,IntKind.i64.wrap (x2+1),())) else none
theorem k5l (f195:q6h) (f227:j1w) (f229:x5r):AqL (g3y f195 f227 f229) 0 (qe (code Tryz.f194) [1,1,1,1,0,0]) .nil w4a w7s (x0f f195 f227 f229):=fun v=>by kernel_rfl
def z2w:q9b:=qc (x0f q2l j1p x4g) jc
theorem k7x:jf 0 (qe (code Tryz.f194) [1,1,1,1,0,0]) (y8a z2w) :=
 frl v4x (k5l q2l j1p x4g)
def b7x (f194_l0:q9b):Ann:=(.seq .nil (.seq .nil (.seq .nil (.seq .nil (.blk (.loop (y8a f194_l0)))))))
def f4x (f195:q6h) (f227:j1w) (f229:x5r) (f194_l0:q9b):z0b:=fun (x0,x1,_)=>bif (↑x1.length:Int)==0 then (f227 (x0,())).bind fun v=>some (IntKind.i64.wrap (v.1+1),()) else bif (↑x1.length:Int)==1 then bif decide (0<(↑x1.length:Int)) then (f229 (x0,(↑(x1.getD 0 0).toNat:Int),())).bind fun v=>some (v.1,()) else none else (f194_l0 (x0,x1,0,())).bind fun v=>some (v.1,())
theorem d3q (f195:q6h) (f227:j1w) (f229:x5r) (f194_l0:q9b):zw (g3y f195 f227 f229) 0 Tryz.f194 (b7x f194_l0) zu jb (f4x f195 f227 f229 f194_l0):=fun v=>by kernel_rfl
def j1o:z0b:=f4x q2l j1p x4g z2w
theorem b0s:FO 194 (f1x j1o) :=
 qo v4x Tryz.func194 (And.intro k7x trivial) (d3q q2l j1p x4g z2w)
abbrev q8y:=qa×qa×Int×Int×Int×List (qa)×Unit→Option (qa×Int×List (qa)×Unit)
def y7r (f:q8y):LEnt:=⟨w4c,w7t,f⟩
abbrev q4m:=qa×qa×Int×Int×Unit→Option (List (qa)×Unit)
def y7q (f:q4m):LEnt:=⟨w4d,w7u,f⟩
abbrev v2b:=qa×qa×Int×Int×Unit→Option (List (qa)×Unit)
def f1m (f:v2b):FEnt:=⟨w4b,z1b,f⟩
def k1y (f193:z0a) (f194:z0b) (f195:q6h):=lk [(193,f1w f193),(194,f1x f194),(195,g1e f195)]
theorem y5l:zb Tryz.prog (k1y j6n j1o q2l):=(kc b0r (kc b0s (kc g0d kn)))
def q8j (f193:z0a) (f194:z0b) (f195:q6h):yh (qa×qa×Int×Int×Int×List (qa)×Unit) (qa×Int×List (qa)×Unit):=fun (x0,x1,x2,x3,x4,x5,_)=>bif decide (x4<x3) then (f195 (x0,x1,())).bind fun v=>bif decide (v.1<0) then some (Sum.inr (x0,x4,x5,())) else bif decide (0≤IntKind.i64.wrap (v.1+x2))&&decide (IntKind.i64.wrap (v.1+x2)≤(↑x0.length:Int)) then bif decide (0≤x4)&&decide (x4<(↑x5.length:Int)) then bif decide (0≤IntKind.i64.wrap (v.1+(↑x1.length:Int)))&&decide (IntKind.i64.wrap (v.1+(↑x1.length:Int))≤(↑x0.length:Int)) then some (Sum.inl (List.drop (IntKind.i64.wrap (v.1+(↑x1.length:Int))).toNat x0,x1,x2,x3,IntKind.i64.wrap (x4+1),x5.set x4.toNat (List.take (IntKind.i64.wrap (v.1+x2)).toNat x0),())) else none else none else none else some (Sum.inr (x0,x4,x5,()))
theorem k5h (f193:z0a) (f194:z0b) (f195:q6h):AqL (k1y f193 f194 f195) 0 (qe (code Tryz.f161) [1,1,1,1,1,1,1,1,0,0,0]) .nil w4c w7t (q8j f193 f194 f195):=fun v=>by kernel_rfl
def q7q:q8y:=qc (q8j j6n j1o q2l) jc
theorem k7o:jf 0 (qe (code Tryz.f161) [1,1,1,1,1,1,1,1,0,0,0]) (y7r q7q) :=
 frl y5l (k5h j6n j1o q2l)
def k3g (f161_l0:q8y):Ann:=(.seq .nil (.seq .nil (.seq .nil (.seq .nil (.seq (.blk (.loop (y7r f161_l0))) .nil)))))
def j4y (f193:z0a) (f194:z0b) (f195:q6h) (f161_l0:q8y):q4m:=fun (x0,x1,x2,x3,_)=>bif decide (0≤if IntKind.i64.wrap ((↑x0.length:Int)+1)<x3 then IntKind.i64.wrap ((↑x0.length:Int)+1) else x3)&&(decide ((if IntKind.i64.wrap ((↑x0.length:Int)+1)<x3 then IntKind.i64.wrap ((↑x0.length:Int)+1) else x3)=if IntKind.i64.wrap ((↑x0.length:Int)+1)<x3 then IntKind.i64.wrap ((↑x0.length:Int)+1) else x3)&&(decide (((↑16:Int)*if IntKind.i64.wrap ((↑x0.length:Int)+1)<x3 then IntKind.i64.wrap ((↑x0.length:Int)+1) else x3)≤281474976710656)&&decide ((if IntKind.i64.wrap ((↑x0.length:Int)+1)<x3 then IntKind.i64.wrap ((↑x0.length:Int)+1) else x3)≤140737488355328))) then (f161_l0 (x0,x1,x2,IntKind.i64.wrap ((if IntKind.i64.wrap ((↑x0.length:Int)+1)<x3 then IntKind.i64.wrap ((↑x0.length:Int)+1) else x3)-1),0,List.replicate (if IntKind.i64.wrap ((↑x0.length:Int)+1)<x3 then IntKind.i64.wrap ((↑x0.length:Int)+1) else x3).toNat [],())).bind fun v=>bif decide (0≤v.2.1)&&decide (v.2.1<(↑(List.length v.2.2.1):Int)) then bif decide (0≤IntKind.i64.wrap (v.2.1+1))&&decide (IntKind.i64.wrap (v.2.1+1)≤(↑(List.set v.2.2.1 (Int.toNat v.2.1) v.1).length:Int)) then some (List.take (IntKind.i64.wrap (v.2.1+1)).toNat (List.set v.2.2.1 (Int.toNat v.2.1) v.1),()) else none else none else none
theorem k5g (f193:z0a) (f194:z0b) (f195:q6h) (f161_l0:q8y):AqC (k1y f193 f194 f195) 0 (qe (code Tryz.f161) [1,1,1,1]) (k3g f161_l0) w4d w7u (j4y f193 f194 f195 f161_l0):=fun v=>by kernel_rfl
def q7p:q4m:=j4y j6n j1o q2l q7q
theorem k7n:jy 0 (qe (code Tryz.f161) [1,1,1,1]) (y7q q7p) :=
 frd y5l (And.intro k7o trivial) (k5g j6n j1o q2l q7q)
def b7r (f161_c0:q4m):Ann:=(.seq .nil (.seq .nil (.seq .nil (.cut .nil (y7q f161_c0)))))
def v9r (f193:z0a) (f194:z0b) (f195:q6h) (f161_c0:q4m):v2b:=fun (x0,x1,x2,x3,_)=>bif x3==0 then some ([],()) else bif x1==[] then (f193 (x0,x3,())).bind fun v=>some (v.1,()) else bif decide (x3<0) then (f194 (x0,x1,())).bind fun v=>(f161_c0 (x0,x1,x2,IntKind.i64.wrap (v.1+1),())).bind fun v=>some (v.1,()) else (f161_c0 (x0,x1,x2,x3,())).bind fun v=>some (v.1,())
theorem d3m (f193:z0a) (f194:z0b) (f195:q6h) (f161_c0:q4m):zw (k1y f193 f194 f195) 0 Tryz.f161 (b7r f161_c0) w4b z1b (v9r f193 f194 f195 f161_c0):=fun v=>by kernel_rfl
def x8k:v2b:=v9r j6n j1o q2l q7p
theorem b0g:FO 161 (f1m x8k) :=
 qo y5l Tryz.func161 (And.intro k7n trivial) (d3m j6n j1o q2l q7p)
abbrev j7g:=qa×qa×Unit→Option (List (qa)×Unit)
def g0u (f:j7g):FEnt:=⟨zu,z1b,f⟩
def b4p (f161:v2b):=lk [(161,f1m f161)]
def v9l (f161:v2b):j7g:=fun (x0,x1,_)=>(f161 (x0,x1,0,-1,())).bind fun v=>some (v.1,())
def j3k:j7g:=v9l x8k
theorem w9r:FO 125 (g0u j3k):=vf zu z1b b4p v9l x8k (kc b0g kn) Tryz.func125
abbrev z6e:=qa×Int×Int×Unit→Option ((qa×Unit)⊕(Bool×Unit))
def v0n (f:z6e):LEnt:=⟨w4e,w7v,f⟩
abbrev T47:=qa×Unit→Option (Bool×Unit)
def E47 (f:T47):FEnt:=⟨zy,qw,f⟩
def K47 (f90:T90):=lk [(90,E90 f90)]
theorem w9e:zb Tryz.prog (K47 C90):=(kc g9x kn)
def v1p (f90:T90):yh (qa×Int×Int×Unit) ((qa×Unit)⊕(Bool×Unit)):=fun (x0,x1,x2,_)=>bif decide (x2<x1) then bif decide (0≤x2)&&decide (x2<(↑x0.length:Int)) then (f90 ((↑(x0.getD x2.toNat 0).toNat:Int),())).bind fun v=>bif !v.1 then some (Sum.inr (Sum.inr (false,()))) else some (Sum.inl (x0,x1,IntKind.i64.wrap (x2+1),())) else none else some (Sum.inr (Sum.inl (x0,())))
def y3i:z6e:=qc (v1p C90) jc
theorem g8u:jf 0 (qe (code Tryz.f47) [1,0,1,0,0]) (v0n y3i):=zl1 w4e w7v K47 v1p C90 w9e
def N47 (f47_l0:z6e):Ann:=(.seq .nil (.seq (.seq .nil (.blk (.loop (v0n f47_l0)))) .nil))
def F47 (f90:T90) (f47_l0:z6e):T47:=fun (x0,_)=>(f47_l0 (x0,(↑x0.length:Int),0,())).bind fun v=>Sum.elim (fun v=>some (bif v.1==[] then false else true,())) (fun v=>some (v.1,())) v
def C47:T47:=F47 C90 y3i
theorem d5m:FO 47 (E47 C47):=ve zy qw K47 N47 F47 C90 y3i w9e Tryz.func47 (And.intro g8u trivial)
abbrev z6i:=List (qa)×Int×Int×Unit→Option (Unit⊕(Bool×Unit))
def v0u (f:z6i):LEnt:=⟨w4f,w7w,f⟩
abbrev T88:=qa×Unit→Option (Bool×Unit)
def E88 (f:T88):FEnt:=⟨zy,qw,f⟩
def K88 (f125:j7g) (f47:T47):=lk [(125,g0u f125),(47,E47 f47)]
theorem w9i:zb Tryz.prog (K88 j3k C47):=(kc w9r (kc d5m kn))
def v1r (f125:j7g) (f47:T47):yh (List (qa)×Int×Int×Unit) (Unit⊕(Bool×Unit)):=fun (x0,x1,x2,_)=>bif decide (x2<x1) then bif decide (0≤x2)&&decide (x2<(↑x0.length:Int)) then (f47 (x0.getD x2.toNat [],())).bind fun v=>bif !v.1 then some (Sum.inr (Sum.inr (false,()))) else some (Sum.inl (x0,x1,IntKind.i64.wrap (x2+1),())) else none else some (Sum.inr (Sum.inl ()))
def y3k:z6i:=qc (v1r j3k C47) jc
theorem g9b:jf 0 (qe (code Tryz.f88) [1,0,1,0,0]) (v0u y3k):=zl2 w4f w7w K88 v1r j3k C47 w9i
def N88 (f88_l0:z6i):Ann:=(.seq .nil (.seq (.seq .nil (.blk (.loop (v0u f88_l0)))) .nil))
def F88 (f125:j7g) (f47:T47) (f88_l0:z6i):T88:=fun (x0,_)=>(f125 (x0,[46],())).bind fun v=>(f88_l0 (v.1,(↑(List.length v.1):Int),0,())).bind fun v=>Sum.elim (fun v=>some (true,())) (fun v=>some (v.1,())) v
def C88:T88:=F88 j3k C47 y3k
theorem d6f:FO 88 (E88 C88):=q5y zy qw K88 N88 F88 j3k C47 y3k w9i Tryz.func88 (And.intro g9b trivial)
abbrev T45:=qa×qa×Unit→Option (qa×Unit)
def E45 (f:T45):FEnt:=⟨w4g,q6e,f⟩
def K45 (f88:T88) (f89:T89):=lk [(88,E88 f88),(89,E89 f89)]
def F45 (f88:T88) (f89:T89):T45:=fun (x0,x1,_)=>(f88 (x0,())).bind fun v=>bif !v.1 then (f89 (1,x0,0,())).bind fun v=>bif decide (List.length v.1+[64].length≤9223372036854775807) then bif decide ((v.1++[64]).length+x1.length≤9223372036854775807) then some (v.1++[64]++x1,()) else none else none else bif decide (x0.length+[64].length≤9223372036854775807) then bif decide ((x0++[64]).length+x1.length≤9223372036854775807) then some (x0++[64]++x1,()) else none else none
def C45:T45:=F45 C88 C89
theorem d5l:FO 45 (E45 C45):=zq2 w4g q6e K45 F45 C88 C89 (kc d6f (kc b3v kn)) Tryz.func45
abbrev T79:=Int×qa×Int×qa×Unit→Option (Bool×Unit)
def E79 (f:T79):FEnt:=⟨w4h,qw,f⟩
def F79:T79:=fun (x0,x1,x2,x3,_)=>bif x0==2 then some (x1==x3,()) else some (false,())
def C79:T79:=F79
theorem d5y:FO 79 (E79 C79):=zq0 w4h qw yp F79 kn Tryz.func79
abbrev T81:=Int×qa×Int×Unit→Option (Bool×Unit)
def E81 (f:T81):FEnt:=⟨x0z,qw,f⟩
def F81:T81:=fun (x0,x1,x2,_)=>bif x0==4 then some (true,()) else some (x0==3,())
def C81:T81:=F81
theorem d6a:FO 81 (E81 C81):=zq0 x0z qw yp F81 kn Tryz.func81
abbrev j5o:=LqD×Int×Int×Unit→Option (Unit⊕(Int×Unit))
def y6v (f:j5o):LEnt:=⟨w4i,j2w,f⟩
abbrev v1x:=LqD×Unit→Option (Int×Unit)
def f0x (f:v1x):FEnt:=⟨x1b,jb,f⟩
def g3r (f81:T81):=lk [(81,E81 f81)]
theorem v4s:zb Tryz.prog (g3r C81):=(kc d6a kn)
def z3q (f81:T81):yh (LqD×Int×Int×Unit) (Unit⊕(Int×Unit)):=fun (x0,x1,x2,_)=>bif decide (x2<x1) then bif decide (0≤x2)&&decide (x2<(↑x0.length:Int)) then (f81 ((x0.getD x2.toNat (0,([],0))).1,(x0.getD x2.toNat (0,([],0))).2.1,(x0.getD x2.toNat (0,([],0))).2.2,())).bind fun v=>bif v.1 then some (Sum.inr (Sum.inr (x2,()))) else some (Sum.inl (x0,x1,IntKind.i64.wrap (x2+1),())) else none else some (Sum.inr (Sum.inl ()))
def z2l:j5o:=qc (z3q C81) jc
theorem k6s:jf 0 (qe (code Tryz.f119) [1,0,1,0,0]) (y6v z2l):=zl1 w4i j2w g3r z3q C81 v4s
def b7e (f119_l0:j5o):Ann:=(.seq .nil (.seq (.seq .nil (.blk (.loop (y6v f119_l0)))) .nil))
def g1x (f81:T81) (f119_l0:j5o):v1x:=fun (x0,_)=>(f119_l0 (x0,(↑x0.length:Int),0,())).bind fun v=>Sum.elim (fun v=>some (-1,())) (fun v=>some (v.1,())) v
def v8o:v1x:=g1x C81 z2l
theorem f9r:FO 119 (f0x v8o):=ve x1b jb g3r b7e g1x C81 z2l v4s Tryz.func119 (And.intro k6s trivial)
abbrev T80:=LqD×Unit→Option (Bool×Unit)
def E80 (f:T80):FEnt:=⟨x1b,qw,f⟩
def K80 (f119:v1x):=lk [(119,f0x f119)]
def F80 (f119:v1x):T80:=fun (x0,_)=>(f119 (x0,())).bind fun v=>some (decide (v.1≥0),())
def C80:T80:=F80 v8o
theorem d5z:FO 80 (E80 C80):=vf x1b qw K80 F80 v8o (kc f9r kn) Tryz.func80
end Go.Proofs.YtiacnhhmkdkpmaaGreatDoorC.W
set_option linter.unusedSimpArgs false
namespace Go.Proofs.YtiacnhhmkdkpmaaGreatDoorC.W
open Go Go.Ae
theorem wr {n:Int} (h1 : -9223372036854775808≤n) (h2:n≤9223372036854775807):IntKind.i64.wrap n=n:=by rw [IntKind.wrap_i64];omega
theorem wrN (n:Nat) (h:n≤9223372036854775806):IntKind.i64.wrap ((n:Int)+1)=((n+1:Nat):Int):=by rw [wr]<;>omega
theorem x3j (b:UInt8):UInt8.ofNat b.toNat=b:=by simp
theorem byte_back (b:UInt8):UInt8.ofNat ((b.toNat:Int)).toNat=b:=by simp
theorem getD_lt {α:Type} {l:List α} {i:Nat} {d:α} (h:i<l.length):l.getD i d=l[i]:=by simp [List.getD_eq_getElem?_getD,List.getElem?_eq_getElem h]
def j8m (c:UInt8):List UInt8:=if c.toNat=34∨c.toNat=92 then [92,c] else [c]
def esc (s:List UInt8):List UInt8:=s.flatMap j8m
theorem v4e (c:UInt8):(j8m c).length≤2:=by unfold j8m;split<;>simp
theorem z6x:∀s:List UInt8,(esc s).length≤2*s.length
 | []=>by simp [esc]
 | c::s=>by have:=z6x s;have:=v4e c;simp [esc] at *;omega
theorem y4x (s t:List UInt8):esc (s++t)=esc s++esc t:=by simp [esc]
theorem je {α:Type} {s:List α} {k:Nat} (h:k<s.length):s.take (k+1)=s.take k++[s[k]]:=by
 rw [List.take_add_one,List.getElem?_eq_getElem h];rfl
theorem v4f {s:List UInt8} {k:Nat} (h:k<s.length):esc (s.take (k+1))=esc (s.take k)++j8m s[k]:=by
 rw [je h,y4x];simp [esc]
theorem ibT {a b:Int} (h:a=b):(a==b)=true:=by simp [h]
theorem ibF {a b:Int} (h:a≠b):(a==b)=false:=by simp [h]
theorem inT {a b:Int} (h:a≠b):(a != b)=true:=by simp [h]
theorem inF {a b:Int} (h:a=b):(a != b)=false:=by simp [h]
theorem y2s {a:UInt8} {n:Nat} (h:a.toNat=n):a=UInt8.ofNat n:=by subst h;simp
theorem g7x {c:UInt8} (h:c.toNat=34):j8m c=[92]++[c]:=by simp [j8m,h]
theorem g7v {c:UInt8} (h:c.toNat=92):j8m c=[92]++[c]:=by simp [j8m,h]
theorem g7w {c:UInt8} (h:¬c.toNat=34) (h2:¬c.toNat=92):j8m c=[c]:=by simp [j8m,h,h2]
theorem r14 (s:List UInt8) (k:Nat) (acc:List UInt8) (h:k<s.length) (hb:s.length≤9223372036854775806) (ha:acc.length+2≤140737488355328) :
 vr (s,(s.length:Int),(k:Int),acc,())=some (.inl (s,(s.length:Int),((k+1:Nat):Int),acc++j8m s[k],())):=by
 by_cases e1:s[k].toNat=34
 · simp (disch:=omega) only [vr,decide_eq_true,cond_true,Bool.and_self,zd,getD_lt,byte_back,wrN,Int.toNat_natCast,ibT,g7x,List.append_assoc,x3j]
 · by_cases e2:s[k].toNat=92
   · simp (disch:=omega) only [vr,decide_eq_true,cond_true,cond_false,Bool.and_self,zd,getD_lt,byte_back,wrN,Int.toNat_natCast,ibT,ibF,g7v,List.append_assoc,x3j]
   · simp (disch:=omega) only [vr,decide_eq_true,cond_true,cond_false,Bool.and_self,zd,getD_lt,byte_back,wrN,Int.toNat_natCast,ibT,ibF,g7w,List.append_assoc,x3j]
theorem c14 (s:List UInt8) (hb:s.length≤70368744177663):x8h (s,())=some (esc s,()):=by
 have key:∀(k:Nat) (n:Nat),k≤s.length→s.length-k<n→qc vr n (s,(s.length:Int),(k:Int),esc (s.take k),())=some (esc s,()):=by
  intro k n
  induction n generalizing k with
  | zero=>intro _ h;omega
  | succ n ih =>
   intro hk hn;by_cases h:k<s.length
   · have hl:=z6x (s.take k)
     rw [ql (r14 s k _ h (by omega) (by simp only [List.length_take] at hl;omega)),←v4f h];exact ih (k+1) (by omega) (by omega)
   · have:k=s.length:=by omega
     subst this;refine qd ?_;simp [vr]
 have:=key 0 jc (by omega) (by unfold jc;omega);simp only [List.take_zero] at this;show v9m q7f (s,())=_;simp only [v9m,q7f];rw [show qc vr jc (s,(s.length:Int),0,[],())=some (esc s,()) from this];rfl
def src (k:Int) (s:List UInt8):List UInt8:=if k=1 then [34]++esc s++[34] else if k=3 then [40]++s++[41] else if k=5 then [91]++s++[93] else s
theorem c9 (k:Int) (s:List UInt8) (a:Int) (hb:s.length≤9000):C89 (k,s,a,())=some (src k s,()):=by
 have hl:=z6x s;show F89 x8h (k,s,a,())=_;by_cases e1:k=1
 · simp (disch:=omega) only [F89,c14,ibT,cond_true,decide_eq_true,zd,Option.bind_some,src,if_pos]
 · by_cases e3:k=3
   · simp (disch:=omega) only [F89,ibT,ibF,cond_true,cond_false,decide_eq_true,zd,Option.bind_some,src,if_pos,if_neg]
   · by_cases e5:k=5
     · simp (disch:=omega) only [F89,ibT,ibF,cond_true,cond_false,decide_eq_true,zd,Option.bind_some,src,if_pos,if_neg]
     · simp (disch:=omega) only [F89,ibT,ibF,cond_true,cond_false,src,if_neg]
theorem vk (p:UInt8→Bool) (h:(List.range 256).all (fun n=>p (UInt8.ofNat n))=true) (c:UInt8):p c=true:=by
 have h1:=List.all_eq_true.1 h c.toNat (List.mem_range.2 (by have:=c.toNat_lt;omega))
 simpa using h1
def gB (o:Option (Bool×Unit)):Bool:=match o with|some (b,_)=>b|none=>false
def okB (o:Option (Bool×Unit)):Bool:=match o with|some (_,_)=>true|none=>false
theorem j9b {o:Option (Bool×Unit)} (h:okB o=true):o=some (gB o,()):=by
 cases o with
 | none=>cases h
 | some x=>rfl
def q0p (c:UInt8):Bool:=gB (C90 ((c.toNat:Int),()))
def zn (c:UInt8):Bool:=gB (xi ((c.toNat:Int),()))
def zq (c:UInt8):Bool:=gB (yi ((c.toNat:Int),()))
def x3t (c:UInt8):Int:=match q2i ([60,62,58,59,64,44,46],(c.toNat:Int),()) with|some (i,_)=>i|none=>0
def j1d (c:UInt8):Bool:=decide (x3t c≥0)
theorem c17 (c:UInt8):C90 ((c.toNat:Int),())=some (q0p c,()):=j9b (vk (fun c=>okB (C90 ((c.toNat:Int),()))) (by kernel_rfl) c)
theorem c32 (c:UInt8):xi ((c.toNat:Int),())=some (zn c,()):=j9b (vk (fun c=>okB (xi ((c.toNat:Int),()))) (by kernel_rfl) c)
theorem c31 (c:UInt8):yi ((c.toNat:Int),())=some (zq c,()):=j9b (vk (fun c=>okB (yi ((c.toNat:Int),()))) (by kernel_rfl) c)
theorem x7a (c:UInt8):q2i ([60,62,58,59,64,44,46],(c.toNat:Int),())=some (x3t c,()):=rfl
theorem gd {α:Type} {pre r:List α} {c d:α} {p:Nat} (h:pre.length=p):(pre++c::r).getD p d=c:=by subst h;simp
theorem dr {α:Type} {pre r:List α} {p:Nat} (h:pre.length=p):List.drop p (pre++r)=r:=by subst h;simp
theorem Sk:(∀{p:Prop} [Decidable p],p→decide p=true)∧(∀{p:Prop} [Decidable p],¬p→decide p=false)∧(∀{α:Type} (a b:α),(bif true then a else b)=a)∧(∀{α:Type} (a b:α),(bif false then a else b)=b) ∧
 (∀b:Bool,(b&&b)=b)∧(∀b:Bool,(true&&b)=b)∧(∀b:Bool,(b&&true)=b)∧(∀b:Bool,(false&&b)=false)∧(∀b:Bool,(b&&false)=false)∧(!true)=false∧(!false)=true ∧
 (∀{α:Type} {a b:List α},(a++b).length=a.length+b.length)∧(∀{α:Type} {a:α} {l:List α},(a::l).length=l.length+1)∧(∀{α:Type},([]:List α).length=0)∧(∀n:Nat,((n:Int)).toNat=n) ∧
 (∀{a b:Int},a=b→(a==b)=true)∧(∀{a b:Int},a≠b→(a==b)=false)∧(∀{a b:Int},a≠b→(a != b)=true)∧(∀{a b:Int},a=b→(a != b)=false) ∧
 (∀n:Nat,n≤9223372036854775806→IntKind.i64.wrap ((n:Int)+1)=((n+1:Nat):Int))∧(∀{α:Type} {pre r:List α} {c d:α} {p:Nat},pre.length=p→(pre++c::r).getD p d=c)∧(∀{α:Type} {pre r:List α} {p:Nat},pre.length=p→List.drop p (pre++r)=r) ∧
 (∀{α β:Type} (a:α) (f:α→Option β),(some a).bind f=f a)∧(∀{α β γ:Type} (f:α→γ) (g:β→γ) (x:α),Sum.elim f g (Sum.inl x)=f x)∧(∀{α β γ:Type} (f:α→γ) (g:β→γ) (x:β),Sum.elim f g (Sum.inr x)=g x)∧(∀b:UInt8,UInt8.ofNat ((b.toNat:Int)).toNat=b)∧∀b:UInt8,UInt8.ofNat b.toNat=b :=
 ⟨@decide_eq_true,@decide_eq_false,fun _ _=>rfl,fun _ _=>rfl,Bool.and_self,Bool.true_and,Bool.and_true,Bool.false_and,Bool.and_false,rfl,rfl,@fun _ _ _=>List.length_append,@fun _ _ _=>List.length_cons,@fun _=>List.length_nil,Int.toNat_natCast,@ibT,@ibF,@inT,@inF,wrN,@gd,@dr,@Option.bind_some,fun _ _ _=>rfl,fun _ _ _=>rfl,byte_back,x3j⟩
theorem shift {α:Type} (pre:List α) (c:α) (r:List α):pre++c::r=(pre++[c])++r:=by simp
theorem c27 (k e:Int) (s:List UInt8) (at_ bad err:Int):zx (k,e,s,at_,bad,err,())=some (s,at_,k,e,()):=rfl
def al:List UInt8→Nat
 | []=>0
 | c::r=>bif q0p c then al r+1 else 0
theorem v2s:∀r,al r≤r.length
 | []=>Nat.le_refl _
 | c::r=>by have:=v2s r;simp only [al];cases q0p c<;>simp;omega
theorem l21 (f bad err:Int):∀(r pre:List UInt8) (p n:Nat),pre.length=p→r.length<n→p+r.length≤140737488355328 →
 qc (q3v C90 q1b) n (f,pre++r,(p:Int),bad,err,())=some (f,pre++r,((p+al r:Nat):Int),bad,err,())
 | [],pre,p,n+1,hp,hn,hb=>by
  refine qd ?_;simp (disch:=(first|omega|(simp only [zd];omega))) only [q3v,q1b,q8i,Sk,al,List.append_nil,Nat.add_zero]
 | c::r,pre,p,n+1,hp,hn,hb=>by
  simp only [List.length_cons] at hn hb;cases h:q0p c with
  | true =>
   rw [ql (v':=(f,pre++c::r,((p+1:Nat):Int),bad,err,())) (by simp (disch:=(first|omega|(simp only [zd];omega))) only [q3v,q1b,q8i,Sk,c17,h])];rw [shift,l21 f bad err r (pre++[c]) (p+1) n (by simp [hp]) (by omega) (by omega)];simp only [al,h,cond_true,Nat.add_assoc,Nat.add_comm 1]
  | false =>
   refine qd ?_;simp (disch:=(first|omega|(simp only [zd];omega))) only [q3v,q1b,q8i,Sk,c17,h,al,Nat.add_zero]
theorem c21 (pre r:List UInt8) (p:Nat) (bad err:Int) (hp:pre.length=p) (hb:p+r.length≤140737488355328) :
 z8e (pre++r,(p:Int),bad,err,())=some (r.take (al r),pre++r,((p+al r:Nat):Int),bad,err,()):=by
 have:=v2s r;show v9n C90 q7g (pre++r,(p:Int),bad,err,())=_;have hl:q7g ((p:Int),pre++r,(p:Int),bad,err,())=_:=l21 p bad err r pre p jc hp (by unfold jc;omega) hb;simp (disch:=(first|omega|(simp only [zd];omega))) only [v9n,hl,Sk];rw [show List.drop p (List.take (p+al r) (pre++r))=r.take (al r) by rw [←hp,List.take_append,List.take_of_length_le (by omega),List.drop_append];simp]
def wl:List UInt8→Nat
 | []=>0
 | c::r=>bif zn c then wl r+1 else
  match r with
  | b::d::r'=>bif (c==13&&b==10)&&zn d then wl r'+3 else 0
  | _=>0
theorem y2v:∀r,wl r≤r.length
 | []=>Nat.le_refl _
 | [c]=>by simp only [wl];cases zn c<;>simp
 | [c,b]=>by have:=y2v [b];simp only [wl] at *;cases zn c<;>cases zn b<;>simp
 | c::b::d::r'=>by
  have h1:=y2v (b::d::r');have h2:=y2v r';rw [wl];cases zn c
  · simp only [cond_false];cases (c==13&&b==10)&&zn d<;>simp;omega
  · simp only [cond_true,List.length_cons] at *;omega
theorem g5q (c b:UInt8):([c,b]==[13,10])=(c==13&&b==10):=by
 rw [Bool.eq_iff_iff];simp
theorem v3c (f p:Nat) (s:List UInt8) (bad err:Int) (b:Bool) (hf:f≤p) (hp:p≤s.length) (hb:p≤140737488355328) :
 xr ((f:Int),b,s,(p:Int),bad,err,())=some (bif b then .inl ((f:Int),s,((p+3:Nat):Int),bad,err,()) else .inr (List.drop f (List.take p s),s,(p:Int),bad,err,())):=by
 cases b with
 | true=>simp only [xr,j4v,cond_true];rw [wr (by omega) (by omega)];rfl
 | false=>simp (disch:=(first|omega|(simp only [zd];omega))) only [xr,j4v,Sk]
theorem d6r {c:UInt8} {r:List UInt8} (h:zn c=true):wl (c::r)=wl r+1:=by
 match r with
 | []=>simp [wl,h]
 | [b]=>simp [wl,h]
 | b::d::r=>rw [wl,h];rfl
theorem x3w {c:UInt8} {r:List UInt8} (h:zn c=false) (h2:r.length<2):wl (c::r)=0:=by
 match r,h2 with
 | [],_=>simp [wl,h]
 | [b],_=>simp [wl,h]
 | b::d::r,h2=>simp at h2;omega
theorem l26 (f:Nat) (bad err:Int):∀(m:Nat) (r pre:List UInt8) (p n:Nat),r.length≤m→pre.length=p→r.length<n→f≤p→p+r.length≤140737488355328 →
 qc (yj xi xr) n ((f:Int),pre++r,(p:Int),bad,err,())=some (.inl ((f:Int),pre++r,((p+wl r:Nat):Int),bad,err,())) ∨
 qc (yj xi xr) n ((f:Int),pre++r,(p:Int),bad,err,())=some (.inr (List.drop f (List.take (p+wl r) (pre++r)),pre++r,((p+wl r:Nat):Int),bad,err,()))
 | _,_,_,_,0,_,_,hn,_,_=>by omega
 | m,[],pre,p,n+1,hm,hp,hn,hf,hb=>by
  refine .inl (qd ?_);simp (disch:=(first|omega|(simp only [zd];omega))) only [yj,Sk,wl,List.append_nil,Nat.add_zero]
 | 0,c::r,pre,p,n+1,hm,hp,hn,hf,hb=>by simp at hm
 | m+1,c::r,pre,p,n+1,hm,hp,hn,hf,hb=>by
  simp only [List.length_cons] at hn hb hm;cases h:zn c with
  | true =>
   rw [ql (v':=((f:Int),pre++c::r,((p+1:Nat):Int),bad,err,())) (by simp (disch:=(first|omega|(simp only [zd];omega))) only [yj,Sk,c32,h,List.getD_cons_zero])];rw [shift];have:=l26 f bad err m r (pre++[c]) (p+1) n (by omega) (by simp [hp]) (by omega) (by omega) (by omega);rw [show p+wl (c::r)=p+1+wl r by rw [d6r h];omega];exact this
  | false =>
   have stop:∀(hw:wl (c::r)=0),yj xi xr ((f:Int),pre++c::r,(p:Int),bad,err,())=some (.inr (.inr (List.drop f (List.take p (pre++c::r)),pre++c::r,(p:Int),bad,err,()))) →
    qc (yj xi xr) (n+1) ((f:Int),pre++c::r,(p:Int),bad,err,())=some (.inr (List.drop f (List.take (p+wl (c::r)) (pre++c::r)),pre++c::r,((p+wl (c::r):Nat):Int),bad,err,())):=by
    intro hw h;rw [hw];exact qd h
   match r,hm,hn,hb with
   | [],hm,hn,hb =>
    refine .inr (stop (x3w h (by simp)) ?_);simp (disch:=(first|omega|(simp only [zd];omega))) only [yj,Sk,c32,h,List.getD_cons_zero,v3c]
   | [b],hm,hn,hb =>
    refine .inr (stop (x3w h (by simp)) ?_);simp only [List.length_cons,List.length_nil] at hn hb hm;simp (disch:=(first|omega|(simp only [zd];omega))) only [yj,Sk,c32,h,List.getD_cons_zero,v3c]
   | b::d::r',hm,hn,hb =>
    simp only [List.length_cons] at hn hb hm;cases hq:(c==13&&b==10) with
    | false =>
     refine .inr (stop (by rw [wl,h,hq];rfl) ?_);simp (disch:=(first|omega|(simp only [zd];omega))) only [yj,Sk,c32,h,List.getD_cons_zero,v3c,List.take_succ_cons,List.take_zero,g5q,hq]
    | true =>
     cases hd:zn d with
     | false =>
      refine .inr (stop (by rw [wl,h,hq,hd];rfl) ?_);simp (disch:=(first|omega|(simp only [zd];omega))) only [yj,Sk,c32,h,List.getD_cons_zero,List.getD_cons_succ,v3c,List.take_succ_cons,List.take_zero,g5q,hq,hd]
     | true =>
      rw [ql (v':=((f:Int),pre++c::b::d::r',((p+3:Nat):Int),bad,err,())) (by simp (disch:=(first|omega|(simp only [zd];omega))) only [yj,Sk,c32,h,List.getD_cons_zero,List.getD_cons_succ,v3c,List.take_succ_cons,List.take_zero,g5q,hq,hd])];have:=l26 f bad err m r' (pre++[c,b,d]) (p+3) n (by omega) (by simp [hp]) (by omega) (by omega) (by omega);rw [show p+wl (c::b::d::r')=p+3+wl r' by rw [wl,h,hq,hd];simp only [cond_true,cond_false,Bool.and_self];omega];rw [show pre++c::b::d::r'=(pre++[c,b,d])++r' by simp];exact this
theorem j1f {pre r:List UInt8} {p k:Nat} (hp:pre.length=p):List.drop p (List.take (p+k) (pre++r))=r.take k:=by
 rw [←hp,List.take_append,List.take_of_length_le (by omega),List.drop_append];simp
theorem c26 (pre r:List UInt8) (p:Nat) (bad err:Int) (hp:pre.length=p) (hb:p+r.length≤140737488355328) :
 z8i (pre++r,(p:Int),bad,err,())=some (r.take (wl r),pre++r,((p+wl r:Nat):Int),bad,err,()):=by
 have:=y2v r;show v1d xi q3o (pre++r,(p:Int),bad,err,())=_;rcases l26 p bad err r.length r pre p jc (Nat.le_refl _) hp (by unfold jc;omega) (Nat.le_refl _) hb with hl|hl
 · have hl':q3o ((p:Int),pre++r,(p:Int),bad,err,())=_:=hl
   simp (disch:=(first|omega|(simp only [zd];omega))) only [v1d,hl',Sk,j1f]
 · have hl':q3o ((p:Int),pre++r,(p:Int),bad,err,())=_:=hl
   simp (disch:=(first|omega|(simp only [zd];omega))) only [v1d,hl',Sk,j1f]
inductive Tk where
 | ok (t:List UInt8) (u:Nat)
 | bad (off:Nat) (e:Int)
 | start
def Tk.push (l:List UInt8) (n:Nat):Tk→Tk
 | .ok t u => .ok (l++t) (n+u)
 | .bad off e => .bad (n+off) e
 | .start => .start
def qt:List UInt8→Tk
 | [] => .start
 | c::r=>if c.toNat=34 then .ok [] 1 else if c.toNat=92 then
  match r with
  | [] => .start
  | d::r'=>bif zq d then (qt r').push [d] 2 else .bad 1 4
  else bif zq c then (qt r).push [c] 1 else .bad 0 4
theorem y2h {c:UInt8} {r:List UInt8} (h:c.toNat=34):qt (c::r) = .ok [] 1:=by cases r<;>simp [qt,h]
theorem z1z {c:UInt8} (h:c.toNat=92):qt [c] = .start:=by simp [qt,h]
theorem z2a {c d:UInt8} {r:List UInt8} (h:c.toNat=92):qt (c::d::r)=bif zq d then (qt r).push [d] 2 else .bad 1 4:=by simp [qt,h]
theorem y2g {c:UInt8} {r:List UInt8} (h1:¬c.toNat=34) (h2:¬c.toNat=92):qt (c::r)=bif zq c then (qt r).push [c] 1 else .bad 0 4:=by cases r<;>simp [qt,h1,h2]
def z0m (s:List UInt8) (a bad err:Int) (out:List UInt8) (q:Nat):Tk→(List UInt8×Int×Int×Int×Unit)⊕(List UInt8×List UInt8×Int×Int×Int×Unit)
 | .ok t u => .inr (out++t,s,((q+u:Nat):Int),bad,err,())
 | .bad off e => .inr ([],s,a,((q+off:Nat):Int),e,())
 | .start => .inl (s,a,bad,err,())
theorem z2e (s:List UInt8) (a bad err:Int) (out:List UInt8) (q:Nat) (l:List UInt8) (n:Nat) (k:Tk):z0m s a bad err out q (k.push l n)=z0m s a bad err (out++l) (q+n) k:=by
 cases k<;>simp [Tk.push,z0m,Nat.add_assoc]
theorem f7o (pre r out:List UInt8) (d:UInt8) (q:Nat) (a bad err:Int) (hq:pre.length=q) (hb:q+r.length≤140737488355320) (ho:out.length+1≤140737488355328) :
 q3m ((q:Int),pre++d::r,a,bad,err,out,())=some (bif zq d then .inr ((q:Int),pre++d::r,a,bad,err,out++[d],()) else .inl ([],pre++d::r,a,(q:Int),4,())):=by
 cases h:zq d<;>simp (disch:=(first|omega|(simp only [zd];omega))) only [q3m,z3t,Sk,c31,c27,h]
theorem l23 (a bad err:Int):∀(m:Nat) (r pre out:List UInt8) (q n:Nat),r.length≤m→pre.length=q→r.length<n→q+r.length≤140737488355320→out.length+r.length≤140737488355320 →
 qc (xt zx yi q3m) n ((q:Int),pre++r,a,bad,err,out,())=some (z0m (pre++r) a bad err out q (qt r))
 | _,_,_,_,_,0,_,_,hn,_,_=>by omega
 | m,[],pre,out,q,n+1,hm,hq,hn,hb,ho=>by
  refine qd ?_;simp (disch:=(first|omega|(simp only [zd];omega))) only [xt,Sk,List.append_nil,qt,z0m]
 | 0,c::r,pre,out,q,n+1,hm,hq,hn,hb,ho=>by simp at hm
 | m+1,c::r,pre,out,q,n+1,hm,hq,hn,hb,ho=>by
  simp only [List.length_cons] at hn hb hm ho;by_cases e1:c.toNat=34
  · refine qd ?_
    rw [y2h e1];simp (disch:=(first|omega|(simp only [zd];omega))) only [xt,Sk,z0m,List.append_nil]
  · by_cases e2:c.toNat=92
    · match r,hm,hn,hb,ho with
      | [],hm,hn,hb,ho =>
       refine qd ?_;rw [z1z e2];simp (disch:=(first|omega|(simp only [zd];omega))) only [xt,Sk,z0m,List.append_nil]
      | d::r',hm,hn,hb,ho =>
       simp only [List.length_cons] at hn hb hm ho;have hc:=f7o (pre++[c]) r' out d (q+1) a bad err (by simp [hq]) (by omega) (by omega);rw [←shift] at hc;rw [z2a e2];cases h:zq d with
       | true =>
        rw [h] at hc;simp only [cond_true] at hc ⊢;rw [ql (v':=(((q+2:Nat):Int),pre++c::d::r',a,bad,err,out++[d],())) (by
         simp (disch:=(first|omega|(simp only [zd];omega))) only [xt,Sk,hc])]
        have:=l23 a bad err m r' (pre++[c,d]) (out++[d]) (q+2) n (by omega) (by simp [hq]) (by omega) (by omega) (by simp;omega);rw [show pre++c::d::r'=(pre++[c,d])++r' by simp,this,←z2e]
       | false =>
        rw [h] at hc;simp only [cond_false] at hc ⊢;refine qd ?_;simp (disch:=(first|omega|(simp only [zd];omega))) only [xt,Sk,hc,z0m]
    · have hc:=f7o pre r out c q a bad err hq (by omega) (by omega)
      rw [y2g e1 e2];cases h:zq c with
      | true =>
       rw [h] at hc;simp only [cond_true] at hc ⊢;rw [ql (v':=(((q+1:Nat):Int),pre++c::r,a,bad,err,out++[c],())) (by
        simp (disch:=(first|omega|(simp only [zd];omega))) only [xt,Sk,hc])]
       have:=l23 a bad err m r (pre++[c]) (out++[c]) (q+1) n (by omega) (by simp [hq]) (by omega) (by omega) (by simp;omega);rw [shift,this,←z2e]
      | false =>
       rw [h] at hc;simp only [cond_false] at hc ⊢;refine qd ?_;simp (disch:=(first|omega|(simp only [zd];omega))) only [xt,Sk,hc,z0m,Nat.add_zero]
def zc (s:List UInt8) (p:Nat) (bad err:Int) (q:Nat):Tk→List UInt8×List UInt8×Int×Int×Int×Unit
 | .ok t u=>(t,s,((q+u:Nat):Int),bad,err,())
 | .bad off e=>([],s,(p:Int),((q+off:Nat):Int),e,())
 | .start=>([],s,(p:Int),(p:Int),4,())
theorem c23 (pre r:List UInt8) (c:UInt8) (p:Nat) (bad err:Int) (hp:pre.length=p) (hb:p+r.length≤140737488355000) :
 z8f (pre++c::r,(p:Int),bad,err,())=some (zc (pre++c::r) p bad err (p+1) (qt r)):=by
 show v9o zx yi q7h (pre++c::r,(p:Int),bad,err,())=_;have hl:=l23 p bad err r.length r (pre++[c]) [] (p+1) jc (Nat.le_refl _) (by simp [hp]) (by unfold jc;omega) (by omega) (by simp;omega);rw [←shift] at hl;have hl':q7h (((p+1:Nat):Int),pre++c::r,(p:Int),bad,err,[],())=_:=hl;cases hq:qt r<;>rw [hq] at hl'<;>simp (disch:=(first|omega|(simp only [zd];omega))) only [v9o,Sk,hl',z0m,zc,c27,List.nil_append]
def ltk:List UInt8→Tk
 | [] => .start
 | c::r=>if c.toNat=93 then .ok [] 1 else if c.toNat=91 then .bad 0 4 else if c.toNat=92 then .bad 0 4 else
  bif zn c then .bad 0 4 else bif zq c then (ltk r).push [c] 1 else .bad 0 4
def j2u (s:List UInt8) (a bad err:Int) (from_:Nat) (q:Nat):Tk→(List UInt8×Int×Int×Int×Unit)⊕(List UInt8×List UInt8×Int×Int×Int×Unit)
 | .ok t u => .inr (List.drop from_ (List.take (q+t.length) s),s,((q+u:Nat):Int),bad,err,())
 | .bad off e => .inr ([],s,a,((q+off:Nat):Int),e,())
 | .start => .inl (s,a,bad,err,())
theorem x8c (s:List UInt8) (a bad err:Int) (f q:Nat) (l:List UInt8) (n:Nat) (hl:l.length=n) (k:Tk):j2u s a bad err f q (k.push l n)=j2u s a bad err f (q+n) k:=by
 cases k<;>simp [Tk.push,j2u,Nat.add_assoc,hl]
theorem l24 (a:Nat) (bad err:Int):∀(r pre:List UInt8) (q n:Nat),pre.length=q→a+1≤q→r.length<n→q+r.length≤140737488355320 →
 qc (xu zx yi xi xd) n ((q:Int),pre++r,(a:Int),bad,err,())=some (j2u (pre++r) a bad err (a+1) q (ltk r))
 | _,_,_,0,_,_,hn,_=>by omega
 | [],pre,q,n+1,hq,ha,hn,hb=>by
  refine qd ?_;simp (disch:=(first|omega|(simp only [zd];omega))) only [xu,xd,vt,Sk,List.append_nil,ltk,j2u]
 | c::r,pre,q,n+1,hq,ha,hn,hb=>by
  simp only [List.length_cons] at hn hb;by_cases e1:c.toNat=93
  · refine qd ?_
    simp (disch:=(first|omega|(simp only [zd];omega))) only [xu,xd,vt,Sk,ltk,if_pos,j2u,Nat.add_zero]
  · by_cases e2:c.toNat=91
    · refine qd ?_
      simp (disch:=(first|omega|(simp only [zd];omega))) only [xu,xd,vt,Sk,ltk,if_pos,if_neg,j2u,Nat.add_zero,c27]
    · by_cases e3:c.toNat=92
      · refine qd ?_
        simp (disch:=(first|omega|(simp only [zd];omega))) only [xu,xd,vt,Sk,ltk,if_pos,if_neg,j2u,Nat.add_zero,c27]
      · cases h1:zn c with
        | true =>
         refine qd ?_;simp (disch:=(first|omega|(simp only [zd];omega))) only [xu,xd,vt,Sk,ltk,if_pos,if_neg,j2u,Nat.add_zero,c27,c32,h1]
        | false =>
         cases h2:zq c with
         | false =>
          refine qd ?_;simp (disch:=(first|omega|(simp only [zd];omega))) only [xu,xd,vt,Sk,ltk,if_pos,if_neg,j2u,Nat.add_zero,c27,c32,c31,h1,h2]
         | true =>
          rw [ql (v':=(((q+1:Nat):Int),pre++c::r,(a:Int),bad,err,())) (by
           simp (disch:=(first|omega|(simp only [zd];omega))) only [xu,xd,vt,Sk,c32,c31,h1,h2])]
          have:=l24 a bad err r (pre++[c]) (q+1) n (by simp [hq]) (by omega) (by omega) (by omega);rw [shift,this,←x8c (l:=[c]) (n:=1) _ _ _ _ _ _ rfl];simp only [ltk,if_neg e1,if_neg e2,if_neg e3,h1,h2,cond_true,cond_false]
theorem y5t:∀{r t:List UInt8} {u:Nat},ltk r = .ok t u→u=t.length+1∧t.length<r.length∧r.take t.length=t
 | [],t,u,h=>by simp [ltk] at h
 | c::r,t,u,h=>by
  unfold ltk at h;split at h
  · cases h;simp
  · split at h
    · cases h
    · split at h
      · cases h
      · cases h1:zn c<;>cases h2:zq c<;>rw [h1,h2] at h<;>simp only [cond_true,cond_false] at h<;>try (cases h;done)
        cases hr:ltk r with
        | ok t' u' =>
         rw [hr] at h;cases h;obtain ⟨i1,i2,i3⟩:=y5t hr;exact ⟨by simp;omega,by simpa using i2,by simpa using i3⟩
        | bad o e=>rw [hr] at h;cases h
        | start=>rw [hr] at h;cases h
theorem c24 (pre r:List UInt8) (c:UInt8) (p:Nat) (bad err:Int) (hp:pre.length=p) (hb:p+r.length≤140737488355000) :
 z8g (pre++c::r,(p:Int),bad,err,())=some (zc (pre++c::r) p bad err (p+1) (ltk r)):=by
 show x4l zx yi xi q7i (pre++c::r,(p:Int),bad,err,())=_;have hl:=l24 p bad err r (pre++[c]) (p+1) jc (by simp [hp]) (by omega) (by unfold jc;omega) (by omega);rw [←shift] at hl;have hl':q7i (((p+1:Nat):Int),pre++c::r,(p:Int),bad,err,())=_:=hl;cases hq:ltk r with
 | ok t u =>
  rw [hq] at hl';obtain ⟨i1,i2,i3⟩:=y5t hq;simp (disch:=(first|omega|(simp only [zd];omega))) only [x4l,Sk,hl',j2u,zc];rw [shift,j1f (by simp [hp]),i3]
 | bad o e=>rw [hq] at hl';simp (disch:=(first|omega|(simp only [zd];omega))) only [x4l,Sk,hl',j2u,zc]
 | start=>rw [hq] at hl';simp (disch:=(first|omega|(simp only [zd];omega))) only [x4l,Sk,hl',j2u,zc,c27]
def nt:Nat→List UInt8→Tk
 | _,[] => .start
 | deep,c::r=>if c.toNat=40 then (if deep+1>32 then .bad 0 6 else (nt (deep+1) r).push [c] 1)
  else if c.toNat=41 then (if deep=1 then .ok [] 1 else (nt (deep-1) r).push [c] 1)
  else if c.toNat=92 then
   match r with
   | [] => .start
   | d::r'=>bif zq d then (nt deep r').push [c,d] 2 else .bad 1 4
  else bif zq c then (nt deep r).push [c] 1 else .bad 0 4
theorem y1q {deep:Nat} {c:UInt8} {r:List UInt8} (h:c.toNat=40):nt deep (c::r)=if deep+1>32 then .bad 0 6 else (nt (deep+1) r).push [c] 1:=by cases r<;>simp [nt,h]
theorem y1o {deep:Nat} {c:UInt8} {r:List UInt8} (h:c.toNat=41):nt deep (c::r)=if deep=1 then .ok [] 1 else (nt (deep-1) r).push [c] 1:=by cases r<;>simp [nt,h]
theorem z1r {deep:Nat} {c:UInt8} (h:c.toNat=92):nt deep [c] = .start:=by simp [nt,h]
theorem z1s {deep:Nat} {c d:UInt8} {r:List UInt8} (h:c.toNat=92):nt deep (c::d::r)=bif zq d then (nt deep r).push [c,d] 2 else .bad 1 4:=by simp [nt,h]
theorem y1p {deep:Nat} {c:UInt8} {r:List UInt8} (h1:¬c.toNat=40) (h2:¬c.toNat=41) (h3:¬c.toNat=92):nt deep (c::r)=bif zq c then (nt deep r).push [c] 1 else .bad 0 4:=by cases r<;>simp [nt,h1,h2,h3]
theorem wrM (n:Nat) (h:n≤9223372036854775806) (h1:1≤n):IntKind.i64.wrap ((n:Int)-1)=((n-1:Nat):Int):=by rw [wr]<;>omega
def q6w (s:List UInt8) (f:Nat) (a bad err:Int) (q:Nat):Tk→((Int×Int×List UInt8×Int×Int×Int×Unit)⊕(Int×Int×List UInt8×Int×Int×Int×Unit)⊕(List UInt8×List UInt8×Int×Int×Int×Unit))
 | .ok t u => .inr (.inr (List.drop (f+1) (List.take (q+t.length) s),s,((q+u:Nat):Int),bad,err,()))
 | .bad off e => .inr (.inl (e,((q+off:Nat):Int),s,a,bad,err,()))
 | .start => .inl ((f:Int),4,s,a,bad,err,())
theorem z2d (s:List UInt8) (f:Nat) (a bad err:Int) (q:Nat) (l:List UInt8) (n:Nat) (hl:l.length=n) (k:Tk):q6w s f a bad err q (k.push l n)=q6w s f a bad err (q+n) k:=by
 cases k<;>simp [Tk.push,q6w,Nat.add_assoc,hl]
theorem l25 (f:Nat) (a bad err:Int):∀(m:Nat) (r pre:List UInt8) (deep q n:Nat),r.length≤m→1≤deep→deep≤32→pre.length=q→f+1≤q→r.length<n→q+r.length≤140737488355320 →
 qc (zo zx yi) n ((f:Int),(deep:Int),4,(q:Int),pre++r,a,bad,err,())=some (q6w (pre++r) f a bad err q (nt deep r))
 | _,_,_,_,_,0,_,_,_,_,_,hn,_=>by omega
 | m,[],pre,deep,q,n+1,hm,hd,hd2,hq,hf,hn,hb=>by
  refine qd ?_;simp (disch:=(first|omega|(simp only [zd];omega))) only [zo,Sk,List.append_nil,nt,q6w]
 | 0,c::r,pre,deep,q,n+1,hm,hd,hd2,hq,hf,hn,hb=>by simp at hm
 | m+1,c::r,pre,deep,q,n+1,hm,hd,hd2,hq,hf,hn,hb=>by
  simp only [List.length_cons] at hn hb hm;have next:∀(d':Nat),1≤d'→d'≤32→zo zx yi ((f:Int),(deep:Int),4,(q:Int),pre++c::r,a,bad,err,())=some (.inl ((f:Int),(d':Int),4,((q+1:Nat):Int),pre++c::r,a,bad,err,())) →
   qc (zo zx yi) (n+1) ((f:Int),(deep:Int),4,(q:Int),pre++c::r,a,bad,err,())=some (q6w (pre++c::r) f a bad err q ((nt d' r).push [c] 1)):=by
   intro d' h1 h2 h3;rw [ql h3,z2d (l:=[c]) (n:=1) _ _ _ _ _ _ rfl];have:=l25 f a bad err m r (pre++[c]) d' (q+1) n (by omega) h1 h2 (by simp [hq]) (by omega) (by omega) (by omega);rw [shift,this]
  by_cases e1:c.toNat=40
  · rw [y1q e1]
    by_cases hdd:deep+1>32
    · rw [if_pos hdd]
      refine qd ?_;simp (disch:=(first|omega|(simp only [zd];omega))) only [zo,Sk,q6w,Nat.add_zero]
    · rw [if_neg hdd]
      refine next (deep+1) (by omega) (by omega) ?_;simp (disch:=(first|omega|(simp only [zd];omega))) only [zo,Sk]
  · by_cases e2:c.toNat=41
    · rw [y1o e2]
      by_cases hd1:deep=1
      · rw [if_pos hd1]
        refine qd ?_;subst hd1;simp (disch:=(first|omega|(simp only [zd];omega))) only [zo,Sk,q6w,Nat.add_zero,wrM]
      · rw [if_neg hd1]
        refine next (deep-1) (by omega) (by omega) ?_;simp (disch:=(first|omega|(simp only [zd];omega))) only [zo,Sk,wrM]
    · by_cases e3:c.toNat=92
      · match r,hm,hn,hb with
        | [],hm,hn,hb =>
         rw [z1r e3];simp only [List.length_nil] at hn hb hm;rw [ql (v':=((f:Int),(deep:Int),4,((q+2:Nat):Int),pre++[c],a,bad,err,())) (by
          simp (disch:=(first|omega|(simp only [zd];omega))) only [zo,Sk])]
         obtain ⟨n',rfl⟩:∃n',n=n'+1:=⟨n-1,by omega⟩
         refine qd ?_;simp (disch:=(first|omega|(simp only [zd];omega))) only [zo,Sk,q6w]
        | d::r',hm,hn,hb =>
         simp only [List.length_cons] at hn hb hm;rw [z1s e3];have hg:(pre++c::d::r').getD (q+1) 0=d:=by rw [shift];exact gd (by simp [hq])
         cases h:zq d with
         | true =>
          rw [ql (v':=((f:Int),(deep:Int),4,((q+2:Nat):Int),pre++c::d::r',a,bad,err,())) (by
           simp (disch:=(first|omega|(simp only [zd];omega))) only [zo,Sk,hg,c31,h])]
          have:=l25 f a bad err m r' (pre++[c,d]) deep (q+2) n (by omega) hd hd2 (by simp [hq]) (by omega) (by omega) (by omega);rw [show pre++c::d::r'=(pre++[c,d])++r' by simp,this,cond_true,z2d (l:=[c,d]) (n:=2) _ _ _ _ _ _ rfl]
         | false =>
          refine qd ?_;simp (disch:=(first|omega|(simp only [zd];omega))) only [zo,Sk,hg,c31,h,q6w]
      · rw [y1p e1 e2 e3]
        cases h:zq c with
        | true =>
         refine next deep hd hd2 ?_;simp (disch:=(first|omega|(simp only [zd];omega))) only [zo,Sk,c31,h]
        | false =>
         refine qd ?_;simp (disch:=(first|omega|(simp only [zd];omega))) only [zo,Sk,c31,h,q6w,Nat.add_zero]
theorem q1w {k:Tk} {l t:List UInt8} {n u:Nat} (h:k.push l n = .ok t u):∃t' u',k = .ok t' u'∧t=l++t'∧u=n+u':=by
 cases k<;>simp [Tk.push] at h
 exact ⟨_,_,rfl,h.1.symm,h.2.symm⟩
theorem x3i:∀(m:Nat) {r t:List UInt8} {u deep:Nat},r.length≤m→nt deep r = .ok t u→u=t.length+1∧t.length<r.length∧r.take t.length=t
 | _,[],t,u,deep,_,h=>by simp [nt] at h
 | 0,c::r,t,u,deep,hm,h=>by simp at hm
 | m+1,c::r,t,u,deep,hm,h=>by
  simp only [List.length_cons] at hm;have one:∀(d':Nat),(nt d' r).push [c] 1 = .ok t u→u=t.length+1∧t.length<(c::r).length∧(c::r).take t.length=t:=by
   intro d' h;obtain ⟨t',u',h1,rfl,rfl⟩:=q1w h;obtain ⟨i1,i2,i3⟩:=x3i m (by omega) h1;exact ⟨by simp;omega,by simpa using i2,by simpa using i3⟩
  by_cases e1:c.toNat=40
  · rw [y1q e1] at h
    split at h
    · cases h
    · exact one _ h
  · by_cases e2:c.toNat=41
    · rw [y1o e2] at h
      split at h
      · cases h;simp
      · exact one _ h
    · by_cases e3:c.toNat=92
      · match r,hm,h with
        | [],hm,h=>rw [z1r e3] at h;cases h
        | d::r',hm,h =>
         simp only [List.length_cons] at hm;rw [z1s e3] at h;cases hd:zq d<;>rw [hd] at h
         · cases h
         · obtain ⟨t',u',h1,rfl,rfl⟩:=q1w h
           obtain ⟨i1,i2,i3⟩:=x3i m (by omega) h1;exact ⟨by simp;omega,by simpa using i2,by simpa using i3⟩
      · rw [y1p e1 e2 e3] at h
        cases hd:zq c<;>rw [hd] at h
        · cases h
        · exact one _ h
theorem b9q (k e:Int) (s:List UInt8) (a bad err:Int):q3n (e,k,s,a,bad,err,())=some ([],s,a,k,e,()):=by
 show qc _ jc _=_;rw [show jc=999999999999999999999+1 from rfl];exact qd rfl
theorem c25 (pre r:List UInt8) (c:UInt8) (p:Nat) (bad err:Int) (hc:c.toNat=40) (hp:pre.length=p) (hb:p+r.length≤140737488355000) :
 z8h (pre++c::r,(p:Int),bad,err,())=some (zc (pre++c::r) p bad err (p+1) (nt 1 r)):=by
 show x4m zx yi q3n q7j (pre++c::r,(p:Int),bad,err,())=_;have hl:=l25 p p bad err r.length r (pre++[c]) 1 (p+1) 999999999999999999999 (Nat.le_refl _) (by omega) (by omega) (by simp [hp]) (by omega) (by omega) (by omega);rw [←shift] at hl;have h0:q7j ((p:Int),0,4,(p:Int),pre++c::r,(p:Int),bad,err,())=some (q6w (pre++c::r) p p bad err (p+1) (nt 1 r)):=by
  rw [←hl];show qc _ (999999999999999999999+1) _=_;refine ql ?_;simp (disch:=(first|omega|(simp only [zd];omega))) only [zo,Sk];rfl
 cases hq:nt 1 r with
 | ok t u =>
  rw [hq] at h0;obtain ⟨i1,i2,i3⟩:=x3i _ (Nat.le_refl _) hq;simp (disch:=(first|omega|(simp only [zd];omega))) only [x4m,Sk,h0,q6w,zc];rw [shift,j1f (by simp [hp]),i3]
 | bad o e=>rw [hq] at h0;simp (disch:=(first|omega|(simp only [zd];omega))) only [x4m,Sk,h0,q6w,zc,b9q]
 | start=>rw [hq] at h0;simp (disch:=(first|omega|(simp only [zd];omega))) only [x4m,Sk,h0,q6w,zc,c27]
def g1 (o:Option (Int×Int×Unit)):Int:=match o with|some (n,_,_)=>n|none=>0
def g2 (o:Option (Int×Int×Unit)):Int:=match o with|some (_,v,_)=>v|none=>0
def ok2 (o:Option (Int×Int×Unit)):Bool:=match o with|some _=>true|none=>false
theorem v7g {o:Option (Int×Int×Unit)} (h:ok2 o=true):o=some (g1 o,g2 o,()):=by
 cases o with
 | none=>cases h
 | some x=>rfl
def js (c:UInt8):Int:=g1 (vg ((c.toNat:Int),()))
def vn (c:UInt8):Int:=g2 (vg ((c.toNat:Int),()))
theorem b9p:((List.range 256).all fun n=>(fun c:UInt8=>ok2 (vg ((c.toNat:Int),()))) (UInt8.ofNat n))=true:=by kernel_rfl
theorem c19 (c:UInt8):vg ((c.toNat:Int),())=some (js c,vn c,()):=v7g (vk (fun c=>ok2 (vg ((c.toNat:Int),()))) b9p c)
def f0j:Int→Bool
 | .ofNat n=>Nat.ble n 3
 | .negSucc n=>Nat.beq n 0
theorem g9i:((List.range 256).all fun n=>(fun c:UInt8=>f0j (js c)) (UInt8.ofNat n))=true:=by kernel_rfl
theorem v5q (c:UInt8):js c = -1∨0≤js c∧js c≤3:=by
 have h:f0j (js c)=true:=vk (fun c=>f0j (js c)) g9i c;generalize js c=x at h;cases x with
 | ofNat n=>have:=Nat.le_of_ble_eq_true h;right;simp;omega
 | negSucc n=>have:=Nat.eq_of_beq_eq_true h;subst this;left;rfl
def z0i (v:Int):Int:=match xc (v,()) with|some (n,_)=>n|none=>0
theorem c20 (v:Int):xc (v,())=some (z0i v,()):=by
 have h:∃n,xc (v,())=some (n,()):=by
  show ∃n,x4k xg (v,())=some (n,());have h29:∃b,xg (v,())=some (b,()):=by
   simp only [xg,v1g];cases decide (v≥0)<;>cases decide (v≤1114111)<;>cases decide (v≥55296)<;>exact ⟨_,rfl⟩
  obtain ⟨b,hb⟩:=h29;simp only [x4k,hb,Option.bind_some];cases b<;>cases decide (v≤127)<;>cases decide (v≤2047)<;>cases decide (v≤65535)<;>exact ⟨_,rfl⟩
 obtain ⟨n,hn⟩:=h;rw [z0i,hn]
def j2x (c:UInt8):Bool := !(intBits BinOp.andNot IntKind.u8 (c.toNat:Int) 63 != 128)
def v8c (v:Int) (c:UInt8):Int:=intBits BinOp.or IntKind.i32 (IntKind.i32.wrap (v*2^min 6 IntKind.i32.bits)) (IntKind.i32.wrap (intBits BinOp.and IntKind.u8 (c.toNat:Int) 63))
def xf:Nat→List UInt8→Int→Option Int
 | 0,_,v=>some v
 | _+1,[],_=>none
 | n+1,c::r,v=>bif j2x c then xf n r (v8c v c) else none
def ch:List UInt8→Nat
 | []=>0
 | c::r=>if js c<0 then 0 else if r.length<(js c).toNat then 0 else
  match xf (js c).toNat r (vn c) with
  | none=>0
  | some v=>if z0i v=js c+1 then (js c).toNat+1 else 0
theorem w8x:∀s,ch s≤s.length
 | []=>Nat.le_refl _
 | c::r=>by
  simp only [ch,List.length_cons];split
  · omega
  · split
    · omega
    · split
      · omega
      · split<;>omega
def x8b (s:List UInt8) (n a:Int) (out:List Int):Option Int→(List UInt8×Int×Int×Int×List Int×Unit)⊕(Int×List Int×Unit)
 | some v => .inl (s,n,v,a,out,())
 | none => .inr (a,out,())
theorem f8u (a:Nat) (m:Nat) (out:List Int):∀(j:Nat) (r pre:List UInt8) (v:Int) (k n:Nat),pre.length=k→k+j=a+m+1→j≤r.length→j<n→k+r.length≤140737488355320→m≤3 →
 qc (q1h vg xc) n (pre++r,(m:Int),v,(a:Int),(k:Int),out,())=some (x8b (pre++r) m a out (xf j r v))
 | _,_,_,_,_,0,_,_,_,hn,_,_=>by omega
 | 0,r,pre,v,k,n+1,hk,hj,hr,hn,hb,hm=>by
  refine qd ?_;have h:IntKind.i64.wrap ((a:Int)+(m:Int))=(a:Int)+m:=wr (by omega) (by omega);simp (disch:=(first|omega|(simp only [zd];omega))) only [q1h,h,Sk,xf,x8b]
 | j+1,[],pre,v,k,n+1,hk,hj,hr,hn,hb,hm=>by simp at hr
 | j+1,c::r,pre,v,k,n+1,hk,hj,hr,hn,hb,hm=>by
  simp only [List.length_cons] at hr hb;have h:IntKind.i64.wrap ((a:Int)+(m:Int))=(a:Int)+m:=wr (by omega) (by omega);cases hc:j2x c with
  | true =>
   have hc':(intBits BinOp.andNot IntKind.u8 (c.toNat:Int) 63 != 128)=false:=by simpa [j2x] using hc
   rw [ql (v':=(pre++c::r,(m:Int),v8c v c,(a:Int),((k+1:Nat):Int),out,())) (by
    simp (disch:=(first|omega|(simp only [zd];omega))) only [q1h,h,Sk,hc'];rfl)]
   rw [shift,f8u a m out j r (pre++[c]) (v8c v c) (k+1) n (by simp [hk]) (by omega) (by omega) (by omega) (by omega) hm];simp only [xf,hc,cond_true]
  | false =>
   have hc':(intBits BinOp.andNot IntKind.u8 (c.toNat:Int) 63 != 128)=true:=by simpa [j2x] using hc
   refine qd ?_;simp (disch:=(first|omega|(simp only [zd];omega))) only [q1h,h,Sk,hc',xf,hc,x8b]
def ut:Nat→List UInt8→Nat→Option Nat
 | 0,_,_=>none
 | n+1,s,p=>if s=[] then none else if ch s=0 then some p else ut n (s.drop (ch s)) (p+ch s)
def r15 (out:List Int):Option Nat→(List Int×Unit)⊕(Int×List Int×Unit)
 | none => .inl (out,())
 | some b => .inr ((b:Int),out,())
theorem d6o (c:UInt8) (r pre:List UInt8) (out:List Int) (p:Nat) (hp:pre.length=p) (hb:p+r.length≤140737488355000) (ho:out.length≤1000000000) :
 xe vg xc q1f (pre++c::r,(p:Int),out,())=some (if ch (c::r)=0 then .inr (.inr ((p:Int),out,())) else
  .inl (pre++c::r,((p+ch (c::r):Nat):Int),out++[((xf (js c).toNat r (vn c)).getD 0)],())):=by
 have hrng:=v5q c;by_cases h1:js c<0
 · have:ch (c::r)=0:=by simp [ch,h1]
   rw [if_pos this];simp (disch:=(first|omega|(simp only [zd];omega))) only [xe,Sk,c19]
 · have hw:IntKind.i64.wrap (((pre.length+(r.length+1):Nat):Int)-(p:Int))=(r.length:Int)+1:=by rw [wr]<;>omega
   obtain ⟨m,hm⟩:∃m:Nat,js c=m:=⟨(js c).toNat,by omega⟩
   by_cases h2:r.length<m
   · have:ch (c::r)=0:=by simp [ch,hm,h2]
     rw [if_pos this];simp (disch:=(first|omega|(simp only [zd];omega))) only [xe,Sk,c19,hw,hm]
   · have hl:=f8u p m out m r (pre++[c]) (vn c) (p+1) jc (by simp [hp]) (by omega) (by omega) (by unfold jc;omega) (by omega) (by omega)
     rw [←shift] at hl;have hl':q1f (pre++c::r,(m:Int),vn c,(p:Int),((p+1:Nat):Int),out,())=_:=hl;cases hc:xf m r (vn c) with
     | none =>
      have:ch (c::r)=0:=by simp [ch,hm,h2,hc]
      rw [if_pos this];simp (disch:=(first|omega|(simp only [zd];omega))) only [xe,Sk,c19,hw,hm,hl',hc,x8b]
     | some v =>
      have hw2:IntKind.i64.wrap ((m:Int)+1)=(m:Int)+1:=wr (by omega) (by omega);by_cases h3:z0i v=m+1
      · have hch:ch (c::r)=m+1:=by simp [ch,hm,h2,hc,h3]
        have hw3:IntKind.i64.wrap ((p:Int)+((m:Int)+1))=((p+(m+1):Nat):Int):=by rw [wr]<;>omega
        rw [if_neg (by omega),hch];simp (disch:=(first|omega|(simp only [zd];omega))) only [xe,hw2,hw3,decide_eq_true,decide_eq_false,cond_true,cond_false,Bool.and_self,zd,Int.toNat_natCast,inF,gd,Option.bind_some,Sum.elim_inl,wrN,c19,hw,hm,hl',hc,x8b,c20,Option.getD_some]
      · have:ch (c::r)=0:=by simp [ch,hm,h2,hc,h3]
        rw [if_pos this];simp (disch:=(first|omega|(simp only [zd];omega))) only [xe,hw2,Sk,c19,hw,hm,hl',hc,x8b,c20]
theorem f8v:∀(m:Nat) (r pre:List UInt8) (out:List Int) (p n:Nat),r.length≤m→pre.length=p→r.length<n→p+r.length≤140737488355000→out.length+r.length≤1000000000 →
 ∃o,qc (xe vg xc q1f) n (pre++r,(p:Int),out,())=some (r15 o (ut n r p))
 | _,_,_,_,_,0,_,_,hn,_,_=>by omega
 | m,[],pre,out,p,n+1,hm,hp,hn,hb,ho=>by
  refine ⟨out,qd ?_⟩;simp (disch:=(first|omega|(simp only [zd];omega))) only [xe,Sk,List.append_nil,ut,if_true,r15]
 | 0,c::r,pre,out,p,n+1,hm,hp,hn,hb,ho=>by simp at hm
 | m+1,c::r,pre,out,p,n+1,hm,hp,hn,hb,ho=>by
  simp only [List.length_cons] at hm hn hb ho;have hr:=d6o c r pre out p hp (by omega) (by omega);by_cases h:ch (c::r)=0
  · rw [if_pos h] at hr
    refine ⟨out,?_⟩;rw [qd hr];simp [ut,h,r15]
  · rw [if_neg h] at hr
    have hle:=w8x (c::r);simp only [List.length_cons] at hle;have hsplit:pre++c::r=(pre++(c::r).take (ch (c::r)))++(c::r).drop (ch (c::r)):=by rw [List.append_assoc,List.take_append_drop]
    obtain ⟨o,ho'⟩:=f8v m ((c::r).drop (ch (c::r))) (pre++(c::r).take (ch (c::r))) (out++[((xf (js c).toNat r (vn c)).getD 0)]) (p+ch (c::r)) n (by simp;omega) (by simp [hp];omega) (by simp;omega) (by simp;omega) (by simp;omega);refine ⟨o,?_⟩;rw [ql hr];rw [←hsplit] at ho';rw [ho'];simp [ut,h]
def utf (s:List UInt8):Option Nat:=ut jc s 0
theorem c15 (s:List UInt8) (hb:s.length≤1000000):∃o,C83 (s,())=some (o,(match utf s with|none => -1|some b=>(b:Int)),()):=by
 obtain ⟨o,h⟩:=f8v s.length s [] [] 0 jc (Nat.le_refl _) rfl (by unfold jc;omega) (by omega) (by simp;omega);have h':q2p (s,0,[],())=some (r15 o (utf s)):=h;refine ⟨o,?_⟩;show F83 vg xc q2o q2p (s,())=_;have hg:∀(b:Int) (o:List Int),q2o (b,o,())=some (b,o,()):=by
  intro b o;show qc _ jc _=_;rw [show jc=999999999999999999999+1 from rfl];exact qd rfl
 simp only [F83,h',Option.bind_some];cases utf s<;>simp [r15,hg]
def Tk.up:Tk→Tk
 | .ok t u => .ok t (1+u)
 | .bad off e => .bad (1+off) e
 | .start => .start
def one (c:UInt8) (r:List UInt8):Int×Tk :=
 if q0p c=true then (0,.ok ((c::r).take (al (c::r))) (al (c::r)))
 else if j1d c=true then (2,.ok [c] 1)
 else if c.toNat=34 then (1,(qt r).up)
 else if c.toNat=91 then (5,(ltk r).up)
 else if c.toNat=40 then (3,(nt 1 r).up)
 else if wl (c::r)=0 then (4,.start) else (4,.ok ((c::r).take (wl (c::r))) (wl (c::r)))
theorem y4y (s:List UInt8) (p:Nat) (bad err:Int) (k:Tk):zc s p bad err (p+1) k=zc s p bad err p k.up:=by
 cases k<;>simp [zc,Tk.up,Nat.add_assoc]
def q3k (s:List UInt8) (p:Nat) (bad err:Int) (x:Int×Tk):Int×List UInt8×Int×List UInt8×Int×Int×Int×Unit :=
 (x.1,(zc s p bad err p x.2).1,(p:Int),(zc s p bad err p x.2).2)
theorem c16 (pre r:List UInt8) (c:UInt8) (p:Nat) (bad err:Int) (hp:pre.length=p) (hb:p+r.length≤140737488354000) :
 z2k (pre++c::r,(p:Int),bad,err,())=some (q3k (pre++c::r) p bad err (one c r)):=by
 show j9t q2i z8e z8f z8g z8h z8i zx C90 xb (pre++c::r,(p:Int),bad,err,())=_;have h21:=c21 pre (c::r) p bad err hp (by simp;omega);have h26:=c26 pre (c::r) p bad err hp (by simp;omega);have h23:=c23 pre r c p bad err hp (by omega);have h24:=c24 pre r c p bad err hp (by omega);unfold one;by_cases h1:q0p c=true
 · rw [if_pos h1]
   simp (disch:=(first|omega|(simp only [zd];omega))) only [j9t,xb,vq,Sk,c17,h1,h21,q3k,zc]
 · rw [if_neg h1]
   have h1':q0p c=false:=by simpa using h1
   by_cases h2:j1d c=true
   · rw [if_pos h2]
     have h2':x3t c≥0:=by simpa [j1d] using h2
     have ht:List.drop p (List.take (p+1) (pre++c::r))=[c]:=by rw [j1f hp];rfl
     simp (disch:=(first|omega|(simp only [zd];omega))) only [j9t,xb,vq,Sk,c17,h1',x7a,ht,q3k,zc]
   · rw [if_neg h2]
     have h2':¬x3t c≥0:=by simpa [j1d] using h2
     by_cases h3:c.toNat=34
     · rw [if_pos h3]
       rw [y4y] at h23;simp (disch:=(first|omega|(simp only [zd];omega))) only [j9t,xb,vq,Sk,c17,h1',x7a,h23,q3k]
     · rw [if_neg h3]
       by_cases h4:c.toNat=91
       · rw [if_pos h4]
         rw [y4y] at h24;simp (disch:=(first|omega|(simp only [zd];omega))) only [j9t,xb,vq,Sk,c17,h1',x7a,h24,q3k]
       · rw [if_neg h4]
         by_cases h5:c.toNat=40
         · rw [if_pos h5]
           have h25:=c25 pre r c p bad err h5 hp (by omega);rw [y4y] at h25;simp (disch:=(first|omega|(simp only [zd];omega))) only [j9t,xb,vq,Sk,c17,h1',x7a,h25,q3k]
         · rw [if_neg h5]
           by_cases h6:wl (c::r)=0
           · rw [if_pos h6]
             rw [h6] at h26;simp (disch:=(first|omega|(simp only [zd];omega))) only [j9t,xb,vq,Sk,c17,h1',x7a,h26,q3k,zc,List.take_zero,c27,beq_self_eq_true,Nat.add_zero]
           · rw [if_neg h6]
             obtain ⟨w,hw⟩:∃w,wl (c::r)=w+1:=⟨wl (c::r)-1,by omega⟩
             have hne:((c::r).take (wl (c::r))==[])=false:=by rw [hw];rfl
             simp (disch:=(first|omega|(simp only [zd];omega))) only [j9t,xb,vq,Sk,c17,h1',x7a,h26,q3k,zc,hne]
abbrev Tok:=Int×(List UInt8×Int)
def lx:Nat→List UInt8→Nat→List Tok⊕(Nat×Int)
 | 0,_,_ => .inl []
 | n+1,s,p=>match s with
  | [] => .inl []
  | c::r=>match one c r with
   | (k,.ok t u)=>match lx n ((c::r).drop u) (p+u) with
    | .inl l => .inl ((k,t,(p:Int))::l)
    | .inr e => .inr e
   | (_,.bad off e) => .inr (p+off,e)
   | (_,.start) => .inr (p,4)
theorem j6j:∀(m:Nat) {r t:List UInt8} {u:Nat},r.length≤m→qt r = .ok t u→t.length+1≤u∧u≤r.length
 | _,[],t,u,_,h=>by simp [qt] at h
 | 0,c::r,t,u,hm,h=>by simp at hm
 | m+1,c::r,t,u,hm,h=>by
  simp only [List.length_cons] at hm ⊢;by_cases e1:c.toNat=34
  · rw [y2h e1] at h;cases h;simp
  · by_cases e2:c.toNat=92
    · match r,hm,h with
      | [],hm,h=>rw [z1z e2] at h;cases h
      | d::r',hm,h =>
       rw [z2a e2] at h;cases hd:zq d<;>rw [hd] at h
       · cases h
       · obtain ⟨t',u',h1,rfl,rfl⟩:=q1w h
         have:=j6j m (by simp at hm;omega) h1;simp;omega
    · rw [y2g e1 e2] at h
      cases hd:zq c<;>rw [hd] at h
      · cases h
      · obtain ⟨t',u',h1,rfl,rfl⟩:=q1w h
        have:=j6j m (by omega) h1;simp;omega
theorem j9m {k:Tk} {t:List UInt8} {u:Nat} (h:k.up = .ok t u):∃u',k = .ok t u'∧u=1+u':=by
 cases k<;>simp [Tk.up] at h
 obtain ⟨rfl,rfl⟩:=h;exact ⟨_,rfl,rfl⟩
theorem g5k {c:UInt8} {r:List UInt8} (h:q0p c=true):1≤al (c::r):=by simp [al,h]
theorem kp {c:UInt8} {r t:List UInt8} {k:Int} {u:Nat} (h:one c r=(k,.ok t u)):1≤u∧u≤r.length+1:=by
 unfold one at h;split at h
 · rename_i h1
   cases h;have:=v2s (c::r);exact ⟨g5k h1,by simpa using this⟩
 · split at h
   · cases h;exact ⟨by omega,by omega⟩
   · split at h
     · obtain ⟨u',h1,rfl⟩:=j9m (Prod.mk.inj h).2
       have:=j6j _ (Nat.le_refl _) h1;omega
     · split at h
       · obtain ⟨u',h1,rfl⟩:=j9m (Prod.mk.inj h).2
         have:=y5t h1;omega
       · split at h
         · obtain ⟨u',h1,rfl⟩:=j9m (Prod.mk.inj h).2
           have:=x3i _ (Nat.le_refl _) h1;omega
         · split at h
           · cases h
           · rename_i h6
             cases h;have:=y2v (c::r);exact ⟨by omega,by simpa using this⟩
def z7v (out:List Tok):List Tok⊕(Nat×Int)→(List Tok×Unit)⊕(Int×Int×Unit)
 | .inl l => .inl (out++l,())
 | .inr (b,e) => .inr ((b:Int),e,())
def Tk.eok:Tk→Prop
 | .bad _ e=>e=4∨e=6
 | _=>True
theorem kx {k:Tk} {l:List UInt8} {n:Nat} (h:k.eok):(k.push l n).eok:=by cases k<;>first|exact h|exact trivial
theorem y6n {k:Tk} (h:k.eok):k.up.eok:=by cases k<;>first|exact h|exact trivial
theorem f0f:∀(m:Nat) (r:List UInt8),r.length≤m→(qt r).eok
 | _,[],_=>trivial
 | 0,c::r,hm=>by simp at hm
 | m+1,c::r,hm=>by
  simp only [List.length_cons] at hm;by_cases e1:c.toNat=34
  · rw [y2h e1];trivial
  · by_cases e2:c.toNat=92
    · match r,hm with
      | [],hm=>rw [z1z e2];trivial
      | d::r',hm =>
       rw [z2a e2];cases zq d
       · exact .inl rfl
       · exact kx (f0f m r' (by simp at hm;omega))
    · rw [y2g e1 e2]
      cases zq c
      · exact .inl rfl
      · exact kx (f0f m r (by omega))
theorem w9m:∀r:List UInt8,(ltk r).eok
 | []=>trivial
 | c::r=>by
  unfold ltk;split
  · trivial
  · split
    · exact .inl rfl
    · split
      · exact .inl rfl
      · cases zn c
        · cases zq c
          · exact .inl rfl
          · exact kx (w9m r)
        · exact .inl rfl
theorem v6w:∀(m deep:Nat) (r:List UInt8),r.length≤m→(nt deep r).eok
 | _,_,[],_=>by simp [nt,Tk.eok]
 | 0,_,c::r,hm=>by simp at hm
 | m+1,deep,c::r,hm=>by
  simp only [List.length_cons] at hm;by_cases e1:c.toNat=40
  · rw [y1q e1]
    split
    · exact .inr rfl
    · exact kx (v6w m _ r (by omega))
  · by_cases e2:c.toNat=41
    · rw [y1o e2]
      split
      · trivial
      · exact kx (v6w m _ r (by omega))
    · by_cases e3:c.toNat=92
      · match r,hm with
        | [],hm=>rw [z1r e3];trivial
        | d::r',hm =>
         rw [z1s e3];cases zq d
         · exact .inl rfl
         · exact kx (v6w m _ r' (by simp at hm;omega))
      · rw [y1p e1 e2 e3]
        cases zq c
        · exact .inl rfl
        · exact kx (v6w m _ r (by omega))
theorem b3x (c:UInt8) (r:List UInt8):(one c r).2.eok:=by
 unfold one;split
 · trivial
 · split
   · trivial
   · split
     · exact y6n (f0f _ r (Nat.le_refl _))
     · split
       · exact y6n (w9m r)
       · split
         · exact y6n (v6w _ _ r (Nat.le_refl _))
         · split<;>trivial
theorem l11 (s:List UInt8):∀(m:Nat) (r pre:List UInt8) (out:List Tok) (bad:Int) (p n:Nat),r.length≤m→s=pre++r→pre.length=p→r.length<n→p+r.length≤100000→out.length+r.length≤100000 →
 qc (q2s z2k C83) n (s,out,s,(p:Int),bad,0,())=some (z7v out (lx m r p))
 | _,_,_,_,_,_,0,_,_,_,hn,_,_=>by omega
 | 0,[],pre,out,bad,p,n+1,hm,hs,hp,hn,hb,ho=>by
  refine qd ?_;have:s.length=p:=by rw [hs];simp [hp]
  simp (disch:=(first|omega|(simp only [zd];omega))) only [q2s,this,Sk,lx,z7v,List.append_nil]
 | m+1,[],pre,out,bad,p,n+1,hm,hs,hp,hn,hb,ho=>by
  refine qd ?_;have:s.length=p:=by rw [hs];simp [hp]
  simp (disch:=(first|omega|(simp only [zd];omega))) only [q2s,this,Sk,lx,z7v,List.append_nil]
 | 0,c::r,pre,out,bad,p,n+1,hm,hs,hp,hn,hb,ho=>by simp at hm
 | m+1,c::r,pre,out,bad,p,n+1,hm,hs,hp,hn,hb,ho=>by
  simp only [List.length_cons] at hm hn hb ho;have h16:=c16 pre r c p bad 0 hp (by omega);have he:=b3x c r;rw [←hs] at h16;have hl:s.length=p+(r.length+1):=by rw [hs];simp [hp]
  cases h1:one c r with
  | mk k tk =>
   rw [h1] at h16 he;cases tk with
   | ok t u =>
    have hu:=kp h1;rw [ql (v':=(s,out++[(k,t,(p:Int))],s,((p+u:Nat):Int),bad,0,())) (by
     simp (disch:=(first|omega|(simp only [zd];omega))) only [q2s,hl,Sk,h16,q3k,zc])]
    have:=l11 s m ((c::r).drop u) (pre++(c::r).take u) (out++[(k,t,(p:Int))]) bad (p+u) n (by simp;omega) (by rw [hs,List.append_assoc,List.take_append_drop]) (by simp [hp];omega) (by simp;omega) (by simp;omega) (by simp;omega);rw [this];simp only [lx,h1];cases lx m ((c::r).drop u) (p+u) with
    | inl l=>simp [z7v]
    | inr e=>rfl
   | bad off e =>
    have he':e=4∨e=6:=he;refine qd ?_;simp (disch:=(first|omega|(simp only [zd];omega))) only [q2s,hl,Sk,h16,q3k,zc,lx,h1,z7v]
   | start =>
    refine qd ?_;simp (disch:=(first|omega|(simp only [zd];omega))) only [q2s,hl,Sk,h16,q3k,zc,lx,h1,z7v]
theorem x2v:∀(n m:Nat) (s:List UInt8) (p:Nat),s.length≤n→s.length≤m→lx n s p=lx m s p
 | 0,0,_,_,_,_=>rfl
 | 0,m+1,[],p,_,_=>rfl
 | n+1,0,[],p,_,_=>rfl
 | n+1,m+1,[],p,_,_=>rfl
 | 0,_,c::r,p,h,_=>by simp at h
 | n+1,0,c::r,p,_,h=>by simp at h
 | n+1,m+1,c::r,p,h,h'=>by
  simp only [List.length_cons] at h h';simp only [lx];cases h1:one c r with
  | mk k tk =>
   cases tk with
   | ok t u =>
    have hu:=kp h1;simp only;rw [x2v n m ((c::r).drop u) (p+u) (by simp;omega) (by simp;omega)]
   | bad off e=>rfl
   | start=>rfl
def q0l (s:List UInt8) (p:Nat):List Tok⊕(Nat×Int):=lx s.length s p
theorem v5r (p:Nat):q0l [] p = .inl []:=rfl
theorem j2k (c:UInt8) (r:List UInt8) (p:Nat):q0l (c::r) p=match one c r with
 | (k,.ok t u)=>(match q0l ((c::r).drop u) (p+u) with
  | .inl l => .inl ((k,t,(p:Int))::l)
  | .inr e => .inr e)
 | (_,.bad off e) => .inr (p+off,e)
 | (_,.start) => .inr (p,4):=by
 unfold q0l;simp only [List.length_cons,lx];cases h1:one c r with
 | mk k tk =>
  cases tk with
  | ok t u =>
   have hu:=kp h1;simp only;rw [x2v r.length ((c::r).drop u).length ((c::r).drop u) (p+u) (by simp;omega) (Nat.le_refl _)]
  | bad off e=>rfl
  | start=>rfl
def v3j (x:Tok):List Tok⊕(Nat×Int)→List Tok⊕(Nat×Int)
 | .inl l => .inl (x::l)
 | .inr e => .inr e
theorem z7f {c:UInt8} {r t:List UInt8} {k:Int} {u:Nat} (h:one c r=(k,.ok t u)) (p:Nat):q0l (c::r) p=v3j (k,t,(p:Int)) (q0l ((c::r).drop u) (p+u)):=by
 rw [j2k,h];rfl
theorem j8t {c:UInt8} {r:List UInt8} {k e:Int} {off:Nat} (h:one c r=(k,.bad off e)) (p:Nat):q0l (c::r) p = .inr (p+off,e):=by
 rw [j2k,h]
theorem q6m {c:UInt8} {r:List UInt8} {k:Int} (h:one c r=(k,.start)) (p:Nat):q0l (c::r) p = .inr (p,4):=by
 rw [j2k,h]
def g7m:List Tok⊕(Nat×Int)→List Tok×Int×Int
 | .inl l=>(l,0,0)
 | .inr x=>([],(x.1:Int),x.2)
def k4s:Option Nat→List Tok⊕(Nat×Int)→List Tok×Int×Int
 | some b,_=>([],(b:Int),7)
 | none,x=>g7m x
def q6l (s:List UInt8):List Tok×Int×Int:=if 2000<s.length then ([],0,5) else k4s (utf s) (q0l s 0)
theorem c11 (s:List UInt8):C67 (s,())=some ((q6l s).1,(q6l s).2.1,(q6l s).2.2,()):=by
 show F67 z2k C83 j7a (s,())=_;unfold q6l;by_cases h:2000<s.length
 · simp only [if_pos h]
   simp (disch:=(first|omega|(simp only [zd];omega))) only [F67,Sk]
 · simp only [if_neg h]
   obtain ⟨o,h15⟩:=c15 s (by omega);cases hu:utf s with
   | some b =>
    rw [hu] at h15;simp only at h15;simp (disch:=(first|omega|(simp only [zd];omega))) only [F67,Sk,h15,k4s]
   | none =>
    rw [hu] at h15;have hl:=l11 s s.length s [] [] 0 0 jc (Nat.le_refl _) (by simp) rfl (by unfold jc;omega) (by omega) (by simp;omega);have hl':j7a (s,[],s,0,0,0,())=some (z7v [] (q0l s 0)):=hl;simp (disch:=(first|omega|(simp only [zd];omega))) only [F67,Sk,h15,hl'];cases q0l s 0 with
    | inl l=>simp [z7v,k4s,g7m]
    | inr x=>obtain ⟨b,e⟩:=x;simp [z7v,k4s,g7m]
theorem x2o:∀{r t:List UInt8} {u:Nat},ltk r = .ok t u→u=t.length+1∧∃x,r=t++93::x
 | [],t,u,h=>by simp [ltk] at h
 | c::r,t,u,h=>by
  unfold ltk at h;split at h
  · rename_i hc
    cases h;exact ⟨rfl,r,by rw [y2s hc];rfl⟩
  · split at h
    · cases h
    · split at h
      · cases h
      · cases h1:zn c<;>cases h2:zq c<;>rw [h1,h2] at h<;>simp only [cond_true,cond_false] at h<;>try (cases h;done)
        obtain ⟨t',u',h3,rfl,rfl⟩:=q1w h;obtain ⟨i1,x,i2⟩:=x2o h3;exact ⟨by simp;omega,x,by rw [i2];simp⟩
theorem y5w:∀(m:Nat) {r t:List UInt8} {u deep:Nat},r.length≤m→nt deep r = .ok t u→u=t.length+1∧∃x,r=t++41::x
 | _,[],t,u,deep,_,h=>by simp [nt] at h
 | 0,c::r,t,u,deep,hm,h=>by simp at hm
 | m+1,c::r,t,u,deep,hm,h=>by
  simp only [List.length_cons] at hm;have one:∀(d':Nat),(nt d' r).push [c] 1 = .ok t u→u=t.length+1∧∃x,c::r=t++41::x:=by
   intro d' h;obtain ⟨t',u',h1,rfl,rfl⟩:=q1w h;obtain ⟨i1,x,i2⟩:=y5w m (by omega) h1;exact ⟨by simp;omega,x,by rw [i2];simp⟩
  by_cases e1:c.toNat=40
  · rw [y1q e1] at h
    split at h
    · cases h
    · exact one _ h
  · by_cases e2:c.toNat=41
    · rw [y1o e2] at h
      split at h
      · cases h;exact ⟨rfl,r,by rw [y2s e2];rfl⟩
      · exact one _ h
    · by_cases e3:c.toNat=92
      · match r,hm,h with
        | [],hm,h=>rw [z1r e3] at h;cases h
        | d::r',hm,h =>
         simp only [List.length_cons] at hm;rw [z1s e3] at h;cases hd:zq d<;>rw [hd] at h
         · cases h
         · obtain ⟨t',u',h1,rfl,rfl⟩:=q1w h
           obtain ⟨i1,x,i2⟩:=y5w m (by omega) h1;exact ⟨by simp;omega,x,by rw [i2];simp⟩
      · rw [y1p e1 e2 e3] at h
        cases hd:zq c<;>rw [hd] at h
        · cases h
        · exact one _ h
theorem x3n {c:UInt8} {r t:List UInt8} {k:Int} {u:Nat} (h:one c r=(k,.ok t u)):(k≠1→src k t=(c::r).take u)∧(k=1→c=34∧t.length+2≤u):=by
 unfold one at h;split at h
 · cases h;exact ⟨fun _=>by simp [src],fun h=>by cases h⟩
 · split at h
   · cases h;exact ⟨fun _=>by simp [src],fun h=>by cases h⟩
   · split at h
     · rename_i hc
       obtain ⟨u',h1,rfl⟩:=j9m (Prod.mk.inj h).2;have hk:=(Prod.mk.inj h).1;have:=j6j _ (Nat.le_refl _) h1;exact ⟨fun hk'=>absurd hk.symm hk',fun _=>⟨y2s hc,by omega⟩⟩
     · split at h
       · rename_i hc
         obtain ⟨u',h1,rfl⟩:=j9m (Prod.mk.inj h).2;obtain ⟨i1,x,i2⟩:=x2o h1;have hk:=(Prod.mk.inj h).1;subst hk;refine ⟨fun _ => ?_,fun h=>by cases h⟩;rw [i2,i1,y2s hc];simp [src,Nat.add_comm 1,List.take_append,List.take_of_length_le]
       · split at h
         · rename_i hc
           obtain ⟨u',h1,rfl⟩:=j9m (Prod.mk.inj h).2;obtain ⟨i1,x,i2⟩:=y5w _ (Nat.le_refl _) h1;have hk:=(Prod.mk.inj h).1;subst hk;refine ⟨fun _ => ?_,fun h=>by cases h⟩;rw [i2,i1,y2s hc];simp [src,Nat.add_comm 1,List.take_append,List.take_of_length_le]
         · split at h
           · cases h
           · cases h;exact ⟨fun _=>by simp [src],fun h=>by cases h⟩
theorem z7l {c:UInt8} {r t:List UInt8} {k:Int} {u:Nat} (h:one c r=(k,.ok t u)):t.length≤u:=by
 obtain ⟨h1,h2⟩:=x3n h;have hu:=kp h;by_cases hk:k=1
 · have:=(h2 hk).2;omega
 · have:=h1 hk
   have hl:t.length≤(src k t).length:=by
    unfold src;split
    · rename_i h;exact absurd h hk
    · split
      · simp;omega
      · split
        · simp;omega
        · omega
   rw [this] at hl;simp only [List.length_take,List.length_cons] at hl;omega
theorem x7e {x:Tok} {y:List Tok⊕(Nat×Int)} {l:List Tok} (h:v3j x y = .inl l):∃l',y = .inl l'∧l=x::l':=by cases y<;>simp [v3j] at h;exact ⟨_,rfl,h.symm⟩
theorem y1b {c:UInt8} {r:List UInt8} {p:Nat} {l:List Tok} (h:q0l (c::r) p = .inl l):∃k t u l',one c r=(k,.ok t u)∧q0l ((c::r).drop u) (p+u) = .inl l'∧l=(k,t,(p:Int))::l':=by
 cases h1:one c r with
 | mk k tk =>
  cases tk with
  | ok t u =>
   rw [z7f h1] at h;obtain ⟨l',h2,h3⟩:=x7e h;exact ⟨k,t,u,l',rfl,h2,h3⟩
  | bad off e=>rw [j8t h1] at h;cases h
  | start=>rw [q6m h1] at h;cases h
theorem z9z:(q0p 34||j1d 34)=false:=by kernel_rfl
theorem b3y (r:List UInt8):one 34 r=(1,(qt r).up):=by
 have h:=z9z;simp only [Bool.or_eq_false_iff] at h;unfold one;rw [if_neg (by rw [h.1];decide),if_neg (by rw [h.2];decide),if_pos (show UInt8.toNat 34=34 from rfl)]
def q1k (c:UInt8):Bool:=decide (c.toNat<128)
theorem f7b:((List.range 256).all fun n=>(fun c:UInt8 => !q1k c||(decide (js c=0)&&decide (z0i (vn c)=1))) (UInt8.ofNat n))=true:=by kernel_rfl
theorem j8f {c:UInt8} (h:c.toNat<128) (r:List UInt8):ch (c::r)=1:=by
 have h1:(!q1k c||(decide (js c=0)&&decide (z0i (vn c)=1)))=true:=vk (fun c:UInt8 => !q1k c||(decide (js c=0)&&decide (z0i (vn c)=1))) f7b c;have h2:q1k c=true:=by simp [q1k,h]
 simp only [h2,Bool.not_true,Bool.false_or,Bool.and_eq_true,decide_eq_true_eq] at h1;simp [ch,h1.1,xf,h1.2]
theorem v8k:∀(n:Nat) (s:List UInt8) (p:Nat),(∀c∈s,c.toNat<128)→ut n s p=none
 | 0,_,_,_=>rfl
 | n+1,[],p,_=>by simp [ut]
 | n+1,c::r,p,h=>by
  have:=j8f (h c (by simp)) r;simp only [ut,this,List.drop_succ_cons,List.drop_zero];simp only [reduceCtorEq,if_false,Nat.one_ne_zero];exact v8k n r (p+1) fun c hc=>h c (by simp [hc])
def stops (p:UInt8→Bool):List UInt8→Prop
 | []=>True
 | b::_=>p b=false
inductive Val:List UInt8→Prop
 | nil:Val []
 | cons (s:List UInt8) (h:ch s≠0) (h2:Val (s.drop (ch s))):Val s
def v3k (c:UInt8):Bool := !j2x c||decide (128≤c.toNat)
theorem g5v:((List.range 256).all fun n=>v3k (UInt8.ofNat n))=true:=by kernel_rfl
theorem k4j {c:UInt8} (h:j2x c=true):128≤c.toNat:=by
 have:=vk v3k g5v c;simpa [v3k,h] using this
theorem y0j:∀(n:Nat) (r:List UInt8) (v v':Int),xf n r v=some v'→n≤r.length∧∀c∈r.take n,128≤c.toNat
 | 0,r,v,v',_=>⟨by omega,by simp⟩
 | n+1,[],v,v',h=>by simp [xf] at h
 | n+1,c::r,v,v',h=>by
  cases hc:j2x c with
  | true =>
   simp only [xf,hc,cond_true] at h;obtain ⟨h1,h2⟩:=y0j n r _ _ h;refine ⟨by simp;omega,fun x hx => ?_⟩;rw [List.take_succ_cons] at hx;rcases List.mem_cons.1 hx with rfl|hx
   · exact k4j hc
   · exact h2 x hx
  | false=>simp [xf,hc] at h
theorem j2f:∀(n:Nat) (r x:List UInt8) (v:Int),n≤r.length→xf n (r++x) v=xf n r v
 | 0,r,x,v,_=>by cases r<;>rfl
 | n+1,[],x,v,h=>by simp at h
 | n+1,c::r,x,v,h=>by
  simp only [List.cons_append,xf];cases j2x c
  · rfl
  · exact j2f n r x _ (by simpa using h)
theorem z6s {c:UInt8} {r:List UInt8} (h:ch (c::r)≠0):∃v,¬js c<0∧¬r.length<(js c).toNat∧xf (js c).toNat r (vn c)=some v∧z0i v=js c+1∧ch (c::r)=(js c).toNat+1:=by
 simp only [ch] at h;split at h
 · exact absurd rfl h
 · rename_i h1
   split at h
   · exact absurd rfl h
   · rename_i h2
     split at h
     · exact absurd rfl h
     · rename_i v hv
       split at h
       · rename_i h3
         exact ⟨v,h1,h2,hv,h3,by simp [ch,h1,h2,hv,h3]⟩
       · exact absurd rfl h
theorem v3f {s x:List UInt8} (h:ch s≠0):ch (s++x)=ch s:=by
 cases s with
 | nil=>exact absurd rfl h
 | cons c r =>
  obtain ⟨v,h1,h2,h3,h4,h5⟩:=z6s h;have:xf (js c).toNat (r++x) (vn c)=some v:=by rw [j2f _ _ _ _ (by omega),h3]
  rw [h5,List.cons_append];simp only [ch,if_neg h1,if_neg (show ¬(r++x).length<(js c).toNat by simp;omega),this,if_pos h4]
theorem v3g {s x:List UInt8} (h:ch (s++x)≠0) (hl:ch (s++x)≤s.length):ch s=ch (s++x):=by
 cases s with
 | nil=>simp at hl;exact absurd hl h
 | cons c r =>
  obtain ⟨v,h1,h2,h3,h4,h5⟩:=z6s (r:=r++x) h;have h5':ch (c::r++x)=(js c).toNat+1:=h5;rw [h5'] at hl ⊢;simp only [List.length_cons] at hl;rw [j2f _ _ _ _ (by omega)] at h3;simp only [ch,if_neg h1,if_neg (show ¬r.length<(js c).toNat by omega),h3,if_pos h4]
theorem Val.app {a b:List UInt8} (ha:Val a) (hb:Val b):Val (a++b):=by
 induction ha with
 | nil=>exact hb
 | cons s h h2 ih =>
  have:=w8x s;refine .cons _ (by rw [v3f h];exact h) ?_;rw [v3f h,List.drop_append,show ch s-s.length=0 by omega,List.drop_zero];exact ih
theorem Val.one {c:UInt8} (h:c.toNat<128):Val [c] := .cons _ (by rw [j8f h];simp) (by rw [j8f h];exact .nil)
theorem Val.split:∀(m:Nat) (a:List UInt8) (c:UInt8) (b:List UInt8),a.length≤m→c.toNat<128→Val (a++c::b)→Val a∧Val b
 | m,[],c,b,_,hc,h=>by
  refine ⟨.nil,?_⟩;cases h with
  | cons _ h h2=>simpa [j8f hc] using h2
 | 0,d::a,c,b,hm,hc,h=>by simp at hm
 | m+1,d::a,c,b,hm,hc,h=>by
  cases h with
  | cons _ h0 h2 =>
   have hk:ch (d::a++c::b)≤(d::a).length:=by
    by_cases hd:d.toNat<128
    · have:ch (d::a++c::b)=1:=j8f hd _
      rw [this];simp
    · obtain ⟨v,g1,g2,g3,g4,g5⟩:=z6s (r:=a++c::b) h0
      have g5':ch (d::a++c::b)=(js d).toNat+1:=g5;rw [g5',List.length_cons];obtain ⟨e1,e2⟩:=y0j _ _ _ _ g3;rcases Nat.lt_or_ge a.length (js d).toNat with hlt|hge
      · exfalso
        have:c∈(a++c::b).take (js d).toNat:=by
         rw [List.take_append];obtain ⟨j,hj⟩:∃j,(js d).toNat-a.length=j+1:=⟨(js d).toNat-a.length-1,by omega⟩
         rw [hj,List.take_succ_cons];simp
        have:=e2 c this;omega
      · omega
   have hsame:=v3g (s:=d::a) (x:=c::b) h0 hk;have h0':ch (d::a)≠0:=by rw [hsame];exact h0
   rw [List.drop_append,show ch (d::a++c::b)-(d::a).length=0 by omega,List.drop_zero,←hsame] at h2;obtain ⟨i1,i2⟩:=Val.split m ((d::a).drop (ch (d::a))) c b (by simp at hm ⊢;omega) hc h2;exact ⟨.cons _ h0' i1,i2⟩
theorem Val.cut {a b:List UInt8} {c:UInt8} (hc:c.toNat<128) (h:Val (a++c::b)):Val a∧Val b:=Val.split _ a c b (Nat.le_refl _) hc h
def kd (d:Nat) (l:List Tok):Int:=match l[d]? with|some t=>t.1|none => -1
theorem gdk {pre l:List Tok} {p d:Nat} (hp:pre.length=p) {x:Tok}:(pre++l).getD (p+d) x=l.getD d x:=by
 subst hp;simp [List.getD_eq_getElem?_getD,List.getElem?_append_right]
theorem y4r (d:Nat) (pre l:List Tok) (p:Nat) (a b:List UInt8) (hp:pre.length=p) (hb:p+d+l.length≤1000000000) :
 ym ((d:Int),pre++l,(p:Int),a,b,())=some (kd d l,pre++l,(p:Int),a,b,()):=by
 show v9p q7k _=_;have hw:IntKind.i64.wrap ((p:Int)+(d:Int))=((p+d:Nat):Int):=by rw [wr (by omega) (by omega)];simp
 have hlen:(pre++l).length=p+l.length:=by simp [hp]
 simp only [v9p,hw,hlen];by_cases h:l.length≤d
 · rw [decide_eq_true (by omega)]
   simp only [cond_true,kd,List.getElem?_eq_none h]
 · rw [decide_eq_false (by omega)]
   simp only [cond_false,q7k,z3v,hw,hlen];rw [decide_eq_true (by omega),decide_eq_true (by omega)];simp only [Bool.and_self,cond_true,Int.toNat_natCast,Option.bind_some];rw [gdk hp];simp only [kd,List.getElem?_eq_getElem (show d<l.length by omega),getD_lt (show d<l.length by omega)]
def skn:List Tok→Nat
 | []=>0
 | t::r=>bif t.1==4||t.1==3 then skn r+1 else 0
theorem z7x:∀l,skn l≤l.length
 | []=>Nat.le_refl _
 | t::r=>by have:=z7x r;simp only [skn];cases (t.1==4||t.1==3)<;>simp;omega
theorem q3e (t:Tok) (r:List Tok):kd 0 (t::r)=t.1:=rfl
theorem g9g (a b:List UInt8):∀(l pre:List Tok) (p n:Nat),pre.length=p→l.length<n→p+l.length≤100000000 →
 qc (q1g ym) n (pre++l,(p:Int),a,b,())=some (pre++l,((p+skn l:Nat):Int),a,b,())
 | [],pre,p,n+1,hp,hn,hb=>by
  have h:=y4r 0 pre [] p a b hp (by simp at hb ⊢;omega);refine qd ?_;simp only [q1g,Int.natCast_zero] at h ⊢;simp only [h,Option.bind_some,show kd 0 ([]:List Tok) = -1 from rfl,ibF (show (-1:Int)≠4 by decide),ibF (show (-1:Int)≠3 by decide),cond_false,skn,Nat.add_zero]
 | t::l,pre,p,n+1,hp,hn,hb=>by
  simp only [List.length_cons] at hn hb;have h:=y4r 0 pre (t::l) p a b hp (by simp only [List.length_cons];omega);simp only [Int.natCast_zero,q3e] at h;have hw:=wrN p (by omega);by_cases h4:t.1=4
  · rw [ql (v':=(pre++t::l,((p+1:Nat):Int),a,b,())) (by simp only [q1g,h,Option.bind_some,ibT h4,cond_true,hw])]
    rw [shift,g9g a b l (pre++[t]) (p+1) n (by simp [hp]) (by omega) (by omega)];simp only [skn,ibT h4,Bool.true_or,cond_true,Nat.add_assoc,Nat.add_comm 1]
  · by_cases h3:t.1=3
    · rw [ql (v':=(pre++t::l,((p+1:Nat):Int),a,b,())) (by simp only [q1g,h,Option.bind_some,ibF h4,ibT h3,cond_true,cond_false,hw])]
      rw [shift,g9g a b l (pre++[t]) (p+1) n (by simp [hp]) (by omega) (by omega)];simp only [skn,ibT h3,Bool.or_true,cond_true,Nat.add_assoc,Nat.add_comm 1]
    · refine qd ?_
      simp only [q1g,h,Option.bind_some,ibF h4,ibF h3,cond_false,skn,Bool.or_self,Nat.add_zero]
theorem b9h (pre l:List Tok) (p:Nat) (a b:List UInt8) (hp:pre.length=p) (hb:p+l.length≤100000000) :
 x4a (pre++l,(p:Int),a,b,())=some (true,pre++l,((p+skn l:Nat):Int),a,b,()):=by
 show v9i ym q7a _=_;have hl:q7a (pre++l,(p:Int),a,b,())=_:=g9g a b l pre p jc hp (by unfold jc;omega) hb;simp only [v9i,hl,Option.bind_some]
def sgn (s:List UInt8):List Tok→Bool
 | t::_=>t.1==2&&t.2.1==s
 | []=>false
theorem f7g (s:List UInt8) (pre l:List Tok) (p:Nat) (a b:List UInt8) (hp:pre.length=p) (hb:p+l.length≤100000000) :
 q7n (s,pre++l,(p:Int),a,b,())=some (sgn s l,pre++l,(p:Int),a,b,()):=by
 show v1f ym _=_;have h:=y4r 0 pre l p a b hp (by omega);simp only [Int.natCast_zero] at h;have hlen:(pre++l).length=p+l.length:=by simp [hp]
 cases l with
 | nil=>simp only [v1f,h,Option.bind_some,show kd 0 ([]:List Tok) = -1 from rfl,ibF (show (-1:Int)≠2 by decide),cond_false,sgn]
 | cons t r =>
  simp only [List.length_cons] at hlen hb;simp only [v1f,h,Option.bind_some,q3e];by_cases h2:t.1=2
  · simp only [ibT h2,cond_true,hlen,sgn,Bool.true_and]
    rw [decide_eq_true (by omega),decide_eq_true (by omega)];simp only [Bool.and_self,cond_true,Int.toNat_natCast,gd hp]
  · simp only [ibF h2,cond_false,sgn,Bool.false_and]
def szT:List Tok→Nat
 | []=>0
 | t::r=>t.2.1.length+szT r
def dwn (acc:List UInt8):List Tok→List UInt8×Nat
 | t::u::r=>bif (t.1==2&&t.2.1==[46])&&u.1==0 then ((dwn (acc++([46]++u.2.1)) r).1,(dwn (acc++([46]++u.2.1)) r).2+2) else (acc,0)
 | _=>(acc,0)
theorem f8t (a b:List UInt8):∀(m:Nat) (l pre:List Tok) (acc:List UInt8) (p n:Nat),l.length≤m→pre.length=p→l.length<n→p+l.length≤100000000→acc.length+szT l+l.length≤100000000 →
 qc (wx ym q7n) n (acc,pre++l,(p:Int),a,b,())=some ((dwn acc l).1,pre++l,((p+(dwn acc l).2:Nat):Int),a,b,())
 | m,l,pre,acc,p,n+1,hm,hp,hn,hb,hz=>by
  have h:=f7g [46] pre l p a b hp hb;have hlen:(pre++l).length=p+l.length:=by simp [hp]
  have hw:=wrN p (by omega);have h1:=y4r 1 pre l p a b hp (by omega);simp only [Int.natCast_one] at h1
  match l,hm,hn,hb,hz,h,hlen,h1 with
  | [],hm,hn,hb,hz,h,hlen,h1 =>
   refine qd ?_;simp only [wx,h,Option.bind_some,sgn,cond_false,dwn,Nat.add_zero]
  | [t],hm,hn,hb,hz,h,hlen,h1 =>
   refine qd ?_;simp only [wx,h,Option.bind_some,sgn];cases hs:(t.1==2&&t.2.1==[46]) with
   | false=>simp only [cond_false,dwn,Nat.add_zero]
   | true=>simp only [cond_true,h1,Option.bind_some,show kd 1 [t] = -1 from rfl,ibF (show (-1:Int)≠0 by decide),cond_false,dwn,Nat.add_zero]
  | t::u::r,hm,hn,hb,hz,h,hlen,h1 =>
   simp only [List.length_cons,szT] at hm hn hb hz hlen;cases hs:(t.1==2&&t.2.1==[46]) with
   | false =>
    refine qd ?_;simp only [wx,h,Option.bind_some,sgn,hs,cond_false,dwn,Bool.false_and,Nat.add_zero]
   | true =>
    by_cases hu:u.1=0
    · have hgd:(pre++t::u::r).getD (p+1) ((0,([],0)):Tok)=u:=by rw [gdk hp];rfl
      rw [ql (v':=(acc++([46]++u.2.1),pre++t::u::r,((p+2:Nat):Int),a,b,())) ?_]
      · rw [show pre++t::u::r=(pre++[t,u])++r by simp]
        rw [f8t a b (m-2) r (pre++[t,u]) _ (p+2) n (by omega) (by simp [hp]) (by omega) (by omega) (by simp only [zd];omega)];simp only [dwn,hs,ibT hu,Bool.and_self,cond_true];rw [show p+2+(dwn (acc++([46]++u.2.1)) r).2=p+((dwn (acc++([46]++u.2.1)) r).2+2) by omega]
      · simp only [wx,h,Option.bind_some,sgn,hs,cond_true,h1,show kd 1 (t::u::r)=u.1 from rfl,ibT hu,hw,hlen,Int.toNat_natCast,hgd]
        rw [decide_eq_true (by omega),decide_eq_true (by omega),decide_eq_true (by simp only [List.length_cons,List.length_nil];omega),decide_eq_true (by simp only [zd];omega)];simp only [Bool.and_self,cond_true];rw [show IntKind.i64.wrap ((p:Int)+2)=((p+2:Nat):Int) by rw [wr (by omega) (by omega)];simp]
    · refine qd ?_
      simp only [wx,h,Option.bind_some,sgn,hs,cond_true,h1,show kd 1 (t::u::r)=u.1 from rfl,ibF hu,cond_false,dwn,Bool.and_false,Nat.add_zero]
def dot:List Tok→List UInt8×Bool×Nat
 | t::r=>bif t.1==0 then ((dwn t.2.1 r).1,true,(dwn t.2.1 r).2+1) else ([],false,0)
 | []=>([],false,0)
theorem f7f (pre l:List Tok) (p:Nat) (a b:List UInt8) (hp:pre.length=p) (hb:p+l.length≤100000000) (hz:szT l+l.length≤100000000) :
 q7l (pre++l,(p:Int),a,b,())=some ((dot l).1,(dot l).2.1,pre++l,((p+(dot l).2.2:Nat):Int),a,b,()):=by
 show v1e ym q7n q7m _=_;have h:=y4r 0 pre l p a b hp (by omega);simp only [Int.natCast_zero] at h;have hlen:(pre++l).length=p+l.length:=by simp [hp]
 have hw:=wrN p (by omega);cases l with
 | nil=>simp only [v1e,h,Option.bind_some,show kd 0 ([]:List Tok) = -1 from rfl,inT (show (-1:Int)≠0 by decide),cond_true,dot,Nat.add_zero]
 | cons t r =>
  simp only [List.length_cons,szT] at hlen hb hz;simp only [v1e,h,Option.bind_some,q3e];by_cases h0:t.1=0
  · have hl:j3x (t.2.1,(pre++[t])++r,((p+1:Nat):Int),a,b,())=_:=f8t a b r.length r (pre++[t]) t.2.1 (p+1) jc (Nat.le_refl _) (by simp [hp]) (by unfold jc;omega) (by omega) (by omega)
    rw [←shift] at hl;simp only [inF h0,cond_false,hlen,Int.toNat_natCast,gd hp];rw [decide_eq_true (by omega),decide_eq_true (by omega)];simp only [Bool.and_self,cond_true,q7m,z3w,hw,hl,Option.bind_some,dot,ibT h0];rw [show p+1+(dwn t.2.1 r).2=p+((dwn t.2.1 r).2+1) by omega]
  · simp only [inT h0,cond_true,dot,ibF h0,cond_false,Nat.add_zero]
def loc:List Tok→Bool×List UInt8×Nat
 | t::r=>bif t.1==1 then (true,t.2.1,1) else ((dot (t::r)).2.1,(dot (t::r)).1,(dot (t::r)).2.2)
 | []=>(false,[],0)
theorem b9i (pre l:List Tok) (p:Nat) (a b:List UInt8) (hp:pre.length=p) (hb:p+l.length≤100000000) (hz:szT l+l.length≤100000000) :
 x4b (pre++l,(p:Int),a,b,())=some ((loc l).1,pre++l,((p+(loc l).2.2:Nat):Int),(loc l).2.1,b,()):=by
 show v0z ym q7l q7b _=_;have h:=y4r 0 pre l p a b hp (by omega);have hd:=f7f pre l p a b hp hb hz;simp only [Int.natCast_zero] at h;have hlen:(pre++l).length=p+l.length:=by simp [hp]
 have hw:=wrN p (by omega);cases l with
 | nil=>simp only [v0z,h,Option.bind_some,show kd 0 ([]:List Tok) = -1 from rfl,ibF (show (-1:Int)≠1 by decide),cond_false,hd,dot,loc,Nat.add_zero]
 | cons t r =>
  simp only [List.length_cons] at hlen hb;simp only [v0z,h,Option.bind_some,q3e];by_cases h1:t.1=1
  · simp only [ibT h1,cond_true,hlen,Int.toNat_natCast,gd hp]
    rw [decide_eq_true (by omega),decide_eq_true (by omega)];simp only [Bool.and_self,cond_true,q7b,z3o,hw,Option.bind_some,loc,ibT h1]
  · simp only [ibF h1,cond_false,hd,Option.bind_some,loc]
theorem b9j (pre l:List Tok) (p:Nat) (a b:List UInt8) (hp:pre.length=p) (hb:p+l.length≤100000000) :
 x4c (pre++l,(p:Int),a,b,())=some (sgn [64] l,pre++l,((p+1:Nat):Int),a,b,()):=by
 show v9j q7n _=_;simp only [v9j,f7g [64] pre l p a b hp hb,Option.bind_some,wrN p (show p≤9223372036854775806 by omega)]
def dom:List Tok→Bool×List UInt8×Nat
 | t::r=>bif t.1==5 then (true,src t.1 t.2.1,1) else ((dot (t::r)).2.1,(dot (t::r)).1,(dot (t::r)).2.2)
 | []=>(false,[],0)
theorem b9k (pre l:List Tok) (p:Nat) (a b:List UInt8) (hp:pre.length=p) (hb:p+l.length≤100000000) (hz:szT l+l.length≤9000) :
 x4d (pre++l,(p:Int),a,b,())=some ((dom l).1,pre++l,((p+(dom l).2.2:Nat):Int),a,(dom l).2.1,()):=by
 show v1a ym q7l C89 q7c _=_;have h:=y4r 0 pre l p a b hp (by omega);have hd:=f7f pre l p a b hp hb (by omega);simp only [Int.natCast_zero] at h;have hlen:(pre++l).length=p+l.length:=by simp [hp]
 have hw:=wrN p (by omega);cases l with
 | nil=>simp only [v1a,h,Option.bind_some,show kd 0 ([]:List Tok) = -1 from rfl,ibF (show (-1:Int)≠5 by decide),cond_false,hd,dot,dom,Nat.add_zero]
 | cons t r =>
  simp only [List.length_cons,szT] at hlen hb hz;simp only [v1a,h,Option.bind_some,q3e];by_cases h1:t.1=5
  · simp only [ibT h1,cond_true,hlen,Int.toNat_natCast,gd hp]
    rw [decide_eq_true (by omega),decide_eq_true (by omega),c9 t.1 t.2.1 t.2.2 (by omega)];simp only [Bool.and_self,cond_true,q7c,z3p,hw,Option.bind_some,dom,ibT h1]
  · simp only [ibF h1,cond_false,hd,Option.bind_some,dom]
theorem q0y:∀(p:Nat) (l:List Tok),szT (l.drop p)≤szT l
 | 0,l=>Nat.le_refl _
 | p+1,[]=>Nat.le_refl _
 | p+1,t::r=>Nat.le_trans (q0y p r) (by simp only [szT];omega)
theorem w0h (l:List Tok) (p:Nat) (a b:List UInt8) (hp:p≤l.length) (hb:l.length≤9000) :
 x4a (l,(p:Int),a,b,())=some (true,l,((p+skn (l.drop p):Nat):Int),a,b,()):=by
 have h:=b9h (l.take p) (l.drop p) p a b (by simp;omega) (by simp;omega)
 rwa [List.take_append_drop] at h
theorem d5c (l:List Tok) (p:Nat) (a b:List UInt8) (hp:p≤l.length) (hb:szT l+l.length≤9000) :
 x4b (l,(p:Int),a,b,())=some ((loc (l.drop p)).1,l,((p+(loc (l.drop p)).2.2:Nat):Int),(loc (l.drop p)).2.1,b,()):=by
 have hs:=q0y p l;have h:=b9i (l.take p) (l.drop p) p a b (by simp;omega) (by simp;omega) (by simp;omega)
 rwa [List.take_append_drop] at h
theorem d5d (l:List Tok) (p:Nat) (a b:List UInt8) (hp:p≤l.length) (hb:l.length≤9000) :
 x4c (l,(p:Int),a,b,())=some (sgn [64] (l.drop p),l,((p+1:Nat):Int),a,b,()):=by
 have h:=b9j (l.take p) (l.drop p) p a b (by simp;omega) (by simp;omega)
 rwa [List.take_append_drop] at h
theorem d5e (l:List Tok) (p:Nat) (a b:List UInt8) (hp:p≤l.length) (hb:szT l+l.length≤9000) :
 x4d (l,(p:Int),a,b,())=some ((dom (l.drop p)).1,l,((p+(dom (l.drop p)).2.2:Nat):Int),a,(dom (l.drop p)).2.1,()):=by
 have hs:=q0y p l;have h:=b9k (l.take p) (l.drop p) p a b (by simp;omega) (by simp;omega) (by simp;omega)
 rwa [List.take_append_drop] at h
theorem v3y:∀(m:Nat) (l:List Tok) (acc:List UInt8),l.length≤m→(dwn acc l).2≤l.length
 | _,[],_,_=>Nat.le_refl _
 | _,[_],_,_=>Nat.zero_le _
 | 0,_::_::_,_,h=>by simp at h
 | m+1,t::u::r,acc,h=>by
  have:=v3y m r (acc++([46]++u.2.1)) (by simp at h;omega);simp only [dwn];cases ((t.1==2&&t.2.1==[46])&&u.1==0) with
  | true=>simp only [cond_true,List.length_cons];omega
  | false=>simp only [cond_false];omega
theorem v3w (l:List Tok):(dot l).2.2≤l.length:=by
 cases l with
 | nil=>exact Nat.le_refl _
 | cons t r =>
  have:=v3y r.length r t.2.1 (Nat.le_refl _);simp only [dot];cases (t.1==0) with
  | true=>simp only [cond_true,List.length_cons];omega
  | false=>simp only [cond_false];omega
theorem g9k (l:List Tok):(loc l).2.2≤l.length:=by
 cases l with
 | nil=>exact Nat.le_refl _
 | cons t r =>
  have:=v3w (t::r);simp only [loc];cases (t.1==1) with
  | true=>simp
  | false=>simpa using this
theorem g7j (l:List Tok):(dom l).2.2≤l.length:=by
 cases l with
 | nil=>exact Nat.le_refl _
 | cons t r =>
  have:=v3w (t::r);simp only [dom];cases (t.1==5) with
  | true=>simp
  | false=>simpa using this
def mt (l:List Tok):Option (List UInt8×List UInt8×Nat) :=
 let n1:=skn l
 let n2:=n1+(loc (l.drop n1)).2.2
 let n3:=n2+skn (l.drop n2)
 let n5:=n3+1+skn (l.drop (n3+1))
 let n6:=n5+(dom (l.drop n5)).2.2
 bif !(loc (l.drop n1)).1 then none else bif !sgn [64] (l.drop n3) then none else bif !(dom (l.drop n5)).1 then none else
 some ((loc (l.drop n1)).2.1,(dom (l.drop n5)).2.1,n6+skn (l.drop n6))
theorem w1d {s:List UInt8} {l:List Tok} (h:sgn s l=true):1≤l.length:=by
 cases l with
 | nil=>cases h
 | cons t r=>simp
theorem c71 (l:List Tok) (hb:szT l+l.length≤9000) :
 C71 (l,())=some (match mt l with|some r=>(r.1,r.2.1,(r.2.2:Int),true,())|none=>([],[],0,false,())):=by
 show F71 x4a x4b x4c x4d _=_;have h1:=w0h l 0 [] [] (Nat.zero_le _) (by omega);simp only [Int.natCast_zero,List.drop_zero,Nat.zero_add] at h1;have b1:=z7x l;have h2:=d5c l (skn l) [] [] b1 hb;have b2:=g9k (l.drop (skn l));rw [List.length_drop] at b2;simp only [F71,h1,h2,Option.bind_some,Bool.not_true,cond_false,mt];cases hl:(loc (l.drop (skn l))).1 with
 | false=>simp only [Bool.not_false,cond_true]
 | true =>
  simp only [Bool.not_true,cond_false];generalize hn2:skn l+(loc (l.drop (skn l))).2.2=n2;have b3:n2≤l.length:=by omega
  generalize (loc (l.drop (skn l))).2.1=A;rw [w0h l n2 A [] b3 (by omega)];have b4:=z7x (l.drop n2);rw [List.length_drop] at b4;simp only [Option.bind_some,Bool.not_true,cond_false];generalize hn3:n2+skn (l.drop n2)=n3;rw [d5d l n3 A [] (by omega) (by omega)];simp only [Option.bind_some];cases hs:sgn [64] (l.drop n3) with
  | false=>simp only [Bool.not_false,cond_true]
  | true =>
   have b5:=w1d hs;rw [List.length_drop] at b5;simp only [Bool.not_true,cond_false];rw [w0h l (n3+1) A [] (by omega) (by omega)];have b6:=z7x (l.drop (n3+1));rw [List.length_drop] at b6;simp only [Option.bind_some,Bool.not_true,cond_false];generalize hn5:n3+1+skn (l.drop (n3+1))=n5;rw [d5e l n5 A [] (by omega) hb];have b7:=g7j (l.drop n5);rw [List.length_drop] at b7;simp only [Option.bind_some];cases hd:(dom (l.drop n5)).1 with
   | false=>simp only [Bool.not_false,cond_true]
   | true =>
    simp only [Bool.not_true,cond_false];rw [w0h l _ A _ (by omega) (by omega)];simp only [Option.bind_some,Bool.not_true,cond_false]
abbrev T64:=Int×Unit→Option (Int×Unit)
def E64 (f:T64):FEnt:=⟨j3p,w7x,f⟩
def F64:T64:=fun (x0,_)=>bif decide (x0≥65) then bif decide (x0≤90) then some (IntKind.u8.wrap (IntKind.u8.wrap (x0-65)+97),()) else some (x0,()) else some (x0,())
def C64:T64:=F64
theorem d5u:FO 64 (E64 C64):=zq0 j3p w7x yp F64 kn Tryz.func64
abbrev z6g:=qa×Int×Int×qa×Unit→Option (qa×Unit)
def v0p (f:z6g):LEnt:=⟨w4k,w7z,f⟩
abbrev T63:=qa×Unit→Option (qa×Unit)
def E63 (f:T63):FEnt:=⟨w4j,w7y,f⟩
def K63 (f64:T64):=lk [(64,E64 f64)]
theorem w9g:zb Tryz.prog (K63 C64):=(kc d5u kn)
def j7b (f64:T64):yh (qa×Int×Int×qa×Unit) (qa×Unit):=fun (x0,x1,x2,x3,_)=>bif decide (x2<x1) then bif decide (0≤x2)&&decide (x2<(↑x0.length:Int)) then (f64 ((↑(UInt8.toNat (x0.getD x2.toNat 0)):Int),())).bind fun v=>bif decide (x3.length+[UInt8.ofNat (Int.toNat v.1)].length≤140737488355328/1) then some (Sum.inl (x0,x1,IntKind.i64.wrap (x2+1),x3++[UInt8.ofNat (Int.toNat v.1)],())) else none else none else some (Sum.inr (x3,()))
def j6z:z6g:=qc (j7b C64) jc
theorem g8w:jf 0 (qe (code Tryz.f63) [1,1,0,1,0,0]) (v0p j6z):=zl1 w4k w7z K63 j7b C64 w9g
def N63 (f63_l0:z6g):Ann:=(.seq .nil (.seq .nil (.seq (.seq .nil (.blk (.loop (v0p f63_l0)))) .nil)))
def F63 (f64:T64) (f63_l0:z6g):T63:=fun (x0,_)=>(f63_l0 (x0,(↑x0.length:Int),0,[],())).bind fun v=>some (v.1,())
def C63:T63:=F63 C64 j6z
theorem d5t:FO 63 (E63 C63):=ve w4j w7y K63 N63 F63 C64 j6z w9g Tryz.func63 (And.intro g8w trivial)
abbrev T25:=qa×Unit→Option (qa×Unit)
def E25 (f:T25):FEnt:=⟨zy,q6e,f⟩
def K25 (f63:T63):=lk [(63,E63 f63)]
def F25 (f63:T63):T25:=fun (x0,_)=>bif decide (x0.length≤9223372036854775807) then (f63 (x0,())).bind fun v=>some (v.1,()) else none
def C25:T25:=F25 C63
theorem w0q:FO 25 (E25 C25):=vf zy q6e K25 F25 C63 (kc d5t kn) Tryz.func25
abbrev T59:=Bool×qa×qa×Unit→Option (Bool×Unit)
def E59 (f:T59):FEnt:=⟨x1c,qw,f⟩
def K59 (f25:T25):=lk [(25,E25 f25)]
def F59 (f25:T25):T59:=fun (x0,x1,x2,_)=>bif !x0 then bif x2==[] then (f25 (x1,())).bind fun v=>some (v.1==[112,111,115,116,109,97,115,116,101,114],()) else some (false,()) else some (false,())
def C59:T59:=F59 C25
theorem g9u:FO 59 (E59 C59):=vf x1c qw K59 F59 C25 (kc w0q kn) Tryz.func59
abbrev j2a:=qq×qu×qv×Bool×qa×qa×Bool×qa×qa×Unit→Option (Int×Bool×qa×qa×Unit)
def v0j (f:j2a):LEnt:=⟨w4l,z1c,f⟩
abbrev j2b:=Int×LqD×Int×qq×qu×qv×Bool×qa×qa×Bool×qa×qa×Unit→Option ((Int×Bool×qa×qa×Unit)⊕(Int×Bool×qa×qa×Unit))
def v0k (f:j2b):LEnt:=⟨x1d,w8b,f⟩
abbrev j2c:=Int×LqD×Int×qq×qu×qv×Bool×qa×qa×Bool×qa×qa×Unit→Option ((Int×Bool×qa×qa×Unit)⊕(Int×Bool×qa×qa×Unit))
def v0l (f:j2c):LEnt:=⟨x1d,w8c,f⟩
abbrev j7u:=Int×Bool×qa×qa×Unit→Option (Int×Bool×qa×qa×Unit)
def v0m (f:j7u):LEnt:=⟨z0z,z1c,f⟩
abbrev T40:=qq×qu×qv×qa×Unit→Option (Bool×qa×qa×Int×Unit)
def E40 (f:T40):FEnt:=⟨ki,w8a,f⟩
def K40 (f44:T44) (f59:T59) (f67:T67) (f71:T71) (f79:T79) (f80:T80):=lk [(44,E44 f44),(59,E59 f59),(67,E67 f67),(71,E71 f71),(79,E79 f79),(80,E80 f80)]
theorem y0y:zb Tryz.prog (K40 C44 C59 C67 C71 C79 C80):=(kc b3r (kc g9u (kc b3u (kc d5w (kc d5y (kc d5z kn))))))
def y3s (f44:T44) (f59:T59) (f67:T67) (f71:T71) (f79:T79) (f80:T80):j2a:=fun (x0,x1,x2,x3,x4,x5,x6,x7,x8,_)=>(f44 (x0,x1,x2,x7,x8,())).bind fun v=>bif v.1==0 then some (0,x6,x7,x8,()) else some (v.1,false,[],[],())
theorem g8d (f44:T44) (f59:T59) (f67:T67) (f71:T71) (f79:T79) (f80:T80):AqC (K40 f44 f59 f67 f71 f79 f80) 0 (qe (code Tryz.f40) [1,0,1,1,1,1,1,1,1,1,1,1,1]) .nil w4l z1c (y3s f44 f59 f67 f71 f79 f80):=fun v=>by kernel_rfl
def z3n:j2a:=y3s C44 C59 C67 C71 C79 C80
theorem g8q:jy 0 (qe (code Tryz.f40) [1,0,1,1,1,1,1,1,1,1,1,1,1]) (v0j z3n) :=
 frc y0y (g8d C44 C59 C67 C71 C79 C80)
def g5e (f40_c0:j2a):Ann:=(.cut .nil (v0j f40_c0))
def y3t (f44:T44) (f59:T59) (f67:T67) (f71:T71) (f79:T79) (f80:T80) (f40_c0:j2a):j2b:=fun (x0,x1,x2,x3,x4,x5,x6,x7,x8,x9,x10,x11,_)=>bif decide (0≤x0)&&decide (x0≤(↑x1.length:Int)) then bif decide (1≤x0) then (f71 (List.drop 1 (List.take x0.toNat x1),())).bind fun v=>bif !v.2.2.2.1 then some (Sum.inl (x2,x6,x7,x8,())) else bif v.2.2.1 != IntKind.i64.wrap (x0-1) then some (Sum.inl (x2,x6,x7,x8,())) else (f40_c0 (x3,x4,x5,x6,x7,x8,x9,v.1,v.2.1,())).bind fun v=>some (Sum.inr (v.1,v.2.1,v.2.2.1,v.2.2.2.1,())) else none else none
theorem g8e (f44:T44) (f59:T59) (f67:T67) (f71:T71) (f79:T79) (f80:T80) (f40_c0:j2a):AqC (K40 f44 f59 f67 f71 f79 f80) 0 (qe (code Tryz.f40) [1,0,1,1,1,1,1,1,1,1,1,1]) (g5e f40_c0) x1d w8b (y3t f44 f59 f67 f71 f79 f80 f40_c0):=fun v=>by kernel_rfl
def q2n:j2b:=y3t C44 C59 C67 C71 C79 C80 z3n
theorem g8r:jy 0 (qe (code Tryz.f40) [1,0,1,1,1,1,1,1,1,1,1,1]) (v0k q2n) :=
 frd y0y (And.intro g8q trivial) (g8e C44 C59 C67 C71 C79 C80 z3n)
def g5f (f40_c1:j2b):Ann:=(.seq .nil (.seq .nil (.cut .nil (v0k f40_c1))))
def y3u (f44:T44) (f59:T59) (f67:T67) (f71:T71) (f79:T79) (f80:T80) (f40_c1:j2b):j2c:=fun (x0,x1,x2,x3,x4,x5,x6,x7,x8,x9,x10,x11,_)=>bif x0==1 then some (Sum.inl (0,true,[],[],())) else bif decide (1<(↑x1.length:Int)) then bif x0==2 then bif decide (1<(↑x1.length:Int)) then bif (x1.getD 1 (0,([],0))).1==0 then (f59 (x9,(x1.getD 1 (0,([],0))).2.1,x11,())).bind fun v=>bif v.1 then some (Sum.inl (0,x9,(x1.getD 1 (0,([],0))).2.1,x11,())) else (f40_c1 (x0,x1,x2,x3,x4,x5,x6,x7,x8,x9,(x1.getD 1 (0,([],0))).2.1,x11,())).bind fun v=>Sum.elim (fun v=>some (Sum.inr (v.1,v.2.1,v.2.2.1,v.2.2.2.1,()))) (fun v=>some (Sum.inl (v.1,v.2.1,v.2.2.1,v.2.2.2.1,()))) v else (f40_c1 (x0,x1,x2,x3,x4,x5,x6,x7,x8,x9,(x1.getD 1 (0,([],0))).2.1,x11,())).bind fun v=>Sum.elim (fun v=>some (Sum.inr (v.1,v.2.1,v.2.2.1,v.2.2.2.1,()))) (fun v=>some (Sum.inl (v.1,v.2.1,v.2.2.1,v.2.2.2.1,()))) v else none else (f40_c1 (x0,x1,x2,x3,x4,x5,x6,x7,x8,x9,(x1.getD 1 (0,([],0))).2.1,x11,())).bind fun v=>Sum.elim (fun v=>some (Sum.inr (v.1,v.2.1,v.2.2.1,v.2.2.2.1,()))) (fun v=>some (Sum.inl (v.1,v.2.1,v.2.2.1,v.2.2.2.1,()))) v else none
theorem g8f (f44:T44) (f59:T59) (f67:T67) (f71:T71) (f79:T79) (f80:T80) (f40_c1:j2b):AqC (K40 f44 f59 f67 f71 f79 f80) 0 (qe (code Tryz.f40) [1,0,1,1,1,1,1,1,1]) (g5f f40_c1) x1d w8c (y3u f44 f59 f67 f71 f79 f80 f40_c1):=fun v=>by kernel_rfl
def j1q:j2c:=y3u C44 C59 C67 C71 C79 C80 q2n
theorem g8s:jy 0 (qe (code Tryz.f40) [1,0,1,1,1,1,1,1,1]) (v0l j1q) :=
 frd y0y (And.intro g8r trivial) (g8f C44 C59 C67 C71 C79 C80 q2n)
def z5r (f44:T44) (f59:T59) (f67:T67) (f71:T71) (f79:T79) (f80:T80):yh (Int×Bool×qa×qa×Unit) (Int×Bool×qa×qa×Unit):=fun (x0,x1,x2,x3,_)=>some (Sum.inr (x0,false,[],[],()))
theorem g8g (f44:T44) (f59:T59) (f67:T67) (f71:T71) (f79:T79) (f80:T80) (v:HS z0z):aev Γ (K40 f44 f59 f67 f71 f79 f80) 0 ((findLabel (qe (code Tryz.f40) [1,0]) 0).getD .skip) .nil (x8d z0z v) (vy 0 0 [] z0z z1c)=z5r f44 f59 f67 f71 f79 f80 v:=by kernel_rfl
def j6y:j7u:=qc (z5r C44 C59 C67 C71 C79 C80) jc
theorem g8t:jo Tryz.prog 0 (jn Tryz.prog (qe (code Tryz.f40) [1,0]) 0) (v0m j6y) :=
 zz (ins:=z0z) (os:=z1c) (C:=j6y) (q1n (ins:=z0z) (os:=z1c) (n := .nil) (ls:=[]) (F:=z5r C44 C59 C67 C71 C79 C80) (rest:=((findLabel (qe (code Tryz.f40) [1,0]) 0).getD .skip)) hm hΓ y0y (fun _=>jc) (by kernel_rfl) (jh _) q3c (g8g C44 C59 C67 C71 C79 C80)) rfl
def N40 (f40_c2:j2c) (f40_g0:j7u):Ann:=(.seq .nil (.scope (.seq .nil (.seq .nil (.seq .nil (.seq .nil (.seq .nil (.seq .nil (.cut .nil (v0l f40_c2)))))))) [(0,(v0m f40_g0))]))
def F40 (f44:T44) (f59:T59) (f67:T67) (f71:T71) (f79:T79) (f80:T80) (f40_c2:j2c) (f40_g0:j7u):T40:=fun (x0,x1,x2,x3,_)=>(f67 (x3,())).bind fun v=>bif v.2.2.1 != 0 then (f40_g0 (v.2.2.1,false,[],[],())).bind fun v=>some (v.2.1,v.2.2.1,v.2.2.2.1,v.1,()) else bif decide (IntKind.i64.wrap ((↑(List.length v.1):Int)-1)<1) then (f40_g0 (4,false,[],[],())).bind fun v=>some (v.2.1,v.2.2.1,v.2.2.2.1,v.1,()) else bif decide (0<(↑(List.length v.1):Int)) then (f79 ((List.getD v.1 0 (0,([],0))).1,(List.getD v.1 0 (0,([],0))).2.1,(List.getD v.1 0 (0,([],0))).2.2,[60],())).bind fun v1=>bif !v1.1 then (f40_g0 (4,false,[],[],())).bind fun v=>some (v.2.1,v.2.2.1,v.2.2.2.1,v.1,()) else bif decide (0≤IntKind.i64.wrap ((↑(List.length v.1):Int)-1))&&decide (IntKind.i64.wrap ((↑(List.length v.1):Int)-1)<(↑(List.length v.1):Int)) then (f79 ((List.getD v.1 (IntKind.i64.wrap ((↑(List.length v.1):Int)-1)).toNat (0,([],0))).1,(List.getD v.1 (IntKind.i64.wrap ((↑(List.length v.1):Int)-1)).toNat (0,([],0))).2.1,(List.getD v.1 (IntKind.i64.wrap ((↑(List.length v.1):Int)-1)).toNat (0,([],0))).2.2,[62],())).bind fun v2=>bif !v2.1 then (f40_g0 (4,false,[],[],())).bind fun v=>some (v.2.1,v.2.2.1,v.2.2.2.1,v.1,()) else bif decide (0≤IntKind.i64.wrap ((↑(List.length v.1):Int)-1))&&decide (IntKind.i64.wrap ((↑(List.length v.1):Int)-1)≤(↑(List.length v.1):Int)) then bif decide (1≤IntKind.i64.wrap ((↑(List.length v.1):Int)-1)) then (f80 (List.drop 1 (List.take (IntKind.i64.wrap ((↑(List.length v.1):Int)-1)).toNat v.1),())).bind fun v3=>bif v3.1 then (f40_g0 (4,false,[],[],())).bind fun v=>some (v.2.1,v.2.2.1,v.2.2.2.1,v.1,()) else (f40_c2 (IntKind.i64.wrap ((↑(List.length v.1):Int)-1),v.1,4,x0,x1,x2,false,[],[],false,[],[],())).bind fun v=>Sum.elim (fun v=>some (v.2.1,v.2.2.1,v.2.2.2.1,v.1,())) (fun v=>(f40_g0 (v.1,v.2.1,v.2.2.1,v.2.2.2.1,())).bind fun v=>some (v.2.1,v.2.2.1,v.2.2.2.1,v.1,())) v else none else none else none else none
theorem h40 (f44:T44) (f59:T59) (f67:T67) (f71:T71) (f79:T79) (f80:T80) (f40_c2:j2c) (f40_g0:j7u):zw (K40 f44 f59 f67 f71 f79 f80) 0 Tryz.f40 (N40 f40_c2 f40_g0) ki w8a (F40 f44 f59 f67 f71 f79 f80 f40_c2 f40_g0):=fun v=>by kernel_rfl
def C40:T40:=F40 C44 C59 C67 C71 C79 C80 j1q j6y
theorem d5k:FO 40 (E40 C40) :=
 qo y0y Tryz.func40 (And.intro g8s (And.intro g8t trivial)) (h40 C44 C59 C67 C71 C79 C80 j1q j6y)
abbrev T22:=Bool×qa×qa×Unit→Option (qa×Unit)
def E22 (f:T22):FEnt:=⟨x1c,q6e,f⟩
def K22 (f45:T45) (f59:T59):=lk [(45,E45 f45),(59,E59 f59)]
def F22 (f45:T45) (f59:T59):T22:=fun (x0,x1,x2,_)=>bif x0 then some ([60,62],()) else (f59 (x0,x1,x2,())).bind fun v=>bif v.1 then bif decide ([60].length+x1.length≤9223372036854775807) then bif decide (([60]++x1).length+[62].length≤9223372036854775807) then some ([60]++x1++[62],()) else none else none else (f45 (x1,x2,())).bind fun v=>bif decide ([60].length+List.length v.1≤9223372036854775807) then bif decide (([60]++v.1).length+[62].length≤9223372036854775807) then some ([60]++v.1++[62],()) else none else none
def C22:T22:=F22 C45 C59
theorem d5g:FO 22 (E22 C22):=zq2 x1c q6e K22 F22 C45 C59 (kc d5l (kc g9u kn)) Tryz.func22
abbrev j7k:=Bool×qq×qu×qv×Bool×qa×qa×Unit→Option ((Int×Unit)⊕(qq×qu×qv×Bool×qa×qa×Unit))
def x9v (f:j7k):LEnt:=⟨w4n,w8d,f⟩
abbrev T20:=qq×qu×qv×Bool×qa×qa×Unit→Option (Int×Unit)
def E20 (f:T20):FEnt:=⟨w4m,jb,f⟩
def K20 (f44:T44) (f59:T59):=lk [(44,E44 f44),(59,E59 f59)]
theorem w9c:zb Tryz.prog (K20 C44 C59):=(kc b3r (kc g9u kn))
def v1l (f44:T44) (f59:T59):j7k:=fun (x0,x1,x2,x3,x4,x5,x6,_)=>bif x0 then some (Sum.inl (1,())) else bif x4 then some (Sum.inl (0,())) else (f59 (x4,x5,x6,())).bind fun v=>bif v.1 then some (Sum.inl (0,())) else some (Sum.inr (x1,x2,x3,x4,x5,x6,()))
def y3b:j7k:=v1l C44 C59
theorem g8l:jy 0 (qe (code Tryz.f20) [1,0,0,1]) (x9v y3b):=zc2 w4n w8d K20 v1l C44 C59 w9c
def N20 (f20_c0:j7k):Ann:=(.seq .nil (.seq (.blk (.cut .nil (x9v f20_c0))) .nil))
def F20 (f44:T44) (f59:T59) (f20_c0:j7k):T20:=fun (x0,x1,x2,x3,x4,x5,_)=>bif x3 then (f20_c0 (!(x4==[]&&(x5==[]&&true)),x0,x1,x2,x3,x4,x5,())).bind fun v=>Sum.elim (fun v=>some (v.1,())) (fun v=>(f44 (v.1,v.2.1,v.2.2.1,v.2.2.2.2.1,v.2.2.2.2.2.1,())).bind fun v=>some (v.1,())) v else (f20_c0 (false,x0,x1,x2,x3,x4,x5,())).bind fun v=>Sum.elim (fun v=>some (v.1,())) (fun v=>(f44 (v.1,v.2.1,v.2.2.1,v.2.2.2.2.1,v.2.2.2.2.2.1,())).bind fun v=>some (v.1,())) v
def C20:T20:=F20 C44 C59 y3b
theorem d5f:FO 20 (E20 C20):=q5y w4m jb K20 N20 F20 C44 C59 y3b w9c Tryz.func20 (And.intro g8l trivial)
def Df {α:Type} (x:Option α) (Q:α→Prop):Prop:=∃y,x=some y∧Q y
section
variable {α β γ:Type} {Q:α→Prop}
theorem dP {y:α} (h:Q y):Df (some y) Q:=⟨y,rfl,h⟩
theorem dO (h:False):Df (none:Option α) Q:=h.elim
theorem dZ {x:Option β} {f:β→Option α} {P:β→Prop} (h:Df x P) (hf:∀a,P a→Df (f a) Q):Df (x.bind f) Q:=by
 obtain ⟨a,rfl,ha⟩:=h;exact hf a ha
theorem Df.mono {x:Option α} {P:α→Prop} (h:Df x P) (hf:∀a,P a→Q a):Df x Q:=by
 obtain ⟨a,e,ha⟩:=h;exact ⟨a,e,hf a ha⟩
theorem Df.and {x:Option α} {P P':α→Prop} (h:Df x P) (h':Df x P'):Df x fun y=>P y∧P' y:=by
 obtain ⟨a,e,ha⟩:=h;obtain ⟨b,e',hb⟩:=h';rw [e] at e';cases e';exact ⟨a,e,ha,hb⟩
theorem dB {b:Bool} {x y:Option α} (h1:b=true→Df x Q) (h2:b=false→Df y Q):Df (bif b then x else y) Q:=by
 cases b
 · exact h2 rfl
 · exact h1 rfl
theorem dH {b:Bool} {x y:Option α} (h1:b=false→Df x Q) (h2:b=true→Df y Q):Df (bif !b then x else y) Q:=by
 cases b
 · exact h1 rfl
 · exact h2 rfl
theorem dD {p:Prop} {dp:Decidable p} {x y:Option α} (h1:p→Df x Q) (h2:¬p→Df y Q):Df (bif decide p then x else y) Q:=by
 by_cases h:p
 · rw [decide_eq_true h];exact h1 h
 · rw [decide_eq_false h];exact h2 h
theorem dG {a b:Int} {x y:Option α} (h1:a=b→Df x Q) (h2:a≠b→Df y Q):Df (bif a==b then x else y) Q:=by
 by_cases h:a=b
 · rw [ibT h];exact h1 h
 · rw [ibF h];exact h2 h
class Rd (b:Bool) (p q:outParam Prop):Prop where
 t:b=true→p
 f:b=false→q
instance (priority := low) (b : Bool) : Rd b (b = true) (b = false) := ⟨id, id⟩
instance (b : Bool) : Rd (!b) (b = false) (b = true) := ⟨fun h => by cases b <;> simp_all, fun h => by cases b <;> simp_all⟩
instance (p : Prop) [Decidable p] : Rd (decide p) p (¬ p) := ⟨of_decide_eq_true, of_decide_eq_false⟩
instance (p : Prop) [Decidable p] : Rd (!decide p) (¬ p) p := ⟨fun h => by simpa using h, fun h => by simpa using h⟩
instance (p q : Prop) [Decidable p] [Decidable q] : Rd (decide p && decide q) (p ∧ q) (¬ (p ∧ q)) := ⟨fun h => by simpa using h, fun h => by simpa using h⟩
instance (a b : Int) : Rd (a == b) (a = b) (a ≠ b) := ⟨fun h => by simpa using h, fun h => by simpa using h⟩
instance (a b : Int) : Rd (a != b) (a ≠ b) (a = b) := ⟨fun h => by simpa using h, fun h => by simpa using h⟩
theorem dX {b:Bool} {p q:Prop} [r:Rd b p q] {x y:Option α} (h1:p→Df x Q) (h2:q→Df y Q):Df (bif b then x else y) Q:=by
 have h:b=true∨b=false:=by cases b<;>simp
 rcases h with h|h
 · rw [h];exact h1 (r.t h)
 · rw [h];exact h2 (r.f h)
theorem dS {f:β→Option α} {g:γ→Option α} {s:β⊕γ} {P:β→Prop} {P':γ→Prop} (hs:Sum.elim P P' s) (h1:∀a,P a→Df (f a) Q) (h2:∀b,P' b→Df (g b) Q):Df (Sum.elim f g s) Q:=by
 cases s with
 | inl a=>exact h1 a hs
 | inr b=>exact h2 b hs
theorem Df.loop {F:β→Option (β⊕α)} (I:β→Prop) (μ:β→Nat) (h:∀v,I v→Df (F v) (Sum.elim (fun v'=>I v'∧μ v'<μ v) Q)) (n:Nat) (v:β) (hv:I v) (hn:μ v<n):Df (qc F n v) Q:=by
 refine y1c I Q μ (fun v hv => ?_) n v hv hn;obtain ⟨y,e,hy⟩:=h v hv;cases y with
 | inl v'=>exact .inl ⟨v',e,hy.1,hy.2⟩
 | inr y=>exact .inr ⟨y,e,hy⟩
theorem dL {F:β→Option (β⊕α)} (I:β→Prop) (μ:β→Nat) (h:∀v,I v→Df (F v) (Sum.elim (fun v'=>I v'∧μ v'<μ v) Q)) (v:β) (hv:I v) (hn:μ v<1000000000000000000):Df (qc F jc v) Q :=
 Df.loop I μ h jc v hv (by unfold jc;omega)
end
theorem v8l (n:Int):IntKind.i64.wrap n=(n+9223372036854775808)%18446744073709551616-9223372036854775808:=by rw [IntKind.wrap_i64]
theorem d6q (n:Int):IntKind.i32.wrap n=(n+2147483648)%4294967296-2147483648:=by
 simp [IntKind.wrap,IntKind.bits,IntKind.signed];split<;>omega
theorem b4i (n:Int):IntKind.u64.wrap n=n%18446744073709551616:=IntKind.wrap_u64 n
theorem qk {n:Int} (h : -9000000000000000000≤n∧n≤9000000000000000000):IntKind.i64.wrap n=n:=by rw [v8l];omega
theorem b4g {n:Int} (h : -2000000000≤n∧n≤2000000000):IntKind.i32.wrap n=n:=by rw [d6q];omega
theorem v6f {a b:Int} (ha:0≤a) (hb:0≤b) (h:a+b≤9000000000000000000):IntKind.i64.wrap ((IntKind.u64.wrap (IntKind.i64.wrap (a+b))).fdiv (2^min 1 IntKind.u64.bits))=(a+b)/2:=by
 rw [qk (n:=a+b) (by omega),b4i,show (2:Int)^min 1 IntKind.u64.bits=2 from rfl,Int.fdiv_eq_ediv_of_nonneg _ (by omega),qk (by omega)];omega
theorem j8i (s:List UInt8) (p:Nat):1≤(xl s p).2:=by
 unfold xl Utf8.decode;dsimp only;repeat' split
 all_goals (first|omega|(dsimp only;omega))
theorem g6a (x:Int):Df (xg (x,())) (fun y=>y.1=true→0≤x∧x≤1114111):=by
 show Df (v1g _) _;unfold v1g;dsimp only;with_reducible repeat' (first|apply dP|apply dX<;>intro _)
 all_goals (dsimp only;intro h';first|omega|cases h')
theorem f7r (x:Int):Df (xc (x,())) (fun y=>0≤y.1∧y.1≤4):=by
 show Df (x4k xg _) _;unfold x4k;dsimp only;refine dZ (g6a x) ?_;rintro ⟨b,u⟩ hb;dsimp only;with_reducible repeat' (first|apply dP|apply dX<;>intro _)
 all_goals (first|omega|(dsimp only;omega))
theorem g5w (x:Int) (b:Bool):Df (q7d (x,b,())) (Sum.elim (fun y=>0≤y.1∧y.1≤3) (fun _=>True)):=by
 show Df (j4t _) _;unfold j4t;dsimp only;with_reducible repeat' (first|apply dP|apply dX<;>intro _)
 all_goals (first|trivial|exact ⟨by (try dsimp only);omega,by (try dsimp only);omega⟩)
theorem g5x (x:Int) (b:Bool):Df (q7e (x,b,())) (Sum.elim (fun y=>0≤y.1∧y.1≤3) (fun _=>True)):=by
 show Df (j4u q7d _) _;unfold j4u;dsimp only;with_reducible repeat' (first|apply dP|apply dX<;>intro _)
 all_goals (first|trivial|exact ⟨by (try dsimp only);omega,by (try dsimp only);omega⟩|(refine dZ (g5w _ _) ?_;intro s hs;exact dS hs (fun a ha=>dP ha) (fun _ _=>dP trivial)))
theorem b9x (x:Int):Df (vg (x,())) (fun y => -1≤y.1∧y.1≤3):=by
 show Df (v9k q7e _) _;unfold v9k;dsimp only;with_reducible repeat' (first|apply dP|apply dX<;>intro _)
 all_goals (first|(first|omega|(dsimp only;omega))|(refine dZ (g5x _ _) ?_;intro s hs;exact dS hs (fun a ha=>dP ⟨by have:=ha.1;dsimp only;omega,ha.2⟩) (fun _ _=>dP (by (try dsimp only);omega))))
theorem f8j (s:List UInt8) (n r at_ k:Int) (o:List Int) (h:0≤at_) (hn:0≤n∧n≤3) (hl:at_+n<s.length) (hk:at_+1≤k) (hb:s.length≤1000000000000) :
 Df (q1f (s,n,r,at_,k,o,())) (Sum.elim (fun y=>y.1=s∧y.2.1=n∧y.2.2.2.1=at_∧y.2.2.2.2.1=o) (fun y=>y.1=at_∧y.2.1=o)):=by
 refine dL ?I ?m ?h _ ?hv ?hn
 case I=>exact (fun v=>v.1=s∧v.2.1=n∧v.2.2.2.1=at_∧v.2.2.2.2.2.1=o∧at_+1≤v.2.2.2.2.1)
 case m=>exact (fun v=>(at_+n+1-v.2.2.2.2.1).toNat)
 case hv=>exact ⟨rfl,rfl,rfl,rfl,hk⟩
 case hn=>exact (by (try dsimp only);omega)
 rintro ⟨x0,x1,x2,x3,x4,x5,u⟩ hI;dsimp only at hI;obtain ⟨rfl,rfl,rfl,rfl,hI⟩:=hI;unfold q1h;dsimp only;rw [qk (n:=x3+x1) (by omega)];with_reducible repeat' (first|apply dP|apply dX<;>intro _)
 · exact ⟨rfl,rfl⟩
 · rw [qk (by omega)]
   exact ⟨⟨rfl,rfl,rfl,rfl,by (try dsimp only);omega⟩,by (try dsimp only);omega⟩
 · refine dO ?_;omega
 · refine dO ?_;omega
 · exact ⟨rfl,rfl,rfl,rfl⟩
theorem d83 (s:List UInt8) (hb:s.length≤1000000000000):Df (C83 (s,())) (fun y=>y.1.length≤s.length∧(y.2.1 = -1∨0≤y.2.1∧y.2.1<s.length)∧(y.2.1<0→0<s.length→0<y.1.length)):=by
 show Df (F83 vg xc q2o q2p _) _;unfold F83;dsimp only;refine dZ (P:=Sum.elim (fun y=>y.1.length≤s.length∧(0<s.length→0<y.1.length)) (fun y=>y.2.1.length≤s.length∧0≤y.1∧y.1<s.length)) ?_ ?_
 · refine dL ?I ?m ?h _ ?hv ?hn
   case I=>exact (fun v=>v.1=s∧0≤v.2.1∧v.2.1≤s.length∧v.2.2.1.length≤v.2.1∧(0<v.2.1→0<v.2.2.1.length))
   case m=>exact (fun v=>(s.length-v.2.1).toNat)
   case hv=>exact ⟨rfl,by (try dsimp only);omega,by (try dsimp only);omega,by simp,by simp⟩
   case hn=>exact (by (try dsimp only);omega)
   rintro ⟨x0,x1,x2,u⟩ hI;dsimp only at hI;obtain ⟨rfl,h0,h1,h2,h2'⟩:=hI;unfold xe;dsimp only;with_reducible repeat' (first|apply dP|apply dX<;>intro _)
   · refine dZ (b9x _) ?_
     rintro ⟨n,r,u⟩ hn;dsimp only at hn ⊢;rw [qk (n:=(x0.length:Int)-x1) (by omega)];with_reducible repeat' (first|apply dP|apply dX<;>intro _)
     · exact ⟨by (try dsimp only);omega,by (try dsimp only);omega,by (try dsimp only);omega⟩
     · exact ⟨by (try dsimp only);omega,by (try dsimp only);omega,by (try dsimp only);omega⟩
     · rw [qk (n:=x1+1) (by omega)]
       refine dZ (f8j x0 n r x1 (x1+1) x2 h0 (by omega) (by omega) (by omega) hb) ?_;intro s hs;refine dS hs ?_ ?_
       · rintro ⟨a0,a1,a2,a3,a4,u⟩ ha
         dsimp only at ha ⊢;obtain ⟨rfl,rfl,rfl,rfl⟩:=ha;refine dZ (f7r _) ?_;rintro ⟨m,u⟩ hm;dsimp only at hm ⊢;with_reducible repeat' (first|apply dP|apply dX<;>intro _)
         · exact ⟨by (try dsimp only);omega,by (try dsimp only);omega,by (try dsimp only);omega⟩
         · rw [qk (n:=a1+1) (by omega),qk (by omega)]
           exact ⟨⟨rfl,by (try dsimp only);omega,by (try dsimp only);omega,by simp only [zd];omega,fun _=>by simp only [zd];omega⟩,by (try dsimp only);omega⟩
         · refine dO ?_
           simp only [List.length_cons,List.length_nil] at *
           omega
       · rintro ⟨a0,a1,u⟩ ha
         dsimp only at ha ⊢;obtain ⟨rfl,rfl⟩:=ha;exact dP ⟨by (try dsimp only);omega,by (try dsimp only);omega,by (try dsimp only);omega⟩
   · refine dO ?_;omega
   · exact ⟨by (try dsimp only);omega,fun _=>h2' (by omega)⟩
 · intro r hr
   refine dS hr ?_ ?_
   · rintro ⟨a,u⟩ ha
     exact dP ⟨ha.1,.inl rfl,fun _=>ha.2⟩
   · rintro ⟨a,b,u⟩ ha
     exact dP ⟨ha.1,.inr ha.2,fun h=>by have:=ha.2.1;dsimp only at h this;omega⟩
theorem k4l (l:List Int) (hb:l.length≤20000000000000):Df (j9n (l,())) (fun y=>y.1.length≤4*l.length):=by
 show Df (v9t xc j3z _) _;unfold v9t;dsimp only;refine dZ (P:=Sum.elim (fun y=>y.1.length≤4*l.length) (fun y=>y.1.length≤4*l.length)) ?_ ?_
 · refine dL ?I ?m ?h _ ?hv ?hn
   case I=>exact (fun v=>v.1=l∧v.2.1=l.length∧0≤v.2.2.1∧v.2.2.1≤l.length∧v.2.2.2.1.length≤4*v.2.2.1)
   case m=>exact (fun v=>(l.length-v.2.2.1).toNat)
   case hv=>exact ⟨rfl,rfl,by (try dsimp only);omega,by (try dsimp only);omega,by simp⟩
   case hn=>exact (by (try dsimp only);omega)
   rintro ⟨x0,x1,x2,x3,u⟩ hI;dsimp only at hI;obtain ⟨rfl,rfl,h0,h1,h2⟩:=hI;unfold z4c;dsimp only;with_reducible repeat' (first|apply dP|apply dX<;>intro _)
   · refine dZ (f7r _) ?_
     rintro ⟨m,u⟩ hm;dsimp only at hm ⊢;rw [qk (n:=x2+1) (by omega)];with_reducible repeat' (first|apply dP|apply dX<;>intro _)
     all_goals first
      | exact (by simp:(([]:List UInt8).length≤4*x0.length))
      | exact ⟨⟨rfl,rfl,by (try dsimp only);omega,by (try dsimp only);omega,by simp only [zd];omega⟩,by (try dsimp only);omega⟩
      | (refine dO ?_;simp only [List.length_cons,List.length_nil] at *;omega)
   · refine dO ?_;omega
   · exact (by (try dsimp only);omega:x3.length≤4*x0.length)
 · intro r hr
   refine dS hr ?_ ?_
   · rintro ⟨a,u⟩ ha;exact dP ha
   · rintro ⟨a,b,u⟩ ha;exact dP ha
theorem d21 (s:List UInt8) (hb:s.length≤1000000000000000):Df (C21 (s,())) (fun y=>y.1<s.length∧(y.1<0→∀c∈s,c.toNat<128)):=by
 show Df (F21 z2z _) _;unfold F21;dsimp only;refine dZ (P:=Sum.elim (fun y=>∀c∈s,c.toNat<128) (fun y=>0≤y.1∧y.1<s.length)) ?_ ?_
 · refine dL ?I ?m ?h _ ?hv ?hn
   case I=>exact (fun v=>v.1=s∧v.2.1=s.length∧0≤v.2.2.1∧v.2.2.1≤s.length∧∀c∈s.take v.2.2.1.toNat,c.toNat<128)
   case m=>exact (fun v=>(s.length-v.2.2.1).toNat)
   case hv=>exact ⟨rfl,rfl,by (try dsimp only);omega,by (try dsimp only);omega,by simp⟩
   case hn=>exact (by (try dsimp only);omega)
   rintro ⟨x0,x1,x2,u⟩ hI;dsimp only at hI;obtain ⟨rfl,rfl,h0,h1,h2⟩:=hI;unfold z4f;dsimp only;with_reducible repeat' (first|apply dP|apply dX<;>intro _)
   · exact ⟨by (try dsimp only);omega,by (try dsimp only);omega⟩
   · rename_i h3 h4 h5
     rw [qk (n:=x2+1) (by omega)];have hlt:x2.toNat<x0.length:=by omega
     refine ⟨⟨rfl,rfl,by (try dsimp only);omega,by (try dsimp only);omega,?_⟩,by (try dsimp only);omega⟩;dsimp only;intro c hc;rw [show (x2+1).toNat=x2.toNat+1 by omega,je hlt] at hc;rcases List.mem_append.1 hc with hc|hc
     · exact h2 c hc
     · rw [List.mem_singleton] at hc
       rw [getD_lt hlt] at h5;subst hc;omega
   · refine dO ?_;omega
   · intro c hc
     refine h2 c ?_;rw [List.take_of_length_le (by omega)];exact hc
 · intro r hr
   refine dS hr ?_ ?_
   · intro u hu;exact dP ⟨by (try dsimp only);omega,fun _=>hu⟩
   · rintro ⟨a,u⟩ ha;exact dP ⟨ha.2,fun h=>by have:=ha.1;dsimp only at h this;omega⟩
abbrev R6:=Int×Int×Int×Int×Int×Int
abbrev R4:=Int×Int×Int×Int
abbrev R3:=Int×Int×Int
theorem f8f (a b c d e f g:Int):Df (z8r (a,b,c,d,e,f,g,())) (fun _=>True):=by
 show Df (k1d _) _;unfold k1d;dsimp only;with_reducible repeat' (first|apply dP|apply dX<;>intro _)
 all_goals trivial
theorem d2c (T:List R6) (r:Int) (hT:T.length≤1000000000000):Df (x9k (T,r,())) (fun y=>0≤y.1∧(y.2.1=true→y.1<T.length)):=by
 show Df (k1c z8r j4l _) _;unfold k1c;dsimp only;refine dZ (P:=fun y=>y.1=T∧y.2.2.1=T.length∧0≤y.2.2.2.1∧y.2.2.2.1≤T.length) ?_ ?_
 · refine dL ?I ?m ?h _ ?hv ?hn
   case I=>exact (fun v=>v.1=T∧v.2.2.1=T.length∧0≤v.2.2.2.1∧v.2.2.2.1≤v.2.2.2.2.1∧v.2.2.2.2.1≤T.length)
   case m=>exact (fun v=>(v.2.2.2.2.1-v.2.2.2.1).toNat)
   case hv=>exact ⟨rfl,rfl,by (try dsimp only);omega,by (try dsimp only);omega,by (try dsimp only);omega⟩
   case hn=>exact (by (try dsimp only);omega)
   rintro ⟨x0,x1,x2,x3,x4,u⟩ hI;dsimp only at hI;obtain ⟨rfl,rfl,h0,h1,h2⟩:=hI;unfold z5b;dsimp only;rw [v6f (by omega) (by omega) (by omega)];with_reducible repeat' (first|apply dP|apply dX<;>intro _)
   · refine dZ (f8f _ _ _ _ _ _ _) ?_
     rintro ⟨m,u⟩ -
     dsimp only;rw [qk (n:=(x3+x4)/2+1) (by omega)];with_reducible repeat' (first|apply dP|apply dX<;>intro _)
     · exact ⟨⟨rfl,rfl,by (try dsimp only);omega,by (try dsimp only);omega,by (try dsimp only);omega⟩,by (try dsimp only);omega⟩
     · exact ⟨⟨rfl,rfl,by (try dsimp only);omega,by (try dsimp only);omega,by (try dsimp only);omega⟩,by (try dsimp only);omega⟩
   · refine dO ?_;omega
   · exact ⟨rfl,rfl,by (try dsimp only);omega,by (try dsimp only);omega⟩
 · rintro ⟨x0,x1,x2,x3,u⟩ hI
   dsimp only at hI ⊢;obtain ⟨rfl,rfl,h0,h1⟩:=hI;with_reducible repeat' (first|apply dP|apply dX<;>intro _)
   · refine dZ (f8f _ _ _ _ _ _ _) ?_
     rintro ⟨m,u⟩ -
     exact dP ⟨by (try dsimp only);omega,fun _=>by (try dsimp only);omega⟩
   · refine dO ?_;omega
   · exact ⟨by (try dsimp only);omega,fun h=>by cases h⟩
theorem k4m (T:List R6) (A:List R4) (B:List R3) (r:Int) (hT:T.length≤1000000000000):Df (q7y (T,A,B,r,())) (fun y=>y.2.2.2.1=0∨∃e∈T,y.2.2.2.1=e.2.2.2.1):=by
 show Df (k0n x9k _) _;unfold k0n;dsimp only;refine dZ (d2c T r hT) ?_;rintro ⟨i,b,u⟩ h;dsimp only at h ⊢;with_reducible repeat' (first|apply dP|apply dX<;>intro _)
 · exact .inl rfl
 · rename_i h1
   have hlt:i.toNat<T.length:=by omega
   refine .inr ⟨T[i.toNat],List.getElem_mem hlt,?_⟩;dsimp only;rw [getD_lt hlt]
 · rename_i h1 h2
   have:=h.2 h1;refine dO ?_;omega
def TOk (T:List R6):Prop:=T.length≤1000000000000∧∀e∈T,0≤e.2.2.2.1∧e.2.2.2.1<8
theorem g6e (T:List R6) (A:List R4) (B:List R3) (r:Int) (hT:TOk T):Df (q6b (T,A,B,r,())) (fun y=>0≤y.1∧y.1<8):=by
 show Df (k0c q7y _) _;unfold k0c;dsimp only;refine dZ (k4m T A B r hT.1) ?_;rintro ⟨a,b,c,d,e,f,u⟩ h;dsimp only at h ⊢;refine dP ?_;rcases h with rfl|⟨e,he,rfl⟩
 · exact ⟨by decide,by decide⟩
 · exact hT.2 e he
theorem f7x (T:List R6) (A:List R4) (B:List R3) (r:Int) (hT:TOk T):Df (y3d (T,A,B,r,())) (fun _=>True):=by
 show Df (k0a q7y _) _;unfold k0a;dsimp only;exact dZ (k4m T A B r hT.1) fun _ _=>dP trivial
theorem d2n (T:List R6) (A:List R4) (B:List R3) (r:Int) (hT:TOk T):Df (z8u (T,A,B,r,())) (fun _=>True):=by
 show Df (k1p q7y _) _;unfold k1p;dsimp only;exact dZ (k4m T A B r hT.1) fun _ _=>dP trivial
theorem g6y (T:List R6) (A:List R4) (B:List R3) (r:Int) (hT:TOk T):Df (j6w (T,A,B,r,())) (fun _=>True):=by
 show Df (k1n q7y _) _;unfold k1n;dsimp only;exact dZ (k4m T A B r hT.1) fun _ _=>dP trivial
theorem d2g (a b c d e:Int):Df (z8s (a,b,c,d,e,())) (fun _=>True):=by
 show Df (k1h _) _;unfold k1h;dsimp only;with_reducible repeat' (first|apply dP|apply dX<;>intro _)
 all_goals trivial
theorem d2f (A:List R4) (r:Int) (hA:A.length≤1000000000000):Df (x9m (A,r,())) (fun y=>y.1<A.length):=by
 show Df (k1g z8s j4m _) _;unfold k1g;dsimp only;refine dZ (P:=Sum.elim (fun _=>True) (fun y=>y.1<A.length)) ?_ ?_
 · refine dL ?I ?m ?h _ ?hv ?hn
   case I=>exact (fun v=>v.1=A∧v.2.1=A.length∧0≤v.2.2.1∧v.2.2.1≤A.length)
   case m=>exact (fun v=>(A.length-v.2.2.1).toNat)
   case hv=>exact ⟨rfl,rfl,by (try dsimp only);omega,by (try dsimp only);omega⟩
   case hn=>exact (by (try dsimp only);omega)
   rintro ⟨x0,x1,x2,x3,u⟩ hI;dsimp only at hI;obtain ⟨rfl,rfl,h0,h1⟩:=hI;unfold z5f;dsimp only;with_reducible repeat' (first|apply dP|apply dX<;>intro _)
   · refine dZ (d2g _ _ _ _ _) ?_
     rintro ⟨m,m',u⟩ -
     dsimp only;rw [qk (n:=x2+1) (by omega)];with_reducible repeat' (first|apply dP|apply dX<;>intro _)
     · exact (by (try dsimp only);omega:x2<x0.length)
     · exact ⟨⟨rfl,rfl,by (try dsimp only);omega,by (try dsimp only);omega⟩,by (try dsimp only);omega⟩
   · refine dO ?_;omega
   · trivial
 · intro s hs
   refine dS hs ?_ ?_
   · rintro ⟨a,u⟩ -
     exact dP (by (try dsimp only);omega)
   · rintro ⟨a,b,u⟩ h
     exact dP h
theorem v3r (T:List R6) (A:List R4) (B:List R3) (r:Int) (hA:A.length≤1000000000000):Df (kh (T,A,B,r,())) (fun _=>True):=by
 show Df (k0t x9m _) _;unfold k0t;dsimp only;refine dZ (d2f A r hA) ?_;rintro ⟨i,b,u⟩ h;dsimp only at h ⊢;with_reducible repeat' (first|apply dP|apply dX<;>intro _)
 all_goals first|trivial|(refine dO ?_;omega)
theorem d0w (a b c d:Int):Df (z8n (a,b,c,d,())) (fun _=>True):=by
 show Df (k0f _) _;unfold k0f;dsimp only;with_reducible repeat' (first|apply dP|apply dX<;>intro _)
 all_goals trivial
theorem d0v (A:List R3) (r:Int) (hA:A.length≤1000000000000):Df (x8q (A,r,())) (fun y=>y.1<A.length):=by
 show Df (k0e z8n j4d _) _;unfold k0e;dsimp only;refine dZ (P:=Sum.elim (fun _=>True) (fun y=>y.1<A.length)) ?_ ?_
 · refine dL ?I ?m ?h _ ?hv ?hn
   case I=>exact (fun v=>v.1=A∧v.2.1=A.length∧0≤v.2.2.1∧v.2.2.1≤A.length)
   case m=>exact (fun v=>(A.length-v.2.2.1).toNat)
   case hv=>exact ⟨rfl,rfl,by (try dsimp only);omega,by (try dsimp only);omega⟩
   case hn=>exact (by (try dsimp only);omega)
   rintro ⟨x0,x1,x2,x3,u⟩ hI;dsimp only at hI;obtain ⟨rfl,rfl,h0,h1⟩:=hI;unfold z4l;dsimp only;with_reducible repeat' (first|apply dP|apply dX<;>intro _)
   · refine dZ (d0w _ _ _ _) ?_
     rintro ⟨m,m',u⟩ -
     dsimp only;rw [qk (n:=x2+1) (by omega)];with_reducible repeat' (first|apply dP|apply dX<;>intro _)
     · exact (by (try dsimp only);omega:x2<x0.length)
     · exact ⟨⟨rfl,rfl,by (try dsimp only);omega,by (try dsimp only);omega⟩,by (try dsimp only);omega⟩
   · refine dO ?_;omega
   · trivial
 · intro s hs
   refine dS hs ?_ ?_
   · rintro ⟨a,u⟩ -
     exact dP (by (try dsimp only);omega)
   · rintro ⟨a,b,u⟩ h
     exact dP h
theorem d0o (T:List R6) (A:List R4) (B:List R3) (r:Int) (hB:B.length≤1000000000000):Df (q2j (T,A,B,r,())) (fun _=>True):=by
 show Df (v9y x8q _) _;unfold v9y;dsimp only;refine dZ (d0v B r hB) ?_;rintro ⟨i,b,u⟩ h;dsimp only at h ⊢;with_reducible repeat' (first|apply dP|apply dX<;>intro _)
 all_goals first|trivial|(refine dO ?_;omega)
theorem f7y (T:List R6) (A:List R4) (B:List R3) (r:Int):Df (yd (T,A,B,r,())) (fun _=>True):=by
 unfold yd;dsimp only;with_reducible repeat' (first|apply dP|apply dX<;>intro _)
 · trivial
 · cases q6y r with
   | none=>exact dP trivial
   | some s=>exact dP trivial
theorem d0p (T:List R6) (A:List R4) (B:List R3) (r:Int):Df (j6o (T,A,B,r,())) (fun _=>True):=by
 show Df (x4q yd _) _;unfold x4q;dsimp only;with_reducible repeat' (first|apply dP|apply dX<;>intro _)
 all_goals first|trivial|exact dZ (f7y T A B r) fun _ _=>dP trivial
theorem d0n (T:List R6) (A:List R4) (B:List R3) (l:List Int) (hl:l.length≤1000000000000):Df (y3c (l,T,A,B,())) (fun y=>y.1.length=l.length):=by
 show Df (x4p j6o q3p _) _;unfold x4p;dsimp only;refine dZ (P:=fun y=>y.1.length=l.length) ?_ (fun _ h=>dP h);refine dL ?I ?m ?h _ ?hv ?hn
 case I=>exact (fun v=>v.2.2.2.1=l∧v.2.2.2.2.1=l.length∧0≤v.2.2.2.2.2.1∧v.2.2.2.2.2.1≤l.length∧v.2.2.2.2.2.2.1.length=v.2.2.2.2.2.1)
 case m=>exact (fun v=>(l.length-v.2.2.2.2.2.1).toNat)
 case hv=>exact ⟨rfl,rfl,by (try dsimp only);omega,by (try dsimp only);omega,rfl⟩
 case hn=>exact (by (try dsimp only);omega)
 rintro ⟨x0,x1,x2,x3,x4,x5,x6,u⟩ hI;dsimp only at hI;obtain ⟨rfl,rfl,h0,h1,h2⟩:=hI;unfold q3x;dsimp only;with_reducible repeat' (first|apply dP|apply dX<;>intro _)
 · refine dZ (d0p _ _ _ _) ?_
   rintro ⟨m,u⟩ -
   dsimp only;rw [qk (n:=x5+1) (by omega)];with_reducible repeat' (first|apply dP|apply dX<;>intro _)
   · exact ⟨⟨rfl,rfl,by (try dsimp only);omega,by (try dsimp only);omega,by simp only [zd];omega⟩,by (try dsimp only);omega⟩
   · refine dO ?_;simp only [List.length_cons,List.length_nil] at *;omega
 · refine dO ?_;omega
 · exact (by (try dsimp only);omega:x6.length=x3.length)
theorem g6d (T:List R6) (A:List R4) (B:List R3) (hB:B.length≤1000000000000) (l:List Int) (hl:l.length≤1000000000000):Df (q1d (l,T,A,B,())) (fun y=>y.1.length=l.length):=by
 show Df (q2r q2j yw _) _;unfold q2r;dsimp only;refine dZ (P:=fun y=>y.1.length=l.length) ?_ (fun _ h=>dP h);refine dL ?I ?m ?h _ ?hv ?hn
 case I=>exact (fun v=>v.2.2.1=B∧v.2.2.2.1=l∧v.2.2.2.2.1=l.length∧0≤v.2.2.2.2.2.1∧v.2.2.2.2.2.1≤l.length∧v.2.2.2.2.2.2.1.length=v.2.2.2.2.2.1)
 case m=>exact (fun v=>(l.length-v.2.2.2.2.2.1).toNat)
 case hv=>exact ⟨rfl,rfl,rfl,by (try dsimp only);omega,by (try dsimp only);omega,rfl⟩
 case hn=>exact (by (try dsimp only);omega)
 rintro ⟨x0,x1,x2,x3,x4,x5,x6,u⟩ hI;dsimp only at hI;obtain ⟨rfl,rfl,rfl,h0,h1,h2⟩:=hI;unfold yx;dsimp only;with_reducible repeat' (first|apply dP|apply dX<;>intro _)
 · refine dZ (d0o _ _ _ _ hB) ?_
   rintro ⟨m,u⟩ -
   dsimp only;rw [qk (n:=x5+1) (by omega)];with_reducible repeat' (first|apply dP|apply dX<;>intro _)
   · exact ⟨⟨rfl,rfl,rfl,by (try dsimp only);omega,by (try dsimp only);omega,by simp only [zd];omega⟩,by (try dsimp only);omega⟩
   · refine dO ?_;simp only [List.length_cons,List.length_nil] at *;omega
 · refine dO ?_;omega
 · exact (by (try dsimp only);omega:x6.length=x3.length)
theorem d0i (T:List R6) (A:List R4) (B:List R3) (l:List Int) (hl:l.length≤1000000000000):Df (y2z (T,A,B,l,())) (fun y=>y.1.length=l.length):=by
 show Df (x4o y3c _) _;unfold x4o;dsimp only;exact dZ (d0n T A B l hl) fun _ h=>dP h
theorem d0h (T:List R6) (A:List R4) (B:List R3) (hB:B.length≤1000000000000) (l:List Int) (hl:l.length≤1000000000000):Df (z8j (T,A,B,l,())) (fun y=>y.1.length=l.length):=by
 show Df (y3q q1d _) _;unfold y3q;dsimp only;exact dZ (g6d T A B hB l hl) fun _ h=>dP h
theorem v3v (a b c:Int):Df (xh (a,b,c,())) (fun _=>True):=by
 show Df (k1i _) _;unfold k1i;dsimp only;with_reducible repeat' (first|apply dP|apply dX<;>intro _)
 all_goals trivial
theorem d2i (a:Int):Df (q0h (a,())) (fun y=>y.1.length≤3):=by
 show Df (k1j _) _;unfold k1j;dsimp only;with_reducible repeat' (first|apply dP|apply dX<;>intro _)
 all_goals (dsimp only;simp)
theorem d2j (a b:List Int) (ha:a.length≤1000000) (hb:b.length≤1000000):Df (wh ([a,b],())) (fun y=>y.1.length=a.length+b.length):=by
 show Df (k1k j9s j4p j4q _) _;unfold k1k;dsimp only;refine dZ (P:=fun y=>y.1=[a,b]∧0≤y.2.1∧y.2.1≤2000000) ?_ ?_
 · refine dL ?I ?m ?h _ ?hv ?hn
   case I=>exact (fun v=>v.1=[a,b]∧v.2.2.1=[a,b]∧v.2.2.2.1=2∧((v.2.2.2.2.1=0∧v.2.1=0)∨(v.2.2.2.2.1=1∧v.2.1=a.length)∨(v.2.2.2.2.1=2∧v.2.1=a.length+b.length)))
   case m=>exact (fun v=>(2-v.2.2.2.2.1).toNat)
   case hv=>exact ⟨rfl,rfl,rfl,.inl ⟨rfl,rfl⟩⟩
   case hn=>exact (by (try dsimp only);omega)
   rintro ⟨x0,x1,x2,x3,x4,u⟩ hI;dsimp only at hI;obtain ⟨rfl,rfl,rfl,hI⟩:=hI;unfold z5j;dsimp only;rcases hI with ⟨rfl,rfl⟩|⟨rfl,rfl⟩|⟨rfl,rfl⟩
   · have e:([a,b]:List (List Int)).getD (0:Int).toNat []=a:=rfl
     rw [e,qk (n:=0+(a.length:Int)) (by omega),qk (n:=(0:Int)+1) (by omega)];with_reducible repeat' (first|apply dP|apply dX<;>intro _)
     all_goals first
      | exact ⟨⟨rfl,rfl,rfl,.inr (.inl ⟨rfl,by (try dsimp only);omega⟩)⟩,by (try dsimp only);omega⟩
      | (refine dO ?_;simp only [List.length_cons,List.length_nil] at *;omega)
      | (exfalso;omega)
   · have e:([a,b]:List (List Int)).getD (1:Int).toNat []=b:=rfl
     rw [e,qk (n:=(a.length:Int)+(b.length:Int)) (by omega),qk (n:=(1:Int)+1) (by omega)];with_reducible repeat' (first|apply dP|apply dX<;>intro _)
     all_goals first
      | exact ⟨⟨rfl,rfl,rfl,.inr (.inr ⟨rfl,rfl⟩)⟩,by (try dsimp only);omega⟩
      | (refine dO ?_;simp only [List.length_cons,List.length_nil] at *;omega)
      | (exfalso;omega)
   · with_reducible repeat' (first|apply dP|apply dX<;>intro _)
     all_goals first
      | exact ⟨rfl,by (try dsimp only);omega,by (try dsimp only);omega⟩
      | (refine dO ?_;simp only [List.length_cons,List.length_nil] at *;omega)
      | (exfalso;omega)
 · rintro ⟨x0,x1,u⟩ hI
   dsimp only at hI ⊢;obtain ⟨rfl,h0,h1⟩:=hI;refine dZ (P:=fun y=>y.1=[]) ?_ ?_
   · unfold j9s
     dsimp only;with_reducible repeat' (first|apply dP|apply dX<;>intro _)
     · rfl
     · refine dO ?_;omega
   rintro ⟨x2,u⟩ hx;dsimp only at hx ⊢;subst hx;refine dZ (P:=fun y=>y.1.length=a.length+b.length) ?_ (fun _ h=>dP h);refine dL ?I ?m ?h _ ?hv ?hn
   case I=>exact (fun v=>v.1=[a,b]∧v.2.1=2∧((v.2.2.1=0∧v.2.2.2.1.length=0)∨(v.2.2.1=1∧v.2.2.2.1.length=a.length)∨(v.2.2.1=2∧v.2.2.2.1.length=a.length+b.length)))
   case m=>exact (fun v=>(2-v.2.2.1).toNat)
   case hv=>exact ⟨rfl,rfl,.inl ⟨rfl,rfl⟩⟩
   case hn=>exact (by (try dsimp only);omega)
   rintro ⟨x0,x1,x2,x3,u⟩ hI;dsimp only at hI;obtain ⟨rfl,rfl,hI⟩:=hI;unfold z5k;dsimp only;rcases hI with ⟨rfl,hx⟩|⟨rfl,hx⟩|⟨rfl,hx⟩
   · have e:([a,b]:List (List Int)).getD (0:Int).toNat []=a:=rfl
     rw [e,qk (n:=(0:Int)+1) (by omega)];with_reducible repeat' (first|apply dP|apply dX<;>intro _)
     all_goals first
      | exact ⟨⟨rfl,rfl,.inr (.inl ⟨rfl,by simp only [List.length_append];omega⟩)⟩,by (try dsimp only);omega⟩
      | (refine dO ?_;simp only [List.length_cons,List.length_nil] at *;omega)
      | (exfalso;omega)
   · have e:([a,b]:List (List Int)).getD (1:Int).toNat []=b:=rfl
     rw [e,qk (n:=(1:Int)+1) (by omega)];with_reducible repeat' (first|apply dP|apply dX<;>intro _)
     all_goals first
      | exact ⟨⟨rfl,rfl,.inr (.inr ⟨rfl,by simp only [List.length_append];omega⟩)⟩,by (try dsimp only);omega⟩
      | (refine dO ?_;simp only [List.length_cons,List.length_nil] at *;omega)
      | (exfalso;omega)
   · with_reducible repeat' (first|apply dP|apply dX<;>intro _)
     all_goals first
      | exact hx
      | (refine dO ?_;simp only [List.length_cons,List.length_nil] at *;omega)
      | (exfalso;omega)
def nxt (r:Int):Option (Int×Int):=bif decide (65281≤r)&&decide (r≤65374) then some (r-65248,0) else (q6y r).map fun s=>(s.2.1,s.2.2.1)
def dep:Nat→Int→Bool
 | 0,_=>false
 | n+1,r=>match nxt r with
  | none=>true
  | some (a,b)=>dep n a&&(b==0||dep n b)
theorem g7h:((List.range 94).all fun n=>dep 4 ((33+n:Nat):Int))=true:=by kernel_rfl
theorem g7i:(qx.all fun s=>dep 4 s.2.1&&(s.2.2.1==0||dep 4 s.2.2.1))=true:=by kernel_rfl
theorem k4r (r:Int):dep 5 r=true:=by
 unfold dep;cases h:nxt r with
 | none=>rfl
 | some p =>
  obtain ⟨a,b⟩:=p;dsimp only;unfold nxt at h;by_cases hw:65281≤r∧r≤65374
  · rw [decide_eq_true hw.1,decide_eq_true hw.2] at h
    simp only [Bool.and_self,cond_true,Option.some.injEq,Prod.mk.injEq] at h;obtain ⟨rfl,rfl⟩:=h;have:=List.all_eq_true.1 g7h (r-65281).toNat (List.mem_range.2 (by omega))
    rw [show (((33+(r-65281).toNat:Nat)):Int)=r-65248 by omega] at this;rw [this];rfl
  · have e:(decide (65281≤r)&&decide (r≤65374))=false:=by simp;omega
    rw [e] at h;simp only [cond_false,Option.map_eq_some_iff] at h;obtain ⟨s,hs,he⟩:=h;have hm:s∈qx:=List.mem_of_find?_eq_some hs;have:=List.all_eq_true.1 g7i s hm;cases he;exact this
theorem f7l (T:List R6) (A:List R4) (B:List R3) (r:Int):Df (yd (T,A,B,r,())) (fun v=>v.2.2.2.2.2.1=false∨nxt r=some (v.2.1,v.2.2.1)):=by
 unfold yd nxt;dsimp only;with_reducible repeat' (first|apply dP|apply dX<;>intro _)
 · rename_i h
   refine .inr ?_;rw [decide_eq_true h.1,decide_eq_true h.2];rfl
 · rename_i h
   have e:(decide (65281≤r)&&decide (r≤65374))=false:=by simp;omega
   rw [e];cases q6y r with
   | none=>exact dP (.inl rfl)
   | some s=>exact dP (.inr rfl)
theorem v3s (G:q6i) (r:Int) (sf b:Bool) (T:List R6) (A:List R4) (B:List R3) (v0 a c:Int) (s o:Bool) (K:Nat) (hK:1≤K)
 (ha:b=false→c=0→Df (G (T,A,B,a,sf,())) (fun y=>y.1.length≤K)) :
 Df (xw yd G xh q0h wh (r,sf,b,T,A,B,v0,a,c,s,o,())) (Sum.elim (fun y=>y.1.length≤K) (fun y=>y=(sf,T,A,B,v0,a,c,s,o,())∧b=false∧c≠0)):=by
 unfold xw;dsimp only;with_reducible repeat' (first|apply dP|apply dX<;>intro _)
 · exact (by simpa using hK:([r]:List Int).length≤K)
 · rename_i h1 h2
   exact dZ (ha h1 h2) fun y hy=>dP hy
 · rename_i h1 h2
   exact ⟨rfl,h1,h2⟩
theorem w8y (T:List R6) (A:List R4) (B:List R3):∀(n m:Nat) (r:Int) (sf:Bool),dep n r=true→n≤9 →
 Df (j2s (fun G=>j9v yd G xh q0h wh (xw yd G xh q0h wh)) (n+m) (T,A,B,r,sf,())) (fun y=>y.1.length≤3*2^n)
 | 0,m,r,sf,h,hn=>by cases h
 | n+1,m,r,sf,h,hn=>by
  rw [show n+1+m=(n+m)+1 by omega];show Df (j9v yd (j2s (fun G=>j9v yd G xh q0h wh (xw yd G xh q0h wh)) (n+m)) xh q0h wh (xw yd (j2s (fun G=>j9v yd G xh q0h wh (xw yd G xh q0h wh)) (n+m)) xh q0h wh) (T,A,B,r,sf,())) _;have ih:=w8y T A B n m;generalize j2s (fun G=>j9v yd G xh q0h wh (xw yd G xh q0h wh)) (n+m)=G at ih ⊢;have hp:3*2^n≤3*2^9:=Nat.mul_le_mul_left 3 (Nat.pow_le_pow_right (by omega) (by omega));have hp1:1≤2^n:=Nat.one_le_two_pow;have hp2:3*2^(n+1)=3*2^n+3*2^n:=by rw [Nat.pow_succ];omega
  generalize 3*2^n=K at ih hp hp2;have hK:3≤K∨True := .inr trivial;rw [hp2];have hK3:3≤K+K:=by
   have:3*2^1≤3*2^(n+1):=Nat.mul_le_mul_left 3 (Nat.pow_le_pow_right (by omega) (by omega));omega
  have ih':∀(r:Int) (sf:Bool),dep n r=true→Df (G (T,A,B,r,sf,())) (fun y=>y.1.length≤K):=fun r sf h=>ih r sf h (by omega);clear ih;unfold j9v;dsimp only;refine dZ (f7l T A B r) ?_;rintro ⟨v0,a,c,s,o,is,u⟩ hv;dsimp only at hv ⊢;refine dZ (v3v _ _ _) ?_;rintro ⟨b,u⟩ -
  dsimp only;have two:is=true→c≠0→∀sf,Df ((G (T,A,B,a,sf,())).bind fun val_2=>(G (T,A,B,c,sf,())).bind fun val=>(wh ([val_2.fst,val.fst],())).bind fun val=>some (val.fst,())) (fun y=>y.1.length≤K+K):=by
   intro his hc sf;rcases hv with rfl|hv
   · cases his
   · unfold dep at h
     rw [hv] at h;simp only [Bool.and_eq_true,Bool.or_eq_true,beq_iff_eq] at h;refine dZ (ih' a sf h.1) ?_;rintro ⟨p,u⟩ hp';refine dZ (ih' c sf (h.2.resolve_left hc)) ?_;rintro ⟨q,u⟩ hq;dsimp only at hp' hq ⊢;refine dZ (d2j p q (by omega) (by omega)) ?_;rintro ⟨z,u⟩ hz;exact dP (by dsimp only at hz ⊢;omega)
  have one:is=true→Df (G (T,A,B,a,sf,())) (fun y=>y.1.length≤K+K):=by
   intro his;rcases hv with rfl|hv
   · cases his
   · unfold dep at h
     rw [hv] at h;simp only [Bool.and_eq_true] at h;exact (ih' a sf h.1).mono fun _ h=>by omega
  with_reducible repeat' (first|apply dP|apply dX<;>intro _)
  · refine dZ (d2i _) ?_
    rintro ⟨l,u⟩ hl;exact dP (by dsimp only at hl ⊢;omega)
  · refine dZ (v3s G r sf true T A B v0 a c s o (K+K) (by omega) (fun h=>by cases h)) ?_
    intro z hz;refine dS hz (fun y hy=>dP hy) ?_;rintro y ⟨-,h,-⟩;cases h
  · rename_i h1 h2 h3
    refine dZ (v3s G r sf (!sf) T A B v0 a c s o (K+K) (by omega) (fun _ _=>one h2)) ?_;intro z hz;refine dS hz (fun y hy=>dP hy) ?_;rintro y ⟨rfl,-,hc⟩;exact two h2 hc sf
  · rename_i h1 h2 h3
    refine dZ (v3s G r sf false T A B v0 a c s o (K+K) (by omega) (fun _ _=>one h2)) ?_;intro z hz;refine dS hz (fun y hy=>dP hy) ?_;rintro y ⟨rfl,-,hc⟩;exact two h2 hc sf
theorem d1u (T:List R6) (A:List R4) (B:List R3) (r:Int) (sf:Bool):Df (z8p (T,A,B,r,sf,())) (fun y=>y.1.length≤96):=by
 obtain ⟨m,hm⟩:∃m,jc=5+m:=⟨jc-5,by unfold jc;omega⟩
 show Df (j2s (fun G=>j9v yd G xh q0h wh (xw yd G xh q0h wh)) jc _) _;rw [hm];exact w8y T A B 5 m r sf (k4r r) (by omega)
theorem d0y (T:List R6) (A:List R4) (B:List R3) (l:List Int) (sf:Bool) (hl:l.length≤100000000000):Df (v8s (T,A,B,l,sf,())) (fun y=>y.1.length≤96*l.length):=by
 show Df (k0g z8p j4e _) _;unfold k0g;dsimp only;refine dZ (P:=fun y=>y.1.length≤96*l.length) ?_ (fun _ h=>dP h);refine dL ?I ?m ?h _ ?hv ?hn
 case I=>exact (fun v=>v.2.1=l∧v.2.2.1=l.length∧0≤v.2.2.2.1∧v.2.2.2.1≤l.length∧v.2.2.2.2.2.2.2.1.length≤96*v.2.2.2.1)
 case m=>exact (fun v=>(l.length-v.2.2.2.1).toNat)
 case hv=>exact ⟨rfl,rfl,by (try dsimp only);omega,by (try dsimp only);omega,by simp⟩
 case hn=>exact (by (try dsimp only);omega)
 rintro ⟨x0,x1,x2,x3,x4,x5,x6,x7,u⟩ hI;dsimp only at hI;obtain ⟨rfl,rfl,h0,h1,h2⟩:=hI;unfold z4o;dsimp only;with_reducible repeat' (first|apply dP|apply dX<;>intro _)
 · refine dZ (d1u _ _ _ _ _) ?_
   rintro ⟨z,u⟩ hz;dsimp only at hz ⊢;rw [qk (n:=x3+1) (by omega)];with_reducible repeat' (first|apply dP|apply dX<;>intro _)
   · exact ⟨⟨rfl,rfl,by (try dsimp only);omega,by (try dsimp only);omega,by simp only [List.length_append];omega⟩,by (try dsimp only);omega⟩
   · refine dO ?_;omega
 · refine dO ?_;omega
 · exact (by (try dsimp only);omega:x7.length≤96*x1.length)
theorem d2k (T:List R6) (A:List R4) (B:List R3) (a b:Int):Df (j3m (T,A,B,a,b,())) (fun _=>True):=by
 unfold j3m;dsimp only;cases y2c a b with
 | none=>exact dP trivial
 | some s=>exact dP trivial
theorem g6r (a b:Int) (f:Bool) (T:List R6) (A:List R4) (B:List R3):Df (q3s (a,b,f,T,A,B,())) (fun _=>True):=by
 show Df (j5e xh j3m _) _;unfold j5e;dsimp only;with_reducible repeat' (first|apply dP|apply dX<;>intro _)
 · trivial
 · refine dZ (v3v _ _ _) ?_
   rintro ⟨z,u⟩ -
   dsimp only;with_reducible repeat' (first|apply dP|apply dX<;>intro _)
   · refine dZ (v3v _ _ _) ?_
     rintro ⟨z,u⟩ -
     dsimp only;with_reducible repeat' (first|apply dP|apply dX<;>intro _)
     all_goals trivial
   all_goals trivial
theorem d1v (T:List R6) (A:List R4) (B:List R3) (a b:Int):Df (j6s (T,A,B,a,b,())) (fun _=>True):=by
 show Df (k0u xh j3m q3s _) _;unfold k0u;dsimp only;have zc:∀f,Df ((q3s (a,b,f,T,A,B,())).bind fun val=>Sum.elim (fun val=>some (val.fst,val.snd.fst,())) (fun val=>(j3m (val.snd.snd.fst,val.snd.snd.snd.fst,val.snd.snd.snd.snd.fst,val.fst,val.snd.fst,())).bind fun val=>some (val.fst,val.snd.fst,())) val) (fun _=>True):=by
  intro f;refine dZ (g6r a b f T A B) ?_;intro z hz;cases z with
  | inl y=>exact dP trivial
  | inr y=>exact dZ (d2k _ _ _ _ _) fun _ _=>dP trivial
 refine dZ (v3v _ _ _) ?_;rintro ⟨z,u⟩ -
 dsimp only;with_reducible repeat' (first|apply dP|apply dX<;>intro _)
 · refine dZ (v3v _ _ _) ?_
   rintro ⟨z,u⟩ -
   exact zc _
 · exact zc _
theorem g6l (x0 x1 x2 x3:Int) (x4:List Int) (x5 x6:Int) (x7:Bool) (x8:List R6) (x9:List R4) (x10:List R3) (x11:List Int) (h:x7=true→0≤x0∧x0<x11.length) :
 Df (q7x (x0,x1,x2,x3,x4,x5,x6,x7,x8,x9,x10,x11,())) (Sum.elim (fun y=>∃l',l'.length=x11.length∧y=(x0,x1,x4,x5,x6,x8,x9,x10,l',())) (fun y=>y=(x0,x1,x2,x3,x4,x5,x6,x8,x9,x10,x11,()))):=by
 show Df (j5a kh j6s _) _;unfold j5a;dsimp only;with_reducible repeat' (first|apply dP|apply dX<;>intro _)
 · refine dZ (d1v _ _ _ _ _) ?_
   rintro ⟨a,b,u⟩ -
   dsimp only;with_reducible repeat' (first|apply dP|apply dX<;>intro _)
   · exact ⟨_,List.length_set,rfl⟩
   · rename_i h1 h2 h3 h4
     exact absurd h2 h4
   · exact rfl
 · rename_i h1 h2
   exact dO (h2 (h h1))
 · exact rfl
theorem d0z (T:List R6) (A:List R4) (B:List R3) (l:List Int) (hl:l.length≤10000000000000) (hA:A.length≤1000000000000):Df (v8t (T,A,B,l,())) (fun y=>y.1.length≤l.length):=by
 show Df (k0h kh j6s j4f _) _;unfold k0h;dsimp only;refine dZ (P:=fun y=>y.1.length≤l.length) ?_ (fun _ h=>dP h);refine dL ?I ?m ?h _ ?hv ?hn
 case I=>exact (fun v=>v.2.2.1=l∧v.2.2.2.1=l.length∧0≤v.2.2.2.2.1∧v.2.2.2.2.1≤l.length∧v.2.2.2.2.2.2.1=A∧v.2.2.2.2.2.2.2.2.1.length≤v.2.2.2.2.1∧v.1<v.2.2.2.2.2.2.2.2.1.length)
 case m=>exact (fun v=>(l.length-v.2.2.2.2.1).toNat)
 case hv=>exact ⟨rfl,rfl,by (try dsimp only);omega,by (try dsimp only);omega,rfl,by simp,by simp⟩
 case hn=>exact (by (try dsimp only);omega)
 rintro ⟨x0,x1,x2,x3,x4,x5,x6,x7,x8,u⟩ hI;dsimp only at hI;obtain ⟨rfl,rfl,h0,h1,rfl,h2,h3⟩:=hI;have zc:∀(cl:Int) (f:Bool),(f=true→0≤x0∧x0<x8.length)→x4<x2.length→Df ((q7x (x0,x1,x2.getD x4.toNat 0,cl,x2,(x2.length:Int),x4,f,x5,x6,x7,x8,())).bind fun val =>
  Sum.elim (fun val=>some (Sum.inl (val.fst,val.snd.fst,val.snd.snd.fst,val.snd.snd.snd.fst,IntKind.i64.wrap (val.snd.snd.snd.snd.fst+1),val.snd.snd.snd.snd.snd.fst,val.snd.snd.snd.snd.snd.snd.fst,val.snd.snd.snd.snd.snd.snd.snd.fst,val.snd.snd.snd.snd.snd.snd.snd.snd.fst,())))
   (fun val=>bif decide (List.length val.snd.snd.snd.snd.snd.snd.snd.snd.snd.snd.fst+[val.snd.snd.fst].length≤140737488355328/4) then
    bif val.snd.snd.snd.fst==0 then some (Sum.inl (IntKind.i64.wrap ((↑(val.snd.snd.snd.snd.snd.snd.snd.snd.snd.snd.fst++[val.snd.snd.fst]).length:Int)-1),0,val.snd.snd.snd.snd.fst,val.snd.snd.snd.snd.snd.fst,IntKind.i64.wrap (val.snd.snd.snd.snd.snd.snd.fst+1),val.snd.snd.snd.snd.snd.snd.snd.fst,val.snd.snd.snd.snd.snd.snd.snd.snd.fst,val.snd.snd.snd.snd.snd.snd.snd.snd.snd.fst,val.snd.snd.snd.snd.snd.snd.snd.snd.snd.snd.fst++[val.snd.snd.fst],()))
    else some (Sum.inl (val.fst,if val.snd.snd.snd.fst>val.snd.fst then val.snd.snd.snd.fst else val.snd.fst,val.snd.snd.snd.snd.fst,val.snd.snd.snd.snd.snd.fst,IntKind.i64.wrap (val.snd.snd.snd.snd.snd.snd.fst+1),val.snd.snd.snd.snd.snd.snd.snd.fst,val.snd.snd.snd.snd.snd.snd.snd.snd.fst,val.snd.snd.snd.snd.snd.snd.snd.snd.snd.fst,val.snd.snd.snd.snd.snd.snd.snd.snd.snd.snd.fst++[val.snd.snd.fst],()))
    else none) val)
  (Sum.elim (fun v':Int×Int×List Int×Int×Int×List R6×List R4×List R3×List Int×Unit=>(v'.2.2.1=x2∧v'.2.2.2.1=(x2.length:Int)∧0≤v'.2.2.2.2.1∧v'.2.2.2.2.1≤x2.length∧v'.2.2.2.2.2.2.1=x6∧v'.2.2.2.2.2.2.2.2.1.length≤v'.2.2.2.2.1∧v'.1<v'.2.2.2.2.2.2.2.2.1.length)∧(x2.length-v'.2.2.2.2.1).toNat<(x2.length-x4).toNat) (fun y:List Int×Unit=>y.1.length≤x2.length)):=by
  intro cl f hf hlt;refine dZ (g6l _ _ _ _ _ _ _ _ _ _ _ _ hf) ?_;intro z hz;refine dS hz ?_ ?_
  · rintro y ⟨l',hl',rfl⟩
    dsimp only;rw [qk (n:=x4+1) (by omega)];exact dP ⟨⟨rfl,rfl,by (try dsimp only);omega,by (try dsimp only);omega,rfl,by (try dsimp only);omega,by (try dsimp only);omega⟩,by (try dsimp only);omega⟩
  · rintro y rfl
    dsimp only;rw [qk (n:=x4+1) (by omega),qk (n:=((x8++[x2.getD x4.toNat 0]).length:Int)-1) (by simp only [zd];omega)];with_reducible repeat' (first|apply dP|apply dX<;>intro _)
    · exact ⟨⟨rfl,rfl,by (try dsimp only);omega,by (try dsimp only);omega,rfl,by simp only [zd];omega,by simp only [zd];omega⟩,by (try dsimp only);omega⟩
    · exact ⟨⟨rfl,rfl,by (try dsimp only);omega,by (try dsimp only);omega,rfl,by simp only [zd];omega,by simp only [zd];omega⟩,by (try dsimp only);omega⟩
    · refine dO ?_;simp only [List.length_cons,List.length_nil] at *;omega
 unfold z4p;dsimp only;with_reducible repeat' (first|apply dP|apply dX<;>intro _)
 · rename_i h4 h5
   refine dZ (v3r _ _ _ _ hA) ?_;rintro ⟨cl,u⟩ -
   dsimp only;with_reducible repeat' (first|apply dP|apply dX<;>intro _)
   · exact zc _ _ (fun _=>by omega) (by omega)
   · exact zc _ _ (fun _=>by omega) (by omega)
   · exact zc _ _ (fun h=>by cases h) (by omega)
 · refine dO ?_;omega
 · exact (by (try dsimp only);omega:x8.length≤x2.length)
theorem g6u (a b:Int):Df (q2m (a,b,())) (fun y=>1≤y.1∧y.1≤26):=by
 show Df (k1e _) _;unfold k1e;dsimp only;refine dP ?_;dsimp only;generalize IntKind.i64.wrap (a-b)=n;split<;>split<;>omega
theorem g6v (a:Int) (b:Bool):Df (q8e (a,b,())) (fun _=>True):=by
 show Df (j5f _) _;unfold j5f;dsimp only;with_reducible repeat' (first|apply dP|apply dX<;>intro _)
 all_goals trivial
theorem k4o (a:Int):Df (z3h (a,())) (fun _=>True):=by
 show Df (k1f q8e _) _;unfold k1f;dsimp only;with_reducible repeat' (first|apply dP|apply dX<;>intro _)
 all_goals (refine dZ (g6v _ _) ?_;intro z hz;cases z<;>exact dP trivial)
theorem g6m (n b k:Int) (out:List UInt8) (j:Nat) (h0:0≤n) (h1:n<10^j) (hb:out.length+j≤100000000000000) (hn:n≤100000000000000) :
 Df (q3r (n,b,k,out,())) (fun y=>y.1.length≤out.length+j+1):=by
 refine dL ?I ?m ?h _ ?hv ?hn
 case I=>exact (fun v=>∃j':Nat,0≤v.1∧v.1<10^j'∧v.1≤n∧v.2.2.2.1.length+j'≤out.length+j)
 case m=>exact (fun v=>v.1.toNat)
 case hv=>exact ⟨j,h0,h1,Int.le_refl _,Nat.le_refl _⟩
 case hn=>exact (by (try dsimp only);omega)
 rintro ⟨x0,x1,x2,x3,u⟩ hI;dsimp only at hI;obtain ⟨j',i0,i1,i2,i3⟩:=hI;unfold j5b;dsimp only;refine dZ (g6u _ _) ?_;rintro ⟨t,u⟩ ht;dsimp only at ht ⊢;with_reducible repeat' (first|apply dP|apply dX<;>intro _)
 · refine dZ (k4o _) ?_
   rintro ⟨d,d',u⟩ -
   dsimp only;with_reducible repeat' (first|apply dP|apply dX<;>intro _)
   · exact (by simp only [zd];omega:(x3++[_]).length≤out.length+j+1)
   · refine dO ?_;simp only [List.length_cons,List.length_nil] at *;omega
 · rename_i hge hne
   refine dZ (k4o _) ?_;rintro ⟨d,d',u⟩ -
   dsimp only;rw [qk (n:=36-t) (by omega)] at hne ⊢;rw [qk (n:=x0-t) (by omega),Int.tdiv_eq_ediv_of_nonneg (by omega)];have q0:0≤(x0-t)/(36-t):=Int.ediv_nonneg (by omega) (by omega);have q1:(x0-t)/(36-t)*(36-t)≤x0-t:=Int.ediv_mul_le _ (by omega);have q2:(x0-t)/(36-t)*10≤(x0-t)/(36-t)*(36-t):=Int.mul_le_mul_of_nonneg_left (by omega) q0;generalize (x0-t)/(36-t)=q at q0 q1 q2 ⊢;rw [qk (n:=q) (by omega)];with_reducible repeat' (first|apply dP|apply dX<;>intro _)
   · obtain ⟨i,rfl⟩:∃i,j'=i+1:=by
      cases j' with
      | zero=>simp at i1;omega
      | succ i=>exact ⟨i,rfl⟩
     rw [Int.pow_succ] at i1;generalize hP:(10:Int)^i=P at i1;refine ⟨⟨i,q0,?_,?_,?_⟩,?_⟩
     · show q<10^i
       rw [hP];omega
     · dsimp only;omega
     · simp only [zd];omega
     · dsimp only;omega
   · rename_i hz
     exact absurd hz hne
   · refine dO ?_;simp only [List.length_cons,List.length_nil] at *;omega
 · rename_i hge hne
   rw [qk (n:=36-t) (by omega)] at hne;refine dO ?_;omega
theorem d1d (n b:Int) (out:List UInt8) (h0:0≤n) (h1:n<10^13) (hb:out.length≤90000000000000) :
 Df (q6d (n,b,out,())) (fun y=>y.1.length≤out.length+14):=by
 show Df (k0p q2m z3h q3r _) _;unfold k0p;dsimp only;refine dZ (g6u _ _) ?_;rintro ⟨t,u⟩ ht;dsimp only at ht ⊢;have h13:(10:Int)^13=10000000000000:=rfl;have h12:(10:Int)^12=1000000000000:=rfl;rw [h13] at h1;with_reducible repeat' (first|apply dP|apply dX<;>intro _)
 · refine dZ (k4o _) ?_
   rintro ⟨d,d',u⟩ -
   dsimp only;with_reducible repeat' (first|apply dP|apply dX<;>intro _)
   · exact (by simp only [zd];omega:(out++[_]).length≤out.length+14)
   · refine dO ?_;simp only [List.length_cons,List.length_nil] at *;omega
 · rename_i hge hne
   refine dZ (k4o _) ?_;rintro ⟨d,d',u⟩ -
   dsimp only;rw [qk (n:=36-t) (by omega)] at hne ⊢;rw [qk (n:=n-t) (by omega),Int.tdiv_eq_ediv_of_nonneg (by omega)];have q0:0≤(n-t)/(36-t):=Int.ediv_nonneg (by omega) (by omega);have q1:(n-t)/(36-t)*(36-t)≤n-t:=Int.ediv_mul_le _ (by omega);have q2:(n-t)/(36-t)*10≤(n-t)/(36-t)*(36-t):=Int.mul_le_mul_of_nonneg_left (by omega) q0;generalize (n-t)/(36-t)=q at q0 q1 q2 ⊢;rw [qk (n:=q) (by omega)];with_reducible repeat' (first|apply dP|apply dX<;>intro _)
   · refine dZ (g6m q b _ (out++[UInt8.ofNat (Int.toNat d)]) 12 q0 (by rw [h12];omega) (by simp only [zd];omega) (by omega)) ?_
     rintro ⟨y,u⟩ hy;simp only [zd] at hy;exact dP (by (try dsimp only);omega)
   · rename_i hz
     exact absurd hz hne
   · refine dO ?_;simp only [List.length_cons,List.length_nil] at *;omega
 · rename_i hge hne
   rw [qk (n:=36-t) (by omega)] at hne;refine dO ?_;omega
theorem g6n (a b:Int) (h0:0≤a) (h1:a≤100000000000000000):Df (q8a (a,b,())) (fun y=>0≤y.1∧y.1≤455):=by
 refine dL ?I ?m ?h _ ?hv ?hn
 case I=>exact (fun v=>0≤v.1∧v.1≤100000000000000000)
 case m=>exact (fun v=>v.1.toNat)
 case hv=>exact ⟨h0,h1⟩
 case hn=>exact (by (try dsimp only);omega)
 rintro ⟨x0,x1,u⟩ hI;dsimp only at hI;unfold z4t;dsimp only;with_reducible repeat' (first|apply dP|apply dX<;>intro _)
 · rw [Int.tdiv_eq_ediv_of_nonneg (by omega),qk (n:=x0/35) (by omega)]
   exact ⟨⟨by (try dsimp only);omega,by (try dsimp only);omega⟩,by (try dsimp only);omega⟩
 · exact ⟨by (try dsimp only);omega,by (try dsimp only);omega⟩
theorem v3q (a c:Int) (h0:0≤a) (h1:a≤10000000000000000):Df (q7z (a,c,())) (fun _=>True):=by
 show Df (j5c q8a _) _;unfold j5c;dsimp only;have hm:1≤(if c>1 then c else 1):=by split<;>omega
 generalize (if c>1 then c else 1)=m at hm;have q0:0≤a/m:=Int.ediv_nonneg h0 (by omega);have q1:a/m≤a:=Int.ediv_le_self _ h0;rw [Int.tdiv_eq_ediv_of_nonneg h0,qk (n:=a/m) (by omega),qk (n:=a+a/m) (by omega)];with_reducible repeat' (first|apply dP|apply dX<;>intro _)
 · refine dZ (g6n _ _ (by omega) (by omega)) ?_
   rintro ⟨x,y,u⟩ h;dsimp only at h ⊢;rw [qk (n:=x+38) (by omega)];with_reducible repeat' (first|apply dP|apply dX<;>intro _)
   · trivial
   · refine dO ?_;omega
 · refine dO ?_;omega
theorem f8c (a c:Int) (f:Bool) (h0:0≤a) (h1:a≤10000000000000000):Df (wg (a,c,f,())) (fun _=>True):=by
 show Df (k0q q7z _) _;unfold k0q;dsimp only;rw [Int.tdiv_eq_ediv_of_nonneg h0,Int.tdiv_eq_ediv_of_nonneg h0,qk (n:=a/700) (by omega),qk (n:=a/2) (by omega)];with_reducible repeat' (first|apply dP|apply dX<;>intro _)
 · exact dZ (v3q _ _ (by omega) (by omega)) fun _ _=>dP trivial
 · exact dZ (v3q _ _ (by omega) (by omega)) fun _ _=>dP trivial
def cnt (n:Int) (l:List Int):Nat:=l.countP fun r=>decide (r<n)
def ceq (n:Int) (l:List Int):Nat:=l.countP fun r=>decide (r=n)
theorem j8h (n:Int) (l:List Int):cnt n l≤l.length:=List.countP_le_length
theorem y0i (n:Int):∀l:List Int,cnt (n+1) l=cnt n l+ceq n l
 | []=>rfl
 | x::l=>by
  have ih:=y0i n l;unfold cnt ceq at *
  simp only [List.countP_cons,decide_eq_true_eq];split<;>split<;>split<;>omega
theorem y0h {n m:Int} (h:n≤m):∀{l:List Int},(∀r∈l,n≤r→m≤r)→cnt m l=cnt n l
 | [],_=>rfl
 | x::l,hl=>by
  have ih:=y0h (l:=l) h fun r hr=>hl r (List.mem_cons_of_mem _ hr);have hx:=hl x List.mem_cons_self;unfold cnt at *
  simp only [List.countP_cons,decide_eq_true_eq];split<;>split<;>omega
theorem x2b {n:Int}:∀{l:List Int},(∀r∈l,r<n)→cnt n l=l.length
 | [],_=>rfl
 | x::l,hl=>by
  have ih:=x2b (l:=l) fun r hr=>hl r (List.mem_cons_of_mem _ hr);have hx:=hl x List.mem_cons_self;unfold cnt at *
  simp only [List.countP_cons,List.length_cons,decide_eq_true_eq,hx,if_true];omega
theorem x2a {n:Int}:∀{l:List Int},n∈l→1≤ceq n l
 | x::l,h=>by
  unfold ceq;simp only [List.countP_cons,decide_eq_true_eq];rcases List.mem_cons.1 h with rfl|h
  · simp
  · have:=x2a h
    unfold ceq at this;omega
theorem j8e {n:Int} {l:List Int} {i:Nat} (h:i<l.length):ceq n (l.take (i+1))=ceq n (l.take i)+if l[i]=n then 1 else 0:=by
 unfold ceq;rw [je h,List.countP_append];simp [List.countP_cons]
theorem v3i {n:Int} {l:List Int} {i:Nat} (h:i<l.length):cnt n (l.take (i+1))=cnt n (l.take i)+if l[i]<n then 1 else 0:=by
 unfold cnt;rw [je h,List.countP_append];simp [List.countP_cons]
theorem y0g (n:Int) (l:List Int) (i:Nat):ceq n (l.take i)≤ceq n l:=by
 unfold ceq;exact (List.take_sublist i l).countP_le
theorem d1c (l:List Int) (n:Int) (hn:0≤n) (hl:l.length≤1000000000000):Df (q6c (l,n,())) (fun y=>(y.1<0∧∀r∈l,r<n)∨(y.1∈l∧n≤y.1∧∀r∈l,n≤r→y.1≤r)):=by
 show Df (k0o j4g _) _;unfold k0o;dsimp only;refine dZ (P:=fun y=>(y.1<0∧∀r∈l,r<n)∨(y.1∈l∧n≤y.1∧∀r∈l,n≤r→y.1≤r)) ?_ (fun _ h=>dP h);refine dL ?I ?m ?h _ ?hv ?hn
 case I=>exact (fun v=>v.1=n∧v.2.2.1=l∧v.2.2.2.1=l.length∧0≤v.2.2.2.2.1∧v.2.2.2.2.1≤l.length∧((v.2.1<0∧∀r∈l.take v.2.2.2.2.1.toNat,r<n)∨(v.2.1∈l∧n≤v.2.1∧∀r∈l.take v.2.2.2.2.1.toNat,n≤r→v.2.1≤r)))
 case m=>exact (fun v=>(l.length-v.2.2.2.2.1).toNat)
 case hv=>exact ⟨rfl,rfl,rfl,by (try dsimp only);omega,by (try dsimp only);omega,.inl ⟨by (try dsimp only);omega,by simp⟩⟩
 case hn=>exact (by (try dsimp only);omega)
 rintro ⟨x0,x1,x2,x3,x4,u⟩ hI;dsimp only at hI;obtain ⟨rfl,rfl,rfl,h0,h1,hI⟩:=hI;unfold z4s;dsimp only;with_reducible repeat' (first|apply dP|apply dX<;>intro _)
 all_goals try rw [qk (n:=x4+1) (by omega)]
 · rename_i a1 a2 a3 a4
   have hlt:x4.toNat<x2.length:=by omega
   rw [getD_lt hlt] at a3 ⊢;refine ⟨⟨rfl,rfl,rfl,by (try dsimp only);omega,by (try dsimp only);omega,.inr ⟨List.getElem_mem hlt,a3,?_⟩⟩,by (try dsimp only);omega⟩;dsimp only;intro r hr hge;rw [show (x4+1).toNat=x4.toNat+1 by omega,je hlt] at hr;rcases List.mem_append.1 hr with hr|hr
   · rcases hI with ⟨_,hI⟩|⟨_,hx,_⟩
     · have:=hI r hr;omega
     · omega
   · rw [List.mem_singleton] at hr;omega
 · rename_i a1 a2 a3 a4 a5
   have hlt:x4.toNat<x2.length:=by omega
   rw [getD_lt hlt] at a3 a5 ⊢;refine ⟨⟨rfl,rfl,rfl,by (try dsimp only);omega,by (try dsimp only);omega,.inr ⟨List.getElem_mem hlt,a3,?_⟩⟩,by (try dsimp only);omega⟩;dsimp only;intro r hr hge;rw [show (x4+1).toNat=x4.toNat+1 by omega,je hlt] at hr;rcases List.mem_append.1 hr with hr|hr
   · rcases hI with ⟨hx,_⟩|⟨_,hx,hI⟩
     · omega
     · have:=hI r hr hge;omega
   · rw [List.mem_singleton] at hr;omega
 · rename_i a1 a2 a3 a4 a5
   have hlt:x4.toNat<x2.length:=by omega
   rw [getD_lt hlt] at a3 a5;refine ⟨⟨rfl,rfl,rfl,by (try dsimp only);omega,by (try dsimp only);omega,?_⟩,by (try dsimp only);omega⟩;dsimp only;rcases hI with ⟨hx,_⟩|⟨hm,hx,hI⟩
   · omega
   · refine .inr ⟨hm,hx,fun r hr hge => ?_⟩
     rw [show (x4+1).toNat=x4.toNat+1 by omega,je hlt] at hr;rcases List.mem_append.1 hr with hr|hr
     · exact hI r hr hge
     · rw [List.mem_singleton] at hr;omega
 · rename_i a1 a2 a3
   have hlt:x4.toNat<x2.length:=by omega
   rw [getD_lt hlt] at a3;refine ⟨⟨rfl,rfl,rfl,by (try dsimp only);omega,by (try dsimp only);omega,?_⟩,by (try dsimp only);omega⟩;dsimp only;rcases hI with ⟨hx,hI⟩|⟨hm,hx,hI⟩
   · refine .inl ⟨hx,fun r hr => ?_⟩
     rw [show (x4+1).toNat=x4.toNat+1 by omega,je hlt] at hr;rcases List.mem_append.1 hr with hr|hr
     · exact hI r hr
     · rw [List.mem_singleton] at hr;omega
   · refine .inr ⟨hm,hx,fun r hr hge => ?_⟩
     rw [show (x4+1).toNat=x4.toNat+1 by omega,je hlt] at hr;rcases List.mem_append.1 hr with hr|hr
     · exact hI r hr hge
     · rw [List.mem_singleton] at hr;omega
 · refine dO ?_;omega
 · rw [List.take_of_length_le (by omega)] at hI
   exact hI
theorem g6g (l:List Int) (hl:l.length≤1000000000000):Df (q7u (l,l,(l.length:Int),0,[],())) (Sum.elim (fun y=>y.1=l∧(∀r∈l,0≤r∧r≤1114111)∧y.2.1.length=cnt 128 l) (fun y=>y.1=[])):=by
 refine dL ?I ?m ?h _ ?hv ?hn
 case I=>exact (fun v=>v.1=l∧v.2.1=l∧v.2.2.1=l.length∧0≤v.2.2.2.1∧v.2.2.2.1≤l.length∧(∀r∈l.take v.2.2.2.1.toNat,0≤r∧r≤1114111)∧v.2.2.2.2.1.length=cnt 128 (l.take v.2.2.2.1.toNat))
 case m=>exact (fun v=>(l.length-v.2.2.2.1).toNat)
 case hv=>exact ⟨rfl,rfl,rfl,by (try dsimp only);omega,by (try dsimp only);omega,by simp,rfl⟩
 case hn=>exact (by (try dsimp only);omega)
 rintro ⟨x0,x1,x2,x3,x4,u⟩ hI;dsimp only at hI;obtain ⟨rfl,rfl,rfl,h0,h1,h2,h3⟩:=hI;unfold z4g;dsimp only;with_reducible repeat' (first|apply dP|apply dX<;>intro _)
 · refine dZ (g6a _) ?_
   rintro ⟨b,u⟩ hb;dsimp only at hb ⊢;have hlt:x3.toNat<x1.length:=by omega
   have hc:=j8h 128 (x1.take x3.toNat);rw [List.length_take] at hc;have hr:b=true→∀r∈x1.take (x3.toNat+1),0≤r∧r≤1114111:=by
    intro hbt r hr;rw [je hlt] at hr;rcases List.mem_append.1 hr with hr|hr
    · exact h2 r hr
    · rw [List.mem_singleton] at hr
      have:=hb hbt;rw [getD_lt hlt] at this;subst hr;exact this
   have hct:=v3i (n:=128) hlt;have hs:(x3+1).toNat=x3.toNat+1:=by omega
   rw [qk (n:=x3+1) (by omega)];with_reducible repeat' (first|apply dP|apply dX<;>intro _)
   · exact rfl
   · rename_i hbt hlow _
     rw [getD_lt hlt] at hlow;rw [if_pos hlow] at hct;exact ⟨⟨rfl,rfl,rfl,by (try dsimp only);omega,by (try dsimp only);omega,by dsimp only;rw [hs];exact hr hbt,by dsimp only;rw [hs,List.length_append,hct,h3];rfl⟩,by (try dsimp only);omega⟩
   · refine dO ?_;simp only [List.length_cons,List.length_nil] at *;omega
   · rename_i hbt hlow
     rw [getD_lt hlt] at hlow;rw [if_neg hlow] at hct;exact ⟨⟨rfl,rfl,rfl,by (try dsimp only);omega,by (try dsimp only);omega,by dsimp only;rw [hs];exact hr hbt,by dsimp only;rw [hs,hct,h3];rfl⟩,by (try dsimp only);omega⟩
 · refine dO ?_;omega
 · rw [List.take_of_length_le (by omega)] at h2 h3
   exact ⟨rfl,h2,h3⟩
theorem g6h (l:List Int) (p m delta bias h:Int) (out:List UInt8) (hl:l.length≤1000000000000) (hh:h=cnt m l) (hd:0≤delta∧delta≤2147483647) (ho:out.length≤l.length+1+14*cnt m l) :
 Df (j4b (l,p,m,delta,bias,h,l,(l.length:Int),0,out,())) (fun y=>y.1=l∧y.2.1=p∧y.2.2.1=m∧0≤y.2.2.2.1∧y.2.2.2.1≤2147483647+l.length∧y.2.2.2.2.2.1=cnt m l+ceq m l∧y.2.2.2.2.2.2.1.length≤l.length+1+14*(cnt m l+ceq m l)):=by
 refine dL ?I ?m ?h _ ?hv ?hn
 case I=>exact (fun v=>v.1=l∧v.2.1=p∧v.2.2.1=m∧0≤v.2.2.2.1∧v.2.2.2.1≤2147483647+v.2.2.2.2.2.2.2.2.1∧v.2.2.2.2.2.1=cnt m l+ceq m (l.take v.2.2.2.2.2.2.2.2.1.toNat)∧v.2.2.2.2.2.2.1=l∧v.2.2.2.2.2.2.2.1=l.length∧0≤v.2.2.2.2.2.2.2.2.1∧v.2.2.2.2.2.2.2.2.1≤l.length∧v.2.2.2.2.2.2.2.2.2.1.length≤l.length+1+14*(cnt m l+ceq m (l.take v.2.2.2.2.2.2.2.2.1.toNat)))
 case m=>exact (fun v=>(l.length-v.2.2.2.2.2.2.2.2.1).toNat)
 case hv=>exact ⟨rfl,rfl,rfl,hd.1,by (try dsimp only);omega,by dsimp only;rw [hh];simp [ceq],rfl,rfl,by (try dsimp only);omega,by (try dsimp only);omega,by dsimp only;simpa [ceq] using ho⟩
 case hn=>exact (by (try dsimp only);omega)
 rintro ⟨x0,x1,x2,x3,x4,x5,x6,x7,x8,x9,u⟩ hI;dsimp only at hI;obtain ⟨rfl,rfl,rfl,h0,h1,rfl,rfl,rfl,h2,h3,h4⟩:=hI;have c1:=j8h x2 x6;have c2:=y0g x2 x6 x8.toNat
 have c3:ceq x2 x6≤x6.length:=List.countP_le_length;unfold z4h;dsimp only;with_reducible repeat' (first|apply dP|apply dX<;>intro _)
 all_goals try rw [qk (n:=x8+1) (by omega)]
 · rename_i a1 a2 a3
   have hlt:x8.toNat<x6.length:=by omega
   have hct:=j8e (n:=x2) hlt;have hs:(x8+1).toNat=x8.toNat+1:=by omega
   rw [getD_lt hlt] at a3;rw [if_neg (by omega)] at hct;rw [qk (n:=x3+1) (by omega)];refine ⟨⟨rfl,rfl,rfl,by (try dsimp only);omega,by (try dsimp only);omega,?_,rfl,rfl,by (try dsimp only);omega,by (try dsimp only);omega,?_⟩,by (try dsimp only);omega⟩
   · dsimp only;rw [hs,hct];simp
   · dsimp only;rw [hs,hct];omega
 · rename_i a1 a2 a3 a4
   have hlt:x8.toNat<x6.length:=by omega
   have hct:=j8e (n:=x2) hlt;have hs:(x8+1).toNat=x8.toNat+1:=by omega
   rw [getD_lt hlt] at a3 a4;rw [if_pos a4] at hct;refine dZ (d1d _ _ _ h0 (by rw [show (10:Int)^13=10000000000000 from rfl];omega) (by omega)) ?_;rintro ⟨y,u⟩ hy;dsimp only at hy ⊢;rw [qk (n:=((cnt x2 x6:Int)+(ceq x2 (x6.take x8.toNat):Int))+1) (by omega)];refine dZ (f8c _ _ _ h0 (by omega)) ?_;rintro ⟨z,u⟩ -
   dsimp only;refine dP ⟨⟨rfl,rfl,rfl,by (try dsimp only);omega,by (try dsimp only);omega,?_,rfl,rfl,by (try dsimp only);omega,by (try dsimp only);omega,?_⟩,by (try dsimp only);omega⟩
   · dsimp only;rw [hs,hct];simp;omega
   · dsimp only;rw [hs,hct];omega
 · rename_i a1 a2 a3 a4
   have hlt:x8.toNat<x6.length:=by omega
   have hct:=j8e (n:=x2) hlt;have hs:(x8+1).toNat=x8.toNat+1:=by omega
   rw [getD_lt hlt] at a3 a4;rw [if_neg a4] at hct;refine ⟨⟨rfl,rfl,rfl,by (try dsimp only);omega,by (try dsimp only);omega,?_,rfl,rfl,by (try dsimp only);omega,by (try dsimp only);omega,?_⟩,by (try dsimp only);omega⟩
   · dsimp only;rw [hs,hct];simp
   · dsimp only;rw [hs,hct];omega
 · refine dO ?_;omega
 · rw [List.take_of_length_le (by omega)] at h4 ⊢
   exact ⟨rfl,rfl,rfl,by (try dsimp only);omega,by (try dsimp only);omega,rfl,h4⟩
theorem g6i (l:List Int) (out:List UInt8) (hl:l.length≤1000000000000) (hr:∀r∈l,0≤r∧r≤1114111) (ho:out.length≤l.length+1) :
 Df (q7v (l,(cnt 128 l:Int),128,0,72,(cnt 128 l:Int),out,())) (Sum.elim (fun y=>y.1.length≤15*l.length+1) (fun y=>y.1=[])):=by
 refine dL ?I ?m ?h _ ?hv ?hn
 case I=>exact (fun v=>v.1=l∧128≤v.2.2.1∧v.2.2.1≤1114112∧0≤v.2.2.2.1∧v.2.2.2.1≤2147483648+l.length∧v.2.2.2.2.2.1=cnt v.2.2.1 l∧v.2.2.2.2.2.2.1.length≤l.length+1+14*cnt v.2.2.1 l)
 case m=>exact (fun v=>l.length-cnt v.2.2.1 l)
 case hv=>exact ⟨rfl,by (try dsimp only);omega,by (try dsimp only);omega,by (try dsimp only);omega,by (try dsimp only);omega,rfl,by (try dsimp only);omega⟩
 case hn=>exact (by (try dsimp only);omega)
 rintro ⟨x0,x1,x2,x3,x4,x5,x6,u⟩ hI;dsimp only at hI;obtain ⟨rfl,h0,h1,h2,h3,rfl,h4⟩:=hI;have c1:=j8h x2 x0;unfold z4i;dsimp only;with_reducible repeat' (first|apply dP|apply dX<;>intro _)
 · rename_i hlt
   refine dZ (d1c x0 x2 (by omega) hl) ?_;rintro ⟨m,u⟩ hm;dsimp only at hm ⊢;rcases hm with ⟨_,hm⟩|⟨hm,hnm,hmin⟩
   · have:=x2b hm
     omega
   · have hm2:=hr m hm
     have hp0:0≤(m-x2)*((cnt x2 x0:Int)+1):=Int.mul_nonneg (by omega) (by omega);have hp1:(m-x2)*((cnt x2 x0:Int)+1)≤1114111*((cnt x2 x0:Int)+1):=Int.mul_le_mul_of_nonneg_right (by omega) (by omega);rw [b4g (n:=m-x2) (by omega),qk (n:=m-x2) (by omega),qk (n:=(cnt x2 x0:Int)+1) (by omega)];generalize (m-x2)*((cnt x2 x0:Int)+1)=P at hp0 hp1 ⊢;rw [qk (n:=P) (by omega),qk (n:=x3+P) (by omega)];have hsame:=y0h hnm hmin;have hpos:=x2a hm;have hsucc:=y0i m x0;have c4:=j8h (m+1) x0;with_reducible repeat' (first|apply dP|apply dX<;>intro _)
     · exact rfl
     · refine dZ (g6h x0 x1 m (x3+P) x4 _ x6 hl (by rw [hsame]) (by omega) (by omega)) ?_
       rintro ⟨y0,y1,y2,y3,y4,y5,y6,u⟩ hy;dsimp only at hy ⊢;obtain ⟨rfl,rfl,rfl,k0,k1,rfl,k2⟩:=hy;rw [b4g (n:=y2+1) (by omega),qk (n:=y3+1) (by omega)];refine dP ⟨⟨rfl,by (try dsimp only);omega,by (try dsimp only);omega,by (try dsimp only);omega,by (try dsimp only);omega,?_,?_⟩,?_⟩
       · dsimp only;rw [hsucc];simp
       · dsimp only;rw [hsucc];exact k2
       · dsimp only;omega
 · exact (by (try dsimp only);omega:x6.length≤15*x0.length+1)
theorem g6f (l:List Int) (hl:l.length≤1000000000000):Df (x4f (l,())) (fun y=>y.1.length≤15*l.length+1):=by
 show Df (k0d xg q6c q6d wg q7t q7u _) _;unfold k0d;dsimp only;refine dZ (g6g l hl) ?_;intro z hz;refine dS hz ?_ ?_
 · rintro ⟨x0,x1,u⟩ hx
   dsimp only at hx ⊢;obtain ⟨rfl,hr,hc⟩:=hx;have c0:=j8h 128 x0;have zc:∀out:List UInt8,out.length≤x0.length+1→Df ((q7t (x0,(x1.length:Int),out,())).bind fun val=>some (val.fst,val.snd.fst,())) (fun y=>y.1.length≤15*x0.length+1):=by
    intro out ho;refine dZ (P:=fun y=>y.1.length≤15*x0.length+1) ?_ (fun _ h=>dP h);show Df (j4z xg q6c q6d wg q7v _) _;unfold j4z;dsimp only;rw [hc];refine dZ (g6i x0 out hl hr ho) ?_;intro z hz;refine dS hz ?_ ?_
    · rintro ⟨y,u⟩ hy;exact dP hy
    · rintro ⟨y,b,u⟩ hy
      dsimp only at hy;subst hy;exact dP (by simp)
   with_reducible repeat' (first|apply dP|apply dX<;>intro _)
   · exact zc _ (by simp only [zd];omega)
   · refine dO ?_;simp only [List.length_cons,List.length_nil] at *;omega
   · exact zc _ (by omega)
 · rintro ⟨y,b,u⟩ hy
   dsimp only at hy;subst hy;exact dP (by simp)
structure TK (T:List R6) (A:List R4) (B:List R3):Prop where
 t:TOk T
 a:A.length≤1000000000000
 b:B.length≤1000000000000
section
variable {T:List R6} {A:List R4} {B:List R3}
theorem y4u (l:List Int) (p n:Int) (hp:0≤p∧p≤1000000000000000) (hn : -1000000000000001≤n∧n≤1000000000000001):Df (q0n (T,A,B,l,p,n,())) (fun y=>y.1≥0→0≤p+n∧p+n<l.length):=by
 show Df (k1l _) _;unfold k1l;dsimp only;rw [qk (n:=p+n) (by omega)];with_reducible repeat' (first|apply dP|apply dX<;>intro _)
 · intro h;dsimp only at h;omega
 · intro h;dsimp only at h;omega
 · intro h;omega
 · refine dO ?_;omega
theorem f8e (h:TK T A B) (l:List Int) (p:Int) (hp:0≤p∧p≤1000000000000000):Df (z8q (T,A,B,l,p,())) (fun _=>True):=by
 show Df (k0w kh q0n _) _;unfold k0w;dsimp only;refine dZ (y4u l p (-1) hp (by omega)) ?_;rintro ⟨x,u⟩ -
 exact dZ (v3r T A B _ h.a) fun _ _=>dP trivial
theorem f8g (h:TK T A B) (l:List Int) (p s:Int) (hp:0≤p∧p<l.length) (hl:l.length≤1000000000000) (hs:s=1∨s = -1):Df (x9o (T,A,B,l,p,s,())) (fun _=>True):=by
 show Df (k1m q0n z8u j4r _) _;unfold k1m;dsimp only;refine dZ (P:=fun _=>True) ?_ ?_
 · refine dL ?I ?m ?h _ ?hv ?hn
   case I=>exact (fun v=>v.1=s∧v.2.2.1=T∧v.2.2.2.2.2.1=l∧v.2.2.2.2.2.2.1=p ∧ -1≤p+v.2.1∧p+v.2.1≤l.length)
   case m=>exact (fun v=>(bif s==1 then (l.length-(p+v.2.1)) else p+v.2.1+1).toNat)
   case hv=>exact ⟨rfl,rfl,rfl,rfl,by (try dsimp only);omega,by (try dsimp only);omega⟩
   case hn=>exact (by rcases hs with rfl|rfl<;>simp<;>omega)
   rintro ⟨x0,x1,x2,x3,x4,x5,x6,u⟩ hI;dsimp only at hI;obtain ⟨rfl,rfl,rfl,rfl,h0,h1⟩:=hI;unfold z5l;dsimp only;refine dZ (y4u x5 x6 x1 (by omega) (by omega)) ?_;rintro ⟨c,u⟩ hc;dsimp only at hc ⊢;with_reducible repeat' (first|apply dP|apply dX<;>intro _)
   · rename_i hge
     have hc':=hc hge;refine dZ (y4u x5 x6 x1 (by omega) (by omega)) ?_;rintro ⟨c,u⟩ -
     dsimp only;refine dZ (d2n x2 _ _ _ h.t) ?_;rintro ⟨j,u⟩ -
     dsimp only;rw [qk (n:=x1+x0) (by omega)];with_reducible repeat' (first|apply dP|apply dX<;>intro _)
     · trivial
     · refine ⟨⟨rfl,rfl,rfl,rfl,by (try dsimp only);omega,by (try dsimp only);omega⟩,?_⟩
       rcases hs with rfl|rfl
       · simp only [show ((1:Int)==1)=true from rfl,cond_true];omega
       · simp only [show ((-1:Int)==1)=false from rfl,cond_false];omega
   · trivial
 · intro z hz
   cases z<;>exact dP trivial
theorem d1x (h:TK T A B) (l:List Int) (p:Int) (hp:0≤p∧p<l.length) (hl:l.length≤1000000000000):Df (x9f (T,A,B,l,p,())) (fun _=>True):=by
 show Df (k0x z8q x9o _) _;unfold k0x;dsimp only;refine dZ (f8g h l p 1 hp hl (.inl rfl)) ?_;rintro ⟨x,u⟩ -
 refine dZ (f8e h l p (by omega)) ?_;rintro ⟨y,u⟩ -
 dsimp only;with_reducible repeat' (first|apply dP|apply dX<;>intro _)
 · trivial
 · refine dZ (f8g h l p (-1) hp hl (.inr rfl)) ?_
   rintro ⟨x,u⟩ -
   dsimp only;with_reducible repeat' (first|apply dP|apply dX<;>intro _)
   all_goals trivial
theorem d1y (l:List Int) (p:Int) (hp:0≤p∧p≤1000000000000000):Df (x9g (T,A,B,l,p,())) (fun _=>True):=by
 show Df (k0y q0n _) _;unfold k0y;dsimp only;refine dZ (y4u l p (-1) hp (by omega)) ?_;rintro ⟨x,u⟩ -
 dsimp only;with_reducible repeat' (first|apply dP|apply dX<;>intro _)
 · exact dZ (y4u l p 1 hp (by omega)) fun _ _=>dP trivial
 · trivial
theorem d1z (h:TK T A B) (l:List Int) (p:Int) (hp:0≤p∧p≤1000000000000000):Df (x9h (T,A,B,l,p,())) (fun _=>True):=by
 show Df (k0z q0n j6w _) _;unfold k0z;dsimp only;refine dZ (y4u l p 1 hp (by omega)) ?_;rintro ⟨x,u⟩ -
 exact dZ (g6y T A B _ h.t) fun _ _=>dP trivial
theorem d2a (h:TK T A B) (l:List Int) (p:Int) (hp:0≤p∧p≤1000000000000000):Df (x9i (T,A,B,l,p,())) (fun _=>True):=by
 show Df (k1a q0n j6w _) _;unfold k1a;dsimp only;refine dZ (y4u l p (-1) hp (by omega)) ?_;rintro ⟨x,u⟩ -
 exact dZ (g6y T A B _ h.t) fun _ _=>dP trivial
theorem f8a (x:Int):Df (j6p (x,())) (fun _=>True):=by
 show Df (k0i _) _;unfold k0i;dsimp only;with_reducible repeat' (first|apply dP|apply dX<;>intro _)
 all_goals trivial
theorem f8b (x:Int):Df (j6q (x,())) (fun _=>True):=by
 show Df (k0l _) _;unfold k0l;dsimp only;with_reducible repeat' (first|apply dP|apply dX<;>intro _)
 all_goals trivial
theorem d1w (l:List Int) (hl:l.length≤1000000000000):Df (x9e (l,())) (fun _=>True):=by
 show Df (k0v j6q j4k _) _;unfold k0v;dsimp only;refine dZ (P:=fun _=>True) ?_ (fun z _=>by cases z<;>exact dP trivial);refine dL ?I ?m ?h _ ?hv ?hn
 case I=>exact (fun v=>v.1=l∧v.2.1=l.length∧0≤v.2.2.1∧v.2.2.1≤l.length)
 case m=>exact (fun v=>(l.length-v.2.2.1).toNat)
 case hv=>exact ⟨rfl,rfl,by (try dsimp only);omega,by (try dsimp only);omega⟩
 case hn=>exact (by (try dsimp only);omega)
 rintro ⟨x0,x1,x2,u⟩ hI;dsimp only at hI;obtain ⟨rfl,rfl,h0,h1⟩:=hI;unfold z4y;dsimp only;with_reducible repeat' (first|apply dP|apply dX<;>intro _)
 · refine dZ (f8b _) ?_
   rintro ⟨b,u⟩ -
   dsimp only;rw [qk (n:=x2+1) (by omega)];with_reducible repeat' (first|apply dP|apply dX<;>intro _)
   · trivial
   · exact ⟨⟨rfl,rfl,by (try dsimp only);omega,by (try dsimp only);omega⟩,by (try dsimp only);omega⟩
 · refine dO ?_;omega
 · trivial
theorem g6s (l:List Int) (hl:l.length≤1000000000000):Df (j6t (l,())) (fun _=>True):=by
 show Df (z4z j6p q3t _) _;unfold z4z;dsimp only;refine dZ (P:=fun _=>True) ?_ (fun z _=>by cases z<;>exact dP trivial);refine dL ?I ?m ?h _ ?hv ?hn
 case I=>exact (fun v=>v.1=l∧v.2.1=l.length∧0≤v.2.2.1∧v.2.2.1≤l.length)
 case m=>exact (fun v=>(l.length-v.2.2.1).toNat)
 case hv=>exact ⟨rfl,rfl,by (try dsimp only);omega,by (try dsimp only);omega⟩
 case hn=>exact (by (try dsimp only);omega)
 rintro ⟨x0,x1,x2,u⟩ hI;dsimp only at hI;obtain ⟨rfl,rfl,h0,h1⟩:=hI;unfold j1s;dsimp only;with_reducible repeat' (first|apply dP|apply dX<;>intro _)
 · refine dZ (f8a _) ?_
   rintro ⟨b,u⟩ -
   dsimp only;rw [qk (n:=x2+1) (by omega)];with_reducible repeat' (first|apply dP|apply dX<;>intro _)
   · trivial
   · exact ⟨⟨rfl,rfl,by (try dsimp only);omega,by (try dsimp only);omega⟩,by (try dsimp only);omega⟩
 · refine dO ?_;omega
 · trivial
theorem d1a (l:List Int) (p:Int) (hl:l.length≤1000000000000):Df (x8s (T,A,B,l,p,())) (fun _=>True):=by
 show Df (k0j v8u _) _;unfold k0j;dsimp only;refine dZ (P:=fun _=>True) ?_ (fun _ _=>dP trivial);show Df (k0k x9e _) _;unfold k0k;dsimp only;exact dZ (d1w l hl) fun _ _=>dP trivial
theorem d1b (l:List Int) (p:Int) (hl:l.length≤1000000000000):Df (x8t (T,A,B,l,p,())) (fun _=>True):=by
 show Df (k0m z3d _) _;unfold k0m;dsimp only;refine dZ (P:=fun _=>True) ?_ (fun _ _=>dP trivial);show Df (z4q j6t _) _;unfold z4q;dsimp only;exact dZ (g6s l hl) fun _ _=>dP trivial
theorem d2l (h:TK T A B) (r:Int) (l:List Int) (p:Int):Df (z8t (r,T,A,B,l,p,())) (fun y=>y.2=(T,A,B,l,p,())):=by
 show Df (k1o j6w _) _;unfold k1o;dsimp only;refine dZ (g6y T A B _ h.t) ?_;rintro ⟨x,u⟩ -
 dsimp only;with_reducible repeat' (first|apply dP|apply dX<;>intro _)
 all_goals rfl
theorem g6t (h:TK T A B) (l:List Int) (l':List Int) (p:Int) (hl:l.length≤1000000000000):Df (j6u (l,T,A,B,l',p,())) (fun _=>True):=by
 show Df (z5a z8t q3u _) _;unfold z5a;dsimp only;refine dZ (P:=fun _=>True) ?_ (fun z _=>by cases z<;>exact dP trivial);refine dL ?I ?m ?h _ ?hv ?hn
 case I=>exact (fun v=>v.1=l∧v.2.1=l.length∧0≤v.2.2.1∧v.2.2.1≤l.length∧v.2.2.2=(T,A,B,l',p,()))
 case m=>exact (fun v=>(l.length-v.2.2.1).toNat)
 case hv=>exact ⟨rfl,rfl,by (try dsimp only);omega,by (try dsimp only);omega,rfl⟩
 case hn=>exact (by (try dsimp only);omega)
 rintro ⟨x0,x1,x2,x3,x4,x5,x6,x7,u⟩ hI;dsimp only at hI;obtain ⟨rfl,rfl,h0,h1,h2⟩:=hI;simp only [Prod.mk.injEq] at h2;obtain ⟨rfl,rfl,rfl,rfl,rfl,-⟩:=h2;unfold j1t;dsimp only;with_reducible repeat' (first|apply dP|apply dX<;>intro _)
 · refine dZ (d2l h _ _ _) ?_
   rintro ⟨b,y1,y2,y3,y4,y5,u⟩ hy;simp only [Prod.mk.injEq] at hy;obtain ⟨rfl,rfl,rfl,rfl,rfl,-⟩:=hy;dsimp only;rw [qk (n:=x2+1) (by omega)];with_reducible repeat' (first|apply dP|apply dX<;>intro _)
   · trivial
   · exact ⟨⟨rfl,rfl,by (try dsimp only);omega,by (try dsimp only);omega,rfl⟩,by (try dsimp only);omega⟩
 · refine dO ?_;omega
 · trivial
theorem d2b (h:TK T A B) (l:List Int) (p:Int) (hl:l.length≤1000000000000):Df (x9j (T,A,B,l,p,())) (fun _=>True):=by
 show Df (k1b z3e _) _;unfold k1b;dsimp only;refine dZ (P:=fun _=>True) ?_ (fun _ _=>dP trivial);show Df (z4r j6u _) _;unfold z4r;dsimp only;exact dZ (g6t h l l p hl) fun _ _=>dP trivial
theorem d0r (x:Int):Df (x8m (x,())) (fun _=>True):=by
 show Df (v9z j6p j6q v8v _) _;unfold v9z;dsimp only;refine dZ (f8a x) ?_;rintro ⟨b,u⟩ -
 dsimp only;with_reducible repeat' (first|apply dP|apply dX<;>intro _)
 · trivial
 · refine dZ (f8b x) ?_
   rintro ⟨b,u⟩ -
   dsimp only;with_reducible repeat' (first|apply dP|apply dX<;>intro _)
   · trivial
   · refine dZ (P:=fun _=>True) ⟨(),rfl,trivial⟩ ?_
     intro u _;with_reducible repeat' (first|apply dP|apply dX<;>intro _)
     all_goals trivial
theorem d0j (h:TK T A B) (l:List Int) (p:Int) (hl:l.length≤1000000000000) (hp:p≤1000000000000):Df (z8k (T,A,B,l,p,())) (fun _=>True):=by
 show Df (v9u x8m x8s x8t z8q x9f x9g x9h x9i x9j _) _;unfold v9u;dsimp only;have zc:∀{x:Option (Bool×Unit)},Df x (fun _=>True)→Df (x.bind fun val=>bif val.fst then some ((1:Int),()) else some (2,())) (fun _=>True):=by
  intro x hx;refine dZ hx ?_;rintro ⟨b,u⟩ -
  dsimp only;with_reducible repeat' (first|apply dP|apply dX<;>intro _)
  all_goals trivial
 with_reducible repeat' (first|apply dP|apply dX<;>intro _)
 · trivial
 · trivial
 · refine dZ (d0r _) ?_
   intro z _;rcases z with z|z|z|z|z|z|z|z|z
   · exact zc (d1a l p hl)
   · exact zc (d1b l p hl)
   · exact zc (f8e h l p (by omega))
   · exact zc (d1x h l p (by omega) hl)
   · exact zc (d1y l p (by omega))
   · exact zc (d1z h l p (by omega))
   · exact zc (d2a h l p (by omega))
   · exact zc (d2b h l p hl)
   · exact dP trivial
 · refine dO ?_;omega
theorem d0s (h:TK T A B) (r:Int):Df (z8l (T,A,B,r,())) (fun _=>True):=by
 show Df (k0b y3d yd _) _;unfold k0b;dsimp only;refine dZ (f7y T A B r) ?_;rintro ⟨v0,a,c,s,o,is,u⟩ -
 dsimp only;with_reducible repeat' (first|apply dP|apply dX<;>intro _)
 all_goals first
  | trivial
  | (refine dZ (f7x T A B r h.t) ?_;rintro ⟨x,u⟩ -;dsimp only;(repeat' (first|apply dP|(apply dG<;>intro _)));all_goals trivial)
theorem d1l (h:TK T A B) (l:List Int) (hl:l.length≤1000000000000):Df (x9a (T,A,B,l,())) (fun _=>True):=by
 show Df (k0s z8k z8l j4h _) _;unfold k0s;dsimp only;refine dZ (P:=fun _=>True) ?_ (fun z _=>by cases z<;>exact dP trivial);refine dL ?I ?m ?h _ ?hv ?hn
 case I=>exact (fun v=>v.1=l∧v.2.1=l∧v.2.2.1=l.length∧0≤v.2.2.2.1∧v.2.2.2.1≤l.length∧v.2.2.2.2=(T,A,B,()))
 case m=>exact (fun v=>(l.length-v.2.2.2.1).toNat)
 case hv=>exact ⟨rfl,rfl,rfl,by (try dsimp only);omega,by (try dsimp only);omega,rfl⟩
 case hn=>exact (by (try dsimp only);omega)
 rintro ⟨x0,x1,x2,x3,x4,x5,x6,u⟩ hI;dsimp only at hI;obtain ⟨rfl,rfl,rfl,h0,h1,h2⟩:=hI;simp only [Prod.mk.injEq] at h2;obtain ⟨rfl,rfl,rfl,-⟩:=h2;unfold z4u;dsimp only;with_reducible repeat' (first|apply dP|apply dX<;>intro _)
 · refine dZ (d0j h _ _ hl (by omega)) ?_
   rintro ⟨b,u⟩ -
   dsimp only;rw [qk (n:=x3+1) (by omega)];with_reducible repeat' (first|apply dP|apply dX<;>intro _)
   · trivial
   · refine dZ (d0s h _) ?_
     rintro ⟨b,u⟩ -
     dsimp only;with_reducible repeat' (first|apply dP|apply dX<;>intro _)
     · trivial
     · exact ⟨⟨rfl,rfl,rfl,by (try dsimp only);omega,by (try dsimp only);omega,rfl⟩,by (try dsimp only);omega⟩
   · exact ⟨⟨rfl,rfl,rfl,by (try dsimp only);omega,by (try dsimp only);omega,rfl⟩,by (try dsimp only);omega⟩
 · refine dO ?_;omega
 · trivial
theorem d1k (h:TK T A B) (l:List Int) (hl:l.length≤1000000000000):Df (v8w (T,A,B,l,())) (fun y=>y.2=(T,A,B,l,())):=by
 show Df (k0r x9a _) _;unfold k0r;dsimp only;exact dZ (d1l h l hl) fun _ _=>dP rfl
theorem f7v (h:TK T A B) (l:List Int) (hl:l.length≤1000000000000):Df (q7s (T,A,B,l,())) (fun _=>True):=by
 show Df (v9v q6b j4a _) _;unfold v9v;dsimp only;refine dZ (P:=fun y=>y.1.length=8∧y.2.1.length=8) ?_ ?_
 · refine dL ?I ?m ?h _ ?hv ?hn
   case I=>exact (fun v=>v.1=l∧v.2.1=l.length∧0≤v.2.2.1∧v.2.2.1≤l.length∧v.2.2.2.1=T∧v.2.2.2.2.2.2.1.length=8∧v.2.2.2.2.2.2.2.1.length=8)
   case m=>exact (fun v=>(l.length-v.2.2.1).toNat)
   case hv=>exact ⟨rfl,rfl,by (try dsimp only);omega,by (try dsimp only);omega,rfl,rfl,rfl⟩
   case hn=>exact (by (try dsimp only);omega)
   rintro ⟨x0,x1,x2,x3,x4,x5,x6,x7,u⟩ hI;dsimp only at hI;obtain ⟨rfl,rfl,h0,h1,rfl,h2,h3⟩:=hI;unfold z4d;dsimp only;with_reducible repeat' (first|apply dP|apply dX<;>intro _)
   · refine dZ (g6e x3 _ _ _ h.t) ?_
     rintro ⟨b,u⟩ hb;dsimp only at hb ⊢;rw [qk (n:=x2+1) (by omega)];with_reducible repeat' (first|apply dP|apply dX<;>intro _)
     all_goals first
      | exact ⟨⟨rfl,rfl,by (try dsimp only);omega,by (try dsimp only);omega,rfl,h2,by simp only [List.length_set];omega⟩,by (try dsimp only);omega⟩
      | (refine dO ?_;omega)
   · refine dO ?_;omega
   · exact ⟨h2,h3⟩
 · rintro ⟨x0,x1,u⟩ hx
   dsimp only at hx ⊢;with_reducible repeat' (first|apply dP|apply dX<;>intro _)
   all_goals first|trivial|(refine dO ?_;omega)
theorem f7t (h:TK T A B) (l:List Int) (hl:l.length≤1000000000000):Df (j1j (T,A,B,l,())) (fun _=>True):=by
 show Df (v9q q7s _) _;unfold v9q;dsimp only;exact dZ (f7v h l hl) fun _ _=>dP trivial
theorem d0l (h:TK T A B) (l:List Int):Df (j6m (T,A,B,l,())) (fun _=>True):=by
 show Df (v9w q6b _) _;unfold v9w;dsimp only;with_reducible repeat' (first|apply dP|apply dX<;>intro _)
 · trivial
 · refine dZ (g6e T A B _ h.t) ?_
   rintro ⟨b,u⟩ -
   dsimp only;with_reducible repeat' (first|apply dP|apply dX<;>intro _)
   all_goals trivial
 · refine dO ?_;omega
theorem g5z (x:Bool) (y:Bool) (z:List Int) (hz:z.length=8):Df (q7o (x,y,z,())) (fun _=>True):=by
 show Df (j4w j1j q7s j3l j6m _) _;unfold j4w;dsimp only;with_reducible repeat' (first|apply dP|apply dX<;>intro _)
 all_goals first|trivial|(refine dO ?_;omega)|(rename_i h1 h2;exact absurd (show Int.toNat 1<z.length by rw [hz];decide) h2)
theorem v3o (x:Int) (y:Bool) (z:List Int) (hz:z.length=8):Df (j3y (x,y,z,())) (fun _=>True):=by
 show Df (j4x j1j q7s j3l j6m q7o _) _;unfold j4x;dsimp only;with_reducible repeat' (first|apply dP|apply dX<;>intro _)
 all_goals exact dZ (g5z _ _ z hz) fun _ _=>dP trivial
end
section
variable {T:List R6} {A:List R4} {B:List R3}
theorem k4n (hA:A.length≤1000000000000) (a b:Int):Df (zr (a,b,T,A,B,())) (fun y=>y.2=(T,A,B,())):=by
 unfold zr g3e;dsimp only;refine dZ (v3r T A B _ hA) ?_;rintro ⟨x,u⟩ -
 exact dZ (v3r T A B _ hA) fun _ _=>dP rfl
theorem g6z (o n:Nat) (a b i j:Int) (row:List Int) (hj:1≤j∧j<n) (hn:n≤100000000000000) :
 Df (q8h (((o:Int),(n:Int)),a,b,i,j,row,T,A,B,())) (fun y=>∃(r':List Int),r'.length=row.length∧y=(((o:Int),(n:Int)),a,b,i,j-1,r',T,A,B,())):=by
 unfold q8h z5m;dsimp only;simp only [Int.toNat_natCast];rw [qk (n:=j-1) (by omega)];with_reducible repeat' (first|apply dP|apply dX<;>intro _)
 · exact ⟨_,by simp only [List.length_set],rfl⟩
 all_goals (refine dO ?_;omega)
theorem g7a (hA:A.length≤1000000000000) (o n:Nat) (a b i j:Int) (row:List Int) (ha:0≤a) (hj:a≤j∧j<n) (hn:n≤100000000000000) :
 Df (j4s (((o:Int),(n:Int)),a,b,i,j,row,T,A,B,())) (fun y=>∃(r':List Int),r'.length=row.length∧y=(((o:Int),(n:Int)),a,b,i,r',T,A,B,())):=by
 refine dL ?I ?m ?h _ ?hv ?hn
 case I=>exact (fun v=>∃(j':Int) (r':List Int),a≤j'∧j'<n∧r'.length=row.length∧v=(((o:Int),(n:Int)),a,b,i,j',r',T,A,B,()))
 case m=>exact (fun v=>(v.2.2.2.2.1-a).toNat)
 case hv=>exact ⟨j,row,hj.1,hj.2,rfl,rfl⟩
 case hn=>exact (by (try dsimp only);omega)
 rintro v ⟨j',r',h1,h2,h3,rfl⟩;unfold z5n;dsimp only;simp only [Int.toNat_natCast];rw [qk (n:=j'-1) (by omega)];with_reducible repeat' (first|apply dP|apply dX<;>intro _)
 · refine dZ (k4n hA _ _) ?_
   rintro ⟨c,t,a',b',u⟩ hc;simp only [Prod.mk.injEq] at hc;obtain ⟨rfl,rfl,rfl,-⟩:=hc;dsimp only;with_reducible repeat' (first|apply dP|apply dX<;>intro _)
   · refine dZ (g6z o n a b i j' r' (by omega) hn) ?_
     rintro y ⟨r2,h4,rfl⟩;dsimp only;simp only [Int.toNat_natCast];exact dP ⟨⟨_,_,by omega,by omega,h4.trans h3,rfl⟩,by (try dsimp only);omega⟩
   · exact ⟨_,h3,rfl⟩
 · refine dO ?_;omega
 · refine dO ?_;omega
 · exact ⟨_,h3,rfl⟩
theorem f8h (hA:A.length≤1000000000000) (o n:Nat) (a b:Int) (row:List Int) (ha:0≤a∧a≤n) (hb:b≤n) (hn:n≤100000000000000) :
 Df (j3n (((o:Int),(n:Int)),a,b,row,T,A,B,())) (fun y=>∃(r':List Int),r'.length=row.length∧y=(r',T,A,B,())):=by
 unfold j3n g3k;dsimp only;simp only [Int.toNat_natCast];rw [qk (n:=a+1) (by omega)];refine dZ (P:=fun y=>∃(r':List Int),r'.length=row.length∧y=(r',T,A,B,())) ?_ ?_
 · refine dL ?I ?m ?h _ ?hv ?hn
   case I=>exact (fun v=>∃(i:Int) (r':List Int),a+1≤i∧r'.length=row.length∧v=(((o:Int),(n:Int)),a,b,i,r',T,A,B,()))
   case m=>exact (fun v=>(b-v.2.2.2.1).toNat)
   case hv=>exact ⟨a+1,row,Int.le_refl _,rfl,rfl⟩
   case hn=>exact (by (try dsimp only);omega)
   rintro v ⟨i,r',h1,h2,rfl⟩;unfold z5o;dsimp only;simp only [Int.toNat_natCast];with_reducible repeat' (first|apply dP|apply dX<;>intro _)
   · refine dZ (g7a hA o n a b i i r' ha.1 (by omega) hn) ?_
     rintro y ⟨r2,h4,rfl⟩;dsimp only;simp only [Int.toNat_natCast];rw [qk (n:=i+1) (by omega)];exact dP ⟨⟨_,_,by omega,h4.trans h2,rfl⟩,by (try dsimp only);omega⟩
   · exact ⟨_,h2,rfl⟩
 · rintro y ⟨r',h,rfl⟩
   exact dP ⟨_,h,rfl⟩
theorem g7g (o n:Nat) (a b k:Int) (row:List Int) (ha:0≤a∧a+k≤n) (hb:0≤b∧b+k≤n) (hn:n≤100000000000000) :
 Df (z8v (((o:Int),(n:Int)),a,b,k,row,T,A,B,())) (fun y=>∃(r':List Int),r'.length=row.length∧y=(r',T,A,B,())):=by
 unfold z8v g3m;dsimp only;simp only [Int.toNat_natCast];refine dZ (P:=fun y=>∃(r':List Int),r'.length=row.length∧y=(r',T,A,B,())) ?_ ?_
 · refine dL ?I ?m ?h _ ?hv ?hn
   case I=>exact (fun v=>∃(i:Int) (r':List Int),0≤i∧r'.length=row.length∧v=(((o:Int),(n:Int)),a,b,k,i,r',T,A,B,()))
   case m=>exact (fun v=>(k-v.2.2.2.2.1).toNat)
   case hv=>exact ⟨0,row,Int.le_refl _,rfl,rfl⟩
   case hn=>exact (by (try dsimp only);omega)
   rintro v ⟨i,r',h1,h2,rfl⟩;unfold z5q;dsimp only;simp only [Int.toNat_natCast];by_cases hlt:i<k
   · rw [qk (n:=a+i) (by omega),qk (n:=b+i) (by omega),qk (n:=i+1) (by omega)]
     with_reducible repeat' (first|apply dP|apply dX<;>intro _)
     · exact ⟨⟨_,_,by omega,by simp only [List.length_set];exact h2,rfl⟩,by (try dsimp only);omega⟩
     all_goals first|(refine dO ?_;omega)|(exfalso;omega)
   · rw [decide_eq_false hlt]
     exact dP ⟨_,h2,rfl⟩
 · rintro y ⟨r',h,rfl⟩
   exact dP ⟨_,h,rfl⟩
theorem d2o (o n:Nat) (a m b:Int) (row:List Int) (ha:0≤a∧a<m) (hb:m<b∧b≤n) (hn:n≤100000000000000) :
 Df (yn (((o:Int),(n:Int)),a,m,b,row,T,A,B,())) (fun y=>∃(r':List Int),r'.length=row.length∧y=(r',T,A,B,())):=by
 unfold yn g3l;dsimp only;simp only [Int.toNat_natCast];rw [qk (n:=m-a) (by omega),qk (n:=b-m) (by omega)];refine dZ (P:=fun y=>∃(i:Int) (r':List Int),0≤i∧i≤m-a∧m+i≤n∧r'.length=row.length∧y=(((o:Int),(n:Int)),m,i,r',T,A,B,())) ?_ ?_
 · refine dL ?I ?m ?h _ ?hv ?hn
   case I=>exact (fun v=>∃(i:Int) (j:Int) (r':List Int),0<i∧0<j∧i≤m-a∧j≤b-m∧r'.length=row.length∧v=(((o:Int),(n:Int)),m,i,j,r',T,A,B,()))
   case m=>exact (fun v=>(v.2.2.1+v.2.2.2.1).toNat)
   case hv=>exact ⟨m-a,b-m,row,by omega,by omega,Int.le_refl _,Int.le_refl _,rfl,rfl⟩
   case hn=>exact (by (try dsimp only);omega)
   rintro v ⟨i,j,r',h1,h2,h3,h4,h5,rfl⟩;unfold z5p;dsimp only;simp only [Int.toNat_natCast];rw [qk (n:=m-i) (by omega),qk (n:=i-j) (by omega),qk (n:=j-i) (by omega),qk (n:=m+j) (by omega),qk (n:=m+j-i) (by omega)];with_reducible repeat' (first|apply dP|apply dX<;>intro _)
   · refine dZ (g7g o n (m-i) m j r' (by omega) (by omega) hn) ?_
     rintro y ⟨r2,h6,rfl⟩;dsimp only;exact dP ⟨⟨_,_,_,by omega,by omega,by omega,by omega,h6.trans h5,rfl⟩,by (try dsimp only);omega⟩
   · refine dZ (g7g o n (m-i) (m+j-i) i r' (by omega) (by omega) hn) ?_
     rintro y ⟨r2,h6,rfl⟩;dsimp only;exact dP ⟨⟨_,_,_,by omega,by omega,by omega,by omega,h6.trans h5,rfl⟩,by (try dsimp only);omega⟩
   · exact ⟨_,_,by omega,by omega,by omega,h5,rfl⟩
 · rintro y ⟨i,r',h1,h2,h3,h4,rfl⟩
   dsimp only;simp only [Int.toNat_natCast];rw [qk (n:=m-i) (by omega)];refine dZ (g7g o n (m-i) m i r' (by omega) (by omega) hn) ?_;rintro y ⟨r2,h6,rfl⟩;exact dP ⟨_,h6.trans h4,rfl⟩
theorem g7b (G:jr) (hA:A.length≤1000000000000) (o n:Nat) (a i j:Int) (row:List Int) (ha:0≤a∧a<n) (hi:0≤i∧i≤j) (hj:j≤n) (hn:n≤100000000000000) :
 Df (wt G (((o:Int),(n:Int)),a,i,j,row,T,A,B,())) (fun y=>∃(i':Int),i≤i'∧i'≤j∧y=(((o:Int),(n:Int)),a,i',row,T,A,B,())):=by
 refine dL ?I ?m ?h _ ?hv ?hn
 case I=>exact (fun v=>∃(i':Int) (j':Int),i≤i'∧i'≤j'∧j'≤j∧v=(((o:Int),(n:Int)),a,i',j',row,T,A,B,()))
 case m=>exact (fun v=>(v.2.2.2.1-v.2.2.1).toNat)
 case hv=>exact ⟨i,j,Int.le_refl _,hi.2,Int.le_refl _,rfl⟩
 case hn=>exact (by (try dsimp only);omega)
 rintro v ⟨i',j',h1,h2,h3,rfl⟩;unfold j5j;dsimp only;simp only [Int.toNat_natCast];rw [v6f (by omega) (by omega) (by omega),qk (n:=(i'+j')/2+1) (by omega)];with_reducible repeat' (first|apply dP|apply dX<;>intro _)
 · refine dZ (k4n hA _ _) ?_
   rintro ⟨c,t,a',b',u⟩ hc;simp only [Prod.mk.injEq] at hc;obtain ⟨rfl,rfl,rfl,-⟩:=hc;dsimp only;with_reducible repeat' (first|apply dP|apply dX<;>intro _)
   · exact ⟨⟨_,_,by omega,by omega,by omega,rfl⟩,by (try dsimp only);omega⟩
   · exact ⟨⟨_,_,by omega,by omega,by omega,rfl⟩,by (try dsimp only);omega⟩
 · refine dO ?_;omega
 · refine dO ?_;omega
 · exact ⟨_,by omega,by omega,rfl⟩
theorem g7d (G:jr) (hA:A.length≤1000000000000) (o n:Nat) (a i j:Int) (row:List Int) (ha:0≤a∧a<n) (hi:0≤i∧i≤j) (hj:j≤n) (hn:n≤100000000000000) :
 Df (wv G (((o:Int),(n:Int)),a,i,j,row,T,A,B,())) (fun y=>∃(i':Int),i≤i'∧i'≤j∧y=(((o:Int),(n:Int)),a,i',row,T,A,B,())):=by
 refine dL ?I ?m ?h _ ?hv ?hn
 case I=>exact (fun v=>∃(i':Int) (j':Int),i≤i'∧i'≤j'∧j'≤j∧v=(((o:Int),(n:Int)),a,i',j',row,T,A,B,()))
 case m=>exact (fun v=>(v.2.2.2.1-v.2.2.1).toNat)
 case hv=>exact ⟨i,j,Int.le_refl _,hi.2,Int.le_refl _,rfl⟩
 case hn=>exact (by (try dsimp only);omega)
 rintro v ⟨i',j',h1,h2,h3,rfl⟩;unfold j5l;dsimp only;simp only [Int.toNat_natCast];rw [v6f (by omega) (by omega) (by omega),qk (n:=(i'+j')/2+1) (by omega)];with_reducible repeat' (first|apply dP|apply dX<;>intro _)
 · refine dZ (k4n hA _ _) ?_
   rintro ⟨c,t,a',b',u⟩ hc;simp only [Prod.mk.injEq] at hc;obtain ⟨rfl,rfl,rfl,-⟩:=hc;dsimp only;with_reducible repeat' (first|apply dP|apply dX<;>intro _)
   · exact ⟨⟨_,_,by omega,by omega,by omega,rfl⟩,by (try dsimp only);omega⟩
   · exact ⟨⟨_,_,by omega,by omega,by omega,rfl⟩,by (try dsimp only);omega⟩
 · refine dO ?_;omega
 · refine dO ?_;omega
 · exact ⟨_,by omega,by omega,rfl⟩
theorem g7c (G:jr) (o n:Nat) (i k:Int) (row:List Int) (hk:0≤k) (hi:i≤n) (hn:n≤100000000000000) (hi0:0≤i) :
 Df (wu G (((o:Int),(n:Int)),i,k,row,T,A,B,())) (fun y=>∃(r':List Int),r'.length=row.length∧y=(r',T,A,B,())):=by
 refine dL ?I ?m ?h _ ?hv ?hn
 case I=>exact (fun v=>∃(k':Int) (r':List Int),0≤k'∧r'.length=row.length∧v=(((o:Int),(n:Int)),i,k',r',T,A,B,()))
 case m=>exact (fun v=>(i-v.2.2.1).toNat)
 case hv=>exact ⟨k,row,hk,rfl,rfl⟩
 case hn=>exact (by (try dsimp only);omega)
 rintro v ⟨k',r',h1,h2,rfl⟩;unfold j5k;dsimp only;simp only [Int.toNat_natCast];rw [qk (n:=i-1) (by omega)];by_cases hlt:k'<i-1
 · rw [qk (n:=k'+1) (by omega)]
   with_reducible repeat' (first|apply dP|apply dX<;>intro _)
   · exact ⟨⟨_,_,by omega,by simp only [List.length_set];exact h2,rfl⟩,by (try dsimp only);omega⟩
   all_goals first|(refine dO ?_;omega)|(exfalso;omega)
 · rw [decide_eq_false hlt]
   exact dP ⟨_,h2,rfl⟩
theorem g7e (G:jr) (o n:Nat) (i k:Int) (row:List Int) (hk:k<n) (hi:0≤i) (hn:n≤100000000000000) :
 Df (ww G (((o:Int),(n:Int)),i,k,row,T,A,B,())) (fun y=>∃(r':List Int),r'.length=row.length∧y=(r',T,A,B,())):=by
 refine dL ?I ?m ?h _ ?hv ?hn
 case I=>exact (fun v=>∃(k':Int) (r':List Int),k'<n∧r'.length=row.length∧v=(((o:Int),(n:Int)),i,k',r',T,A,B,()))
 case m=>exact (fun v=>(v.2.2.1-i).toNat)
 case hv=>exact ⟨k,row,hk,rfl,rfl⟩
 case hn=>exact (by (try dsimp only);omega)
 rintro v ⟨k',r',h1,h2,rfl⟩;unfold j5m;dsimp only;simp only [Int.toNat_natCast];by_cases hlt:k'>i
 · rw [qk (n:=k'-1) (by omega)]
   with_reducible repeat' (first|apply dP|apply dX<;>intro _)
   · exact ⟨⟨_,_,by omega,by simp only [List.length_set];exact h2,rfl⟩,by (try dsimp only);omega⟩
   all_goals first|(refine dO ?_;omega)|(exfalso;omega)
 · rw [decide_eq_false hlt]
   exact dP ⟨_,h2,rfl⟩
theorem g7f (G:jr) (hA:A.length≤1000000000000) (o n:Nat) (a m b mid s st r p:Int) (row:List Int) (h0:0≤st∧st≤r) (hr:r≤n) (hp:0≤p-r+1∧p-st<n) (hn:n≤100000000000000) :
 Df (q1e G (((o:Int),(n:Int)),a,m,b,mid,s,st,r,p,row,T,A,B,())) (fun y=>∃(st':Int),st≤st'∧st'≤r∧y=(((o:Int),(n:Int)),a,m,b,mid,s,st',row,T,A,B,())):=by
 refine dL ?I ?m ?h _ ?hv ?hn
 case I=>exact (fun v=>∃(i':Int) (j':Int),st≤i'∧i'≤j'∧j'≤r∧v=(((o:Int),(n:Int)),a,m,b,mid,s,i',j',p,row,T,A,B,()))
 case m=>exact (fun v=>(v.2.2.2.2.2.2.2.1-v.2.2.2.2.2.2.1).toNat)
 case hv=>exact ⟨st,r,Int.le_refl _,h0.2,Int.le_refl _,rfl⟩
 case hn=>exact (by (try dsimp only);omega)
 rintro v ⟨i',j',h1,h2,h3,rfl⟩;unfold j5n;dsimp only;simp only [Int.toNat_natCast];rw [v6f (by omega) (by omega) (by omega)];by_cases hlt:i'<j'
 · rw [qk (n:=(i'+j')/2+1) (by omega),qk (n:=p-(i'+j')/2) (by omega)]
   with_reducible repeat' (first|apply dP|apply dX<;>intro _)
   · refine dZ (k4n hA _ _) ?_
     rintro ⟨c,t,a',b',u⟩ hc;simp only [Prod.mk.injEq] at hc;obtain ⟨rfl,rfl,rfl,-⟩:=hc;dsimp only;with_reducible repeat' (first|apply dP|apply dX<;>intro _)
     · exact ⟨⟨_,_,by omega,by omega,by omega,rfl⟩,by (try dsimp only);omega⟩
     · exact ⟨⟨_,_,by omega,by omega,by omega,rfl⟩,by (try dsimp only);omega⟩
   all_goals first|(refine dO ?_;omega)|(exfalso;omega)
 · rw [decide_eq_false hlt]
   exact dP ⟨_,by omega,by omega,rfl⟩
def Mg (T:List R6) (A:List R4) (B:List R3) (G:jr) (o n:Nat) (k:Int):Prop:=∀(a m b:Int) (row:List Int),0≤a→a<m→m<b→b≤n→b-a<k →
 Df (G (((o:Int),(n:Int)),a,m,b,row,T,A,B,())) (fun y=>∃(r':List Int),r'.length=row.length∧y=(r',T,A,B,()))
theorem k4p (G:jr) (o n:Nat) (k:Int) (hG:Mg T A B G o n k) (b mid e:Int) (row:List Int) (h:0≤mid∧b≤n∧b-mid<k) :
 Df (wn G (((o:Int),(n:Int)),b,mid,e,row,T,A,B,())) (fun y=>∃(r':List Int),r'.length=row.length∧y=(r',T,A,B,())):=by
 show Df (j5g zr G yn _) _;unfold j5g;dsimp only;simp only [Int.toNat_natCast];with_reducible repeat' (first|apply dP|apply dX<;>intro _)
 · refine dZ (hG mid e b row (by omega) (by omega) (by omega) (by omega) (by omega)) ?_
   rintro y ⟨r',h,rfl⟩;exact dP ⟨_,h,rfl⟩
 · exact ⟨_,rfl,rfl⟩
 · exact ⟨_,rfl,rfl⟩
theorem k4q (G:jr) (o n:Nat) (k:Int) (hG:Mg T A B G o n k) (a b mid st e:Int) (row:List Int) (h0:0≤a∧mid≤n∧mid-a<k) (h:0≤mid∧b≤n∧b-mid<k) :
 Df (wo G (((o:Int),(n:Int)),a,b,mid,st,e,row,T,A,B,())) (fun y=>∃(r':List Int),r'.length=row.length∧y=(r',T,A,B,())):=by
 show Df (j5h zr G yn (wn G) _) _;unfold j5h;dsimp only;simp only [Int.toNat_natCast];have zc:∀r0:List Int,r0.length=row.length→Df ((wn G (((o:Int),(n:Int)),b,mid,e,r0,T,A,B,())).bind fun val=>some (val.fst,val.snd.fst,val.snd.snd.fst,val.snd.snd.snd.fst,())) (fun y=>∃(r':List Int),r'.length=row.length∧y=(r',T,A,B,())):=by
  intro r0 hr;refine dZ (k4p G o n k hG b mid e r0 h) ?_;rintro y ⟨r',h,rfl⟩;exact dP ⟨_,h.trans hr,rfl⟩
 with_reducible repeat' (first|apply dP|apply dX<;>intro _)
 · refine dZ (hG a st mid row (by omega) (by omega) (by omega) (by omega) (by omega)) ?_
   rintro y ⟨r',h,rfl⟩;exact zc r' h
 · exact zc row rfl
 · exact zc row rfl
theorem x2c (G:jr) (hA:A.length≤1000000000000) (o n:Nat) (k:Int) (hG:Mg T A B G o n k) (a m b mid s st r:Int) (row:List Int) (hn:n≤100000000000000) (hs:s=mid+m) (h0:0≤st∧st≤r) (hr:r≤n) (hp:0≤s-r∧s-st≤n)
 (ha:0≤a∧mid≤n∧mid-a<k) (h:0≤mid∧b≤n∧b-mid<k) (hm:m≤n) :
 Df (wq G (((o:Int),(n:Int)),a,m,b,mid,s,st,r,row,T,A,B,())) (fun y=>∃(r':List Int),r'.length=row.length∧y=(r',T,A,B,())):=by
 show Df (j5i zr G yn (wo G) (q1e G) _) _;unfold j5i;dsimp only;simp only [Int.toNat_natCast];rw [qk (n:=s-1) (by omega)];refine dZ (g7f G hA o n a m b mid s st r (s-1) row h0 hr (by omega) hn) ?_;rintro y ⟨st',h1,h2,rfl⟩;dsimp only;simp only [Int.toNat_natCast];rw [qk (n:=s-st') (by omega)];have zc:∀r0:List Int,r0.length=row.length→Df ((wo G (((o:Int),(n:Int)),a,b,mid,st',s-st',r0,T,A,B,())).bind fun val=>some (val.fst,val.snd.fst,val.snd.snd.fst,val.snd.snd.snd.fst,())) (fun y=>∃(r':List Int),r'.length=row.length∧y=(r',T,A,B,())):=by
  intro r0 hr0;refine dZ (k4q G o n k hG a b mid st' (s-st') r0 ha h) ?_;rintro y ⟨r',h,rfl⟩;exact dP ⟨_,h.trans hr0,rfl⟩
 with_reducible repeat' (first|apply dP|apply dX<;>intro _)
 · refine dZ (d2o o n st' m (s-st') row (by omega) (by omega) hn) ?_
   rintro y ⟨r',h,rfl⟩;exact zc r' h
 · exact zc row rfl
 · exact zc row rfl
def z8x (G:jr):jr:=x4r zr G yn (wq G) (wt G) (wu G) (wv G) (ww G)
theorem w8z (hA:A.length≤1000000000000) (o n:Nat) (hn:n≤100000000000000):∀k:Nat,Mg T A B (j2s z8x k) o n (k:Int)
 | 0=>fun a m b row h0 h1 h2 h3 h4=>by omega
 | k+1=>fun a m b row h0 h1 h2 h3 h4=>by
  have hG:=w8z hA o n hn k;show Df (z8x (j2s z8x k) _) _;generalize j2s z8x k=G at hG ⊢;show Df (x4r zr G yn (wq G) (wt G) (wu G) (wv G) (ww G) _) _;unfold x4r;dsimp only;simp only [Int.toNat_natCast];rw [qk (n:=m-a) (by omega),qk (n:=b-m) (by omega),v6f (by omega) (by omega) (by omega),qk (n:=(a+b)/2+m) (by omega),qk (n:=(a+b)/2+m-b) (by omega)];have zc:∀{x:Option (List Int×List R6×List R4×List R3×Unit)},Df x (fun y=>∃(r':List Int),r'.length=row.length∧y=(r',T,A,B,()))→Df (x.bind fun val=>some (val.fst,val.snd.fst,val.snd.snd.fst,val.snd.snd.snd.fst,())) (fun y=>∃(r':List Int),r'.length=row.length∧y=(r',T,A,B,())):=by
   intro x hx;refine dZ hx ?_;rintro y ⟨r',h,rfl⟩;exact dP ⟨_,h,rfl⟩
  with_reducible repeat' (first|apply dP|apply dX<;>intro _)
  · refine dZ (g7b G hA o n a m b row (by omega) (by omega) (by omega) hn) ?_
    rintro y ⟨i',h5,h6,rfl⟩;dsimp only;simp only [Int.toNat_natCast];exact zc (g7c G o n i' a row (by omega) (by omega) hn (by omega))
  · refine dZ (g7d G hA o n m a m row (by omega) (by omega) (by omega) hn) ?_
    rintro y ⟨i',h5,h6,rfl⟩;dsimp only;simp only [Int.toNat_natCast];exact zc (g7e G o n i' m row (by omega) (by omega) hn)
  · exact zc (x2c G hA o n k hG a m b ((a+b)/2) ((a+b)/2+m) ((a+b)/2+m-b) ((a+b)/2) row hn rfl (by omega) (by omega) (by omega) (by omega) (by omega) (by omega))
  · exact zc (x2c G hA o n k hG a m b ((a+b)/2) ((a+b)/2+m) a m row hn rfl (by omega) (by omega) (by omega) (by omega) (by omega) (by omega))
theorem f8i (hA:A.length≤1000000000000) (o n:Nat) (hn:n≤100000000000000) (a m b:Int) (row:List Int) (h0:0≤a) (h1:a<m) (h2:m<b) (h3:b≤n) :
 Df (j6x (((o:Int),(n:Int)),a,m,b,row,T,A,B,())) (fun y=>∃(r':List Int),r'.length=row.length∧y=(r',T,A,B,())):=by
 show Df (j2s z8x jc _) _;exact w8z hA o n hn jc a m b row h0 h1 h2 h3 (by unfold jc;omega)
theorem g6w (hA:A.length≤1000000000000) (o n:Nat) (hn:n≤100000000000000) (row:List Int) :
 Df (j4n (((o:Int),(n:Int)),(n:Int),20,0,20,row,T,A,B,())) (fun y=>∃(a:Int) (r':List Int),0≤a∧a≤n∧r'.length=row.length∧y=(((o:Int),(n:Int)),(n:Int),20,a,r',T,A,B,())):=by
 refine dL ?I ?m ?h _ ?hv ?hn
 case I=>exact (fun v=>∃(a:Int) (r':List Int),0≤a∧a≤n∧r'.length=row.length∧v=(((o:Int),(n:Int)),(n:Int),20,a,a+20,r',T,A,B,()))
 case m=>exact (fun v=>(n-v.2.2.2.1).toNat)
 case hv=>exact ⟨0,row,Int.le_refl _,by omega,rfl,rfl⟩
 case hn=>exact (by (try dsimp only);omega)
 rintro v ⟨a,r',h1,h2,h3,rfl⟩;unfold z5g;dsimp only;simp only [Int.toNat_natCast];rw [qk (n:=a+20+20) (by omega)];with_reducible repeat' (first|apply dP|apply dX<;>intro _)
 · refine dZ (f8h hA o n a (a+20) r' (by omega) (by omega) hn) ?_
   rintro y ⟨r2,h4,rfl⟩;exact dP ⟨⟨a+20,r2,by omega,by omega,h4.trans h3,rfl⟩,by (try dsimp only);omega⟩
 · exact ⟨_,_,h1,h2,h3,rfl⟩
theorem g6x (hA:A.length≤1000000000000) (o n:Nat) (hn:n≤100000000000000) (bs:Int) (hbs:1≤bs∧bs≤n) (row:List Int) :
 Df (j4o (((o:Int),(n:Int)),(n:Int),bs,0,2*bs,row,T,A,B,())) (fun y=>∃(a:Int) (r':List Int),0≤a∧a≤n∧r'.length=row.length∧y=(((o:Int),(n:Int)),(n:Int),bs,a,r',T,A,B,())):=by
 refine dL ?I ?m ?h _ ?hv ?hn
 case I=>exact (fun v=>∃(a:Int) (r':List Int),0≤a∧a≤n∧r'.length=row.length∧v=(((o:Int),(n:Int)),(n:Int),bs,a,a+2*bs,r',T,A,B,()))
 case m=>exact (fun v=>(n-v.2.2.2.1).toNat)
 case hv=>exact ⟨0,row,Int.le_refl _,by omega,rfl,by rw [Int.zero_add]⟩
 case hn=>exact (by (try dsimp only);omega)
 rintro v ⟨a,r',h1,h2,h3,rfl⟩;unfold z5h;dsimp only;simp only [Int.toNat_natCast];rw [qk (n:=2*bs) (by omega),qk (n:=a+bs) (by omega),qk (n:=a+2*bs+2*bs) (by omega)];with_reducible repeat' (first|apply dP|apply dX<;>intro _)
 · refine dZ (f8i hA o n hn a (a+bs) (a+2*bs) r' (by omega) (by omega) (by omega) (by omega)) ?_
   rintro y ⟨r2,h4,rfl⟩;exact dP ⟨⟨a+2*bs,r2,by omega,by omega,h4.trans h3,rfl⟩,by (try dsimp only);omega⟩
 · exact ⟨_,_,h1,h2,h3,rfl⟩
theorem d2h (hA:A.length≤1000000000000) (o n:Nat) (hn:n≤100000000000000) (row:List Int) :
 Df (x9n (((o:Int),(n:Int)),(n:Int),row,T,A,B,())) (fun y=>∃(r':List Int),r'.length=row.length∧y=(r',T,A,B,())):=by
 unfold x9n g3i;dsimp only;simp only [Int.toNat_natCast];refine dZ (g6w hA o n hn row) ?_;rintro y ⟨a,r1,h1,h2,h3,rfl⟩;dsimp only;simp only [Int.toNat_natCast];refine dZ (f8h hA o n a n r1 (by omega) (by omega) hn) ?_;rintro y ⟨r2,h4,rfl⟩;dsimp only;refine dZ (P:=fun y=>∃(r':List Int),r'.length=row.length∧y=(r',T,A,B,())) ?_ ?_
 · refine dL ?I ?m ?h _ ?hv ?hn
   case I=>exact (fun v=>∃(bs:Int) (r':List Int),1≤bs∧bs≤400000000000000∧r'.length=row.length∧v=(((o:Int),(n:Int)),(n:Int),bs,r',T,A,B,()))
   case m=>exact (fun v=>(n-v.2.2.1).toNat)
   case hv=>exact ⟨20,r2,by omega,by omega,h4.trans h3,rfl⟩
   case hn=>exact (by (try dsimp only);omega)
   rintro v ⟨bs,r',h5,h6,h7,rfl⟩;unfold z5i;dsimp only;simp only [Int.toNat_natCast];rw [qk (n:=2*bs) (by omega)];with_reducible repeat' (first|apply dP|apply dX<;>intro _)
   · refine dZ (g6x hA o n hn bs (by omega) r') ?_
     rintro y ⟨a,r3,h8,h9,h10,rfl⟩;dsimp only;simp only [Int.toNat_natCast];rw [qk (n:=a+bs) (by omega),qk (n:=bs*2) (by omega)];with_reducible repeat' (first|apply dP|apply dX<;>intro _)
     · refine dZ (f8i hA o n hn a (a+bs) n r3 (by omega) (by omega) (by omega) (by omega)) ?_
       rintro y ⟨r4,h11,rfl⟩;exact dP ⟨⟨_,_,by omega,by omega,(h11.trans h10).trans h7,rfl⟩,by (try dsimp only);omega⟩
     · exact ⟨⟨_,_,by omega,by omega,h10.trans h7,rfl⟩,by (try dsimp only);omega⟩
   · exact ⟨_,h7,rfl⟩
 · rintro y ⟨r',h,rfl⟩
   exact dP ⟨_,h,rfl⟩
theorem d1t (hA:A.length≤1000000000000) (o n:Nat) (hn:n≤100000000000000) (row:List Int) :
 Df (j9r (((o:Int),(n:Int)),row,T,A,B,())) (fun y=>∃(r':List Int),r'.length=row.length∧y=(r',T,A,B,())):=by
 unfold j9r g3d;dsimp only;simp only [Int.toNat_natCast];refine dZ (d2h hA o n hn row) ?_;rintro y ⟨r',h,rfl⟩;exact dP ⟨_,h,rfl⟩
theorem g6k (hA:A.length≤1000000000000) (f k:Int) (row:List Int) (hf:0≤f∧f≤k) (hk:k≤row.length) (hn:row.length≤35184372088832) :
 Df (q3q (f,k,T,A,B,row,())) (fun y=>∃(r':List Int),r'.length=row.length∧y=(k+1,k,T,A,B,r',())):=by
 unfold q3q z4m;dsimp only;rw [qk (n:=k+1) (by omega)];with_reducible repeat' (first|apply dP|apply dX<;>intro _)
 · refine dZ (d1t hA f.toNat (k.toNat-f.toNat) (by omega) row) ?_
   rintro y ⟨r',h,rfl⟩;exact dP ⟨_,h,rfl⟩
 · refine dO ?_;omega
 · refine dO ?_;omega
theorem d0x (hA:A.length≤1000000000000) (l:List Int) (hl:l.length≤35184372088832):Df (x8r (T,A,B,l,())) (fun y=>y.1.length=l.length):=by
 unfold x8r g2n;dsimp only;refine dZ (P:=fun y=>y.1=l) ?_ ?_
 · unfold z3g
   dsimp only;with_reducible repeat' (first|apply dP|apply dX<;>intro _)
   · rfl
   · refine dO ?_;omega
 rintro ⟨l',u⟩ hl';dsimp only at hl' ⊢;subst hl';refine dZ (P:=fun y=>y.1.length=l'.length) ?_ (fun _ h=>dP h);refine dL ?I ?m ?h _ ?hv ?hn
 case I=>exact (fun v=>∃(f:Int) (k:Int) (r':List Int),0≤f∧f≤k∧k≤l'.length+1∧r'.length=l'.length∧v=(f,k,T,A,B,r',()))
 case m=>exact (fun v=>(l'.length+1-v.2.1).toNat)
 case hv=>exact ⟨0,0,l',Int.le_refl _,Int.le_refl _,by omega,rfl,rfl⟩
 case hn=>exact (by (try dsimp only);omega)
 rintro v ⟨f,k,r',h1,h2,h3,h4,rfl⟩;unfold z4n;dsimp only;rw [qk (n:=k+1) (by omega)];have zc:k≤r'.length→Df ((q3q (f,k,T,A,B,r',())).bind fun val=>some (Sum.inl (val.fst,IntKind.i64.wrap (val.snd.fst+1),val.snd.snd.fst,val.snd.snd.snd.fst,val.snd.snd.snd.snd.fst,val.snd.snd.snd.snd.snd.fst,())))
  (Sum.elim (fun v':Int×Int×List R6×List R4×List R3×List Int×Unit=>(∃(f:Int) (k:Int) (r':List Int),0≤f∧f≤k∧k≤l'.length+1∧r'.length=l'.length∧v'=(f,k,T,A,B,r',()))∧(l'.length+1-v'.2.1).toNat<(l'.length+1-k).toNat) (fun y:List Int×Unit=>y.1.length=l'.length)):=by
  intro hk;refine dZ (g6k hA f k r' (by omega) hk (by omega)) ?_;rintro y ⟨r2,h5,rfl⟩;dsimp only;rw [qk (n:=k+1) (by omega)];exact dP ⟨⟨_,_,_,by omega,by omega,by omega,h5.trans h4,rfl⟩,by (try dsimp only);omega⟩
 with_reducible repeat' (first|apply dP|apply dX<;>intro _)
 · refine dZ (v3r T A B _ hA) ?_
   rintro ⟨c,u⟩ -
   dsimp only;with_reducible repeat' (first|apply dP|apply dX<;>intro _)
   · exact ⟨⟨_,_,_,by omega,by omega,by omega,h4,rfl⟩,by (try dsimp only);omega⟩
   · exact zc (by omega)
 · refine dO ?_;omega
 · exact zc (by omega)
 · exact h4
end
end Go.Proofs.YtiacnhhmkdkpmaaGreatDoorC.W
