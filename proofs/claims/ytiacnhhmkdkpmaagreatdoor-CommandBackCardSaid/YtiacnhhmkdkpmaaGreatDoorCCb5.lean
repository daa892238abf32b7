/- The texts of the proof, one behind the other: W11, W12, W13, PB, W14, PD0, PD1, PD2, PD3, PD4, PD5, PD6, PD7, PD8, PD9, PR0, PR1, PR2. -/
import Derived.Test.YtiacnhhmkdkpmaaGreatDoorCCb4
import Derived.Test.YtiacnhhmkdkpmaaGreatDoorCCb2
import Derived.Lib.IndexMore
open Go.Proofs.Tryz
open Bool (and_eq_true)
open Int (ediv_nonneg tdiv_eq_ediv_of_nonneg toNat_natCast)
open List (all_eq_true append_assoc countP_cons getElem_mem length_append length_cons length_drop length_nil length_set length_take mem_append mem_cons mem_cons_of_mem mem_cons_self mem_singleton take_of_length_le)
open Nat (le_refl le_trans zero_le)
open Option (map_some)
set_option maxRecDepth 100000
set_option linter.unusedVariables false
namespace Go.Proofs.YtiacnhhmkdkpmaaGreatDoorC.W
open Go Go.Ae
abbrev T85:=Int×Unit->Option (Bool×Unit)
def E85(f:T85):FEnt:=⟨q3n,qv,f⟩
def F85:T85:=λ(x0,_)=>bif x0 != 9 then bif decide (x0<32)then some (true,())else some (x0==127,())else some (false,())
def C85:T85:=F85
theorem m2h:FO 85 (E85 C85):=zq0 q3n qv yu F85 kn func85
abbrev q6f:=Bool×(qa×Int)×Unit->Option ((Int×Unit)⊕Unit)
def z3m(f:q6f):LEnt:=⟨w8n,x3q,f⟩
abbrev z0k:=qa×Bool×Unit->Option (Int×Unit)
def v2m(f:z0k):FEnt:=⟨w8m,jd,f⟩
def y5v(f85:T85):=lk [(85,E85 f85)]
theorem y3c:zh prog (y5v C85):=(kc m2h kn)
def q5j(f85:T85):ym (Bool×(qa×Int)×Unit) ((Int×Unit)⊕Unit):=λ(x0,x1,_)=>bif decide (Int.toNat x1.2<List.length x1.1)then(f85 ((↑(yw x1.1 (Int.toNat x1.2)).1:Int),())).bind λv=>bif v.1==x0 then some (Sum.inr (Sum.inl ((↑(Int.toNat x1.2):Int),())))else some (Sum.inl (x0,(x1.1,(↑(Int.toNat x1.2+(yw x1.1 (Int.toNat x1.2)).2):Int)),()))else some (Sum.inr (Sum.inr ()))
def j4b:q6f:=qc (q5j C85) qz
theorem v0s:jg 0 (qd (code f156) [1,0,1,0,0]) (z3m j4b):=zl1 w8n x3q y5v q5j C85 y3c
def g8u(f156v1_l0:q6f):Ann:=(.seq .nil (.seq (.seq .nil (.blk (.loop (z3m f156v1_l0)))) .nil))
def z6r(f85:T85)(f156v1_l0:q6f):z0k:=λ(x0,x1,_)=>(f156v1_l0 (x1,(x0,(↑0:Int)),())).bind λv=>Sum.elim (λv=>some (v.1,())) (λv=>some (-1,())) v
def q7y:z0k:=z6r C85 j4b
theorem w4v:FO 156 (v2m q7y):=ke w8m jd y5v g8u z6r C85 j4b y3c func156 (And.intro v0s trivial)
abbrev z0g:=qa×Unit->Option (Int×Unit)
def v2j(f:z0g):FEnt:=⟨x3d,jd,f⟩
def g7p(f156v1:z0k):=lk [(156,v2m f156v1)]
def z6m(f156v1:z0k):z0g:=λ(x0,_)=>(f156v1 (x0,true,())).bind λv=>some (v.1,())
def j9l:z0g:=z6m q7y
theorem w4t:FO 123 (v2j j9l):=kb x3d jd g7p z6m q7y (kc w4v kn) func123
abbrev z4a:=qa×Unit->Option (Bool×Unit)
def w6c(f:z4a):FEnt:=⟨x3d,qv,f⟩
def b0j(f123v1:z0g):=lk [(123,v2j f123v1)]
def x2m(f123v1:z0g):z4a:=λ(x0,_)=>(f123v1 (x0,())).bind λv=>some (decide (v.1>=0),())
def j9z:z4a:=x2m j9l
theorem f4b:FO 84 (w6c j9z):=kb x3d qv b0j x2m j9l (kc w4t kn) func84
abbrev T86:=qa×Unit->Option (Bool×Unit)
def E86(f:T86):FEnt:=⟨yh,qv,f⟩
def K86(f96:T96):=lk [(96,E96 f96)]
def F86(f96:T96):T86:=λ(x0,_)=>(f96 (x0,[91],())).bind λv=>some (v.1,())
def C86:T86:=F86 C96
theorem m2i:FO 86 (E86 C86):=kb yh qv K86 F86 C96 (kc f4e kn) func86
abbrev T87:=qu×qw×qx×qa×Unit->Option (qa×Int×Unit)
def E87(f:T87):FEnt:=⟨ww,z0d,f⟩
def K87(f124:k7q):=lk [(124,f6g f124)]
def F87(f124:k7q):T87:=λ(x0,x1,x2,x3,_)=>(f124 (x0,x1,x2,x3,())).bind λv=>some (v.1,v.2.2.1,())
def C87:T87:=F87 z5k
theorem m2j:FO 87 (E87 C87):=kb ww z0d K87 F87 z5k (kc b5t kn) func87
abbrev T44:=qu×qw×qx×qa×qa×Unit->Option (Int×Unit)
def E44(f:T44):FEnt:=⟨w8o,jd,f⟩
def K44(f67:T67)(f83:T83)(f84v1:z4a)(f86:T86)(f87:T87):=lk [(67,E67 f67),(83,E83 f83),(84,w6c f84v1),(86,E86 f86),(87,E87 f87)]
def F44(f67:T67)(f83:T83)(f84v1:z4a)(f86:T86)(f87:T87):T44:=λ(x0,x1,x2,x3,x4,_)=>(f83 (x3,())).bind λv=>bif x3==[]then some (13,())else bif decide ((↑x3.length:Int)>64)then some (5,())else bif decide (v.2.1>=0)then some (7,())else(f84v1 (x3,())).bind λv=>bif v.1 then some (8,())else(f86 (x4,())).bind λv=>bif v.1 then(f67 (x4,())).bind λv=>bif v.2.2.1 != 0 then some (4,())else bif(↑(List.length v.1):Int) != 1 then some (4,())else bif decide (0<(↑(List.length v.1):Int))then bif(List.getD v.1 0 (0,([],0))).1 != 5 then some (4,())else some (0,())else none else(f87 (x0,x1,x2,x4,())).bind λv=>some (v.2.1,())
theorem h44(f67:T67)(f83:T83)(f84v1:z4a)(f86:T86)(f87:T87):zz (K44 f67 f83 f84v1 f86 f87) 0 f44 .nil w8o jd (F44 f67 f83 f84v1 f86 f87):=λv=>by kernel_rfl
def C44:T44:=F44 C67 C83 j9z C86 C87
theorem b9s:FO 44 (E44 C44) :=
 q0 (kc b9v (kc v1b (kc f4b (kc m2i (kc m2j kn))))) func44 (h44 C67 C83 j9z C86 C87)
abbrev j8v:=Int×(qa×Int)×Unit->Option (Int×Unit)
def x0m(f:j8v):LEnt:=⟨w8p,g2h,f⟩
abbrev j4s:=qa×Unit->Option (Int×Unit)
def g6k(f:j4s):FEnt:=⟨yh,jd,f⟩
def x2i:ym (Int×(qa×Int)×Unit) (Int×Unit):=λ(x0,x1,_)=>bif decide (Int.toNat x1.2<List.length x1.1)then some (Sum.inl (IntKind.i64.wrap (x0+1),(x1.1,(↑(Int.toNat x1.2+(yw x1.1 (Int.toNat x1.2)).2):Int)),()))else some (Sum.inr (x0,()))
def z5y:j8v:=qc (x2i) qz
theorem w2n:jg 0 (qd (code f227) [1,0,1,0,0]) (x0m z5y):=zl0 w8p g2h yu x2i kn
def d4p(f227_l0:j8v):Ann:=(.seq .nil (.seq (.seq .nil (.blk (.loop (x0m f227_l0)))) .nil))
def b0e(f227_l0:j8v):j4s:=λ(x0,_)=>(f227_l0 (0,(x0,(↑0:Int)),())).bind λv=>some (v.1,())
def j4g:j4s:=b0e z5y
theorem g5d:FO 227 (g6k j4g):=q1x yh jd yu d4p b0e z5y kn func227 (And.intro w2n trivial)
abbrev x9q:=qa×Unit->Option (Int×Int×Unit)
def f8u(f:x9q):FEnt:=⟨yh,x3x,f⟩
def b0i:x9q:=λ(x0,_)=>bif decide ((↑x0.length:Int)<1)then some (65533,0,())else bif decide (0<(↑x0.length:Int))then none else none
def x6v:x9q:=b0i
theorem b8l:FO 273 (f8u x6v):=zq0 yh x3x yu b0i kn func273
abbrev j1s:=qa×Bool×Unit->Option ((Int×Int×Unit)⊕(Int×Int×Unit))
def x0n(f:j1s):LEnt:=⟨w8q,g2i,f⟩
abbrev y1p:=qa×Unit->Option (Int×Int×Unit)
def f7p(f:y1p):FEnt:=⟨yh,x3x,f⟩
def g7y(f273:x9q):=lk [(273,f8u f273)]
theorem v8n:zh prog (g7y x6v):=(kc b8l kn)
def x2j(f273:x9q):j1s:=λ(x0,x1,_)=>bif x1 then bif decide (0<(↑x0.length:Int))then some (Sum.inl (IntKind.i32.wrap (↑(x0.getD 0 0).toNat:Int),1,()))else none else(f273 (x0,())).bind λv=>some (Sum.inr (v.1,v.2.1,()))
def z5z:j1s:=x2j x6v
theorem w2o:zc 0 (qd (code f228) [1,0,1]) (x0n z5z):=zc1 w8q g2i g7y x2j x6v v8n
def d4q(f228_c0:j1s):Ann:=(.seq .nil (.seq (.cut .nil (x0n f228_c0)) .nil))
def b0f(f273:x9q)(f228_c0:j1s):y1p:=λ(x0,_)=>bif !x0==[]then bif decide (0<(↑x0.length:Int))then(f228_c0 (x0,decide ((↑(x0.getD 0 0).toNat:Int)<128),())).bind λv=>Sum.elim (λv=>some (v.1,v.2.1,())) (λv=>some (v.1,v.2.1,())) v else none else(f228_c0 (x0,false,())).bind λv=>Sum.elim (λv=>some (v.1,v.2.1,())) (λv=>some (v.1,v.2.1,())) v
def y0q:y1p:=b0f x6v z5z
theorem b7d:FO 228 (f7p y0q):=ke yh x3x g7y d4q b0f x6v z5z v8n func228 (And.intro w2o trivial)
abbrev j1l:=qa×Int×Int×List (qa)×Unit->Option (qa×Int×List (qa)×Unit)
def x0b(f:j1l):LEnt:=⟨w8r,g2j,f⟩
abbrev j1k:=qa×Int×Unit->Option (List (qa)×Unit)
def x0a(f:j1k):LEnt:=⟨w8s,g2k,f⟩
abbrev z2x:=qa×Int×Unit->Option (List (qa)×Unit)
def f7c(f:z2x):FEnt:=⟨x2w,z3w,f⟩
def k5v(f227:j4s)(f228:y1p):=lk [(227,g6k f227),(228,f7p f228)]
theorem y7k:zh prog (k5v j4g y0q):=(kc g5d (kc b7d kn))
def x2g(f227:j4s)(f228:y1p):ym (qa×Int×Int×List (qa)×Unit) (qa×Int×List (qa)×Unit):=λ(x0,x1,x2,x3,_)=>bif decide (x2<IntKind.i64.wrap (x1-1))then(f228 (x0,())).bind λv=>bif decide (0<=v.2.1)&&decide (v.2.1<=(↑x0.length:Int))then bif decide (0<=x2)&&decide (x2<(↑x3.length:Int))then bif decide (0<=v.2.1)&&decide (v.2.1<=(↑x0.length:Int))then some (Sum.inl (List.drop (Int.toNat v.2.1) x0,x1,IntKind.i64.wrap (x2+1),x3.set x2.toNat (List.take (Int.toNat v.2.1) x0),()))else none else none else none else some (Sum.inr (x0,x1,x3,()))
def z5t:j1l:=qc (x2g j4g y0q) qz
theorem w2c:jg 0 (qd (code f193) [1,1,1,1,0,1,0,0]) (x0b z5t):=zl2 w8r g2j k5v x2g j4g y0q y7k
def k7e(f193_l0:j1l):Ann:=(.seq .nil (.seq (.seq .nil (.blk (.loop (x0b f193_l0)))) .nil))
def x2f(f227:j4s)(f228:y1p)(f193_l0:j1l):j1k:=λ(x0,x1,_)=>bif decide (0<=x1)&&(decide (x1=x1)&&(decide ((↑16:Int)*x1<=281474976710656)&&decide (x1<=140737488355328)))then(f193_l0 (x0,x1,0,List.replicate x1.toNat [],())).bind λv=>bif decide (v.2.1>0)then bif decide (0<=IntKind.i64.wrap (v.2.1-1))&&decide (IntKind.i64.wrap (v.2.1-1)<(↑(List.length v.2.2.1):Int))then some (List.set v.2.2.1 (IntKind.i64.wrap (v.2.1-1)).toNat v.1,())else none else some (v.2.2.1,())else none
theorem k9p(f227:j4s)(f228:y1p)(f193_l0:j1l):AqC (k5v f227 f228) 0 (qd (code f193) [1,1,1]) (k7e f193_l0) w8s g2k (x2f f227 f228 f193_l0):=λv=>by kernel_rfl
def z5s:j1k:=x2f j4g y0q z5t
theorem w2b:zc 0 (qd (code f193) [1,1,1]) (x0a z5s) :=
 frd y7k (And.intro w2c trivial) (k9p j4g y0q z5t)
def d4i(f193_c0:j1k):Ann:=(.seq .nil (.seq .nil (.cut .nil (x0a f193_c0))))
def b0c(f227:j4s)(f228:y1p)(f193_c0:j1k):z2x:=λ(x0,x1,_)=>(f227 (x0,())).bind λv=>bif decide (x1<0)then(f193_c0 (x0,v.1,())).bind λv=>some (v.1,())else bif decide (x1>v.1)then(f193_c0 (x0,v.1,())).bind λv=>some (v.1,())else(f193_c0 (x0,x1,())).bind λv=>some (v.1,())
def j9o:z2x:=b0c j4g y0q z5s
theorem b6q:FO 193 (f7c j9o):=q7w x2w z3w k5v d4i b0c j4g y0q z5s y7k func193 (And.intro w2b trivial)
abbrev q8l:=qa×qa×Unit->Option (Int×Unit)
def g6f(f:q8l):FEnt:=⟨zw,jd,f⟩
def d1w(f197:y6f):=lk [(197,g6g f197)]
def x7p(f197:y6f):q8l:=λ(x0,x1,_)=>(f197 (x0,x1,())).bind λv=>some (v.1,())
def q1d:q8l:=x7p j6i
theorem g4z:FO 195 (g6f q1d):=kb zw jd d1w x7p j6i (kc g5a kn) func195
abbrev j1m:=qa×qa×Int×Unit->Option (Int×Unit)
def x0c(f:j1m):LEnt:=⟨w8t,g2l,f⟩
abbrev z2y:=qa×qa×Unit->Option (Int×Unit)
def f7d(f:z2y):FEnt:=⟨zw,jd,f⟩
def g7v(f195:q8l)(f227:j4s)(f229:x8v):=lk [(195,g6f f195),(227,g6k f227),(229,f7q f229)]
theorem v8k:zh prog (g7v q1d j4g x6q):=(kc g4z (kc g5d (kc b7e kn)))
def x2h(f195:q8l)(f227:j4s)(f229:x8v):ym (qa×qa×Int×Unit) (Int×Unit):=λ(x0,x1,x2,_)=>(f195 (x0,x1,())).bind λv=>bif v.1 == -1 then some (Sum.inr (x2,()))else bif decide (0<=IntKind.i64.wrap (v.1+(↑x1.length:Int)))&&decide (IntKind.i64.wrap (v.1+(↑x1.length:Int))<=(↑x0.length:Int))then some (Sum.inl (List.drop (IntKind.i64.wrap (v.1+(↑x1.length:Int))).toNat x0,x1,IntKind.i64.wrap (x2+1),()))else none
theorem k9q(f195:q8l)(f227:j4s)(f229:x8v):AqL (g7v f195 f227 f229) 0 (qd (code f194) [1,1,1,1,0,0]) .nil w8t g2l (x2h f195 f227 f229):=λv=>by kernel_rfl
def z5u:j1m:=qc (x2h q1d j4g x6q) qz
theorem w2d:jg 0 (qd (code f194) [1,1,1,1,0,0]) (x0c z5u) :=
 frl v8k (k9q q1d j4g x6q)
def d4j(f194_l0:j1m):Ann:=(.seq .nil (.seq .nil (.seq .nil (.seq .nil (.blk (.loop (x0c f194_l0)))))))
def b0d(f195:q8l)(f227:j4s)(f229:x8v)(f194_l0:j1m):z2y:=λ(x0,x1,_)=>bif(↑x1.length:Int)==0 then(f227 (x0,())).bind λv=>some (IntKind.i64.wrap (v.1+1),())else bif(↑x1.length:Int)==1 then bif decide (0<(↑x1.length:Int))then(f229 (x0,(↑(x1.getD 0 0).toNat:Int),())).bind λv=>some (v.1,())else none else(f194_l0 (x0,x1,0,())).bind λv=>some (v.1,())
theorem d9t(f195:q8l)(f227:j4s)(f229:x8v)(f194_l0:j1m):zz (g7v f195 f227 f229) 0 f194 (d4j f194_l0) zw jd (b0d f195 f227 f229 f194_l0):=λv=>by kernel_rfl
def q9r:z2y:=b0d q1d j4g x6q z5u
theorem b6r:FO 194 (f7d q9r) :=
 qo v8k func194 (And.intro w2d trivial) (d9t q1d j4g x6q z5u)
abbrev j1j:=qa×qa×Int×Int×Int×List (qa)×Unit->Option (qa×Int×List (qa)×Unit)
def y9t(f:j1j):LEnt:=⟨w8v,g2m,f⟩
abbrev q6h:=qa×qa×Int×Int×Unit->Option (List (qa)×Unit)
def y9s(f:q6h):LEnt:=⟨w8w,g2n,f⟩
abbrev v4t:=qa×qa×Int×Int×Unit->Option (List (qa)×Unit)
def f6s(f:v4t):FEnt:=⟨w8u,z3w,f⟩
def k5t(f193:z2x)(f194:z2y)(f195:q8l):=lk [(193,f7c f193),(194,f7d f194),(195,g6f f195)]
theorem y7i:zh prog (k5t j9o q9r q1d):=(kc b6q (kc b6r (kc g4z kn)))
def q2i(f193:z2x)(f194:z2y)(f195:q8l):ym (qa×qa×Int×Int×Int×List (qa)×Unit) (qa×Int×List (qa)×Unit):=λ(x0,x1,x2,x3,x4,x5,_)=>bif decide (x4<x3)then(f195 (x0,x1,())).bind λv=>bif decide (v.1<0)then some (Sum.inr (x0,x4,x5,()))else bif decide (0<=IntKind.i64.wrap (v.1+x2))&&decide (IntKind.i64.wrap (v.1+x2)<=(↑x0.length:Int))then bif decide (0<=x4)&&decide (x4<(↑x5.length:Int))then bif decide (0<=IntKind.i64.wrap (v.1+(↑x1.length:Int)))&&decide (IntKind.i64.wrap (v.1+(↑x1.length:Int))<=(↑x0.length:Int))then some (Sum.inl (List.drop (IntKind.i64.wrap (v.1+(↑x1.length:Int))).toNat x0,x1,x2,x3,IntKind.i64.wrap (x4+1),x5.set x4.toNat (List.take (IntKind.i64.wrap (v.1+x2)).toNat x0),()))else none else none else none else some (Sum.inr (x0,x4,x5,()))
theorem k9m(f193:z2x)(f194:z2y)(f195:q8l):AqL (k5t f193 f194 f195) 0 (qd (code f161) [1,1,1,1,1,1,1,1,0,0,0]) .nil w8v g2m (q2i f193 f194 f195):=λv=>by kernel_rfl
def q5a:j1j:=qc (q2i j9o q9r q1d) qz
theorem w1u:jg 0 (qd (code f161) [1,1,1,1,1,1,1,1,0,0,0]) (y9t q5a) :=
 frl y7i (k9m j9o q9r q1d)
def k7b(f161_l0:j1j):Ann:=(.seq .nil (.seq .nil (.seq .nil (.seq .nil (.seq (.blk (.loop (y9t f161_l0))) .nil)))))
def q5k(f193:z2x)(f194:z2y)(f195:q8l)(f161_l0:j1j):q6h:=λ(x0,x1,x2,x3,_)=>bif decide (0<=if IntKind.i64.wrap ((↑x0.length:Int)+1)<x3 then IntKind.i64.wrap ((↑x0.length:Int)+1)else x3)&&(decide ((if IntKind.i64.wrap ((↑x0.length:Int)+1)<x3 then IntKind.i64.wrap ((↑x0.length:Int)+1)else x3)=if IntKind.i64.wrap ((↑x0.length:Int)+1)<x3 then IntKind.i64.wrap ((↑x0.length:Int)+1)else x3)&&(decide (((↑16:Int)*if IntKind.i64.wrap ((↑x0.length:Int)+1)<x3 then IntKind.i64.wrap ((↑x0.length:Int)+1)else x3)<=281474976710656)&&decide ((if IntKind.i64.wrap ((↑x0.length:Int)+1)<x3 then IntKind.i64.wrap ((↑x0.length:Int)+1)else x3)<=140737488355328)))then(f161_l0 (x0,x1,x2,IntKind.i64.wrap ((if IntKind.i64.wrap ((↑x0.length:Int)+1)<x3 then IntKind.i64.wrap ((↑x0.length:Int)+1)else x3)-1),0,List.replicate (if IntKind.i64.wrap ((↑x0.length:Int)+1)<x3 then IntKind.i64.wrap ((↑x0.length:Int)+1)else x3).toNat [],())).bind λv=>bif decide (0<=v.2.1)&&decide (v.2.1<(↑(List.length v.2.2.1):Int))then bif decide (0<=IntKind.i64.wrap (v.2.1+1))&&decide (IntKind.i64.wrap (v.2.1+1)<=(↑(List.set v.2.2.1 (Int.toNat v.2.1) v.1).length:Int))then some (List.take (IntKind.i64.wrap (v.2.1+1)).toNat (List.set v.2.2.1 (Int.toNat v.2.1) v.1),())else none else none else none
theorem k9l(f193:z2x)(f194:z2y)(f195:q8l)(f161_l0:j1j):AqC (k5t f193 f194 f195) 0 (qd (code f161) [1,1,1,1]) (k7b f161_l0) w8w g2n (q5k f193 f194 f195 f161_l0):=λv=>by kernel_rfl
def q2b:q6h:=q5k j9o q9r q1d q5a
theorem w1t:zc 0 (qd (code f161) [1,1,1,1]) (y9s q2b) :=
 frd y7i (And.intro w1u trivial) (k9l j9o q9r q1d q5a)
def d4d(f161_c0:q6h):Ann:=(.seq .nil (.seq .nil (.seq .nil (.cut .nil (y9s f161_c0)))))
def x7j(f193:z2x)(f194:z2y)(f195:q8l)(f161_c0:q6h):v4t:=λ(x0,x1,x2,x3,_)=>bif x3==0 then some ([],())else bif x1==[]then(f193 (x0,x3,())).bind λv=>some (v.1,())else bif decide (x3<0)then(f194 (x0,x1,())).bind λv=>(f161_c0 (x0,x1,x2,IntKind.i64.wrap (v.1+1),())).bind λv=>some (v.1,())else(f161_c0 (x0,x1,x2,x3,())).bind λv=>some (v.1,())
theorem d9p(f193:z2x)(f194:z2y)(f195:q8l)(f161_c0:q6h):zz (k5t f193 f194 f195) 0 f161 (d4d f161_c0) w8u z3w (x7j f193 f194 f195 f161_c0):=λv=>by kernel_rfl
def z5o:v4t:=x7j j9o q9r q1d q2b
theorem b6f:FO 161 (f6s z5o) :=
 qo y7i func161 (And.intro w1t trivial) (d9p j9o q9r q1d q2b)
abbrev z0i:=qa×qa×Unit->Option (List (qa)×Unit)
def g5v(f:z0i):FEnt:=⟨zw,z3w,f⟩
def d1b(f161:v4t):=lk [(161,f6s f161)]
def x7e(f161:v4t):z0i:=λ(x0,x1,_)=>(f161 (x0,x1,0,-1,())).bind λv=>some (v.1,())
def q7i:z0i:=x7e z5o
theorem g4n:FO 125 (g5v q7i):=kb zw z3w d1b x7e z5o (kc b6f kn) func125
abbrev z8h:=qa×Int×Int×Unit->Option ((qa×Unit)⊕(Bool×Unit))
def v3g(f:z8h):LEnt:=⟨w8x,g2o,f⟩
abbrev T47:=qa×Unit->Option (Bool×Unit)
def E47(f:T47):FEnt:=⟨yh,qv,f⟩
def K47(f90:T90):=lk [(90,E90 f90)]
theorem g4b:zh prog (K47 C90):=(kc f4d kn)
def z7s(f90:T90):ym (qa×Int×Int×Unit) ((qa×Unit)⊕(Bool×Unit)):=λ(x0,x1,x2,_)=>bif decide (x2<x1)then bif decide (0<=x2)&&decide (x2<(↑x0.length:Int))then(f90 ((↑(x0.getD x2.toNat 0).toNat:Int),())).bind λv=>bif !v.1 then some (Sum.inr (Sum.inr (false,())))else some (Sum.inl (x0,x1,IntKind.i64.wrap (x2+1),()))else none else some (Sum.inr (Sum.inl (x0,())))
def y5m:z8h:=qc (z7s C90) qz
theorem f2v:jg 0 (qd (code f47) [1,0,1,0,0]) (v3g y5m):=zl1 w8x g2o K47 z7s C90 g4b
def N47(f47_l0:z8h):Ann:=(.seq .nil (.seq (.seq .nil (.blk (.loop (v3g f47_l0)))) .nil))
def F47(f90:T90)(f47_l0:z8h):T47:=λ(x0,_)=>(f47_l0 (x0,(↑x0.length:Int),0,())).bind λv=>Sum.elim (λv=>some (bif v.1==[]then false else true,())) (λv=>some (v.1,())) v
def C47:T47:=F47 C90 y5m
theorem m1r:FO 47 (E47 C47):=ke yh qv K47 N47 F47 C90 y5m g4b func47 (And.intro f2v trivial)
abbrev z8l:=List (qa)×Int×Int×Unit->Option (Unit⊕(Bool×Unit))
def v3n(f:z8l):LEnt:=⟨w8y,g2p,f⟩
abbrev T88:=qa×Unit->Option (Bool×Unit)
def E88(f:T88):FEnt:=⟨yh,qv,f⟩
def K88(f125:z0i)(f47:T47):=lk [(125,g5v f125),(47,E47 f47)]
theorem g4f:zh prog (K88 q7i C47):=(kc g4n (kc m1r kn))
def z7t(f125:z0i)(f47:T47):ym (List (qa)×Int×Int×Unit) (Unit⊕(Bool×Unit)):=λ(x0,x1,x2,_)=>bif decide (x2<x1)then bif decide (0<=x2)&&decide (x2<(↑x0.length:Int))then(f47 (x0.getD x2.toNat [],())).bind λv=>bif !v.1 then some (Sum.inr (Sum.inr (false,())))else some (Sum.inl (x0,x1,IntKind.i64.wrap (x2+1),()))else none else some (Sum.inr (Sum.inl ()))
def y5n:z8l:=qc (z7t q7i C47) qz
theorem f3c:jg 0 (qd (code f88) [1,0,1,0,0]) (v3n y5n):=zl2 w8y g2p K88 z7t q7i C47 g4f
def N88(f88_l0:z8l):Ann:=(.seq .nil (.seq (.seq .nil (.blk (.loop (v3n f88_l0)))) .nil))
def F88(f125:z0i)(f47:T47)(f88_l0:z8l):T88:=λ(x0,_)=>(f125 (x0,[46],())).bind λv=>(f88_l0 (v.1,(↑(List.length v.1):Int),0,())).bind λv=>Sum.elim (λv=>some (true,())) (λv=>some (v.1,())) v
def C88:T88:=F88 q7i C47 y5n
theorem m2k:FO 88 (E88 C88):=q7w yh qv K88 N88 F88 q7i C47 y5n g4f func88 (And.intro f3c trivial)
abbrev T45:=qa×qa×Unit->Option (qa×Unit)
def E45(f:T45):FEnt:=⟨x3e,q8i,f⟩
def K45(f88:T88)(f89:T89):=lk [(88,E88 f88),(89,E89 f89)]
def F45(f88:T88)(f89:T89):T45:=λ(x0,x1,_)=>(f88 (x0,())).bind λv=>bif !v.1 then(f89 (1,x0,0,())).bind λv=>bif decide (List.length v.1+[64].length<=9223372036854775807)then bif decide ((v.1++[64]).length+x1.length<=9223372036854775807)then some (v.1++[64]++x1,())else none else none else bif decide (x0.length+[64].length<=9223372036854775807)then bif decide ((x0++[64]).length+x1.length<=9223372036854775807)then some (x0++[64]++x1,())else none else none
def C45:T45:=F45 C88 C89
theorem m1q:FO 45 (E45 C45):=zq2 x3e q8i K45 F45 C88 C89 (kc m2k (kc b9w kn)) func45
abbrev T38:=qa×qa×Unit->Option (Bool×Unit)
def E38(f:T38):FEnt:=⟨x3e,qv,f⟩
def F38:T38:=λ(x0,x1,_)=>bif decide ((↑x0.length:Int)<=150)then some (decide ((↑x1.length:Int)<=200),())else some (false,())
def C38:T38:=F38
theorem m1o:FO 38 (E38 C38):=zq0 x3e qv yu F38 kn func38
abbrev T79:=Int×qa×Int×qa×Unit->Option (Bool×Unit)
def E79(f:T79):FEnt:=⟨w8z,qv,f⟩
def F79:T79:=λ(x0,x1,x2,x3,_)=>bif x0==2 then some (x1==x3,())else some (false,())
def C79:T79:=F79
theorem m2d:FO 79 (E79 C79):=zq0 w8z qv yu F79 kn func79
abbrev T81:=Int×qa×Int×Unit->Option (Bool×Unit)
def E81(f:T81):FEnt:=⟨x3c,qv,f⟩
def F81:T81:=λ(x0,x1,x2,_)=>bif x0==4 then some (true,())else some (x0==3,())
def C81:T81:=F81
theorem m2f:FO 81 (E81 C81):=zq0 x3c qv yu F81 kn func81
abbrev j8n:=LqD×Int×Int×Unit->Option (Unit⊕(Int×Unit))
def y8x(f:j8n):LEnt:=⟨w9a,j5t,f⟩
abbrev v4p:=LqD×Unit->Option (Int×Unit)
def f6d(f:v4p):FEnt:=⟨x3f,jd,f⟩
def g7o(f81:T81):=lk [(81,E81 f81)]
theorem v8f:zh prog (g7o C81):=(kc m2f kn)
def j7l(f81:T81):ym (LqD×Int×Int×Unit) (Unit⊕(Int×Unit)):=λ(x0,x1,x2,_)=>bif decide (x2<x1)then bif decide (0<=x2)&&decide (x2<(↑x0.length:Int))then(f81 ((x0.getD x2.toNat (0,([],0))).1,(x0.getD x2.toNat (0,([],0))).2.1,(x0.getD x2.toNat (0,([],0))).2.2,())).bind λv=>bif v.1 then some (Sum.inr (Sum.inr (x2,())))else some (Sum.inl (x0,x1,IntKind.i64.wrap (x2+1),()))else none else some (Sum.inr (Sum.inl ()))
def z5i:j8n:=qc (j7l C81) qz
theorem w0y:jg 0 (qd (code f119) [1,0,1,0,0]) (y8x z5i):=zl1 w9a j5t g7o j7l C81 v8f
def d3q(f119_l0:j8n):Ann:=(.seq .nil (.seq (.seq .nil (.blk (.loop (y8x f119_l0)))) .nil))
def k2v(f81:T81)(f119_l0:j8n):v4p:=λ(x0,_)=>(f119_l0 (x0,(↑x0.length:Int),0,())).bind λv=>Sum.elim (λv=>some (-1,())) (λv=>some (v.1,())) v
def v1o:v4p:=k2v C81 z5i
theorem b5q:FO 119 (f6d v1o):=ke x3f jd g7o d3q k2v C81 z5i v8f func119 (And.intro w0y trivial)
abbrev T80:=LqD×Unit->Option (Bool×Unit)
def E80(f:T80):FEnt:=⟨x3f,qv,f⟩
def K80(f119:v4p):=lk [(119,f6d f119)]
def F80(f119:v4p):T80:=λ(x0,_)=>(f119 (x0,())).bind λv=>some (decide (v.1>=0),())
def C80:T80:=F80 v1o
theorem m2e:FO 80 (E80 C80):=kb x3f qv K80 F80 v1o (kc b5q kn) func80
end Go.Proofs.YtiacnhhmkdkpmaaGreatDoorC.W
set_option linter.unusedSimpArgs false
namespace Go.Proofs.YtiacnhhmkdkpmaaGreatDoorC.W
open Go Go.Ae
theorem wr{n:Int}(h1 : -9223372036854775808<=n)(h2:n<=9223372036854775807):IntKind.i64.wrap n=n:=by rw[IntKind.wrap_i64];omega
theorem wrN(n:Nat)(h:n<=9223372036854775806):IntKind.i64.wrap ((n:Int)+1)=((n+1:Nat):Int):=by rw[wr]<;>omega
theorem x5p(b:UInt8):UInt8.ofNat b.toNat=b:=by simp
theorem byte_back(b:UInt8):UInt8.ofNat ((b.toNat:Int)).toNat=b:=by simp
theorem getD_lt{α:Type}{l:List α}{i:Nat}{d:α}(h:i<l.length):l.getD i d=l[i]:=by simp[List.getD_eq_getElem?_getD,List.getElem?_eq_getElem h]
def xt(c:UInt8):List UInt8:=if c.toNat=34\/c.toNat=92 then [92,c]else [c]
def vv(s:List UInt8):List UInt8:=s.flatMap xt
theorem v7m(c:UInt8):(xt c).length<=2:=by unfold xt;split<;>simp
theorem q7b:∀s:List UInt8,(vv s).length<=2*s.length
 | []=>by simp[vv]
 | c::s=>by have:=q7b s;have:=v7m c;simp[vv]at *;omega
theorem y6u(s t:List UInt8):vv (s++t)=vv s++vv t:=by simp[vv]
theorem qk{α:Type}{s:List α}{k:Nat}(h:k<s.length):s.take (k+1)=s.take k++[s[k]]:=by
 rw[List.take_add_one,List.getElem?_eq_getElem h];rfl
theorem v7n{s:List UInt8}{k:Nat}(h:k<s.length):vv (s.take (k+1))=vv (s.take k)++xt s[k]:=by
 rw[qk h,y6u];simp[vv]
theorem ibT{a b:Int}(h:a=b):(a==b)=true:=by simp[h]
theorem ibF{a b:Int}(h:a≠b):(a==b)=false:=by simp[h]
theorem inT{a b:Int}(h:a≠b):(a != b)=true:=by simp[h]
theorem inF{a b:Int}(h:a=b):(a != b)=false:=by simp[h]
theorem y4w{a:UInt8}{n:Nat}(h:a.toNat=n):a=UInt8.ofNat n:=by subst h;simp
theorem f1w{c:UInt8}(h:c.toNat=34):xt c=[92]++[c]:=by simp[xt,h]
theorem f1u{c:UInt8}(h:c.toNat=92):xt c=[92]++[c]:=by simp[xt,h]
theorem f1v{c:UInt8}(h:¬c.toNat=34)(h2:¬c.toNat=92):xt c=[c]:=by simp[xt,h,h2]
theorem r14(s:List UInt8)(k:Nat)(acc:List UInt8)(h:k<s.length)(hb:s.length<=9223372036854775806)(ha:acc.length+2<=140737488355328) :
 kz (s,(s.length:Int),(k:Int),acc,())=some (.inl (s,(s.length:Int),((k+1:Nat):Int),acc++xt s[k],())):=by
 by_cases e1:s[k].toNat=34
 . simp (disch:=omega) only[kz,decide_eq_true,cond_true,Bool.and_self,jf,getD_lt,byte_back,wrN,toNat_natCast,ibT,f1w,append_assoc,x5p]
 . by_cases e2:s[k].toNat=92
   . simp (disch:=omega) only[kz,decide_eq_true,cond_true,cond_false,Bool.and_self,jf,getD_lt,byte_back,wrN,toNat_natCast,ibT,ibF,f1u,append_assoc,x5p]
   . simp (disch:=omega) only[kz,decide_eq_true,cond_true,cond_false,Bool.and_self,jf,getD_lt,byte_back,wrN,toNat_natCast,ibT,ibF,f1v,append_assoc,x5p]
theorem c14(s:List UInt8)(hb:s.length<=70368744177663):v1q (s,())=some (vv s,()):=by
 have key:∀(k:Nat) (n:Nat),k<=s.length->s.length-k<n->qc kz n (s,(s.length:Int),(k:Int),vv (s.take k),())=some (vv s,()):=by
  intro k n
  induction n generalizing k with
  | zero=>intro _ h;omega
  | succ n ih =>
   intro hk hn;by_cases h:k<s.length
   . have hl:=q7b (s.take k)
     rw[qm (r14 s k _ h (by omega) (by simp only[length_take]at hl;omega)),<-v7n h];exact ih (k+1) (by omega) (by omega)
   . have:k=s.length:=by omega
     subst this;refine qe ?_;simp[kz]
 have:=key 0 qz (by omega) (by unfold qz;omega);simp only[List.take_zero]at this;show k2x q9c (s,())=_;simp only[k2x,q9c];rw[show qc kz qz (s,(s.length:Int),0,[],())=some (vv s,()) from this];rfl
def src(k:Int)(s:List UInt8):List UInt8:=if k=1 then [34]++vv s++[34]else if k=3 then [40]++s++[41]else if k=5 then [91]++s++[93]else s
theorem c9(k:Int)(s:List UInt8)(a:Int)(hb:s.length<=9000):C89 (k,s,a,())=some (src k s,()):=by
 have hl:=q7b s;show F89 v1q (k,s,a,())=_;by_cases e1:k=1
 . simp (disch:=omega) only[F89,c14,ibT,cond_true,decide_eq_true,jf,Option.bind_some,src,if_pos]
 . by_cases e3:k=3
   . simp (disch:=omega) only[F89,ibT,ibF,cond_true,cond_false,decide_eq_true,jf,Option.bind_some,src,if_pos,if_neg]
   . by_cases e5:k=5
     . simp (disch:=omega) only[F89,ibT,ibF,cond_true,cond_false,decide_eq_true,jf,Option.bind_some,src,if_pos,if_neg]
     . simp (disch:=omega) only[F89,ibT,ibF,cond_true,cond_false,src,if_neg]
abbrev T64:=Int×Unit->Option (Int×Unit)
def E64(f:T64):FEnt:=⟨j6o,g2q,f⟩
def F64:T64:=λ(x0,_)=>bif decide (x0>=65)then bif decide (x0<=90)then some (IntKind.u8.wrap (IntKind.u8.wrap (x0-65)+97),())else some (x0,())else some (x0,())
def C64:T64:=F64
theorem m1z:FO 64 (E64 C64):=zq0 j6o g2q yu F64 kn func64
abbrev z8j:=qa×Int×Int×qa×Unit->Option (qa×Unit)
def v3i(f:z8j):LEnt:=⟨w9c,g2s,f⟩
abbrev T63:=qa×Unit->Option (qa×Unit)
def E63(f:T63):FEnt:=⟨w9b,g2r,f⟩
def K63(f64:T64):=lk [(64,E64 f64)]
theorem g4d:zh prog (K63 C64):=(kc m1z kn)
def z0b(f64:T64):ym (qa×Int×Int×qa×Unit) (qa×Unit):=λ(x0,x1,x2,x3,_)=>bif decide (x2<x1)then bif decide (0<=x2)&&decide (x2<(↑x0.length:Int))then(f64 ((↑(UInt8.toNat (x0.getD x2.toNat 0)):Int),())).bind λv=>bif decide (x3.length+[UInt8.ofNat (Int.toNat v.1)].length<=140737488355328/1)then some (Sum.inl (x0,x1,IntKind.i64.wrap (x2+1),x3++[UInt8.ofNat (Int.toNat v.1)],()))else none else none else some (Sum.inr (x3,()))
def j9x:z8j:=qc (z0b C64) qz
theorem f2x:jg 0 (qd (code f63) [1,1,0,1,0,0]) (v3i j9x):=zl1 w9c g2s K63 z0b C64 g4d
def N63(f63_l0:z8j):Ann:=(.seq .nil (.seq .nil (.seq (.seq .nil (.blk (.loop (v3i f63_l0)))) .nil)))
def F63(f64:T64)(f63_l0:z8j):T63:=λ(x0,_)=>(f63_l0 (x0,(↑x0.length:Int),0,[],())).bind λv=>some (v.1,())
def C63:T63:=F63 C64 j9x
theorem m1y:FO 63 (E63 C63):=ke w9b g2r K63 N63 F63 C64 j9x g4d func63 (And.intro f2x trivial)
abbrev T25:=qa×Unit->Option (qa×Unit)
def E25(f:T25):FEnt:=⟨yh,q8i,f⟩
def K25(f63:T63):=lk [(63,E63 f63)]
def F25(f63:T63):T25:=λ(x0,_)=>bif decide (x0.length<=9223372036854775807)then(f63 (x0,())).bind λv=>some (v.1,())else none
def C25:T25:=F25 C63
theorem f3z:FO 25 (E25 C25):=kb yh q8i K25 F25 C63 (kc m1y kn) func25
abbrev T59:=Bool×qa×qa×Unit->Option (Bool×Unit)
def E59(f:T59):FEnt:=⟨x3g,qv,f⟩
def K59(f25:T25):=lk [(25,E25 f25)]
def F59(f25:T25):T59:=λ(x0,x1,x2,_)=>bif !x0 then bif x2==[]then(f25 (x1,())).bind λv=>some (v.1==[112,111,115,116,109,97,115,116,101,114],())else some (false,())else some (false,())
def wm:T59:=F59 C25
theorem f4a:FO 59 (E59 wm):=kb x3g qv K59 F59 C25 (kc f3z kn) func59
abbrev j4w:=qu×qw×qx×Bool×qa×qa×Bool×qa×qa×Unit->Option (Int×Bool×qa×qa×Unit)
def v3c(f:j4w):LEnt:=⟨w9d,z3x,f⟩
abbrev j4x:=Int×LqD×Int×qu×qw×qx×Bool×qa×qa×Bool×qa×qa×Unit->Option ((Int×Bool×qa×qa×Unit)⊕(Int×Bool×qa×qa×Unit))
def v3d(f:j4x):LEnt:=⟨x3h,g2u,f⟩
abbrev j4y:=Int×LqD×Int×qu×qw×qx×Bool×qa×qa×Bool×qa×qa×Unit->Option ((Int×Bool×qa×qa×Unit)⊕(Int×Bool×qa×qa×Unit))
def v3e(f:j4y):LEnt:=⟨x3h,g2v,f⟩
abbrev z0w:=Int×Bool×qa×qa×Unit->Option (Int×Bool×qa×qa×Unit)
def v3f(f:z0w):LEnt:=⟨z3u,z3x,f⟩
abbrev T40:=qu×qw×qx×qa×Unit->Option (Bool×qa×qa×Int×Unit)
def E40(f:T40):FEnt:=⟨ww,g2t,f⟩
def K40(f44:T44)(f59:T59)(f67:T67)(f71:T71)(f79:T79)(f80:T80):=lk [(44,E44 f44),(59,E59 f59),(67,E67 f67),(71,E71 f71),(79,E79 f79),(80,E80 f80)]
theorem y3h:zh prog (K40 C44 wm C67 C71 C79 C80):=(kc b9s (kc f4a (kc b9v (kc m2b (kc m2d (kc m2e kn))))))
def q8g(f44:T44)(f59:T59)(f67:T67)(f71:T71)(f79:T79)(f80:T80):j4w:=λ(x0,x1,x2,x3,x4,x5,x6,x7,x8,_)=>(f44 (x0,x1,x2,x7,x8,())).bind λv=>bif v.1==0 then some (0,x6,x7,x8,())else some (v.1,false,[],[],())
theorem f2d(f44:T44)(f59:T59)(f67:T67)(f71:T71)(f79:T79)(f80:T80):AqC (K40 f44 f59 f67 f71 f79 f80) 0 (qd (code f40) [1,0,1,1,1,1,1,1,1,1,1,1,1]) .nil w9d z3x (q8g f44 f59 f67 f71 f79 f80):=λv=>by kernel_rfl
def q3t:j4w:=q8g C44 wm C67 C71 C79 C80
theorem f2r:zc 0 (qd (code f40) [1,0,1,1,1,1,1,1,1,1,1,1,1]) (v3c q3t) :=
 frc y3h (f2d C44 wm C67 C71 C79 C80)
def g9b(f40_c0:j4w):Ann:=(.cut .nil (v3c f40_c0))
def q8h(f44:T44)(f59:T59)(f67:T67)(f71:T71)(f79:T79)(f80:T80)(f40_c0:j4w):j4x:=λ(x0,x1,x2,x3,x4,x5,x6,x7,x8,x9,x10,x11,_)=>bif decide (0<=x0)&&decide (x0<=(↑x1.length:Int))then bif decide (1<=x0)then(f71 (List.drop 1 (List.take x0.toNat x1),())).bind λv=>bif !v.2.2.2.1 then some (Sum.inl (x2,x6,x7,x8,()))else bif v.2.2.1 != IntKind.i64.wrap (x0-1)then some (Sum.inl (x2,x6,x7,x8,()))else(f40_c0 (x3,x4,x5,x6,x7,x8,x9,v.1,v.2.1,())).bind λv=>some (Sum.inr (v.1,v.2.1,v.2.2.1,v.2.2.2.1,()))else none else none
theorem f2e(f44:T44)(f59:T59)(f67:T67)(f71:T71)(f79:T79)(f80:T80)(f40_c0:j4w):AqC (K40 f44 f59 f67 f71 f79 f80) 0 (qd (code f40) [1,0,1,1,1,1,1,1,1,1,1,1]) (g9b f40_c0) x3h g2u (q8h f44 f59 f67 f71 f79 f80 f40_c0):=λv=>by kernel_rfl
def xm:j4x:=q8h C44 wm C67 C71 C79 C80 q3t
theorem f2s:zc 0 (qd (code f40) [1,0,1,1,1,1,1,1,1,1,1,1]) (v3d xm) :=
 frd y3h (And.intro f2r trivial) (f2e C44 wm C67 C71 C79 C80 q3t)
def g9c(f40_c1:j4x):Ann:=(.seq .nil (.seq .nil (.cut .nil (v3d f40_c1))))
def q2k(f44:T44)(f59:T59)(f67:T67)(f71:T71)(f79:T79)(f80:T80)(f40_c1:j4x):j4y:=λ(x0,x1,x2,x3,x4,x5,x6,x7,x8,x9,x10,x11,_)=>bif x0==1 then some (Sum.inl (0,true,[],[],()))else bif decide (1<(↑x1.length:Int))then bif x0==2 then bif decide (1<(↑x1.length:Int))then bif(x1.getD 1 (0,([],0))).1==0 then(f59 (x9,(x1.getD 1 (0,([],0))).2.1,x11,())).bind λv=>bif v.1 then some (Sum.inl (0,x9,(x1.getD 1 (0,([],0))).2.1,x11,()))else(f40_c1 (x0,x1,x2,x3,x4,x5,x6,x7,x8,x9,(x1.getD 1 (0,([],0))).2.1,x11,())).bind λv=>Sum.elim (λv=>some (Sum.inr (v.1,v.2.1,v.2.2.1,v.2.2.2.1,()))) (λv=>some (Sum.inl (v.1,v.2.1,v.2.2.1,v.2.2.2.1,()))) v else(f40_c1 (x0,x1,x2,x3,x4,x5,x6,x7,x8,x9,(x1.getD 1 (0,([],0))).2.1,x11,())).bind λv=>Sum.elim (λv=>some (Sum.inr (v.1,v.2.1,v.2.2.1,v.2.2.2.1,()))) (λv=>some (Sum.inl (v.1,v.2.1,v.2.2.1,v.2.2.2.1,()))) v else none else(f40_c1 (x0,x1,x2,x3,x4,x5,x6,x7,x8,x9,(x1.getD 1 (0,([],0))).2.1,x11,())).bind λv=>Sum.elim (λv=>some (Sum.inr (v.1,v.2.1,v.2.2.1,v.2.2.2.1,()))) (λv=>some (Sum.inl (v.1,v.2.1,v.2.2.1,v.2.2.2.1,()))) v else none
theorem f2f(f44:T44)(f59:T59)(f67:T67)(f71:T71)(f79:T79)(f80:T80)(f40_c1:j4x):AqC (K40 f44 f59 f67 f71 f79 f80) 0 (qd (code f40) [1,0,1,1,1,1,1,1,1]) (g9c f40_c1) x3h g2v (q2k f44 f59 f67 f71 f79 f80 f40_c1):=λv=>by kernel_rfl
def xn:j4y:=q2k C44 wm C67 C71 C79 C80 xm
theorem f2t:zc 0 (qd (code f40) [1,0,1,1,1,1,1,1,1]) (v3e xn) :=
 frd y3h (And.intro f2s trivial) (f2f C44 wm C67 C71 C79 C80 xm)
def j4p(f44:T44)(f59:T59)(f67:T67)(f71:T71)(f79:T79)(f80:T80):ym (Int×Bool×qa×qa×Unit) (Int×Bool×qa×qa×Unit):=λ(x0,x1,x2,x3,_)=>some (Sum.inr (x0,false,[],[],()))
theorem f2g(f44:T44)(f59:T59)(f67:T67)(f71:T71)(f79:T79)(f80:T80)(v:HS z3u):aev Γ (K40 f44 f59 f67 f71 f79 f80) 0 ((findLabel (qd (code f40) [1,0]) 0).getD .skip) .nil (v1j z3u v) (we 0 0 [] z3u z3x)=j4p f44 f59 f67 f71 f79 f80 v:=by kernel_rfl
def q2g:z0w:=qc (j4p C44 wm C67 C71 C79 C80) qz
theorem f2u:jt prog 0 (js prog (qd (code f40) [1,0]) 0) (v3f q2g) :=
 yb (ins:=z3u) (os:=z3x) (C:=q2g) (q2o (ins:=z3u) (os:=z3x) (n := .nil) (ls:=[]) (F:=j4p C44 wm C67 C71 C79 C80) (rest:=((findLabel (qd (code f40) [1,0]) 0).getD .skip)) hm hΓ y3h (λ_=>qz) (by kernel_rfl) (jm _) q4h (f2g C44 wm C67 C71 C79 C80)) rfl
def N40(f40_c2:j4y)(f40_g0:z0w):Ann:=(.seq .nil (.scope (.seq .nil (.seq .nil (.seq .nil (.seq .nil (.seq .nil (.seq .nil (.cut .nil (v3e f40_c2)))))))) [(0,(v3f f40_g0))]))
def F40(f44:T44)(f59:T59)(f67:T67)(f71:T71)(f79:T79)(f80:T80)(f40_c2:j4y)(f40_g0:z0w):T40:=λ(x0,x1,x2,x3,_)=>(f67 (x3,())).bind λv=>bif v.2.2.1 != 0 then(f40_g0 (v.2.2.1,false,[],[],())).bind λv=>some (v.2.1,v.2.2.1,v.2.2.2.1,v.1,())else bif decide (IntKind.i64.wrap ((↑(List.length v.1):Int)-1)<1)then(f40_g0 (4,false,[],[],())).bind λv=>some (v.2.1,v.2.2.1,v.2.2.2.1,v.1,())else bif decide (0<(↑(List.length v.1):Int))then(f79 ((List.getD v.1 0 (0,([],0))).1,(List.getD v.1 0 (0,([],0))).2.1,(List.getD v.1 0 (0,([],0))).2.2,[60],())).bind λv1=>bif !v1.1 then(f40_g0 (4,false,[],[],())).bind λv=>some (v.2.1,v.2.2.1,v.2.2.2.1,v.1,())else bif decide (0<=IntKind.i64.wrap ((↑(List.length v.1):Int)-1))&&decide (IntKind.i64.wrap ((↑(List.length v.1):Int)-1)<(↑(List.length v.1):Int))then(f79 ((List.getD v.1 (IntKind.i64.wrap ((↑(List.length v.1):Int)-1)).toNat (0,([],0))).1,(List.getD v.1 (IntKind.i64.wrap ((↑(List.length v.1):Int)-1)).toNat (0,([],0))).2.1,(List.getD v.1 (IntKind.i64.wrap ((↑(List.length v.1):Int)-1)).toNat (0,([],0))).2.2,[62],())).bind λv2=>bif !v2.1 then(f40_g0 (4,false,[],[],())).bind λv=>some (v.2.1,v.2.2.1,v.2.2.2.1,v.1,())else bif decide (0<=IntKind.i64.wrap ((↑(List.length v.1):Int)-1))&&decide (IntKind.i64.wrap ((↑(List.length v.1):Int)-1)<=(↑(List.length v.1):Int))then bif decide (1<=IntKind.i64.wrap ((↑(List.length v.1):Int)-1))then(f80 (List.drop 1 (List.take (IntKind.i64.wrap ((↑(List.length v.1):Int)-1)).toNat v.1),())).bind λv3=>bif v3.1 then(f40_g0 (4,false,[],[],())).bind λv=>some (v.2.1,v.2.2.1,v.2.2.2.1,v.1,())else(f40_c2 (IntKind.i64.wrap ((↑(List.length v.1):Int)-1),v.1,4,x0,x1,x2,false,[],[],false,[],[],())).bind λv=>Sum.elim (λv=>some (v.2.1,v.2.2.1,v.2.2.2.1,v.1,())) (λv=>(f40_g0 (v.1,v.2.1,v.2.2.1,v.2.2.2.1,())).bind λv=>some (v.2.1,v.2.2.1,v.2.2.2.1,v.1,())) v else none else none else none else none
theorem h40(f44:T44)(f59:T59)(f67:T67)(f71:T71)(f79:T79)(f80:T80)(f40_c2:j4y)(f40_g0:z0w):zz (K40 f44 f59 f67 f71 f79 f80) 0 f40 (N40 f40_c2 f40_g0) ww g2t (F40 f44 f59 f67 f71 f79 f80 f40_c2 f40_g0):=λv=>by kernel_rfl
def C40:T40:=F40 C44 wm C67 C71 C79 C80 xn q2g
theorem m1p:FO 40 (E40 C40) :=
 qo y3h func40 (And.intro f2t (And.intro f2u trivial)) (h40 C44 wm C67 C71 C79 C80 xn q2g)
abbrev T22:=Bool×qa×qa×Unit->Option (qa×Unit)
def E22(f:T22):FEnt:=⟨x3g,q8i,f⟩
def K22(f45:T45)(f59:T59):=lk [(45,E45 f45),(59,E59 f59)]
def F22(f45:T45)(f59:T59):T22:=λ(x0,x1,x2,_)=>bif x0 then some ([60,62],())else(f59 (x0,x1,x2,())).bind λv=>bif v.1 then bif decide ([60].length+x1.length<=9223372036854775807)then bif decide (([60]++x1).length+[62].length<=9223372036854775807)then some ([60]++x1++[62],())else none else none else(f45 (x1,x2,())).bind λv=>bif decide ([60].length+List.length v.1<=9223372036854775807)then bif decide (([60]++v.1).length+[62].length<=9223372036854775807)then some ([60]++v.1++[62],())else none else none
def C22:T22:=F22 C45 wm
theorem m1l:FO 22 (E22 C22):=zq2 x3g q8i K22 F22 C45 wm (kc m1q (kc f4a kn)) func22
abbrev z0m:=Bool×qu×qw×qx×Bool×qa×qa×Unit->Option ((Int×Unit)⊕(qu×qw×qx×Bool×qa×qa×Unit))
def v2o(f:z0m):LEnt:=⟨w9f,g2w,f⟩
abbrev T20:=qu×qw×qx×Bool×qa×qa×Unit->Option (Int×Unit)
def E20(f:T20):FEnt:=⟨w9e,jd,f⟩
def K20(f44:T44)(f59:T59):=lk [(44,E44 f44),(59,E59 f59)]
theorem g3z:zh prog (K20 C44 wm):=(kc b9s (kc f4a kn))
def q3w(f44:T44)(f59:T59):z0m:=λ(x0,x1,x2,x3,x4,x5,x6,_)=>bif x0 then some (Sum.inl (1,()))else bif x4 then some (Sum.inl (0,()))else(f59 (x4,x5,x6,())).bind λv=>bif v.1 then some (Sum.inl (0,()))else some (Sum.inr (x1,x2,x3,x4,x5,x6,()))
def wu:z0m:=q3w C44 wm
theorem f2m:zc 0 (qd (code f20) [1,0,0,1]) (v2o wu):=zc2 w9f g2w K20 q3w C44 wm g3z
def N20(f20_c0:z0m):Ann:=(.seq .nil (.seq (.blk (.cut .nil (v2o f20_c0))) .nil))
def F20(f44:T44)(f59:T59)(f20_c0:z0m):T20:=λ(x0,x1,x2,x3,x4,x5,_)=>bif x3 then(f20_c0 (!(x4==[]&&(x5==[]&&true)),x0,x1,x2,x3,x4,x5,())).bind λv=>Sum.elim (λv=>some (v.1,())) (λv=>(f44 (v.1,v.2.1,v.2.2.1,v.2.2.2.2.1,v.2.2.2.2.2.1,())).bind λv=>some (v.1,())) v else(f20_c0 (false,x0,x1,x2,x3,x4,x5,())).bind λv=>Sum.elim (λv=>some (v.1,())) (λv=>(f44 (v.1,v.2.1,v.2.2.1,v.2.2.2.2.1,v.2.2.2.2.2.1,())).bind λv=>some (v.1,())) v
def C20:T20:=F20 C44 wm wu
theorem m1k:FO 20 (E20 C20):=q7w w9e jd K20 N20 F20 C44 wm wu g3z func20 (And.intro f2m trivial)
def Df{α:Type}(x:Option α)(Q:α->Prop):Prop:=∃y,x=some y/\Q y
section
variable {α β γ:Type} {Q:α->Prop}
theorem dP{y:α}(h:Q y):Df (some y) Q:=⟨y,rfl,h⟩
theorem dO(h:False):Df (none:Option α) Q:=h.elim
theorem dZ{x:Option β}{f:β->Option α}{P:β->Prop}(h:Df x P)(hf:∀a,P a->Df (f a) Q):Df (x.bind f) Q:=by
 obtain⟨a,rfl,ha⟩:=h;exact hf a ha
theorem Df.mono{x:Option α}{P:α->Prop}(h:Df x P)(hf:∀a,P a->Q a):Df x Q:=by
 obtain⟨a,e,ha⟩:=h;exact⟨a,e,hf a ha⟩
theorem Df.and{x:Option α}{P P':α->Prop}(h:Df x P)(h':Df x P'):Df x λy=>P y/\P' y:=by
 obtain⟨a,e,ha⟩:=h;obtain⟨b,e',hb⟩:=h';rw[e]at e';cases e';exact⟨a,e,ha,hb⟩
theorem dB{b:Bool}{x y:Option α}(h1:b=true->Df x Q)(h2:b=false->Df y Q):Df (bif b then x else y) Q:=by
 cases b
 . exact h2 rfl
 . exact h1 rfl
theorem dH{b:Bool}{x y:Option α}(h1:b=false->Df x Q)(h2:b=true->Df y Q):Df (bif !b then x else y) Q:=by
 cases b
 . exact h1 rfl
 . exact h2 rfl
theorem dD{p:Prop}{dp:Decidable p}{x y:Option α}(h1:p->Df x Q)(h2:¬p->Df y Q):Df (bif decide p then x else y) Q:=by
 by_cases h:p
 . rw[decide_eq_true h];exact h1 h
 . rw[decide_eq_false h];exact h2 h
theorem dG{a b:Int}{x y:Option α}(h1:a=b->Df x Q)(h2:a≠b->Df y Q):Df (bif a==b then x else y) Q:=by
 by_cases h:a=b
 . rw[ibT h];exact h1 h
 . rw[ibF h];exact h2 h
class Rd (b:Bool) (p q:outParam Prop):Prop where
 t:b=true->p
 f:b=false->q
instance (priority := low) (b : Bool) : Rd b (b = true) (b = false) := ⟨id, id⟩
instance (b : Bool) : Rd (!b) (b = false) (b = true) := ⟨λh => by cases b <;> simp_all, λh => by cases b <;> simp_all⟩
instance (p : Prop) [Decidable p] : Rd (decide p) p (¬ p) := ⟨of_decide_eq_true, of_decide_eq_false⟩
instance (p : Prop) [Decidable p] : Rd (!decide p) (¬ p) p := ⟨λh => by simpa using h, λh => by simpa using h⟩
instance (p q : Prop) [Decidable p] [Decidable q] : Rd (decide p && decide q) (p /\ q) (¬ (p /\ q)) := ⟨λh => by simpa using h, λh => by simpa using h⟩
instance (a b : Int) : Rd (a == b) (a = b) (a ≠ b) := ⟨λh => by simpa using h, λh => by simpa using h⟩
instance (a b : Int) : Rd (a != b) (a ≠ b) (a = b) := ⟨λh => by simpa using h, λh => by simpa using h⟩
theorem dX{b:Bool}{p q:Prop}[r:Rd b p q]{x y:Option α}(h1:p->Df x Q)(h2:q->Df y Q):Df (bif b then x else y) Q:=by
 have h:b=true\/b=false:=by cases b<;>simp
 rcases h with h|h
 . rw[h];exact h1 (r.t h)
 . rw[h];exact h2 (r.f h)
theorem dS{f:β->Option α}{g:γ->Option α}{s:β⊕γ}{P:β->Prop}{P':γ->Prop}(hs:Sum.elim P P' s)(h1:∀a,P a->Df (f a) Q)(h2:∀b,P' b->Df (g b) Q):Df (Sum.elim f g s) Q:=by
 cases s with
 | inl a=>exact h1 a hs
 | inr b=>exact h2 b hs
theorem Df.loop{F:β->Option (β⊕α)}(I:β->Prop)(μ:β->Nat)(h:∀v,I v->Df (F v) (Sum.elim (λv'=>I v'/\μ v'<μ v) Q))(n:Nat)(v:β)(hv:I v)(hn:μ v<n):Df (qc F n v) Q:=by
 refine y3l I Q μ (λv hv => ?_) n v hv hn;obtain⟨y,e,hy⟩:=h v hv;cases y with
 | inl v'=>exact .inl ⟨v',e,hy.1,hy.2⟩
 | inr y=>exact .inr ⟨y,e,hy⟩
theorem dL{F:β->Option (β⊕α)}(I:β->Prop)(μ:β->Nat)(h:∀v,I v->Df (F v) (Sum.elim (λv'=>I v'/\μ v'<μ v) Q))(v:β)(hv:I v)(hn:μ v<1000000000000000000):Df (qc F qz v) Q :=
 Df.loop I μ h qz v hv (by unfold qz;omega)
end
theorem k2d(n:Int):IntKind.i64.wrap n=(n+9223372036854775808)%18446744073709551616-9223372036854775808:=by rw[IntKind.wrap_i64]
theorem m4n(n:Int):IntKind.i32.wrap n=(n+2147483648)%4294967296-2147483648:=by
 simp[IntKind.wrap,IntKind.bits,IntKind.signed];split<;>omega
theorem d0u(n:Int):IntKind.u64.wrap n=n%18446744073709551616:=IntKind.wrap_u64 n
theorem qg{n:Int}(h : -9000000000000000000<=n/\n<=9000000000000000000):IntKind.i64.wrap n=n:=by rw[k2d];omega
theorem k2c{n:Int}(h : -2000000000<=n/\n<=2000000000):IntKind.i32.wrap n=n:=by rw[m4n];omega
theorem v9l{a b:Int}(ha:0<=a)(hb:0<=b)(h:a+b<=9000000000000000000):IntKind.i64.wrap ((IntKind.u64.wrap (IntKind.i64.wrap (a+b))).fdiv (2^min 1 IntKind.u64.bits))=(a+b)/2:=by
 rw[qg (n:=a+b) (by omega),d0u,show (2:Int)^min 1 IntKind.u64.bits=2 from rfl,Int.fdiv_eq_ediv_of_nonneg _ (by omega),qg (by omega)];omega
theorem j3c(s:List UInt8)(p:Nat):1<=(yw s p).2:=by
 unfold yw Utf8.decode;dsimp only;repeat' split
 all_goals (first|omega|(dsimp only;omega))
theorem k8m(x:Int):Df (xi (x,())) (λy=>y.1=true->0<=x/\x<=1114111):=by
 show Df (v4b _) _;unfold v4b;dsimp only;with_reducible repeat' (first|apply dP|apply dX<;>intro _)
 all_goals (dsimp only;intro h';first|omega|cases h')
theorem b3f(x:Int):Df (xg (x,())) (λy=>0<=y.1/\y.1<=4):=by
 show Df (y1a xi _) _;unfold y1a;dsimp only;refine dZ (k8m x) ?_;rintro⟨b,u⟩ hb;dsimp only;with_reducible repeat' (first|apply dP|apply dX<;>intro _)
 all_goals (first|omega|(dsimp only;omega))
theorem g9u(x:Int)(b:Bool):Df (q1y (x,b,())) (Sum.elim (λy=>0<=y.1/\y.1<=3) (λ_=>True)):=by
 show Df (q5f _) _;unfold q5f;dsimp only;with_reducible repeat' (first|apply dP|apply dX<;>intro _)
 all_goals (first|trivial|exact⟨by(try dsimp only);omega,by(try dsimp only);omega⟩)
theorem g9v(x:Int)(b:Bool):Df (q1z (x,b,())) (Sum.elim (λy=>0<=y.1/\y.1<=3) (λ_=>True)):=by
 show Df (q5g q1y _) _;unfold q5g;dsimp only;with_reducible repeat' (first|apply dP|apply dX<;>intro _)
 all_goals (first|trivial|exact⟨by(try dsimp only);omega,by(try dsimp only);omega⟩|(refine dZ (g9u _ _) ?_;intro s hs;exact dS hs (λa ha=>dP ha) (λ_ _=>dP trivial)))
theorem b3e(x:Int):Df (kp (x,())) (λy => -1<=y.1/\y.1<=3):=by
 show Df (x7d q1z _) _;unfold x7d;dsimp only;with_reducible repeat' (first|apply dP|apply dX<;>intro _)
 all_goals (first|(first|omega|(dsimp only;omega))|(refine dZ (g9v _ _) ?_;intro s hs;exact dS hs (λa ha=>dP ⟨by have:=ha.1;dsimp only;omega,ha.2⟩) (λ_ _=>dP (by(try dsimp only);omega))))
theorem b4f(s:List UInt8)(n r at_ k:Int)(o:List Int)(h:0<=at_)(hn:0<=n/\n<=3)(hl:at_+n<s.length)(hk:at_+1<=k)(hb:s.length<=1000000000000) :
 Df (q3v (s,n,r,at_,k,o,())) (Sum.elim (λy=>y.1=s/\y.2.1=n/\y.2.2.2.1=at_/\y.2.2.2.2.1=o) (λy=>y.1=at_/\y.2.1=o)):=by
 refine dL ?I ?m ?h _ ?hv ?hn
 case I=>exact(λv=>v.1=s/\v.2.1=n/\v.2.2.2.1=at_/\v.2.2.2.2.2.1=o/\at_+1<=v.2.2.2.2.1)
 case m=>exact(λv=>(at_+n+1-v.2.2.2.2.1).toNat)
 case hv=>exact⟨rfl,rfl,rfl,rfl,hk⟩
 case hn=>exact(by(try dsimp only);omega)
 rintro⟨x0,x1,x2,x3,x4,x5,u⟩ hI;dsimp only at hI;obtain⟨rfl,rfl,rfl,rfl,hI⟩:=hI;unfold q3y;dsimp only;rw[qg (n:=x3+x1) (by omega)];with_reducible repeat' (first|apply dP|apply dX<;>intro _)
 . exact⟨rfl,rfl⟩
 . rw[qg (by omega)]
   exact⟨⟨rfl,rfl,rfl,rfl,by(try dsimp only);omega⟩,by(try dsimp only);omega⟩
 . refine dO ?_;omega
 . refine dO ?_;omega
 . exact⟨rfl,rfl,rfl,rfl⟩
theorem d83(s:List UInt8)(hb:s.length<=1000000000000):Df (C83 (s,())) (λy=>y.1.length<=s.length/\(y.2.1 = -1\/0<=y.2.1/\y.2.1<s.length)/\(y.2.1<0->0<s.length->0<y.1.length)):=by
 show Df (F83 kp xg q3u q8e _) _;unfold F83;dsimp only;refine dZ (P:=Sum.elim (λy=>y.1.length<=s.length/\(0<s.length->0<y.1.length)) (λy=>y.2.1.length<=s.length/\0<=y.1/\y.1<s.length)) ?_ ?_
 . refine dL ?I ?m ?h _ ?hv ?hn
   case I=>exact(λv=>v.1=s/\0<=v.2.1/\v.2.1<=s.length/\v.2.2.1.length<=v.2.1/\(0<v.2.1->0<v.2.2.1.length))
   case m=>exact(λv=>(s.length-v.2.1).toNat)
   case hv=>exact⟨rfl,by(try dsimp only);omega,by(try dsimp only);omega,by simp,by simp⟩
   case hn=>exact(by(try dsimp only);omega)
   rintro⟨x0,x1,x2,u⟩ hI;dsimp only at hI;obtain⟨rfl,h0,h1,h2,h2'⟩:=hI;unfold kh;dsimp only;with_reducible repeat' (first|apply dP|apply dX<;>intro _)
   . refine dZ (b3e _) ?_
     rintro⟨n,r,u⟩ hn;dsimp only at hn ⊢;rw[qg (n:=(x0.length:Int)-x1) (by omega)];with_reducible repeat' (first|apply dP|apply dX<;>intro _)
     . exact⟨by(try dsimp only);omega,by(try dsimp only);omega,by(try dsimp only);omega⟩
     . exact⟨by(try dsimp only);omega,by(try dsimp only);omega,by(try dsimp only);omega⟩
     . rw[qg (n:=x1+1) (by omega)]
       refine dZ (b4f x0 n r x1 (x1+1) x2 h0 (by omega) (by omega) (by omega) hb) ?_;intro s hs;refine dS hs ?_ ?_
       . rintro⟨a0,a1,a2,a3,a4,u⟩ ha
         dsimp only at ha ⊢;obtain⟨rfl,rfl,rfl,rfl⟩:=ha;refine dZ (b3f _) ?_;rintro⟨m,u⟩ hm;dsimp only at hm ⊢;with_reducible repeat' (first|apply dP|apply dX<;>intro _)
         . exact⟨by(try dsimp only);omega,by(try dsimp only);omega,by(try dsimp only);omega⟩
         . rw[qg (n:=a1+1) (by omega),qg (by omega)]
           exact⟨⟨rfl,by(try dsimp only);omega,by(try dsimp only);omega,by simp only[jf];omega,λ_=>by simp only[jf];omega⟩,by(try dsimp only);omega⟩
         . refine dO ?_
           simp only[length_cons,length_nil]at *
           omega
       . rintro⟨a0,a1,u⟩ ha
         dsimp only at ha ⊢;obtain⟨rfl,rfl⟩:=ha;exact dP ⟨by(try dsimp only);omega,by(try dsimp only);omega,by(try dsimp only);omega⟩
   . refine dO ?_;omega
   . exact⟨by(try dsimp only);omega,λ_=>h2' (by omega)⟩
 . intro r hr
   refine dS hr ?_ ?_
   . rintro⟨a,u⟩ ha
     exact dP ⟨ha.1,.inl rfl,λ_=>ha.2⟩
   . rintro⟨a,b,u⟩ ha
     exact dP ⟨ha.1,.inr ha.2,λh=>by have:=ha.2.1;dsimp only at h this;omega⟩
theorem v0k(l:List Int)(hb:l.length<=20000000000000):Df (z5p (l,())) (λy=>y.1.length<=4*l.length):=by
 show Df (x7n xg q9p _) _;unfold x7n;dsimp only;refine dZ (P:=Sum.elim (λy=>y.1.length<=4*l.length) (λy=>y.1.length<=4*l.length)) ?_ ?_
 . refine dL ?I ?m ?h _ ?hv ?hn
   case I=>exact(λv=>v.1=l/\v.2.1=l.length/\0<=v.2.2.1/\v.2.2.1<=l.length/\v.2.2.2.1.length<=4*v.2.2.1)
   case m=>exact(λv=>(l.length-v.2.2.1).toNat)
   case hv=>exact⟨rfl,rfl,by(try dsimp only);omega,by(try dsimp only);omega,by simp⟩
   case hn=>exact(by(try dsimp only);omega)
   rintro⟨x0,x1,x2,x3,u⟩ hI;dsimp only at hI;obtain⟨rfl,rfl,h0,h1,h2⟩:=hI;unfold j7q;dsimp only;with_reducible repeat' (first|apply dP|apply dX<;>intro _)
   . refine dZ (b3f _) ?_
     rintro⟨m,u⟩ hm;dsimp only at hm ⊢;rw[qg (n:=x2+1) (by omega)];with_reducible repeat' (first|apply dP|apply dX<;>intro _)
     all_goals first
      | exact(by simp:(([]:List UInt8).length<=4*x0.length))
      | exact⟨⟨rfl,rfl,by(try dsimp only);omega,by(try dsimp only);omega,by simp only[jf];omega⟩,by(try dsimp only);omega⟩
      | (refine dO ?_;simp only[length_cons,length_nil]at *;omega)
   . refine dO ?_;omega
   . exact(by(try dsimp only);omega:x3.length<=4*x0.length)
 . intro r hr
   refine dS hr ?_ ?_
   . rintro⟨a,u⟩ ha;exact dP ha
   . rintro⟨a,b,u⟩ ha;exact dP ha
theorem d21(s:List UInt8)(hb:s.length<=1000000000000000):Df (C21 (s,())) (λy=>y.1<s.length/\(y.1<0->∀c∈s,c.toNat<128)):=by
 show Df (F21 z5w _) _;unfold F21;dsimp only;refine dZ (P:=Sum.elim (λy=>∀c∈s,c.toNat<128) (λy=>0<=y.1/\y.1<s.length)) ?_ ?_
 . refine dL ?I ?m ?h _ ?hv ?hn
   case I=>exact(λv=>v.1=s/\v.2.1=s.length/\0<=v.2.2.1/\v.2.2.1<=s.length/\∀c∈s.take v.2.2.1.toNat,c.toNat<128)
   case m=>exact(λv=>(s.length-v.2.2.1).toNat)
   case hv=>exact⟨rfl,rfl,by(try dsimp only);omega,by(try dsimp only);omega,by simp⟩
   case hn=>exact(by(try dsimp only);omega)
   rintro⟨x0,x1,x2,u⟩ hI;dsimp only at hI;obtain⟨rfl,rfl,h0,h1,h2⟩:=hI;unfold z6v;dsimp only;with_reducible repeat' (first|apply dP|apply dX<;>intro _)
   . exact⟨by(try dsimp only);omega,by(try dsimp only);omega⟩
   . rename_i h3 h4 h5
     rw[qg (n:=x2+1) (by omega)];have hlt:x2.toNat<x0.length:=by omega
     refine⟨⟨rfl,rfl,by(try dsimp only);omega,by(try dsimp only);omega,?_⟩,by(try dsimp only);omega⟩;dsimp only;intro c hc;rw[show (x2+1).toNat=x2.toNat+1 by omega,qk hlt]at hc;rcases mem_append.1 hc with hc|hc
     . exact h2 c hc
     . rw[mem_singleton]at hc
       rw[getD_lt hlt]at h5;subst hc;omega
   . refine dO ?_;omega
   . intro c hc
     refine h2 c ?_;rw[take_of_length_le (by omega)];exact hc
 . intro r hr
   refine dS hr ?_ ?_
   . intro u hu;exact dP ⟨by(try dsimp only);omega,λ_=>hu⟩
   . rintro⟨a,u⟩ ha;exact dP ⟨ha.2,λh=>by have:=ha.1;dsimp only at h this;omega⟩
abbrev R6:=Int×Int×Int×Int×Int×Int
abbrev R4:=Int×Int×Int×Int
abbrev R3:=Int×Int×Int
theorem b4a(a b c d e f g:Int):Df (y0u (a,b,c,d,e,f,g,())) (λ_=>True):=by
 show Df (k4u _) _;unfold k4u;dsimp only;with_reducible repeat' (first|apply dP|apply dX<;>intro _)
 all_goals trivial
theorem d8g(T:List R6)(r:Int)(hT:T.length<=1000000000000):Df (v2d (T,r,())) (λy=>0<=y.1/\(y.2.1=true->y.1<T.length)):=by
 show Df (k4t y0u j7g _) _;unfold k4t;dsimp only;refine dZ (P:=λy=>y.1=T/\y.2.2.1=T.length/\0<=y.2.2.2.1/\y.2.2.2.1<=T.length) ?_ ?_
 . refine dL ?I ?m ?h _ ?hv ?hn
   case I=>exact(λv=>v.1=T/\v.2.2.1=T.length/\0<=v.2.2.2.1/\v.2.2.2.1<=v.2.2.2.2.1/\v.2.2.2.2.1<=T.length)
   case m=>exact(λv=>(v.2.2.2.2.1-v.2.2.2.1).toNat)
   case hv=>exact⟨rfl,rfl,by(try dsimp only);omega,by(try dsimp only);omega,by(try dsimp only);omega⟩
   case hn=>exact(by(try dsimp only);omega)
   rintro⟨x0,x1,x2,x3,x4,u⟩ hI;dsimp only at hI;obtain⟨rfl,rfl,h0,h1,h2⟩:=hI;unfold z7l;dsimp only;rw[v9l (by omega) (by omega) (by omega)];with_reducible repeat' (first|apply dP|apply dX<;>intro _)
   . refine dZ (b4a _ _ _ _ _ _ _) ?_
     rintro⟨m,u⟩ -
     dsimp only;rw[qg (n:=(x3+x4)/2+1) (by omega)];with_reducible repeat' (first|apply dP|apply dX<;>intro _)
     . exact⟨⟨rfl,rfl,by(try dsimp only);omega,by(try dsimp only);omega,by(try dsimp only);omega⟩,by(try dsimp only);omega⟩
     . exact⟨⟨rfl,rfl,by(try dsimp only);omega,by(try dsimp only);omega,by(try dsimp only);omega⟩,by(try dsimp only);omega⟩
   . refine dO ?_;omega
   . exact⟨rfl,rfl,by(try dsimp only);omega,by(try dsimp only);omega⟩
 . rintro⟨x0,x1,x2,x3,u⟩ hI
   dsimp only at hI ⊢;obtain⟨rfl,rfl,h0,h1⟩:=hI;with_reducible repeat' (first|apply dP|apply dX<;>intro _)
   . refine dZ (b4a _ _ _ _ _ _ _) ?_
     rintro⟨m,u⟩ -
     exact dP ⟨by(try dsimp only);omega,λ_=>by(try dsimp only);omega⟩
   . refine dO ?_;omega
   . exact⟨by(try dsimp only);omega,λh=>by cases h⟩
theorem k8n(T:List R6)(A:List R4)(B:List R3)(r:Int)(hT:T.length<=1000000000000):Df (q9y (T,A,B,r,())) (λy=>y.2.2.2.1=0\/∃e∈T,y.2.2.2.1=e.2.2.2.1):=by
 show Df (k4a v2d _) _;unfold k4a;dsimp only;refine dZ (d8g T r hT) ?_;rintro⟨i,b,u⟩ h;dsimp only at h ⊢;with_reducible repeat' (first|apply dP|apply dX<;>intro _)
 . exact .inl rfl
 . rename_i h1
   have hlt:i.toNat<T.length:=by omega
   refine .inr ⟨T[i.toNat],getElem_mem hlt,?_⟩;dsimp only;rw[getD_lt hlt]
 . rename_i h1 h2
   have:=h.2 h1;refine dO ?_;omega
def TOk(T:List R6):Prop:=T.length<=1000000000000/\∀e∈T,0<=e.2.2.2.1/\e.2.2.2.1<8
theorem f0c(T:List R6)(A:List R4)(B:List R3)(r:Int)(hT:TOk T):Df (q8b (T,A,B,r,())) (λy=>0<=y.1/\y.1<8):=by
 show Df (k3o q9y _) _;unfold k3o;dsimp only;refine dZ (k8n T A B r hT.1) ?_;rintro⟨a,b,c,d,e,f,u⟩ h;dsimp only at h ⊢;refine dP ?_;rcases h with rfl|⟨e,he,rfl⟩
 . exact⟨by decide,by decide⟩
 . exact hT.2 e he
theorem b3n(T:List R6)(A:List R4)(B:List R3)(r:Int)(hT:TOk T):Df (y5f (T,A,B,r,())) (λ_=>True):=by
 show Df (k3m q9y _) _;unfold k3m;dsimp only;exact dZ (k8n T A B r hT.1) λ_ _=>dP trivial
theorem d8r(T:List R6)(A:List R4)(B:List R3)(r:Int)(hT:TOk T):Df (y0x (T,A,B,r,())) (λ_=>True):=by
 show Df (k5i q9y _) _;unfold k5i;dsimp only;exact dZ (k8n T A B r hT.1) λ_ _=>dP trivial
theorem f0w(T:List R6)(A:List R4)(B:List R3)(r:Int)(hT:TOk T):Df (j9v (T,A,B,r,())) (λ_=>True):=by
 show Df (k5f q9y _) _;unfold k5f;dsimp only;exact dZ (k8n T A B r hT.1) λ_ _=>dP trivial
theorem d8k(a b c d e:Int):Df (y0v (a,b,c,d,e,())) (λ_=>True):=by
 show Df (k4z _) _;unfold k4z;dsimp only;with_reducible repeat' (first|apply dP|apply dX<;>intro _)
 all_goals trivial
theorem d8j(A:List R4)(r:Int)(hA:A.length<=1000000000000):Df (v2g (A,r,())) (λy=>y.1<A.length):=by
 show Df (k4y y0v j7h _) _;unfold k4y;dsimp only;refine dZ (P:=Sum.elim (λ_=>True) (λy=>y.1<A.length)) ?_ ?_
 . refine dL ?I ?m ?h _ ?hv ?hn
   case I=>exact(λv=>v.1=A/\v.2.1=A.length/\0<=v.2.2.1/\v.2.2.1<=A.length)
   case m=>exact(λv=>(A.length-v.2.2.1).toNat)
   case hv=>exact⟨rfl,rfl,by(try dsimp only);omega,by(try dsimp only);omega⟩
   case hn=>exact(by(try dsimp only);omega)
   rintro⟨x0,x1,x2,x3,u⟩ hI;dsimp only at hI;obtain⟨rfl,rfl,h0,h1⟩:=hI;unfold z7o;dsimp only;with_reducible repeat' (first|apply dP|apply dX<;>intro _)
   . refine dZ (d8k _ _ _ _ _) ?_
     rintro⟨m,m',u⟩ -
     dsimp only;rw[qg (n:=x2+1) (by omega)];with_reducible repeat' (first|apply dP|apply dX<;>intro _)
     . exact(by(try dsimp only);omega:x2<x0.length)
     . exact⟨⟨rfl,rfl,by(try dsimp only);omega,by(try dsimp only);omega⟩,by(try dsimp only);omega⟩
   . refine dO ?_;omega
   . trivial
 . intro s hs
   refine dS hs ?_ ?_
   . rintro⟨a,u⟩ -
     exact dP (by(try dsimp only);omega)
   . rintro⟨a,b,u⟩ h
     exact dP h
theorem v6p(T:List R6)(A:List R4)(B:List R3)(r:Int)(hA:A.length<=1000000000000):Df (xj (T,A,B,r,())) (λ_=>True):=by
 show Df (k4j v2g _) _;unfold k4j;dsimp only;refine dZ (d8j A r hA) ?_;rintro⟨i,b,u⟩ h;dsimp only at h ⊢;with_reducible repeat' (first|apply dP|apply dX<;>intro _)
 all_goals first|trivial|(refine dO ?_;omega)
theorem d7e(a b c d:Int):Df (y0r (a,b,c,d,())) (λ_=>True):=by
 show Df (k3t _) _;unfold k3t;dsimp only;with_reducible repeat' (first|apply dP|apply dX<;>intro _)
 all_goals trivial
theorem d7d(A:List R3)(r:Int)(hA:A.length<=1000000000000):Df (v1t (A,r,())) (λy=>y.1<A.length):=by
 show Df (k3s y0r j7b _) _;unfold k3s;dsimp only;refine dZ (P:=Sum.elim (λ_=>True) (λy=>y.1<A.length)) ?_ ?_
 . refine dL ?I ?m ?h _ ?hv ?hn
   case I=>exact(λv=>v.1=A/\v.2.1=A.length/\0<=v.2.2.1/\v.2.2.1<=A.length)
   case m=>exact(λv=>(A.length-v.2.2.1).toNat)
   case hv=>exact⟨rfl,rfl,by(try dsimp only);omega,by(try dsimp only);omega⟩
   case hn=>exact(by(try dsimp only);omega)
   rintro⟨x0,x1,x2,x3,u⟩ hI;dsimp only at hI;obtain⟨rfl,rfl,h0,h1⟩:=hI;unfold z6z;dsimp only;with_reducible repeat' (first|apply dP|apply dX<;>intro _)
   . refine dZ (d7e _ _ _ _) ?_
     rintro⟨m,m',u⟩ -
     dsimp only;rw[qg (n:=x2+1) (by omega)];with_reducible repeat' (first|apply dP|apply dX<;>intro _)
     . exact(by(try dsimp only);omega:x2<x0.length)
     . exact⟨⟨rfl,rfl,by(try dsimp only);omega,by(try dsimp only);omega⟩,by(try dsimp only);omega⟩
   . refine dO ?_;omega
   . trivial
 . intro s hs
   refine dS hs ?_ ?_
   . rintro⟨a,u⟩ -
     exact dP (by(try dsimp only);omega)
   . rintro⟨a,b,u⟩ h
     exact dP h
theorem d6x(T:List R6)(A:List R4)(B:List R3)(r:Int)(hB:B.length<=1000000000000):Df (j4e (T,A,B,r,())) (λ_=>True):=by
 show Df (k3j v1t _) _;unfold k3j;dsimp only;refine dZ (d7d B r hB) ?_;rintro⟨i,b,u⟩ h;dsimp only at h ⊢;with_reducible repeat' (first|apply dP|apply dX<;>intro _)
 all_goals first|trivial|(refine dO ?_;omega)
theorem b3o(T:List R6)(A:List R4)(B:List R3)(r:Int):Df (zu (T,A,B,r,())) (λ_=>True):=by
 unfold zu;dsimp only;with_reducible repeat' (first|apply dP|apply dX<;>intro _)
 . trivial
 . cases q2y r with
   | none=>exact dP trivial
   | some s=>exact dP trivial
theorem d6y(T:List R6)(A:List R4)(B:List R3)(r:Int):Df (z2n (T,A,B,r,())) (λ_=>True):=by
 show Df (x7r zu _) _;unfold x7r;dsimp only;with_reducible repeat' (first|apply dP|apply dX<;>intro _)
 all_goals first|trivial|exact dZ (b3o T A B r) λ_ _=>dP trivial
theorem d6w(T:List R6)(A:List R4)(B:List R3)(l:List Int)(hl:l.length<=1000000000000):Df (x6o (l,T,A,B,())) (λy=>y.1.length=l.length):=by
 show Df (x7q z2n q9s _) _;unfold x7q;dsimp only;refine dZ (P:=λy=>y.1.length=l.length) ?_ (λ_ h=>dP h);refine dL ?I ?m ?h _ ?hv ?hn
 case I=>exact(λv=>v.2.2.2.1=l/\v.2.2.2.2.1=l.length/\0<=v.2.2.2.2.2.1/\v.2.2.2.2.2.1<=l.length/\v.2.2.2.2.2.2.1.length=v.2.2.2.2.2.1)
 case m=>exact(λv=>(l.length-v.2.2.2.2.2.1).toNat)
 case hv=>exact⟨rfl,rfl,by(try dsimp only);omega,by(try dsimp only);omega,rfl⟩
 case hn=>exact(by(try dsimp only);omega)
 rintro⟨x0,x1,x2,x3,x4,x5,x6,u⟩ hI;dsimp only at hI;obtain⟨rfl,rfl,h0,h1,h2⟩:=hI;unfold j7r;dsimp only;with_reducible repeat' (first|apply dP|apply dX<;>intro _)
 . refine dZ (d6y _ _ _ _) ?_
   rintro⟨m,u⟩ -
   dsimp only;rw[qg (n:=x5+1) (by omega)];with_reducible repeat' (first|apply dP|apply dX<;>intro _)
   . exact⟨⟨rfl,rfl,by(try dsimp only);omega,by(try dsimp only);omega,by simp only[jf];omega⟩,by(try dsimp only);omega⟩
   . refine dO ?_;simp only[length_cons,length_nil]at *;omega
 . refine dO ?_;omega
 . exact(by(try dsimp only);omega:x6.length=x3.length)
theorem f0b(T:List R6)(A:List R4)(B:List R3)(hB:B.length<=1000000000000)(l:List Int)(hl:l.length<=1000000000000):Df (j4d (l,T,A,B,())) (λy=>y.1.length=l.length):=by
 show Df (j4l j4e q1j _) _;unfold j4l;dsimp only;refine dZ (P:=λy=>y.1.length=l.length) ?_ (λ_ h=>dP h);refine dL ?I ?m ?h _ ?hv ?hn
 case I=>exact(λv=>v.2.2.1=B/\v.2.2.2.1=l/\v.2.2.2.2.1=l.length/\0<=v.2.2.2.2.2.1/\v.2.2.2.2.2.1<=l.length/\v.2.2.2.2.2.2.1.length=v.2.2.2.2.2.1)
 case m=>exact(λv=>(l.length-v.2.2.2.2.2.1).toNat)
 case hv=>exact⟨rfl,rfl,rfl,by(try dsimp only);omega,by(try dsimp only);omega,rfl⟩
 case hn=>exact(by(try dsimp only);omega)
 rintro⟨x0,x1,x2,x3,x4,x5,x6,u⟩ hI;dsimp only at hI;obtain⟨rfl,rfl,rfl,h0,h1,h2⟩:=hI;unfold q5n;dsimp only;with_reducible repeat' (first|apply dP|apply dX<;>intro _)
 . refine dZ (d6x _ _ _ _ hB) ?_
   rintro⟨m,u⟩ -
   dsimp only;rw[qg (n:=x5+1) (by omega)];with_reducible repeat' (first|apply dP|apply dX<;>intro _)
   . exact⟨⟨rfl,rfl,rfl,by(try dsimp only);omega,by(try dsimp only);omega,by simp only[jf];omega⟩,by(try dsimp only);omega⟩
   . refine dO ?_;simp only[length_cons,length_nil]at *;omega
 . refine dO ?_;omega
 . exact(by(try dsimp only);omega:x6.length=x3.length)
theorem b3k(T:List R6)(A:List R4)(B:List R3)(l:List Int)(hl:l.length<=1000000000000):Df (x6n (T,A,B,l,())) (λy=>y.1.length=l.length):=by
 show Df (v4d x6o _) _;unfold v4d;dsimp only;exact dZ (d6w T A B l hl) λ_ h=>dP h
theorem b3j(T:List R6)(A:List R4)(B:List R3)(hB:B.length<=1000000000000)(l:List Int)(hl:l.length<=1000000000000):Df (x6m (T,A,B,l,())) (λy=>y.1.length=l.length):=by
 show Df (v4c j4d _) _;unfold v4c;dsimp only;exact dZ (f0b T A B hB l hl) λ_ h=>dP h
theorem v6t(a b c:Int):Df (yg (a,b,c,())) (λ_=>True):=by
 show Df (y1b _) _;unfold y1b;dsimp only;with_reducible repeat' (first|apply dP|apply dX<;>intro _)
 all_goals trivial
theorem d8m(a:Int):Df (kf (a,())) (λy=>y.1.length<=3):=by
 show Df (k5b _) _;unfold k5b;dsimp only;with_reducible repeat' (first|apply dP|apply dX<;>intro _)
 all_goals (dsimp only;simp)
theorem d8n(a b:List Int)(ha:a.length<=1000000)(hb:b.length<=1000000):Df (vw ([a,b],())) (λy=>y.1.length=a.length+b.length):=by
 show Df (k5c z2q j7i j7j _) _;unfold k5c;dsimp only;refine dZ (P:=λy=>y.1=[a,b]/\0<=y.2.1/\y.2.1<=2000000) ?_ ?_
 . refine dL ?I ?m ?h _ ?hv ?hn
   case I=>exact(λv=>v.1=[a,b]/\v.2.2.1=[a,b]/\v.2.2.2.1=2/\((v.2.2.2.2.1=0/\v.2.1=0)\/(v.2.2.2.2.1=1/\v.2.1=a.length)\/(v.2.2.2.2.1=2/\v.2.1=a.length+b.length)))
   case m=>exact(λv=>(2-v.2.2.2.2.1).toNat)
   case hv=>exact⟨rfl,rfl,rfl,.inl ⟨rfl,rfl⟩⟩
   case hn=>exact(by(try dsimp only);omega)
   rintro⟨x0,x1,x2,x3,x4,u⟩ hI;dsimp only at hI;obtain⟨rfl,rfl,rfl,hI⟩:=hI;unfold z7p;dsimp only;rcases hI with⟨rfl,rfl⟩|⟨rfl,rfl⟩|⟨rfl,rfl⟩
   . have e:([a,b]:List (List Int)).getD (0:Int).toNat []=a:=rfl
     rw[e,qg (n:=0+(a.length:Int)) (by omega),qg (n:=(0:Int)+1) (by omega)];with_reducible repeat' (first|apply dP|apply dX<;>intro _)
     all_goals first
      | exact⟨⟨rfl,rfl,rfl,.inr (.inl ⟨rfl,by(try dsimp only);omega⟩)⟩,by(try dsimp only);omega⟩
      | (refine dO ?_;simp only[length_cons,length_nil]at *;omega)
      | (exfalso;omega)
   . have e:([a,b]:List (List Int)).getD (1:Int).toNat []=b:=rfl
     rw[e,qg (n:=(a.length:Int)+(b.length:Int)) (by omega),qg (n:=(1:Int)+1) (by omega)];with_reducible repeat' (first|apply dP|apply dX<;>intro _)
     all_goals first
      | exact⟨⟨rfl,rfl,rfl,.inr (.inr ⟨rfl,rfl⟩)⟩,by(try dsimp only);omega⟩
      | (refine dO ?_;simp only[length_cons,length_nil]at *;omega)
      | (exfalso;omega)
   . with_reducible repeat' (first|apply dP|apply dX<;>intro _)
     all_goals first
      | exact⟨rfl,by(try dsimp only);omega,by(try dsimp only);omega⟩
      | (refine dO ?_;simp only[length_cons,length_nil]at *;omega)
      | (exfalso;omega)
 . rintro⟨x0,x1,u⟩ hI
   dsimp only at hI ⊢;obtain⟨rfl,h0,h1⟩:=hI;refine dZ (P:=λy=>y.1=[]) ?_ ?_
   . unfold z2q
     dsimp only;with_reducible repeat' (first|apply dP|apply dX<;>intro _)
     . rfl
     . refine dO ?_;omega
   rintro⟨x2,u⟩ hx;dsimp only at hx ⊢;subst hx;refine dZ (P:=λy=>y.1.length=a.length+b.length) ?_ (λ_ h=>dP h);refine dL ?I ?m ?h _ ?hv ?hn
   case I=>exact(λv=>v.1=[a,b]/\v.2.1=2/\((v.2.2.1=0/\v.2.2.2.1.length=0)\/(v.2.2.1=1/\v.2.2.2.1.length=a.length)\/(v.2.2.1=2/\v.2.2.2.1.length=a.length+b.length)))
   case m=>exact(λv=>(2-v.2.2.1).toNat)
   case hv=>exact⟨rfl,rfl,.inl ⟨rfl,rfl⟩⟩
   case hn=>exact(by(try dsimp only);omega)
   rintro⟨x0,x1,x2,x3,u⟩ hI;dsimp only at hI;obtain⟨rfl,rfl,hI⟩:=hI;unfold z7q;dsimp only;rcases hI with⟨rfl,hx⟩|⟨rfl,hx⟩|⟨rfl,hx⟩
   . have e:([a,b]:List (List Int)).getD (0:Int).toNat []=a:=rfl
     rw[e,qg (n:=(0:Int)+1) (by omega)];with_reducible repeat' (first|apply dP|apply dX<;>intro _)
     all_goals first
      | exact⟨⟨rfl,rfl,.inr (.inl ⟨rfl,by simp only[length_append];omega⟩)⟩,by(try dsimp only);omega⟩
      | (refine dO ?_;simp only[length_cons,length_nil]at *;omega)
      | (exfalso;omega)
   . have e:([a,b]:List (List Int)).getD (1:Int).toNat []=b:=rfl
     rw[e,qg (n:=(1:Int)+1) (by omega)];with_reducible repeat' (first|apply dP|apply dX<;>intro _)
     all_goals first
      | exact⟨⟨rfl,rfl,.inr (.inr ⟨rfl,by simp only[length_append];omega⟩)⟩,by(try dsimp only);omega⟩
      | (refine dO ?_;simp only[length_cons,length_nil]at *;omega)
      | (exfalso;omega)
   . with_reducible repeat' (first|apply dP|apply dX<;>intro _)
     all_goals first
      | exact hx
      | (refine dO ?_;simp only[length_cons,length_nil]at *;omega)
      | (exfalso;omega)
def nxt(r:Int):Option (Int×Int):=bif decide (65281<=r)&&decide (r<=65374)then some (r-65248,0)else(q2y r).map λs=>(s.2.1,s.2.2.1)
def dep:Nat->Int->Bool
 | 0,_=>false
 | n+1,r=>match nxt r with
  | none=>true
  | some (a,b)=>dep n a&&(b==0||dep n b)
theorem f1f:((List.range 94).all λn=>dep 4 ((33+n:Nat):Int))=true:=by kernel_rfl
theorem f1g:(qy.all λs=>dep 4 s.2.1&&(s.2.2.1==0||dep 4 s.2.2.1))=true:=by kernel_rfl
theorem k8s(r:Int):dep 5 r=true:=by
 unfold dep;cases h:nxt r with
 | none=>rfl
 | some p =>
  obtain⟨a,b⟩:=p;dsimp only;unfold nxt at h;by_cases hw:65281<=r/\r<=65374
  . rw[decide_eq_true hw.1,decide_eq_true hw.2]at h
    simp only[Bool.and_self,cond_true,Option.some.injEq,Prod.mk.injEq]at h;obtain⟨rfl,rfl⟩:=h;have:=all_eq_true.1 f1f (r-65281).toNat (List.mem_range.2 (by omega))
    rw[show (((33+(r-65281).toNat:Nat)):Int)=r-65248 by omega]at this;rw[this];rfl
  . have e:(decide (65281<=r)&&decide (r<=65374))=false:=by simp;omega
    rw[e]at h;simp only[cond_false,Option.map_eq_some_iff]at h;obtain⟨s,hs,he⟩:=h;have hm:s∈qy:=List.mem_of_find?_eq_some hs;have:=all_eq_true.1 f1g s hm;cases he;exact this
theorem b2u(T:List R6)(A:List R4)(B:List R3)(r:Int):Df (zu (T,A,B,r,())) (λv=>v.2.2.2.2.2.1=false\/nxt r=some (v.2.1,v.2.2.1)):=by
 unfold zu nxt;dsimp only;with_reducible repeat' (first|apply dP|apply dX<;>intro _)
 . rename_i h
   refine .inr ?_;rw[decide_eq_true h.1,decide_eq_true h.2];rfl
 . rename_i h
   have e:(decide (65281<=r)&&decide (r<=65374))=false:=by simp;omega
   rw[e];cases q2y r with
   | none=>exact dP (.inl rfl)
   | some s=>exact dP (.inr rfl)
theorem v6q(G:q8m)(r:Int)(sf b:Bool)(T:List R6)(A:List R4)(B:List R3)(v0 a c:Int)(s o:Bool)(K:Nat)(hK:1<=K)(ha:b=false->c=0->Df (G (T,A,B,a,sf,())) (λy=>y.1.length<=K)) :
 Df (yq zu G yg kf vw (r,sf,b,T,A,B,v0,a,c,s,o,())) (Sum.elim (λy=>y.1.length<=K) (λy=>y=(sf,T,A,B,v0,a,c,s,o,())/\b=false/\c≠0)):=by
 unfold yq;dsimp only;with_reducible repeat' (first|apply dP|apply dX<;>intro _)
 . exact(by simpa using hK:([r]:List Int).length<=K)
 . rename_i h1 h2
   exact dZ (ha h1 h2) λy hy=>dP hy
 . rename_i h1 h2
   exact⟨rfl,h1,h2⟩
theorem g3t(T:List R6)(A:List R4)(B:List R3):∀(n m:Nat) (r:Int) (sf:Bool),dep n r=true->n<=9 ->
 Df (q1s (λG=>j4m zu G yg kf vw (yq zu G yg kf vw)) (n+m) (T,A,B,r,sf,())) (λy=>y.1.length<=3*2^n)
 | 0,m,r,sf,h,hn=>by cases h
 | n+1,m,r,sf,h,hn=>by
  rw[show n+1+m=(n+m)+1 by omega];show Df (j4m zu (q1s (λG=>j4m zu G yg kf vw (yq zu G yg kf vw)) (n+m)) yg kf vw (yq zu (q1s (λG=>j4m zu G yg kf vw (yq zu G yg kf vw)) (n+m)) yg kf vw) (T,A,B,r,sf,())) _;have ih:=g3t T A B n m;generalize q1s (λG=>j4m zu G yg kf vw (yq zu G yg kf vw)) (n+m)=G at ih ⊢;have hp:3*2^n<=3*2^9:=Nat.mul_le_mul_left 3 (Nat.pow_le_pow_right (by omega) (by omega));have hp1:1<=2^n:=Nat.one_le_two_pow;have hp2:3*2^(n+1)=3*2^n+3*2^n:=by rw[Nat.pow_succ];omega
  generalize 3*2^n=K at ih hp hp2;have hK:3<=K\/True := .inr trivial;rw[hp2];have hK3:3<=K+K:=by
   have:3*2^1<=3*2^(n+1):=Nat.mul_le_mul_left 3 (Nat.pow_le_pow_right (by omega) (by omega));omega
  have ih':∀(r:Int) (sf:Bool),dep n r=true->Df (G (T,A,B,r,sf,())) (λy=>y.1.length<=K):=λr sf h=>ih r sf h (by omega);clear ih;unfold j4m;dsimp only;refine dZ (b2u T A B r) ?_;rintro⟨v0,a,c,s,o,is,u⟩ hv;dsimp only at hv ⊢;refine dZ (v6t _ _ _) ?_;rintro⟨b,u⟩ -
  dsimp only;have two:is=true->c≠0->∀sf,Df ((G (T,A,B,a,sf,())).bind λval_2=>(G (T,A,B,c,sf,())).bind λval=>(vw ([val_2.fst,val.fst],())).bind λval=>some (val.fst,())) (λy=>y.1.length<=K+K):=by
   intro his hc sf;rcases hv with rfl|hv
   . cases his
   . unfold dep at h
     rw[hv]at h;simp only[and_eq_true,Bool.or_eq_true,beq_iff_eq]at h;refine dZ (ih' a sf h.1) ?_;rintro⟨p,u⟩ hp';refine dZ (ih' c sf (h.2.resolve_left hc)) ?_;rintro⟨q,u⟩ hq;dsimp only at hp' hq ⊢;refine dZ (d8n p q (by omega) (by omega)) ?_;rintro⟨z,u⟩ hz;exact dP (by dsimp only at hz ⊢;omega)
  have one:is=true->Df (G (T,A,B,a,sf,())) (λy=>y.1.length<=K+K):=by
   intro his;rcases hv with rfl|hv
   . cases his
   . unfold dep at h
     rw[hv]at h;simp only[and_eq_true]at h;exact(ih' a sf h.1).mono λ_ h=>by omega
  with_reducible repeat' (first|apply dP|apply dX<;>intro _)
  . refine dZ (d8m _) ?_
    rintro⟨l,u⟩ hl;exact dP (by dsimp only at hl ⊢;omega)
  . refine dZ (v6q G r sf true T A B v0 a c s o (K+K) (by omega) (λh=>by cases h)) ?_
    intro z hz;refine dS hz (λy hy=>dP hy) ?_;rintro y ⟨-,h,-⟩;cases h
  . rename_i h1 h2 h3
    refine dZ (v6q G r sf (!sf) T A B v0 a c s o (K+K) (by omega) (λ_ _=>one h2)) ?_;intro z hz;refine dS hz (λy hy=>dP hy) ?_;rintro y ⟨rfl,-,hc⟩;exact two h2 hc sf
  . rename_i h1 h2 h3
    refine dZ (v6q G r sf false T A B v0 a c s o (K+K) (by omega) (λ_ _=>one h2)) ?_;intro z hz;refine dS hz (λy hy=>dP hy) ?_;rintro y ⟨rfl,-,hc⟩;exact two h2 hc sf
theorem d7y(T:List R6)(A:List R4)(B:List R3)(r:Int)(sf:Bool):Df (z2p (T,A,B,r,sf,())) (λy=>y.1.length<=96):=by
 obtain⟨m,hm⟩:∃m,qz=5+m:=⟨qz-5,by unfold qz;omega⟩
 show Df (q1s (λG=>j4m zu G yg kf vw (yq zu G yg kf vw)) qz _) _;rw[hm];exact g3t T A B 5 m r sf (k8s r) (by omega)
theorem b3s(T:List R6)(A:List R4)(B:List R3)(l:List Int)(sf:Bool)(hl:l.length<=100000000000):Df (v1u (T,A,B,l,sf,())) (λy=>y.1.length<=96*l.length):=by
 show Df (x7s z2p q9w _) _;unfold x7s;dsimp only;refine dZ (P:=λy=>y.1.length<=96*l.length) ?_ (λ_ h=>dP h);refine dL ?I ?m ?h _ ?hv ?hn
 case I=>exact(λv=>v.2.1=l/\v.2.2.1=l.length/\0<=v.2.2.2.1/\v.2.2.2.1<=l.length/\v.2.2.2.2.2.2.2.1.length<=96*v.2.2.2.1)
 case m=>exact(λv=>(l.length-v.2.2.2.1).toNat)
 case hv=>exact⟨rfl,rfl,by(try dsimp only);omega,by(try dsimp only);omega,by simp⟩
 case hn=>exact(by(try dsimp only);omega)
 rintro⟨x0,x1,x2,x3,x4,x5,x6,x7,u⟩ hI;dsimp only at hI;obtain⟨rfl,rfl,h0,h1,h2⟩:=hI;unfold j7x;dsimp only;with_reducible repeat' (first|apply dP|apply dX<;>intro _)
 . refine dZ (d7y _ _ _ _ _) ?_
   rintro⟨z,u⟩ hz;dsimp only at hz ⊢;rw[qg (n:=x3+1) (by omega)];with_reducible repeat' (first|apply dP|apply dX<;>intro _)
   . exact⟨⟨rfl,rfl,by(try dsimp only);omega,by(try dsimp only);omega,by simp only[length_append];omega⟩,by(try dsimp only);omega⟩
   . refine dO ?_;omega
 . refine dO ?_;omega
 . exact(by(try dsimp only);omega:x7.length<=96*x1.length)
theorem d8o(T:List R6)(A:List R4)(B:List R3)(a b:Int):Df (q3s (T,A,B,a,b,())) (λ_=>True):=by
 unfold q3s;dsimp only;cases z2d a b with
 | none=>exact dP trivial
 | some s=>exact dP trivial
theorem f0p(a b:Int)(f:Bool)(T:List R6)(A:List R4)(B:List R3):Df (kw (a,b,f,T,A,B,())) (λ_=>True):=by
 show Df (q5p yg q3s _) _;unfold q5p;dsimp only;with_reducible repeat' (first|apply dP|apply dX<;>intro _)
 . trivial
 . refine dZ (v6t _ _ _) ?_
   rintro⟨z,u⟩ -
   dsimp only;with_reducible repeat' (first|apply dP|apply dX<;>intro _)
   . refine dZ (v6t _ _ _) ?_
     rintro⟨z,u⟩ -
     dsimp only;with_reducible repeat' (first|apply dP|apply dX<;>intro _)
     all_goals trivial
   all_goals trivial
theorem d7z(T:List R6)(A:List R4)(B:List R3)(a b:Int):Df (j0f (T,A,B,a,b,())) (λ_=>True):=by
 show Df (x7v yg q3s kw _) _;unfold x7v;dsimp only;have jh:∀f,Df ((kw (a,b,f,T,A,B,())).bind λval=>Sum.elim (λval=>some (val.fst,val.snd.fst,())) (λval=>(q3s (val.snd.snd.fst,val.snd.snd.snd.fst,val.snd.snd.snd.snd.fst,val.fst,val.snd.fst,())).bind λval=>some (val.fst,val.snd.fst,())) val) (λ_=>True):=by
  intro f;refine dZ (f0p a b f T A B) ?_;intro z hz;cases z with
  | inl y=>exact dP trivial
  | inr y=>exact dZ (d8o _ _ _ _ _) λ_ _=>dP trivial
 refine dZ (v6t _ _ _) ?_;rintro⟨z,u⟩ -
 dsimp only;with_reducible repeat' (first|apply dP|apply dX<;>intro _)
 . refine dZ (v6t _ _ _) ?_
   rintro⟨z,u⟩ -
   exact jh _
 . exact jh _
theorem f0j(x0 x1 x2 x3:Int)(x4:List Int)(x5 x6:Int)(x7:Bool)(x8:List R6)(x9:List R4)(x10:List R3)(x11:List Int)(h:x7=true->0<=x0/\x0<x11.length) :
 Df (q2e (x0,x1,x2,x3,x4,x5,x6,x7,x8,x9,x10,x11,())) (Sum.elim (λy=>∃l',l'.length=x11.length/\y=(x0,x1,x4,x5,x6,x8,x9,x10,l',())) (λy=>y=(x0,x1,x2,x3,x4,x5,x6,x8,x9,x10,x11,()))):=by
 show Df (q5o xj j0f _) _;unfold q5o;dsimp only;with_reducible repeat' (first|apply dP|apply dX<;>intro _)
 . refine dZ (d7z _ _ _ _ _) ?_
   rintro⟨a,b,u⟩ -
   dsimp only;with_reducible repeat' (first|apply dP|apply dX<;>intro _)
   . exact⟨_,length_set,rfl⟩
   . rename_i h1 h2 h3 h4
     exact absurd h2 h4
   . exact rfl
 . rename_i h1 h2
   exact dO (h2 (h h1))
 . exact rfl
theorem b3t(T:List R6)(A:List R4)(B:List R3)(l:List Int)(hl:l.length<=10000000000000)(hA:A.length<=1000000000000):Df (v1v (T,A,B,l,())) (λy=>y.1.length<=l.length):=by
 show Df (x7t xj j0f q9x _) _;unfold x7t;dsimp only;refine dZ (P:=λy=>y.1.length<=l.length) ?_ (λ_ h=>dP h);refine dL ?I ?m ?h _ ?hv ?hn
 case I=>exact(λv=>v.2.2.1=l/\v.2.2.2.1=l.length/\0<=v.2.2.2.2.1/\v.2.2.2.2.1<=l.length/\v.2.2.2.2.2.2.1=A/\v.2.2.2.2.2.2.2.2.1.length<=v.2.2.2.2.1/\v.1<v.2.2.2.2.2.2.2.2.1.length)
 case m=>exact(λv=>(l.length-v.2.2.2.2.1).toNat)
 case hv=>exact⟨rfl,rfl,by(try dsimp only);omega,by(try dsimp only);omega,rfl,by simp,by simp⟩
 case hn=>exact(by(try dsimp only);omega)
 rintro⟨x0,x1,x2,x3,x4,x5,x6,x7,x8,u⟩ hI;dsimp only at hI;obtain⟨rfl,rfl,h0,h1,rfl,h2,h3⟩:=hI;have jh:∀(cl:Int) (f:Bool),(f=true->0<=x0/\x0<x8.length)->x4<x2.length->Df ((q2e (x0,x1,x2.getD x4.toNat 0,cl,x2,(x2.length:Int),x4,f,x5,x6,x7,x8,())).bind λval =>
  Sum.elim (λval=>some (Sum.inl (val.fst,val.snd.fst,val.snd.snd.fst,val.snd.snd.snd.fst,IntKind.i64.wrap (val.snd.snd.snd.snd.fst+1),val.snd.snd.snd.snd.snd.fst,val.snd.snd.snd.snd.snd.snd.fst,val.snd.snd.snd.snd.snd.snd.snd.fst,val.snd.snd.snd.snd.snd.snd.snd.snd.fst,())))
   (λval=>bif decide (List.length val.snd.snd.snd.snd.snd.snd.snd.snd.snd.snd.fst+[val.snd.snd.fst].length<=140737488355328/4)then
    bif val.snd.snd.snd.fst==0 then some (Sum.inl (IntKind.i64.wrap ((↑(val.snd.snd.snd.snd.snd.snd.snd.snd.snd.snd.fst++[val.snd.snd.fst]).length:Int)-1),0,val.snd.snd.snd.snd.fst,val.snd.snd.snd.snd.snd.fst,IntKind.i64.wrap (val.snd.snd.snd.snd.snd.snd.fst+1),val.snd.snd.snd.snd.snd.snd.snd.fst,val.snd.snd.snd.snd.snd.snd.snd.snd.fst,val.snd.snd.snd.snd.snd.snd.snd.snd.snd.fst,val.snd.snd.snd.snd.snd.snd.snd.snd.snd.snd.fst++[val.snd.snd.fst],()))
    else some (Sum.inl (val.fst,if val.snd.snd.snd.fst>val.snd.fst then val.snd.snd.snd.fst else val.snd.fst,val.snd.snd.snd.snd.fst,val.snd.snd.snd.snd.snd.fst,IntKind.i64.wrap (val.snd.snd.snd.snd.snd.snd.fst+1),val.snd.snd.snd.snd.snd.snd.snd.fst,val.snd.snd.snd.snd.snd.snd.snd.snd.fst,val.snd.snd.snd.snd.snd.snd.snd.snd.snd.fst,val.snd.snd.snd.snd.snd.snd.snd.snd.snd.snd.fst++[val.snd.snd.fst],()))
    else none) val)
  (Sum.elim (λv':Int×Int×List Int×Int×Int×List R6×List R4×List R3×List Int×Unit=>(v'.2.2.1=x2/\v'.2.2.2.1=(x2.length:Int)/\0<=v'.2.2.2.2.1/\v'.2.2.2.2.1<=x2.length/\v'.2.2.2.2.2.2.1=x6/\v'.2.2.2.2.2.2.2.2.1.length<=v'.2.2.2.2.1/\v'.1<v'.2.2.2.2.2.2.2.2.1.length)/\(x2.length-v'.2.2.2.2.1).toNat<(x2.length-x4).toNat) (λy:List Int×Unit=>y.1.length<=x2.length)):=by
  intro cl f hf hlt;refine dZ (f0j _ _ _ _ _ _ _ _ _ _ _ _ hf) ?_;intro z hz;refine dS hz ?_ ?_
  . rintro y ⟨l',hl',rfl⟩
    dsimp only;rw[qg (n:=x4+1) (by omega)];exact dP ⟨⟨rfl,rfl,by(try dsimp only);omega,by(try dsimp only);omega,rfl,by(try dsimp only);omega,by(try dsimp only);omega⟩,by(try dsimp only);omega⟩
  . rintro y rfl
    dsimp only;rw[qg (n:=x4+1) (by omega),qg (n:=((x8++[x2.getD x4.toNat 0]).length:Int)-1) (by simp only[jf];omega)];with_reducible repeat' (first|apply dP|apply dX<;>intro _)
    . exact⟨⟨rfl,rfl,by(try dsimp only);omega,by(try dsimp only);omega,rfl,by simp only[jf];omega,by simp only[jf];omega⟩,by(try dsimp only);omega⟩
    . exact⟨⟨rfl,rfl,by(try dsimp only);omega,by(try dsimp only);omega,rfl,by simp only[jf];omega,by simp only[jf];omega⟩,by(try dsimp only);omega⟩
    . refine dO ?_;simp only[length_cons,length_nil]at *;omega
 unfold j7y;dsimp only;with_reducible repeat' (first|apply dP|apply dX<;>intro _)
 . rename_i h4 h5
   refine dZ (v6p _ _ _ _ hA) ?_;rintro⟨cl,u⟩ -
   dsimp only;with_reducible repeat' (first|apply dP|apply dX<;>intro _)
   . exact jh _ _ (λ_=>by omega) (by omega)
   . exact jh _ _ (λ_=>by omega) (by omega)
   . exact jh _ _ (λh=>by cases h) (by omega)
 . refine dO ?_;omega
 . exact(by(try dsimp only);omega:x8.length<=x2.length)
theorem f0s(a b:Int):Df (q3r (a,b,())) (λy=>1<=y.1/\y.1<=26):=by
 show Df (k4v _) _;unfold k4v;dsimp only;refine dP ?_;dsimp only;generalize IntKind.i64.wrap (a-b)=n;split<;>split<;>omega
theorem f0t(a:Int)(b:Bool):Df (j0g (a,b,())) (λ_=>True):=by
 show Df (j8d _) _;unfold j8d;dsimp only;with_reducible repeat' (first|apply dP|apply dX<;>intro _)
 all_goals trivial
theorem k8p(a:Int):Df (z6e (a,())) (λ_=>True):=by
 show Df (k4w j0g _) _;unfold k4w;dsimp only;with_reducible repeat' (first|apply dP|apply dX<;>intro _)
 all_goals (refine dZ (f0t _ _) ?_;intro z hz;cases z<;>exact dP trivial)
theorem f0k(n b k:Int)(out:List UInt8)(j:Nat)(h0:0<=n)(h1:n<10^j)(hb:out.length+j<=100000000000000)(hn:n<=100000000000000) :
 Df (q5c (n,b,k,out,())) (λy=>y.1.length<=out.length+j+1):=by
 refine dL ?I ?m ?h _ ?hv ?hn
 case I=>exact(λv=>∃j':Nat,0<=v.1/\v.1<10^j'/\v.1<=n/\v.2.2.2.1.length+j'<=out.length+j)
 case m=>exact(λv=>v.1.toNat)
 case hv=>exact⟨j,h0,h1,Int.le_refl _,le_refl _⟩
 case hn=>exact(by(try dsimp only);omega)
 rintro⟨x0,x1,x2,x3,u⟩ hI;dsimp only at hI;obtain⟨j',i0,i1,i2,i3⟩:=hI;unfold j7z;dsimp only;refine dZ (f0s _ _) ?_;rintro⟨t,u⟩ ht;dsimp only at ht ⊢;with_reducible repeat' (first|apply dP|apply dX<;>intro _)
 . refine dZ (k8p _) ?_
   rintro⟨d,d',u⟩ -
   dsimp only;with_reducible repeat' (first|apply dP|apply dX<;>intro _)
   . exact(by simp only[jf];omega:(x3++[_]).length<=out.length+j+1)
   . refine dO ?_;simp only[length_cons,length_nil]at *;omega
 . rename_i hge hne
   refine dZ (k8p _) ?_;rintro⟨d,d',u⟩ -
   dsimp only;rw[qg (n:=36-t) (by omega)]at hne ⊢;rw[qg (n:=x0-t) (by omega),tdiv_eq_ediv_of_nonneg (by omega)];have q0:0<=(x0-t)/(36-t):=ediv_nonneg (by omega) (by omega);have q1:(x0-t)/(36-t)*(36-t)<=x0-t:=Int.ediv_mul_le _ (by omega);have q2:(x0-t)/(36-t)*10<=(x0-t)/(36-t)*(36-t):=Int.mul_le_mul_of_nonneg_left (by omega) q0;generalize (x0-t)/(36-t)=q at q0 q1 q2 ⊢;rw[qg (n:=q) (by omega)];with_reducible repeat' (first|apply dP|apply dX<;>intro _)
   . obtain⟨i,rfl⟩:∃i,j'=i+1:=by
      cases j' with
      | zero=>simp at i1;omega
      | succ i=>exact⟨i,rfl⟩
     rw[Int.pow_succ]at i1;generalize hP:(10:Int)^i=P at i1;refine⟨⟨i,q0,?_,?_,?_⟩,?_⟩
     . show q<10^i
       rw[hP];omega
     . dsimp only;omega
     . simp only[jf];omega
     . dsimp only;omega
   . rename_i hz
     exact absurd hz hne
   . refine dO ?_;simp only[length_cons,length_nil]at *;omega
 . rename_i hge hne
   rw[qg (n:=36-t) (by omega)]at hne;refine dO ?_;omega
theorem d7i(n b:Int)(out:List UInt8)(h0:0<=n)(h1:n<10^13)(hb:out.length<=90000000000000) :
 Df (q8d (n,b,out,())) (λy=>y.1.length<=out.length+14):=by
 show Df (k4c q3r z6e q5c _) _;unfold k4c;dsimp only;refine dZ (f0s _ _) ?_;rintro⟨t,u⟩ ht;dsimp only at ht ⊢;have h13:(10:Int)^13=10000000000000:=rfl;have h12:(10:Int)^12=1000000000000:=rfl;rw[h13]at h1;with_reducible repeat' (first|apply dP|apply dX<;>intro _)
 . refine dZ (k8p _) ?_
   rintro⟨d,d',u⟩ -
   dsimp only;with_reducible repeat' (first|apply dP|apply dX<;>intro _)
   . exact(by simp only[jf];omega:(out++[_]).length<=out.length+14)
   . refine dO ?_;simp only[length_cons,length_nil]at *;omega
 . rename_i hge hne
   refine dZ (k8p _) ?_;rintro⟨d,d',u⟩ -
   dsimp only;rw[qg (n:=36-t) (by omega)]at hne ⊢;rw[qg (n:=n-t) (by omega),tdiv_eq_ediv_of_nonneg (by omega)];have q0:0<=(n-t)/(36-t):=ediv_nonneg (by omega) (by omega);have q1:(n-t)/(36-t)*(36-t)<=n-t:=Int.ediv_mul_le _ (by omega);have q2:(n-t)/(36-t)*10<=(n-t)/(36-t)*(36-t):=Int.mul_le_mul_of_nonneg_left (by omega) q0;generalize (n-t)/(36-t)=q at q0 q1 q2 ⊢;rw[qg (n:=q) (by omega)];with_reducible repeat' (first|apply dP|apply dX<;>intro _)
   . refine dZ (f0k q b _ (out++[UInt8.ofNat (Int.toNat d)]) 12 q0 (by rw[h12];omega) (by simp only[jf];omega) (by omega)) ?_
     rintro⟨y,u⟩ hy;simp only[jf]at hy;exact dP (by(try dsimp only);omega)
   . rename_i hz
     exact absurd hz hne
   . refine dO ?_;simp only[length_cons,length_nil]at *;omega
 . rename_i hge hne
   rw[qg (n:=36-t) (by omega)]at hne;refine dO ?_;omega
theorem f0l(a b:Int)(h0:0<=a)(h1:a<=100000000000000000):Df (j0a (a,b,())) (λy=>0<=y.1/\y.1<=455):=by
 refine dL ?I ?m ?h _ ?hv ?hn
 case I=>exact(λv=>0<=v.1/\v.1<=100000000000000000)
 case m=>exact(λv=>v.1.toNat)
 case hv=>exact⟨h0,h1⟩
 case hn=>exact(by(try dsimp only);omega)
 rintro⟨x0,x1,u⟩ hI;dsimp only at hI;unfold z7d;dsimp only;with_reducible repeat' (first|apply dP|apply dX<;>intro _)
 . rw[tdiv_eq_ediv_of_nonneg (by omega),qg (n:=x0/35) (by omega)]
   exact⟨⟨by(try dsimp only);omega,by(try dsimp only);omega⟩,by(try dsimp only);omega⟩
 . exact⟨by(try dsimp only);omega,by(try dsimp only);omega⟩
theorem v6o(a c:Int)(h0:0<=a)(h1:a<=10000000000000000):Df (q9z (a,c,())) (λ_=>True):=by
 show Df (j8a j0a _) _;unfold j8a;dsimp only;have hm:1<=(if c>1 then c else 1):=by split<;>omega
 generalize (if c>1 then c else 1)=m at hm;have q0:0<=a/m:=ediv_nonneg h0 (by omega);have q1:a/m<=a:=Int.ediv_le_self _ h0;rw[tdiv_eq_ediv_of_nonneg h0,qg (n:=a/m) (by omega),qg (n:=a+a/m) (by omega)];with_reducible repeat' (first|apply dP|apply dX<;>intro _)
 . refine dZ (f0l _ _ (by omega) (by omega)) ?_
   rintro⟨x,y,u⟩ h;dsimp only at h ⊢;rw[qg (n:=x+38) (by omega)];with_reducible repeat' (first|apply dP|apply dX<;>intro _)
   . trivial
   . refine dO ?_;omega
 . refine dO ?_;omega
theorem b3w(a c:Int)(f:Bool)(h0:0<=a)(h1:a<=10000000000000000):Df (q0o (a,c,f,())) (λ_=>True):=by
 show Df (k4d q9z _) _;unfold k4d;dsimp only;rw[tdiv_eq_ediv_of_nonneg h0,tdiv_eq_ediv_of_nonneg h0,qg (n:=a/700) (by omega),qg (n:=a/2) (by omega)];with_reducible repeat' (first|apply dP|apply dX<;>intro _)
 . exact dZ (v6o _ _ (by omega) (by omega)) λ_ _=>dP trivial
 . exact dZ (v6o _ _ (by omega) (by omega)) λ_ _=>dP trivial
def cnt(n:Int)(l:List Int):Nat:=l.countP λr=>decide (r<n)
def ceq(n:Int)(l:List Int):Nat:=l.countP λr=>decide (r=n)
theorem z1k(n:Int)(l:List Int):cnt n l<=l.length:=List.countP_le_length
theorem y2n(n:Int):∀l:List Int,cnt (n+1) l=cnt n l+ceq n l
 | []=>rfl
 | x::l=>by
  have ih:=y2n n l;unfold cnt ceq at *
  simp only[countP_cons,decide_eq_true_eq];split<;>split<;>split<;>omega
theorem y2m{n m:Int}(h:n<=m):∀{l:List Int},(∀r∈l,n<=r->m<=r)->cnt m l=cnt n l
 | [],_=>rfl
 | x::l,hl=>by
  have ih:=y2m (l:=l) h λr hr=>hl r (mem_cons_of_mem _ hr);have hx:=hl x mem_cons_self;unfold cnt at *
  simp only[countP_cons,decide_eq_true_eq];split<;>split<;>omega
theorem x4j{n:Int}:∀{l:List Int},(∀r∈l,r<n)->cnt n l=l.length
 | [],_=>rfl
 | x::l,hl=>by
  have ih:=x4j (l:=l) λr hr=>hl r (mem_cons_of_mem _ hr);have hx:=hl x mem_cons_self;unfold cnt at *
  simp only[countP_cons,length_cons,decide_eq_true_eq,hx,if_true];omega
theorem x4i{n:Int}:∀{l:List Int},n∈l->1<=ceq n l
 | x::l,h=>by
  unfold ceq;simp only[countP_cons,decide_eq_true_eq];rcases mem_cons.1 h with rfl|h
  . simp
  . have:=x4i h
    unfold ceq at this;omega
theorem z1h{n:Int}{l:List Int}{i:Nat}(h:i<l.length):ceq n (l.take (i+1))=ceq n (l.take i)+if l[i]=n then 1 else 0:=by
 unfold ceq;rw[qk h,List.countP_append];simp[countP_cons]
theorem v6e{n:Int}{l:List Int}{i:Nat}(h:i<l.length):cnt n (l.take (i+1))=cnt n (l.take i)+if l[i]<n then 1 else 0:=by
 unfold cnt;rw[qk h,List.countP_append];simp[countP_cons]
theorem y2l(n:Int)(l:List Int)(i:Nat):ceq n (l.take i)<=ceq n l:=by
 unfold ceq;exact(List.take_sublist i l).countP_le
theorem d7h(l:List Int)(n:Int)(hn:0<=n)(hl:l.length<=1000000000000):Df (q8c (l,n,())) (λy=>(y.1<0/\∀r∈l,r<n)\/(y.1∈l/\n<=y.1/\∀r∈l,n<=r->y.1<=r)):=by
 show Df (k4b j7c _) _;unfold k4b;dsimp only;refine dZ (P:=λy=>(y.1<0/\∀r∈l,r<n)\/(y.1∈l/\n<=y.1/\∀r∈l,n<=r->y.1<=r)) ?_ (λ_ h=>dP h);refine dL ?I ?m ?h _ ?hv ?hn
 case I=>exact(λv=>v.1=n/\v.2.2.1=l/\v.2.2.2.1=l.length/\0<=v.2.2.2.2.1/\v.2.2.2.2.1<=l.length/\((v.2.1<0/\∀r∈l.take v.2.2.2.2.1.toNat,r<n)\/(v.2.1∈l/\n<=v.2.1/\∀r∈l.take v.2.2.2.2.1.toNat,n<=r->v.2.1<=r)))
 case m=>exact(λv=>(l.length-v.2.2.2.2.1).toNat)
 case hv=>exact⟨rfl,rfl,rfl,by(try dsimp only);omega,by(try dsimp only);omega,.inl ⟨by(try dsimp only);omega,by simp⟩⟩
 case hn=>exact(by(try dsimp only);omega)
 rintro⟨x0,x1,x2,x3,x4,u⟩ hI;dsimp only at hI;obtain⟨rfl,rfl,rfl,h0,h1,hI⟩:=hI;unfold z7c;dsimp only;with_reducible repeat' (first|apply dP|apply dX<;>intro _)
 all_goals try rw[qg (n:=x4+1) (by omega)]
 . rename_i a1 a2 a3 a4
   have hlt:x4.toNat<x2.length:=by omega
   rw[getD_lt hlt]at a3 ⊢;refine⟨⟨rfl,rfl,rfl,by(try dsimp only);omega,by(try dsimp only);omega,.inr ⟨getElem_mem hlt,a3,?_⟩⟩,by(try dsimp only);omega⟩;dsimp only;intro r hr hge;rw[show (x4+1).toNat=x4.toNat+1 by omega,qk hlt]at hr;rcases mem_append.1 hr with hr|hr
   . rcases hI with⟨_,hI⟩|⟨_,hx,_⟩
     . have:=hI r hr;omega
     . omega
   . rw[mem_singleton]at hr;omega
 . rename_i a1 a2 a3 a4 a5
   have hlt:x4.toNat<x2.length:=by omega
   rw[getD_lt hlt]at a3 a5 ⊢;refine⟨⟨rfl,rfl,rfl,by(try dsimp only);omega,by(try dsimp only);omega,.inr ⟨getElem_mem hlt,a3,?_⟩⟩,by(try dsimp only);omega⟩;dsimp only;intro r hr hge;rw[show (x4+1).toNat=x4.toNat+1 by omega,qk hlt]at hr;rcases mem_append.1 hr with hr|hr
   . rcases hI with⟨hx,_⟩|⟨_,hx,hI⟩
     . omega
     . have:=hI r hr hge;omega
   . rw[mem_singleton]at hr;omega
 . rename_i a1 a2 a3 a4 a5
   have hlt:x4.toNat<x2.length:=by omega
   rw[getD_lt hlt]at a3 a5;refine⟨⟨rfl,rfl,rfl,by(try dsimp only);omega,by(try dsimp only);omega,?_⟩,by(try dsimp only);omega⟩;dsimp only;rcases hI with⟨hx,_⟩|⟨hm,hx,hI⟩
   . omega
   . refine .inr ⟨hm,hx,λr hr hge => ?_⟩
     rw[show (x4+1).toNat=x4.toNat+1 by omega,qk hlt]at hr;rcases mem_append.1 hr with hr|hr
     . exact hI r hr hge
     . rw[mem_singleton]at hr;omega
 . rename_i a1 a2 a3
   have hlt:x4.toNat<x2.length:=by omega
   rw[getD_lt hlt]at a3;refine⟨⟨rfl,rfl,rfl,by(try dsimp only);omega,by(try dsimp only);omega,?_⟩,by(try dsimp only);omega⟩;dsimp only;rcases hI with⟨hx,hI⟩|⟨hm,hx,hI⟩
   . refine .inl ⟨hx,λr hr => ?_⟩
     rw[show (x4+1).toNat=x4.toNat+1 by omega,qk hlt]at hr;rcases mem_append.1 hr with hr|hr
     . exact hI r hr
     . rw[mem_singleton]at hr;omega
   . refine .inr ⟨hm,hx,λr hr hge => ?_⟩
     rw[show (x4+1).toNat=x4.toNat+1 by omega,qk hlt]at hr;rcases mem_append.1 hr with hr|hr
     . exact hI r hr hge
     . rw[mem_singleton]at hr;omega
 . refine dO ?_;omega
 . rw[take_of_length_le (by omega)]at hI
   exact hI
theorem f0e(l:List Int)(hl:l.length<=1000000000000):Df (q9u (l,l,(l.length:Int),0,[],())) (Sum.elim (λy=>y.1=l/\(∀r∈l,0<=r/\r<=1114111)/\y.2.1.length=cnt 128 l) (λy=>y.1=[])):=by
 refine dL ?I ?m ?h _ ?hv ?hn
 case I=>exact(λv=>v.1=l/\v.2.1=l/\v.2.2.1=l.length/\0<=v.2.2.2.1/\v.2.2.2.1<=l.length/\(∀r∈l.take v.2.2.2.1.toNat,0<=r/\r<=1114111)/\v.2.2.2.2.1.length=cnt 128 (l.take v.2.2.2.1.toNat))
 case m=>exact(λv=>(l.length-v.2.2.2.1).toNat)
 case hv=>exact⟨rfl,rfl,rfl,by(try dsimp only);omega,by(try dsimp only);omega,by simp,rfl⟩
 case hn=>exact(by(try dsimp only);omega)
 rintro⟨x0,x1,x2,x3,x4,u⟩ hI;dsimp only at hI;obtain⟨rfl,rfl,rfl,h0,h1,h2,h3⟩:=hI;unfold z6w;dsimp only;with_reducible repeat' (first|apply dP|apply dX<;>intro _)
 . refine dZ (k8m _) ?_
   rintro⟨b,u⟩ hb;dsimp only at hb ⊢;have hlt:x3.toNat<x1.length:=by omega
   have hc:=z1k 128 (x1.take x3.toNat);rw[length_take]at hc;have hr:b=true->∀r∈x1.take (x3.toNat+1),0<=r/\r<=1114111:=by
    intro hbt r hr;rw[qk hlt]at hr;rcases mem_append.1 hr with hr|hr
    . exact h2 r hr
    . rw[mem_singleton]at hr
      have:=hb hbt;rw[getD_lt hlt]at this;subst hr;exact this
   have hct:=v6e (n:=128) hlt;have hs:(x3+1).toNat=x3.toNat+1:=by omega
   rw[qg (n:=x3+1) (by omega)];with_reducible repeat' (first|apply dP|apply dX<;>intro _)
   . exact rfl
   . rename_i hbt hlow _
     rw[getD_lt hlt]at hlow;rw[if_pos hlow]at hct;exact⟨⟨rfl,rfl,rfl,by(try dsimp only);omega,by(try dsimp only);omega,by dsimp only;rw[hs];exact hr hbt,by dsimp only;rw[hs,length_append,hct,h3];rfl⟩,by(try dsimp only);omega⟩
   . refine dO ?_;simp only[length_cons,length_nil]at *;omega
   . rename_i hbt hlow
     rw[getD_lt hlt]at hlow;rw[if_neg hlow]at hct;exact⟨⟨rfl,rfl,rfl,by(try dsimp only);omega,by(try dsimp only);omega,by dsimp only;rw[hs];exact hr hbt,by dsimp only;rw[hs,hct,h3];rfl⟩,by(try dsimp only);omega⟩
 . refine dO ?_;omega
 . rw[take_of_length_le (by omega)]at h2 h3
   exact⟨rfl,h2,h3⟩
theorem f0f(l:List Int)(p m delta bias h:Int)(out:List UInt8)(hl:l.length<=1000000000000)(hh:h=cnt m l)(hd:0<=delta/\delta<=2147483647)(ho:out.length<=l.length+1+14*cnt m l) :
 Df (j6z (l,p,m,delta,bias,h,l,(l.length:Int),0,out,())) (λy=>y.1=l/\y.2.1=p/\y.2.2.1=m/\0<=y.2.2.2.1/\y.2.2.2.1<=2147483647+l.length/\y.2.2.2.2.2.1=cnt m l+ceq m l/\y.2.2.2.2.2.2.1.length<=l.length+1+14*(cnt m l+ceq m l)):=by
 refine dL ?I ?m ?h _ ?hv ?hn
 case I=>exact(λv=>v.1=l/\v.2.1=p/\v.2.2.1=m/\0<=v.2.2.2.1/\v.2.2.2.1<=2147483647+v.2.2.2.2.2.2.2.2.1/\v.2.2.2.2.2.1=cnt m l+ceq m (l.take v.2.2.2.2.2.2.2.2.1.toNat)/\v.2.2.2.2.2.2.1=l/\v.2.2.2.2.2.2.2.1=l.length/\0<=v.2.2.2.2.2.2.2.2.1/\v.2.2.2.2.2.2.2.2.1<=l.length/\v.2.2.2.2.2.2.2.2.2.1.length<=l.length+1+14*(cnt m l+ceq m (l.take v.2.2.2.2.2.2.2.2.1.toNat)))
 case m=>exact(λv=>(l.length-v.2.2.2.2.2.2.2.2.1).toNat)
 case hv=>exact⟨rfl,rfl,rfl,hd.1,by(try dsimp only);omega,by dsimp only;rw[hh];simp[ceq],rfl,rfl,by(try dsimp only);omega,by(try dsimp only);omega,by dsimp only;simpa[ceq]using ho⟩
 case hn=>exact(by(try dsimp only);omega)
 rintro⟨x0,x1,x2,x3,x4,x5,x6,x7,x8,x9,u⟩ hI;dsimp only at hI;obtain⟨rfl,rfl,rfl,h0,h1,rfl,rfl,rfl,h2,h3,h4⟩:=hI;have c1:=z1k x2 x6;have c2:=y2l x2 x6 x8.toNat
 have c3:ceq x2 x6<=x6.length:=List.countP_le_length;unfold z6x;dsimp only;with_reducible repeat' (first|apply dP|apply dX<;>intro _)
 all_goals try rw[qg (n:=x8+1) (by omega)]
 . rename_i a1 a2 a3
   have hlt:x8.toNat<x6.length:=by omega
   have hct:=z1h (n:=x2) hlt;have hs:(x8+1).toNat=x8.toNat+1:=by omega
   rw[getD_lt hlt]at a3;rw[if_neg (by omega)]at hct;rw[qg (n:=x3+1) (by omega)];refine⟨⟨rfl,rfl,rfl,by(try dsimp only);omega,by(try dsimp only);omega,?_,rfl,rfl,by(try dsimp only);omega,by(try dsimp only);omega,?_⟩,by(try dsimp only);omega⟩
   . dsimp only;rw[hs,hct];simp
   . dsimp only;rw[hs,hct];omega
 . rename_i a1 a2 a3 a4
   have hlt:x8.toNat<x6.length:=by omega
   have hct:=z1h (n:=x2) hlt;have hs:(x8+1).toNat=x8.toNat+1:=by omega
   rw[getD_lt hlt]at a3 a4;rw[if_pos a4]at hct;refine dZ (d7i _ _ _ h0 (by rw[show (10:Int)^13=10000000000000 from rfl];omega) (by omega)) ?_;rintro⟨y,u⟩ hy;dsimp only at hy ⊢;rw[qg (n:=((cnt x2 x6:Int)+(ceq x2 (x6.take x8.toNat):Int))+1) (by omega)];refine dZ (b3w _ _ _ h0 (by omega)) ?_;rintro⟨z,u⟩ -
   dsimp only;refine dP ⟨⟨rfl,rfl,rfl,by(try dsimp only);omega,by(try dsimp only);omega,?_,rfl,rfl,by(try dsimp only);omega,by(try dsimp only);omega,?_⟩,by(try dsimp only);omega⟩
   . dsimp only;rw[hs,hct];simp;omega
   . dsimp only;rw[hs,hct];omega
 . rename_i a1 a2 a3 a4
   have hlt:x8.toNat<x6.length:=by omega
   have hct:=z1h (n:=x2) hlt;have hs:(x8+1).toNat=x8.toNat+1:=by omega
   rw[getD_lt hlt]at a3 a4;rw[if_neg a4]at hct;refine⟨⟨rfl,rfl,rfl,by(try dsimp only);omega,by(try dsimp only);omega,?_,rfl,rfl,by(try dsimp only);omega,by(try dsimp only);omega,?_⟩,by(try dsimp only);omega⟩
   . dsimp only;rw[hs,hct];simp
   . dsimp only;rw[hs,hct];omega
 . refine dO ?_;omega
 . rw[take_of_length_le (by omega)]at h4 ⊢
   exact⟨rfl,rfl,rfl,by(try dsimp only);omega,by(try dsimp only);omega,rfl,h4⟩
theorem f0g(l:List Int)(out:List UInt8)(hl:l.length<=1000000000000)(hr:∀r∈l,0<=r/\r<=1114111)(ho:out.length<=l.length+1) :
 Df (q9v (l,(cnt 128 l:Int),128,0,72,(cnt 128 l:Int),out,())) (Sum.elim (λy=>y.1.length<=15*l.length+1) (λy=>y.1=[])):=by
 refine dL ?I ?m ?h _ ?hv ?hn
 case I=>exact(λv=>v.1=l/\128<=v.2.2.1/\v.2.2.1<=1114112/\0<=v.2.2.2.1/\v.2.2.2.1<=2147483648+l.length/\v.2.2.2.2.2.1=cnt v.2.2.1 l/\v.2.2.2.2.2.2.1.length<=l.length+1+14*cnt v.2.2.1 l)
 case m=>exact(λv=>l.length-cnt v.2.2.1 l)
 case hv=>exact⟨rfl,by(try dsimp only);omega,by(try dsimp only);omega,by(try dsimp only);omega,by(try dsimp only);omega,rfl,by(try dsimp only);omega⟩
 case hn=>exact(by(try dsimp only);omega)
 rintro⟨x0,x1,x2,x3,x4,x5,x6,u⟩ hI;dsimp only at hI;obtain⟨rfl,h0,h1,h2,h3,rfl,h4⟩:=hI;have c1:=z1k x2 x0;unfold z6y;dsimp only;with_reducible repeat' (first|apply dP|apply dX<;>intro _)
 . rename_i hlt
   refine dZ (d7h x0 x2 (by omega) hl) ?_;rintro⟨m,u⟩ hm;dsimp only at hm ⊢;rcases hm with⟨_,hm⟩|⟨hm,hnm,hmin⟩
   . have:=x4j hm
     omega
   . have hm2:=hr m hm
     have hp0:0<=(m-x2)*((cnt x2 x0:Int)+1):=Int.mul_nonneg (by omega) (by omega);have hp1:(m-x2)*((cnt x2 x0:Int)+1)<=1114111*((cnt x2 x0:Int)+1):=Int.mul_le_mul_of_nonneg_right (by omega) (by omega);rw[k2c (n:=m-x2) (by omega),qg (n:=m-x2) (by omega),qg (n:=(cnt x2 x0:Int)+1) (by omega)];generalize (m-x2)*((cnt x2 x0:Int)+1)=P at hp0 hp1 ⊢;rw[qg (n:=P) (by omega),qg (n:=x3+P) (by omega)];have hsame:=y2m hnm hmin;have hpos:=x4i hm;have hsucc:=y2n m x0;have c4:=z1k (m+1) x0;with_reducible repeat' (first|apply dP|apply dX<;>intro _)
     . exact rfl
     . refine dZ (f0f x0 x1 m (x3+P) x4 _ x6 hl (by rw[hsame]) (by omega) (by omega)) ?_
       rintro⟨y0,y1,y2,y3,y4,y5,y6,u⟩ hy;dsimp only at hy ⊢;obtain⟨rfl,rfl,rfl,k0,k1,rfl,k2⟩:=hy;rw[k2c (n:=y2+1) (by omega),qg (n:=y3+1) (by omega)];refine dP ⟨⟨rfl,by(try dsimp only);omega,by(try dsimp only);omega,by(try dsimp only);omega,by(try dsimp only);omega,?_,?_⟩,?_⟩
       . dsimp only;rw[hsucc];simp
       . dsimp only;rw[hsucc];exact k2
       . dsimp only;omega
 . exact(by(try dsimp only);omega:x6.length<=15*x0.length+1)
theorem f0d(l:List Int)(hl:l.length<=1000000000000):Df (x6p (l,())) (λy=>y.1.length<=15*l.length+1):=by
 show Df (k3p xi q8c q8d q0o q9t q9u _) _;unfold k3p;dsimp only;refine dZ (f0e l hl) ?_;intro z hz;refine dS hz ?_ ?_
 . rintro⟨x0,x1,u⟩ hx
   dsimp only at hx ⊢;obtain⟨rfl,hr,hc⟩:=hx;have c0:=z1k 128 x0;have jh:∀out:List UInt8,out.length<=x0.length+1->Df ((q9t (x0,(x1.length:Int),out,())).bind λval=>some (val.fst,val.snd.fst,())) (λy=>y.1.length<=15*x0.length+1):=by
    intro out ho;refine dZ (P:=λy=>y.1.length<=15*x0.length+1) ?_ (λ_ h=>dP h);show Df (j7s xi q8c q8d q0o q9v _) _;unfold j7s;dsimp only;rw[hc];refine dZ (f0g x0 out hl hr ho) ?_;intro z hz;refine dS hz ?_ ?_
    . rintro⟨y,u⟩ hy;exact dP hy
    . rintro⟨y,b,u⟩ hy
      dsimp only at hy;subst hy;exact dP (by simp)
   with_reducible repeat' (first|apply dP|apply dX<;>intro _)
   . exact jh _ (by simp only[jf];omega)
   . refine dO ?_;simp only[length_cons,length_nil]at *;omega
   . exact jh _ (by omega)
 . rintro⟨y,b,u⟩ hy
   dsimp only at hy;subst hy;exact dP (by simp)
structure TK (T:List R6) (A:List R4) (B:List R3):Prop where
 t:TOk T
 a:A.length<=1000000000000
 b:B.length<=1000000000000
section
variable {T:List R6} {A:List R4} {B:List R3}
theorem y6q(l:List Int)(p n:Int)(hp:0<=p/\p<=1000000000000000)(hn : -1000000000000001<=n/\n<=1000000000000001):Df (q1k (T,A,B,l,p,n,())) (λy=>y.1>=0->0<=p+n/\p+n<l.length):=by
 show Df (k5d _) _;unfold k5d;dsimp only;rw[qg (n:=p+n) (by omega)];with_reducible repeat' (first|apply dP|apply dX<;>intro _)
 . intro h;dsimp only at h;omega
 . intro h;dsimp only at h;omega
 . intro h;omega
 . refine dO ?_;omega
theorem b3z(h:TK T A B)(l:List Int)(p:Int)(hp:0<=p/\p<=1000000000000000):Df (z6d (T,A,B,l,p,())) (λ_=>True):=by
 show Df (k4n xj q1k _) _;unfold k4n;dsimp only;refine dZ (y6q l p (-1) hp (by omega)) ?_;rintro⟨x,u⟩ -
 exact dZ (v6p T A B _ h.a) λ_ _=>dP trivial
theorem b4b(h:TK T A B)(l:List Int)(p s:Int)(hp:0<=p/\p<l.length)(hl:l.length<=1000000000000)(hs:s=1\/s = -1):Df (v2h (T,A,B,l,p,s,())) (λ_=>True):=by
 show Df (k5e q1k y0x j7k _) _;unfold k5e;dsimp only;refine dZ (P:=λ_=>True) ?_ ?_
 . refine dL ?I ?m ?h _ ?hv ?hn
   case I=>exact(λv=>v.1=s/\v.2.2.1=T/\v.2.2.2.2.2.1=l/\v.2.2.2.2.2.2.1=p /\ -1<=p+v.2.1/\p+v.2.1<=l.length)
   case m=>exact(λv=>(bif s==1 then(l.length-(p+v.2.1))else p+v.2.1+1).toNat)
   case hv=>exact⟨rfl,rfl,rfl,rfl,by(try dsimp only);omega,by(try dsimp only);omega⟩
   case hn=>exact(by rcases hs with rfl|rfl<;>simp<;>omega)
   rintro⟨x0,x1,x2,x3,x4,x5,x6,u⟩ hI;dsimp only at hI;obtain⟨rfl,rfl,rfl,rfl,h0,h1⟩:=hI;unfold z7r;dsimp only;refine dZ (y6q x5 x6 x1 (by omega) (by omega)) ?_;rintro⟨c,u⟩ hc;dsimp only at hc ⊢;with_reducible repeat' (first|apply dP|apply dX<;>intro _)
   . rename_i hge
     have hc':=hc hge;refine dZ (y6q x5 x6 x1 (by omega) (by omega)) ?_;rintro⟨c,u⟩ -
     dsimp only;refine dZ (d8r x2 _ _ _ h.t) ?_;rintro⟨j,u⟩ -
     dsimp only;rw[qg (n:=x1+x0) (by omega)];with_reducible repeat' (first|apply dP|apply dX<;>intro _)
     . trivial
     . refine⟨⟨rfl,rfl,rfl,rfl,by(try dsimp only);omega,by(try dsimp only);omega⟩,?_⟩
       rcases hs with rfl|rfl
       . simp only[show ((1:Int)==1)=true from rfl,cond_true];omega
       . simp only[show ((-1:Int)==1)=false from rfl,cond_false];omega
   . trivial
 . intro z hz
   cases z<;>exact dP trivial
theorem d8b(h:TK T A B)(l:List Int)(p:Int)(hp:0<=p/\p<l.length)(hl:l.length<=1000000000000):Df (x6w (T,A,B,l,p,())) (λ_=>True):=by
 show Df (k4o z6d v2h _) _;unfold k4o;dsimp only;refine dZ (b4b h l p 1 hp hl (.inl rfl)) ?_;rintro⟨x,u⟩ -
 refine dZ (b3z h l p (by omega)) ?_;rintro⟨y,u⟩ -
 dsimp only;with_reducible repeat' (first|apply dP|apply dX<;>intro _)
 . trivial
 . refine dZ (b4b h l p (-1) hp hl (.inr rfl)) ?_
   rintro⟨x,u⟩ -
   dsimp only;with_reducible repeat' (first|apply dP|apply dX<;>intro _)
   all_goals trivial
theorem d8c(l:List Int)(p:Int)(hp:0<=p/\p<=1000000000000000):Df (x6x (T,A,B,l,p,())) (λ_=>True):=by
 show Df (k4p q1k _) _;unfold k4p;dsimp only;refine dZ (y6q l p (-1) hp (by omega)) ?_;rintro⟨x,u⟩ -
 dsimp only;with_reducible repeat' (first|apply dP|apply dX<;>intro _)
 . exact dZ (y6q l p 1 hp (by omega)) λ_ _=>dP trivial
 . trivial
theorem d8d(h:TK T A B)(l:List Int)(p:Int)(hp:0<=p/\p<=1000000000000000):Df (x6y (T,A,B,l,p,())) (λ_=>True):=by
 show Df (k4q q1k j9v _) _;unfold k4q;dsimp only;refine dZ (y6q l p 1 hp (by omega)) ?_;rintro⟨x,u⟩ -
 exact dZ (f0w T A B _ h.t) λ_ _=>dP trivial
theorem d8e(h:TK T A B)(l:List Int)(p:Int)(hp:0<=p/\p<=1000000000000000):Df (x6z (T,A,B,l,p,())) (λ_=>True):=by
 show Df (k4r q1k j9v _) _;unfold k4r;dsimp only;refine dZ (y6q l p (-1) hp (by omega)) ?_;rintro⟨x,u⟩ -
 exact dZ (f0w T A B _ h.t) λ_ _=>dP trivial
theorem b3u(x:Int):Df (j9p (x,())) (λ_=>True):=by
 show Df (k3v _) _;unfold k3v;dsimp only;with_reducible repeat' (first|apply dP|apply dX<;>intro _)
 all_goals trivial
theorem b3v(x:Int):Df (j9q (x,())) (λ_=>True):=by
 show Df (k3y _) _;unfold k3y;dsimp only;with_reducible repeat' (first|apply dP|apply dX<;>intro _)
 all_goals trivial
theorem d8a(l:List Int)(hl:l.length<=1000000000000):Df (v2c (l,())) (λ_=>True):=by
 show Df (k4m j9q j7f _) _;unfold k4m;dsimp only;refine dZ (P:=λ_=>True) ?_ (λz _=>by cases z<;>exact dP trivial);refine dL ?I ?m ?h _ ?hv ?hn
 case I=>exact(λv=>v.1=l/\v.2.1=l.length/\0<=v.2.2.1/\v.2.2.1<=l.length)
 case m=>exact(λv=>(l.length-v.2.2.1).toNat)
 case hv=>exact⟨rfl,rfl,by(try dsimp only);omega,by(try dsimp only);omega⟩
 case hn=>exact(by(try dsimp only);omega)
 rintro⟨x0,x1,x2,u⟩ hI;dsimp only at hI;obtain⟨rfl,rfl,h0,h1⟩:=hI;unfold z7i;dsimp only;with_reducible repeat' (first|apply dP|apply dX<;>intro _)
 . refine dZ (b3v _) ?_
   rintro⟨b,u⟩ -
   dsimp only;rw[qg (n:=x2+1) (by omega)];with_reducible repeat' (first|apply dP|apply dX<;>intro _)
   . trivial
   . exact⟨⟨rfl,rfl,by(try dsimp only);omega,by(try dsimp only);omega⟩,by(try dsimp only);omega⟩
 . refine dO ?_;omega
 . trivial
theorem f0q(l:List Int)(hl:l.length<=1000000000000):Df (j9t (l,())) (λ_=>True):=by
 show Df (z7j j9p q5d _) _;unfold z7j;dsimp only;refine dZ (P:=λ_=>True) ?_ (λz _=>by cases z<;>exact dP trivial);refine dL ?I ?m ?h _ ?hv ?hn
 case I=>exact(λv=>v.1=l/\v.2.1=l.length/\0<=v.2.2.1/\v.2.2.1<=l.length)
 case m=>exact(λv=>(l.length-v.2.2.1).toNat)
 case hv=>exact⟨rfl,rfl,by(try dsimp only);omega,by(try dsimp only);omega⟩
 case hn=>exact(by(try dsimp only);omega)
 rintro⟨x0,x1,x2,u⟩ hI;dsimp only at hI;obtain⟨rfl,rfl,h0,h1⟩:=hI;unfold j4n;dsimp only;with_reducible repeat' (first|apply dP|apply dX<;>intro _)
 . refine dZ (b3u _) ?_
   rintro⟨b,u⟩ -
   dsimp only;rw[qg (n:=x2+1) (by omega)];with_reducible repeat' (first|apply dP|apply dX<;>intro _)
   . trivial
   . exact⟨⟨rfl,rfl,by(try dsimp only);omega,by(try dsimp only);omega⟩,by(try dsimp only);omega⟩
 . refine dO ?_;omega
 . trivial
theorem d7f(l:List Int)(p:Int)(hl:l.length<=1000000000000):Df (x6r (T,A,B,l,p,())) (λ_=>True):=by
 show Df (k3w k2i _) _;unfold k3w;dsimp only;refine dZ (P:=λ_=>True) ?_ (λ_ _=>dP trivial);show Df (k3x v2c _) _;unfold k3x;dsimp only;exact dZ (d8a l hl) λ_ _=>dP trivial
theorem d7g(l:List Int)(p:Int)(hl:l.length<=1000000000000):Df (x6s (T,A,B,l,p,())) (λ_=>True):=by
 show Df (k3z z6b _) _;unfold k3z;dsimp only;refine dZ (P:=λ_=>True) ?_ (λ_ _=>dP trivial);show Df (z7a j9t _) _;unfold z7a;dsimp only;exact dZ (f0q l hl) λ_ _=>dP trivial
theorem d8p(h:TK T A B)(r:Int)(l:List Int)(p:Int):Df (y0w (r,T,A,B,l,p,())) (λy=>y.2=(T,A,B,l,p,())):=by
 show Df (k5g j9v _) _;unfold k5g;dsimp only;refine dZ (f0w T A B _ h.t) ?_;rintro⟨x,u⟩ -
 dsimp only;with_reducible repeat' (first|apply dP|apply dX<;>intro _)
 all_goals rfl
theorem f0r(h:TK T A B)(l:List Int)(l':List Int)(p:Int)(hl:l.length<=1000000000000):Df (j9u (l,T,A,B,l',p,())) (λ_=>True):=by
 show Df (z7k y0w q5e _) _;unfold z7k;dsimp only;refine dZ (P:=λ_=>True) ?_ (λz _=>by cases z<;>exact dP trivial);refine dL ?I ?m ?h _ ?hv ?hn
 case I=>exact(λv=>v.1=l/\v.2.1=l.length/\0<=v.2.2.1/\v.2.2.1<=l.length/\v.2.2.2=(T,A,B,l',p,()))
 case m=>exact(λv=>(l.length-v.2.2.1).toNat)
 case hv=>exact⟨rfl,rfl,by(try dsimp only);omega,by(try dsimp only);omega,rfl⟩
 case hn=>exact(by(try dsimp only);omega)
 rintro⟨x0,x1,x2,x3,x4,x5,x6,x7,u⟩ hI;dsimp only at hI;obtain⟨rfl,rfl,h0,h1,h2⟩:=hI;simp only[Prod.mk.injEq]at h2;obtain⟨rfl,rfl,rfl,rfl,rfl,-⟩:=h2;unfold j4o;dsimp only;with_reducible repeat' (first|apply dP|apply dX<;>intro _)
 . refine dZ (d8p h _ _ _) ?_
   rintro⟨b,y1,y2,y3,y4,y5,u⟩ hy;simp only[Prod.mk.injEq]at hy;obtain⟨rfl,rfl,rfl,rfl,rfl,-⟩:=hy;dsimp only;rw[qg (n:=x2+1) (by omega)];with_reducible repeat' (first|apply dP|apply dX<;>intro _)
   . trivial
   . exact⟨⟨rfl,rfl,by(try dsimp only);omega,by(try dsimp only);omega,rfl⟩,by(try dsimp only);omega⟩
 . refine dO ?_;omega
 . trivial
theorem d8f(h:TK T A B)(l:List Int)(p:Int)(hl:l.length<=1000000000000):Df (x7a (T,A,B,l,p,())) (λ_=>True):=by
 show Df (k4s z6c _) _;unfold k4s;dsimp only;refine dZ (P:=λ_=>True) ?_ (λ_ _=>dP trivial);show Df (z7b j9u _) _;unfold z7b;dsimp only;exact dZ (f0r h l l p hl) λ_ _=>dP trivial
theorem d7a(x:Int):Df (z5v (x,())) (λ_=>True):=by
 show Df (k3l j9p j9q k2j _) _;unfold k3l;dsimp only;refine dZ (b3u x) ?_;rintro⟨b,u⟩ -
 dsimp only;with_reducible repeat' (first|apply dP|apply dX<;>intro _)
 . trivial
 . refine dZ (b3v x) ?_
   rintro⟨b,u⟩ -
   dsimp only;with_reducible repeat' (first|apply dP|apply dX<;>intro _)
   . trivial
   . refine dZ (P:=λ_=>True) ⟨(),rfl,trivial⟩ ?_
     intro u _;with_reducible repeat' (first|apply dP|apply dX<;>intro _)
     all_goals trivial
theorem d6q(h:TK T A B)(l:List Int)(p:Int)(hl:l.length<=1000000000000)(hp:p<=1000000000000):Df (z2m (T,A,B,l,p,())) (λ_=>True):=by
 show Df (x7o z5v x6r x6s z6d x6w x6x x6y x6z x7a _) _;unfold x7o;dsimp only;have jh:∀{x:Option (Bool×Unit)},Df x (λ_=>True)->Df (x.bind λval=>bif val.fst then some ((1:Int),())else some (2,())) (λ_=>True):=by
  intro x hx;refine dZ hx ?_;rintro⟨b,u⟩ -
  dsimp only;with_reducible repeat' (first|apply dP|apply dX<;>intro _)
  all_goals trivial
 with_reducible repeat' (first|apply dP|apply dX<;>intro _)
 . trivial
 . trivial
 . refine dZ (d7a _) ?_
   intro z _;rcases z with z|z|z|z|z|z|z|z|z
   . exact jh (d7f l p hl)
   . exact jh (d7g l p hl)
   . exact jh (b3z h l p (by omega))
   . exact jh (d8b h l p (by omega) hl)
   . exact jh (d8c l p (by omega))
   . exact jh (d8d h l p (by omega))
   . exact jh (d8e h l p (by omega))
   . exact jh (d8f h l p hl)
   . exact dP trivial
 . refine dO ?_;omega
theorem d7b(h:TK T A B)(r:Int):Df (j4f (T,A,B,r,())) (λ_=>True):=by
 show Df (k3n y5f zu _) _;unfold k3n;dsimp only;refine dZ (b3o T A B r) ?_;rintro⟨v0,a,c,s,o,is,u⟩ -
 dsimp only;with_reducible repeat' (first|apply dP|apply dX<;>intro _)
 all_goals first
  | trivial
  | (refine dZ (b3n T A B r h.t) ?_;rintro⟨x,u⟩ -;dsimp only;(repeat' (first|apply dP|(apply dG<;>intro _)));all_goals trivial)
theorem d7q(h:TK T A B)(l:List Int)(hl:l.length<=1000000000000):Df (x6u (T,A,B,l,())) (λ_=>True):=by
 show Df (x7u z2m j4f j0b _) _;unfold x7u;dsimp only;refine dZ (P:=λ_=>True) ?_ (λz _=>by cases z<;>exact dP trivial);refine dL ?I ?m ?h _ ?hv ?hn
 case I=>exact(λv=>v.1=l/\v.2.1=l/\v.2.2.1=l.length/\0<=v.2.2.2.1/\v.2.2.2.1<=l.length/\v.2.2.2.2=(T,A,B,()))
 case m=>exact(λv=>(l.length-v.2.2.2.1).toNat)
 case hv=>exact⟨rfl,rfl,rfl,by(try dsimp only);omega,by(try dsimp only);omega,rfl⟩
 case hn=>exact(by(try dsimp only);omega)
 rintro⟨x0,x1,x2,x3,x4,x5,x6,u⟩ hI;dsimp only at hI;obtain⟨rfl,rfl,rfl,h0,h1,h2⟩:=hI;simp only[Prod.mk.injEq]at h2;obtain⟨rfl,rfl,rfl,-⟩:=h2;unfold j8b;dsimp only;with_reducible repeat' (first|apply dP|apply dX<;>intro _)
 . refine dZ (d6q h _ _ hl (by omega)) ?_
   rintro⟨b,u⟩ -
   dsimp only;rw[qg (n:=x3+1) (by omega)];with_reducible repeat' (first|apply dP|apply dX<;>intro _)
   . trivial
   . refine dZ (d7b h _) ?_
     rintro⟨b,u⟩ -
     dsimp only;with_reducible repeat' (first|apply dP|apply dX<;>intro _)
     . trivial
     . exact⟨⟨rfl,rfl,rfl,by(try dsimp only);omega,by(try dsimp only);omega,rfl⟩,by(try dsimp only);omega⟩
   . exact⟨⟨rfl,rfl,rfl,by(try dsimp only);omega,by(try dsimp only);omega,rfl⟩,by(try dsimp only);omega⟩
 . refine dO ?_;omega
 . trivial
theorem d7p(h:TK T A B)(l:List Int)(hl:l.length<=1000000000000):Df (x6t (T,A,B,l,())) (λy=>y.2=(T,A,B,l,())):=by
 show Df (v4i x6u _) _;unfold v4i;dsimp only;exact dZ (d7q h l hl) λ_ _=>dP rfl
theorem b3l(h:TK T A B)(l:List Int)(hl:l.length<=1000000000000):Df (q9q (T,A,B,l,())) (λ_=>True):=by
 show Df (k3g q8b j6y _) _;unfold k3g;dsimp only;refine dZ (P:=λy=>y.1.length=8/\y.2.1.length=8) ?_ ?_
 . refine dL ?I ?m ?h _ ?hv ?hn
   case I=>exact(λv=>v.1=l/\v.2.1=l.length/\0<=v.2.2.1/\v.2.2.1<=l.length/\v.2.2.2.1=T/\v.2.2.2.2.2.2.1.length=8/\v.2.2.2.2.2.2.2.1.length=8)
   case m=>exact(λv=>(l.length-v.2.2.1).toNat)
   case hv=>exact⟨rfl,rfl,by(try dsimp only);omega,by(try dsimp only);omega,rfl,rfl,rfl⟩
   case hn=>exact(by(try dsimp only);omega)
   rintro⟨x0,x1,x2,x3,x4,x5,x6,x7,u⟩ hI;dsimp only at hI;obtain⟨rfl,rfl,h0,h1,rfl,h2,h3⟩:=hI;unfold z6u;dsimp only;with_reducible repeat' (first|apply dP|apply dX<;>intro _)
   . refine dZ (f0c x3 _ _ _ h.t) ?_
     rintro⟨b,u⟩ hb;dsimp only at hb ⊢;rw[qg (n:=x2+1) (by omega)];with_reducible repeat' (first|apply dP|apply dX<;>intro _)
     all_goals first
      | exact⟨⟨rfl,rfl,by(try dsimp only);omega,by(try dsimp only);omega,rfl,h2,by simp only[length_set];omega⟩,by(try dsimp only);omega⟩
      | (refine dO ?_;omega)
   . refine dO ?_;omega
   . exact⟨h2,h3⟩
 . rintro⟨x0,x1,u⟩ hx
   dsimp only at hx ⊢;with_reducible repeat' (first|apply dP|apply dX<;>intro _)
   all_goals first|trivial|(refine dO ?_;omega)
theorem b3h(h:TK T A B)(l:List Int)(hl:l.length<=1000000000000):Df (j4a (T,A,B,l,())) (λ_=>True):=by
 show Df (k3b q9q _) _;unfold k3b;dsimp only;exact dZ (b3l h l hl) λ_ _=>dP trivial
theorem d6s(h:TK T A B)(l:List Int):Df (j9n (T,A,B,l,())) (λ_=>True):=by
 show Df (k3h q8b _) _;unfold k3h;dsimp only;with_reducible repeat' (first|apply dP|apply dX<;>intro _)
 . trivial
 . refine dZ (f0c T A B _ h.t) ?_
   rintro⟨b,u⟩ -
   dsimp only;with_reducible repeat' (first|apply dP|apply dX<;>intro _)
   all_goals trivial
 . refine dO ?_;omega
theorem g9x(x:Bool)(y:Bool)(z:List Int)(hz:z.length=8):Df (q9n (x,y,z,())) (λ_=>True):=by
 show Df (j7n j4a q9q j6h j9n _) _;unfold j7n;dsimp only;with_reducible repeat' (first|apply dP|apply dX<;>intro _)
 all_goals first|trivial|(refine dO ?_;omega)|(rename_i h1 h2;exact absurd (show Int.toNat 1<z.length by rw[hz];decide) h2)
theorem v6l(x:Int)(y:Bool)(z:List Int)(hz:z.length=8):Df (j6x (x,y,z,())) (λ_=>True):=by
 show Df (j7o j4a q9q j6h j9n q9n _) _;unfold j7o;dsimp only;with_reducible repeat' (first|apply dP|apply dX<;>intro _)
 all_goals exact dZ (g9x _ _ z hz) λ_ _=>dP trivial
end
section
variable {T:List R6} {A:List R4} {B:List R3}
theorem k8o(hA:A.length<=1000000000000)(a b:Int):Df (zl (a,b,T,A,B,())) (λy=>y.2=(T,A,B,())):=by
 unfold zl k4l;dsimp only;refine dZ (v6p T A B _ hA) ?_;rintro⟨x,u⟩ -
 exact dZ (v6p T A B _ hA) λ_ _=>dP rfl
theorem f0x(o n:Nat)(a b i j:Int)(row:List Int)(hj:1<=j/\j<n)(hn:n<=100000000000000) :
 Df (q2f (((o:Int),(n:Int)),a,b,i,j,row,T,A,B,())) (λy=>∃(r':List Int),r'.length=row.length/\y=(((o:Int),(n:Int)),a,b,i,j-1,r',T,A,B,())):=by
 unfold q2f j8i;dsimp only;simp only[toNat_natCast];rw[qg (n:=j-1) (by omega)];with_reducible repeat' (first|apply dP|apply dX<;>intro _)
 . exact⟨_,by simp only[length_set],rfl⟩
 all_goals (refine dO ?_;omega)
theorem f0y(hA:A.length<=1000000000000)(o n:Nat)(a b i j:Int)(row:List Int)(ha:0<=a)(hj:a<=j/\j<n)(hn:n<=100000000000000) :
 Df (j0m (((o:Int),(n:Int)),a,b,i,j,row,T,A,B,())) (λy=>∃(r':List Int),r'.length=row.length/\y=(((o:Int),(n:Int)),a,b,i,r',T,A,B,())):=by
 refine dL ?I ?m ?h _ ?hv ?hn
 case I=>exact(λv=>∃(j':Int) (r':List Int),a<=j'/\j'<n/\r'.length=row.length/\v=(((o:Int),(n:Int)),a,b,i,j',r',T,A,B,()))
 case m=>exact(λv=>(v.2.2.2.2.1-a).toNat)
 case hv=>exact⟨j,row,hj.1,hj.2,rfl,rfl⟩
 case hn=>exact(by(try dsimp only);omega)
 rintro v ⟨j',r',h1,h2,h3,rfl⟩;unfold j8j;dsimp only;simp only[toNat_natCast];rw[qg (n:=j'-1) (by omega)];with_reducible repeat' (first|apply dP|apply dX<;>intro _)
 . refine dZ (k8o hA _ _) ?_
   rintro⟨c,t,a',b',u⟩ hc;simp only[Prod.mk.injEq]at hc;obtain⟨rfl,rfl,rfl,-⟩:=hc;dsimp only;with_reducible repeat' (first|apply dP|apply dX<;>intro _)
   . refine dZ (f0x o n a b i j' r' (by omega) hn) ?_
     rintro y ⟨r2,h4,rfl⟩;dsimp only;simp only[toNat_natCast];exact dP ⟨⟨_,_,by omega,by omega,h4.trans h3,rfl⟩,by(try dsimp only);omega⟩
   . exact⟨_,h3,rfl⟩
 . refine dO ?_;omega
 . refine dO ?_;omega
 . exact⟨_,h3,rfl⟩
theorem b4c(hA:A.length<=1000000000000)(o n:Nat)(a b:Int)(row:List Int)(ha:0<=a/\a<=n)(hb:b<=n)(hn:n<=100000000000000) :
 Df (j0l (((o:Int),(n:Int)),a,b,row,T,A,B,())) (λy=>∃(r':List Int),r'.length=row.length/\y=(r',T,A,B,())):=by
 unfold j0l k5h;dsimp only;simp only[toNat_natCast];rw[qg (n:=a+1) (by omega)];refine dZ (P:=λy=>∃(r':List Int),r'.length=row.length/\y=(r',T,A,B,())) ?_ ?_
 . refine dL ?I ?m ?h _ ?hv ?hn
   case I=>exact(λv=>∃(i:Int) (r':List Int),a+1<=i/\r'.length=row.length/\v=(((o:Int),(n:Int)),a,b,i,r',T,A,B,()))
   case m=>exact(λv=>(b-v.2.2.2.1).toNat)
   case hv=>exact⟨a+1,row,Int.le_refl _,rfl,rfl⟩
   case hn=>exact(by(try dsimp only);omega)
   rintro v ⟨i,r',h1,h2,rfl⟩;unfold j8k;dsimp only;simp only[toNat_natCast];with_reducible repeat' (first|apply dP|apply dX<;>intro _)
   . refine dZ (f0y hA o n a b i i r' ha.1 (by omega) hn) ?_
     rintro y ⟨r2,h4,rfl⟩;dsimp only;simp only[toNat_natCast];rw[qg (n:=i+1) (by omega)];exact dP ⟨⟨_,_,by omega,h4.trans h2,rfl⟩,by(try dsimp only);omega⟩
   . exact⟨_,h2,rfl⟩
 . rintro y ⟨r',h,rfl⟩
   exact dP ⟨_,h,rfl⟩
theorem f1e(o n:Nat)(a b k:Int)(row:List Int)(ha:0<=a/\a+k<=n)(hb:0<=b/\b+k<=n)(hn:n<=100000000000000) :
 Df (z2r (((o:Int),(n:Int)),a,b,k,row,T,A,B,())) (λy=>∃(r':List Int),r'.length=row.length/\y=(r',T,A,B,())):=by
 unfold z2r k5k;dsimp only;simp only[toNat_natCast];refine dZ (P:=λy=>∃(r':List Int),r'.length=row.length/\y=(r',T,A,B,())) ?_ ?_
 . refine dL ?I ?m ?h _ ?hv ?hn
   case I=>exact(λv=>∃(i:Int) (r':List Int),0<=i/\r'.length=row.length/\v=(((o:Int),(n:Int)),a,b,k,i,r',T,A,B,()))
   case m=>exact(λv=>(k-v.2.2.2.2.1).toNat)
   case hv=>exact⟨0,row,Int.le_refl _,rfl,rfl⟩
   case hn=>exact(by(try dsimp only);omega)
   rintro v ⟨i,r',h1,h2,rfl⟩;unfold j8m;dsimp only;simp only[toNat_natCast];by_cases hlt:i<k
   . rw[qg (n:=a+i) (by omega),qg (n:=b+i) (by omega),qg (n:=i+1) (by omega)]
     with_reducible repeat' (first|apply dP|apply dX<;>intro _)
     . exact⟨⟨_,_,by omega,by simp only[length_set];exact h2,rfl⟩,by(try dsimp only);omega⟩
     all_goals first|(refine dO ?_;omega)|(exfalso;omega)
   . rw[decide_eq_false hlt]
     exact dP ⟨_,h2,rfl⟩
 . rintro y ⟨r',h,rfl⟩
   exact dP ⟨_,h,rfl⟩
theorem d8s(o n:Nat)(a m b:Int)(row:List Int)(ha:0<=a/\a<m)(hb:m<b/\b<=n)(hn:n<=100000000000000) :
 Df (zx (((o:Int),(n:Int)),a,m,b,row,T,A,B,())) (λy=>∃(r':List Int),r'.length=row.length/\y=(r',T,A,B,())):=by
 unfold zx k5j;dsimp only;simp only[toNat_natCast];rw[qg (n:=m-a) (by omega),qg (n:=b-m) (by omega)];refine dZ (P:=λy=>∃(i:Int) (r':List Int),0<=i/\i<=m-a/\m+i<=n/\r'.length=row.length/\y=(((o:Int),(n:Int)),m,i,r',T,A,B,())) ?_ ?_
 . refine dL ?I ?m ?h _ ?hv ?hn
   case I=>exact(λv=>∃(i:Int) (j:Int) (r':List Int),0<i/\0<j/\i<=m-a/\j<=b-m/\r'.length=row.length/\v=(((o:Int),(n:Int)),m,i,j,r',T,A,B,()))
   case m=>exact(λv=>(v.2.2.1+v.2.2.2.1).toNat)
   case hv=>exact⟨m-a,b-m,row,by omega,by omega,Int.le_refl _,Int.le_refl _,rfl,rfl⟩
   case hn=>exact(by(try dsimp only);omega)
   rintro v ⟨i,j,r',h1,h2,h3,h4,h5,rfl⟩;unfold j8l;dsimp only;simp only[toNat_natCast];rw[qg (n:=m-i) (by omega),qg (n:=i-j) (by omega),qg (n:=j-i) (by omega),qg (n:=m+j) (by omega),qg (n:=m+j-i) (by omega)];with_reducible repeat' (first|apply dP|apply dX<;>intro _)
   . refine dZ (f1e o n (m-i) m j r' (by omega) (by omega) hn) ?_
     rintro y ⟨r2,h6,rfl⟩;dsimp only;exact dP ⟨⟨_,_,_,by omega,by omega,by omega,by omega,h6.trans h5,rfl⟩,by(try dsimp only);omega⟩
   . refine dZ (f1e o n (m-i) (m+j-i) i r' (by omega) (by omega) hn) ?_
     rintro y ⟨r2,h6,rfl⟩;dsimp only;exact dP ⟨⟨_,_,_,by omega,by omega,by omega,by omega,h6.trans h5,rfl⟩,by(try dsimp only);omega⟩
   . exact⟨_,_,by omega,by omega,by omega,h5,rfl⟩
 . rintro y ⟨i,r',h1,h2,h3,h4,rfl⟩
   dsimp only;simp only[toNat_natCast];rw[qg (n:=m-i) (by omega)];refine dZ (f1e o n (m-i) m i r' (by omega) (by omega) hn) ?_;rintro y ⟨r2,h6,rfl⟩;exact dP ⟨_,h6.trans h4,rfl⟩
theorem f0z(G:ji)(hA:A.length<=1000000000000)(o n:Nat)(a i j:Int)(row:List Int)(ha:0<=a/\a<n)(hi:0<=i/\i<=j)(hj:j<=n)(hn:n<=100000000000000) :
 Df (vk G (((o:Int),(n:Int)),a,i,j,row,T,A,B,())) (λy=>∃(i':Int),i<=i'/\i'<=j/\y=(((o:Int),(n:Int)),a,i',row,T,A,B,())):=by
 refine dL ?I ?m ?h _ ?hv ?hn
 case I=>exact(λv=>∃(i':Int) (j':Int),i<=i'/\i'<=j'/\j'<=j/\v=(((o:Int),(n:Int)),a,i',j',row,T,A,B,()))
 case m=>exact(λv=>(v.2.2.2.1-v.2.2.1).toNat)
 case hv=>exact⟨i,j,Int.le_refl _,hi.2,Int.le_refl _,rfl⟩
 case hn=>exact(by(try dsimp only);omega)
 rintro v ⟨i',j',h1,h2,h3,rfl⟩;unfold j0r;dsimp only;simp only[toNat_natCast];rw[v9l (by omega) (by omega) (by omega),qg (n:=(i'+j')/2+1) (by omega)];with_reducible repeat' (first|apply dP|apply dX<;>intro _)
 . refine dZ (k8o hA _ _) ?_
   rintro⟨c,t,a',b',u⟩ hc;simp only[Prod.mk.injEq]at hc;obtain⟨rfl,rfl,rfl,-⟩:=hc;dsimp only;with_reducible repeat' (first|apply dP|apply dX<;>intro _)
   . exact⟨⟨_,_,by omega,by omega,by omega,rfl⟩,by(try dsimp only);omega⟩
   . exact⟨⟨_,_,by omega,by omega,by omega,rfl⟩,by(try dsimp only);omega⟩
 . refine dO ?_;omega
 . refine dO ?_;omega
 . exact⟨_,by omega,by omega,rfl⟩
theorem f1b(G:ji)(hA:A.length<=1000000000000)(o n:Nat)(a i j:Int)(row:List Int)(ha:0<=a/\a<n)(hi:0<=i/\i<=j)(hj:j<=n)(hn:n<=100000000000000) :
 Df (vn G (((o:Int),(n:Int)),a,i,j,row,T,A,B,())) (λy=>∃(i':Int),i<=i'/\i'<=j/\y=(((o:Int),(n:Int)),a,i',row,T,A,B,())):=by
 refine dL ?I ?m ?h _ ?hv ?hn
 case I=>exact(λv=>∃(i':Int) (j':Int),i<=i'/\i'<=j'/\j'<=j/\v=(((o:Int),(n:Int)),a,i',j',row,T,A,B,()))
 case m=>exact(λv=>(v.2.2.2.1-v.2.2.1).toNat)
 case hv=>exact⟨i,j,Int.le_refl _,hi.2,Int.le_refl _,rfl⟩
 case hn=>exact(by(try dsimp only);omega)
 rintro v ⟨i',j',h1,h2,h3,rfl⟩;unfold j0t;dsimp only;simp only[toNat_natCast];rw[v9l (by omega) (by omega) (by omega),qg (n:=(i'+j')/2+1) (by omega)];with_reducible repeat' (first|apply dP|apply dX<;>intro _)
 . refine dZ (k8o hA _ _) ?_
   rintro⟨c,t,a',b',u⟩ hc;simp only[Prod.mk.injEq]at hc;obtain⟨rfl,rfl,rfl,-⟩:=hc;dsimp only;with_reducible repeat' (first|apply dP|apply dX<;>intro _)
   . exact⟨⟨_,_,by omega,by omega,by omega,rfl⟩,by(try dsimp only);omega⟩
   . exact⟨⟨_,_,by omega,by omega,by omega,rfl⟩,by(try dsimp only);omega⟩
 . refine dO ?_;omega
 . refine dO ?_;omega
 . exact⟨_,by omega,by omega,rfl⟩
theorem f1a(G:ji)(o n:Nat)(i k:Int)(row:List Int)(hk:0<=k)(hi:i<=n)(hn:n<=100000000000000)(hi0:0<=i) :
 Df (vm G (((o:Int),(n:Int)),i,k,row,T,A,B,())) (λy=>∃(r':List Int),r'.length=row.length/\y=(r',T,A,B,())):=by
 refine dL ?I ?m ?h _ ?hv ?hn
 case I=>exact(λv=>∃(k':Int) (r':List Int),0<=k'/\r'.length=row.length/\v=(((o:Int),(n:Int)),i,k',r',T,A,B,()))
 case m=>exact(λv=>(i-v.2.2.1).toNat)
 case hv=>exact⟨k,row,hk,rfl,rfl⟩
 case hn=>exact(by(try dsimp only);omega)
 rintro v ⟨k',r',h1,h2,rfl⟩;unfold j0s;dsimp only;simp only[toNat_natCast];rw[qg (n:=i-1) (by omega)];by_cases hlt:k'<i-1
 . rw[qg (n:=k'+1) (by omega)]
   with_reducible repeat' (first|apply dP|apply dX<;>intro _)
   . exact⟨⟨_,_,by omega,by simp only[length_set];exact h2,rfl⟩,by(try dsimp only);omega⟩
   all_goals first|(refine dO ?_;omega)|(exfalso;omega)
 . rw[decide_eq_false hlt]
   exact dP ⟨_,h2,rfl⟩
theorem f1c(G:ji)(o n:Nat)(i k:Int)(row:List Int)(hk:k<n)(hi:0<=i)(hn:n<=100000000000000) :
 Df (vo G (((o:Int),(n:Int)),i,k,row,T,A,B,())) (λy=>∃(r':List Int),r'.length=row.length/\y=(r',T,A,B,())):=by
 refine dL ?I ?m ?h _ ?hv ?hn
 case I=>exact(λv=>∃(k':Int) (r':List Int),k'<n/\r'.length=row.length/\v=(((o:Int),(n:Int)),i,k',r',T,A,B,()))
 case m=>exact(λv=>(v.2.2.1-i).toNat)
 case hv=>exact⟨k,row,hk,rfl,rfl⟩
 case hn=>exact(by(try dsimp only);omega)
 rintro v ⟨k',r',h1,h2,rfl⟩;unfold j0u;dsimp only;simp only[toNat_natCast];by_cases hlt:k'>i
 . rw[qg (n:=k'-1) (by omega)]
   with_reducible repeat' (first|apply dP|apply dX<;>intro _)
   . exact⟨⟨_,_,by omega,by simp only[length_set];exact h2,rfl⟩,by(try dsimp only);omega⟩
   all_goals first|(refine dO ?_;omega)|(exfalso;omega)
 . rw[decide_eq_false hlt]
   exact dP ⟨_,h2,rfl⟩
theorem f1d(G:ji)(hA:A.length<=1000000000000)(o n:Nat)(a m b mid s st r p:Int)(row:List Int)(h0:0<=st/\st<=r)(hr:r<=n)(hp:0<=p-r+1/\p-st<n)(hn:n<=100000000000000) :
 Df (kx G (((o:Int),(n:Int)),a,m,b,mid,s,st,r,p,row,T,A,B,())) (λy=>∃(st':Int),st<=st'/\st'<=r/\y=(((o:Int),(n:Int)),a,m,b,mid,s,st',row,T,A,B,())):=by
 refine dL ?I ?m ?h _ ?hv ?hn
 case I=>exact(λv=>∃(i':Int) (j':Int),st<=i'/\i'<=j'/\j'<=r/\v=(((o:Int),(n:Int)),a,m,b,mid,s,i',j',p,row,T,A,B,()))
 case m=>exact(λv=>(v.2.2.2.2.2.2.2.1-v.2.2.2.2.2.2.1).toNat)
 case hv=>exact⟨st,r,Int.le_refl _,h0.2,Int.le_refl _,rfl⟩
 case hn=>exact(by(try dsimp only);omega)
 rintro v ⟨i',j',h1,h2,h3,rfl⟩;unfold j0v;dsimp only;simp only[toNat_natCast];rw[v9l (by omega) (by omega) (by omega)];by_cases hlt:i'<j'
 . rw[qg (n:=(i'+j')/2+1) (by omega),qg (n:=p-(i'+j')/2) (by omega)]
   with_reducible repeat' (first|apply dP|apply dX<;>intro _)
   . refine dZ (k8o hA _ _) ?_
     rintro⟨c,t,a',b',u⟩ hc;simp only[Prod.mk.injEq]at hc;obtain⟨rfl,rfl,rfl,-⟩:=hc;dsimp only;with_reducible repeat' (first|apply dP|apply dX<;>intro _)
     . exact⟨⟨_,_,by omega,by omega,by omega,rfl⟩,by(try dsimp only);omega⟩
     . exact⟨⟨_,_,by omega,by omega,by omega,rfl⟩,by(try dsimp only);omega⟩
   all_goals first|(refine dO ?_;omega)|(exfalso;omega)
 . rw[decide_eq_false hlt]
   exact dP ⟨_,by omega,by omega,rfl⟩
def Mg(T:List R6)(A:List R4)(B:List R3)(G:ji)(o n:Nat)(k:Int):Prop:=∀(a m b:Int) (row:List Int),0<=a->a<m->m<b->b<=n->b-a<k ->
 Df (G (((o:Int),(n:Int)),a,m,b,row,T,A,B,())) (λy=>∃(r':List Int),r'.length=row.length/\y=(r',T,A,B,()))
theorem k8q(G:ji)(o n:Nat)(k:Int)(hG:Mg T A B G o n k)(b mid e:Int)(row:List Int)(h:0<=mid/\b<=n/\b-mid<k) :
 Df (xk G (((o:Int),(n:Int)),b,mid,e,row,T,A,B,())) (λy=>∃(r':List Int),r'.length=row.length/\y=(r',T,A,B,())):=by
 show Df (q5q zl G zx _) _;unfold q5q;dsimp only;simp only[toNat_natCast];with_reducible repeat' (first|apply dP|apply dX<;>intro _)
 . refine dZ (hG mid e b row (by omega) (by omega) (by omega) (by omega) (by omega)) ?_
   rintro y ⟨r',h,rfl⟩;exact dP ⟨_,h,rfl⟩
 . exact⟨_,rfl,rfl⟩
 . exact⟨_,rfl,rfl⟩
theorem k8r(G:ji)(o n:Nat)(k:Int)(hG:Mg T A B G o n k)(a b mid st e:Int)(row:List Int)(h0:0<=a/\mid<=n/\mid-a<k)(h:0<=mid/\b<=n/\b-mid<k) :
 Df (xl G (((o:Int),(n:Int)),a,b,mid,st,e,row,T,A,B,())) (λy=>∃(r':List Int),r'.length=row.length/\y=(r',T,A,B,())):=by
 show Df (q5r zl G zx (xk G) _) _;unfold q5r;dsimp only;simp only[toNat_natCast];have jh:∀r0:List Int,r0.length=row.length->Df ((xk G (((o:Int),(n:Int)),b,mid,e,r0,T,A,B,())).bind λval=>some (val.fst,val.snd.fst,val.snd.snd.fst,val.snd.snd.snd.fst,())) (λy=>∃(r':List Int),r'.length=row.length/\y=(r',T,A,B,())):=by
  intro r0 hr;refine dZ (k8q G o n k hG b mid e r0 h) ?_;rintro y ⟨r',h,rfl⟩;exact dP ⟨_,h.trans hr,rfl⟩
 with_reducible repeat' (first|apply dP|apply dX<;>intro _)
 . refine dZ (hG a st mid row (by omega) (by omega) (by omega) (by omega) (by omega)) ?_
   rintro y ⟨r',h,rfl⟩;exact jh r' h
 . exact jh row rfl
 . exact jh row rfl
theorem x4k(G:ji)(hA:A.length<=1000000000000)(o n:Nat)(k:Int)(hG:Mg T A B G o n k)(a m b mid s st r:Int)(row:List Int)(hn:n<=100000000000000)(hs:s=mid+m)(h0:0<=st/\st<=r)(hr:r<=n)(hp:0<=s-r/\s-st<=n)(ha:0<=a/\mid<=n/\mid-a<k)(h:0<=mid/\b<=n/\b-mid<k)(hm:m<=n) :
 Df (vj G (((o:Int),(n:Int)),a,m,b,mid,s,st,r,row,T,A,B,())) (λy=>∃(r':List Int),r'.length=row.length/\y=(r',T,A,B,())):=by
 show Df (q5s zl G zx (xl G) (kx G) _) _;unfold q5s;dsimp only;simp only[toNat_natCast];rw[qg (n:=s-1) (by omega)];refine dZ (f1d G hA o n a m b mid s st r (s-1) row h0 hr (by omega) hn) ?_;rintro y ⟨st',h1,h2,rfl⟩;dsimp only;simp only[toNat_natCast];rw[qg (n:=s-st') (by omega)];have jh:∀r0:List Int,r0.length=row.length->Df ((xl G (((o:Int),(n:Int)),a,b,mid,st',s-st',r0,T,A,B,())).bind λval=>some (val.fst,val.snd.fst,val.snd.snd.fst,val.snd.snd.snd.fst,())) (λy=>∃(r':List Int),r'.length=row.length/\y=(r',T,A,B,())):=by
  intro r0 hr0;refine dZ (k8r G o n k hG a b mid st' (s-st') r0 ha h) ?_;rintro y ⟨r',h,rfl⟩;exact dP ⟨_,h.trans hr0,rfl⟩
 with_reducible repeat' (first|apply dP|apply dX<;>intro _)
 . refine dZ (d8s o n st' m (s-st') row (by omega) (by omega) hn) ?_
   rintro y ⟨r',h,rfl⟩;exact jh r' h
 . exact jh row rfl
 . exact jh row rfl
def q7k(G:ji):ji:=y1c zl G zx (vj G) (vk G) (vm G) (vn G) (vo G)
theorem g3u(hA:A.length<=1000000000000)(o n:Nat)(hn:n<=100000000000000):∀k:Nat,Mg T A B (q1s q7k k) o n (k:Int)
 | 0=>λa m b row h0 h1 h2 h3 h4=>by omega
 | k+1=>λa m b row h0 h1 h2 h3 h4=>by
  have hG:=g3u hA o n hn k;show Df (q7k (q1s q7k k) _) _;generalize q1s q7k k=G at hG ⊢;show Df (y1c zl G zx (vj G) (vk G) (vm G) (vn G) (vo G) _) _;unfold y1c;dsimp only;simp only[toNat_natCast];rw[qg (n:=m-a) (by omega),qg (n:=b-m) (by omega),v9l (by omega) (by omega) (by omega),qg (n:=(a+b)/2+m) (by omega),qg (n:=(a+b)/2+m-b) (by omega)];have jh:∀{x:Option (List Int×List R6×List R4×List R3×Unit)},Df x (λy=>∃(r':List Int),r'.length=row.length/\y=(r',T,A,B,()))->Df (x.bind λval=>some (val.fst,val.snd.fst,val.snd.snd.fst,val.snd.snd.snd.fst,())) (λy=>∃(r':List Int),r'.length=row.length/\y=(r',T,A,B,())):=by
   intro x hx;refine dZ hx ?_;rintro y ⟨r',h,rfl⟩;exact dP ⟨_,h,rfl⟩
  with_reducible repeat' (first|apply dP|apply dX<;>intro _)
  . refine dZ (f0z G hA o n a m b row (by omega) (by omega) (by omega) hn) ?_
    rintro y ⟨i',h5,h6,rfl⟩;dsimp only;simp only[toNat_natCast];exact jh (f1a G o n i' a row (by omega) (by omega) hn (by omega))
  . refine dZ (f1b G hA o n m a m row (by omega) (by omega) (by omega) hn) ?_
    rintro y ⟨i',h5,h6,rfl⟩;dsimp only;simp only[toNat_natCast];exact jh (f1c G o n i' m row (by omega) (by omega) hn)
  . exact jh (x4k G hA o n k hG a m b ((a+b)/2) ((a+b)/2+m) ((a+b)/2+m-b) ((a+b)/2) row hn rfl (by omega) (by omega) (by omega) (by omega) (by omega) (by omega))
  . exact jh (x4k G hA o n k hG a m b ((a+b)/2) ((a+b)/2+m) a m row hn rfl (by omega) (by omega) (by omega) (by omega) (by omega) (by omega))
theorem b4d(hA:A.length<=1000000000000)(o n:Nat)(hn:n<=100000000000000)(a m b:Int)(row:List Int)(h0:0<=a)(h1:a<m)(h2:m<b)(h3:b<=n) :
 Df (j6m (((o:Int),(n:Int)),a,m,b,row,T,A,B,())) (λy=>∃(r':List Int),r'.length=row.length/\y=(r',T,A,B,())):=by
 show Df (q1s q7k qz _) _;exact g3u hA o n hn qz a m b row h0 h1 h2 h3 (by unfold qz;omega)
theorem f0u(hA:A.length<=1000000000000)(o n:Nat)(hn:n<=100000000000000)(row:List Int) :
 Df (j0j (((o:Int),(n:Int)),(n:Int),20,0,20,row,T,A,B,())) (λy=>∃(a:Int) (r':List Int),0<=a/\a<=n/\r'.length=row.length/\y=(((o:Int),(n:Int)),(n:Int),20,a,r',T,A,B,())):=by
 refine dL ?I ?m ?h _ ?hv ?hn
 case I=>exact(λv=>∃(a:Int) (r':List Int),0<=a/\a<=n/\r'.length=row.length/\v=(((o:Int),(n:Int)),(n:Int),20,a,a+20,r',T,A,B,()))
 case m=>exact(λv=>(n-v.2.2.2.1).toNat)
 case hv=>exact⟨0,row,Int.le_refl _,by omega,rfl,rfl⟩
 case hn=>exact(by(try dsimp only);omega)
 rintro v ⟨a,r',h1,h2,h3,rfl⟩;unfold j8f;dsimp only;simp only[toNat_natCast];rw[qg (n:=a+20+20) (by omega)];with_reducible repeat' (first|apply dP|apply dX<;>intro _)
 . refine dZ (b4c hA o n a (a+20) r' (by omega) (by omega) hn) ?_
   rintro y ⟨r2,h4,rfl⟩;exact dP ⟨⟨a+20,r2,by omega,by omega,h4.trans h3,rfl⟩,by(try dsimp only);omega⟩
 . exact⟨_,_,h1,h2,h3,rfl⟩
theorem f0v(hA:A.length<=1000000000000)(o n:Nat)(hn:n<=100000000000000)(bs:Int)(hbs:1<=bs/\bs<=n)(row:List Int) :
 Df (j0k (((o:Int),(n:Int)),(n:Int),bs,0,2*bs,row,T,A,B,())) (λy=>∃(a:Int) (r':List Int),0<=a/\a<=n/\r'.length=row.length/\y=(((o:Int),(n:Int)),(n:Int),bs,a,r',T,A,B,())):=by
 refine dL ?I ?m ?h _ ?hv ?hn
 case I=>exact(λv=>∃(a:Int) (r':List Int),0<=a/\a<=n/\r'.length=row.length/\v=(((o:Int),(n:Int)),(n:Int),bs,a,a+2*bs,r',T,A,B,()))
 case m=>exact(λv=>(n-v.2.2.2.1).toNat)
 case hv=>exact⟨0,row,Int.le_refl _,by omega,rfl,by rw[Int.zero_add]⟩
 case hn=>exact(by(try dsimp only);omega)
 rintro v ⟨a,r',h1,h2,h3,rfl⟩;unfold j8g;dsimp only;simp only[toNat_natCast];rw[qg (n:=2*bs) (by omega),qg (n:=a+bs) (by omega),qg (n:=a+2*bs+2*bs) (by omega)];with_reducible repeat' (first|apply dP|apply dX<;>intro _)
 . refine dZ (b4d hA o n hn a (a+bs) (a+2*bs) r' (by omega) (by omega) (by omega) (by omega)) ?_
   rintro y ⟨r2,h4,rfl⟩;exact dP ⟨⟨a+2*bs,r2,by omega,by omega,h4.trans h3,rfl⟩,by(try dsimp only);omega⟩
 . exact⟨_,_,h1,h2,h3,rfl⟩
theorem d8l(hA:A.length<=1000000000000)(o n:Nat)(hn:n<=100000000000000)(row:List Int) :
 Df (y5l (((o:Int),(n:Int)),(n:Int),row,T,A,B,())) (λy=>∃(r':List Int),r'.length=row.length/\y=(r',T,A,B,())):=by
 unfold y5l k5a;dsimp only;simp only[toNat_natCast];refine dZ (f0u hA o n hn row) ?_;rintro y ⟨a,r1,h1,h2,h3,rfl⟩;dsimp only;simp only[toNat_natCast];refine dZ (b4c hA o n a n r1 (by omega) (by omega) hn) ?_;rintro y ⟨r2,h4,rfl⟩;dsimp only;refine dZ (P:=λy=>∃(r':List Int),r'.length=row.length/\y=(r',T,A,B,())) ?_ ?_
 . refine dL ?I ?m ?h _ ?hv ?hn
   case I=>exact(λv=>∃(bs:Int) (r':List Int),1<=bs/\bs<=400000000000000/\r'.length=row.length/\v=(((o:Int),(n:Int)),(n:Int),bs,r',T,A,B,()))
   case m=>exact(λv=>(n-v.2.2.1).toNat)
   case hv=>exact⟨20,r2,by omega,by omega,h4.trans h3,rfl⟩
   case hn=>exact(by(try dsimp only);omega)
   rintro v ⟨bs,r',h5,h6,h7,rfl⟩;unfold j8h;dsimp only;simp only[toNat_natCast];rw[qg (n:=2*bs) (by omega)];with_reducible repeat' (first|apply dP|apply dX<;>intro _)
   . refine dZ (f0v hA o n hn bs (by omega) r') ?_
     rintro y ⟨a,r3,h8,h9,h10,rfl⟩;dsimp only;simp only[toNat_natCast];rw[qg (n:=a+bs) (by omega),qg (n:=bs*2) (by omega)];with_reducible repeat' (first|apply dP|apply dX<;>intro _)
     . refine dZ (b4d hA o n hn a (a+bs) n r3 (by omega) (by omega) (by omega) (by omega)) ?_
       rintro y ⟨r4,h11,rfl⟩;exact dP ⟨⟨_,_,by omega,by omega,(h11.trans h10).trans h7,rfl⟩,by(try dsimp only);omega⟩
     . exact⟨⟨_,_,by omega,by omega,h10.trans h7,rfl⟩,by(try dsimp only);omega⟩
   . exact⟨_,h7,rfl⟩
 . rintro y ⟨r',h,rfl⟩
   exact dP ⟨_,h,rfl⟩
theorem d7x(hA:A.length<=1000000000000)(o n:Nat)(hn:n<=100000000000000)(row:List Int) :
 Df (j6l (((o:Int),(n:Int)),row,T,A,B,())) (λy=>∃(r':List Int),r'.length=row.length/\y=(r',T,A,B,())):=by
 unfold j6l k4k;dsimp only;simp only[toNat_natCast];refine dZ (d8l hA o n hn row) ?_;rintro y ⟨r',h,rfl⟩;exact dP ⟨_,h,rfl⟩
theorem f0i(hA:A.length<=1000000000000)(f k:Int)(row:List Int)(hf:0<=f/\f<=k)(hk:k<=row.length)(hn:row.length<=35184372088832) :
 Df (ku (f,k,T,A,B,row,())) (λy=>∃(r':List Int),r'.length=row.length/\y=(k+1,k,T,A,B,r',())):=by
 unfold ku j7v;dsimp only;rw[qg (n:=k+1) (by omega)];with_reducible repeat' (first|apply dP|apply dX<;>intro _)
 . refine dZ (d7x hA f.toNat (k.toNat-f.toNat) (by omega) row) ?_
   rintro y ⟨r',h,rfl⟩;exact dP ⟨_,h,rfl⟩
 . refine dO ?_;omega
 . refine dO ?_;omega
theorem b3r(hA:A.length<=1000000000000)(l:List Int)(hl:l.length<=35184372088832):Df (y5h (T,A,B,l,())) (λy=>y.1.length=l.length):=by
 unfold y5h k3u;dsimp only;refine dZ (P:=λy=>y.1=l) ?_ ?_
 . unfold z2o
   dsimp only;with_reducible repeat' (first|apply dP|apply dX<;>intro _)
   . rfl
   . refine dO ?_;omega
 rintro⟨l',u⟩ hl';dsimp only at hl' ⊢;subst hl';refine dZ (P:=λy=>y.1.length=l'.length) ?_ (λ_ h=>dP h);refine dL ?I ?m ?h _ ?hv ?hn
 case I=>exact(λv=>∃(f:Int) (k:Int) (r':List Int),0<=f/\f<=k/\k<=l'.length+1/\r'.length=l'.length/\v=(f,k,T,A,B,r',()))
 case m=>exact(λv=>(l'.length+1-v.2.1).toNat)
 case hv=>exact⟨0,0,l',Int.le_refl _,Int.le_refl _,by omega,rfl,rfl⟩
 case hn=>exact(by(try dsimp only);omega)
 rintro v ⟨f,k,r',h1,h2,h3,h4,rfl⟩;unfold j7w;dsimp only;rw[qg (n:=k+1) (by omega)];have jh:k<=r'.length->Df ((ku (f,k,T,A,B,r',())).bind λval=>some (Sum.inl (val.fst,IntKind.i64.wrap (val.snd.fst+1),val.snd.snd.fst,val.snd.snd.snd.fst,val.snd.snd.snd.snd.fst,val.snd.snd.snd.snd.snd.fst,())))
  (Sum.elim (λv':Int×Int×List R6×List R4×List R3×List Int×Unit=>(∃(f:Int) (k:Int) (r':List Int),0<=f/\f<=k/\k<=l'.length+1/\r'.length=l'.length/\v'=(f,k,T,A,B,r',()))/\(l'.length+1-v'.2.1).toNat<(l'.length+1-k).toNat) (λy:List Int×Unit=>y.1.length=l'.length)):=by
  intro hk;refine dZ (f0i hA f k r' (by omega) hk (by omega)) ?_;rintro y ⟨r2,h5,rfl⟩;dsimp only;rw[qg (n:=k+1) (by omega)];exact dP ⟨⟨_,_,_,by omega,by omega,by omega,h5.trans h4,rfl⟩,by(try dsimp only);omega⟩
 with_reducible repeat' (first|apply dP|apply dX<;>intro _)
 . refine dZ (v6p T A B _ hA) ?_
   rintro⟨c,u⟩ -
   dsimp only;with_reducible repeat' (first|apply dP|apply dX<;>intro _)
   . exact⟨⟨_,_,_,by omega,by omega,by omega,h4,rfl⟩,by(try dsimp only);omega⟩
   . exact jh (by omega)
 . refine dO ?_;omega
 . exact jh (by omega)
 . exact h4
end
section
variable {T:List R6} {A:List R4} {B:List R3}
theorem z1m(f:Int->Option Int)(h:∀x,∃y,f x=some y):∀l:List (Int×Int),∃y,z8y f l=some y
 | []=>⟨0,rfl⟩
 | x::l=>by
  obtain⟨b,hb⟩:=h x.2;simp only[z8y,hb,Option.bind_some];cases (b != 6)with
  | true=>exact⟨b,rfl⟩
  | false=>exact z1m f h l
theorem d6r(h:TK T A B)(l:List Int)(hl:l.length<=1000000000000):Df (j6h (T,A,B,l,())) (λ_=>True):=by
 unfold j6h;dsimp only;rw[decide_eq_true hl];obtain⟨y,hy⟩:=z1m (λx=>(q8b (T,A,B,x,())).map λr=>r.1) (λx=>by
  obtain⟨y,e,-⟩:=f0c T A B x h.t;exact⟨y.1,by simp only[e,map_some]⟩) (bk l)
 exact⟨(y,()),by simp only[cond_true,hy,map_some],trivial⟩
theorem d6k(h:TK T A B)(l:List Int)(hl:l.length<=1000000000000):Df (v1r (T,A,B,l,())) (λ_=>True):=by
 unfold v1r g6x;dsimp only;refine dZ (b3l h l hl) ?_;rintro⟨z0,z1,z2,z3,z4,z5,z6,z7,u⟩ -
 refine dZ (d6r h l hl) ?_;rintro⟨e,u⟩ -
 refine dZ (d6s h l) ?_;rintro⟨s,u⟩ -
 dsimp only;with_reducible repeat' (first|apply dP|apply dX<;>intro _)
 . exact dZ (v6l _ _ _ rfl) λ_ _=>dP trivial
 . exact dZ (v6l _ _ _ rfl) λ_ _=>dP trivial
 . refine dZ (b3h h l hl) ?_
   rintro⟨b,u⟩ -
   dsimp only;with_reducible repeat' (first|apply dP|apply dX<;>intro _)
   all_goals trivial
 . trivial
theorem d7r(h:TK T A B)(l:List Int)(hl:l.length<=1000000000000):Df (v1y (T,A,B,l,())) (λy=>y.2=(T,A,B,l,())):=by
 unfold v1y g7c;dsimp only;refine dZ (b3h h l hl) ?_;rintro⟨b,u⟩ -
 dsimp only;with_reducible repeat' (first|apply dP|apply dX<;>intro _)
 . exact dZ (d6k h l hl) λ_ _=>dP rfl
 . rfl
theorem d6z(h:TK T A B)(s:List UInt8)(a b:Bool)(hs:s.length<=100000000000):Df (y5e (T,A,B,s,a,b,())) (λy=>y.1.length<=384*s.length):=by
 unfold y5e k3k;dsimp only;refine dZ (d83 s (by omega)) ?_;rintro⟨l,at_,u⟩ hl;dsimp only at hl ⊢;with_reducible repeat' (first|apply dP|apply dX<;>intro _)
 . exact(by simp:([]:List UInt8).length<=384*s.length)
 . refine dZ (b3s T A B l a (by omega)) ?_
   rintro⟨l2,u⟩ h2;dsimp only at h2 ⊢;refine dZ (b3r h.a l2 (by omega)) ?_;rintro⟨l3,u⟩ h3;dsimp only at h3 ⊢;with_reducible repeat' (first|apply dP|apply dX<;>intro _)
   . refine dZ (b3t T A B l3 (by omega) h.a) ?_
     rintro⟨l4,u⟩ h4;dsimp only at h4 ⊢;refine dZ (v0k l4 (by omega)) ?_;rintro⟨s5,b5,u⟩ h5;exact dP (by dsimp only at h5 ⊢;omega)
   . refine dZ (v0k l3 (by omega)) ?_
     rintro⟨s5,b5,u⟩ h5;exact dP (by dsimp only at h5 ⊢;omega)
theorem f0a(h:TK T A B)(s:List UInt8)(hs:s.length<=100000000000):Df (z5q (T,A,B,s,())) (λy=>y.1.length<=384*s.length):=by
 unfold z5q k3f;dsimp only;refine dZ (d6z h s false true hs) ?_;rintro⟨x,b,u⟩ hx;exact dP hx
theorem k8l(h:TK T A B)(s:List UInt8)(hs:s.length<=10000000000):Df (j9m (T,A,B,s,())) (λy=>y.1.length<=1536*s.length):=by
 unfold j9m v4a;dsimp only;refine dZ (d83 s (by omega)) ?_;rintro⟨l,at_,u⟩ hl;dsimp only at hl ⊢;with_reducible repeat' (first|apply dP|apply dX<;>intro _)
 . exact(by simp:([]:List UInt8).length<=1536*s.length)
 . refine dZ (b3k T A B l (by omega)) ?_
   rintro⟨l2,u⟩ h2;dsimp only at h2 ⊢;refine dZ (b3j T A B h.b l2 (by omega)) ?_;rintro⟨l3,u⟩ h3;dsimp only at h3 ⊢;refine dZ (v0k l3 (by omega)) ?_;rintro⟨s4,b4,u⟩ h4;dsimp only at h4 ⊢;refine dZ (f0a h s4 (by omega)) ?_;rintro⟨s5,b5,u⟩ h5;exact dP (by dsimp only at h5 ⊢;omega)
theorem g9w(a b:List UInt8):Df (q3l (a,b,())) (λy=>y.1=true->b.length<=a.length):=by
 unfold q3l j4j;dsimp only;with_reducible repeat' (first|apply dP|apply dX<;>intro _)
 . intro _;dsimp only at *;omega
 . refine dO ?_;omega
 . intro h;cases h
theorem d6p(a b:List UInt8):Df (y0o (a,b,())) (λy=>y.1.length<=a.length):=by
 unfold y0o x7m;dsimp only;refine dZ (g9w a b) ?_;rintro⟨x,u⟩ hx;dsimp only at hx ⊢;with_reducible repeat' (first|apply dP|apply dX<;>intro _)
 . exact le_refl _
 . exact(by simp:(List.drop _ a).length<=a.length)
 . rename_i h1 h2
   have:=hx h1;refine dO ?_;omega
theorem b3g(a b:List UInt8):Df (q3m (a,b,())) (λy=>y.1.length<=a.length):=by
 unfold q3m x7g;dsimp only;refine dZ (d6p a b) ?_;rintro⟨x,b,u⟩ hx;exact dP hx
theorem d96(a b:List UInt8):Df (C96 (a,b,())) (λ_=>True):=by
 unfold C96 F96;dsimp only;exact dZ (g9w a b) λ_ _=>dP trivial
theorem d8q(a b:List UInt8)(ha:a.length<=1000000000000000)(hb:b.length<=1000000000000000):Df (v2i (a,b,())) (λ_=>True):=by
 unfold v2i g7j;dsimp only;rw[qg (n:=(a.length:Int)-(b.length:Int)) (by omega)];with_reducible repeat' (first|apply dP|apply dX<;>intro _)
 . trivial
 . refine dO ?_;omega
 . trivial
theorem d8h(a b:List UInt8)(ha:a.length<=1000000000000000)(hb:b.length<=1000000000000000):Df (v2e (a,b,())) (λ_=>True):=by
 unfold v2e g7h;dsimp only;exact dZ (d8q a b ha hb) λ_ _=>dP trivial
theorem b3x(a:List UInt8)(ha:a.length<=1000000000000000):Df (y5j (a,())) (λ_=>True):=by
 unfold y5j g7b;dsimp only;refine dZ (d96 _ _) ?_;rintro⟨x,u⟩ -
 dsimp only;with_reducible repeat' (first|apply dP|apply dX<;>intro _)
 . trivial
 . refine dZ (d8h _ _ ha (by simp)) ?_
   rintro⟨x,u⟩ -
   dsimp only;with_reducible repeat' (first|apply dP|apply dX<;>intro _)
   . trivial
   . trivial
   . refine dO ?_;omega
   . trivial
theorem d7n(a:List UInt8)(ha:a.length<=1000000000000000):Df (y5i (a,())) (λy=>y.2.1=a):=by
 unfold y5i k4e;dsimp only;exact dZ (b3x a ha) λ_ _=>dP rfl
theorem d7m(h:TK T A B)(s:List UInt8)(hs:s.length<=100000000000):Df (v1x (T,A,B,s,())) (λ_=>True):=by
 unfold v1x g7a;dsimp only;refine dZ (f0a h s hs) ?_;rintro⟨x,b,u⟩ -
 dsimp only;with_reducible repeat' (first|apply dP|apply dX<;>intro _)
 all_goals trivial
theorem d7l(h:TK T A B)(s:List UInt8)(hs:s.length<=100000000000):Df (y0t (s,T,A,B,())) (λy=>y.2=(s,T,A,B,())/\(y.1=false->0<s.length)):=by
 unfold y0t v4h;dsimp only;refine dZ (d21 s (by omega)) ?_;rintro⟨x,u⟩ hx;dsimp only at hx ⊢;with_reducible repeat' (first|apply dP|apply dX<;>intro _)
 . exact⟨rfl,λh=>by cases h⟩
 . refine dZ (d7m h s hs) ?_
   rintro⟨x,u⟩ -
   exact dP ⟨rfl,λ_=>by omega⟩
theorem d7o(h:TK T A B)(l:List Int)(hl:0<l.length):Df (y5k (T,A,B,l,())) (λy=>y.2=(T,A,B,l,())):=by
 unfold y5k k4f;dsimp only;with_reducible repeat' (first|apply dP|apply dX<;>intro _)
 . exact dZ (b3n T A B _ h.t) λ_ _=>dP rfl
 . refine dO ?_;omega
theorem d7k(a:Int):Df (v1w (a,())) (λy=>y.2.1=a/\(y.1=false->a<0)):=by
 unfold v1w g6z;dsimp only;refine dP ⟨rfl,λh => ?_⟩;dsimp only at h;simp only[decide_eq_false_iff_not]at h;omega
theorem d7s(l:List Int)(a:List UInt8)(b:Bool)(hl:l.length<=1000000000000):Df (v1z (l,a,b,())) (λy=>y.2.1=l):=by
 unfold v1z g7d;dsimp only;exact dZ (f0d l hl) λ_ _=>dP rfl
theorem d7t(a:List UInt8):Df (v2a (a,())) (λ_=>True):=by
 unfold v2a g7e;dsimp only;exact dP trivial
theorem d7j(h:TK T A B)(a0 a1 a2 a3 a4 a5 a6 a7:Int)(at_:Int)(s:List UInt8)(l:List Int)(c:List UInt8)(d:Bool)(hs:s.length<=100000000000)(hl:l.length<=100000000000)(h0:at_<0->0<s.length->0<l.length) :
 Df (y0s (a0,a1,a2,a3,a4,a5,a6,a7,at_,s,T,A,B,l,c,d,())) (λ_=>True):=by
 unfold y0s v4g;dsimp only;refine dZ (d7k at_) ?_;rintro⟨b,at',u⟩ hb;dsimp only at hb ⊢;obtain⟨rfl,hb⟩:=hb;with_reducible repeat' (first|apply dP|apply dX<;>intro _)
 . trivial
 . rename_i h1
   refine dZ (d7l h s hs) ?_;rintro⟨b2,y⟩ ⟨hy,h2⟩;dsimp only at hy h2;subst hy;dsimp only;with_reducible repeat' (first|apply dP|apply dX<;>intro _)
   . trivial
   . rename_i h3
     refine dZ (d7n s (by omega)) ?_;rintro⟨b3,s',u⟩ hs';dsimp only at hs' ⊢;with_reducible repeat' (first|apply dP|apply dX<;>intro _)
     . trivial
     . refine dZ (d7o h l (h0 (hb h1) (h2 h3))) ?_
       rintro⟨b4,y⟩ hy;dsimp only at hy;subst hy;dsimp only;with_reducible repeat' (first|apply dP|apply dX<;>intro _)
       . trivial
       . refine dZ (d7p h l (by omega)) ?_
         rintro⟨b5,y⟩ hy;dsimp only at hy;subst hy;dsimp only;with_reducible repeat' (first|apply dP|apply dX<;>intro _)
         . trivial
         . refine dZ (d7r h l (by omega)) ?_
           rintro⟨b6,y⟩ hy;dsimp only at hy;subst hy;dsimp only;with_reducible repeat' (first|apply dP|apply dX<;>intro _)
           . trivial
           . refine dZ (d7s l c d (by omega)) ?_
             rintro⟨b7,l',c',d',u⟩ -
             dsimp only;with_reducible repeat' (first|apply dP|apply dX<;>intro _)
             . trivial
             . refine dZ (d7t _) ?_
               rintro⟨b8,c8,u⟩ -
               dsimp only;with_reducible repeat' (first|apply dP|apply dX<;>intro _)
               all_goals trivial
theorem b3p(h:TK T A B)(s:List UInt8)(hs:s.length<=100000000000):Df (z5x (T,A,B,s,())) (λ_=>True):=by
 unfold z5x v4f;dsimp only;refine dZ (d83 s (by omega)) ?_;rintro⟨l,at_,u⟩ hl;dsimp only at hl ⊢;refine dZ (d7j h _ _ _ _ _ _ _ _ at_ s l _ _ hs (by omega) hl.2.2) ?_;rintro⟨e,y⟩ -
 exact dP trivial
theorem f0m(a:Int)(b:Bool):Df (j0c (a,b,())) (λ_=>True):=by
 unfold j0c z7f;dsimp only;with_reducible repeat' (first|apply dP|apply dX<;>intro _)
 all_goals trivial
theorem f0n(a:Int)(b:Bool):Df (j0d (a,b,())) (λ_=>True):=by
 unfold j0d z7g;dsimp only;with_reducible repeat' (first|apply dP|apply dX<;>intro _)
 all_goals first|trivial|exact dZ (f0m _ _) λ_ _=>dP trivial
theorem d7u(a:Int):Df (j9s (a,())) (λ_=>True):=by
 unfold j9s g7f;dsimp only;with_reducible repeat' (first|apply dP|apply dX<;>intro _)
 all_goals (refine dZ (f0n _ _) ?_;rintro⟨x,u⟩ -;dsimp only;(repeat' (first|with_reducible apply dP|(with_reducible apply dB<;>intro _)));all_goals trivial)
theorem d6l(s:List UInt8)(b:Bool)(hs:s.length<=1000000000000000):Df (y5b (s,b,())) (λ_=>True):=by
 unfold y5b k3c;dsimp only;refine dZ (P:=λ_=>True) ?_ (λz _=>by cases z<;>exact dP trivial);refine dL ?I ?m ?h _ ?hv ?hn
 case I=>exact(λv=>v.2.1.1=s/\0<=v.2.1.2)
 case m=>exact(λv=>s.length-v.2.1.2.toNat)
 case hv=>exact⟨rfl,Int.le_refl _⟩
 case hn=>exact(by(try dsimp only);omega)
 . rintro⟨x0,⟨x1,p⟩,u⟩ hI
   dsimp only at hI;obtain⟨rfl,h0⟩:=hI;unfold j7p;dsimp only;with_reducible repeat' (first|apply dP|apply dX<;>intro _)
   . refine dZ (d7u _) ?_
     rintro⟨x,u⟩ -
     dsimp only;have:=j3c x1 p.toNat
     with_reducible repeat' (first|apply dP|apply dX<;>intro _)
     . trivial
     . exact⟨⟨rfl,by(try dsimp only);omega⟩,by(try dsimp only);omega⟩
   . trivial
end
section
variable {T:List R6} {A:List R4} {B:List R3}
theorem d84(s:List UInt8)(hs:s.length<=1000000000000000):Df (C84 (s,())) (λ_=>True):=by
 unfold C84 F84;dsimp only;refine dZ (P:=λ_=>True) ?_ (λ_ _=>dP trivial);unfold v1p k2w;dsimp only;exact dZ (d6l s true hs) λ_ _=>dP trivial
theorem d7c(s:List UInt8)(hs:s.length<=1000000000000000):Df (y0p (s,())) (λ_=>True):=by
 unfold y0p k3q;dsimp only;refine dZ (P:=λ_=>True) ?_ (λ_ _=>dP trivial);unfold j9r z7e;dsimp only;refine dZ (P:=λy=>y.2.1=s) (dP rfl) ?_;rintro⟨b,s1,u⟩ h1;dsimp only at h1 ⊢;subst h1;with_reducible repeat' (first|apply dP|apply dX<;>intro _)
 . trivial
 . refine dZ (P:=λy=>y.2.1=s1) (dP rfl) ?_
   rintro⟨b,s2,u⟩ h2;dsimp only at h2 ⊢;subst h2;with_reducible repeat' (first|apply dP|apply dX<;>intro _)
   . trivial
   . refine dZ (P:=λy=>y.2.1=s2) ?_ ?_
     . unfold v2b k4g
       dsimp only;exact dZ (d84 s2 hs) λ_ _=>dP rfl
     rintro⟨b,s3,u⟩ h3;dsimp only at h3 ⊢;subst h3;with_reducible repeat' (first|apply dP|apply dX<;>intro _)
     . trivial
     . refine dZ (P:=λ_=>True) ?_ ?_
       . unfold k2k g7g
         dsimp only;exact dZ (b3x s3 hs) λ_ _=>dP trivial
       rintro⟨b,s4,u⟩ -
       dsimp only;with_reducible repeat' (first|apply dP|apply dX<;>intro _)
       all_goals trivial
theorem w5z(n:Int):IntKind.u8.wrap n=n%256:=by simp[IntKind.wrap,IntKind.bits,IntKind.signed]
theorem v6r(x:Int)(b:Bool)(hb:b=true->65<=x/\x<=90):Df (j0h (x,b,())) (Sum.elim (λy=>0<=y.1/\y.1<=35) (λ_=>True)):=by
 unfold j0h z7m;dsimp only;with_reducible repeat' (first|apply dP|apply dX<;>intro _)
 . rename_i h1
   have:=hb h1;rw[w5z,k2d];exact⟨by(try dsimp only);omega,by(try dsimp only);omega⟩
 . rw[w5z,k2d]
   exact⟨by(try dsimp only);omega,by(try dsimp only);omega⟩
 all_goals trivial
theorem v6s(x:Int)(b:Bool)(hb:b=true->48<=x/\x<=57):Df (j0i (x,b,())) (Sum.elim (λy=>0<=y.1/\y.1<=35) (λ_=>True)):=by
 unfold j0i z7n;dsimp only;with_reducible repeat' (first|apply dP|apply dX<;>intro _)
 . rename_i h1
   have:=hb h1;rw[w5z,k2d,k2d];exact⟨by(try dsimp only);omega,by(try dsimp only);omega⟩
 . refine dZ (v6r x _ (λh=>by simp only[decide_eq_true_eq]at h;omega)) ?_
   intro z hz;exact dS hz (λa ha=>dP ha) (λ_ _=>dP trivial)
 . refine dZ (v6r x _ (λh=>by cases h)) ?_
   intro z hz;exact dS hz (λa ha=>dP ha) (λ_ _=>dP trivial)
theorem d8i(x:Int):Df (j4i (x,())) (λy=>y.2.1=true->0<=y.1/\y.1<=35):=by
 unfold j4i g7i;dsimp only;with_reducible repeat' (first|apply dP|apply dX<;>intro _)
 . refine dZ (v6s x _ (λh=>by simp only[decide_eq_true_eq]at h;omega)) ?_
   intro z hz;exact dS hz (λa ha=>dP λ_=>ha) (λ_ _=>dP λh=>by cases h)
 . refine dZ (v6s x _ (λh=>by cases h)) ?_
   intro z hz;exact dS hz (λa ha=>dP λ_=>ha) (λ_ _=>dP λh=>by cases h)
theorem f0o(s:List UInt8)(b:Int)(hs:s.length<=1000000000000):Df (j7e (s,b,0,1,(s.length:Int),0,())) (Sum.elim (λ_=>True) (Sum.elim (λ_=>True) (λy=>0<=y.1/\y.1<=2147483647/\y.2.1.length<s.length))):=by
 refine dL ?I ?m ?h _ ?hv ?hn
 case I=>exact(λv=>v.1=s/\0<=v.2.2.1/\v.2.2.1<=2147483647/\0<=v.2.2.2.1/\v.2.2.2.1<=75161927645/\v.2.2.2.2.1=s.length/\0<=v.2.2.2.2.2.1/\v.2.2.2.2.2.1<=s.length)
 case m=>exact(λv=>(s.length-v.2.2.2.2.2.1).toNat)
 case hv=>exact⟨rfl,by(try dsimp only);omega,by(try dsimp only);omega,by(try dsimp only);omega,by(try dsimp only);omega,rfl,by(try dsimp only);omega,by(try dsimp only);omega⟩
 case hn=>exact(by(try dsimp only);omega)
 rintro⟨x0,x1,x2,x3,x4,x5,u⟩ hI;dsimp only at hI;obtain⟨rfl,h0,h1,h2,h3,rfl,h4,h5⟩:=hI;unfold j8c;dsimp only;with_reducible repeat' (first|apply dP|apply dX<;>intro _)
 . refine dZ (d8i _) ?_
   rintro⟨d,ok,u⟩ hd;dsimp only at hd ⊢;refine dH (λ_=>dP trivial) (λhok => ?_);refine dD (λ_=>dP trivial) (λhw => ?_)
   . have hd':=hd hok
     have p0:0<=d*x3:=Int.mul_nonneg hd'.1 h2;have p1:d*x3<=35*x3:=Int.mul_le_mul_of_nonneg_right hd'.2 h2;generalize d*x3=P at p0 p1 ⊢;rw[qg (n:=P) (by omega),qg (n:=x2+P) (by omega),qg (n:=x5+1) (by omega)];with_reducible repeat' (first|apply dP|apply dX<;>intro _)
     . trivial
     . refine dZ (f0s _ _) ?_
       rintro⟨t,u⟩ ht;dsimp only at ht ⊢;have q0:0<=x3*(36-t):=Int.mul_nonneg h2 (by omega);have q1:x3*(36-t)<=x3*35:=Int.mul_le_mul_of_nonneg_left (by omega) h2;rw[qg (n:=36-t) (by omega)];generalize x3*(36-t)=R at q0 q1 ⊢;rw[qg (n:=R) (by omega)];with_reducible repeat' (first|apply dP|apply dX<;>intro _)
       . refine⟨by(try dsimp only);omega,by(try dsimp only);omega,?_⟩
         simp only[length_drop];omega
       . refine dO ?_;omega
       . exact⟨⟨rfl,by(try dsimp only);omega,by(try dsimp only);omega,by(try dsimp only);omega,by(try dsimp only);omega,rfl,by(try dsimp only);omega,by(try dsimp only);omega⟩,by(try dsimp only);omega⟩
 . refine dO ?_;omega
 . trivial
theorem b3y(s:List UInt8)(b:Int)(hs:s.length<=1000000000000):Df (j6k (s,b,())) (λy=>y.1<0\/(0<=y.1/\y.1<=2147483647/\y.2.1.length<s.length)):=by
 unfold j6k k4i;dsimp only;refine dZ (f0o s b hs) ?_;intro z hz;refine dS hz ?_ ?_
 . intro u _
   exact dP (.inl (by(try dsimp only);omega))
 . intro z2 hz2
   refine dS hz2 ?_ ?_
   . intro u _
     refine dZ (P:=λy=>y.1<0) ?_ ?_
     . refine dL ?I ?m ?h _ ?hv ?hn
       case I=>exact(λ_=>True)
       case m=>exact(λ_=>0)
       case hv=>exact trivial
       case hn=>exact(by(try dsimp only);omega)
       intro v _;unfold j0q;exact dP (by decide:(-1:Int)<0)
     . rintro⟨a,b,u⟩ h
       exact dP (.inl h)
   . rintro⟨a,b,u⟩ h
     exact dP (.inr h)
theorem d7w(i:Int)(l:List Int)(x:Int)(hi:0<=i/\i<=l.length)(hl:l.length<=1000000000000):Df (j4h (i,l,[x],())) (λy=>y.1.length=l.length+1):=by
 unfold j4h;dsimp only;rw[decide_eq_true hi.1,decide_eq_true hi.2,decide_eq_true hl];refine dP ?_;simp only[length_append,length_take,length_drop,length_cons,length_nil];omega
theorem f0h(L:Nat)(hL:L<=1000000000000)(s:List UInt8)(out:List Int)(h:s.length+out.length<=L):Df (j7a (s,128,0,72,true,out,())) (Sum.elim (λy=>y.1.length<=L) (λ_=>True)):=by
 refine dL ?I ?m ?h _ ?hv ?hn
 case I=>exact(λv=>v.1.length+v.2.2.2.2.2.1.length<=L/\128<=v.2.1/\v.2.1<=1114111/\0<=v.2.2.1/\v.2.2.1<=v.2.2.2.2.2.1.length)
 case m=>exact(λv=>v.1.length)
 case hv=>exact⟨h,by(try dsimp only);omega,by(try dsimp only);omega,by(try dsimp only);omega,by(try dsimp only);omega⟩
 case hn=>exact(by(try dsimp only);omega)
 rintro⟨x0,x1,x2,x3,x4,x5,u⟩ hI;dsimp only at hI;obtain⟨h0,h1,h2,h3,h4⟩:=hI;unfold j7u;dsimp only;rw[qg (n:=(x5.length:Int)+1) (by omega)];with_reducible repeat' (first|apply dP|apply dX<;>intro _)
 . refine dZ (b3y x0 x3 (by omega)) ?_
   rintro⟨d,rest,u⟩ hd;dsimp only at hd ⊢;refine dD (λ_=>dP trivial) (λhneg => ?_)
   . have hd':=hd.resolve_left hneg
     rw[qg (n:=x2+d) (by omega)];with_reducible repeat' (first|apply dP|apply dX<;>intro _)
     . trivial
     . refine dZ (b3w _ _ _ hd'.1 (by omega)) ?_
       rintro⟨b,u⟩ -
       dsimp only;have q0:0<=(x2+d)/((x5.length:Int)+1):=ediv_nonneg (by omega) (by omega);have q1:(x2+d)/((x5.length:Int)+1)<=x2+d:=Int.ediv_le_self _ (by omega);have r0:0<=(x2+d)%((x5.length:Int)+1):=Int.emod_nonneg _ (by omega);have r1:(x2+d)%((x5.length:Int)+1)<(x5.length:Int)+1:=Int.emod_lt_of_pos _ (by omega);rw[tdiv_eq_ediv_of_nonneg (by omega),Int.tmod_eq_emod_of_nonneg (by omega)];generalize (x2+d)/((x5.length:Int)+1)=q at q0 q1 ⊢;generalize (x2+d)%((x5.length:Int)+1)=r at r0 r1 ⊢;rw[qg (n:=q) (by omega),qg (n:=x1+q) (by omega)];with_reducible repeat' (first|apply dP|apply dX<;>intro _)
       . trivial
       . refine dZ (k8m _) ?_
         rintro⟨ok,u⟩ -
         dsimp only;with_reducible repeat' (first|apply dP|apply dX<;>intro _)
         . trivial
         . refine dZ (d7w r x5 _ (by omega) (by omega)) ?_
           rintro⟨out',u⟩ ho;dsimp only at ho ⊢;rw[qg (n:=r+1) (by omega)];exact dP ⟨⟨by(try dsimp only);omega,by(try dsimp only);omega,by(try dsimp only);omega,by(try dsimp only);omega,by(try dsimp only);omega⟩,by(try dsimp only);omega⟩
         . refine dO ?_;omega
       . refine dO ?_;omega
 . exact(by(try dsimp only);omega:x5.length<=L)
theorem v6n(L:Nat)(hL:L<=1000000000000)(s:List UInt8)(out:List Int)(h:s.length+out.length<=L):Df (q2d (s,out,())) (λy=>y.2.1.length<=L):=by
 unfold q2d j7t;dsimp only;refine dZ (f0h L hL s out h) ?_;intro z hz;refine dS hz ?_ ?_
 . rintro⟨a,u⟩ ha
   exact dP ha
 . rintro⟨a,u⟩ -
   exact dP (by simp)
theorem d7v(s:List UInt8)(c:Int)(hs:s.length<=1000000000000):Df (j6j (s,c,())) (λy => -1<=y.1/\y.1<s.length):=by
 unfold j6j k4h;dsimp only;refine dZ (P:=λy => -1<=y.1/\y.1<s.length) ?_ (λ_ h=>dP h);unfold v2f k4x;dsimp only;rw[qg (n:=(s.length:Int)-1) (by omega)];refine dZ (P:=Sum.elim (λ_=>True) (λy => -1<=y.1/\y.1<s.length)) ?_ ?_
 . refine dL ?I ?m ?h _ ?hv ?hn
   case I=>exact(λv=>v.1=s /\ -1<=v.2.2.1/\v.2.2.1<s.length)
   case m=>exact(λv=>(v.2.2.1+1).toNat)
   case hv=>exact⟨rfl,by(try dsimp only);omega,by(try dsimp only);omega⟩
   case hn=>exact(by(try dsimp only);omega)
   rintro⟨x0,x1,x2,u⟩ hI;dsimp only at hI;obtain⟨rfl,h0,h1⟩:=hI;unfold j8e;dsimp only;with_reducible repeat' (first|apply dP|apply dX<;>intro _)
   . exact⟨by(try dsimp only);omega,by(try dsimp only);omega⟩
   . rw[qg (n:=x2-1) (by omega)]
     exact⟨⟨rfl,by(try dsimp only);omega,by(try dsimp only);omega⟩,by(try dsimp only);omega⟩
   . refine dO ?_;omega
   . trivial
 . intro z hz
   refine dS hz ?_ ?_
   . intro u _
     exact dP ⟨by(try dsimp only);omega,by(try dsimp only);omega⟩
   . rintro⟨a,u⟩ h
     exact dP h
theorem b3q(s:List UInt8)(hs:s.length<=1000000000000):Df (y5g (s,())) (λy=>y.1.length<=s.length):=by
 unfold y5g k3r;dsimp only;refine dZ (d21 s (by omega)) ?_;rintro⟨e,u⟩ he;dsimp only at he ⊢;with_reducible repeat' (first|apply dP|apply dX<;>intro _)
 . exact(by simp:([]:List Int).length<=s.length)
 . rename_i hneg
   have hall:=he.2 (by omega);refine dZ (d7v s 45 hs) ?_;rintro⟨k,u⟩ hk;dsimp only at hk ⊢;rw[qg (n:=k+1) (by omega)];have hb:(decide ((List.take k.toNat s).length<=70368744177664)&&(List.take k.toNat s).all λb=>decide (b.toNat<128))=true:=by
    rw[decide_eq_true (by rw[length_take];omega),Bool.true_and,all_eq_true];intro c hc;exact decide_eq_true (hall c (List.mem_of_mem_take hc))
   rw[hb];simp only[cond_true];with_reducible repeat' (first|apply dP|apply dX<;>intro _)
   . refine dZ (v6n s.length hs _ _ (by simp only[length_drop,List.length_map,length_take];omega)) ?_
     rintro⟨a,b,u⟩ h;exact dP h
   . refine dO ?_;omega
   . refine dO ?_;omega
   . refine dZ (v6n s.length hs _ _ (by simp)) ?_
     rintro⟨a,b,u⟩ h;exact dP h
theorem b3m(h:TK T A B)(s:List UInt8)(hs:s.length<=6000000):Df (z5r (T,A,B,s,())) (λy=>y.1.length<=200000000000/\y.2.1.length<=200000000000):=by
 unfold z5r k3i;dsimp only;refine dZ (k8l h s (by omega)) ?_;rintro⟨f,ok,u⟩ hf;dsimp only at hf ⊢;refine dZ (b3g f _) ?_;rintro⟨rest,is,u⟩ hr;dsimp only at hr ⊢;with_reducible repeat' (first|apply dP|apply dX<;>intro _)
 . exact⟨by simp,by simp⟩
 . refine dZ (d21 f (by omega)) ?_
   rintro⟨e,u⟩ -
   dsimp only;with_reducible repeat' (first|apply dP|apply dX<;>intro _)
   . refine dZ (d83 f (by omega)) ?_
     rintro⟨l,at_,u⟩ hl;dsimp only at hl ⊢;refine dZ (f0d l (by omega)) ?_;rintro⟨code,b,u⟩ hc;dsimp only at hc ⊢;with_reducible repeat' (first|apply dP|apply dX<;>intro _)
     . refine dZ (b3p h f (by omega)) ?_
       rintro⟨w,u⟩ -
       exact dP ⟨by simp only[jf];omega,by(try dsimp only);omega⟩
     . refine dO ?_;simp only[length_cons,length_nil]at *;omega
   . refine dZ (d7c f (by omega)) ?_
     rintro⟨w,u⟩ -
     exact dP ⟨by(try dsimp only);omega,by(try dsimp only);omega⟩
   . refine dZ (b3q rest (by omega)) ?_
     rintro⟨l,ok2,u⟩ hl;dsimp only at hl ⊢;with_reducible repeat' (first|apply dP|apply dX<;>intro _)
     . exact⟨by simp,by simp⟩
     . exact⟨by simp,by simp⟩
     . refine dZ (v0k l (by omega)) ?_
       rintro⟨us,b,u⟩ hu;dsimp only at hu ⊢;refine dZ (b3p h us (by omega)) ?_;rintro⟨w,u⟩ -
       dsimp only;with_reducible repeat' (first|apply dP|apply dX<;>intro _)
       . exact⟨by simp,by simp⟩
       . refine dZ (f0d l (by omega)) ?_
         rintro⟨code,b,u⟩ -
         dsimp only;with_reducible repeat' (first|apply dP|apply dX<;>intro _)
         . exact⟨by simp,by simp⟩
         . exact⟨by(try dsimp only);omega,by(try dsimp only);omega⟩
theorem d6m(h:TK T A B)(s:List UInt8)(hs:s.length<=6000000):Df (z5n (T,A,B,s,())) (λy=>y.1.length<=200000000000):=by
 unfold z5n k3d;dsimp only;refine dZ (b3m h s hs) ?_;rintro⟨a,b,e,u⟩ ha;dsimp only at ha ⊢;with_reducible repeat' (first|apply dP|apply dX<;>intro _)
 . exact(by simp:([]:List UInt8).length<=200000000000)
 . exact ha.1
theorem d6n(h:TK T A B)(s:List UInt8)(hs:s.length<=6000000):Df (y5c (T,A,B,s,())) (λy=>y.1.length<=200000000000):=by
 unfold y5c g6y;dsimp only;refine dZ (b3m h s hs) ?_;rintro⟨a,b,e,u⟩ ha;dsimp only at ha ⊢;with_reducible repeat' (first|apply dP|apply dX<;>intro _)
 . exact(by simp:([]:List UInt8).length<=200000000000)
 . exact ha.2
theorem q2p(c:UInt8):∀l:List UInt8,Lib.indexByte l c<l.length
 | []=>by simp[Lib.indexByte]
 | b::l=>by
  have:=q2p c l;simp only[Lib.indexByte,length_cons];split
  . omega
  . split<;>omega
theorem d6o(s:List UInt8)(c:Int):Df (q7z (s,c,())) (λy => -1<=y.1/\y.1<s.length):=by
 unfold q7z x7k;dsimp only;exact dZ (P:=λy => -1<=y.1/\y.1<s.length) (dP ⟨Lib.indexByte_ge s _,q2p _ s⟩) λ_ h=>dP h
theorem v6m(s:List UInt8)(b:Bool)(hb:b=true->0<s.length):Df (q0q (s,[46],1,b,())) (λy => -1<=y.1/\y.1<s.length):=by
 unfold q0q q5l;dsimp only;with_reducible repeat' (first|apply dP|apply dX<;>intro _)
 . rename_i h1
   have:=hb h1;exact⟨by(try dsimp only);omega,by(try dsimp only);omega⟩
 . exact dZ (d6o s _) λ_ h=>dP h
 . rename_i h1 h2 h3
   exact absurd (by decide:(0:Int)<(([46]:List UInt8).length:Int)) h3
 all_goals (exfalso;omega)
theorem d6j(s:List UInt8)(hs:s.length<=1000000000000):Df (q1c (s,[46],())) (λy=>y.1.length<=s.length/\y.2.1.length<=s.length/\(y.2.2.1=true->y.2.1.length<s.length)):=by
 unfold q1c x7f;dsimp only;refine dZ (P:=λy=>y.1.length<=s.length/\y.2.1.length<=s.length/\(y.2.2.1=true->y.2.1.length<s.length)) ?_ (λ_ h=>dP h);unfold y5d x7l;dsimp only;refine dZ (P:=λy => -1<=y.1/\y.1<s.length) ?_ ?_
 . unfold j6i y5t
   dsimp only;have e0:((([46]:List UInt8).length:Int)==0)=false:=rfl;rw[e0];simp only[cond_false];refine dZ (v6m s _ λh => ?_) λ_ h=>dP h;have:=eq_of_beq h;rw[<-this];decide
 rintro⟨k,u⟩ hk;dsimp only at hk ⊢;rw[show (([46]:List UInt8).length:Int)=1 from rfl,qg (n:=k+1) (by omega)];with_reducible repeat' (first|apply dP|apply dX<;>intro _)
 . refine⟨?_,?_,λ_ => ?_⟩
   . simp only[length_take];omega
   . simp only[length_drop];omega
   . simp only[length_drop];omega
 . refine dO ?_;omega
 . refine dO ?_;omega
 . exact⟨le_refl _,by simp,λh=>by cases h⟩
theorem j6b:∀(n:Nat) (s:List UInt8),s.length<n->s.length<=1000000000000->∃ps,kl n s=some ps/\ps.length<=n/\∀p∈ps,p.length<=s.length
 | n+1,s,hn,hs=>by
  obtain⟨⟨a,b,ok,u⟩,e,h1,h2,h3⟩:=d6j s hs;dsimp only at h1 h2 h3;cases ok with
  | true =>
   have h4:=h3 rfl;obtain⟨ps,e2,h5,h6⟩:=j6b n b (by omega) (by omega);refine⟨a::ps,by simp only[kl,e,Option.bind_some,cond_true,e2,map_some],by simp only[length_cons];omega,?_⟩;intro p hp;rcases mem_cons.1 hp with rfl|hp
   . exact h1
   . have:=h6 p hp;omega
  | false =>
   refine⟨[a],by simp only[kl,e,Option.bind_some,cond_false],by simp only[length_cons,length_nil];omega,?_⟩;intro p hp;rw[mem_singleton]at hp;subst hp;exact h1
end
section
variable {T:List R6} {A:List R4} {B:List R3}
theorem z4j{s old:List UInt8}{i:Nat}(h:Lib.index s old=i):i+old.length<=s.length:=by
 have:=Lib.index_room s old (by omega);omega
theorem j6e(old new:List UInt8)(hl:new.length<=old.length):∀(k:Nat) (s:List UInt8),(Lib.replaceK old new k s).length<=s.length
 | 0,s=>le_refl _
 | k+1,s=>by
  by_cases h:Lib.index s old = -1
  . rw[Lib.replaceK,if_pos (by rw[h];rfl)];exact le_refl _
  . obtain⟨i,hi⟩:∃i:Nat,Lib.index s old=i:=⟨(Lib.index s old).toNat,by have:=Lib.index_ge s old;omega⟩
    rw[Lib.replaceK_hit old new k s i hi];have h1:=j6e old new hl k (s.drop (i+old.length));have h2:=z4j hi;simp only[length_append,length_take,length_drop]at h1 ⊢;omega
theorem q7t(s old new:List UInt8)(hl:new.length<=old.length):(Lib.replaceAll s old new).length<=s.length:=by
 unfold Lib.replaceAll Lib.replace;split
 . exact le_refl _
 . exact j6e old new hl _ s
theorem j3h(f:List UInt8)(ok:Bool)(hf:f.length<=5000000):∃ls c,q0y f ok=some (ls,c)/\ls.length<=32/\∀p∈ls,p.length<=5000000:=by
 unfold q0y;cases ok with
 | false=>exact⟨[],7,rfl,by simp,λp hp=>by cases hp⟩
 | true =>
  cases hfe:f.isEmpty with
  | true=>exact⟨[],13,rfl,by simp,λp hp=>by cases hp⟩
  | false =>
   simp only[Bool.not_true,cond_false];rw[decide_eq_true (by omega)];simp only[cond_true];have hr:=q7t f [227,128,130] [46] (by decide);obtain⟨ps,e,h1,h2⟩:=j6b (f.length+2) (Lib.replaceAll f [227,128,130] [46]) (by omega) (by omega);simp only[e,Option.bind_some];rw[decide_eq_true (by omega)];simp only[cond_true];by_cases h3:32<ps.length
   . rw[decide_eq_true h3]
     exact⟨[],2,rfl,by simp,λp hp=>by cases hp⟩
   . rw[decide_eq_false h3]
     exact⟨ps,0,rfl,by omega,λp hp=>by have:=h2 p hp;omega⟩
theorem z4m(l:List (List UInt8))(x:List UInt8):Lib.lens (l++[x])=Lib.lens l+x.length:=by simp[Lib.lens]
theorem z1g(f g:List UInt8->Option (List UInt8×Int))(hf:∀x:List UInt8,x.length<=5000000->∃y,f x=some y/\y.1.length<=200000000000)(hg:∀x:List UInt8,x.length<=5000000->∃y,g x=some y/\y.1.length<=200000000000) :
 ∀(ls ps qs:List (List UInt8)) (n:Nat),(∀p∈ls,p.length<=5000000)->ps.length+ls.length<=32->qs.length+ls.length<=32->Lib.lens ps<=200000000000*n->Lib.lens qs<=200000000000*n->n+ls.length<=32 ->
  ∃r,q3f f g ls ps qs=some r/\r.2.1.length<=32/\r.2.2.length<=32/\Lib.lens r.2.1<=6400000000000/\Lib.lens r.2.2<=6400000000000
 | [],ps,qs,n,h,h1,h2,h3,h4,h5=>⟨(0,ps,qs),rfl,by simpa using h1,by simpa using h2,by simp only[length_nil]at h5;dsimp only;omega,by simp only[length_nil]at h5;dsimp only;omega⟩
 | x::ls,ps,qs,n,h,h1,h2,h3,h4,h5=>by
  obtain⟨a,ea,ha⟩:=hf x (h x mem_cons_self);obtain⟨b,eb,hb⟩:=hg x (h x mem_cons_self);simp only[q3f,ea,Option.bind_some];simp only[length_cons]at h1 h2 h5;cases hz:(a.2 != 0)with
  | true=>exact⟨(a.2,[],[]),rfl,by simp,by simp,by simp[Lib.lens],by simp[Lib.lens]⟩
  | false =>
   simp only[cond_false,eb,Option.bind_some];exact z1g f g hf hg ls (ps++[a.1]) (qs++[b.1]) (n+1) (λp hp=>h p (mem_cons_of_mem _ hp)) (by simp only[jf];omega) (by simp only[jf];omega)
    (by rw[z4m];omega) (by rw[z4m];omega) (by omega)
theorem z1s(l:List (List UInt8))(h1:l.length<=32)(h2:Lib.lens l<=6400000000000):∃r,q7r (l,[46],())=some (r,()):=by
 unfold q7r;have hj:(Lib.join l [46]).length<=140737488355328:=by
  cases l with
  | nil=>exact zero_le _
  | cons x r =>
   rw[Lib.join_length];simp only[length_cons,length_nil]at h1 ⊢;omega
 dsimp only;rw[decide_eq_true (by omega),decide_eq_true hj];exact⟨_,rfl⟩
theorem v1d(r:Int×List (List UInt8)×List (List UInt8))(h1:r.2.1.length<=32)(h2:r.2.2.length<=32)(h3:Lib.lens r.2.1<=6400000000000)(h4:Lib.lens r.2.2<=6400000000000):∃o,y4h r=some o:=by
 unfold y4h;cases (r.1 != 0)with
 | true=>exact⟨_,rfl⟩
 | false =>
  obtain⟨a,ha⟩:=z1s r.2.1 h1 h3;obtain⟨b,hb⟩:=z1s r.2.2 h2 h4;simp only[cond_false,ha,Option.bind_some,hb];cases decide (253<a.length)with
  | true=>exact⟨_,rfl⟩
  | false=>exact⟨_,rfl⟩
theorem d6i(h:TK T A B)(s:List UInt8)(hs:s.length<=3000):∃y,z5k (T,A,B,s,())=some y:=by
 obtain⟨⟨f,ok,u⟩,e,hf⟩:=k8l h s (by omega);dsimp only at hf;obtain⟨ls,c,e2,hll,hls⟩:=j3h f ok (by omega);unfold z5k;dsimp only;simp only[e,Option.bind_some,e2];cases (c != 0)with
 | true=>exact⟨_,rfl⟩
 | false =>
  simp only[cond_false];rw[decide_eq_true hll];obtain⟨r,er,h1,h2,h3,h4⟩:=z1g (λx=>(z5n (T,A,B,x,())).map λr=>(r.1,r.2.1)) (λx=>(y5c (T,A,B,x,())).map λr=>(r.1,r.2.1))
   (λx hx=>by
    obtain⟨y,e,hy⟩:=d6m h x (by omega);exact⟨(y.1,y.2.1),by simp only[e,map_some],hy⟩)
   (λx hx=>by
    obtain⟨y,e,hy⟩:=d6n h x (by omega);exact⟨(y.1,y.2.1),by simp only[e,map_some],hy⟩)
   ls [] [] 0 hls (by simpa using hll) (by simpa using hll) (by simp[Lib.lens]) (by simp[Lib.lens]) (by simpa using hll)
  obtain⟨o,ho⟩:=v1d r h1 h2 h3 h4;simp only[cond_true,er,Option.bind_some,ho,map_some];exact⟨_,rfl⟩
end
def Pf{α:Type}(x:Option α)(Q:α->Prop):Prop:=∀y,x=some y->Q y
section
variable {α β γ:Type} {Q:α->Prop}
theorem pP{y:α}(h:Q y):Pf (some y) Q:=λ_ e=>by cases e;exact h
theorem pN:Pf (none:Option α) Q:=λ_ e=>by cases e
theorem pT{x:Option α}:Pf x (λ_=>True):=λ_ _=>trivial
theorem pZ{x:Option β}{f:β->Option α}{P:β->Prop}(h:Pf x P)(hf:∀a,P a->Pf (f a) Q):Pf (x.bind f) Q:=by
 intro y e;cases x with
 | none=>cases e
 | some a=>exact hf a (h a rfl) y e
theorem pM{x:Option α}{P:α->Prop}(h:Pf x P)(hf:∀a,P a->Q a):Pf x Q:=λy e=>hf y (h y e)
theorem pA{x:Option α}{P P':α->Prop}(h:Pf x P)(h':Pf x P'):Pf x λy=>P y/\P' y:=λy e=>⟨h y e,h' y e⟩
theorem pX{b:Bool}{p q:Prop}[r:Rd b p q]{x y:Option α}(h1:p->Pf x Q)(h2:q->Pf y Q):Pf (bif b then x else y) Q:=by
 have h:b=true\/b=false:=by cases b<;>simp
 rcases h with h|h
 . rw[h];exact h1 (r.t h)
 . rw[h];exact h2 (r.f h)
theorem pS{f:β->Option α}{g:γ->Option α}{s:β⊕γ}{P:β->Prop}{P':γ->Prop}(hs:Sum.elim P P' s)(h1:∀a,P a->Pf (f a) Q)(h2:∀b,P' b->Pf (g b) Q):Pf (Sum.elim f g s) Q:=by
 cases s with
 | inl a=>exact h1 a hs
 | inr b=>exact h2 b hs
theorem pLn{F:β->Option (β⊕α)}(I:β->Prop)(h:∀v,I v->Pf (F v) (Sum.elim I Q)):∀(n:Nat) (v:β),I v->Pf (qc F n v) Q
 | 0,v,_=>λ_ e=>by cases e
 | n+1,v,hv=>by
  intro y e;simp only[qc]at e;cases hF:F v with
  | none=>rw[hF]at e;cases e
  | some z =>
   have hz:=h v hv z hF;rw[hF]at e;cases z with
   | inl v'=>exact pLn I h n v' hz y e
   | inr y' =>
    have e':some y'=some y:=e;cases e';exact hz
theorem pL{F:β->Option (β⊕α)}(I:β->Prop)(h:∀v,I v->Pf (F v) (Sum.elim I Q))(v:β)(hv:I v):Pf (qc F qz v) Q:=pLn I h qz v hv
theorem pRn{F:(β->Option α)->β->Option α}{P:β->α->Prop}(h:∀G,(∀v,Pf (G v) (P v))->∀v,Pf (F G v) (P v)):∀(n:Nat) (v:β),Pf (q1s F n v) (P v)
 | 0,v=>λ_ e=>by cases e
 | n+1,v=>h (q1s F n) (pRn h n) v
theorem Df.pf{x:Option α}{P:α->Prop}(h:Df x P):Pf x P:=by
 obtain⟨y,e,h⟩:=h;intro z ez;rw[e]at ez;cases ez;exact h
end
def kk(x:Int):Bool:=decide (0<=x)&&decide (x<128) && !(decide (97<=x)&&decide (x<=122)) && !(decide (65<=x)&&decide (x<=90)) && !(decide (48<=x)&&decide (x<=57)) && !decide (x=45)
theorem q4m(x:Int):kk x=true↔0<=x/\x<128/\(x<97\/122<x)/\(x<65\/90<x)/\(x<48\/57<x)/\x≠45:=by
 unfold kk;simp only[and_eq_true,Bool.not_eq_true',decide_eq_true_eq,Bool.and_eq_false_iff,decide_eq_false_iff_not];omega
theorem y3b{x:Int}(h:128<=x):kk x=false:=by
 cases hk:kk x with
 | false=>rfl
 | true=>have:=(q4m x).1 hk;omega
def stp(d:Bool)(s:Nat)(x:Int):Nat:=if 2<=s then 2 else if kk x=true then(if x=46/\d=true then s+1 else 2)else 0
def run(d:Bool)(s:Nat)(l:List Int):Nat:=l.foldl (stp d) s
theorem z2l(d:Bool){s s':Nat}(h:s<=s')(x:Int):stp d s x<=stp d s' x:=by
 unfold stp;repeat' split
 all_goals omega
theorem j3q(d:Bool):∀(l:List Int) {s s':Nat},s<=s'->run d s l<=run d s' l
 | [],_,_,h=>h
 | x::l,_,_,h=>j3q d l (z2l d h x)
theorem q2z(d:Bool){s:Nat}{x:Int}(h:kk x=false):stp d s x=if 2<=s then 2 else 0:=by
 unfold stp;rw[h];simp
theorem y0c(d:Bool){s:Nat}(x:Int)(h:2<=s):stp d s x=2:=by
 unfold stp;rw[if_pos h]
theorem q7g(d:Bool):∀(l:List Int) {s:Nat},2<=s->2<=run d s l
 | [],_,h=>h
 | x::l,s,h=>q7g d l (Nat.le_of_eq (y0c d x h).symm)
theorem xu(d:Bool)(s:Nat)(p q:List Int):run d s (p++q)=run d (run d s p) q:=List.foldl_append
theorem q4s(d:Bool)(s:Nat)(x:Int)(q:List Int):run d s (x::q)=run d (stp d s x) q:=rfl
def Rr(p q:List Int):Prop:=∀d,run d 1 p<=run d 1 q
theorem Rr.refl(p:List Int):Rr p p:=λd=>le_refl _
theorem Rr.trans{p q r:List Int}(h:Rr p q)(h':Rr q r):Rr p r:=λd=>le_trans (h d) (h' d)
theorem j3r(d:Bool):∀(l:List Int) (s:Nat),l≠[]->(∀x∈l,kk x=false)->run d s l=if 2<=s then 2 else 0
 | [x],s,_,h=>q2z d (h x mem_cons_self)
 | x::y::l,s,_,h=>by
  rw[q4s,j3r d (y::l) _ (by simp) λz hz=>h z (mem_cons_of_mem _ hz),q2z d (h x mem_cons_self)];split<;>simp
theorem ap{p q:List Int}(x:Int)(ys:List Int)(h:Rr p q)(hk:kk x=true->ys=[x]):Rr (p++[x]) (q++ys):=by
 intro d;rw[xu,xu];cases hx:kk x with
 | true=>rw[hk hx];exact z2l d (h d) x
 | false =>
  show stp d _ x<=_;rw[q2z d hx];split
  . rename_i h2
    exact q7g d ys (le_trans h2 (h d))
  . exact zero_le _
theorem apn{p q:List Int}(xs ys:List Int)(h:Rr p q)(hn:xs≠[])(hx:∀x∈xs,kk x=false):Rr (p++xs) (q++ys):=by
 intro d;rw[xu,xu,j3r d xs _ hn hx];split
 . rename_i h2
   exact q7g d ys (le_trans h2 (h d))
 . exact zero_le _
theorem k1m(d:Bool):∀(l r:List Int) (s s':Nat),s<=s'->r.length=l.length->(∀(i:Nat) (x:Int),l[i]? = some x->kk x=true->r[i]? = some x)->run d s l<=run d s' r
 | [],[],s,s',h,_,_=>h
 | [],_::_,_,_,_,h,_=>by simp at h
 | _::_,[],_,_,_,h,_=>by simp at h
 | x::l,y::r,s,s',h,hl,hp=>by
  have hl':r.length=l.length:=by simpa using hl
  have hp':∀(i:Nat) (x:Int),l[i]? = some x->kk x=true->r[i]? = some x:=λi z h1 h2=>by
   have:=hp (i+1) z (by simpa using h1) h2;simpa using this
  rw[q4s,q4s];refine k1m d l r _ _ ?_ hl' hp';cases hx:kk x with
  | true =>
   have:=hp 0 x (by simp) hx;simp only[List.getElem?_cons_zero,Option.some.injEq]at this;subst this;exact z2l d h y
  | false =>
   rw[q2z d hx];split
   . rename_i h2
     rw[y0c d y (by omega)];exact le_refl _
   . exact zero_le _
theorem Rr.pt{l r:List Int}(h:r.length=l.length)(hp:∀(i:Nat) (x:Int),l[i]? = some x->kk x=true->r[i]? = some x):Rr l r:=λd=>k1m d l r 1 1 (le_refl _) h hp
theorem Rr.set{p q:List Int}(x:Int)(h:Rr p q)(hx:kk x=false)(i:Nat)(v:Int)(hi:kk (q.getD i 0)=false):Rr (p++[x]) (q.set i v):=by
 intro d;rw[xu];show stp d _ x<=_;rw[q2z d hx];split
 . rename_i h2
   have h3:Rr q (q.set i v):=by
    refine Rr.pt length_set λj z hj hz => ?_;by_cases hij:i=j
    . subst hij
      rw[List.getD_eq_getElem?_getD,hj]at hi;simp only[Option.getD_some]at hi;rw[hi]at hz;cases hz
    . rw[List.getElem?_set_ne hij];exact hj
   exact le_trans h2 (le_trans (h d) (h3 d))
 . exact zero_le _
def bi(s:List UInt8):List Int:=s.map λc=>(c.toNat:Int)
theorem xq(p q:List UInt8):bi (p++q)=bi p++bi q:=List.map_append
theorem g5q(l:List Int):∀s:Nat,2<=run false s l↔2<=s\/∃x∈l,kk x=true:=by
 induction l with
 | nil=>intro s;simp[run]
 | cons y l ih =>
  intro s;rw[q4s,ih];by_cases h2:2<=s
  . rw[y0c _ _ h2];simp[h2]
  . cases hy:kk y with
    | true =>
     have:stp false s y=2:=by unfold stp;rw[if_neg h2,if_pos hy];simp
     rw[this];simp only[le_refl,true_or,true_iff];exact .inr ⟨y,mem_cons_self,hy⟩
    | false =>
     rw[q2z _ hy,if_neg h2];constructor
     . rintro (h|⟨x,hx,hk⟩)
       . omega
       . exact .inr ⟨x,mem_cons_of_mem _ hx,hk⟩
     . rintro (h|⟨x,hx,hk⟩)
       . exact(h2 h).elim
       . rcases mem_cons.1 hx with rfl|hx
         . rw[hy]at hk;cases hk
         . exact .inr ⟨x,hx,hk⟩
theorem Rr.mem{p q:List Int}(h:Rr p q)(hp:∃x∈p,kk x=true):∃x∈q,kk x=true:=by
 have h1:=(g5q p 1).2 (.inr hp);rcases (g5q q 1).1 (le_trans h1 (h false))with h|h
 . omega
 . exact h
theorem z5b(d:Bool):∀(l:List Int) (s:Nat),l≠[]->s<2->(∀x∈l,kk x=false)->run d s l=0:=λl s hn hs h=>by
 rw[j3r d l s hn h,if_neg (by omega)]
def Fr(o n:Nat)(r r':List Int):Prop:=r'.length=r.length/\∀i:Nat,i<o\/o+n<=i->r'[i]? = r[i]?
theorem k8z{o n:Nat}{r:List Int}:Fr o n r r:=⟨rfl,λ_ _=>rfl⟩
theorem q4i{o n k:Nat}{r r':List Int}{x:Int}(h:Fr o n r r')(hk:k<n):Fr o n r (r'.set (o+k) x) :=
 ⟨length_set.trans h.1,λi hi=>by
  rw[List.getElem?_set_ne (by omega)];exact h.2 i hi⟩
section
variable {T:List R6} {A:List R4} {B:List R3}
theorem w5k(a b:Int):Pf (zl (a,b,T,A,B,())) (λy=>y.2=(T,A,B,())):=by
 unfold zl k4l;dsimp only;exact pZ pT λ_ _=>pZ pT λ_ _=>pP rfl
theorem f5a(o n:Nat)(a b i j:Int)(row r:List Int)(h:Fr o n row r) :
 Pf (q2f (((o:Int),(n:Int)),a,b,i,j,r,T,A,B,())) (λy=>∃(a b i j:Int) (r':List Int),Fr o n row r'/\y=(((o:Int),(n:Int)),a,b,i,j,r',T,A,B,())):=by
 unfold q2f j8i;dsimp only;simp only[toNat_natCast];with_reducible repeat' (first|exact pN|apply pP|apply pX<;>intro _)
 exact⟨_,_,_,_,_,q4i (q4i h (by omega)) (by omega),rfl⟩
theorem f5b(o n:Nat)(a b i j:Int)(row r:List Int)(h:Fr o n row r) :
 Pf (j0m (((o:Int),(n:Int)),a,b,i,j,r,T,A,B,())) (λy=>∃(a b i:Int) (r':List Int),Fr o n row r'/\y=(((o:Int),(n:Int)),a,b,i,r',T,A,B,())):=by
 refine pL ?I ?h _ ?hv
 case I=>exact(λv=>∃(a b i j:Int) (r':List Int),Fr o n row r'/\v=(((o:Int),(n:Int)),a,b,i,j,r',T,A,B,()))
 case hv=>exact⟨_,_,_,_,_,h,rfl⟩
 rintro v ⟨a,b,i,j,r',h1,rfl⟩;unfold j8j;dsimp only;simp only[toNat_natCast];with_reducible repeat' (first|exact pN|apply pP|apply pX<;>intro _)
 . refine pZ (w5k _ _) ?_
   rintro⟨c,t,a',b',u⟩ hc;simp only[Prod.mk.injEq]at hc;obtain⟨rfl,rfl,rfl,-⟩:=hc;dsimp only;with_reducible repeat' (first|exact pN|apply pP|apply pX<;>intro _)
   . refine pZ (f5a o n a b i j row r' h1) ?_
     rintro y ⟨a,b,i,j,r2,h4,rfl⟩;dsimp only;simp only[toNat_natCast];exact pP ⟨_,_,_,_,_,h4,rfl⟩
   . exact⟨_,_,_,_,h1,rfl⟩
 . exact⟨_,_,_,_,h1,rfl⟩
theorem d0d(o n:Nat)(a b:Int)(row r:List Int)(h:Fr o n row r) :
 Pf (j0l (((o:Int),(n:Int)),a,b,r,T,A,B,())) (λy=>∃(r':List Int),Fr o n row r'/\y=(r',T,A,B,())):=by
 unfold j0l k5h;dsimp only;simp only[toNat_natCast];refine pZ (P:=λy=>∃(r':List Int),Fr o n row r'/\y=(r',T,A,B,())) ?_ ?_
 . refine pL ?I ?h _ ?hv
   case I=>exact(λv=>∃(a b i:Int) (r':List Int),Fr o n row r'/\v=(((o:Int),(n:Int)),a,b,i,r',T,A,B,()))
   case hv=>exact⟨_,_,_,_,h,rfl⟩
   rintro v ⟨a,b,i,r',h2,rfl⟩;unfold j8k;dsimp only;simp only[toNat_natCast];with_reducible repeat' (first|exact pN|apply pP|apply pX<;>intro _)
   . refine pZ (f5b o n a b i i row r' h2) ?_
     rintro y ⟨a,b,i,r2,h4,rfl⟩;dsimp only;simp only[toNat_natCast];exact pP ⟨_,_,_,_,h4,rfl⟩
   . exact⟨_,h2,rfl⟩
 . rintro y ⟨r',h,rfl⟩
   exact pP ⟨_,h,rfl⟩
theorem f5h(o n:Nat)(a b k:Int)(row r:List Int)(h:Fr o n row r) :
 Pf (z2r (((o:Int),(n:Int)),a,b,k,r,T,A,B,())) (λy=>∃(r':List Int),Fr o n row r'/\y=(r',T,A,B,())):=by
 unfold z2r k5k;dsimp only;simp only[toNat_natCast];refine pZ (P:=λy=>∃(r':List Int),Fr o n row r'/\y=(r',T,A,B,())) ?_ ?_
 . refine pL ?I ?h _ ?hv
   case I=>exact(λv=>∃(a b k i:Int) (r':List Int),Fr o n row r'/\v=(((o:Int),(n:Int)),a,b,k,i,r',T,A,B,()))
   case hv=>exact⟨_,_,_,_,_,h,rfl⟩
   rintro v ⟨a,b,k,i,r',h2,rfl⟩;unfold j8m;dsimp only;simp only[toNat_natCast];with_reducible repeat' (first|exact pN|apply pP|apply pX<;>intro _)
   . exact⟨_,_,_,_,_,q4i (q4i h2 (by omega)) (by omega),rfl⟩
   . exact⟨_,h2,rfl⟩
 . rintro y ⟨r',h,rfl⟩
   exact pP ⟨_,h,rfl⟩
theorem m4d(o n:Nat)(a m b:Int)(row r:List Int)(h:Fr o n row r) :
 Pf (zx (((o:Int),(n:Int)),a,m,b,r,T,A,B,())) (λy=>∃(r':List Int),Fr o n row r'/\y=(r',T,A,B,())):=by
 unfold zx k5j;dsimp only;simp only[toNat_natCast];refine pZ (P:=λy=>∃(m i:Int) (r':List Int),Fr o n row r'/\y=(((o:Int),(n:Int)),m,i,r',T,A,B,())) ?_ ?_
 . refine pL ?I ?h _ ?hv
   case I=>exact(λv=>∃(m i j:Int) (r':List Int),Fr o n row r'/\v=(((o:Int),(n:Int)),m,i,j,r',T,A,B,()))
   case hv=>exact⟨_,_,_,_,h,rfl⟩
   rintro v ⟨m,i,j,r',h5,rfl⟩;unfold j8l;dsimp only;simp only[toNat_natCast];with_reducible repeat' (first|exact pN|apply pP|apply pX<;>intro _)
   . refine pZ (f5h o n _ _ _ row r' h5) ?_
     rintro y ⟨r2,h6,rfl⟩;exact pP ⟨_,_,_,_,h6,rfl⟩
   . refine pZ (f5h o n _ _ _ row r' h5) ?_
     rintro y ⟨r2,h6,rfl⟩;exact pP ⟨_,_,_,_,h6,rfl⟩
   . exact⟨_,_,_,h5,rfl⟩
 . rintro y ⟨m,i,r',h4,rfl⟩
   dsimp only;simp only[toNat_natCast];refine pZ (f5h o n _ _ _ row r' h4) ?_;rintro y ⟨r2,h6,rfl⟩;exact pP ⟨_,h6,rfl⟩
theorem f5c(G:ji)(o n:Nat)(a i j:Int)(row:List Int) :
 Pf (vk G (((o:Int),(n:Int)),a,i,j,row,T,A,B,())) (λy=>∃(a i':Int),y=(((o:Int),(n:Int)),a,i',row,T,A,B,())):=by
 refine pL ?I ?h _ ?hv
 case I=>exact(λv=>∃(a i' j':Int),v=(((o:Int),(n:Int)),a,i',j',row,T,A,B,()))
 case hv=>exact⟨_,_,_,rfl⟩
 rintro v ⟨a,i',j',rfl⟩;unfold j0r;dsimp only;simp only[toNat_natCast];with_reducible repeat' (first|exact pN|apply pP|apply pX<;>intro _)
 . refine pZ (w5k _ _) ?_
   rintro⟨c,t,a',b',u⟩ hc;simp only[Prod.mk.injEq]at hc;obtain⟨rfl,rfl,rfl,-⟩:=hc;dsimp only;with_reducible repeat' (first|exact pN|apply pP|apply pX<;>intro _)
   all_goals exact⟨_,_,_,rfl⟩
 . exact⟨_,_,rfl⟩
theorem f5e(G:ji)(o n:Nat)(a i j:Int)(row:List Int) :
 Pf (vn G (((o:Int),(n:Int)),a,i,j,row,T,A,B,())) (λy=>∃(a i':Int),y=(((o:Int),(n:Int)),a,i',row,T,A,B,())):=by
 refine pL ?I ?h _ ?hv
 case I=>exact(λv=>∃(a i' j':Int),v=(((o:Int),(n:Int)),a,i',j',row,T,A,B,()))
 case hv=>exact⟨_,_,_,rfl⟩
 rintro v ⟨a,i',j',rfl⟩;unfold j0t;dsimp only;simp only[toNat_natCast];with_reducible repeat' (first|exact pN|apply pP|apply pX<;>intro _)
 . refine pZ (w5k _ _) ?_
   rintro⟨c,t,a',b',u⟩ hc;simp only[Prod.mk.injEq]at hc;obtain⟨rfl,rfl,rfl,-⟩:=hc;dsimp only;with_reducible repeat' (first|exact pN|apply pP|apply pX<;>intro _)
   all_goals exact⟨_,_,_,rfl⟩
 . exact⟨_,_,rfl⟩
theorem f5d(G:ji)(o n:Nat)(i k:Int)(row r:List Int)(h:Fr o n row r) :
 Pf (vm G (((o:Int),(n:Int)),i,k,r,T,A,B,())) (λy=>∃(r':List Int),Fr o n row r'/\y=(r',T,A,B,())):=by
 refine pL ?I ?h _ ?hv
 case I=>exact(λv=>∃(i k:Int) (r':List Int),Fr o n row r'/\v=(((o:Int),(n:Int)),i,k,r',T,A,B,()))
 case hv=>exact⟨_,_,_,h,rfl⟩
 rintro v ⟨i,k,r',h2,rfl⟩;unfold j0s;dsimp only;simp only[toNat_natCast];with_reducible repeat' (first|exact pN|apply pP|apply pX<;>intro _)
 . exact⟨_,_,_,q4i (q4i h2 (by omega)) (by omega),rfl⟩
 . exact⟨_,h2,rfl⟩
theorem f5f(G:ji)(o n:Nat)(i k:Int)(row r:List Int)(h:Fr o n row r) :
 Pf (vo G (((o:Int),(n:Int)),i,k,r,T,A,B,())) (λy=>∃(r':List Int),Fr o n row r'/\y=(r',T,A,B,())):=by
 refine pL ?I ?h _ ?hv
 case I=>exact(λv=>∃(i k:Int) (r':List Int),Fr o n row r'/\v=(((o:Int),(n:Int)),i,k,r',T,A,B,()))
 case hv=>exact⟨_,_,_,h,rfl⟩
 rintro v ⟨i,k,r',h2,rfl⟩;unfold j0u;dsimp only;simp only[toNat_natCast];with_reducible repeat' (first|exact pN|apply pP|apply pX<;>intro _)
 . exact⟨_,_,_,q4i (q4i h2 (by omega)) (by omega),rfl⟩
 . exact⟨_,h2,rfl⟩
theorem f5g(G:ji)(o n:Nat)(a m b mid s st r p:Int)(row:List Int) :
 Pf (kx G (((o:Int),(n:Int)),a,m,b,mid,s,st,r,p,row,T,A,B,())) (λy=>∃(a m b mid s st':Int),y=(((o:Int),(n:Int)),a,m,b,mid,s,st',row,T,A,B,())):=by
 refine pL ?I ?h _ ?hv
 case I=>exact(λv=>∃(a m b mid s i' j' p:Int),v=(((o:Int),(n:Int)),a,m,b,mid,s,i',j',p,row,T,A,B,()))
 case hv=>exact⟨_,_,_,_,_,_,_,_,rfl⟩
 rintro v ⟨a,m,b,mid,s,i',j',p,rfl⟩;unfold j0v;dsimp only;simp only[toNat_natCast];with_reducible repeat' (first|exact pN|apply pP|apply pX<;>intro _)
 . refine pZ (w5k _ _) ?_
   rintro⟨c,t,a',b',u⟩ hc;simp only[Prod.mk.injEq]at hc;obtain⟨rfl,rfl,rfl,-⟩:=hc;dsimp only;with_reducible repeat' (first|exact pN|apply pP|apply pX<;>intro _)
   all_goals exact⟨_,_,_,_,_,_,_,_,rfl⟩
 . exact⟨_,_,_,_,_,_,rfl⟩
def Mq(T:List R6)(A:List R4)(B:List R3)(G:ji)(o n:Nat):Prop:=∀(a m b:Int) (row r:List Int),Fr o n row r ->
 Pf (G (((o:Int),(n:Int)),a,m,b,r,T,A,B,())) (λy=>∃(r':List Int),Fr o n row r'/\y=(r',T,A,B,()))
theorem w5m(G:ji)(o n:Nat)(hG:Mq T A B G o n)(b mid e:Int)(row r:List Int)(h:Fr o n row r) :
 Pf (xk G (((o:Int),(n:Int)),b,mid,e,r,T,A,B,())) (λy=>∃(r':List Int),Fr o n row r'/\y=(r',T,A,B,())):=by
 show Pf (q5q zl G zx _) _;unfold q5q;dsimp only;simp only[toNat_natCast];with_reducible repeat' (first|exact pN|apply pP|apply pX<;>intro _)
 . refine pZ (hG mid e b row r h) ?_
   rintro y ⟨r',h,rfl⟩;exact pP ⟨_,h,rfl⟩
 . exact⟨_,h,rfl⟩
 . exact⟨_,h,rfl⟩
theorem w5n(G:ji)(o n:Nat)(hG:Mq T A B G o n)(a b mid st e:Int)(row r:List Int)(h:Fr o n row r) :
 Pf (xl G (((o:Int),(n:Int)),a,b,mid,st,e,r,T,A,B,())) (λy=>∃(r':List Int),Fr o n row r'/\y=(r',T,A,B,())):=by
 show Pf (q5r zl G zx (xk G) _) _;unfold q5r;dsimp only;simp only[toNat_natCast];have jh:∀r0:List Int,Fr o n row r0->Pf ((xk G (((o:Int),(n:Int)),b,mid,e,r0,T,A,B,())).bind λval=>some (val.fst,val.snd.fst,val.snd.snd.fst,val.snd.snd.snd.fst,())) (λy=>∃(r':List Int),Fr o n row r'/\y=(r',T,A,B,())):=by
  intro r0 hr;refine pZ (w5m G o n hG b mid e row r0 hr) ?_;rintro y ⟨r',h,rfl⟩;exact pP ⟨_,h,rfl⟩
 with_reducible repeat' (first|exact pN|apply pP|apply pX<;>intro _)
 . refine pZ (hG a st mid row r h) ?_
   rintro y ⟨r',h,rfl⟩;exact jh r' h
 . exact jh r h
 . exact jh r h
theorem x5v(G:ji)(o n:Nat)(hG:Mq T A B G o n)(a m b mid s st q:Int)(row r:List Int)(h:Fr o n row r) :
 Pf (vj G (((o:Int),(n:Int)),a,m,b,mid,s,st,q,r,T,A,B,())) (λy=>∃(r':List Int),Fr o n row r'/\y=(r',T,A,B,())):=by
 show Pf (q5s zl G zx (xl G) (kx G) _) _;unfold q5s;dsimp only;simp only[toNat_natCast];refine pZ (f5g G o n a m b mid s st q _ r) ?_;rintro y ⟨a,m,b,mid,s,st',rfl⟩;dsimp only;simp only[toNat_natCast];have jh:∀(e:Int) (r0:List Int),Fr o n row r0->Pf ((xl G (((o:Int),(n:Int)),a,b,mid,st',e,r0,T,A,B,())).bind λval=>some (val.fst,val.snd.fst,val.snd.snd.fst,val.snd.snd.snd.fst,())) (λy=>∃(r':List Int),Fr o n row r'/\y=(r',T,A,B,())):=by
  intro e r0 hr0;refine pZ (w5n G o n hG a b mid st' e row r0 hr0) ?_;rintro y ⟨r',h,rfl⟩;exact pP ⟨_,h,rfl⟩
 with_reducible repeat' (first|exact pN|apply pP|apply pX<;>intro _)
 . refine pZ (m4d o n _ _ _ row r h) ?_
   rintro y ⟨r',h,rfl⟩;exact jh _ r' h
 . exact jh _ r h
 . exact jh _ r h
theorem g5p(o n:Nat):∀k:Nat,Mq T A B (q1s q7k k) o n
 | 0=>λa m b row r h=>λ_ e=>by cases e
 | k+1=>λa m b row r h=>by
  have hG:=g5p o n k;show Pf (q7k (q1s q7k k) _) _;generalize q1s q7k k=G at hG ⊢;show Pf (y1c zl G zx (vj G) (vk G) (vm G) (vn G) (vo G) _) _;unfold y1c;dsimp only;simp only[toNat_natCast];have jh:∀{x:Option (List Int×List R6×List R4×List R3×Unit)},Pf x (λy=>∃(r':List Int),Fr o n row r'/\y=(r',T,A,B,()))->Pf (x.bind λval=>some (val.fst,val.snd.fst,val.snd.snd.fst,val.snd.snd.snd.fst,())) (λy=>∃(r':List Int),Fr o n row r'/\y=(r',T,A,B,())):=by
   intro x hx;refine pZ hx ?_;rintro y ⟨r',h,rfl⟩;exact pP ⟨_,h,rfl⟩
  with_reducible repeat' (first|exact pN|apply pP|apply pX<;>intro _)
  . refine pZ (f5c G o n _ _ _ r) ?_
    rintro y ⟨a',i',rfl⟩;dsimp only;simp only[toNat_natCast];exact jh (f5d G o n _ _ row r h)
  . refine pZ (f5e G o n _ _ _ r) ?_
    rintro y ⟨a',i',rfl⟩;dsimp only;simp only[toNat_natCast];exact jh (f5f G o n _ _ row r h)
  . exact jh (x5v G o n hG _ _ _ _ _ _ _ row r h)
  . exact jh (x5v G o n hG _ _ _ _ _ _ _ row r h)
theorem d0e(o n:Nat)(a m b:Int)(row r:List Int)(h:Fr o n row r) :
 Pf (j6m (((o:Int),(n:Int)),a,m,b,r,T,A,B,())) (λy=>∃(r':List Int),Fr o n row r'/\y=(r',T,A,B,())):=by
 show Pf (q1s q7k qz _) _;exact g5p o n qz a m b row r h
theorem f4y(o n:Nat)(x y' z w:Int)(row r:List Int)(h:Fr o n row r) :
 Pf (j0j (((o:Int),(n:Int)),x,y',z,w,r,T,A,B,())) (λy=>∃(x y' a:Int) (r':List Int),Fr o n row r'/\y=(((o:Int),(n:Int)),x,y',a,r',T,A,B,())):=by
 refine pL ?I ?h _ ?hv
 case I=>exact(λv=>∃(x y' z w:Int) (r':List Int),Fr o n row r'/\v=(((o:Int),(n:Int)),x,y',z,w,r',T,A,B,()))
 case hv=>exact⟨_,_,_,_,_,h,rfl⟩
 rintro v ⟨x,y',z,w,r',h3,rfl⟩;unfold j8f;dsimp only;simp only[toNat_natCast];with_reducible repeat' (first|exact pN|apply pP|apply pX<;>intro _)
 . refine pZ (d0d o n _ _ row r' h3) ?_
   rintro y ⟨r2,h4,rfl⟩;exact pP ⟨_,_,_,_,_,h4,rfl⟩
 . exact⟨_,_,_,_,h3,rfl⟩
theorem f4z(o n:Nat)(x y' z w:Int)(row r:List Int)(h:Fr o n row r) :
 Pf (j0k (((o:Int),(n:Int)),x,y',z,w,r,T,A,B,())) (λy=>∃(x y' a:Int) (r':List Int),Fr o n row r'/\y=(((o:Int),(n:Int)),x,y',a,r',T,A,B,())):=by
 refine pL ?I ?h _ ?hv
 case I=>exact(λv=>∃(x y' z w:Int) (r':List Int),Fr o n row r'/\v=(((o:Int),(n:Int)),x,y',z,w,r',T,A,B,()))
 case hv=>exact⟨_,_,_,_,_,h,rfl⟩
 rintro v ⟨x,y',z,w,r',h3,rfl⟩;unfold j8g;dsimp only;simp only[toNat_natCast];with_reducible repeat' (first|exact pN|apply pP|apply pX<;>intro _)
 . refine pZ (d0e o n _ _ _ row r' h3) ?_
   rintro y ⟨r2,h4,rfl⟩;exact pP ⟨_,_,_,_,_,h4,rfl⟩
 . exact⟨_,_,_,_,h3,rfl⟩
theorem m4b(o n:Nat)(x:Int)(row r:List Int)(h:Fr o n row r) :
 Pf (y5l (((o:Int),(n:Int)),x,r,T,A,B,())) (λy=>∃(r':List Int),Fr o n row r'/\y=(r',T,A,B,())):=by
 unfold y5l k5a;dsimp only;simp only[toNat_natCast];refine pZ (f4y o n _ _ _ _ row r h) ?_;rintro y ⟨x,z,a,r1,h3,rfl⟩;dsimp only;simp only[toNat_natCast];refine pZ (d0d o n _ _ row r1 h3) ?_;rintro y ⟨r2,h4,rfl⟩;dsimp only;refine pZ (P:=λy=>∃(r':List Int),Fr o n row r'/\y=(r',T,A,B,())) ?_ ?_
 . refine pL ?I ?h _ ?hv
   case I=>exact(λv=>∃(x bs:Int) (r':List Int),Fr o n row r'/\v=(((o:Int),(n:Int)),x,bs,r',T,A,B,()))
   case hv=>exact⟨_,_,r2,h4,rfl⟩
   rintro v ⟨x,bs,r',h7,rfl⟩;unfold j8h;dsimp only;simp only[toNat_natCast];with_reducible repeat' (first|exact pN|apply pP|apply pX<;>intro _)
   . refine pZ (f4z o n _ _ _ _ row r' h7) ?_
     rintro y ⟨x,bs,a,r3,h10,rfl⟩;dsimp only;simp only[toNat_natCast];with_reducible repeat' (first|exact pN|apply pP|apply pX<;>intro _)
     . refine pZ (d0e o n _ _ _ row r3 h10) ?_
       rintro y ⟨r4,h11,rfl⟩;exact pP ⟨_,_,_,h11,rfl⟩
     . exact⟨_,_,_,h10,rfl⟩
   . exact⟨_,h7,rfl⟩
 . rintro y ⟨r',h,rfl⟩
   exact pP ⟨_,h,rfl⟩
theorem m3x(o n:Nat)(row:List Int) :
 Pf (j6l (((o:Int),(n:Int)),row,T,A,B,())) (λy=>∃(r':List Int),Fr o n row r'/\y=(r',T,A,B,())):=by
 unfold j6l k4k;dsimp only;simp only[toNat_natCast];refine pZ (m4b o n _ row row k8z) ?_;rintro y ⟨r',h,rfl⟩;exact pP ⟨_,h,rfl⟩
structure KT (T:List R6) (A:List R4) (B:List R3):Prop where
 cl:∀x,kk x=true->xj (T,A,B,x,())=some (0,())
 lo:∀x,kk x=true->j4e (T,A,B,x,())=some (x,())
 ca:∀x,kk x=true->j4f (T,A,B,x,())=some (false,())
theorem f4s(f k:Int)(row:List Int) :
 Pf (ku (f,k,T,A,B,row,())) (λy=>∃(r':List Int),0<=f/\Fr f.toNat (k.toNat-f.toNat) row r'/\y=(IntKind.i64.wrap (k+1),k,T,A,B,r',())):=by
 unfold ku j7v;dsimp only;with_reducible repeat' (first|exact pN|apply pP|apply pX<;>intro _)
 rename_i h1 h2;refine pZ (m3x f.toNat (k.toNat-f.toNat) row) ?_;rintro y ⟨r',h,rfl⟩;exact pP ⟨_,h2.1,h,rfl⟩
theorem m3l(hK:KT T A B)(l:List Int)(hl:l.length<=35184372088832):Pf (y5h (T,A,B,l,())) (λy=>Rr l y.1):=by
 unfold y5h k3u;dsimp only;refine pZ (P:=λy=>y.1=l) ?_ ?_
 . unfold z2o
   dsimp only;with_reducible repeat' (first|exact pN|apply pP|apply pX<;>intro _)
   rfl
 rintro⟨l',u⟩ hl';dsimp only at hl' ⊢;subst hl';refine pZ (P:=λy=>Rr l' y.1) ?_ (λ_ h=>pP h);refine pL ?I ?h _ ?hv
 case I=>exact(λv=>∃(f:Int) (k:Int) (r':List Int),0<=f/\f<=k/\k<=l'.length+1/\r'.length=l'.length/\(∀(i:Nat) (x:Int),l'[i]? = some x->kk x=true->r'[i]? = some x)/\(∀i:Nat,f<=i->i<k->∀x,r'[i]? = some x->kk x=false)/\v=(f,k,T,A,B,r',()))
 case hv=>exact⟨0,0,l',Int.le_refl _,Int.le_refl _,by omega,rfl,λ_ _ h _=>h,λi _ h=>by omega,rfl⟩
 rintro v ⟨f,k,r',h1,h2,h3,h4,h5,h6,rfl⟩;unfold j7w;dsimp only;have jh:k<=r'.length->Pf ((ku (f,k,T,A,B,r',())).bind λval=>some (Sum.inl (val.fst,IntKind.i64.wrap (val.snd.fst+1),val.snd.snd.fst,val.snd.snd.snd.fst,val.snd.snd.snd.snd.fst,val.snd.snd.snd.snd.snd.fst,())))
  (Sum.elim (λv':Int×Int×List R6×List R4×List R3×List Int×Unit=>∃(f:Int) (k:Int) (r':List Int),0<=f/\f<=k/\k<=l'.length+1/\r'.length=l'.length/\(∀(i:Nat) (x:Int),l'[i]? = some x->kk x=true->r'[i]? = some x)/\(∀i:Nat,f<=i->i<k->∀x,r'[i]? = some x->kk x=false)/\v'=(f,k,T,A,B,r',())) (λy:List Int×Unit=>Rr l' y.1)):=by
  intro hk;refine pZ (f4s f k r') ?_;rintro y ⟨r2,h7,h8,rfl⟩;dsimp only;rw[qg (n:=k+1) (by omega)];refine pP ⟨_,_,_,by omega,Int.le_refl _,by omega,h8.1.trans h4,?_,λi _ _=>by omega,rfl⟩;intro i x hi hx;have hr:=h5 i x hi hx;rw[h8.2 i]
  . exact hr
  . by_cases hik:f<=i/\(i:Int)<k
    . have:=h6 i hik.1 hik.2 x hr
      rw[this]at hx;cases hx
    . omega
 with_reducible repeat' (first|exact pN|apply pP|apply pX<;>intro _)
 . rename_i h7 h8 h9
   refine pZ (pM (P:=λy=>kk (r'.getD k.toNat 0)=true->y.1=0) (λy e hk=>by
    rw[hK.cl _ hk]at e;cases e;rfl) λ_ h=>h) ?_
   rintro⟨c,u⟩ hc;dsimp only at hc ⊢;with_reducible repeat' (first|exact pN|apply pP|apply pX<;>intro _)
   . rename_i h10
     rw[qg (n:=k+1) (by omega)];refine⟨_,_,_,h1,by omega,by omega,h4,h5,λi hi hik x hx => ?_,rfl⟩;by_cases hlt:(i:Int)<k
     . exact h6 i hi hlt x hx
     . have hik':i=k.toNat:=by omega
       subst hik';cases hkx:kk x with
       | false=>rfl
       | true =>
        have:r'.getD k.toNat 0=x:=by rw[List.getD_eq_getElem?_getD,hx];rfl
        rw[this]at hc;have:=hc hkx;omega
   . exact jh (by omega)
 . exact jh (by omega)
 . exact Rr.pt h4 h5
end
theorem f4n(x:Int)(b:Bool):Pf (q1y (x,b,())) (Sum.elim (λy=>1<=y.1) (λ_=>True)):=by
 show Pf (q5f _) _;unfold q5f;dsimp only;with_reducible repeat' (first|exact pN|apply pP|apply pX<;>intro _)
 all_goals first|trivial|exact(by decide:(1:Int)<=2)|exact(by decide:(1:Int)<=3)
theorem f4o(x:Int)(b:Bool):Pf (q1z (x,b,())) (Sum.elim (λy=>1<=y.1) (λ_=>True)):=by
 show Pf (q5g q1y _) _;unfold q5g;dsimp only;with_reducible repeat' (first|exact pN|apply pP|apply pX<;>intro _)
 all_goals first|trivial|exact(by decide:(1:Int)<=1)|(refine pZ (f4n _ _) ?_;intro s hs;exact pS hs (λa ha=>pP ha) (λ_ _=>pP trivial))
theorem m2q(x:Int)(hx:0<=x):Pf (kp (x,())) (λy=>(y.1=0->x<128/\y.2.1=x)/\(0<y.1->128<=x)):=by
 show Pf (x7d q1z _) _;unfold x7d;dsimp only;with_reducible repeat' (first|exact pN|apply pP|apply pX<;>intro _)
 . rename_i h
   exact⟨λ_=>⟨h,k2c (by omega)⟩,λh=>by cases h⟩
 all_goals
  refine pZ (f4o _ _) ?_;intro s hs;exact pS hs (λa ha=>pP ⟨λh=>by have h':a.1=0:=h;have ha':1<=a.1:=ha;omega,λ_=>by omega⟩) (λ_ _=>pP ⟨λh=>(by cases h),λh=>by cases h⟩)
theorem g9l:((List.range 256).all λn => !(intBits BinOp.andNot IntKind.u8 (n:Int) 63==128)||decide (128<=n))=true:=by kernel_rfl
theorem k8c(c:UInt8)(h:intBits BinOp.andNot IntKind.u8 (c.toNat:Int) 63=128):128<=c.toNat:=by
 have:=all_eq_true.1 g9l c.toNat (List.mem_range.2 c.toNat_lt)
 rw[h]at this;simpa using this
theorem d0h(s:List UInt8)(n r at_:Int)(o:List Int)(h:0<=at_)(hn:0<=n/\n<=3)(hb:s.length<=1000000000000)(ha:at_<=s.length) :
 Pf (q3v (s,n,r,at_,at_+1,o,())) (Sum.elim (λy=>∃r',y=(s,n,r',at_,o,())/\(n=0->r'=r)/\∀j:Nat,at_+1<=j->j<=at_+n->128<=(s.getD j 0).toNat) (λy=>y.1=at_)):=by
 refine pL ?I ?h _ ?hv
 case I=>exact(λv=>∃(k r':Int),v=(s,n,r',at_,k,o,())/\at_+1<=k/\(n=0->r'=r)/\∀j:Nat,at_+1<=j->j<k->128<=(s.getD j 0).toNat)
 case hv=>exact⟨_,_,rfl,Int.le_refl _,λ_=>rfl,λj h1 h2=>by omega⟩
 rintro v ⟨k,r',rfl,h1,h2,h3⟩;unfold q3y;dsimp only;rw[qg (n:=at_+n) (by omega)];with_reducible repeat' (first|exact pN|apply pP|apply pX<;>intro _)
 . exact rfl
 . rename_i h4 h5 h6 h7
   rw[qg (n:=k+1) (by omega)];refine⟨_,_,rfl,by omega,λh0=>by omega,λj h8 h9 => ?_⟩;by_cases hjk:(j:Int)<k
   . exact h3 j h8 hjk
   . have hj:j=k.toNat:=by omega
     subst hj;exact k8c _ h6
 . exact⟨_,rfl,h2,λj h8 h9=>h3 j h8 (by omega)⟩
theorem v6c(s:List UInt8)(k m:Nat)(h:∀j,k<=j->j<k+m->128<=(s.getD j 0).toNat):∀x∈bi ((s.drop k).take m),kk x=false:=by
 intro x hx;obtain⟨c,hc,rfl⟩:=List.mem_map.1 hx;obtain⟨i,hi,rfl⟩:=List.mem_iff_getElem.1 hc;rw[length_take,length_drop]at hi;rw[List.getElem_take,List.getElem_drop];have:=h (k+i) (by omega) (by omega);rw[getD_lt (by omega)]at this;exact y3b (by omega)
theorem p83(s:List UInt8)(hb:s.length<=1000000000000):Pf (C83 (s,())) (λy=>y.2.1<0->Rr (bi s) y.1):=by
 show Pf (F83 kp xg q3u q8e _) _;unfold F83;dsimp only;refine pZ (P:=Sum.elim (λy=>Rr (bi s) y.1) (λy=>0<=y.1)) ?_ ?_
 . refine pL ?I ?h _ ?hv
   case I=>exact(λv=>∃(k:Int) (o:List Int),0<=k/\k<=s.length/\Rr (bi (s.take k.toNat)) o/\v=(s,k,o,()))
   case hv=>exact⟨0,[],Int.le_refl _,by omega,Rr.refl _,rfl⟩
   rintro v ⟨k,o,h0,h1,h2,rfl⟩;unfold kh;dsimp only;with_reducible repeat' (first|exact pN|apply pP|apply pX<;>intro _)
   . rename_i h3 h4
     have hlt:k.toNat<s.length:=by omega
     refine pZ (pA (b3e _).pf (m2q _ (by omega))) ?_;rintro⟨n,r,u⟩ ⟨hn,hn0,hn1⟩;dsimp only at hn hn0 hn1 ⊢;rw[qg (n:=(s.length:Int)-k) (by omega)];with_reducible repeat' (first|exact pN|apply pP|apply pX<;>intro _)
     . exact h0
     . exact h0
     . rename_i h5 h6
       rw[qg (n:=k+1) (by omega)];refine pZ (d0h s n r k o h0 (by omega) hb h1) ?_;intro z hz;refine pS hz ?_ ?_
       . rintro y ⟨r',rfl,h7,h8⟩
         dsimp only;refine pZ pT ?_;rintro⟨m,u⟩ -
         dsimp only;rw[qg (n:=n+1) (by omega),qg (n:=k+(n+1)) (by omega)];with_reducible repeat' (first|exact pN|apply pP|apply pX<;>intro _)
         . exact h0
         . refine⟨_,_,by omega,by omega,?_,rfl⟩
           have e:s.take (k+(n+1)).toNat=s.take k.toNat++(s.drop k.toNat).take (n+1).toNat:=by
            rw[show (k+(n+1)).toNat=k.toNat+(n+1).toNat by omega,List.take_add]
           rw[e,xq];by_cases hz:n=0
           . have h9:=hn0 hz
             have e2:(s.drop k.toNat).take (n+1).toNat=[s[k.toNat]]:=by
              rw[show (n+1).toNat=1 by omega,List.drop_eq_getElem_cons hlt];rfl
             rw[e2];refine ap _ _ h2 λ_ => ?_;rw[h7 hz,h9.2,getD_lt hlt]
           . refine apn _ _ h2 ?_ (v6c s k.toNat (n+1).toNat λj hj1 hj2 => ?_)
             . intro he
               have:=congrArg List.length he;simp only[bi,List.length_map,length_take,length_drop,length_nil]at this;omega
             . by_cases hjk:j=k.toNat
               . subst hjk
                 have:=hn1 (by omega);omega
               . exact h8 j (by omega) (by omega)
       . rintro⟨a,b,u⟩ ha
         dsimp only at ha ⊢;exact pP (by rw[ha];exact h0)
   . rw[take_of_length_le (by omega)]at h2
     exact h2
 . intro r hr
   refine pS hr ?_ ?_
   . rintro⟨a,u⟩ ha
     exact pP λ_=>ha
   . rintro⟨a,b,u⟩ ha
     exact pP λh=>by
      have h':a<0:=h;have ha':0<=a:=ha;omega
theorem m2r(x:Int):Pf (xg (x,())) (λy=>(y.1=1->0<=x/\x<=127)/\(y.1≠1->y.1=0\/127<x)):=by
 show Pf (y1a xi _) _;unfold y1a;dsimp only;refine pZ (k8m x).pf ?_;rintro⟨b,u⟩ hb;dsimp only at hb ⊢;with_reducible repeat' (first|exact pN|apply pP|apply pX<;>intro _)
 all_goals (dsimp only;refine⟨λh => ?_,λh => ?_⟩;all_goals first|omega|(have:=hb (by assumption);omega)|(cases h))
theorem bi1{r:Int}(h0:0<=r)(h1:r<=127):bi [UInt8.ofNat (IntKind.u8.wrap r).toNat]=[r]:=by
 have e:(UInt8.ofNat (IntKind.u8.wrap r).toNat).toNat=r.toNat:=by
  rw[w5z,UInt8.toNat_ofNat'];omega
 unfold bi;rw[List.map_cons,List.map_nil,e];congr 1;omega
theorem f4q(l:List Int)(hb:l.length<=20000000000000):Pf (z5p (l,())) (λy=>(y.2.1=true->Rr l (bi y.1))/\(y.2.1=false->y.1=[])):=by
 show Pf (x7n xg q9p _) _;unfold x7n;dsimp only;refine pZ (P:=Sum.elim (λy=>Rr l (bi y.1)) (λy=>y.1=[]/\y.2.1=false)) ?_ ?_
 . refine pL ?I ?h _ ?hv
   case I=>exact(λv=>∃(k:Int) (o:List UInt8),0<=k/\k<=l.length/\Rr (l.take k.toNat) (bi o)/\v=(l,(l.length:Int),k,o,()))
   case hv=>exact⟨0,[],Int.le_refl _,by omega,Rr.refl _,rfl⟩
   rintro v ⟨k,o,h0,h1,h2,rfl⟩;unfold j7q;dsimp only;with_reducible repeat' (first|exact pN|apply pP|apply pX<;>intro _)
   . rename_i h3 h4
     have hlt:k.toNat<l.length:=by omega
     refine pZ (m2r _) ?_;rintro⟨m,u⟩ ⟨hm1,hm2⟩;dsimp only at hm1 hm2 ⊢;have jh:∀ys:List UInt8,(kk (l.getD k.toNat 0)=true->bi ys=[l.getD k.toNat 0])->∃(k':Int) (o':List UInt8),0<=k'/\k'<=l.length/\Rr (l.take k'.toNat) (bi o')/\(l,(l.length:Int),IntKind.i64.wrap (k+1),o++ys,())=(l,(l.length:Int),k',o',()):=by
      intro ys hys;rw[qg (n:=k+1) (by omega)];refine⟨_,_,by omega,by omega,?_,rfl⟩;rw[show (k+1).toNat=k.toNat+1 by omega,qk hlt,xq];rw[getD_lt hlt]at hys;exact ap _ _ h2 hys
     have hi:127<l.getD k.toNat 0->kk (l.getD k.toNat 0)=true->∀ys:List UInt8,bi ys=[l.getD k.toNat 0]:=λh hk=>by
      have:=(q4m _).1 hk;omega
     with_reducible repeat' (first|exact pN|apply pP|apply pX<;>intro _)
     . exact⟨rfl,rfl⟩
     . rename_i h5 h6 _
       have:=hm1 h6;exact jh _ λ_=>bi1 this.1 this.2
     . rename_i h5 h6 h7 _
       exact jh _ λhk=>hi (by have:=hm2 h6;omega) hk _
     . rename_i h5 h6 h7 h8 _
       exact jh _ λhk=>hi (by have:=hm2 h6;omega) hk _
     . rename_i h5 h6 h7 h8 h9 _
       exact jh _ λhk=>hi (by have:=hm2 h6;omega) hk _
     . rename_i h5 h6 h7 h8 h9
       have:=jh [] λhk=>hi (by have:=hm2 h6;omega) hk _;rw[List.append_nil]at this;exact this
   . rw[take_of_length_le (by omega)]at h2
     exact h2
 . intro r hr
   refine pS hr ?_ ?_
   . rintro⟨a,u⟩ ha
     exact pP ⟨λ_=>ha,λh=>by cases h⟩
   . rintro⟨a,b,u⟩ ⟨ha,hb⟩
     exact pP ⟨λh=>(by rw[hb]at h;cases h),λ_=>ha⟩
section
variable {T:List R6} {A:List R4} {B:List R3}
theorem m3g(r:Int):Pf (z2n (T,A,B,r,())) (λy=>kk r=true->y.1=r):=by
 show Pf (x7r zu _) _;unfold x7r;dsimp only;with_reducible repeat' (first|exact pN|apply pP|apply pX<;>intro _)
 . exact λ_=>rfl
 . exact λ_=>rfl
 . exact pZ pT λ_ _=>pP λhk=>by have:=(q4m _).1 hk;omega
theorem m3f(l:List Int)(hl:l.length<=1000000000000):Pf (x6o (l,T,A,B,())) (λy=>Rr l y.1):=by
 show Pf (x7q z2n q9s _) _;unfold x7q;dsimp only;refine pZ (P:=λy=>Rr l y.1) ?_ (λ_ h=>pP h);refine pL ?I ?h _ ?hv
 case I=>exact(λv=>∃(k:Int) (o:List Int),0<=k/\k<=l.length/\Rr (l.take k.toNat) o/\v=(T,A,B,l,(l.length:Int),k,o,()))
 case hv=>exact⟨0,[],Int.le_refl _,by omega,Rr.refl _,rfl⟩
 rintro v ⟨k,o,h0,h1,h2,rfl⟩;unfold j7r;dsimp only;with_reducible repeat' (first|exact pN|apply pP|apply pX<;>intro _)
 . have hlt:k.toNat<l.length:=by omega
   refine pZ (m3g _) ?_;rintro⟨m,u⟩ hm;dsimp only at hm ⊢;rw[qg (n:=k+1) (by omega)];with_reducible repeat' (first|exact pN|apply pP|apply pX<;>intro _)
   refine⟨_,_,by omega,by omega,?_,rfl⟩;rw[show (k+1).toNat=k.toNat+1 by omega,qk hlt];rw[getD_lt hlt]at hm;exact ap _ _ h2 λhk=>by rw[hm hk]
 . rw[take_of_length_le (by omega)]at h2
   exact h2
theorem f4r(hK:KT T A B)(l:List Int)(hl:l.length<=1000000000000):Pf (j4d (l,T,A,B,())) (λy=>Rr l y.1):=by
 show Pf (j4l j4e q1j _) _;unfold j4l;dsimp only;refine pZ (P:=λy=>Rr l y.1) ?_ (λ_ h=>pP h);refine pL ?I ?h _ ?hv
 case I=>exact(λv=>∃(k:Int) (o:List Int),0<=k/\k<=l.length/\Rr (l.take k.toNat) o/\v=(T,A,B,l,(l.length:Int),k,o,()))
 case hv=>exact⟨0,[],Int.le_refl _,by omega,Rr.refl _,rfl⟩
 rintro v ⟨k,o,h0,h1,h2,rfl⟩;unfold q5n;dsimp only;with_reducible repeat' (first|exact pN|apply pP|apply pX<;>intro _)
 . have hlt:k.toNat<l.length:=by omega
   refine pZ (P:=λy=>kk (l.getD k.toNat 0)=true->y.1=l.getD k.toNat 0) (λy e hk=>by rw[hK.lo _ hk]at e;cases e;rfl) ?_;rintro⟨m,u⟩ hm;dsimp only at hm ⊢;rw[qg (n:=k+1) (by omega)];with_reducible repeat' (first|exact pN|apply pP|apply pX<;>intro _)
   refine⟨_,_,by omega,by omega,?_,rfl⟩;rw[show (k+1).toNat=k.toNat+1 by omega,qk hlt];rw[getD_lt hlt]at hm;exact ap _ _ h2 λhk=>by rw[hm hk]
 . rw[take_of_length_le (by omega)]at h2
   exact h2
theorem m3a(l:List Int)(hl:l.length<=1000000000000):Pf (x6n (T,A,B,l,())) (λy=>Rr l y.1):=by
 unfold x6n v4d;dsimp only;exact pZ (m3f l hl) λ_ h=>pP h
theorem m2z(hK:KT T A B)(l:List Int)(hl:l.length<=1000000000000):Pf (x6m (T,A,B,l,())) (λy=>Rr l y.1):=by
 unfold x6m v4c;dsimp only;exact pZ (f4r hK l hl) λ_ h=>pP h
theorem k1q:(qy.all λs => !kk s.1)=true:=by kernel_rfl
theorem f5i:((qy.filter λs => !s.2.2.2.1 && !s.2.2.2.2).all λs => !kk s.2.1 && !kk s.2.2.1)=true:=by kernel_rfl
theorem b2t{r:Int}(hk:kk r=true):zu (T,A,B,r,())=some (0,0,0,false,false,false,()):=by
 have h:=(q4m r).1 hk;unfold zu;dsimp only;have e:(decide (65281<=r)&&decide (r<=65374))=false:=by simp;omega
 rw[e];have hs:q2y r=none:=by
  unfold q2y;rw[List.find?_eq_none];intro s hs he;have h1:=all_eq_true.1 k1q s hs;have h2:r=s.1:=by simpa using he
  rw[<-h2,hk]at h1;cases h1
 rw[hs];rfl
theorem w5l(a b c:Int):Pf (yg (a,b,c,())) (λy=>y.1=true->b<=a):=by
 show Pf (y1b _) _;unfold y1b;dsimp only;with_reducible repeat' (first|exact pN|apply pP|apply pX<;>intro _)
 . exact λ_=>by omega
 . exact λh=>by cases h
theorem b3a{r:Int}(hk:kk r=true):yg (r,44032,11172,())=some (false,()):=by
 have h:=(q4m r).1 hk;show y1b _=_;unfold y1b;dsimp only;rw[decide_eq_false (by omega)];rfl
theorem m3y(r:Int)(sf:Bool):Pf (z2p (T,A,B,r,sf,())) (λy=>kk r=true->y.1=[r]):=by
 show Pf (q1s (λG=>j4m zu G yg kf vw (yq zu G yg kf vw)) qz _) _;refine pRn (P:=λ(v:List R6×List R4×List R3×Int×Bool×Unit) (y:List Int×Unit)=>kk v.2.2.2.1=true->y.1=[v.2.2.2.1]) ?_ qz _;rintro G - ⟨T,A,B,r,sf,u⟩;by_cases hk:kk r=true
 . show Pf (j4m zu G yg kf vw (yq zu G yg kf vw) (T,A,B,r,sf,())) _
   unfold j4m;dsimp only;simp only[b2t hk,Option.bind_some,b3a hk,Bool.not_false,cond_true,cond_false];unfold yq;dsimp only;simp only[cond_true,Option.bind_some,Sum.elim_inl];exact pP λ_=>rfl
 . exact pM pT λ_ _ h=>absurd h hk
theorem m3m(l:List Int)(sf:Bool)(hl:l.length<=100000000000):Pf (v1u (T,A,B,l,sf,())) (λy=>Rr l y.1):=by
 show Pf (x7s z2p q9w _) _;unfold x7s;dsimp only;refine pZ (P:=λy=>Rr l y.1) ?_ (λ_ h=>pP h);refine pL ?I ?h _ ?hv
 case I=>exact(λv=>∃(k:Int) (o:List Int),0<=k/\k<=l.length/\Rr (l.take k.toNat) o/\v=(sf,l,(l.length:Int),k,T,A,B,o,()))
 case hv=>exact⟨0,[],Int.le_refl _,by omega,Rr.refl _,rfl⟩
 rintro v ⟨k,o,h0,h1,h2,rfl⟩;unfold j7x;dsimp only;with_reducible repeat' (first|exact pN|apply pP|apply pX<;>intro _)
 . have hlt:k.toNat<l.length:=by omega
   refine pZ (m3y _ _) ?_;rintro⟨z,u⟩ hz;dsimp only at hz ⊢;rw[qg (n:=k+1) (by omega)];with_reducible repeat' (first|exact pN|apply pP|apply pX<;>intro _)
   refine⟨_,_,by omega,by omega,?_,rfl⟩;rw[show (k+1).toNat=k.toNat+1 by omega,qk hlt];rw[getD_lt hlt]at hz;exact ap _ _ h2 hz
 . rw[take_of_length_le (by omega)]at h2
   exact h2
theorem m4c(a b:Int):Pf (q3s (T,A,B,a,b,())) (λy=>y.2.1=true->kk a=false/\kk b=false):=by
 unfold q3s;dsimp only;cases hp:z2d a b with
 | none=>exact pP λh=>by cases h
 | some s =>
  refine pP λ_ => ?_;unfold z2d at hp;have h1:=all_eq_true.1 f5i s (List.mem_of_find?_eq_some hp);have h2:=List.find?_some hp;simp only[and_eq_true,beq_iff_eq,Bool.not_eq_true']at h1 h2;rw[h2.1,h2.2];exact h1
theorem f4w(a b:Int)(f:Bool)(hf:f=true->128<=a/\128<=b):Pf (kw (a,b,f,T,A,B,())) (Sum.elim (λy=>y.2.1=true->kk a=false/\kk b=false) (λy=>y=(a,b,T,A,B,()))):=by
 show Pf (q5p yg q3s _) _;unfold q5p;dsimp only;with_reducible repeat' (first|exact pN|apply pP|apply pX<;>intro _)
 . rename_i h
   have:=hf h;exact λ_=>⟨y3b this.1,y3b this.2⟩
 . refine pZ (w5l _ _ _) ?_
   rintro⟨z,u⟩ hz;dsimp only at hz ⊢;with_reducible repeat' (first|exact pN|apply pP|apply pX<;>intro _)
   . rename_i h1 h2
     have h3:=hz h1;refine pZ (w5l _ _ _) ?_;rintro⟨z,u⟩ hz';dsimp only at hz' ⊢;with_reducible repeat' (first|exact pN|apply pP|apply pX<;>intro _)
     . rename_i h4
       have h5:=hz' h4;exact λ_=>⟨y3b (by omega),y3b (by omega)⟩
     . exact rfl
   all_goals exact rfl
theorem m3z(a b:Int):Pf (j0f (T,A,B,a,b,())) (λy=>y.2.1=true->kk a=false/\kk b=false):=by
 show Pf (x7v yg q3s kw _) _;unfold x7v;dsimp only;have jh:∀f,(f=true->128<=a/\128<=b)->Pf ((kw (a,b,f,T,A,B,())).bind λval=>Sum.elim (λval=>some (val.fst,val.snd.fst,())) (λval=>(q3s (val.snd.snd.fst,val.snd.snd.snd.fst,val.snd.snd.snd.snd.fst,val.fst,val.snd.fst,())).bind λval=>some (val.fst,val.snd.fst,())) val) (λy=>y.2.1=true->kk a=false/\kk b=false):=by
  intro f hf;refine pZ (f4w a b f hf) ?_;intro z hz;refine pS hz ?_ ?_
  . rintro⟨y1,y2,u⟩ h
    exact pP h
  . rintro y rfl
    refine pZ (m4c a b) ?_;rintro⟨y1,y2,u⟩ h;exact pP h
 refine pZ (w5l _ _ _) ?_;rintro⟨z,u⟩ hz;dsimp only at hz ⊢;with_reducible repeat' (first|exact pN|apply pP|apply pX<;>intro _)
 . rename_i h1
   have h2:=hz h1;refine pZ (w5l _ _ _) ?_;rintro⟨z,u⟩ hz';dsimp only at hz' ⊢;exact jh _ λh=>⟨by omega,by have:=hz' h;omega⟩
 . exact jh _ λh=>by cases h
theorem f4t(x0 x1 x2 x3:Int)(x4:List Int)(x5 x6:Int)(x7:Bool)(x8:List R6)(x9:List R4)(x10:List R3)(x11:List Int) :
 Pf (q2e (x0,x1,x2,x3,x4,x5,x6,x7,x8,x9,x10,x11,())) (Sum.elim (λy=>∃v,kk (x11.getD x0.toNat 0)=false/\kk x2=false/\y=(x0,x1,x4,x5,x6,x8,x9,x10,x11.set x0.toNat v,())) (λy=>y=(x0,x1,x2,x3,x4,x5,x6,x8,x9,x10,x11,()))):=by
 show Pf (q5o xj j0f _) _;unfold q5o;dsimp only;with_reducible repeat' (first|exact pN|apply pP|apply pX<;>intro _)
 . refine pZ (m3z _ _) ?_
   rintro⟨a,b,u⟩ hab;dsimp only at hab ⊢;with_reducible repeat' (first|exact pN|apply pP|apply pX<;>intro _)
   . rename_i h1 _
     have:=hab h1;exact⟨_,this.1,this.2,rfl⟩
   . exact rfl
 . exact rfl
theorem m3n(l:List Int)(hl:l.length<=10000000000000):Pf (v1v (T,A,B,l,())) (λy=>Rr l y.1):=by
 show Pf (x7t xj j0f q9x _) _;unfold x7t;dsimp only;refine pZ (P:=λy=>Rr l y.1) ?_ (λ_ h=>pP h);refine pL ?I ?h _ ?hv
 case I=>exact(λv=>∃(st la k:Int) (o:List Int),0<=k/\k<=l.length/\Rr (l.take k.toNat) o/\v=(st,la,l,(l.length:Int),k,T,A,B,o,()))
 case hv=>exact⟨-1,0,0,[],Int.le_refl _,by omega,Rr.refl _,rfl⟩
 rintro v ⟨st,la,k,o,h0,h1,h2,rfl⟩;have jh:∀(cl:Int) (f:Bool),k<l.length->Pf ((q2e (st,la,l.getD k.toNat 0,cl,l,(l.length:Int),k,f,T,A,B,o,())).bind λval =>
  Sum.elim (λval=>some (Sum.inl (val.fst,val.snd.fst,val.snd.snd.fst,val.snd.snd.snd.fst,IntKind.i64.wrap (val.snd.snd.snd.snd.fst+1),val.snd.snd.snd.snd.snd.fst,val.snd.snd.snd.snd.snd.snd.fst,val.snd.snd.snd.snd.snd.snd.snd.fst,val.snd.snd.snd.snd.snd.snd.snd.snd.fst,())))
   (λval=>bif decide (List.length val.snd.snd.snd.snd.snd.snd.snd.snd.snd.snd.fst+[val.snd.snd.fst].length<=140737488355328/4)then
    bif val.snd.snd.snd.fst==0 then some (Sum.inl (IntKind.i64.wrap ((↑(val.snd.snd.snd.snd.snd.snd.snd.snd.snd.snd.fst++[val.snd.snd.fst]).length:Int)-1),0,val.snd.snd.snd.snd.fst,val.snd.snd.snd.snd.snd.fst,IntKind.i64.wrap (val.snd.snd.snd.snd.snd.snd.fst+1),val.snd.snd.snd.snd.snd.snd.snd.fst,val.snd.snd.snd.snd.snd.snd.snd.snd.fst,val.snd.snd.snd.snd.snd.snd.snd.snd.snd.fst,val.snd.snd.snd.snd.snd.snd.snd.snd.snd.snd.fst++[val.snd.snd.fst],()))
    else some (Sum.inl (val.fst,if val.snd.snd.snd.fst>val.snd.fst then val.snd.snd.snd.fst else val.snd.fst,val.snd.snd.snd.snd.fst,val.snd.snd.snd.snd.snd.fst,IntKind.i64.wrap (val.snd.snd.snd.snd.snd.snd.fst+1),val.snd.snd.snd.snd.snd.snd.snd.fst,val.snd.snd.snd.snd.snd.snd.snd.snd.fst,val.snd.snd.snd.snd.snd.snd.snd.snd.snd.fst,val.snd.snd.snd.snd.snd.snd.snd.snd.snd.snd.fst++[val.snd.snd.fst],()))
    else none) val)
  (Sum.elim (λv':Int×Int×List Int×Int×Int×List R6×List R4×List R3×List Int×Unit=>∃(st la k:Int) (o:List Int),0<=k/\k<=l.length/\Rr (l.take k.toNat) o/\v'=(st,la,l,(l.length:Int),k,T,A,B,o,())) (λy:List Int×Unit=>Rr l y.1)):=by
  intro cl f hlt;have hlt':k.toNat<l.length:=by omega
  refine pZ (f4t _ _ _ _ _ _ _ _ _ _ _ _) ?_;intro z hz;refine pS hz ?_ ?_
  . rintro y ⟨v,h3,h4,rfl⟩
    dsimp only;rw[qg (n:=k+1) (by omega)];refine pP ⟨_,_,_,_,by omega,by omega,?_,rfl⟩;rw[show (k+1).toNat=k.toNat+1 by omega,qk hlt'];rw[getD_lt hlt']at h4;exact Rr.set _ h2 h4 _ _ h3
  . rintro y rfl
    dsimp only;rw[qg (n:=k+1) (by omega)];with_reducible repeat' (first|exact pN|apply pP|apply pX<;>intro _)
    all_goals
     refine⟨_,_,_,_,by omega,by omega,?_,rfl⟩;rw[show (k+1).toNat=k.toNat+1 by omega,qk hlt',getD_lt hlt'];exact ap _ _ h2 λ_=>rfl
 unfold j7y;dsimp only;with_reducible repeat' (first|exact pN|apply pP|apply pX<;>intro _)
 . rename_i h4 h5
   refine pZ pT ?_;rintro⟨cl,u⟩ -
   dsimp only;with_reducible repeat' (first|exact pN|apply pP|apply pX<;>intro _)
   all_goals exact jh _ _ (by omega)
 . rw[take_of_length_le (by omega)]at h2
   exact h2
theorem m3h(h:TK T A B)(hK:KT T A B)(s:List UInt8)(a:Bool)(hs:s.length<=100000000000):Pf (y5e (T,A,B,s,a,true,())) (λy=>y.2.1=true->Rr (bi s) (bi y.1)):=by
 unfold y5e k3k;dsimp only;refine pZ (pA (d83 s (by omega)).pf (p83 s (by omega))) ?_;rintro⟨l,at_,u⟩ ⟨hl,hl'⟩;dsimp only at hl hl' ⊢;with_reducible repeat' (first|exact pN|apply pP|apply pX<;>intro _)
 . exact λh=>by cases h
 . rename_i hat
   have r1:=hl' (by omega);refine pZ (pA (b3s T A B l a (by omega)).pf (m3m l a (by omega))) ?_;rintro⟨l2,u⟩ ⟨h2,r2⟩;dsimp only at h2 r2 ⊢;refine pZ (pA (b3r h.a l2 (by omega)).pf (m3l hK l2 (by omega))) ?_;rintro⟨l3,u⟩ ⟨h3,r3⟩;dsimp only at h3 r3 ⊢;refine pZ (pA (b3t T A B l3 (by omega) h.a).pf (m3n l3 (by omega))) ?_;rintro⟨l4,u⟩ ⟨h4,r4⟩;dsimp only at h4 r4 ⊢;refine pZ (f4q l4 (by omega)) ?_;rintro⟨s5,b5,u⟩ ⟨h5,-⟩;exact pP λhb=>((r1.trans r2).trans (r3.trans r4)).trans (h5 hb)
theorem m3b(h:TK T A B)(hK:KT T A B)(s:List UInt8)(hs:s.length<=100000000000):Pf (z5q (T,A,B,s,())) (λy=>y.2.1=true->Rr (bi s) (bi y.1)):=by
 unfold z5q k3f;dsimp only;refine pZ (m3h h hK s false hs) ?_;rintro⟨x,b,u⟩ hx;exact pP hx
theorem d0a(h:TK T A B)(hK:KT T A B)(s:List UInt8)(hs:s.length<=10000000000):Pf (j9m (T,A,B,s,())) (λy=>y.2.1=true->y.1=[]\/Rr (bi s) (bi y.1)):=by
 unfold j9m v4a;dsimp only;refine pZ (pA (d83 s (by omega)).pf (p83 s (by omega))) ?_;rintro⟨l,at_,u⟩ ⟨hl,hl'⟩;dsimp only at hl hl' ⊢;with_reducible repeat' (first|exact pN|apply pP|apply pX<;>intro _)
 . exact λh=>by cases h
 . have r1:=hl' (by omega)
   refine pZ (pA (b3k T A B l (by omega)).pf (m3a l (by omega))) ?_;rintro⟨l2,u⟩ ⟨h2,r2⟩;dsimp only at h2 r2 ⊢;refine pZ (pA (b3j T A B h.b l2 (by omega)).pf (m2z hK l2 (by omega))) ?_;rintro⟨l3,u⟩ ⟨h3,r3⟩;dsimp only at h3 r3 ⊢;refine pZ (pA (v0k l3 (by omega)).pf (f4q l3 (by omega))) ?_;rintro⟨s4,b4,u⟩ ⟨h4,h5,h6⟩;dsimp only at h4 h5 h6 ⊢;refine pZ (pA (f0a h s4 (by omega)).pf (m3b h hK s4 (by omega))) ?_;rintro⟨s5,b5,u⟩ ⟨h7,h8⟩;refine pP λhb => ?_;dsimp only at h7 h8 hb ⊢;cases b4 with
   | true=>exact .inr ((r1.trans r2).trans ((r3.trans (h5 rfl)).trans (h8 hb)))
   | false =>
    rw[h6 rfl]at h7;exact .inl (List.eq_nil_of_length_eq_zero (by simpa using h7))
end
end Go.Proofs.YtiacnhhmkdkpmaaGreatDoorC.W
