/- The texts of the proof, one behind the other: W3, W4, W5, W6, W7, XDom. -/
import Derived.Test.YtbifjondkjgkmaaGreatDoorAMp4
import Derived.RangeFuncBox
import Derived.OwnWalkIn
import Derived.TacticsInMore
import Derived.LoopNIn
import Derived.LoopIn
import Derived.Sort.LoopGhostIn
import Derived.Maps.AppendAt
set_option maxRecDepth 100000
set_option linter.unusedVariables false
namespace Go.Proofs.YtbifjondkjgkmaaGreatDoorA.W
open Go Go.Ae
abbrev T12_l0:=LqS×Int×Int×Unit→Option (Unit⊕(Int×Unit))
def E12_l0 (f:T12_l0):LEnt:=⟨Li113,Lo114,f⟩
abbrev T12:=LqS×Unit→Option (Int×Unit)
def E12 (f:T12):FEnt:=⟨Li28,Lo10,f⟩
def F12_l0:LpF (LqS×Int×Int×Unit) (Unit⊕(Int×Unit)):=fun (x0,x1,x2,_)=>bif decide (x2<x1) then bif decide (0≤x2)&&decide (x2<(↑x0.length:Int)) then bif decide ((↑(x0.getD x2.toNat 0).toNat:Int)≥128) then some (Sum.inr (Sum.inr (x2,()))) else some (Sum.inl (x0,x1,IntKind.i64.wrap (x2+1),())) else none else some (Sum.inr (Sum.inl ()))
def C12_l0:T12_l0:=loopN (F12_l0) big
theorem k12_l0:LpOk 0 (subc (code Tryz.f12) [1,0,1,0,0]) (E12_l0 C12_l0):=zl0 Li113 Lo114 KqZ F12_l0 kn
def N12 (f12_l0:T12_l0):Ann:=(.seq .nil (.seq (.seq .nil (.blk (.loop (E12_l0 f12_l0)))) .nil))
def F12 (f12_l0:T12_l0):T12:=fun (x0,_)=>(f12_l0 (x0,(↑x0.length:Int),0,())).bind fun v=>Sum.elim (fun v=>some (-1,())) (fun v=>some (v.1,())) v
def C12:T12:=F12 C12_l0
theorem ok12:FO 12 (E12 C12):=zq0_1 Li28 Lo10 KqZ N12 F12 C12_l0 kn Tryz.func12 (And.intro k12_l0 trivial)
abbrev T92:=LqS×LqS×Unit→Option (Bool×Unit)
def E92 (f:T92):FEnt:=⟨Li112,Lo27,f⟩
def F92:T92:=fun (x0,x1,_)=>bif decide ((↑x0.length:Int)≥(↑x1.length:Int)) then bif decide (0≤(↑x1.length:Int))&&decide ((↑x1.length:Int)≤(↑x0.length:Int)) then some (List.take (↑x1.length:Int).toNat x0==x1,()) else none else some (false,())
def C92:T92:=F92
theorem ok92:FO 92 (E92 C92):=zq0 Li112 Lo27 KqZ F92 kn Tryz.func92
abbrev T189:=LqS×LqS×Unit→Option (LqS×Bool×Unit)
def E189 (f:T189):FEnt:=⟨Li112,Lo49,f⟩
def K189 (f92:T92):=lk [(92,E92 f92)]
def F189 (f92:T92):T189:=fun (x0,x1,_)=>(f92 (x0,x1,())).bind fun v=>bif !v.1 then some (x0,false,()) else bif decide (0≤(↑x1.length:Int))&&decide ((↑x1.length:Int)≤(↑x0.length:Int)) then some (List.drop (↑x1.length:Int).toNat x0,true,()) else none
def C189:T189:=F189 C92
theorem ok189:FO 189 (E189 C189):=zq1 Li112 Lo49 K189 F189 C92 (kc ok92 kn) Tryz.func189
abbrev T156:=LqS×LqS×Unit→Option (LqS×Bool×Unit)
def E156 (f:T156):FEnt:=⟨Li112,Lo49,f⟩
def K156 (f189:T189):=lk [(189,E189 f189)]
def F156 (f189:T189):T156:=fun (x0,x1,_)=>(f189 (x0,x1,())).bind fun v=>some (v.1,v.2.1,())
def C156:T156:=F156 C189
theorem ok156:FO 156 (E156 C156):=zq1 Li112 Lo49 K156 F156 C189 (kc ok189 kn) Tryz.func156
abbrev T190_l0:=Int×Int×List (Int)×Int×Int×Unit→Option (Int×Unit)
def E190_l0 (f:T190_l0):LEnt:=⟨Li116,Lo117,f⟩
abbrev T190:=List (Int)×Int×Unit→Option (Int×Unit)
def E190 (f:T190):FEnt:=⟨Li115,Lo36,f⟩
def F190_l0:LpF (Int×Int×List (Int)×Int×Int×Unit) (Int×Unit):=fun (x0,x1,x2,x3,x4,_)=>bif decide (x4<x3) then bif decide (0≤x4)&&decide (x4<(↑x2.length:Int)) then bif decide (x2.getD x4.toNat 0≥x0) then bif decide (x1<0) then some (Sum.inl (x0,x2.getD (x4.toNat) 0,x2,x3,IntKind.i64.wrap (x4+1),())) else bif decide (x2.getD x4.toNat 0<x1) then some (Sum.inl (x0,x2.getD (x4.toNat) 0,x2,x3,IntKind.i64.wrap (x4+1),())) else some (Sum.inl (x0,x1,x2,x3,IntKind.i64.wrap (x4+1),())) else some (Sum.inl (x0,x1,x2,x3,IntKind.i64.wrap (x4+1),())) else none else some (Sum.inr (x1,()))
def C190_l0:T190_l0:=loopN (F190_l0) big
theorem k190_l0:LpOk 0 (subc (code Tryz.f190) [1,1,0,1,0,0]) (E190_l0 C190_l0):=zl0 Li116 Lo117 KqZ F190_l0 kn
def N190 (f190_l0:T190_l0):Ann:=(.seq .nil (.seq .nil (.seq (.seq .nil (.blk (.loop (E190_l0 f190_l0)))) .nil)))
def F190 (f190_l0:T190_l0):T190:=fun (x0,x1,_)=>(f190_l0 (x1,-1,x0,(↑x0.length:Int),0,())).bind fun v=>some (v.1,())
def C190:T190:=F190 C190_l0
theorem ok190:FO 190 (E190 C190):=zq0_1 Li115 Lo36 KqZ N190 F190 C190_l0 kn Tryz.func190 (And.intro k190_l0 trivial)
abbrev T233:=Int×Int×Unit→Option (Int×Unit)
def E233 (f:T233):FEnt:=⟨Li118,Lo10,f⟩
def F233:T233:=fun (x0,x1,_)=>some (if (if 26<IntKind.i64.wrap (x0-x1) then 26 else IntKind.i64.wrap (x0-x1))>1 then if 26<IntKind.i64.wrap (x0-x1) then 26 else IntKind.i64.wrap (x0-x1) else 1,())
def C233:T233:=F233
theorem ok233:FO 233 (E233 C233):=zq0 Li118 Lo10 KqZ F233 kn Tryz.func233
abbrev T234_c0:=Int×Bool×Unit→Option ((Int×Bool×Unit)⊕Unit)
def E234_c0 (f:T234_c0):LEnt:=⟨Li121,Lo122,f⟩
abbrev T234:=Int×Unit→Option (Int×Bool×Unit)
def E234 (f:T234):FEnt:=⟨Li119,Lo120,f⟩
def F234_c0:T234_c0:=fun (x0,x1,_)=>bif x1 then some (Sum.inl (IntKind.u8.wrap (97+IntKind.u8.wrap x0),true,())) else bif decide (x0≥26) then bif decide (x0<36) then some (Sum.inl (IntKind.u8.wrap (48+IntKind.u8.wrap (IntKind.i64.wrap (x0-26))),true,())) else some (Sum.inr ()) else some (Sum.inr ())
def C234_c0:T234_c0:=F234_c0
theorem k234_c0:CdOk 0 (subc (code Tryz.f234) [1,0,0,1]) (E234_c0 C234_c0):=zc0 Li121 Lo122 KqZ F234_c0 kn
def N234 (f234_c0:T234_c0):Ann:=(.seq .nil (.seq (.blk (.cut .nil (E234_c0 f234_c0))) .nil))
def F234 (f234_c0:T234_c0):T234:=fun (x0,_)=>bif decide (x0≥0) then (f234_c0 (x0,decide (x0<26),())).bind fun v=>Sum.elim (fun v=>some (v.1,v.2.1,())) (fun v=>some (0,false,())) v else (f234_c0 (x0,false,())).bind fun v=>Sum.elim (fun v=>some (v.1,v.2.1,())) (fun v=>some (0,false,())) v
def C234:T234:=F234 C234_c0
theorem ok234:FO 234 (E234 C234):=zq0_1 Li119 Lo120 KqZ N234 F234 C234_c0 kn Tryz.func234 (And.intro k234_c0 trivial)
abbrev T191_l0:=Int×Int×Int×LqS×Unit→Option (LqS×Unit)
def E191_l0 (f:T191_l0):LEnt:=⟨Li125,Lo126,f⟩
abbrev T191:=Int×Int×LqS×Unit→Option (LqS×Unit)
def E191 (f:T191):FEnt:=⟨Li123,Lo124,f⟩
def K191 (f233:T233) (f234:T234):=lk [(233,E233 f233),(234,E234 f234)]
theorem kok191:KOk Tryz.prog (K191 C233 C234):=(kc ok233 (kc ok234 kn))
def F191_l0 (f233:T233) (f234:T234):LpF (Int×Int×Int×LqS×Unit) (LqS×Unit):=fun (x0,x1,x2,x3,_)=>(f233 (x2,x1,())).bind fun v=>bif decide (x0<v.1) then (f234 (x0,())).bind fun v=>bif decide (x3.length+[UInt8.ofNat (Int.toNat v.1)].length≤140737488355328/1) then some (Sum.inr (x3++[UInt8.ofNat (Int.toNat v.1)],())) else none else bif IntKind.i64.wrap (36-v.1) != 0 then (f234 (IntKind.i64.wrap (v.1+(IntKind.i64.wrap (x0-v.1)).tmod (IntKind.i64.wrap (36-v.1))),())).bind fun v1=>bif decide (x3.length+[UInt8.ofNat (Int.toNat v1.1)].length≤140737488355328/1) then bif IntKind.i64.wrap (36-v.1) != 0 then some (Sum.inl (IntKind.i64.wrap ((IntKind.i64.wrap (x0-v.1)).tdiv (IntKind.i64.wrap (36-v.1))),x1,IntKind.i64.wrap (x2+36),x3++[UInt8.ofNat (Int.toNat v1.1)],())) else none else none else none
theorem h191_l0 (f233:T233) (f234:T234):AqL (K191 f233 f234) 1 (subc (code Tryz.f191) [1,1,0,0]) .nil Li125 Lo126 (F191_l0 f233 f234):=fun v=>by kernel_rfl
def C191_l0:T191_l0:=loopN (F191_l0 C233 C234) big
theorem k191_l0:FragOk Tryz.prog 1 (InLoop Tryz.prog (subc (code Tryz.f191) [1,1,0,0])) (E191_l0 C191_l0) :=
 frag_big (ins:=Li125) (os:=Lo126) (C:=C191_l0) (frag_inLoop (ins:=Li125) (os:=Lo126) (n := .nil) (F:=F191_l0 C233 C234) hm hΓ kok191 (fun _=>big) (ann_nil _) (h191_l0 C233 C234)) rfl
def N191 (f191_l0:T191_l0):Ann:=(.seq .nil (.seq .nil (.blk (.peel .nil (E191_l0 f191_l0)))))
def F191 (f233:T233) (f234:T234) (f191_l0:T191_l0):T191:=fun (x0,x1,x2,_)=>(f233 (36,x1,())).bind fun v=>bif decide (x0<v.1) then (f234 (x0,())).bind fun v=>bif decide (x2.length+[UInt8.ofNat (Int.toNat v.1)].length≤140737488355328/1) then some (x2++[UInt8.ofNat (Int.toNat v.1)],()) else none else bif IntKind.i64.wrap (36-v.1) != 0 then (f234 (IntKind.i64.wrap (v.1+(IntKind.i64.wrap (x0-v.1)).tmod (IntKind.i64.wrap (36-v.1))),())).bind fun v1=>bif decide (x2.length+[UInt8.ofNat (Int.toNat v1.1)].length≤140737488355328/1) then bif IntKind.i64.wrap (36-v.1) != 0 then (f191_l0 (IntKind.i64.wrap ((IntKind.i64.wrap (x0-v.1)).tdiv (IntKind.i64.wrap (36-v.1))),x1,IntKind.i64.wrap (36+36),x2++[UInt8.ofNat (Int.toNat v1.1)],())).bind fun v=>some (v.1,()) else none else none else none
theorem h191 (f233:T233) (f234:T234) (f191_l0:T191_l0):AqF (K191 f233 f234) 1 Tryz.f191 (N191 f191_l0) Li123 Lo124 (F191 f233 f234 f191_l0):=fun v=>by kernel_rfl
def C191:T191:=F191 C233 C234 C191_l0
theorem ok191:FO 191 (E191 C191) :=
 qo kok191 Tryz.func191 (And.intro k191_l0 trivial) (h191 C233 C234 C191_l0)
abbrev T192_l0:=Int×Int×Unit→Option (Int×Int×Unit)
def E192_l0 (f:T192_l0):LEnt:=⟨Li128,Lo129,f⟩
abbrev T192_c0:=Int×Int×Unit→Option (Int×Unit)
def E192_c0 (f:T192_c0):LEnt:=⟨Li130,Lo131,f⟩
abbrev T192:=Int×Int×Bool×Unit→Option (Int×Unit)
def E192 (f:T192):FEnt:=⟨Li127,Lo10,f⟩
def F192_l0:LpF (Int×Int×Unit) (Int×Int×Unit):=fun (x0,x1,_)=>bif decide (x0>455) then some (Sum.inl (IntKind.i64.wrap (x0.tdiv 35),IntKind.i64.wrap (x1+36),())) else some (Sum.inr (x0,x1,()))
def C192_l0:T192_l0:=loopN (F192_l0) big
theorem k192_l0:LpOk 0 (subc (code Tryz.f192) [1,1,1,1,0,0,0]) (E192_l0 C192_l0):=zl0 Li128 Lo129 KqZ F192_l0 kn
def N192_c0 (f192_l0:T192_l0):Ann:=(.seq .nil (.seq .nil (.seq (.blk (.loop (E192_l0 f192_l0))) .nil)))
def F192_c0 (f192_l0:T192_l0):T192_c0:=fun (x0,x1,_)=>bif (if x1>1 then x1 else 1) != 0 then (f192_l0 (IntKind.i64.wrap (x0+IntKind.i64.wrap (x0.tdiv (if x1>1 then x1 else 1))),0,())).bind fun v=>bif IntKind.i64.wrap (v.1+38) != 0 then some (IntKind.i64.wrap (v.2.1+IntKind.i64.wrap ((IntKind.i64.wrap (36*v.1)).tdiv (IntKind.i64.wrap (v.1+38)))),()) else none else none
theorem h192_c0 (f192_l0:T192_l0):AqC KqZ 0 (subc (code Tryz.f192) [1,1]) (N192_c0 f192_l0) Li130 Lo131 (F192_c0 f192_l0):=fun v=>by kernel_rfl
def C192_c0:T192_c0:=F192_c0 C192_l0
theorem k192_c0:CdOk 0 (subc (code Tryz.f192) [1,1]) (E192_c0 C192_c0) :=
 frd kn (And.intro k192_l0 trivial) (h192_c0 C192_l0)
def N192 (f192_c0:T192_c0):Ann:=(.seq .nil (.cut .nil (E192_c0 f192_c0)))
def F192 (f192_c0:T192_c0):T192:=fun (x0,x1,x2,_)=>bif x2 then (f192_c0 (IntKind.i64.wrap (x0.tdiv 700),x1,())).bind fun v=>some (v.1,()) else (f192_c0 (IntKind.i64.wrap (x0.tdiv 2),x1,())).bind fun v=>some (v.1,())
def C192:T192:=F192 C192_c0
theorem ok192:FO 192 (E192 C192):=zq0_1 Li127 Lo10 KqZ N192 F192 C192_c0 kn Tryz.func192 (And.intro k192_c0 trivial)
abbrev T98:=Int×Unit→Option (Bool×Unit)
def E98 (f:T98):FEnt:=⟨Li26,Lo27,f⟩
def F98:T98:=fun (x0,_)=>bif decide (x0≥0) then bif decide (x0≤1114111) then bif decide (x0≥55296) then some (bif decide (x0≤57343) then false else true,()) else some (!false,()) else some (false,()) else some (false,())
def C98:T98:=F98
theorem ok98:FO 98 (E98 C98):=zq0 Li26 Lo27 KqZ F98 kn Tryz.func98
abbrev T157_l0:=List (Int)×List (Int)×Int×Int×LqS×Unit→Option ((List (Int)×LqS×Unit)⊕(LqS×Bool×Unit))
def E157_l0 (f:T157_l0):LEnt:=⟨Li132,Lo133,f⟩
abbrev T157_l1:=List (Int)×Int×Int×Int×Int×Int×List (Int)×Int×Int×LqS×Unit→Option (List (Int)×Int×Int×Int×Int×Int×LqS×Unit)
def E157_l1 (f:T157_l1):LEnt:=⟨Li134,Lo135,f⟩
abbrev T157_l2:=List (Int)×Int×Int×Int×Int×Int×LqS×Unit→Option ((LqS×Unit)⊕(LqS×Bool×Unit))
def E157_l2 (f:T157_l2):LEnt:=⟨Li136,Lo137,f⟩
abbrev T157_c0:=List (Int)×Int×LqS×Unit→Option (LqS×Bool×Unit)
def E157_c0 (f:T157_c0):LEnt:=⟨Li138,Lo139,f⟩
abbrev T157:=List (Int)×Unit→Option (LqS×Bool×Unit)
def E157 (f:T157):FEnt:=⟨Li4,Lo49,f⟩
def K157 (f190:T190) (f191:T191) (f192:T192) (f98:T98):=lk [(190,E190 f190),(191,E191 f191),(192,E192 f192),(98,E98 f98)]
theorem kok157:KOk Tryz.prog (K157 C190 C191 C192 C98):=(kc ok190 (kc ok191 (kc ok192 (kc ok98 kn))))
def F157_l0 (f190:T190) (f191:T191) (f192:T192) (f98:T98):LpF (List (Int)×List (Int)×Int×Int×LqS×Unit) ((List (Int)×LqS×Unit)⊕(LqS×Bool×Unit)):=fun (x0,x1,x2,x3,x4,_)=>bif decide (x3<x2) then bif decide (0≤x3)&&decide (x3<(↑x1.length:Int)) then (f98 (x1.getD x3.toNat 0,())).bind fun v=>bif !v.1 then some (Sum.inr (Sum.inr ([],false,()))) else bif decide (x1.getD x3.toNat 0<128) then bif decide (x4.length+[UInt8.ofNat (IntKind.u8.wrap (x1.getD x3.toNat 0)).toNat].length≤140737488355328/1) then some (Sum.inl (x0,x1,x2,IntKind.i64.wrap (x3+1),x4++[UInt8.ofNat (IntKind.u8.wrap (x1.getD x3.toNat 0)).toNat],())) else none else some (Sum.inl (x0,x1,x2,IntKind.i64.wrap (x3+1),x4,())) else none else some (Sum.inr (Sum.inl (x0,x4,())))
theorem h157_l0 (f190:T190) (f191:T191) (f192:T192) (f98:T98):AqL (K157 f190 f191 f192 f98) 0 (subc (code Tryz.f157) [1,1,0,1,0,0]) .nil Li132 Lo133 (F157_l0 f190 f191 f192 f98):=fun v=>by kernel_rfl
def C157_l0:T157_l0:=loopN (F157_l0 C190 C191 C192 C98) big
theorem k157_l0:LpOk 0 (subc (code Tryz.f157) [1,1,0,1,0,0]) (E157_l0 C157_l0) :=
 frl kok157 (h157_l0 C190 C191 C192 C98)
def F157_l1 (f190:T190) (f191:T191) (f192:T192) (f98:T98):LpF (List (Int)×Int×Int×Int×Int×Int×List (Int)×Int×Int×LqS×Unit) (List (Int)×Int×Int×Int×Int×Int×LqS×Unit):=fun (x0,x1,x2,x3,x4,x5,x6,x7,x8,x9,_)=>bif decide (x8<x7) then bif decide (0≤x8)&&decide (x8<(↑x6.length:Int)) then bif decide (x6.getD x8.toNat 0<x2) then some (Sum.inl (x0,x1,x2,IntKind.i64.wrap (x3+1),x4,x5,x6,x7,IntKind.i64.wrap (x8+1),x9,())) else bif x6.getD x8.toNat 0==x2 then (f191 (x3,x4,x9,())).bind fun v=>(f192 (x3,IntKind.i64.wrap (x5+1),x5==x1,())).bind fun v1=>some (Sum.inl (x0,x1,x2,0,v1.1,IntKind.i64.wrap (x5+1),x6,x7,IntKind.i64.wrap (x8+1),v.1,())) else some (Sum.inl (x0,x1,x2,x3,x4,x5,x6,x7,IntKind.i64.wrap (x8+1),x9,())) else none else some (Sum.inr (x0,x1,x2,x3,x4,x5,x9,()))
theorem h157_l1 (f190:T190) (f191:T191) (f192:T192) (f98:T98):AqL (K157 f190 f191 f192 f98) 0 (subc (code Tryz.f157) [1,1,1,1,1,1,0,1,0,0,1,0,1,1,1,1,0,1,0,0]) .nil Li134 Lo135 (F157_l1 f190 f191 f192 f98):=fun v=>by kernel_rfl
def C157_l1:T157_l1:=loopN (F157_l1 C190 C191 C192 C98) big
theorem k157_l1:LpOk 0 (subc (code Tryz.f157) [1,1,1,1,1,1,0,1,0,0,1,0,1,1,1,1,0,1,0,0]) (E157_l1 C157_l1) :=
 frl kok157 (h157_l1 C190 C191 C192 C98)
def N157_l2 (f157_l1:T157_l1):Ann:=(.seq .nil (.blk (.seq .nil (.seq .nil (.seq .nil (.seq .nil (.seq (.seq .nil (.blk (.loop (E157_l1 f157_l1)))) .nil)))))))
def F157_l2 (f190:T190) (f191:T191) (f192:T192) (f98:T98) (f157_l1:T157_l1):LpF (List (Int)×Int×Int×Int×Int×Int×LqS×Unit) ((LqS×Unit)⊕(LqS×Bool×Unit)):=fun (x0,x1,x2,x3,x4,x5,x6,_)=>bif decide (x5<(↑x0.length:Int)) then (f190 (x0,x2,())).bind fun v=>bif decide (IntKind.i64.wrap (x3+IntKind.i64.wrap (IntKind.i64.wrap (IntKind.i32.wrap (v.1-x2))*IntKind.i64.wrap (x5+1)))>2147483647) then some (Sum.inr (Sum.inr ([],false,()))) else (f157_l1 (x0,x1,v.1,IntKind.i64.wrap (x3+IntKind.i64.wrap (IntKind.i64.wrap (IntKind.i32.wrap (v.1-x2))*IntKind.i64.wrap (x5+1))),x4,x5,x0,(↑x0.length:Int),0,x6,())).bind fun v=>some (Sum.inl (v.1,v.2.1,IntKind.i32.wrap (v.2.2.1+1),IntKind.i64.wrap (v.2.2.2.1+1),v.2.2.2.2.1,v.2.2.2.2.2.1,v.2.2.2.2.2.2.1,())) else some (Sum.inr (Sum.inl (x6,())))
theorem h157_l2 (f190:T190) (f191:T191) (f192:T192) (f98:T98) (f157_l1:T157_l1):AqL (K157 f190 f191 f192 f98) 0 (subc (code Tryz.f157) [1,1,1,1,1,1,0,1,0,0]) (N157_l2 f157_l1) Li136 Lo137 (F157_l2 f190 f191 f192 f98 f157_l1):=fun v=>by kernel_rfl
def C157_l2:T157_l2:=loopN (F157_l2 C190 C191 C192 C98 C157_l1) big
theorem k157_l2:LpOk 0 (subc (code Tryz.f157) [1,1,1,1,1,1,0,1,0,0]) (E157_l2 C157_l2) :=
 frm kok157 (And.intro k157_l1 trivial) (h157_l2 C190 C191 C192 C98 C157_l1)
def N157_c0 (f157_l2:T157_l2):Ann:=(.seq .nil (.seq (.seq .nil (.blk (.loop (E157_l2 f157_l2)))) .nil))
def F157_c0 (f190:T190) (f191:T191) (f192:T192) (f98:T98) (f157_l2:T157_l2):T157_c0:=fun (x0,x1,x2,_)=>(f157_l2 (x0,x1,128,0,72,x1,x2,())).bind fun v=>Sum.elim (fun v=>some (v.1,true,())) (fun v=>some (v.1,v.2.1,())) v
theorem h157_c0 (f190:T190) (f191:T191) (f192:T192) (f98:T98) (f157_l2:T157_l2):AqC (K157 f190 f191 f192 f98) 0 (subc (code Tryz.f157) [1,1,1,1,1]) (N157_c0 f157_l2) Li138 Lo139 (F157_c0 f190 f191 f192 f98 f157_l2):=fun v=>by kernel_rfl
def C157_c0:T157_c0:=F157_c0 C190 C191 C192 C98 C157_l2
theorem k157_c0:CdOk 0 (subc (code Tryz.f157) [1,1,1,1,1]) (E157_c0 C157_c0) :=
 frd kok157 (And.intro k157_l2 trivial) (h157_c0 C190 C191 C192 C98 C157_l2)
def N157 (f157_c0:T157_c0) (f157_l0:T157_l0):Ann:=(.seq .nil (.seq .nil (.seq (.seq .nil (.blk (.loop (E157_l0 f157_l0)))) (.seq .nil (.cut .nil (E157_c0 f157_c0))))))
def F157 (f190:T190) (f191:T191) (f192:T192) (f98:T98) (f157_c0:T157_c0) (f157_l0:T157_l0):T157:=fun (x0,_)=>(f157_l0 (x0,x0,(↑x0.length:Int),0,[],())).bind fun v=>Sum.elim (fun v=>bif decide ((↑(List.length v.2.1):Int)>0) then bif decide (List.length v.2.1+[45].length≤140737488355328/1) then (f157_c0 (v.1,(↑(List.length v.2.1):Int),v.2.1++[45],())).bind fun v=>some (v.1,v.2.1,()) else none else (f157_c0 (v.1,(↑(List.length v.2.1):Int),v.2.1,())).bind fun v=>some (v.1,v.2.1,())) (fun v=>some (v.1,v.2.1,())) v
theorem h157 (f190:T190) (f191:T191) (f192:T192) (f98:T98) (f157_c0:T157_c0) (f157_l0:T157_l0):AqF (K157 f190 f191 f192 f98) 0 Tryz.f157 (N157 f157_c0 f157_l0) Li4 Lo49 (F157 f190 f191 f192 f98 f157_c0 f157_l0):=fun v=>by kernel_rfl
def C157:T157:=F157 C190 C191 C192 C98 C157_c0 C157_l0
theorem ok157:FO 157 (E157 C157) :=
 qo kok157 Tryz.func157 (And.intro k157_l0 (And.intro k157_c0 trivial)) (h157 C190 C191 C192 C98 C157_c0 C157_l0)
abbrev T194:=Int×Unit→Option (Bool×Int×Unit)
def E194 (f:T194):FEnt:=⟨Li140,Lo141,f⟩
def F194:T194:=fun (x0,_)=>some (decide (x0≥0),x0,())
theorem h194:AqF KqZ 1 Tryz.f194 .nil Li140 Lo141 (F194):=fun v=>by kernel_rfl
def C194:T194:=F194
theorem ok194:FO 194 (E194 C194) :=
 q0 kn Tryz.func194 (h194)
abbrev T223:=Int×Int×Int×Int×Int×Unit→Option (Bool×Int×Unit)
def E223 (f:T223):FEnt:=⟨Li64,Lo42,f⟩
def F223:T223:=fun (x0,x1,x2,x3,x4,_)=>bif decide (x0≤x4) then some (decide (x4≤x1),x4,()) else some (false,x4,())
theorem h223:AqF KqZ 1 Tryz.f223 .nil Li64 Lo42 (F223):=fun v=>by kernel_rfl
def C223:T223:=F223
theorem ok223:FO 223 (E223 C223) :=
 q0 kn Tryz.func223 (h223)
abbrev T222_l0:=LqB×Int×Int×Int×Unit→Option ((Int×Unit)⊕(Int×Int×Unit))
def E222_l0 (f:T222_l0):LEnt:=⟨Li66,Lo46,f⟩
abbrev T222:=LqB×Int×Unit→Option (Int×Int×Unit)
def E222 (f:T222):FEnt:=⟨Li65,Lo44,f⟩
def K222 (f223:T223):=lk [(223,E223 f223)]
theorem kok222:KOk Tryz.prog (K222 C223):=(kc ok223 kn)
def F222_l0 (f223:T223):LpF (LqB×Int×Int×Int×Unit) ((Int×Unit)⊕(Int×Int×Unit)):=fun (x0,x1,x2,x3,_)=>bif decide (x2<x1) then bif decide (0≤x2)&&decide (x2<(↑x0.length:Int)) then (f223 ((x0.getD x2.toNat (0,(0,(0,0)))).1,(x0.getD x2.toNat (0,(0,(0,0)))).2.1,(x0.getD x2.toNat (0,(0,(0,0)))).2.2.1,(x0.getD x2.toNat (0,(0,(0,0)))).2.2.2,x3,())).bind fun v=>bif v.1 then some (Sum.inr (Sum.inr (x2,v.2.1,()))) else some (Sum.inl (x0,x1,IntKind.i64.wrap (x2+1),v.2.1,())) else none else some (Sum.inr (Sum.inl (x3,())))
def C222_l0:T222_l0:=loopN (F222_l0 C223) big
theorem k222_l0:LpOk 1 (subc (code Tryz.f222) [1,0,1,0,0]) (E222_l0 C222_l0):=zl1 Li66 Lo46 K222 F222_l0 C223 kok222
def N222 (f222_l0:T222_l0):Ann:=(.seq .nil (.seq (.seq .nil (.blk (.loop (E222_l0 f222_l0)))) .nil))
def F222 (f223:T223) (f222_l0:T222_l0):T222:=fun (x0,x1,_)=>(f222_l0 (x0,(↑x0.length:Int),0,x1,())).bind fun v=>Sum.elim (fun v=>some (-1,v.1,())) (fun v=>some (v.1,v.2.1,())) v
theorem h222 (f223:T223) (f222_l0:T222_l0):AqF (K222 f223) 1 Tryz.f222 (N222 f222_l0) Li65 Lo44 (F222 f223 f222_l0):=fun v=>by kernel_rfl
def C222:T222:=F222 C223 C222_l0
theorem ok222:FO 222 (E222 C222) :=
 qo kok222 Tryz.func222 (And.intro k222_l0 trivial) (h222 C223 C222_l0)
abbrev T175:=LqA×LqB×LqC×Int×Unit→Option (Int×Unit)
def E175 (f:T175):FEnt:=⟨Li0,Lo10,f⟩
def K175 (f222:T222):=lk [(222,E222 f222)]
def F175 (f222:T222):T175:=fun (x0,x1,x2,x3,_)=>(f222 (x1,x3,())).bind fun v=>bif decide (v.1<0) then some (0,()) else bif decide (0≤v.1)&&decide (v.1<(↑x1.length:Int)) then some (IntKind.i64.wrap ((x1.getD (Int.toNat v.1) (0,(0,(0,0)))).2.2.1+IntKind.i64.wrap ((x1.getD (Int.toNat v.1) (0,(0,(0,0)))).2.2.2*IntKind.i64.wrap (IntKind.i32.wrap (v.2.1-(x1.getD (Int.toNat v.1) (0,(0,(0,0)))).1)))),()) else none
def C175:T175:=F175 C222
theorem ok175:FO 175 (E175 C175):=zq1 Li0 Lo10 K175 F175 C222 (kc ok222 kn) Tryz.func175
abbrev T177:=Int×Int×LqA×LqB×LqC×Unit→Option (Int×LqA×LqB×LqC×Unit)
def E177 (f:T177):FEnt:=⟨Li67,Lo68,f⟩
def K177 (f175:T175):=lk [(175,E175 f175)]
def F177 (f175:T175):T177:=fun (x0,x1,x2,x3,x4,_)=>(f175 (x2,x3,x4,x0,())).bind fun v=>(f175 (x2,x3,x4,x1,())).bind fun v1=>some (IntKind.i64.wrap (v.1-v1.1),x2,x3,x4,())
theorem h177 (f175:T175):AqF (K177 f175) 1 Tryz.f177 .nil Li67 Lo68 (F177 f175):=fun v=>by kernel_rfl
def C177:T177:=F177 C175
theorem ok177:FO 177 (E177 C177) :=
 q0 (kc ok175 kn) Tryz.func177 (h177 C175)
abbrev T242_c0:=(Int×Int)×Int×Int×Int×Int×List (Int)×LqA×LqB×LqC×Unit→Option ((Int×Int)×Int×Int×Int×Int×List (Int)×LqA×LqB×LqC×Unit)
def E242_c0 (f:T242_c0):LEnt:=⟨Li71,Lo72,f⟩
abbrev T242_l0:=(Int×Int)×Int×Int×Int×Int×List (Int)×LqA×LqB×LqC×Unit→Option ((Int×Int)×Int×Int×Int×List (Int)×LqA×LqB×LqC×Unit)
def E242_l0 (f:T242_l0):LEnt:=⟨Li71,Lo73,f⟩
abbrev T242_l1:=(Int×Int)×Int×Int×Int×List (Int)×LqA×LqB×LqC×Unit→Option (List (Int)×LqA×LqB×LqC×Unit)
def E242_l1 (f:T242_l1):LEnt:=⟨Li74,Lo75,f⟩
abbrev T242:=(Int×Int)×Int×Int×List (Int)×LqA×LqB×LqC×Unit→Option (List (Int)×LqA×LqB×LqC×Unit)
def E242 (f:T242):FEnt:=⟨Li69,Lo70,f⟩
def K242 (f177:T177):=lk [(177,E177 f177)]
theorem kok242:KOk Tryz.prog (K242 C177):=(kc ok177 kn)
def F242_c0 (f177:T177):T242_c0:=fun (x0,x1,x2,x3,x4,x5,x6,x7,x8,_)=>bif decide (0≤IntKind.i64.wrap (x4-1))&&decide (IntKind.i64.wrap (x4-1)<(↑(Int.toNat x0.2):Int)) then bif decide (0≤x4)&&decide (x4<(↑(Int.toNat x0.2):Int)) then bif decide (0≤x4)&&decide (x4<(↑(Int.toNat x0.2):Int)) then bif decide (0≤IntKind.i64.wrap (x4-1))&&decide (IntKind.i64.wrap (x4-1)<(↑(Int.toNat x0.2):Int)) then some (((↑(Int.toNat x0.1):Int),(↑(Int.toNat x0.2):Int)),x1,x2,x3,IntKind.i64.wrap (x4-1),(x5.set (Int.toNat x0.1+x4.toNat) (x5.getD (Int.toNat x0.1+(IntKind.i64.wrap (x4-1)).toNat) 0)).set (Int.toNat x0.1+(IntKind.i64.wrap (x4-1)).toNat) (x5.getD (Int.toNat x0.1+x4.toNat) 0),x6,x7,x8,()) else none else none else none else none
def C242_c0:T242_c0:=F242_c0 C177
theorem k242_c0:CdOk 2 (subc (code Tryz.f242) [1,0,0,1,0,0,1,0,0,1]) (E242_c0 C242_c0):=zc1 Li71 Lo72 K242 F242_c0 C177 kok242
def N242_l0 (f242_c0:T242_c0):Ann:=(.cut .nil (E242_c0 f242_c0))
def F242_l0 (f177:T177) (f242_c0:T242_c0):LpF ((Int×Int)×Int×Int×Int×Int×List (Int)×LqA×LqB×LqC×Unit) ((Int×Int)×Int×Int×Int×List (Int)×LqA×LqB×LqC×Unit):=fun (x0,x1,x2,x3,x4,x5,x6,x7,x8,_)=>bif decide (x4>x1) then bif decide (0≤x4)&&decide (x4<(↑(Int.toNat x0.2):Int)) then bif decide (0≤IntKind.i64.wrap (x4-1))&&decide (IntKind.i64.wrap (x4-1)<(↑(Int.toNat x0.2):Int)) then (f177 (x5.getD (Int.toNat x0.1+x4.toNat) 0,x5.getD (Int.toNat x0.1+(IntKind.i64.wrap (x4-1)).toNat) 0,x6,x7,x8,())).bind fun v=>bif decide (v.1<0) then (f242_c0 (((↑(Int.toNat x0.1):Int),(↑(Int.toNat x0.2):Int)),x1,x2,x3,x4,x5,v.2.1,v.2.2.1,v.2.2.2.1,())).bind fun v=>some (Sum.inl (((↑(Int.toNat v.1.1):Int),(↑(Int.toNat v.1.2):Int)),v.2.1,v.2.2.1,v.2.2.2.1,v.2.2.2.2.1,v.2.2.2.2.2.1,v.2.2.2.2.2.2.1,v.2.2.2.2.2.2.2.1,v.2.2.2.2.2.2.2.2.1,())) else some (Sum.inr (((↑(Int.toNat x0.1):Int),(↑(Int.toNat x0.2):Int)),x1,x2,x3,x5,v.2.1,v.2.2.1,v.2.2.2.1,())) else none else none else some (Sum.inr (((↑(Int.toNat x0.1):Int),(↑(Int.toNat x0.2):Int)),x1,x2,x3,x5,x6,x7,x8,()))
theorem h242_l0 (f177:T177) (f242_c0:T242_c0):AqL (K242 f177) 2 (subc (code Tryz.f242) [1,0,0,1,0,0,1,0,0]) (N242_l0 f242_c0) Li71 Lo73 (F242_l0 f177 f242_c0):=fun v=>by kernel_rfl
def C242_l0:T242_l0:=loopN (F242_l0 C177 C242_c0) big
theorem k242_l0:LpOk 2 (subc (code Tryz.f242) [1,0,0,1,0,0,1,0,0]) (E242_l0 C242_l0) :=
 frm kok242 (And.intro k242_c0 trivial) (h242_l0 C177 C242_c0)
def N242_l1 (f242_l0:T242_l0):Ann:=(.seq .nil (.seq (.blk (.seq .nil (.blk (.loop (E242_l0 f242_l0))))) .nil))
def F242_l1 (f177:T177) (f242_l0:T242_l0):LpF ((Int×Int)×Int×Int×Int×List (Int)×LqA×LqB×LqC×Unit) (List (Int)×LqA×LqB×LqC×Unit):=fun (x0,x1,x2,x3,x4,x5,x6,x7,_)=>bif decide (x3<x2) then (f242_l0 (((↑(Int.toNat x0.1):Int),(↑(Int.toNat x0.2):Int)),x1,x2,x3,x3,x4,x5,x6,x7,())).bind fun v=>some (Sum.inl (((↑(Int.toNat v.1.1):Int),(↑(Int.toNat v.1.2):Int)),v.2.1,v.2.2.1,IntKind.i64.wrap (v.2.2.2.1+1),v.2.2.2.2.1,v.2.2.2.2.2.1,v.2.2.2.2.2.2.1,v.2.2.2.2.2.2.2.1,())) else some (Sum.inr (x4,x5,x6,x7,()))
theorem h242_l1 (f177:T177) (f242_l0:T242_l0):AqL (K242 f177) 2 (subc (code Tryz.f242) [1,0,0]) (N242_l1 f242_l0) Li74 Lo75 (F242_l1 f177 f242_l0):=fun v=>by kernel_rfl
def C242_l1:T242_l1:=loopN (F242_l1 C177 C242_l0) big
theorem k242_l1:LpOk 2 (subc (code Tryz.f242) [1,0,0]) (E242_l1 C242_l1) :=
 frm kok242 (And.intro k242_l0 trivial) (h242_l1 C177 C242_l0)
def N242 (f242_l1:T242_l1):Ann:=(.seq .nil (.blk (.loop (E242_l1 f242_l1))))
def F242 (f177:T177) (f242_l1:T242_l1):T242:=fun (x0,x1,x2,x3,x4,x5,x6,_)=>(f242_l1 (((↑(Int.toNat x0.1):Int),(↑(Int.toNat x0.2):Int)),x1,x2,IntKind.i64.wrap (x1+1),x3,x4,x5,x6,())).bind fun v=>some (v.1,v.2.1,v.2.2.1,v.2.2.2.1,())
theorem h242 (f177:T177) (f242_l1:T242_l1):AqF (K242 f177) 2 Tryz.f242 (N242 f242_l1) Li69 Lo70 (F242 f177 f242_l1):=fun v=>by kernel_rfl
def C242:T242:=F242 C177 C242_l1
theorem ok242:FO 242 (E242 C242) :=
 qo kok242 Tryz.func242 (And.intro k242_l1 trivial) (h242 C177 C242_l1)
abbrev T255_l0:=(Int×Int)×Int×Int×Int×Int×List (Int)×LqA×LqB×LqC×Unit→Option (List (Int)×LqA×LqB×LqC×Unit)
def E255_l0 (f:T255_l0):LEnt:=⟨Li77,Lo78,f⟩
abbrev T255:=(Int×Int)×Int×Int×Int×List (Int)×LqA×LqB×LqC×Unit→Option (List (Int)×LqA×LqB×LqC×Unit)
def E255 (f:T255):FEnt:=⟨Li76,Lo70,f⟩
def F255_l0:LpF ((Int×Int)×Int×Int×Int×Int×List (Int)×LqA×LqB×LqC×Unit) (List (Int)×LqA×LqB×LqC×Unit):=fun (x0,x1,x2,x3,x4,x5,x6,x7,x8,_)=>bif decide (x4<x3) then bif decide (0≤IntKind.i64.wrap (x2+x4))&&decide (IntKind.i64.wrap (x2+x4)<(↑(Int.toNat x0.2):Int)) then bif decide (0≤IntKind.i64.wrap (x1+x4))&&decide (IntKind.i64.wrap (x1+x4)<(↑(Int.toNat x0.2):Int)) then bif decide (0≤IntKind.i64.wrap (x1+x4))&&decide (IntKind.i64.wrap (x1+x4)<(↑(Int.toNat x0.2):Int)) then bif decide (0≤IntKind.i64.wrap (x2+x4))&&decide (IntKind.i64.wrap (x2+x4)<(↑(Int.toNat x0.2):Int)) then some (Sum.inl (((↑(Int.toNat x0.1):Int),(↑(Int.toNat x0.2):Int)),x1,x2,x3,IntKind.i64.wrap (x4+1),(x5.set (Int.toNat x0.1+(IntKind.i64.wrap (x1+x4)).toNat) (x5.getD (Int.toNat x0.1+(IntKind.i64.wrap (x2+x4)).toNat) 0)).set (Int.toNat x0.1+(IntKind.i64.wrap (x2+x4)).toNat) (x5.getD (Int.toNat x0.1+(IntKind.i64.wrap (x1+x4)).toNat) 0),x6,x7,x8,())) else none else none else none else none else some (Sum.inr (x5,x6,x7,x8,()))
def C255_l0:T255_l0:=loopN (F255_l0) big
theorem k255_l0:LpOk 2 (subc (code Tryz.f255) [1,0,0]) (E255_l0 C255_l0):=zl0 Li77 Lo78 KqZ F255_l0 kn
def N255 (f255_l0:T255_l0):Ann:=(.seq .nil (.blk (.loop (E255_l0 f255_l0))))
def F255 (f255_l0:T255_l0):T255:=fun (x0,x1,x2,x3,x4,x5,x6,x7,_)=>(f255_l0 (((↑(Int.toNat x0.1):Int),(↑(Int.toNat x0.2):Int)),x1,x2,x3,0,x4,x5,x6,x7,())).bind fun v=>some (v.1,v.2.1,v.2.2.1,v.2.2.2.1,())
theorem h255 (f255_l0:T255_l0):AqF KqZ 2 Tryz.f255 (N255 f255_l0) Li76 Lo70 (F255 f255_l0):=fun v=>by kernel_rfl
def C255:T255:=F255 C255_l0
theorem ok255:FO 255 (E255 C255) :=
 qo kn Tryz.func255 (And.intro k255_l0 trivial) (h255 C255_l0)
abbrev T249_l0:=(Int×Int)×Int×Int×Int×List (Int)×LqA×LqB×LqC×Unit→Option ((Int×Int)×Int×Int×List (Int)×LqA×LqB×LqC×Unit)
def E249_l0 (f:T249_l0):LEnt:=⟨Li79,Lo80,f⟩
abbrev T249:=(Int×Int)×Int×Int×Int×List (Int)×LqA×LqB×LqC×Unit→Option (List (Int)×LqA×LqB×LqC×Unit)
def E249 (f:T249):FEnt:=⟨Li76,Lo70,f⟩
def K249 (f255:T255):=lk [(255,E255 f255)]
theorem kok249:KOk Tryz.prog (K249 C255):=(kc ok255 kn)
def F249_l0 (f255:T255):LpF ((Int×Int)×Int×Int×Int×List (Int)×LqA×LqB×LqC×Unit) ((Int×Int)×Int×Int×List (Int)×LqA×LqB×LqC×Unit):=fun (x0,x1,x2,x3,x4,x5,x6,x7,_)=>bif x2 != x3 then bif decide (x2>x3) then (f255 (((↑(Int.toNat x0.1):Int),(↑(Int.toNat x0.2):Int)),IntKind.i64.wrap (x1-x2),x1,x3,x4,x5,x6,x7,())).bind fun v=>some (Sum.inl (((↑(Int.toNat x0.1):Int),(↑(Int.toNat x0.2):Int)),x1,IntKind.i64.wrap (x2-x3),x3,v.1,v.2.1,v.2.2.1,v.2.2.2.1,())) else (f255 (((↑(Int.toNat x0.1):Int),(↑(Int.toNat x0.2):Int)),IntKind.i64.wrap (x1-x2),IntKind.i64.wrap (IntKind.i64.wrap (x1+x3)-x2),x2,x4,x5,x6,x7,())).bind fun v=>some (Sum.inl (((↑(Int.toNat x0.1):Int),(↑(Int.toNat x0.2):Int)),x1,x2,IntKind.i64.wrap (x3-x2),v.1,v.2.1,v.2.2.1,v.2.2.2.1,())) else some (Sum.inr (((↑(Int.toNat x0.1):Int),(↑(Int.toNat x0.2):Int)),x1,x2,x4,x5,x6,x7,()))
def C249_l0:T249_l0:=loopN (F249_l0 C255) big
theorem k249_l0:LpOk 2 (subc (code Tryz.f249) [1,1,0,0,0]) (E249_l0 C249_l0):=zl1 Li79 Lo80 K249 F249_l0 C255 kok249
def N249 (f249_l0:T249_l0):Ann:=(.seq .nil (.seq .nil (.seq (.blk (.loop (E249_l0 f249_l0))) .nil)))
def F249 (f255:T255) (f249_l0:T249_l0):T249:=fun (x0,x1,x2,x3,x4,x5,x6,x7,_)=>(f249_l0 (((↑(Int.toNat x0.1):Int),(↑(Int.toNat x0.2):Int)),x2,IntKind.i64.wrap (x2-x1),IntKind.i64.wrap (x3-x2),x4,x5,x6,x7,())).bind fun v=>(f255 (((↑(Int.toNat v.1.1):Int),(↑(Int.toNat v.1.2):Int)),IntKind.i64.wrap (v.2.1-v.2.2.1),v.2.1,v.2.2.1,v.2.2.2.1,v.2.2.2.2.1,v.2.2.2.2.2.1,v.2.2.2.2.2.2.1,())).bind fun v=>some (v.1,v.2.1,v.2.2.1,v.2.2.2.1,())
theorem h249 (f255:T255) (f249_l0:T249_l0):AqF (K249 f255) 2 Tryz.f249 (N249 f249_l0) Li76 Lo70 (F249 f255 f249_l0):=fun v=>by kernel_rfl
def C249:T249:=F249 C255 C249_l0
theorem ok249:FO 249 (E249 C249) :=
 qo kok249 Tryz.func249 (And.intro k249_l0 trivial) (h249 C255 C249_l0)
abbrev T243_l0:=(Int×Int)×Int×Int×Int×List (Int)×LqA×LqB×LqC×Unit→Option ((Int×Int)×Int×Int×List (Int)×LqA×LqB×LqC×Unit)
def E243_l0 (f:T243_l0):LEnt:=⟨Li81,Lo82,f⟩
abbrev T243_l1:=(Int×Int)×Int×Int×List (Int)×LqA×LqB×LqC×Unit→Option (List (Int)×LqA×LqB×LqC×Unit)
def E243_l1 (f:T243_l1):LEnt:=⟨Li83,Lo84,f⟩
abbrev T243_l2:=(Int×Int)×Int×Int×Int×List (Int)×LqA×LqB×LqC×Unit→Option ((Int×Int)×Int×Int×List (Int)×LqA×LqB×LqC×Unit)
def E243_l2 (f:T243_l2):LEnt:=⟨Li85,Lo86,f⟩
abbrev T243_l3:=(Int×Int)×Int×Int×List (Int)×LqA×LqB×LqC×Unit→Option (List (Int)×LqA×LqB×LqC×Unit)
def E243_l3 (f:T243_l3):LEnt:=⟨Li87,Lo88,f⟩
abbrev T243_l4:=(Int×Int)×Int×Int×Int×Int×Int×Int×Int×Int×List (Int)×LqA×LqB×LqC×Unit→Option ((Int×Int)×Int×Int×Int×Int×Int×Int×List (Int)×LqA×LqB×LqC×Unit)
def E243_l4 (f:T243_l4):LEnt:=⟨Li89,Lo90,f⟩
abbrev T243_c0:=(Int×Int)×Int×Int×Int×List (Int)×LqA×LqB×LqC×Unit→Option (List (Int)×LqA×LqB×LqC×Unit)
def E243_c0 (f:T243_c0):LEnt:=⟨Li91,Lo92,f⟩
abbrev T243_c1:=(Int×Int)×Int×Int×Int×Int×Int×List (Int)×LqA×LqB×LqC×Unit→Option (List (Int)×LqA×LqB×LqC×Unit)
def E243_c1 (f:T243_c1):LEnt:=⟨Li93,Lo92,f⟩
abbrev T243_c2:=(Int×Int)×Int×Int×Int×Int×Int×Int×Int×List (Int)×LqA×LqB×LqC×Unit→Option (List (Int)×LqA×LqB×LqC×Unit)
def E243_c2 (f:T243_c2):LEnt:=⟨Li94,Lo92,f⟩
abbrev T243:=(Int×Int)×Int×Int×Int×List (Int)×LqA×LqB×LqC×Unit→Option (List (Int)×LqA×LqB×LqC×Unit)
def E243 (f:T243):FEnt:=⟨Li76,Lo70,f⟩
def K243 (f177:T177) (f243:T243) (f249:T249):=lk [(177,E177 f177),(243,E243 f243),(249,E249 f249)]
theorem kok243 (G:T243) (hG:FnOk Tryz.prog 243 (E243 G)):KOk Tryz.prog (K243 C177 G C249):=(kc ok177 (kc hG (kc ok249 kn)))
def F243_l0 (f177:T177) (f243:T243) (f249:T249):LpF ((Int×Int)×Int×Int×Int×List (Int)×LqA×LqB×LqC×Unit) ((Int×Int)×Int×Int×List (Int)×LqA×LqB×LqC×Unit):=fun (x0,x1,x2,x3,x4,x5,x6,x7,_)=>bif decide (x2<x3) then bif decide (0≤IntKind.i64.wrap ((IntKind.u64.wrap (IntKind.i64.wrap (x2+x3))).fdiv (2^min 1 IntKind.u64.bits)))&&decide (IntKind.i64.wrap ((IntKind.u64.wrap (IntKind.i64.wrap (x2+x3))).fdiv (2^min 1 IntKind.u64.bits))<(↑(Int.toNat x0.2):Int)) then bif decide (0≤x1)&&decide (x1<(↑(Int.toNat x0.2):Int)) then (f177 (x4.getD (Int.toNat x0.1+(IntKind.i64.wrap ((IntKind.u64.wrap (IntKind.i64.wrap (x2+x3))).fdiv (2^min 1 IntKind.u64.bits))).toNat) 0,x4.getD (Int.toNat x0.1+x1.toNat) 0,x5,x6,x7,())).bind fun v=>bif decide (v.1<0) then some (Sum.inl (((↑(Int.toNat x0.1):Int),(↑(Int.toNat x0.2):Int)),x1,IntKind.i64.wrap (IntKind.i64.wrap ((IntKind.u64.wrap (IntKind.i64.wrap (x2+x3))).fdiv (2^min 1 IntKind.u64.bits))+1),x3,x4,v.2.1,v.2.2.1,v.2.2.2.1,())) else some (Sum.inl (((↑(Int.toNat x0.1):Int),(↑(Int.toNat x0.2):Int)),x1,x2,IntKind.i64.wrap ((IntKind.u64.wrap (IntKind.i64.wrap (x2+x3))).fdiv (2^min 1 IntKind.u64.bits)),x4,v.2.1,v.2.2.1,v.2.2.2.1,())) else none else none else some (Sum.inr (((↑(Int.toNat x0.1):Int),(↑(Int.toNat x0.2):Int)),x1,x2,x4,x5,x6,x7,()))
theorem h243_l0 (f177:T177) (f243:T243) (f249:T249):AqL (K243 f177 f243 f249) 2 (subc (code Tryz.f243) [0,1,0,1,1,0,0,0]) .nil Li81 Lo82 (F243_l0 f177 f243 f249):=fun v=>by kernel_rfl
def C243_l0 (G:T243):T243_l0:=loopN (F243_l0 C177 G C249) big
theorem k243_l0 (G:T243) (hG:FnOk Tryz.prog 243 (E243 G)):LpOk 2 (subc (code Tryz.f243) [0,1,0,1,1,0,0,0]) (E243_l0 (C243_l0 G)) :=
 frag_big (ins:=Li81) (os:=Lo82) (C:=(C243_l0 G)) (frag_loop (ins:=Li81) (os:=Lo82) (n := .nil) (F:=F243_l0 C177 G C249) hm hΓ (kok243 G hG) (fun _=>big) (ann_nil _) (h243_l0 C177 G C249)) rfl
def F243_l1 (f177:T177) (f243:T243) (f249:T249):LpF ((Int×Int)×Int×Int×List (Int)×LqA×LqB×LqC×Unit) (List (Int)×LqA×LqB×LqC×Unit):=fun (x0,x1,x2,x3,x4,x5,x6,_)=>bif decide (x2<IntKind.i64.wrap (x1-1)) then bif decide (0≤IntKind.i64.wrap (x2+1))&&decide (IntKind.i64.wrap (x2+1)<(↑(Int.toNat x0.2):Int)) then bif decide (0≤x2)&&decide (x2<(↑(Int.toNat x0.2):Int)) then bif decide (0≤x2)&&decide (x2<(↑(Int.toNat x0.2):Int)) then bif decide (0≤IntKind.i64.wrap (x2+1))&&decide (IntKind.i64.wrap (x2+1)<(↑(Int.toNat x0.2):Int)) then some (Sum.inl (((↑(Int.toNat x0.1):Int),(↑(Int.toNat x0.2):Int)),x1,IntKind.i64.wrap (x2+1),(x3.set (Int.toNat x0.1+x2.toNat) (x3.getD (Int.toNat x0.1+(IntKind.i64.wrap (x2+1)).toNat) 0)).set (Int.toNat x0.1+(IntKind.i64.wrap (x2+1)).toNat) (x3.getD (Int.toNat x0.1+x2.toNat) 0),x4,x5,x6,())) else none else none else none else none else some (Sum.inr (x3,x4,x5,x6,()))
theorem h243_l1 (f177:T177) (f243:T243) (f249:T249):AqL (K243 f177 f243 f249) 2 (subc (code Tryz.f243) [0,1,0,1,1,1,0,1,0,0]) .nil Li83 Lo84 (F243_l1 f177 f243 f249):=fun v=>by kernel_rfl
def C243_l1 (G:T243):T243_l1:=loopN (F243_l1 C177 G C249) big
theorem k243_l1 (G:T243) (hG:FnOk Tryz.prog 243 (E243 G)):LpOk 2 (subc (code Tryz.f243) [0,1,0,1,1,1,0,1,0,0]) (E243_l1 (C243_l1 G)) :=
 frag_big (ins:=Li83) (os:=Lo84) (C:=(C243_l1 G)) (frag_loop (ins:=Li83) (os:=Lo84) (n := .nil) (F:=F243_l1 C177 G C249) hm hΓ (kok243 G hG) (fun _=>big) (ann_nil _) (h243_l1 C177 G C249)) rfl
def F243_l2 (f177:T177) (f243:T243) (f249:T249):LpF ((Int×Int)×Int×Int×Int×List (Int)×LqA×LqB×LqC×Unit) ((Int×Int)×Int×Int×List (Int)×LqA×LqB×LqC×Unit):=fun (x0,x1,x2,x3,x4,x5,x6,x7,_)=>bif decide (x2<x3) then bif decide (0≤x1)&&decide (x1<(↑(Int.toNat x0.2):Int)) then bif decide (0≤IntKind.i64.wrap ((IntKind.u64.wrap (IntKind.i64.wrap (x2+x3))).fdiv (2^min 1 IntKind.u64.bits)))&&decide (IntKind.i64.wrap ((IntKind.u64.wrap (IntKind.i64.wrap (x2+x3))).fdiv (2^min 1 IntKind.u64.bits))<(↑(Int.toNat x0.2):Int)) then (f177 (x4.getD (Int.toNat x0.1+x1.toNat) 0,x4.getD (Int.toNat x0.1+(IntKind.i64.wrap ((IntKind.u64.wrap (IntKind.i64.wrap (x2+x3))).fdiv (2^min 1 IntKind.u64.bits))).toNat) 0,x5,x6,x7,())).bind fun v=>bif !decide (v.1<0) then some (Sum.inl (((↑(Int.toNat x0.1):Int),(↑(Int.toNat x0.2):Int)),x1,IntKind.i64.wrap (IntKind.i64.wrap ((IntKind.u64.wrap (IntKind.i64.wrap (x2+x3))).fdiv (2^min 1 IntKind.u64.bits))+1),x3,x4,v.2.1,v.2.2.1,v.2.2.2.1,())) else some (Sum.inl (((↑(Int.toNat x0.1):Int),(↑(Int.toNat x0.2):Int)),x1,x2,IntKind.i64.wrap ((IntKind.u64.wrap (IntKind.i64.wrap (x2+x3))).fdiv (2^min 1 IntKind.u64.bits)),x4,v.2.1,v.2.2.1,v.2.2.2.1,())) else none else none else some (Sum.inr (((↑(Int.toNat x0.1):Int),(↑(Int.toNat x0.2):Int)),x1,x2,x4,x5,x6,x7,()))
theorem h243_l2 (f177:T177) (f243:T243) (f249:T249):AqL (K243 f177 f243 f249) 2 (subc (code Tryz.f243) [1,0,1,0,1,1,0,0,0]) .nil Li85 Lo86 (F243_l2 f177 f243 f249):=fun v=>by kernel_rfl
def C243_l2 (G:T243):T243_l2:=loopN (F243_l2 C177 G C249) big
theorem k243_l2 (G:T243) (hG:FnOk Tryz.prog 243 (E243 G)):LpOk 2 (subc (code Tryz.f243) [1,0,1,0,1,1,0,0,0]) (E243_l2 (C243_l2 G)) :=
 frag_big (ins:=Li85) (os:=Lo86) (C:=(C243_l2 G)) (frag_loop (ins:=Li85) (os:=Lo86) (n := .nil) (F:=F243_l2 C177 G C249) hm hΓ (kok243 G hG) (fun _=>big) (ann_nil _) (h243_l2 C177 G C249)) rfl
def F243_l3 (f177:T177) (f243:T243) (f249:T249):LpF ((Int×Int)×Int×Int×List (Int)×LqA×LqB×LqC×Unit) (List (Int)×LqA×LqB×LqC×Unit):=fun (x0,x1,x2,x3,x4,x5,x6,_)=>bif decide (x2>x1) then bif decide (0≤IntKind.i64.wrap (x2-1))&&decide (IntKind.i64.wrap (x2-1)<(↑(Int.toNat x0.2):Int)) then bif decide (0≤x2)&&decide (x2<(↑(Int.toNat x0.2):Int)) then bif decide (0≤x2)&&decide (x2<(↑(Int.toNat x0.2):Int)) then bif decide (0≤IntKind.i64.wrap (x2-1))&&decide (IntKind.i64.wrap (x2-1)<(↑(Int.toNat x0.2):Int)) then some (Sum.inl (((↑(Int.toNat x0.1):Int),(↑(Int.toNat x0.2):Int)),x1,IntKind.i64.wrap (x2-1),(x3.set (Int.toNat x0.1+x2.toNat) (x3.getD (Int.toNat x0.1+(IntKind.i64.wrap (x2-1)).toNat) 0)).set (Int.toNat x0.1+(IntKind.i64.wrap (x2-1)).toNat) (x3.getD (Int.toNat x0.1+x2.toNat) 0),x4,x5,x6,())) else none else none else none else none else some (Sum.inr (x3,x4,x5,x6,()))
theorem h243_l3 (f177:T177) (f243:T243) (f249:T249):AqL (K243 f177 f243 f249) 2 (subc (code Tryz.f243) [1,0,1,0,1,1,1,0,1,0,0]) .nil Li87 Lo88 (F243_l3 f177 f243 f249):=fun v=>by kernel_rfl
def C243_l3 (G:T243):T243_l3:=loopN (F243_l3 C177 G C249) big
theorem k243_l3 (G:T243) (hG:FnOk Tryz.prog 243 (E243 G)):LpOk 2 (subc (code Tryz.f243) [1,0,1,0,1,1,1,0,1,0,0]) (E243_l3 (C243_l3 G)) :=
 frag_big (ins:=Li87) (os:=Lo88) (C:=(C243_l3 G)) (frag_loop (ins:=Li87) (os:=Lo88) (n := .nil) (F:=F243_l3 C177 G C249) hm hΓ (kok243 G hG) (fun _=>big) (ann_nil _) (h243_l3 C177 G C249)) rfl
def F243_l4 (f177:T177) (f243:T243) (f249:T249):LpF ((Int×Int)×Int×Int×Int×Int×Int×Int×Int×Int×List (Int)×LqA×LqB×LqC×Unit) ((Int×Int)×Int×Int×Int×Int×Int×Int×List (Int)×LqA×LqB×LqC×Unit):=fun (x0,x1,x2,x3,x4,x5,x6,x7,x8,x9,x10,x11,x12,_)=>bif decide (x6<x7) then bif decide (0≤IntKind.i64.wrap (x8-IntKind.i64.wrap ((IntKind.u64.wrap (IntKind.i64.wrap (x6+x7))).fdiv (2^min 1 IntKind.u64.bits))))&&decide (IntKind.i64.wrap (x8-IntKind.i64.wrap ((IntKind.u64.wrap (IntKind.i64.wrap (x6+x7))).fdiv (2^min 1 IntKind.u64.bits)))<(↑(Int.toNat x0.2):Int)) then bif decide (0≤IntKind.i64.wrap ((IntKind.u64.wrap (IntKind.i64.wrap (x6+x7))).fdiv (2^min 1 IntKind.u64.bits)))&&decide (IntKind.i64.wrap ((IntKind.u64.wrap (IntKind.i64.wrap (x6+x7))).fdiv (2^min 1 IntKind.u64.bits))<(↑(Int.toNat x0.2):Int)) then (f177 (x9.getD (Int.toNat x0.1+(IntKind.i64.wrap (x8-IntKind.i64.wrap ((IntKind.u64.wrap (IntKind.i64.wrap (x6+x7))).fdiv (2^min 1 IntKind.u64.bits)))).toNat) 0,x9.getD (Int.toNat x0.1+(IntKind.i64.wrap ((IntKind.u64.wrap (IntKind.i64.wrap (x6+x7))).fdiv (2^min 1 IntKind.u64.bits))).toNat) 0,x10,x11,x12,())).bind fun v=>bif !decide (v.1<0) then some (Sum.inl (((↑(Int.toNat x0.1):Int),(↑(Int.toNat x0.2):Int)),x1,x2,x3,x4,x5,IntKind.i64.wrap (IntKind.i64.wrap ((IntKind.u64.wrap (IntKind.i64.wrap (x6+x7))).fdiv (2^min 1 IntKind.u64.bits))+1),x7,x8,x9,v.2.1,v.2.2.1,v.2.2.2.1,())) else some (Sum.inl (((↑(Int.toNat x0.1):Int),(↑(Int.toNat x0.2):Int)),x1,x2,x3,x4,x5,x6,IntKind.i64.wrap ((IntKind.u64.wrap (IntKind.i64.wrap (x6+x7))).fdiv (2^min 1 IntKind.u64.bits)),x8,x9,v.2.1,v.2.2.1,v.2.2.2.1,())) else none else none else some (Sum.inr (((↑(Int.toNat x0.1):Int),(↑(Int.toNat x0.2):Int)),x1,x2,x3,x4,x5,x6,x9,x10,x11,x12,()))
theorem h243_l4 (f177:T177) (f243:T243) (f249:T249):AqL (K243 f177 f243 f249) 2 (subc (code Tryz.f243) [1,1,1,1,1,1,1,0,0,0]) .nil Li89 Lo90 (F243_l4 f177 f243 f249):=fun v=>by kernel_rfl
def C243_l4 (G:T243):T243_l4:=loopN (F243_l4 C177 G C249) big
theorem k243_l4 (G:T243) (hG:FnOk Tryz.prog 243 (E243 G)):LpOk 2 (subc (code Tryz.f243) [1,1,1,1,1,1,1,0,0,0]) (E243_l4 (C243_l4 G)) :=
 frag_big (ins:=Li89) (os:=Lo90) (C:=(C243_l4 G)) (frag_loop (ins:=Li89) (os:=Lo90) (n := .nil) (F:=F243_l4 C177 G C249) hm hΓ (kok243 G hG) (fun _=>big) (ann_nil _) (h243_l4 C177 G C249)) rfl
def F243_c0 (f177:T177) (f243:T243) (f249:T249):T243_c0:=fun (x0,x1,x2,x3,x4,x5,x6,x7,_)=>bif decide (x2<x3) then bif decide (x3<x1) then (f243 (((↑(Int.toNat x0.1):Int),(↑(Int.toNat x0.2):Int)),x2,x3,x1,x4,x5,x6,x7,())).bind fun v=>some (v.1,v.2.1,v.2.2.1,v.2.2.2.1,()) else some (x4,x5,x6,x7,()) else some (x4,x5,x6,x7,())
theorem h243_c0 (f177:T177) (f243:T243) (f249:T249):AqC (K243 f177 f243 f249) 2 (subc (code Tryz.f243) [1,1,1,1,1,1,1,1,1,1,1]) .nil Li91 Lo92 (F243_c0 f177 f243 f249):=fun v=>by kernel_rfl
def C243_c0 (G:T243):T243_c0:=F243_c0 C177 G C249
theorem k243_c0 (G:T243) (hG:FnOk Tryz.prog 243 (E243 G)):CdOk 2 (subc (code Tryz.f243) [1,1,1,1,1,1,1,1,1,1,1]) (E243_c0 (C243_c0 G)) :=
 frag_code (ins:=Li91) (os:=Lo92) (n := .nil) (F:=(C243_c0 G)) hm hΓ (kok243 G hG) (ann_nil _) (h243_c0 C177 G C249)
def N243_c1 (f243_c0:T243_c0):Ann:=(.cut .nil (E243_c0 f243_c0))
def F243_c1 (f177:T177) (f243:T243) (f249:T249) (f243_c0:T243_c0):T243_c1:=fun (x0,x1,x2,x3,x4,x5,x6,x7,x8,x9,_)=>bif decide (x1<x4) then bif decide (x4<x3) then (f243 (((↑(Int.toNat x0.1):Int),(↑(Int.toNat x0.2):Int)),x1,x4,x3,x6,x7,x8,x9,())).bind fun v=>(f243_c0 (((↑(Int.toNat x0.1):Int),(↑(Int.toNat x0.2):Int)),x2,x3,x5,v.1,v.2.1,v.2.2.1,v.2.2.2.1,())).bind fun v=>some (v.1,v.2.1,v.2.2.1,v.2.2.2.1,()) else (f243_c0 (((↑(Int.toNat x0.1):Int),(↑(Int.toNat x0.2):Int)),x2,x3,x5,x6,x7,x8,x9,())).bind fun v=>some (v.1,v.2.1,v.2.2.1,v.2.2.2.1,()) else (f243_c0 (((↑(Int.toNat x0.1):Int),(↑(Int.toNat x0.2):Int)),x2,x3,x5,x6,x7,x8,x9,())).bind fun v=>some (v.1,v.2.1,v.2.2.1,v.2.2.2.1,())
theorem h243_c1 (f177:T177) (f243:T243) (f249:T249) (f243_c0:T243_c0):AqC (K243 f177 f243 f249) 2 (subc (code Tryz.f243) [1,1,1,1,1,1,1,1,1,1]) (N243_c1 f243_c0) Li93 Lo92 (F243_c1 f177 f243 f249 f243_c0):=fun v=>by kernel_rfl
def C243_c1 (G:T243):T243_c1:=F243_c1 C177 G C249 (C243_c0 G)
theorem k243_c1 (G:T243) (hG:FnOk Tryz.prog 243 (E243 G)):CdOk 2 (subc (code Tryz.f243) [1,1,1,1,1,1,1,1,1,1]) (E243_c1 (C243_c1 G)) :=
 frag_code (ins:=Li93) (os:=Lo92) (n:=(N243_c1 (C243_c0 G))) (F:=(C243_c1 G)) hm hΓ (kok243 G hG) (ann_obs (And.intro (k243_c0 G hG) trivial) (by kernel_rfl)) (h243_c1 C177 G C249 (C243_c0 G))
def N243_c2 (f243_c1:T243_c1) (f243_l4:T243_l4):Ann:=(.seq .nil (.seq (.blk (.loop (E243_l4 f243_l4))) (.seq .nil (.cut .nil (E243_c1 f243_c1)))))
def F243_c2 (f177:T177) (f243:T243) (f249:T249) (f243_c1:T243_c1) (f243_l4:T243_l4):T243_c2:=fun (x0,x1,x2,x3,x4,x5,x6,x7,x8,x9,x10,x11,_)=>(f243_l4 (((↑(Int.toNat x0.1):Int),(↑(Int.toNat x0.2):Int)),x1,x2,x3,x4,x5,x6,x7,IntKind.i64.wrap (x5-1),x8,x9,x10,x11,())).bind fun v=>bif decide (v.2.2.2.2.2.2.1<v.2.2.1) then bif decide (v.2.2.1<IntKind.i64.wrap (v.2.2.2.2.2.1-v.2.2.2.2.2.2.1)) then (f249 (((↑(Int.toNat v.1.1):Int),(↑(Int.toNat v.1.2):Int)),v.2.2.2.2.2.2.1,v.2.2.1,IntKind.i64.wrap (v.2.2.2.2.2.1-v.2.2.2.2.2.2.1),v.2.2.2.2.2.2.2.1,v.2.2.2.2.2.2.2.2.1,v.2.2.2.2.2.2.2.2.2.1,v.2.2.2.2.2.2.2.2.2.2.1,())).bind fun v1=>(f243_c1 (((↑(Int.toNat v.1.1):Int),(↑(Int.toNat v.1.2):Int)),v.2.1,v.2.2.2.1,v.2.2.2.2.1,v.2.2.2.2.2.2.1,IntKind.i64.wrap (v.2.2.2.2.2.1-v.2.2.2.2.2.2.1),v1.1,v1.2.1,v1.2.2.1,v1.2.2.2.1,())).bind fun v=>some (v.1,v.2.1,v.2.2.1,v.2.2.2.1,()) else (f243_c1 (((↑(Int.toNat v.1.1):Int),(↑(Int.toNat v.1.2):Int)),v.2.1,v.2.2.2.1,v.2.2.2.2.1,v.2.2.2.2.2.2.1,IntKind.i64.wrap (v.2.2.2.2.2.1-v.2.2.2.2.2.2.1),v.2.2.2.2.2.2.2.1,v.2.2.2.2.2.2.2.2.1,v.2.2.2.2.2.2.2.2.2.1,v.2.2.2.2.2.2.2.2.2.2.1,())).bind fun v=>some (v.1,v.2.1,v.2.2.1,v.2.2.2.1,()) else (f243_c1 (((↑(Int.toNat v.1.1):Int),(↑(Int.toNat v.1.2):Int)),v.2.1,v.2.2.2.1,v.2.2.2.2.1,v.2.2.2.2.2.2.1,IntKind.i64.wrap (v.2.2.2.2.2.1-v.2.2.2.2.2.2.1),v.2.2.2.2.2.2.2.1,v.2.2.2.2.2.2.2.2.1,v.2.2.2.2.2.2.2.2.2.1,v.2.2.2.2.2.2.2.2.2.2.1,())).bind fun v=>some (v.1,v.2.1,v.2.2.1,v.2.2.2.1,())
theorem h243_c2 (f177:T177) (f243:T243) (f249:T249) (f243_c1:T243_c1) (f243_l4:T243_l4):AqC (K243 f177 f243 f249) 2 (subc (code Tryz.f243) [1,1,1,1,1,1]) (N243_c2 f243_c1 f243_l4) Li94 Lo92 (F243_c2 f177 f243 f249 f243_c1 f243_l4):=fun v=>by kernel_rfl
def C243_c2 (G:T243):T243_c2:=F243_c2 C177 G C249 (C243_c1 G) (C243_l4 G)
theorem k243_c2 (G:T243) (hG:FnOk Tryz.prog 243 (E243 G)):CdOk 2 (subc (code Tryz.f243) [1,1,1,1,1,1]) (E243_c2 (C243_c2 G)) :=
 frag_code (ins:=Li94) (os:=Lo92) (n:=(N243_c2 (C243_c1 G) (C243_l4 G))) (F:=(C243_c2 G)) hm hΓ (kok243 G hG) (ann_obs (And.intro (k243_l4 G hG) (And.intro (k243_c1 G hG) trivial)) (by kernel_rfl)) (h243_c2 C177 G C249 (C243_c1 G) (C243_l4 G))
def N243 (f243_c2:T243_c2) (f243_l0:T243_l0) (f243_l1:T243_l1) (f243_l2:T243_l2) (f243_l3:T243_l3):Ann:=(.seq (.seq .nil (.cond (.seq .nil (.seq .nil (.seq (.blk (.loop (E243_l0 f243_l0))) (.seq (.seq .nil (.blk (.loop (E243_l1 f243_l1)))) .nil)))) .nil)) (.seq (.seq .nil (.cond (.seq .nil (.seq .nil (.seq (.blk (.loop (E243_l2 f243_l2))) (.seq (.seq .nil (.blk (.loop (E243_l3 f243_l3)))) .nil)))) .nil)) (.seq .nil (.seq .nil (.seq .nil (.cut .nil (E243_c2 f243_c2)))))))
def F243 (f177:T177) (f243:T243) (f249:T249) (f243_c2:T243_c2) (f243_l0:T243_l0) (f243_l1:T243_l1) (f243_l2:T243_l2) (f243_l3:T243_l3):T243:=fun (x0,x1,x2,x3,x4,x5,x6,x7,_)=>bif IntKind.i64.wrap (x2-x1)==1 then (f243_l0 (((↑(Int.toNat x0.1):Int),(↑(Int.toNat x0.2):Int)),x1,x2,x3,x4,x5,x6,x7,())).bind fun v=>(f243_l1 (((↑(Int.toNat v.1.1):Int),(↑(Int.toNat v.1.2):Int)),v.2.2.1,v.2.1,v.2.2.2.1,v.2.2.2.2.1,v.2.2.2.2.2.1,v.2.2.2.2.2.2.1,())).bind fun v=>some (v.1,v.2.1,v.2.2.1,v.2.2.2.1,()) else bif IntKind.i64.wrap (x3-x2)==1 then (f243_l2 (((↑(Int.toNat x0.1):Int),(↑(Int.toNat x0.2):Int)),x2,x1,x2,x4,x5,x6,x7,())).bind fun v=>(f243_l3 (((↑(Int.toNat v.1.1):Int),(↑(Int.toNat v.1.2):Int)),v.2.2.1,v.2.1,v.2.2.2.1,v.2.2.2.2.1,v.2.2.2.2.2.1,v.2.2.2.2.2.2.1,())).bind fun v=>some (v.1,v.2.1,v.2.2.1,v.2.2.2.1,()) else bif decide (x2>IntKind.i64.wrap ((IntKind.u64.wrap (IntKind.i64.wrap (x1+x3))).fdiv (2^min 1 IntKind.u64.bits))) then (f243_c2 (((↑(Int.toNat x0.1):Int),(↑(Int.toNat x0.2):Int)),x1,x2,x3,IntKind.i64.wrap ((IntKind.u64.wrap (IntKind.i64.wrap (x1+x3))).fdiv (2^min 1 IntKind.u64.bits)),IntKind.i64.wrap (IntKind.i64.wrap ((IntKind.u64.wrap (IntKind.i64.wrap (x1+x3))).fdiv (2^min 1 IntKind.u64.bits))+x2),IntKind.i64.wrap (IntKind.i64.wrap (IntKind.i64.wrap ((IntKind.u64.wrap (IntKind.i64.wrap (x1+x3))).fdiv (2^min 1 IntKind.u64.bits))+x2)-x3),IntKind.i64.wrap ((IntKind.u64.wrap (IntKind.i64.wrap (x1+x3))).fdiv (2^min 1 IntKind.u64.bits)),x4,x5,x6,x7,())).bind fun v=>some (v.1,v.2.1,v.2.2.1,v.2.2.2.1,()) else (f243_c2 (((↑(Int.toNat x0.1):Int),(↑(Int.toNat x0.2):Int)),x1,x2,x3,IntKind.i64.wrap ((IntKind.u64.wrap (IntKind.i64.wrap (x1+x3))).fdiv (2^min 1 IntKind.u64.bits)),IntKind.i64.wrap (IntKind.i64.wrap ((IntKind.u64.wrap (IntKind.i64.wrap (x1+x3))).fdiv (2^min 1 IntKind.u64.bits))+x2),x1,x2,x4,x5,x6,x7,())).bind fun v=>some (v.1,v.2.1,v.2.2.1,v.2.2.2.1,())
theorem h243 (f177:T177) (f243:T243) (f249:T249) (f243_c2:T243_c2) (f243_l0:T243_l0) (f243_l1:T243_l1) (f243_l2:T243_l2) (f243_l3:T243_l3):AqF (K243 f177 f243 f249) 2 Tryz.f243 (N243 f243_c2 f243_l0 f243_l1 f243_l2 f243_l3) Li76 Lo70 (F243 f177 f243 f249 f243_c2 f243_l0 f243_l1 f243_l2 f243_l3):=fun v=>by kernel_rfl
def C243:T243:=recN (fun G=>F243 C177 G C249 (C243_c2 G) (C243_l0 G) (C243_l1 G) (C243_l2 G) (C243_l3 G)) big
theorem ok243:FO 243 (E243 C243) :=
 fn_rec (ins:=Li76) (os:=Lo70) (F:=fun G=>F243 C177 G C249 (C243_c2 G) (C243_l0 G) (C243_l1 G) (C243_l2 G) (C243_l3 G)) (fun G hG=>qo (kok243 G hG) Tryz.func243 (And.intro (k243_l0 G hG) (And.intro (k243_l1 G hG) (And.intro (k243_l2 G hG) (And.intro (k243_l3 G hG) (And.intro (k243_c2 G hG) trivial))))) (h243 C177 G C249 (C243_c2 G) (C243_l0 G) (C243_l1 G) (C243_l2 G) (C243_l3 G))) big
abbrev T224_l0:=(Int×Int)×Int×Int×Int×Int×List (Int)×LqA×LqB×LqC×Unit→Option ((Int×Int)×Int×Int×Int×List (Int)×LqA×LqB×LqC×Unit)
def E224_l0 (f:T224_l0):LEnt:=⟨Li96,Lo97,f⟩
abbrev T224_l1:=(Int×Int)×Int×Int×Int×Int×List (Int)×LqA×LqB×LqC×Unit→Option ((Int×Int)×Int×Int×Int×List (Int)×LqA×LqB×LqC×Unit)
def E224_l1 (f:T224_l1):LEnt:=⟨Li96,Lo98,f⟩
abbrev T224_l2:=(Int×Int)×Int×Int×List (Int)×LqA×LqB×LqC×Unit→Option (List (Int)×LqA×LqB×LqC×Unit)
def E224_l2 (f:T224_l2):LEnt:=⟨Li99,Lo100,f⟩
abbrev T224:=(Int×Int)×Int×List (Int)×LqA×LqB×LqC×Unit→Option (List (Int)×LqA×LqB×LqC×Unit)
def E224 (f:T224):FEnt:=⟨Li95,Lo70,f⟩
def K224 (f242:T242) (f243:T243):=lk [(242,E242 f242),(243,E243 f243)]
theorem kok224:KOk Tryz.prog (K224 C242 C243):=(kc ok242 (kc ok243 kn))
def F224_l0 (f242:T242) (f243:T243):LpF ((Int×Int)×Int×Int×Int×Int×List (Int)×LqA×LqB×LqC×Unit) ((Int×Int)×Int×Int×Int×List (Int)×LqA×LqB×LqC×Unit):=fun (x0,x1,x2,x3,x4,x5,x6,x7,x8,_)=>bif decide (x4≤x1) then (f242 (((↑(Int.toNat x0.1):Int),(↑(Int.toNat x0.2):Int)),x3,x4,x5,x6,x7,x8,())).bind fun v=>some (Sum.inl (((↑(Int.toNat x0.1):Int),(↑(Int.toNat x0.2):Int)),x1,x2,x4,IntKind.i64.wrap (x4+x2),v.1,v.2.1,v.2.2.1,v.2.2.2.1,())) else some (Sum.inr (((↑(Int.toNat x0.1):Int),(↑(Int.toNat x0.2):Int)),x1,x2,x3,x5,x6,x7,x8,()))
def C224_l0:T224_l0:=loopN (F224_l0 C242 C243) big
theorem k224_l0:LpOk 2 (subc (code Tryz.f224) [1,1,0,0,0]) (E224_l0 C224_l0):=zl2 Li96 Lo97 K224 F224_l0 C242 C243 kok224
def F224_l1 (f242:T242) (f243:T243):LpF ((Int×Int)×Int×Int×Int×Int×List (Int)×LqA×LqB×LqC×Unit) ((Int×Int)×Int×Int×Int×List (Int)×LqA×LqB×LqC×Unit):=fun (x0,x1,x2,x3,x4,x5,x6,x7,x8,_)=>bif decide (x4≤x1) then (f243 (((↑(Int.toNat x0.1):Int),(↑(Int.toNat x0.2):Int)),x3,IntKind.i64.wrap (x3+x2),x4,x5,x6,x7,x8,())).bind fun v=>some (Sum.inl (((↑(Int.toNat x0.1):Int),(↑(Int.toNat x0.2):Int)),x1,x2,x4,IntKind.i64.wrap (x4+IntKind.i64.wrap (2*x2)),v.1,v.2.1,v.2.2.1,v.2.2.2.1,())) else some (Sum.inr (((↑(Int.toNat x0.1):Int),(↑(Int.toNat x0.2):Int)),x1,x2,x3,x5,x6,x7,x8,()))
def C224_l1:T224_l1:=loopN (F224_l1 C242 C243) big
theorem k224_l1:LpOk 2 (subc (code Tryz.f224) [1,1,1,1,0,0,1,0,1,0,0,0]) (E224_l1 C224_l1):=zl2 Li96 Lo98 K224 F224_l1 C242 C243 kok224
def N224_l2 (f224_l1:T224_l1):Ann:=(.seq .nil (.blk (.seq .nil (.seq (.blk (.loop (E224_l1 f224_l1))) .nil))))
def F224_l2 (f242:T242) (f243:T243) (f224_l1:T224_l1):LpF ((Int×Int)×Int×Int×List (Int)×LqA×LqB×LqC×Unit) (List (Int)×LqA×LqB×LqC×Unit):=fun (x0,x1,x2,x3,x4,x5,x6,_)=>bif decide (x2<x1) then (f224_l1 (((↑(Int.toNat x0.1):Int),(↑(Int.toNat x0.2):Int)),x1,x2,0,IntKind.i64.wrap (2*x2),x3,x4,x5,x6,())).bind fun v=>bif decide (IntKind.i64.wrap (v.2.2.2.1+v.2.2.1)<v.2.1) then (f243 (((↑(Int.toNat v.1.1):Int),(↑(Int.toNat v.1.2):Int)),v.2.2.2.1,IntKind.i64.wrap (v.2.2.2.1+v.2.2.1),v.2.1,v.2.2.2.2.1,v.2.2.2.2.2.1,v.2.2.2.2.2.2.1,v.2.2.2.2.2.2.2.1,())).bind fun v1=>some (Sum.inl (((↑(Int.toNat v.1.1):Int),(↑(Int.toNat v.1.2):Int)),v.2.1,IntKind.i64.wrap (v.2.2.1*2),v1.1,v1.2.1,v1.2.2.1,v1.2.2.2.1,())) else some (Sum.inl (((↑(Int.toNat v.1.1):Int),(↑(Int.toNat v.1.2):Int)),v.2.1,IntKind.i64.wrap (v.2.2.1*2),v.2.2.2.2.1,v.2.2.2.2.2.1,v.2.2.2.2.2.2.1,v.2.2.2.2.2.2.2.1,())) else some (Sum.inr (x3,x4,x5,x6,()))
theorem h224_l2 (f242:T242) (f243:T243) (f224_l1:T224_l1):AqL (K224 f242 f243) 2 (subc (code Tryz.f224) [1,1,1,1,0,0]) (N224_l2 f224_l1) Li99 Lo100 (F224_l2 f242 f243 f224_l1):=fun v=>by kernel_rfl
def C224_l2:T224_l2:=loopN (F224_l2 C242 C243 C224_l1) big
theorem k224_l2:LpOk 2 (subc (code Tryz.f224) [1,1,1,1,0,0]) (E224_l2 C224_l2) :=
 frm kok224 (And.intro k224_l1 trivial) (h224_l2 C242 C243 C224_l1)
def N224 (f224_l0:T224_l0) (f224_l2:T224_l2):Ann:=(.seq .nil (.seq .nil (.seq (.blk (.loop (E224_l0 f224_l0))) (.seq .nil (.blk (.loop (E224_l2 f224_l2)))))))
def F224 (f242:T242) (f243:T243) (f224_l0:T224_l0) (f224_l2:T224_l2):T224:=fun (x0,x1,x2,x3,x4,x5,_)=>(f224_l0 (((↑(Int.toNat x0.1):Int),(↑(Int.toNat x0.2):Int)),x1,20,0,20,x2,x3,x4,x5,())).bind fun v=>(f242 (((↑(Int.toNat v.1.1):Int),(↑(Int.toNat v.1.2):Int)),v.2.2.2.1,v.2.1,v.2.2.2.2.1,v.2.2.2.2.2.1,v.2.2.2.2.2.2.1,v.2.2.2.2.2.2.2.1,())).bind fun v1=>(f224_l2 (((↑(Int.toNat v.1.1):Int),(↑(Int.toNat v.1.2):Int)),v.2.1,v.2.2.1,v1.1,v1.2.1,v1.2.2.1,v1.2.2.2.1,())).bind fun v=>some (v.1,v.2.1,v.2.2.1,v.2.2.2.1,())
theorem h224 (f242:T242) (f243:T243) (f224_l0:T224_l0) (f224_l2:T224_l2):AqF (K224 f242 f243) 2 Tryz.f224 (N224 f224_l0 f224_l2) Li95 Lo70 (F224 f242 f243 f224_l0 f224_l2):=fun v=>by kernel_rfl
def C224:T224:=F224 C242 C243 C224_l0 C224_l2
theorem ok224:FO 224 (E224 C224) :=
 qo kok224 Tryz.func224 (And.intro k224_l0 (And.intro k224_l2 trivial)) (h224 C242 C243 C224_l0 C224_l2)
abbrev T176:=(Int×Int)×List (Int)×LqA×LqB×LqC×Unit→Option (List (Int)×LqA×LqB×LqC×Unit)
def E176 (f:T176):FEnt:=⟨Li101,Lo70,f⟩
def K176 (f224:T224):=lk [(224,E224 f224)]
def F176 (f224:T224):T176:=fun (x0,x1,x2,x3,x4,_)=>(f224 (((↑(Int.toNat x0.1):Int),(↑(Int.toNat x0.2):Int)),(↑(Int.toNat x0.2):Int),x1,x2,x3,x4,())).bind fun v=>some (v.1,v.2.1,v.2.2.1,v.2.2.2.1,())
theorem h176 (f224:T224):AqF (K176 f224) 2 Tryz.f176 .nil Li101 Lo70 (F176 f224):=fun v=>by kernel_rfl
def C176:T176:=F176 C224
theorem ok176:FO 176 (E176 C176) :=
 q0 (kc ok224 kn) Tryz.func176 (h176 C224)
abbrev T142_c0:=Int×Int×LqA×LqB×LqC×List (Int)×Unit→Option (Int×Int×LqA×LqB×LqC×List (Int)×Unit)
def E142_c0 (f:T142_c0):LEnt:=⟨Li102,Lo103,f⟩
abbrev T142_l0:=Int×Int×LqA×LqB×LqC×List (Int)×Unit→Option (List (Int)×Unit)
def E142_l0 (f:T142_l0):LEnt:=⟨Li102,Lo104,f⟩
abbrev T142:=LqA×LqB×LqC×List (Int)×Unit→Option (List (Int)×Unit)
def E142 (f:T142):FEnt:=⟨Li9,Lo38,f⟩
def K142 (f174:T174) (f175:T175) (f176:T176):=lk [(174,E174 f174),(175,E175 f175),(176,E176 f176)]
theorem kok142:KOk Tryz.prog (K142 C174 C175 C176):=(kc ok174 (kc ok175 (kc ok176 kn)))
def F142_c0 (f174:T174) (f175:T175) (f176:T176):T142_c0:=fun (x0,x1,x2,x3,x4,x5,_)=>bif decide (0≤x1)&&decide (x1≤(↑x5.length:Int)) then bif decide (0≤x0)&&decide (x0≤x1) then (f176 (((↑x0.toNat:Int),(↑(x1.toNat-x0.toNat):Int)),x5,x2,x3,x4,())).bind fun v=>some (IntKind.i64.wrap (x1+1),x1,v.2.1,v.2.2.1,v.2.2.2.1,v.1,()) else none else none
def C142_c0:T142_c0:=F142_c0 C174 C175 C176
theorem k142_c0:CdOk 0 (subc (code Tryz.f142) [1,1,1,0,1,0,0,1,0,0,1]) (E142_c0 C142_c0):=zc3 Li102 Lo103 K142 F142_c0 C174 C175 C176 kok142
def N142_l0 (f142_c0:T142_c0):Ann:=(.seq .nil (.seq (.blk (.cut .nil (E142_c0 f142_c0))) .nil))
def F142_l0 (f174:T174) (f175:T175) (f176:T176) (f142_c0:T142_c0):LpF (Int×Int×LqA×LqB×LqC×List (Int)×Unit) (List (Int)×Unit):=fun (x0,x1,x2,x3,x4,x5,_)=>bif decide (x1≤(↑x5.length:Int)) then bif decide (x1<(↑x5.length:Int)) then bif decide (0≤x1)&&decide (x1<(↑x5.length:Int)) then (f175 (x2,x3,x4,x5.getD x1.toNat 0,())).bind fun v=>bif decide (v.1>0) then some (Sum.inl (x0,IntKind.i64.wrap (x1+1),x2,x3,x4,x5,())) else (f142_c0 (x0,x1,x2,x3,x4,x5,())).bind fun v=>some (Sum.inl (v.1,IntKind.i64.wrap (v.2.1+1),v.2.2.1,v.2.2.2.1,v.2.2.2.2.1,v.2.2.2.2.2.1,())) else none else (f142_c0 (x0,x1,x2,x3,x4,x5,())).bind fun v=>some (Sum.inl (v.1,IntKind.i64.wrap (v.2.1+1),v.2.2.1,v.2.2.2.1,v.2.2.2.2.1,v.2.2.2.2.2.1,())) else some (Sum.inr (x5,()))
theorem h142_l0 (f174:T174) (f175:T175) (f176:T176) (f142_c0:T142_c0):AqL (K142 f174 f175 f176) 0 (subc (code Tryz.f142) [1,1,1,0,1,0,0]) (N142_l0 f142_c0) Li102 Lo104 (F142_l0 f174 f175 f176 f142_c0):=fun v=>by kernel_rfl
def C142_l0:T142_l0:=loopN (F142_l0 C174 C175 C176 C142_c0) big
theorem k142_l0:LpOk 0 (subc (code Tryz.f142) [1,1,1,0,1,0,0]) (E142_l0 C142_l0) :=
 frm kok142 (And.intro k142_c0 trivial) (h142_l0 C174 C175 C176 C142_c0)
def N142 (f142_l0:T142_l0):Ann:=(.seq .nil (.seq .nil (.seq .nil (.seq (.seq .nil (.blk (.loop (E142_l0 f142_l0)))) .nil))))
def F142 (f174:T174) (f175:T175) (f176:T176) (f142_l0:T142_l0):T142:=fun (x0,x1,x2,x3,_)=>(f174 (x3,())).bind fun v=>(f142_l0 (0,0,x0,x1,x2,v.1,())).bind fun v=>some (v.1,())
def C142:T142:=F142 C174 C175 C176 C142_l0
theorem ok142:FO 142 (E142 C142):=zq3_1 Li9 Lo38 K142 N142 F142 C174 C175 C176 C142_l0 kok142 Tryz.func142 (And.intro k142_l0 trivial)
abbrev T225:=Int×Int×Int×Unit→Option (Bool×Unit)
def E225 (f:T225):FEnt:=⟨Li52,Lo27,f⟩
def F225:T225:=fun (x0,x1,x2,_)=>bif decide (x0≥x1) then some (decide (x0<IntKind.i32.wrap (x1+IntKind.i32.wrap x2)),()) else some (false,())
def C225:T225:=F225
theorem ok225:FO 225 (E225 C225):=zq0 Li52 Lo27 KqZ F225 kn Tryz.func225
abbrev T226:=Int×Unit→Option (List (Int)×Unit)
def E226 (f:T226):FEnt:=⟨Li26,Lo38,f⟩
def F226:T226:=fun (x0,_)=>bif decide ((IntKind.i32.wrap (x0-44032)).tmod 28>0) then some ([IntKind.i32.wrap (4352+IntKind.i32.wrap ((IntKind.i32.wrap (x0-44032)).tdiv 588)),IntKind.i32.wrap (4449+(IntKind.i32.wrap ((IntKind.i32.wrap (x0-44032)).tdiv 28)).tmod 21)]++[IntKind.i32.wrap (4519+(IntKind.i32.wrap (x0-44032)).tmod 28)],()) else some ([IntKind.i32.wrap (4352+IntKind.i32.wrap ((IntKind.i32.wrap (x0-44032)).tdiv 588)),IntKind.i32.wrap (4449+(IntKind.i32.wrap ((IntKind.i32.wrap (x0-44032)).tdiv 28)).tmod 21)],())
def C226:T226:=F226
theorem ok226:FO 226 (E226 C226):=zq0 Li26 Lo38 KqZ F226 kn Tryz.func226
abbrev T227_l0:=List (List (Int))×Int×List (List (Int))×Int×Int×Unit→Option (List (List (Int))×Int×Unit)
def E227_l0 (f:T227_l0):LEnt:=⟨Li54,Lo55,f⟩
abbrev T227_l1:=List (List (Int))×Int×Int×List (Int)×Unit→Option (List (Int)×Unit)
def E227_l1 (f:T227_l1):LEnt:=⟨Li56,Lo57,f⟩
abbrev T227:=List (List (Int))×Unit→Option (List (Int)×Unit)
def E227 (f:T227):FEnt:=⟨Li53,Lo38,f⟩
def K227 (f244:T244):=lk [(244,E244 f244)]
theorem kok227:KOk Tryz.prog (K227 C244):=(kc ok244 kn)
def F227_l0 (f244:T244):LpF (List (List (Int))×Int×List (List (Int))×Int×Int×Unit) (List (List (Int))×Int×Unit):=fun (x0,x1,x2,x3,x4,_)=>bif decide (x4<x3) then bif decide (0≤x4)&&decide (x4<(↑x2.length:Int)) then bif decide (IntKind.i64.wrap (x1+(↑(List.length (x2.getD x4.toNat [])):Int))<0) then none else some (Sum.inl (x0,IntKind.i64.wrap (x1+(↑(List.length (x2.getD x4.toNat [])):Int)),x2,x3,IntKind.i64.wrap (x4+1),())) else none else some (Sum.inr (x0,x1,()))
def C227_l0:T227_l0:=loopN (F227_l0 C244) big
theorem k227_l0:LpOk 0 (subc (code Tryz.f227) [1,1,0,1,0,0]) (E227_l0 C227_l0):=zl1 Li54 Lo55 K227 F227_l0 C244 kok227
def F227_l1 (f244:T244):LpF (List (List (Int))×Int×Int×List (Int)×Unit) (List (Int)×Unit):=fun (x0,x1,x2,x3,_)=>bif decide (x2<x1) then bif decide (0≤x2)&&decide (x2<(↑x0.length:Int)) then bif decide (x3.length+List.length (x0.getD x2.toNat [])≤140737488355328/4) then some (Sum.inl (x0,x1,IntKind.i64.wrap (x2+1),x3++x0.getD x2.toNat [],())) else none else none else some (Sum.inr (x3,()))
def C227_l1:T227_l1:=loopN (F227_l1 C244) big
theorem k227_l1:LpOk 0 (subc (code Tryz.f227) [1,1,1,1,0,1,0,0]) (E227_l1 C227_l1):=zl1 Li56 Lo57 K227 F227_l1 C244 kok227
def N227 (f227_l0:T227_l0) (f227_l1:T227_l1):Ann:=(.seq .nil (.seq .nil (.seq (.seq .nil (.blk (.loop (E227_l0 f227_l0)))) (.seq .nil (.seq (.seq .nil (.blk (.loop (E227_l1 f227_l1)))) .nil)))))
def F227 (f244:T244) (f227_l0:T227_l0) (f227_l1:T227_l1):T227:=fun (x0,_)=>(f227_l0 (x0,0,x0,(↑x0.length:Int),0,())).bind fun v=>(f244 (v.2.1,())).bind fun v1=>(f227_l1 (v.1,(↑(List.length v.1):Int),0,v1.1,())).bind fun v=>some (v.1,())
theorem h227 (f244:T244) (f227_l0:T227_l0) (f227_l1:T227_l1):AqF (K227 f244) 0 Tryz.f227 (N227 f227_l0 f227_l1) Li53 Lo38 (F227 f244 f227_l0 f227_l1):=fun v=>by kernel_rfl
def C227:T227:=F227 C244 C227_l0 C227_l1
theorem ok227:FO 227 (E227 C227) :=
 qo kok227 Tryz.func227 (And.intro k227_l0 (And.intro k227_l1 trivial)) (h227 C244 C227_l0 C227_l1)
abbrev T178_c0:=Int×Bool×Bool×LqA×LqB×LqC×Int×Int×Int×Bool×Bool×Unit→Option ((List (Int)×Unit)⊕(Bool×LqA×LqB×LqC×Int×Int×Int×Bool×Bool×Unit))
def E178_c0 (f:T178_c0):LEnt:=⟨Li59,Lo60,f⟩
abbrev T178:=LqA×LqB×LqC×Int×Bool×Unit→Option (List (Int)×Unit)
def E178 (f:T178):FEnt:=⟨Li58,Lo38,f⟩
def K178 (f119:T119) (f178:T178) (f225:T225) (f226:T226) (f227:T227):=lk [(119,E119 f119),(178,E178 f178),(225,E225 f225),(226,E226 f226),(227,E227 f227)]
theorem kok178 (G:T178) (hG:FnOk Tryz.prog 178 (E178 G)):KOk Tryz.prog (K178 C119 G C225 C226 C227):=(kc ok119 (kc hG (kc ok225 (kc ok226 (kc ok227 kn)))))
def F178_c0 (f119:T119) (f178:T178) (f225:T225) (f226:T226) (f227:T227):T178_c0:=fun (x0,x1,x2,x3,x4,x5,x6,x7,x8,x9,x10,_)=>bif x2 then some (Sum.inl ([x0],())) else bif x8==0 then (f178 (x3,x4,x5,x7,x1,())).bind fun v=>some (Sum.inl (v.1,())) else some (Sum.inr (x1,x3,x4,x5,x6,x7,x8,x9,x10,()))
theorem h178_c0 (f119:T119) (f178:T178) (f225:T225) (f226:T226) (f227:T227):AqC (K178 f119 f178 f225 f226 f227) 0 (subc (code Tryz.f178) [1,1,0,0,1,1,1]) .nil Li59 Lo60 (F178_c0 f119 f178 f225 f226 f227):=fun v=>by kernel_rfl
def C178_c0 (G:T178):T178_c0:=F178_c0 C119 G C225 C226 C227
theorem k178_c0 (G:T178) (hG:FnOk Tryz.prog 178 (E178 G)):CdOk 0 (subc (code Tryz.f178) [1,1,0,0,1,1,1]) (E178_c0 (C178_c0 G)) :=
 frag_code (ins:=Li59) (os:=Lo60) (n := .nil) (F:=(C178_c0 G)) hm hΓ (kok178 G hG) (ann_nil _) (h178_c0 C119 G C225 C226 C227)
def N178 (f178_c0:T178_c0):Ann:=(.seq .nil (.seq .nil (.seq (.blk (.seq .nil (.cond .nil (.cut .nil (E178_c0 f178_c0))))) .nil)))
def F178 (f119:T119) (f178:T178) (f225:T225) (f226:T226) (f227:T227) (f178_c0:T178_c0):T178:=fun (x0,x1,x2,x3,x4,_)=>(f119 (x0,x1,x2,x3,())).bind fun v=>(f225 (x3,44032,11172,())).bind fun v1=>bif v1.1 then (f226 (x3,())).bind fun v=>some (v.1,()) else bif !v.2.2.2.2.2.1 then (f178_c0 (x3,x4,true,x0,x1,x2,v.1,v.2.1,v.2.2.1,v.2.2.2.1,v.2.2.2.2.1,())).bind fun v=>Sum.elim (fun v=>some (v.1,())) (fun v=>(f178 (v.2.1,v.2.2.1,v.2.2.2.1,v.2.2.2.2.2.1,v.1,())).bind fun v2=>(f178 (v.2.1,v.2.2.1,v.2.2.2.1,v.2.2.2.2.2.2.1,v.1,())).bind fun v=>(f227 ([v2.1,v.1],())).bind fun v=>some (v.1,())) v else bif v.2.2.2.1 then (f178_c0 (x3,x4,!x4,x0,x1,x2,v.1,v.2.1,v.2.2.1,v.2.2.2.1,v.2.2.2.2.1,())).bind fun v=>Sum.elim (fun v=>some (v.1,())) (fun v=>(f178 (v.2.1,v.2.2.1,v.2.2.2.1,v.2.2.2.2.2.1,v.1,())).bind fun v2=>(f178 (v.2.1,v.2.2.1,v.2.2.2.1,v.2.2.2.2.2.2.1,v.1,())).bind fun v=>(f227 ([v2.1,v.1],())).bind fun v=>some (v.1,())) v else (f178_c0 (x3,x4,false,x0,x1,x2,v.1,v.2.1,v.2.2.1,v.2.2.2.1,v.2.2.2.2.1,())).bind fun v=>Sum.elim (fun v=>some (v.1,())) (fun v=>(f178 (v.2.1,v.2.2.1,v.2.2.2.1,v.2.2.2.2.2.1,v.1,())).bind fun v2=>(f178 (v.2.1,v.2.2.1,v.2.2.2.1,v.2.2.2.2.2.2.1,v.1,())).bind fun v=>(f227 ([v2.1,v.1],())).bind fun v=>some (v.1,())) v
theorem h178 (f119:T119) (f178:T178) (f225:T225) (f226:T226) (f227:T227) (f178_c0:T178_c0):AqF (K178 f119 f178 f225 f226 f227) 0 Tryz.f178 (N178 f178_c0) Li58 Lo38 (F178 f119 f178 f225 f226 f227 f178_c0):=fun v=>by kernel_rfl
def C178:T178:=recN (fun G=>F178 C119 G C225 C226 C227 (C178_c0 G)) big
theorem ok178:FO 178 (E178 C178) :=
 fn_rec (ins:=Li58) (os:=Lo38) (F:=fun G=>F178 C119 G C225 C226 C227 (C178_c0 G)) (fun G hG=>qo (kok178 G hG) Tryz.func178 (And.intro (k178_c0 G hG) trivial) (h178 C119 G C225 C226 C227 (C178_c0 G))) big
abbrev T143_l0:=Bool×List (Int)×Int×Int×LqA×LqB×LqC×List (Int)×Unit→Option (List (Int)×Unit)
def E143_l0 (f:T143_l0):LEnt:=⟨Li62,Lo63,f⟩
abbrev T143:=LqA×LqB×LqC×List (Int)×Bool×Unit→Option (List (Int)×Unit)
def E143 (f:T143):FEnt:=⟨Li61,Lo38,f⟩
def K143 (f178:T178):=lk [(178,E178 f178)]
theorem kok143:KOk Tryz.prog (K143 C178):=(kc ok178 kn)
def F143_l0 (f178:T178):LpF (Bool×List (Int)×Int×Int×LqA×LqB×LqC×List (Int)×Unit) (List (Int)×Unit):=fun (x0,x1,x2,x3,x4,x5,x6,x7,_)=>bif decide (x3<x2) then bif decide (0≤x3)&&decide (x3<(↑x1.length:Int)) then (f178 (x4,x5,x6,x1.getD x3.toNat 0,x0,())).bind fun v=>bif decide (x7.length+List.length v.1≤140737488355328/4) then some (Sum.inl (x0,x1,x2,IntKind.i64.wrap (x3+1),x4,x5,x6,x7++v.1,())) else none else none else some (Sum.inr (x7,()))
def C143_l0:T143_l0:=loopN (F143_l0 C178) big
theorem k143_l0:LpOk 0 (subc (code Tryz.f143) [1,1,0,1,0,0]) (E143_l0 C143_l0):=zl1 Li62 Lo63 K143 F143_l0 C178 kok143
def N143 (f143_l0:T143_l0):Ann:=(.seq .nil (.seq .nil (.seq (.seq .nil (.blk (.loop (E143_l0 f143_l0)))) .nil)))
def F143 (f178:T178) (f143_l0:T143_l0):T143:=fun (x0,x1,x2,x3,x4,_)=>(f143_l0 (x4,x3,(↑x3.length:Int),0,x0,x1,x2,[],())).bind fun v=>some (v.1,())
def C143:T143:=F143 C178 C143_l0
theorem ok143:FO 143 (E143 C143):=zq1_1 Li61 Lo38 K143 N143 F143 C178 C143_l0 kok143 Tryz.func143 (And.intro k143_l0 trivial)
abbrev T179_c0:=Int×Int×Bool×LqA×LqB×LqC×Unit→Option ((Int×Bool×Unit)⊕(Int×Int×LqA×LqB×LqC×Unit))
def E179_c0 (f:T179_c0):LEnt:=⟨Li105,Lo106,f⟩
abbrev T179:=LqA×LqB×LqC×Int×Int×Unit→Option (Int×Bool×Unit)
def E179 (f:T179):FEnt:=⟨Li5,Lo6,f⟩
def K179 (f225:T225) (f228:T228):=lk [(225,E225 f225),(228,E228 f228)]
theorem kok179:KOk Tryz.prog (K179 C225 C228):=(kc ok225 (kc ok228 kn))
def F179_c0 (f225:T225) (f228:T228):T179_c0:=fun (x0,x1,x2,x3,x4,x5,_)=>bif x2 then some (Sum.inl (IntKind.i32.wrap (44032+IntKind.i32.wrap (IntKind.i32.wrap (IntKind.i32.wrap (IntKind.i32.wrap (IntKind.i32.wrap (x0-4352)*21)+x1)-4449)*28)),true,())) else (f225 (x0,44032,11172,())).bind fun v=>bif v.1 then bif (IntKind.i32.wrap (x0-44032)).tmod 28==0 then (f225 (x1,4520,27,())).bind fun v=>bif v.1 then some (Sum.inl (IntKind.i32.wrap (IntKind.i32.wrap (x0+x1)-4519),true,())) else some (Sum.inr (x0,x1,x3,x4,x5,())) else some (Sum.inr (x0,x1,x3,x4,x5,())) else some (Sum.inr (x0,x1,x3,x4,x5,()))
def C179_c0:T179_c0:=F179_c0 C225 C228
theorem k179_c0:CdOk 0 (subc (code Tryz.f179) [1,0,0,1]) (E179_c0 C179_c0):=zc2 Li105 Lo106 K179 F179_c0 C225 C228 kok179
def N179 (f179_c0:T179_c0):Ann:=(.seq .nil (.seq (.blk (.cut .nil (E179_c0 f179_c0))) .nil))
def F179 (f225:T225) (f228:T228) (f179_c0:T179_c0):T179:=fun (x0,x1,x2,x3,x4,_)=>(f225 (x3,4352,19,())).bind fun v=>bif v.1 then (f225 (x4,4449,21,())).bind fun v=>(f179_c0 (x3,x4,v.1,x0,x1,x2,())).bind fun v=>Sum.elim (fun v=>some (v.1,v.2.1,())) (fun v=>(f228 (v.2.2.1,v.2.2.2.1,v.2.2.2.2.1,v.1,v.2.1,())).bind fun v=>some (v.1,v.2.1,())) v else (f179_c0 (x3,x4,false,x0,x1,x2,())).bind fun v=>Sum.elim (fun v=>some (v.1,v.2.1,())) (fun v=>(f228 (v.2.2.1,v.2.2.2.1,v.2.2.2.2.1,v.1,v.2.1,())).bind fun v=>some (v.1,v.2.1,())) v
def C179:T179:=F179 C225 C228 C179_c0
theorem ok179:FO 179 (E179 C179):=zq2_1 Li5 Lo6 K179 N179 F179 C225 C228 C179_c0 kok179 Tryz.func179 (And.intro k179_c0 trivial)
abbrev T144_c0:=Int×Int×Int×Int×List (Int)×Int×Int×Bool×LqA×LqB×LqC×List (Int)×Unit→Option ((Int×Int×List (Int)×Int×Int×LqA×LqB×LqC×List (Int)×Unit)⊕(Int×Int×Int×Int×List (Int)×Int×Int×LqA×LqB×LqC×List (Int)×Unit))
def E144_c0 (f:T144_c0):LEnt:=⟨Li107,Lo108,f⟩
abbrev T144_l0:=Int×Int×List (Int)×Int×Int×LqA×LqB×LqC×List (Int)×Unit→Option (List (Int)×Unit)
def E144_l0 (f:T144_l0):LEnt:=⟨Li109,Lo110,f⟩
abbrev T144:=LqA×LqB×LqC×List (Int)×Unit→Option (List (Int)×Unit)
def E144 (f:T144):FEnt:=⟨Li9,Lo38,f⟩
def K144 (f175:T175) (f179:T179):=lk [(175,E175 f175),(179,E179 f179)]
theorem kok144:KOk Tryz.prog (K144 C175 C179):=(kc ok175 (kc ok179 kn))
def F144_c0 (f175:T175) (f179:T179):T144_c0:=fun (x0,x1,x2,x3,x4,x5,x6,x7,x8,x9,x10,x11,_)=>bif x7 then bif decide (0≤x0)&&decide (x0<(↑x11.length:Int)) then (f179 (x8,x9,x10,x11.getD x0.toNat 0,x2,())).bind fun v=>bif v.2.1 then bif decide (0≤x0)&&decide (x0<(↑x11.length:Int)) then some (Sum.inl (x0,x1,x4,x5,x6,x8,x9,x10,x11.set x0.toNat v.1,())) else none else some (Sum.inr (x0,x1,x2,x3,x4,x5,x6,x8,x9,x10,x11,())) else none else some (Sum.inr (x0,x1,x2,x3,x4,x5,x6,x8,x9,x10,x11,()))
def C144_c0:T144_c0:=F144_c0 C175 C179
theorem k144_c0:CdOk 0 (subc (code Tryz.f144) [1,1,1,0,1,0,0,1,1,0,0,1,1,0,1]) (E144_c0 C144_c0):=zc2 Li107 Lo108 K144 F144_c0 C175 C179 kok144
def N144_l0 (f144_c0:T144_c0):Ann:=(.seq .nil (.seq .nil (.seq (.blk (.seq .nil (.seq .nil (.seq (.cut .nil (E144_c0 f144_c0)) .nil)))) .nil)))
def F144_l0 (f175:T175) (f179:T179) (f144_c0:T144_c0):LpF (Int×Int×List (Int)×Int×Int×LqA×LqB×LqC×List (Int)×Unit) (List (Int)×Unit):=fun (x0,x1,x2,x3,x4,x5,x6,x7,x8,_)=>bif decide (x4<x3) then bif decide (0≤x4)&&decide (x4<(↑x2.length:Int)) then (f175 (x5,x6,x7,x2.getD x4.toNat 0,())).bind fun v=>bif decide (x0≥0) then bif decide (x1<v.1) then (f144_c0 (x0,x1,x2.getD x4.toNat 0,v.1,x2,x3,x4,true,x5,x6,x7,x8,())).bind fun v=>Sum.elim (fun v=>some (Sum.inl (v.1,v.2.1,v.2.2.1,v.2.2.2.1,IntKind.i64.wrap (v.2.2.2.2.1+1),v.2.2.2.2.2.1,v.2.2.2.2.2.2.1,v.2.2.2.2.2.2.2.1,v.2.2.2.2.2.2.2.2.1,()))) (fun v=>bif decide (List.length v.2.2.2.2.2.2.2.2.2.2.1+[v.2.2.1].length≤140737488355328/4) then bif v.2.2.2.1==0 then some (Sum.inl (IntKind.i64.wrap ((↑(v.2.2.2.2.2.2.2.2.2.2.1++[v.2.2.1]).length:Int)-1),0,v.2.2.2.2.1,v.2.2.2.2.2.1,IntKind.i64.wrap (v.2.2.2.2.2.2.1+1),v.2.2.2.2.2.2.2.1,v.2.2.2.2.2.2.2.2.1,v.2.2.2.2.2.2.2.2.2.1,v.2.2.2.2.2.2.2.2.2.2.1++[v.2.2.1],())) else some (Sum.inl (v.1,if v.2.2.2.1>v.2.1 then v.2.2.2.1 else v.2.1,v.2.2.2.2.1,v.2.2.2.2.2.1,IntKind.i64.wrap (v.2.2.2.2.2.2.1+1),v.2.2.2.2.2.2.2.1,v.2.2.2.2.2.2.2.2.1,v.2.2.2.2.2.2.2.2.2.1,v.2.2.2.2.2.2.2.2.2.2.1++[v.2.2.1],())) else none) v else (f144_c0 (x0,x1,x2.getD x4.toNat 0,v.1,x2,x3,x4,x0==IntKind.i64.wrap ((↑x8.length:Int)-1),x5,x6,x7,x8,())).bind fun v=>Sum.elim (fun v=>some (Sum.inl (v.1,v.2.1,v.2.2.1,v.2.2.2.1,IntKind.i64.wrap (v.2.2.2.2.1+1),v.2.2.2.2.2.1,v.2.2.2.2.2.2.1,v.2.2.2.2.2.2.2.1,v.2.2.2.2.2.2.2.2.1,()))) (fun v=>bif decide (List.length v.2.2.2.2.2.2.2.2.2.2.1+[v.2.2.1].length≤140737488355328/4) then bif v.2.2.2.1==0 then some (Sum.inl (IntKind.i64.wrap ((↑(v.2.2.2.2.2.2.2.2.2.2.1++[v.2.2.1]).length:Int)-1),0,v.2.2.2.2.1,v.2.2.2.2.2.1,IntKind.i64.wrap (v.2.2.2.2.2.2.1+1),v.2.2.2.2.2.2.2.1,v.2.2.2.2.2.2.2.2.1,v.2.2.2.2.2.2.2.2.2.1,v.2.2.2.2.2.2.2.2.2.2.1++[v.2.2.1],())) else some (Sum.inl (v.1,if v.2.2.2.1>v.2.1 then v.2.2.2.1 else v.2.1,v.2.2.2.2.1,v.2.2.2.2.2.1,IntKind.i64.wrap (v.2.2.2.2.2.2.1+1),v.2.2.2.2.2.2.2.1,v.2.2.2.2.2.2.2.2.1,v.2.2.2.2.2.2.2.2.2.1,v.2.2.2.2.2.2.2.2.2.2.1++[v.2.2.1],())) else none) v else (f144_c0 (x0,x1,x2.getD x4.toNat 0,v.1,x2,x3,x4,false,x5,x6,x7,x8,())).bind fun v=>Sum.elim (fun v=>some (Sum.inl (v.1,v.2.1,v.2.2.1,v.2.2.2.1,IntKind.i64.wrap (v.2.2.2.2.1+1),v.2.2.2.2.2.1,v.2.2.2.2.2.2.1,v.2.2.2.2.2.2.2.1,v.2.2.2.2.2.2.2.2.1,()))) (fun v=>bif decide (List.length v.2.2.2.2.2.2.2.2.2.2.1+[v.2.2.1].length≤140737488355328/4) then bif v.2.2.2.1==0 then some (Sum.inl (IntKind.i64.wrap ((↑(v.2.2.2.2.2.2.2.2.2.2.1++[v.2.2.1]).length:Int)-1),0,v.2.2.2.2.1,v.2.2.2.2.2.1,IntKind.i64.wrap (v.2.2.2.2.2.2.1+1),v.2.2.2.2.2.2.2.1,v.2.2.2.2.2.2.2.2.1,v.2.2.2.2.2.2.2.2.2.1,v.2.2.2.2.2.2.2.2.2.2.1++[v.2.2.1],())) else some (Sum.inl (v.1,if v.2.2.2.1>v.2.1 then v.2.2.2.1 else v.2.1,v.2.2.2.2.1,v.2.2.2.2.2.1,IntKind.i64.wrap (v.2.2.2.2.2.2.1+1),v.2.2.2.2.2.2.2.1,v.2.2.2.2.2.2.2.2.1,v.2.2.2.2.2.2.2.2.2.1,v.2.2.2.2.2.2.2.2.2.2.1++[v.2.2.1],())) else none) v else none else some (Sum.inr (x8,()))
theorem h144_l0 (f175:T175) (f179:T179) (f144_c0:T144_c0):AqL (K144 f175 f179) 0 (subc (code Tryz.f144) [1,1,1,0,1,0,0]) (N144_l0 f144_c0) Li109 Lo110 (F144_l0 f175 f179 f144_c0):=fun v=>by kernel_rfl
def C144_l0:T144_l0:=loopN (F144_l0 C175 C179 C144_c0) big
theorem k144_l0:LpOk 0 (subc (code Tryz.f144) [1,1,1,0,1,0,0]) (E144_l0 C144_l0) :=
 frm kok144 (And.intro k144_c0 trivial) (h144_l0 C175 C179 C144_c0)
def N144 (f144_l0:T144_l0):Ann:=(.seq .nil (.seq .nil (.seq .nil (.seq (.seq .nil (.blk (.loop (E144_l0 f144_l0)))) .nil))))
def F144 (f175:T175) (f179:T179) (f144_l0:T144_l0):T144:=fun (x0,x1,x2,x3,_)=>(f144_l0 (-1,0,x3,(↑x3.length:Int),0,x0,x1,x2,[],())).bind fun v=>some (v.1,())
def C144:T144:=F144 C175 C179 C144_l0
theorem ok144:FO 144 (E144 C144):=zq2_1 Li9 Lo38 K144 N144 F144 C175 C179 C144_l0 kok144 Tryz.func144 (And.intro k144_l0 trivial)
abbrev T63_c0:=Int×Bool×Unit→Option ((Int×Int×Unit)⊕Unit)
def E63_c0 (f:T63_c0):LEnt:=⟨Li23,Lo24,f⟩
abbrev T63_c1:=Int×Bool×Unit→Option ((Int×Int×Unit)⊕Unit)
def E63_c1 (f:T63_c1):LEnt:=⟨Li25,Lo24,f⟩
abbrev T63:=Int×Unit→Option (Int×Int×Unit)
def E63 (f:T63):FEnt:=⟨Li21,Lo22,f⟩
def F63_c0:T63_c0:=fun (x0,x1,_)=>bif x1 then some (Sum.inl (2,IntKind.i32.wrap (intBits BinOp.and IntKind.u8 x0 15),())) else bif decide (x0≥240) then bif decide (x0<245) then some (Sum.inl (3,IntKind.i32.wrap (intBits BinOp.and IntKind.u8 x0 7),())) else some (Sum.inr ()) else some (Sum.inr ())
def C63_c0:T63_c0:=F63_c0
theorem k63_c0:CdOk 0 (subc (code Tryz.f63) [1,0,0,1,1,1,1,1]) (E63_c0 C63_c0):=zc0 Li23 Lo24 KqZ F63_c0 kn
def N63_c1 (f63_c0:T63_c0):Ann:=(.cond .nil (.cut .nil (E63_c0 f63_c0)))
def F63_c1 (f63_c0:T63_c0):T63_c1:=fun (x0,x1,_)=>bif x1 then some (Sum.inl (1,IntKind.i32.wrap (intBits BinOp.and IntKind.u8 x0 31),())) else bif decide (x0≥224) then (f63_c0 (x0,decide (x0<240),())).bind fun v=>Sum.elim (fun v=>some (Sum.inl (v.1,v.2.1,()))) (fun v=>some (Sum.inr ())) v else (f63_c0 (x0,false,())).bind fun v=>Sum.elim (fun v=>some (Sum.inl (v.1,v.2.1,()))) (fun v=>some (Sum.inr ())) v
theorem h63_c1 (f63_c0:T63_c0):AqC KqZ 0 (subc (code Tryz.f63) [1,0,0,1,1,1]) (N63_c1 f63_c0) Li25 Lo24 (F63_c1 f63_c0):=fun v=>by kernel_rfl
def C63_c1:T63_c1:=F63_c1 C63_c0
theorem k63_c1:CdOk 0 (subc (code Tryz.f63) [1,0,0,1,1,1]) (E63_c1 C63_c1) :=
 frd kn (And.intro k63_c0 trivial) (h63_c1 C63_c0)
def N63 (f63_c1:T63_c1):Ann:=(.seq .nil (.seq (.blk (.seq .nil (.cond .nil (.cut .nil (E63_c1 f63_c1))))) .nil))
def F63 (f63_c1:T63_c1):T63:=fun (x0,_)=>bif decide (x0<128) then some (0,IntKind.i32.wrap x0,()) else bif decide (x0≥194) then (f63_c1 (x0,decide (x0<224),())).bind fun v=>Sum.elim (fun v=>some (v.1,v.2.1,())) (fun v=>some (-1,0,())) v else (f63_c1 (x0,false,())).bind fun v=>Sum.elim (fun v=>some (v.1,v.2.1,())) (fun v=>some (-1,0,())) v
def C63:T63:=F63 C63_c1
theorem ok63:FO 63 (E63 C63):=zq0_1 Li21 Lo22 KqZ N63 F63 C63_c1 kn Tryz.func63 (And.intro k63_c1 trivial)
abbrev T64:=Int×Unit→Option (Int×Unit)
def E64 (f:T64):FEnt:=⟨Li26,Lo10,f⟩
def K64 (f98:T98):=lk [(98,E98 f98)]
def F64 (f98:T98):T64:=fun (x0,_)=>(f98 (x0,())).bind fun v=>bif !v.1 then some (0,()) else bif decide (x0≤127) then some (1,()) else bif decide (x0≤2047) then some (2,()) else bif decide (x0≤65535) then some (3,()) else some (4,())
def C64:T64:=F64 C98
theorem ok64:FO 64 (E64 C64):=zq1 Li26 Lo10 K64 F64 C98 (kc ok98 kn) Tryz.func64
abbrev T34_l0:=LqS×Int×Int×Int×Int×List (Int)×Unit→Option ((LqS×Int×Int×Int×List (Int)×Unit)⊕(Int×List (Int)×Unit))
def E34_l0 (f:T34_l0):LEnt:=⟨Li30,Lo31,f⟩
abbrev T34_l1:=LqS×Int×List (Int)×Unit→Option ((List (Int)×Unit)⊕(Int×List (Int)×Unit))
def E34_l1 (f:T34_l1):LEnt:=⟨Li32,Lo33,f⟩
abbrev T34_g0:=Int×List (Int)×Unit→Option (Int×List (Int)×Unit)
def E34_g0 (f:T34_g0):LEnt:=⟨Li34,Lo35,f⟩
abbrev T34:=LqS×Unit→Option (List (Int)×Int×Unit)
def E34 (f:T34):FEnt:=⟨Li28,Lo29,f⟩
def K34 (f63:T63) (f64:T64):=lk [(63,E63 f63),(64,E64 f64)]
theorem kok34:KOk Tryz.prog (K34 C63 C64):=(kc ok63 (kc ok64 kn))
def F34_l0 (f63:T63) (f64:T64):LpF (LqS×Int×Int×Int×Int×List (Int)×Unit) ((LqS×Int×Int×Int×List (Int)×Unit)⊕(Int×List (Int)×Unit)):=fun (x0,x1,x2,x3,x4,x5,_)=>bif decide (x4≤IntKind.i64.wrap (x3+x1)) then bif decide (0≤x4)&&decide (x4<(↑x0.length:Int)) then bif intBits BinOp.andNot IntKind.u8 (↑(x0.getD x4.toNat 0).toNat:Int) 63 != 128 then some (Sum.inr (Sum.inr (x3,x5,()))) else bif decide (0≤x4)&&decide (x4<(↑x0.length:Int)) then some (Sum.inl (x0,x1,intBits BinOp.or IntKind.i32 (IntKind.i32.wrap (x2*2^min 6 IntKind.i32.bits)) (IntKind.i32.wrap (intBits BinOp.and IntKind.u8 (↑(x0.getD x4.toNat 0).toNat:Int) 63)),x3,IntKind.i64.wrap (x4+1),x5,())) else none else none else some (Sum.inr (Sum.inl (x0,x1,x2,x3,x5,())))
def C34_l0:T34_l0:=loopN (F34_l0 C63 C64) big
theorem k34_l0:LpOk 0 (subc (code Tryz.f34) [1,0,1,1,1,1,0,0,0,1,0,1,1,0,1,0,0]) (E34_l0 C34_l0):=zl2 Li30 Lo31 K34 F34_l0 C63 C64 kok34
def N34_l1 (f34_l0:T34_l0):Ann:=(.seq .nil (.blk (.seq .nil (.seq .nil (.seq (.seq .nil (.blk (.loop (E34_l0 f34_l0)))) .nil)))))
def F34_l1 (f63:T63) (f64:T64) (f34_l0:T34_l0):LpF (LqS×Int×List (Int)×Unit) ((List (Int)×Unit)⊕(Int×List (Int)×Unit)):=fun (x0,x1,x2,_)=>bif decide (x1<(↑x0.length:Int)) then bif decide (0≤x1)&&decide (x1<(↑x0.length:Int)) then (f63 ((↑(x0.getD x1.toNat 0).toNat:Int),())).bind fun v=>bif decide (v.1<0) then some (Sum.inr (Sum.inr (x1,x2,()))) else bif decide (IntKind.i64.wrap ((↑x0.length:Int)-x1)≤v.1) then some (Sum.inr (Sum.inr (x1,x2,()))) else (f34_l0 (x0,v.1,v.2.1,x1,IntKind.i64.wrap (x1+1),x2,())).bind fun v=>Sum.elim (fun v=>(f64 (v.2.2.1,())).bind fun v1=>bif v1.1 != IntKind.i64.wrap (v.2.1+1) then some (Sum.inr (Sum.inr (v.2.2.2.1,v.2.2.2.2.1,()))) else bif decide (List.length v.2.2.2.2.1+[v.2.2.1].length≤140737488355328/4) then some (Sum.inl (v.1,IntKind.i64.wrap (v.2.2.2.1+IntKind.i64.wrap (v.2.1+1)),v.2.2.2.2.1++[v.2.2.1],())) else none) (fun v=>some (Sum.inr (Sum.inr (v.1,v.2.1,())))) v else none else some (Sum.inr (Sum.inl (x2,())))
theorem h34_l1 (f63:T63) (f64:T64) (f34_l0:T34_l0):AqL (K34 f63 f64) 0 (subc (code Tryz.f34) [1,0,1,1,1,1,0,0,0]) (N34_l1 f34_l0) Li32 Lo33 (F34_l1 f63 f64 f34_l0):=fun v=>by kernel_rfl
def C34_l1:T34_l1:=loopN (F34_l1 C63 C64 C34_l0) big
theorem k34_l1:LpOk 0 (subc (code Tryz.f34) [1,0,1,1,1,1,0,0,0]) (E34_l1 C34_l1) :=
 frm kok34 (And.intro k34_l0 trivial) (h34_l1 C63 C64 C34_l0)
def F34_g0 (f63:T63) (f64:T64):LpF (Int×List (Int)×Unit) (Int×List (Int)×Unit):=fun (x0,x1,_)=>some (Sum.inr (x0,x1,()))
theorem h34_g0 (f63:T63) (f64:T64) (v:HS Li34):aev Γ (K34 f63 f64) 0 ((findLabel (subc (code Tryz.f34) [1,0]) 0).getD .skip) .nil (stof Li34 v) (aroundL 0 0 [] Li34 Lo35)=F34_g0 f63 f64 v:=by kernel_rfl
def C34_g0:T34_g0:=loopN (F34_g0 C63 C64) big
theorem k34_g0:FragOk Tryz.prog 0 (ScopeFrom Tryz.prog (subc (code Tryz.f34) [1,0]) 0) (E34_g0 C34_g0) :=
 frag_big (ins:=Li34) (os:=Lo35) (C:=C34_g0) (frag_label (ins:=Li34) (os:=Lo35) (n := .nil) (ls:=[]) (F:=F34_g0 C63 C64) (rest:=((findLabel (subc (code Tryz.f34) [1,0]) 0).getD .skip)) hm hΓ kok34 (fun _=>big) (by kernel_rfl) (ann_nil _) find_nil (h34_g0 C63 C64)) rfl
def N34 (f34_g0:T34_g0) (f34_l1:T34_l1):Ann:=(.seq .nil (.scope (.seq .nil (.seq .nil (.seq .nil (.seq .nil (.seq (.blk (.loop (E34_l1 f34_l1))) .nil))))) [(0,(E34_g0 f34_g0))]))
def F34 (f63:T63) (f64:T64) (f34_g0:T34_g0) (f34_l1:T34_l1):T34:=fun (x0,_)=>(f34_l1 (x0,0,[],())).bind fun v=>Sum.elim (fun v=>some (v.1,-1,())) (fun v=>(f34_g0 (v.1,v.2.1,())).bind fun v=>some (v.2.1,v.1,())) v
theorem h34 (f63:T63) (f64:T64) (f34_g0:T34_g0) (f34_l1:T34_l1):AqF (K34 f63 f64) 0 Tryz.f34 (N34 f34_g0 f34_l1) Li28 Lo29 (F34 f63 f64 f34_g0 f34_l1):=fun v=>by kernel_rfl
def C34:T34:=F34 C63 C64 C34_g0 C34_l1
theorem ok34:FO 34 (E34 C34) :=
 qo kok34 Tryz.func34 (And.intro k34_l1 (And.intro k34_g0 trivial)) (h34 C63 C64 C34_g0 C34_l1)
abbrev T82_l0:=List (Int)×Int×Int×LqS×Unit→Option ((LqS×Unit)⊕(LqS×Bool×Unit))
def E82_l0 (f:T82_l0):LEnt:=⟨Li50,Lo51,f⟩
abbrev T82:=List (Int)×Unit→Option (LqS×Bool×Unit)
def E82 (f:T82):FEnt:=⟨Li4,Lo49,f⟩
def K82 (f64:T64):=lk [(64,E64 f64)]
theorem kok82:KOk Tryz.prog (K82 C64):=(kc ok64 kn)
def F82_l0 (f64:T64):LpF (List (Int)×Int×Int×LqS×Unit) ((LqS×Unit)⊕(LqS×Bool×Unit)):=fun (x0,x1,x2,x3,_)=>bif decide (x2<x1) then bif decide (0≤x2)&&decide (x2<(↑x0.length:Int)) then (f64 (x0.getD x2.toNat 0,())).bind fun v=>bif v.1==0 then some (Sum.inr (Sum.inr ([],false,()))) else bif v.1==1 then bif decide (x3.length+[UInt8.ofNat (IntKind.u8.wrap (x0.getD x2.toNat 0)).toNat].length≤140737488355328/1) then some (Sum.inl (x0,x1,IntKind.i64.wrap (x2+1),x3++[UInt8.ofNat (IntKind.u8.wrap (x0.getD x2.toNat 0)).toNat],())) else none else bif v.1==2 then bif decide (x3.length+[UInt8.ofNat (intBits BinOp.or IntKind.u8 192 (IntKind.u8.wrap (Int.fdiv (x0.getD x2.toNat 0) (2^min 6 IntKind.i32.bits)))).toNat,UInt8.ofNat (intBits BinOp.or IntKind.u8 128 (IntKind.u8.wrap (intBits BinOp.and IntKind.i32 (x0.getD x2.toNat 0) 63))).toNat].length≤140737488355328/1) then some (Sum.inl (x0,x1,IntKind.i64.wrap (x2+1),x3++[UInt8.ofNat (intBits BinOp.or IntKind.u8 192 (IntKind.u8.wrap (Int.fdiv (x0.getD x2.toNat 0) (2^min 6 IntKind.i32.bits)))).toNat,UInt8.ofNat (intBits BinOp.or IntKind.u8 128 (IntKind.u8.wrap (intBits BinOp.and IntKind.i32 (x0.getD x2.toNat 0) 63))).toNat],())) else none else bif v.1==3 then bif decide (x3.length+[UInt8.ofNat (intBits BinOp.or IntKind.u8 224 (IntKind.u8.wrap (Int.fdiv (x0.getD x2.toNat 0) (2^min 12 IntKind.i32.bits)))).toNat,UInt8.ofNat (intBits BinOp.or IntKind.u8 128 (IntKind.u8.wrap (intBits BinOp.and IntKind.i32 (Int.fdiv (x0.getD x2.toNat 0) (2^min 6 IntKind.i32.bits)) 63))).toNat,UInt8.ofNat (intBits BinOp.or IntKind.u8 128 (IntKind.u8.wrap (intBits BinOp.and IntKind.i32 (x0.getD x2.toNat 0) 63))).toNat].length≤140737488355328/1) then some (Sum.inl (x0,x1,IntKind.i64.wrap (x2+1),x3++[UInt8.ofNat (intBits BinOp.or IntKind.u8 224 (IntKind.u8.wrap (Int.fdiv (x0.getD x2.toNat 0) (2^min 12 IntKind.i32.bits)))).toNat,UInt8.ofNat (intBits BinOp.or IntKind.u8 128 (IntKind.u8.wrap (intBits BinOp.and IntKind.i32 (Int.fdiv (x0.getD x2.toNat 0) (2^min 6 IntKind.i32.bits)) 63))).toNat,UInt8.ofNat (intBits BinOp.or IntKind.u8 128 (IntKind.u8.wrap (intBits BinOp.and IntKind.i32 (x0.getD x2.toNat 0) 63))).toNat],())) else none else bif v.1==4 then bif decide (x3.length+[UInt8.ofNat (intBits BinOp.or IntKind.u8 240 (IntKind.u8.wrap (Int.fdiv (x0.getD x2.toNat 0) (2^min 18 IntKind.i32.bits)))).toNat,UInt8.ofNat (intBits BinOp.or IntKind.u8 128 (IntKind.u8.wrap (intBits BinOp.and IntKind.i32 (Int.fdiv (x0.getD x2.toNat 0) (2^min 12 IntKind.i32.bits)) 63))).toNat,UInt8.ofNat (intBits BinOp.or IntKind.u8 128 (IntKind.u8.wrap (intBits BinOp.and IntKind.i32 (Int.fdiv (x0.getD x2.toNat 0) (2^min 6 IntKind.i32.bits)) 63))).toNat,UInt8.ofNat (intBits BinOp.or IntKind.u8 128 (IntKind.u8.wrap (intBits BinOp.and IntKind.i32 (x0.getD x2.toNat 0) 63))).toNat].length≤140737488355328/1) then some (Sum.inl (x0,x1,IntKind.i64.wrap (x2+1),x3++[UInt8.ofNat (intBits BinOp.or IntKind.u8 240 (IntKind.u8.wrap (Int.fdiv (x0.getD x2.toNat 0) (2^min 18 IntKind.i32.bits)))).toNat,UInt8.ofNat (intBits BinOp.or IntKind.u8 128 (IntKind.u8.wrap (intBits BinOp.and IntKind.i32 (Int.fdiv (x0.getD x2.toNat 0) (2^min 12 IntKind.i32.bits)) 63))).toNat,UInt8.ofNat (intBits BinOp.or IntKind.u8 128 (IntKind.u8.wrap (intBits BinOp.and IntKind.i32 (Int.fdiv (x0.getD x2.toNat 0) (2^min 6 IntKind.i32.bits)) 63))).toNat,UInt8.ofNat (intBits BinOp.or IntKind.u8 128 (IntKind.u8.wrap (intBits BinOp.and IntKind.i32 (x0.getD x2.toNat 0) 63))).toNat],())) else none else some (Sum.inl (x0,x1,IntKind.i64.wrap (x2+1),x3,())) else none else some (Sum.inr (Sum.inl (x3,())))
def C82_l0:T82_l0:=loopN (F82_l0 C64) big
theorem k82_l0:LpOk 0 (subc (code Tryz.f82) [1,1,0,1,0,0]) (E82_l0 C82_l0):=zl1 Li50 Lo51 K82 F82_l0 C64 kok82
def N82 (f82_l0:T82_l0):Ann:=(.seq .nil (.seq .nil (.seq (.seq .nil (.blk (.loop (E82_l0 f82_l0)))) .nil)))
def F82 (f64:T64) (f82_l0:T82_l0):T82:=fun (x0,_)=>(f82_l0 (x0,(↑x0.length:Int),0,[],())).bind fun v=>Sum.elim (fun v=>some (v.1,true,())) (fun v=>some (v.1,v.2.1,())) v
def C82:T82:=F82 C64 C82_l0
theorem ok82:FO 82 (E82 C82):=zq1_1 Li4 Lo49 K82 N82 F82 C64 C82_l0 kok82 Tryz.func82 (And.intro k82_l0 trivial)
abbrev T116:=LqA×LqB×LqC×LqS×Bool×Bool×Unit→Option (LqS×Bool×Unit)
def E116 (f:T116):FEnt:=⟨Li111,Lo49,f⟩
def K116 (f142:T142) (f143:T143) (f144:T144) (f34:T34) (f82:T82):=lk [(142,E142 f142),(143,E143 f143),(144,E144 f144),(34,E34 f34),(82,E82 f82)]
def F116 (f142:T142) (f143:T143) (f144:T144) (f34:T34) (f82:T82):T116:=fun (x0,x1,x2,x3,x4,x5,_)=>(f34 (x3,())).bind fun v=>bif decide (v.2.1≥0) then some ([],false,()) else (f143 (x0,x1,x2,v.1,x4,())).bind fun v=>(f142 (x0,x1,x2,v.1,())).bind fun v=>bif x5 then (f144 (x0,x1,x2,v.1,())).bind fun v=>(f82 (v.1,())).bind fun v=>some (v.1,v.2.1,()) else (f82 (v.1,())).bind fun v=>some (v.1,v.2.1,())
theorem h116 (f142:T142) (f143:T143) (f144:T144) (f34:T34) (f82:T82):AqF (K116 f142 f143 f144 f34 f82) 0 Tryz.f116 .nil Li111 Lo49 (F116 f142 f143 f144 f34 f82):=fun v=>by kernel_rfl
def C116:T116:=F116 C142 C143 C144 C34 C82
theorem ok116:FO 116 (E116 C116) :=
 q0 (kc ok142 (kc ok143 (kc ok144 (kc ok34 (kc ok82 kn))))) Tryz.func116 (h116 C142 C143 C144 C34 C82)
abbrev T85:=LqA×LqB×LqC×LqS×Unit→Option (LqS×Bool×Unit)
def E85 (f:T85):FEnt:=⟨Li15,Lo49,f⟩
def K85 (f116:T116):=lk [(116,E116 f116)]
def F85 (f116:T116):T85:=fun (x0,x1,x2,x3,_)=>(f116 (x0,x1,x2,x3,false,true,())).bind fun v=>some (v.1,v.2.1,())
def C85:T85:=F85 C116
theorem ok85:FO 85 (E85 C85):=zq1 Li15 Lo49 K85 F85 C116 (kc ok116 kn) Tryz.func85
abbrev T196:=LqA×LqB×LqC×LqS×Unit→Option (Bool×Unit)
def E196 (f:T196):FEnt:=⟨Li15,Lo27,f⟩
def K196 (f85:T85):=lk [(85,E85 f85)]
def F196 (f85:T85):T196:=fun (x0,x1,x2,x3,_)=>(f85 (x0,x1,x2,x3,())).bind fun v=>bif v.2.1 then some (v.1==x3,()) else some (false,())
def C196:T196:=F196 C85
theorem ok196:FO 196 (E196 C196):=zq1 Li15 Lo27 K196 F196 C85 (kc ok85 kn) Tryz.func196
abbrev T195:=LqS×LqA×LqB×LqC×Unit→Option (Bool×LqS×LqA×LqB×LqC×Unit)
def E195 (f:T195):FEnt:=⟨Li142,Lo143,f⟩
def K195 (f12:T12) (f196:T196):=lk [(12,E12 f12),(196,E196 f196)]
def F195 (f12:T12) (f196:T196):T195:=fun (x0,x1,x2,x3,_)=>(f12 (x0,())).bind fun v=>bif decide (v.1<0) then some (true,x0,x1,x2,x3,()) else (f196 (x1,x2,x3,x0,())).bind fun v=>some (bif v.1 then false else true,x0,x1,x2,x3,())
theorem h195 (f12:T12) (f196:T196):AqF (K195 f12 f196) 2 Tryz.f195 .nil Li142 Lo143 (F195 f12 f196):=fun v=>by kernel_rfl
def C195:T195:=F195 C12 C196
theorem ok195:FO 195 (E195 C195) :=
 q0 (kc ok12 (kc ok196 kn)) Tryz.func195 (h195 C12 C196)
abbrev T246:=LqS×LqS×Unit→Option (Bool×Unit)
def E246 (f:T246):FEnt:=⟨Li112,Lo27,f⟩
def F246:T246:=fun (x0,x1,_)=>bif decide ((↑x0.length:Int)≥(↑x1.length:Int)) then bif decide (0≤IntKind.i64.wrap ((↑x0.length:Int)-(↑x1.length:Int)))&&decide (IntKind.i64.wrap ((↑x0.length:Int)-(↑x1.length:Int))≤(↑x0.length:Int)) then some (List.drop (IntKind.i64.wrap ((↑x0.length:Int)-(↑x1.length:Int))).toNat x0==x1,()) else none else some (false,())
def C246:T246:=F246
theorem ok246:FO 246 (E246 C246):=zq0 Li112 Lo27 KqZ F246 kn Tryz.func246
abbrev T235:=LqS×LqS×Unit→Option (Bool×Unit)
def E235 (f:T235):FEnt:=⟨Li112,Lo27,f⟩
def K235 (f246:T246):=lk [(246,E246 f246)]
def F235 (f246:T246):T235:=fun (x0,x1,_)=>(f246 (x0,x1,())).bind fun v=>some (v.1,())
def C235:T235:=F235 C246
theorem ok235:FO 235 (E235 C235):=zq1 Li112 Lo27 K235 F235 C246 (kc ok246 kn) Tryz.func235
abbrev T59:=LqS×LqS×Unit→Option (Bool×Unit)
def E59 (f:T59):FEnt:=⟨Li112,Lo27,f⟩
def K59 (f92:T92):=lk [(92,E92 f92)]
def F59 (f92:T92):T59:=fun (x0,x1,_)=>(f92 (x0,x1,())).bind fun v=>some (v.1,())
def C59:T59:=F59 C92
theorem ok59:FO 59 (E59 C59):=zq1 Li112 Lo27 K59 F59 C92 (kc ok92 kn) Tryz.func59
abbrev T198:=LqS×Unit→Option (Bool×Unit)
def E198 (f:T198):FEnt:=⟨Li28,Lo27,f⟩
def K198 (f235:T235) (f59:T59):=lk [(235,E235 f235),(59,E59 f59)]
def F198 (f235:T235) (f59:T59):T198:=fun (x0,_)=>(f59 (x0,[45],())).bind fun v=>bif v.1 then some (true,()) else (f235 (x0,[45],())).bind fun v=>bif v.1 then some (true,()) else bif decide ((↑x0.length:Int)>3) then bif decide (4≤(↑x0.length:Int)) then some (List.drop 2 (List.take 4 x0)==[45,45],()) else none else some (false,())
def C198:T198:=F198 C235 C59
theorem ok198:FO 198 (E198 C198):=zq2 Li28 Lo27 K198 F198 C235 C59 (kc ok235 (kc ok59 kn)) Tryz.func198
abbrev T197:=LqS×Unit→Option (Bool×LqS×Unit)
def E197 (f:T197):FEnt:=⟨Li144,Lo145,f⟩
def K197 (f198:T198):=lk [(198,E198 f198)]
def F197 (f198:T198):T197:=fun (x0,_)=>(f198 (x0,())).bind fun v=>some (v.1,x0,())
theorem h197 (f198:T198):AqF (K197 f198) 1 Tryz.f197 .nil Li144 Lo145 (F197 f198):=fun v=>by kernel_rfl
def C197:T197:=F197 C198
theorem ok197:FO 197 (E197 C197) :=
 q0 (kc ok198 kn) Tryz.func197 (h197 C198)
abbrev T118:=LqA×LqB×LqC×Int×Unit→Option (Int×Unit)
def E118 (f:T118):FEnt:=⟨Li0,Lo10,f⟩
def K118 (f151:T151):=lk [(151,E151 f151)]
def F118 (f151:T151):T118:=fun (x0,x1,x2,x3,_)=>(f151 (x0,x1,x2,x3,())).bind fun v=>some (v.2.2.1,())
def C118:T118:=F118 C151
theorem ok118:FO 118 (E118 C118):=zq1 Li0 Lo10 K118 F118 C151 (kc ok151 kn) Tryz.func118
abbrev T199:=LqA×LqB×LqC×List (Int)×Unit→Option (Bool×LqA×LqB×LqC×List (Int)×Unit)
def E199 (f:T199):FEnt:=⟨Li152,Lo153,f⟩
def K199 (f118:T118):=lk [(118,E118 f118)]
def F199 (f118:T118):T199:=fun (x0,x1,x2,x3,_)=>bif decide (0<(↑x3.length:Int)) then (f118 (x0,x1,x2,x3.getD 0 0,())).bind fun v=>some (v.1==4,x0,x1,x2,x3,()) else none
theorem h199 (f118:T118):AqF (K199 f118) 2 Tryz.f199 .nil Li152 Lo153 (F199 f118):=fun v=>by kernel_rfl
def C199:T199:=F199 C118
theorem ok199:FO 199 (E199 C199) :=
 q0 (kc ok118 kn) Tryz.func199 (h199 C118)
abbrev T120:=LqA×LqB×LqC×Int×Unit→Option (Bool×Unit)
def E120 (f:T120):FEnt:=⟨Li0,Lo27,f⟩
def K120 (f118:T118) (f119:T119):=lk [(118,E118 f118),(119,E119 f119)]
def F120 (f118:T118) (f119:T119):T120:=fun (x0,x1,x2,x3,_)=>(f119 (x0,x1,x2,x3,())).bind fun v=>bif v.2.2.2.2.2.1 then bif v.2.2.2.1 then some (false,()) else bif v.2.2.2.2.1 then some (false,()) else (f118 (x0,x1,x2,x3,())).bind fun v=>bif v.1==2 then some (true,()) else bif v.1==3 then some (true,()) else bif v.1==4 then some (true,()) else bif v.1==5 then some (true,()) else some (x3==45,()) else (f118 (x0,x1,x2,x3,())).bind fun v=>bif v.1==2 then some (true,()) else bif v.1==3 then some (true,()) else bif v.1==4 then some (true,()) else bif v.1==5 then some (true,()) else some (x3==45,())
def C120:T120:=F120 C118 C119
theorem ok120:FO 120 (E120 C120):=zq2 Li0 Lo27 K120 F120 C118 C119 (kc ok118 (kc ok119 kn)) Tryz.func120
abbrev T145:=Int×Unit→Option (Bool×Unit)
def E145 (f:T145):FEnt:=⟨Li26,Lo27,f⟩
def F145:T145:=fun (x0,_)=>bif decide (x0≥1632) then some (decide (x0≤1641),()) else some (false,())
def C145:T145:=F145
theorem ok145:FO 145 (E145 C145):=zq0 Li26 Lo27 KqZ F145 kn Tryz.func145
abbrev T148:=Int×Unit→Option (Bool×Unit)
def E148 (f:T148):FEnt:=⟨Li26,Lo27,f⟩
def F148:T148:=fun (x0,_)=>bif decide (x0≥1776) then some (decide (x0≤1785),()) else some (false,())
def C148:T148:=F148
theorem ok148:FO 148 (E148 C148):=zq0 Li26 Lo27 KqZ F148 kn Tryz.func148
abbrev T117:=Int×Unit→Option (Unit⊕Unit⊕Unit⊕Unit⊕Unit⊕Unit⊕Unit⊕Unit⊕Unit)
def E117 (f:T117):FEnt:=⟨Li26,Lo154,f⟩
def K117 (f145:T145) (f148:T148) (f150:T150):=lk [(145,E145 f145),(148,E148 f148),(150,E150 f150)]
def F117 (f145:T145) (f148:T148) (f150:T150):T117:=fun (x0,_)=>(f145 (x0,())).bind fun v=>bif v.1 then some (Sum.inl ()) else (f148 (x0,())).bind fun v=>bif v.1 then some (Sum.inr (Sum.inl ())) else (f150 ()).bind fun v=>bif decide (x0=8205) then some (Sum.inr (Sum.inr (Sum.inl ()))) else bif decide (x0=8204) then some (Sum.inr (Sum.inr (Sum.inr (Sum.inl ())))) else bif decide (x0=183) then some (Sum.inr (Sum.inr (Sum.inr (Sum.inr (Sum.inl ()))))) else bif decide (x0=885) then some (Sum.inr (Sum.inr (Sum.inr (Sum.inr (Sum.inr (Sum.inl ())))))) else bif decide (x0=1523) then some (Sum.inr (Sum.inr (Sum.inr (Sum.inr (Sum.inr (Sum.inr (Sum.inl ()))))))) else bif decide (x0=1524) then some (Sum.inr (Sum.inr (Sum.inr (Sum.inr (Sum.inr (Sum.inr (Sum.inl ()))))))) else bif decide (x0=12539) then some (Sum.inr (Sum.inr (Sum.inr (Sum.inr (Sum.inr (Sum.inr (Sum.inr (Sum.inl ())))))))) else some (Sum.inr (Sum.inr (Sum.inr (Sum.inr (Sum.inr (Sum.inr (Sum.inr (Sum.inr ()))))))))
theorem h117 (f145:T145) (f148:T148) (f150:T150):AqF (K117 f145 f148 f150) 0 Tryz.f117 .nil Li26 Lo154 (F117 f145 f148 f150):=fun v=>by kernel_rfl
def C117:T117:=F117 C145 C148 C150
theorem ok117:FO 117 (E117 C117) :=
 q0 (kc ok145 (kc ok148 (kc ok150 kn))) Tryz.func117 (h117 C145 C148 C150)
abbrev T180_l0:=List (Int)×Int×Int×Unit→Option (Unit⊕(Int×Unit))
def E180_l0 (f:T180_l0):LEnt:=⟨Li156,Lo157,f⟩
abbrev T180:=List (Int)×Unit→Option (Int×Unit)
def E180 (f:T180):FEnt:=⟨Li155,Lo10,f⟩
def K180 (f148:T148):=lk [(148,E148 f148)]
theorem kok180:KOk Tryz.prog (K180 C148):=(kc ok148 kn)
def F180_l0 (f148:T148):LpF (List (Int)×Int×Int×Unit) (Unit⊕(Int×Unit)):=fun (x0,x1,x2,_)=>bif decide (x2<x1) then bif decide (0≤x2)&&decide (x2<(↑x0.length:Int)) then (f148 (x0.getD x2.toNat 0,())).bind fun v=>bif v.1 then some (Sum.inr (Sum.inr (x2,()))) else some (Sum.inl (x0,x1,IntKind.i64.wrap (x2+1),())) else none else some (Sum.inr (Sum.inl ()))
def C180_l0:T180_l0:=loopN (F180_l0 C148) big
theorem k180_l0:LpOk 0 (subc (code Tryz.f180) [1,0,1,0,0]) (E180_l0 C180_l0):=zl1 Li156 Lo157 K180 F180_l0 C148 kok180
def N180 (f180_l0:T180_l0):Ann:=(.seq .nil (.seq (.seq .nil (.blk (.loop (E180_l0 f180_l0)))) .nil))
def F180 (f148:T148) (f180_l0:T180_l0):T180:=fun (x0,_)=>(f180_l0 (x0,(↑x0.length:Int),0,())).bind fun v=>Sum.elim (fun v=>some (-1,())) (fun v=>some (v.1,())) v
def C180:T180:=F180 C148 C180_l0
theorem ok180:FO 180 (E180 C180):=zq1_1 Li155 Lo10 K180 N180 F180 C148 C180_l0 kok180 Tryz.func180 (And.intro k180_l0 trivial)
abbrev T147:=List (Int)×Unit→Option (Bool×Unit)
def E147 (f:T147):FEnt:=⟨Li155,Lo27,f⟩
def K147 (f180:T180):=lk [(180,E180 f180)]
def F147 (f180:T180):T147:=fun (x0,_)=>(f180 (x0,())).bind fun v=>some (decide (v.1≥0),())
def C147:T147:=F147 C180
theorem ok147:FO 147 (E147 C147):=zq1 Li155 Lo27 K147 F147 C180 (kc ok180 kn) Tryz.func147
abbrev T146:=LqA×LqB×LqC×List (Int)×Int×Unit→Option (Bool×Unit)
def E146 (f:T146):FEnt:=⟨Li158,Lo27,f⟩
def K146 (f147:T147):=lk [(147,E147 f147)]
def F146 (f147:T147):T146:=fun (x0,x1,x2,x3,x4,_)=>(f147 (x3,())).bind fun v=>some (bif v.1 then false else true,())
def C146:T146:=F146 C147
theorem ok146:FO 146 (E146 C146):=zq1 Li158 Lo27 K146 F146 C147 (kc ok147 kn) Tryz.func146
abbrev T180v1_l0:=List (Int)×Int×Int×Unit→Option (Unit⊕(Int×Unit))
def E180v1_l0 (f:T180v1_l0):LEnt:=⟨Li160,Lo157,f⟩
abbrev T180v1:=List (Int)×Unit→Option (Int×Unit)
def E180v1 (f:T180v1):FEnt:=⟨Li159,Lo10,f⟩
def K180v1 (f145:T145):=lk [(145,E145 f145)]
theorem kok180v1:KOk Tryz.prog (K180v1 C145):=(kc ok145 kn)
def F180v1_l0 (f145:T145):LpF (List (Int)×Int×Int×Unit) (Unit⊕(Int×Unit)):=fun (x0,x1,x2,_)=>bif decide (x2<x1) then bif decide (0≤x2)&&decide (x2<(↑x0.length:Int)) then (f145 (x0.getD x2.toNat 0,())).bind fun v=>bif v.1 then some (Sum.inr (Sum.inr (x2,()))) else some (Sum.inl (x0,x1,IntKind.i64.wrap (x2+1),())) else none else some (Sum.inr (Sum.inl ()))
def C180v1_l0:T180v1_l0:=loopN (F180v1_l0 C145) big
theorem k180v1_l0:LpOk 0 (subc (code Tryz.f180) [1,0,1,0,0]) (E180v1_l0 C180v1_l0):=zl1 Li160 Lo157 K180v1 F180v1_l0 C145 kok180v1
def N180v1 (f180v1_l0:T180v1_l0):Ann:=(.seq .nil (.seq (.seq .nil (.blk (.loop (E180v1_l0 f180v1_l0)))) .nil))
def F180v1 (f145:T145) (f180v1_l0:T180v1_l0):T180v1:=fun (x0,_)=>(f180v1_l0 (x0,(↑x0.length:Int),0,())).bind fun v=>Sum.elim (fun v=>some (-1,())) (fun v=>some (v.1,())) v
def C180v1:T180v1:=F180v1 C145 C180v1_l0
theorem ok180v1:FO 180 (E180v1 C180v1):=zq1_1 Li159 Lo10 K180v1 N180v1 F180v1 C145 C180v1_l0 kok180v1 Tryz.func180 (And.intro k180v1_l0 trivial)
abbrev T147v1:=List (Int)×Unit→Option (Bool×Unit)
def E147v1 (f:T147v1):FEnt:=⟨Li159,Lo27,f⟩
def K147v1 (f180v1:T180v1):=lk [(180,E180v1 f180v1)]
def F147v1 (f180v1:T180v1):T147v1:=fun (x0,_)=>(f180v1 (x0,())).bind fun v=>some (decide (v.1≥0),())
def C147v1:T147v1:=F147v1 C180v1
theorem ok147v1:FO 147 (E147v1 C147v1):=zq1 Li159 Lo27 K147v1 F147v1 C180v1 (kc ok180v1 kn) Tryz.func147
abbrev T149:=LqA×LqB×LqC×List (Int)×Int×Unit→Option (Bool×Unit)
def E149 (f:T149):FEnt:=⟨Li158,Lo27,f⟩
def K149 (f147v1:T147v1):=lk [(147,E147v1 f147v1)]
def F149 (f147v1:T147v1):T149:=fun (x0,x1,x2,x3,x4,_)=>(f147v1 (x3,())).bind fun v=>some (bif v.1 then false else true,())
def C149:T149:=F149 C147v1
theorem ok149:FO 149 (E149 C149):=zq1 Li158 Lo27 K149 F149 C147v1 (kc ok147v1 kn) Tryz.func149
abbrev T229:=LqA×LqB×LqC×List (Int)×Int×Int×Unit→Option (Int×Unit)
def E229 (f:T229):FEnt:=⟨Li161,Lo36,f⟩
def F229:T229:=fun (x0,x1,x2,x3,x4,x5,_)=>bif decide (IntKind.i64.wrap (x4+x5)<0) then some (-1,()) else bif decide (IntKind.i64.wrap (x4+x5)≥(↑x3.length:Int)) then some (-1,()) else bif decide (0≤IntKind.i64.wrap (x4+x5))&&decide (IntKind.i64.wrap (x4+x5)<(↑x3.length:Int)) then some (x3.getD ((IntKind.i64.wrap (x4+x5)).toNat) 0,()) else none
def C229:T229:=F229
theorem ok229:FO 229 (E229 C229):=zq0 Li161 Lo36 KqZ F229 kn Tryz.func229
abbrev T181:=LqA×LqB×LqC×List (Int)×Int×Unit→Option (Bool×Unit)
def E181 (f:T181):FEnt:=⟨Li158,Lo27,f⟩
def K181 (f175:T175) (f229:T229):=lk [(175,E175 f175),(229,E229 f229)]
def F181 (f175:T175) (f229:T229):T181:=fun (x0,x1,x2,x3,x4,_)=>(f229 (x0,x1,x2,x3,x4,-1,())).bind fun v=>(f175 (x0,x1,x2,v.1,())).bind fun v=>some (v.1==9,())
def C181:T181:=F181 C175 C229
theorem ok181:FO 181 (E181 C181):=zq2 Li158 Lo27 K181 F181 C175 C229 (kc ok175 (kc ok229 kn)) Tryz.func181
abbrev T245:=LqA×LqB×LqC×Int×Unit→Option (Int×Unit)
def E245 (f:T245):FEnt:=⟨Li0,Lo10,f⟩
def K245 (f151:T151):=lk [(151,E151 f151)]
def F245 (f151:T151):T245:=fun (x0,x1,x2,x3,_)=>(f151 (x0,x1,x2,x3,())).bind fun v=>some (v.2.2.2.2.1,())
def C245:T245:=F245 C151
theorem ok245:FO 245 (E245 C245):=zq1 Li0 Lo10 K245 F245 C151 (kc ok151 kn) Tryz.func245
abbrev T230_l0:=Int×Int×LqA×LqB×LqC×List (Int)×Int×Unit→Option (Unit⊕(Int×Unit))
def E230_l0 (f:T230_l0):LEnt:=⟨Li162,Lo163,f⟩
abbrev T230:=LqA×LqB×LqC×List (Int)×Int×Int×Unit→Option (Int×Unit)
def E230 (f:T230):FEnt:=⟨Li161,Lo10,f⟩
def K230 (f229:T229) (f245:T245):=lk [(229,E229 f229),(245,E245 f245)]
theorem kok230:KOk Tryz.prog (K230 C229 C245):=(kc ok229 (kc ok245 kn))
def F230_l0 (f229:T229) (f245:T245):LpF (Int×Int×LqA×LqB×LqC×List (Int)×Int×Unit) (Unit⊕(Int×Unit)):=fun (x0,x1,x2,x3,x4,x5,x6,_)=>(f229 (x2,x3,x4,x5,x6,x1,())).bind fun v=>bif decide (v.1≥0) then (f229 (x2,x3,x4,x5,x6,x1,())).bind fun v=>(f245 (x2,x3,x4,v.1,())).bind fun v=>bif v.1 != 3 then some (Sum.inr (Sum.inr (v.1,()))) else some (Sum.inl (x0,IntKind.i64.wrap (x1+x0),x2,x3,x4,x5,x6,())) else some (Sum.inr (Sum.inl ()))
def C230_l0:T230_l0:=loopN (F230_l0 C229 C245) big
theorem k230_l0:LpOk 0 (subc (code Tryz.f230) [1,0,1,0,0]) (E230_l0 C230_l0):=zl2 Li162 Lo163 K230 F230_l0 C229 C245 kok230
def N230 (f230_l0:T230_l0):Ann:=(.seq .nil (.seq (.seq .nil (.blk (.loop (E230_l0 f230_l0)))) .nil))
def F230 (f229:T229) (f245:T245) (f230_l0:T230_l0):T230:=fun (x0,x1,x2,x3,x4,x5,_)=>(f230_l0 (x5,x5,x0,x1,x2,x3,x4,())).bind fun v=>Sum.elim (fun v=>some (0,())) (fun v=>some (v.1,())) v
def C230:T230:=F230 C229 C245 C230_l0
theorem ok230:FO 230 (E230 C230):=zq2_1 Li161 Lo10 K230 N230 F230 C229 C245 C230_l0 kok230 Tryz.func230 (And.intro k230_l0 trivial)
abbrev T182:=LqA×LqB×LqC×List (Int)×Int×Unit→Option (Bool×Unit)
def E182 (f:T182):FEnt:=⟨Li158,Lo27,f⟩
def K182 (f181:T181) (f230:T230):=lk [(181,E181 f181),(230,E230 f230)]
def F182 (f181:T181) (f230:T230):T182:=fun (x0,x1,x2,x3,x4,_)=>(f230 (x0,x1,x2,x3,x4,1,())).bind fun v=>(f181 (x0,x1,x2,x3,x4,())).bind fun v1=>bif v1.1 then some (true,()) else (f230 (x0,x1,x2,x3,x4,-1,())).bind fun v2=>bif v2.1==1 then bif v.1==1 then some (true,()) else some (v.1==2,()) else some (false,())
def C182:T182:=F182 C181 C230
theorem ok182:FO 182 (E182 C182):=zq2 Li158 Lo27 K182 F182 C181 C230 (kc ok181 (kc ok230 kn)) Tryz.func182
abbrev T183:=LqA×LqB×LqC×List (Int)×Int×Unit→Option (Bool×Unit)
def E183 (f:T183):FEnt:=⟨Li158,Lo27,f⟩
def K183 (f229:T229):=lk [(229,E229 f229)]
def F183 (f229:T229):T183:=fun (x0,x1,x2,x3,x4,_)=>(f229 (x0,x1,x2,x3,x4,-1,())).bind fun v=>bif v.1==108 then (f229 (x0,x1,x2,x3,x4,1,())).bind fun v=>some (v.1==108,()) else some (false,())
def C183:T183:=F183 C229
theorem ok183:FO 183 (E183 C183):=zq1 Li158 Lo27 K183 F183 C229 (kc ok229 kn) Tryz.func183
abbrev T231:=LqA×LqB×LqC×Int×Unit→Option (Int×Unit)
def E231 (f:T231):FEnt:=⟨Li0,Lo10,f⟩
def K231 (f151:T151):=lk [(151,E151 f151)]
def F231 (f151:T151):T231:=fun (x0,x1,x2,x3,_)=>(f151 (x0,x1,x2,x3,())).bind fun v=>some (v.2.2.2.2.2.1,())
def C231:T231:=F231 C151
theorem ok231:FO 231 (E231 C231):=zq1 Li0 Lo10 K231 F231 C151 (kc ok151 kn) Tryz.func231
abbrev T184:=LqA×LqB×LqC×List (Int)×Int×Unit→Option (Bool×Unit)
def E184 (f:T184):FEnt:=⟨Li158,Lo27,f⟩
def K184 (f229:T229) (f231:T231):=lk [(229,E229 f229),(231,E231 f231)]
def F184 (f229:T229) (f231:T231):T184:=fun (x0,x1,x2,x3,x4,_)=>(f229 (x0,x1,x2,x3,x4,1,())).bind fun v=>(f231 (x0,x1,x2,v.1,())).bind fun v=>some (v.1==2,())
def C184:T184:=F184 C229 C231
theorem ok184:FO 184 (E184 C184):=zq2 Li158 Lo27 K184 F184 C229 C231 (kc ok229 (kc ok231 kn)) Tryz.func184
abbrev T185:=LqA×LqB×LqC×List (Int)×Int×Unit→Option (Bool×Unit)
def E185 (f:T185):FEnt:=⟨Li158,Lo27,f⟩
def K185 (f229:T229) (f231:T231):=lk [(229,E229 f229),(231,E231 f231)]
def F185 (f229:T229) (f231:T231):T185:=fun (x0,x1,x2,x3,x4,_)=>(f229 (x0,x1,x2,x3,x4,-1,())).bind fun v=>(f231 (x0,x1,x2,v.1,())).bind fun v=>some (v.1==4,())
def C185:T185:=F185 C229 C231
theorem ok185:FO 185 (E185 C185):=zq2 Li158 Lo27 K185 F185 C229 C231 (kc ok229 (kc ok231 kn)) Tryz.func185
abbrev T232:=Int×LqA×LqB×LqC×List (Int)×Int×Unit→Option (Bool×LqA×LqB×LqC×List (Int)×Int×Unit)
def E232 (f:T232):FEnt:=⟨Li164,Lo165,f⟩
def K232 (f231:T231):=lk [(231,E231 f231)]
def F232 (f231:T231):T232:=fun (x0,x1,x2,x3,x4,x5,_)=>(f231 (x1,x2,x3,x0,())).bind fun v=>bif v.1==7 then some (true,x1,x2,x3,x4,x5,()) else some (v.1==8,x1,x2,x3,x4,x5,())
theorem h232 (f231:T231):AqF (K232 f231) 1 Tryz.f232 .nil Li164 Lo165 (F232 f231):=fun v=>by kernel_rfl
def C232:T232:=F232 C231
theorem ok232:FO 232 (E232 C232) :=
 q0 (kc ok231 kn) Tryz.func232 (h232 C231)
abbrev T180v2_l0:=List (Int)×Int×Int×LqA×LqB×LqC×List (Int)×Int×Unit→Option ((LqA×LqB×LqC×List (Int)×Int×Unit)⊕(Int×LqA×LqB×LqC×List (Int)×Int×Unit))
def E180v2_l0 (f:T180v2_l0):LEnt:=⟨Li168,Lo169,f⟩
abbrev T180v2:=List (Int)×LqA×LqB×LqC×List (Int)×Int×Unit→Option (Int×LqA×LqB×LqC×List (Int)×Int×Unit)
def E180v2 (f:T180v2):FEnt:=⟨Li166,Lo167,f⟩
def K180v2 (f232:T232):=lk [(232,E232 f232)]
theorem kok180v2:KOk Tryz.prog (K180v2 C232):=(kc ok232 kn)
def F180v2_l0 (f232:T232):LpF (List (Int)×Int×Int×LqA×LqB×LqC×List (Int)×Int×Unit) ((LqA×LqB×LqC×List (Int)×Int×Unit)⊕(Int×LqA×LqB×LqC×List (Int)×Int×Unit)):=fun (x0,x1,x2,x3,x4,x5,x6,x7,_)=>bif decide (x2<x1) then bif decide (0≤x2)&&decide (x2<(↑x0.length:Int)) then (f232 (x0.getD x2.toNat 0,x3,x4,x5,x6,x7,())).bind fun v=>bif v.1 then some (Sum.inr (Sum.inr (x2,v.2.1,v.2.2.1,v.2.2.2.1,v.2.2.2.2.1,v.2.2.2.2.2.1,()))) else some (Sum.inl (x0,x1,IntKind.i64.wrap (x2+1),v.2.1,v.2.2.1,v.2.2.2.1,v.2.2.2.2.1,v.2.2.2.2.2.1,())) else none else some (Sum.inr (Sum.inl (x3,x4,x5,x6,x7,())))
def C180v2_l0:T180v2_l0:=loopN (F180v2_l0 C232) big
theorem k180v2_l0:LpOk 1 (subc (code Tryz.f180) [1,0,1,0,0]) (E180v2_l0 C180v2_l0):=zl1 Li168 Lo169 K180v2 F180v2_l0 C232 kok180v2
def N180v2 (f180v2_l0:T180v2_l0):Ann:=(.seq .nil (.seq (.seq .nil (.blk (.loop (E180v2_l0 f180v2_l0)))) .nil))
def F180v2 (f232:T232) (f180v2_l0:T180v2_l0):T180v2:=fun (x0,x1,x2,x3,x4,x5,_)=>(f180v2_l0 (x0,(↑x0.length:Int),0,x1,x2,x3,x4,x5,())).bind fun v=>Sum.elim (fun v=>some (-1,v.1,v.2.1,v.2.2.1,v.2.2.2.1,v.2.2.2.2.1,())) (fun v=>some (v.1,v.2.1,v.2.2.1,v.2.2.2.1,v.2.2.2.2.1,v.2.2.2.2.2.1,())) v
theorem h180v2 (f232:T232) (f180v2_l0:T180v2_l0):AqF (K180v2 f232) 1 Tryz.f180 (N180v2 f180v2_l0) Li166 Lo167 (F180v2 f232 f180v2_l0):=fun v=>by kernel_rfl
def C180v2:T180v2:=F180v2 C232 C180v2_l0
theorem ok180v2:FO 180 (E180v2 C180v2) :=
 qo kok180v2 Tryz.func180 (And.intro k180v2_l0 trivial) (h180v2 C232 C180v2_l0)
abbrev T147v2:=List (Int)×LqA×LqB×LqC×List (Int)×Int×Unit→Option (Bool×LqA×LqB×LqC×List (Int)×Int×Unit)
def E147v2 (f:T147v2):FEnt:=⟨Li166,Lo165,f⟩
def K147v2 (f180v2:T180v2):=lk [(180,E180v2 f180v2)]
def F147v2 (f180v2:T180v2):T147v2:=fun (x0,x1,x2,x3,x4,x5,_)=>(f180v2 (x0,x1,x2,x3,x4,x5,())).bind fun v=>some (decide (v.1≥0),v.2.1,v.2.2.1,v.2.2.2.1,v.2.2.2.2.1,v.2.2.2.2.2.1,())
theorem h147v2 (f180v2:T180v2):AqF (K147v2 f180v2) 1 Tryz.f147 .nil Li166 Lo165 (F147v2 f180v2):=fun v=>by kernel_rfl
def C147v2:T147v2:=F147v2 C180v2
theorem ok147v2:FO 147 (E147v2 C147v2) :=
 q0 (kc ok180v2 kn) Tryz.func147 (h147v2 C180v2)
abbrev T186:=LqA×LqB×LqC×List (Int)×Int×Unit→Option (Bool×Unit)
def E186 (f:T186):FEnt:=⟨Li158,Lo27,f⟩
def K186 (f147v2:T147v2):=lk [(147,E147v2 f147v2)]
def F186 (f147v2:T147v2):T186:=fun (x0,x1,x2,x3,x4,_)=>(f147v2 (x3,x0,x1,x2,x3,x4,())).bind fun v=>some (v.1,())
def C186:T186:=F186 C147v2
theorem ok186:FO 186 (E186 C186):=zq1 Li158 Lo27 K186 F186 C147v2 (kc ok147v2 kn) Tryz.func186
abbrev T87:=LqA×LqB×LqC×List (Int)×Int×Unit→Option (Int×Unit)
def E87 (f:T87):FEnt:=⟨Li170,Lo10,f⟩
def K87 (f117:T117) (f146:T146) (f149:T149) (f181:T181) (f182:T182) (f183:T183) (f184:T184) (f185:T185) (f186:T186):=lk [(117,E117 f117),(146,E146 f146),(149,E149 f149),(181,E181 f181),(182,E182 f182),(183,E183 f183),(184,E184 f184),(185,E185 f185),(186,E186 f186)]
def F87 (f117:T117) (f146:T146) (f149:T149) (f181:T181) (f182:T182) (f183:T183) (f184:T184) (f185:T185) (f186:T186):T87:=fun (x0,x1,x2,x3,x4,_)=>bif decide (x4<0) then some (0,()) else bif decide (x4≥(↑x3.length:Int)) then some (0,()) else bif decide (0≤x4)&&decide (x4<(↑x3.length:Int)) then (f117 (x3.getD x4.toNat 0,())).bind fun v=>Sum.elim (fun v=>(f146 (x0,x1,x2,x3,x4,())).bind fun v=>bif v.1 then some (1,()) else some (2,())) (fun v=>Sum.elim (fun v=>(f149 (x0,x1,x2,x3,x4,())).bind fun v=>bif v.1 then some (1,()) else some (2,())) (fun v=>Sum.elim (fun v=>(f181 (x0,x1,x2,x3,x4,())).bind fun v=>bif v.1 then some (1,()) else some (2,())) (fun v=>Sum.elim (fun v=>(f182 (x0,x1,x2,x3,x4,())).bind fun v=>bif v.1 then some (1,()) else some (2,())) (fun v=>Sum.elim (fun v=>(f183 (x0,x1,x2,x3,x4,())).bind fun v=>bif v.1 then some (1,()) else some (2,())) (fun v=>Sum.elim (fun v=>(f184 (x0,x1,x2,x3,x4,())).bind fun v=>bif v.1 then some (1,()) else some (2,())) (fun v=>Sum.elim (fun v=>(f185 (x0,x1,x2,x3,x4,())).bind fun v=>bif v.1 then some (1,()) else some (2,())) (fun v=>Sum.elim (fun v=>(f186 (x0,x1,x2,x3,x4,())).bind fun v=>bif v.1 then some (1,()) else some (2,())) (fun v=>some (0,())) v) v) v) v) v) v) v) v else none
theorem h87 (f117:T117) (f146:T146) (f149:T149) (f181:T181) (f182:T182) (f183:T183) (f184:T184) (f185:T185) (f186:T186):AqF (K87 f117 f146 f149 f181 f182 f183 f184 f185 f186) 0 Tryz.f87 .nil Li170 Lo10 (F87 f117 f146 f149 f181 f182 f183 f184 f185 f186):=fun v=>by kernel_rfl
def C87:T87:=F87 C117 C146 C149 C181 C182 C183 C184 C185 C186
theorem ok87:FO 87 (E87 C87) :=
 q0 (kc ok117 (kc ok146 (kc ok149 (kc ok181 (kc ok182 (kc ok183 (kc ok184 (kc ok185 (kc ok186 kn))))))))) Tryz.func87 (h87 C117 C146 C149 C181 C182 C183 C184 C185 C186)
abbrev T201_l0:=List (Int)×List (Int)×Int×Int×LqA×LqB×LqC×Unit→Option (Unit⊕(Bool×Unit))
def E201_l0 (f:T201_l0):LEnt:=⟨Li171,Lo172,f⟩
abbrev T201:=LqA×LqB×LqC×List (Int)×Unit→Option (Bool×Unit)
def E201 (f:T201):FEnt:=⟨Li9,Lo27,f⟩
def K201 (f120:T120) (f87:T87):=lk [(120,E120 f120),(87,E87 f87)]
theorem kok201:KOk Tryz.prog (K201 C120 C87):=(kc ok120 (kc ok87 kn))
def F201_l0 (f120:T120) (f87:T87):LpF (List (Int)×List (Int)×Int×Int×LqA×LqB×LqC×Unit) (Unit⊕(Bool×Unit)):=fun (x0,x1,x2,x3,x4,x5,x6,_)=>bif decide (x3<x2) then bif decide (0≤x3)&&decide (x3<(↑x1.length:Int)) then (f87 (x4,x5,x6,x0,x3,())).bind fun v=>bif v.1==2 then some (Sum.inr (Sum.inr (true,()))) else bif v.1==0 then (f120 (x4,x5,x6,x1.getD x3.toNat 0,())).bind fun v=>bif !v.1 then some (Sum.inr (Sum.inr (true,()))) else some (Sum.inl (x0,x1,x2,IntKind.i64.wrap (x3+1),x4,x5,x6,())) else some (Sum.inl (x0,x1,x2,IntKind.i64.wrap (x3+1),x4,x5,x6,())) else none else some (Sum.inr (Sum.inl ()))
def C201_l0:T201_l0:=loopN (F201_l0 C120 C87) big
theorem k201_l0:LpOk 0 (subc (code Tryz.f201) [1,0,1,0,0]) (E201_l0 C201_l0):=zl2 Li171 Lo172 K201 F201_l0 C120 C87 kok201
def N201 (f201_l0:T201_l0):Ann:=(.seq .nil (.seq (.seq .nil (.blk (.loop (E201_l0 f201_l0)))) .nil))
def F201 (f120:T120) (f87:T87) (f201_l0:T201_l0):T201:=fun (x0,x1,x2,x3,_)=>(f201_l0 (x3,x3,(↑x3.length:Int),0,x0,x1,x2,())).bind fun v=>Sum.elim (fun v=>some (false,())) (fun v=>some (v.1,())) v
def C201:T201:=F201 C120 C87 C201_l0
theorem ok201:FO 201 (E201 C201):=zq2_1 Li9 Lo27 K201 N201 F201 C120 C87 C201_l0 kok201 Tryz.func201 (And.intro k201_l0 trivial)
abbrev T200:=LqA×LqB×LqC×List (Int)×Unit→Option (Bool×LqA×LqB×LqC×List (Int)×Unit)
def E200 (f:T200):FEnt:=⟨Li152,Lo153,f⟩
def K200 (f201:T201):=lk [(201,E201 f201)]
def F200 (f201:T201):T200:=fun (x0,x1,x2,x3,_)=>(f201 (x0,x1,x2,x3,())).bind fun v=>some (v.1,x0,x1,x2,x3,())
theorem h200 (f201:T201):AqF (K200 f201) 2 Tryz.f200 .nil Li152 Lo153 (F200 f201):=fun v=>by kernel_rfl
def C200:T200:=F200 C201
theorem ok200:FO 200 (E200 C200) :=
 q0 (kc ok201 kn) Tryz.func200 (h200 C201)
abbrev T89_l0:=List (Int)×Int×Int×LqA×LqB×LqC×List (Int)×List (Int)×Unit→Option (List (Int)×List (Int)×Unit)
def E89_l0 (f:T89_l0):LEnt:=⟨Li174,Lo175,f⟩
abbrev T89:=LqA×LqB×LqC×List (Int)×Unit→Option (Int×Int×Int×Int×Int×Int×Int×Int×Unit)
def E89 (f:T89):FEnt:=⟨Li9,Lo173,f⟩
def K89 (f121:T121):=lk [(121,E121 f121)]
theorem kok89:KOk Tryz.prog (K89 C121):=(kc ok121 kn)
def F89_l0 (f121:T121):LpF (List (Int)×Int×Int×LqA×LqB×LqC×List (Int)×List (Int)×Unit) (List (Int)×List (Int)×Unit):=fun (x0,x1,x2,x3,x4,x5,x6,x7,_)=>bif decide (x2<x1) then bif decide (0≤x2)&&decide (x2<(↑x0.length:Int)) then (f121 (x3,x4,x5,x0.getD x2.toNat 0,())).bind fun v=>bif decide (x7.length=8) then bif decide (0≤v.1)&&decide (v.1<(↑8:Int)) then bif decide (Int.toNat v.1<x7.length) then bif decide (x7.length=8) then bif decide (0≤v.1)&&decide (v.1<(↑8:Int)) then bif decide (Int.toNat v.1<x7.length) then some (Sum.inl (x0,x1,IntKind.i64.wrap (x2+1),x3,x4,x5,x6,x7.set (Int.toNat v.1) (IntKind.i64.wrap (x7.getD (Int.toNat v.1) 0+1)),())) else none else none else none else none else none else none else none else some (Sum.inr (x6,x7,()))
def C89_l0:T89_l0:=loopN (F89_l0 C121) big
theorem k89_l0:LpOk 0 (subc (code Tryz.f89) [1,1,0,1,0,0]) (E89_l0 C89_l0):=zl1 Li174 Lo175 K89 F89_l0 C121 kok89
def N89 (f89_l0:T89_l0):Ann:=(.seq .nil (.seq .nil (.seq (.seq .nil (.blk (.loop (E89_l0 f89_l0)))) .nil)))
def F89 (f121:T121) (f89_l0:T89_l0):T89:=fun (x0,x1,x2,x3,_)=>(f89_l0 (x3,(↑x3.length:Int),0,x0,x1,x2,[0,0,0,0,0,0,0,0],[0,0,0,0,0,0,0,0],())).bind fun v=>bif decide (List.length v.2.1=8) then bif decide (List.length v.1=8) then some (v.2.1.getD 0 0,v.2.1.getD 1 0,v.2.1.getD 2 0,v.2.1.getD 3 0,v.2.1.getD 4 0,v.2.1.getD 5 0,v.2.1.getD 6 0,v.2.1.getD 7 0,()) else none else none
def C89:T89:=F89 C121 C89_l0
theorem ok89:FO 89 (E89 C89):=zq1_1 Li9 Lo173 K89 N89 F89 C121 C89_l0 kok89 Tryz.func89 (And.intro k89_l0 trivial)
abbrev T57:=LqA×LqB×LqC×List (Int)×Unit→Option (Bool×Unit)
def E57 (f:T57):FEnt:=⟨Li9,Lo27,f⟩
def K57 (f89:T89):=lk [(89,E89 f89)]
def F57 (f89:T89):T57:=fun (x0,x1,x2,x3,_)=>(f89 (x0,x1,x2,x3,())).bind fun v=>some (decide (IntKind.i64.wrap (IntKind.i64.wrap ([v.1,v.2.1,v.2.2.1,v.2.2.2.1,v.2.2.2.2.1,v.2.2.2.2.2.1,v.2.2.2.2.2.2.1,v.2.2.2.2.2.2.2.1].getD 2 0+[v.1,v.2.1,v.2.2.1,v.2.2.2.1,v.2.2.2.2.1,v.2.2.2.2.2.1,v.2.2.2.2.2.2.1,v.2.2.2.2.2.2.2.1].getD 3 0)+[v.1,v.2.1,v.2.2.1,v.2.2.2.1,v.2.2.2.2.1,v.2.2.2.2.2.1,v.2.2.2.2.2.2.1,v.2.2.2.2.2.2.2.1].getD 5 0)>0),())
def C57:T57:=F57 C89
theorem ok57:FO 57 (E57 C57):=zq1 Li9 Lo27 K57 F57 C89 (kc ok89 kn) Tryz.func57
abbrev T91:=LqA×LqB×LqC×List (Int)×Unit→Option (Int×Unit)
def E91 (f:T91):FEnt:=⟨Li9,Lo10,f⟩
def K91 (f121:T121):=lk [(121,E121 f121)]
def F91 (f121:T121):T91:=fun (x0,x1,x2,x3,_)=>bif (↑x3.length:Int)==0 then some (0,()) else bif decide (0<(↑x3.length:Int)) then (f121 (x0,x1,x2,x3.getD 0 0,())).bind fun v=>bif v.1==2 then some (2,()) else bif v.1==3 then some (2,()) else bif v.1==1 then some (v.1,()) else some (0,()) else none
def C91:T91:=F91 C121
theorem ok91:FO 91 (E91 C91):=zq1 Li9 Lo10 K91 F91 C121 (kc ok121 kn) Tryz.func91
abbrev T58_c0:=Bool×Bool×List (Int)×Unit→Option (Bool×Unit)
def E58_c0 (f:T58_c0):LEnt:=⟨Li176,Lo177,f⟩
abbrev T58_c1:=Int×Bool×List (Int)×Unit→Option (Bool×Unit)
def E58_c1 (f:T58_c1):LEnt:=⟨Li178,Lo177,f⟩
abbrev T58:=LqA×LqB×LqC×List (Int)×Unit→Option (Bool×Unit)
def E58 (f:T58):FEnt:=⟨Li9,Lo27,f⟩
def K58 (f57:T57) (f89:T89) (f90:T90) (f91:T91):=lk [(57,E57 f57),(89,E89 f89),(90,E90 f90),(91,E91 f91)]
theorem kok58:KOk Tryz.prog (K58 C57 C89 C90 C91):=(kc ok57 (kc ok89 (kc ok90 (kc ok91 kn))))
def F58_c0 (f57:T57) (f89:T89) (f90:T90) (f91:T91):T58_c0:=fun (x0,x1,x2,_)=>bif decide (x2.length=8) then bif decide (Int.toNat 1<x2.length) then bif x2.getD 1 0==0 then bif x1 then some (bif x0 then false else true,()) else some (false,()) else some (false,()) else none else none
theorem h58_c0 (f57:T57) (f89:T89) (f90:T90) (f91:T91):AqC (K58 f57 f89 f90 f91) 0 (subc (code Tryz.f58) [1,1,0,1,0,1,0,1,1]) .nil Li176 Lo177 (F58_c0 f57 f89 f90 f91):=fun v=>by kernel_rfl
def C58_c0:T58_c0:=F58_c0 C57 C89 C90 C91
theorem k58_c0:CdOk 0 (subc (code Tryz.f58) [1,1,0,1,0,1,0,1,1]) (E58_c0 C58_c0) :=
 frc kok58 (h58_c0 C57 C89 C90 C91)
def N58_c1 (f58_c0:T58_c0):Ann:=(.cut .nil (E58_c0 f58_c0))
def F58_c1 (f57:T57) (f89:T89) (f90:T90) (f91:T91) (f58_c0:T58_c0):T58_c1:=fun (x0,x1,x2,_)=>bif x0==2 then (f58_c0 (x1,true,x2,())).bind fun v=>some (v.1,()) else bif x0==3 then (f58_c0 (x1,true,x2,())).bind fun v=>some (v.1,()) else bif x0==4 then (f58_c0 (x1,true,x2,())).bind fun v=>some (v.1,()) else (f58_c0 (x1,x0==5,x2,())).bind fun v=>some (v.1,())
theorem h58_c1 (f57:T57) (f89:T89) (f90:T90) (f91:T91) (f58_c0:T58_c0):AqC (K58 f57 f89 f90 f91) 0 (subc (code Tryz.f58) [1,1,0,1,0,1,0,1]) (N58_c1 f58_c0) Li178 Lo177 (F58_c1 f57 f89 f90 f91 f58_c0):=fun v=>by kernel_rfl
def C58_c1:T58_c1:=F58_c1 C57 C89 C90 C91 C58_c0
theorem k58_c1:CdOk 0 (subc (code Tryz.f58) [1,1,0,1,0,1,0,1]) (E58_c1 C58_c1) :=
 frd kok58 (And.intro k58_c0 trivial) (h58_c1 C57 C89 C90 C91 C58_c0)
def N58 (f58_c1:T58_c1):Ann:=(.seq .nil (.seq .nil (.seq (.seq .nil (.blk (.seq .nil (.cond (.cut .nil (E58_c1 f58_c1)) .nil)))) .nil)))
def F58 (f57:T57) (f89:T89) (f90:T90) (f91:T91) (f58_c1:T58_c1):T58:=fun (x0,x1,x2,x3,_)=>(f89 (x0,x1,x2,x3,())).bind fun v=>(f90 (x0,x1,x2,x3,())).bind fun v1=>(f91 (x0,x1,x2,x3,())).bind fun v2=>bif v2.1==2 then bif decide ([v.1,v.2.1,v.2.2.1,v.2.2.2.1,v.2.2.2.2.1,v.2.2.2.2.2.1,v.2.2.2.2.2.2.1,v.2.2.2.2.2.2.2.1].getD 4 0>0) then (f58_c1 (v1.1,decide ([v.1,v.2.1,v.2.2.1,v.2.2.2.1,v.2.2.2.2.1,v.2.2.2.2.2.1,v.2.2.2.2.2.2.1,v.2.2.2.2.2.2.2.1].getD 5 0>0),[v.1,v.2.1,v.2.2.1,v.2.2.2.1,v.2.2.2.2.1,v.2.2.2.2.2.1,v.2.2.2.2.2.2.1,v.2.2.2.2.2.2.2.1],())).bind fun v=>some (v.1,()) else (f58_c1 (v1.1,false,[v.1,v.2.1,v.2.2.1,v.2.2.2.1,v.2.2.2.2.1,v.2.2.2.2.2.1,v.2.2.2.2.2.2.1,v.2.2.2.2.2.2.2.1],())).bind fun v=>some (v.1,()) else bif v2.1==1 then (f57 (x0,x1,x2,x3,())).bind fun v=>bif !v.1 then bif v1.1==1 then some (true,()) else some (v1.1==4,()) else some (false,()) else some ((↑x3.length:Int)==0,())
theorem h58 (f57:T57) (f89:T89) (f90:T90) (f91:T91) (f58_c1:T58_c1):AqF (K58 f57 f89 f90 f91) 0 Tryz.f58 (N58 f58_c1) Li9 Lo27 (F58 f57 f89 f90 f91 f58_c1):=fun v=>by kernel_rfl
def C58:T58:=F58 C57 C89 C90 C91 C58_c1
theorem ok58:FO 58 (E58 C58) :=
 qo kok58 Tryz.func58 (And.intro k58_c1 trivial) (h58 C57 C89 C90 C91 C58_c1)
abbrev T202:=LqA×LqB×LqC×List (Int)×Unit→Option (Bool×LqA×LqB×LqC×List (Int)×Unit)
def E202 (f:T202):FEnt:=⟨Li152,Lo153,f⟩
def K202 (f57:T57) (f58:T58):=lk [(57,E57 f57),(58,E58 f58)]
def F202 (f57:T57) (f58:T58):T202:=fun (x0,x1,x2,x3,_)=>(f57 (x0,x1,x2,x3,())).bind fun v=>bif v.1 then (f58 (x0,x1,x2,x3,())).bind fun v=>some (bif v.1 then false else true,x0,x1,x2,x3,()) else some (false,x0,x1,x2,x3,())
theorem h202 (f57:T57) (f58:T58):AqF (K202 f57 f58) 2 Tryz.f202 .nil Li152 Lo153 (F202 f57 f58):=fun v=>by kernel_rfl
def C202:T202:=F202 C57 C58
theorem ok202:FO 202 (E202 C202) :=
 q0 (kc ok57 (kc ok58 kn)) Tryz.func202 (h202 C57 C58)
abbrev T203:=List (Int)×LqS×Bool×Unit→Option (Bool×List (Int)×LqS×Bool×Unit)
def E203 (f:T203):FEnt:=⟨Li179,Lo180,f⟩
def K203 (f157:T157):=lk [(157,E157 f157)]
def F203 (f157:T157):T203:=fun (x0,x1,x2,_)=>(f157 (x0,())).bind fun v=>some (bif v.2.1 then false else true,x0,v.1,v.2.1,())
theorem h203 (f157:T157):AqF (K203 f157) 3 Tryz.f203 .nil Li179 Lo180 (F203 f157):=fun v=>by kernel_rfl
def C203:T203:=F203 C157
theorem ok203:FO 203 (E203 C203) :=
 q0 (kc ok157 kn) Tryz.func203 (h203 C157)
abbrev T204:=LqS×Unit→Option (Bool×LqS×Unit)
def E204 (f:T204):FEnt:=⟨Li144,Lo145,f⟩
def F204:T204:=fun (x0,_)=>some (decide (IntKind.i64.wrap (4+(↑x0.length:Int))>63),x0,())
theorem h204:AqF KqZ 1 Tryz.f204 .nil Li144 Lo145 (F204):=fun v=>by kernel_rfl
def C204:T204:=F204
theorem ok204:FO 204 (E204 C204) :=
 q0 kn Tryz.func204 (h204)
abbrev T193:=Int×Int×Int×Int×Int×Int×Int×Int×Int×LqS×LqA×LqB×LqC×List (Int)×LqS×Bool×Unit→Option (Int×Int×Int×Int×Int×Int×Int×Int×Int×Int×LqS×LqA×LqB×LqC×List (Int)×LqS×Bool×Unit)
def E193 (f:T193):FEnt:=⟨Li181,Lo182,f⟩
def K193 (f194:T194) (f195:T195) (f197:T197) (f199:T199) (f200:T200) (f202:T202) (f203:T203) (f204:T204):=lk [(194,E194 f194),(195,E195 f195),(197,E197 f197),(199,E199 f199),(200,E200 f200),(202,E202 f202),(203,E203 f203),(204,E204 f204)]
def N193:Ann:=(.seq .nil (.seq (.seq .nil (.blk (.unroll 10 .nil))) .nil))
def F193 (f194:T194) (f195:T195) (f197:T197) (f199:T199) (f200:T200) (f202:T202) (f203:T203) (f204:T204):T193:=fun (x0,x1,x2,x3,x4,x5,x6,x7,x8,x9,x10,x11,x12,x13,x14,x15,_)=>(f194 (x8,())).bind fun v=>bif v.1 then some (x0,x0,x1,x2,x3,x4,x5,x6,x7,v.2.1,x9,x10,x11,x12,x13,x14,x15,()) else (f195 (x9,x10,x11,x12,())).bind fun v1=>bif v1.1 then some (x1,x0,x1,x2,x3,x4,x5,x6,x7,v.2.1,v1.2.1,v1.2.2.1,v1.2.2.2.1,v1.2.2.2.2.1,x13,x14,x15,()) else (f197 (v1.2.1,())).bind fun v2=>bif v2.1 then some (x2,x0,x1,x2,x3,x4,x5,x6,x7,v.2.1,v2.2.1,v1.2.2.1,v1.2.2.2.1,v1.2.2.2.2.1,x13,x14,x15,()) else (f199 (v1.2.2.1,v1.2.2.2.1,v1.2.2.2.2.1,x13,())).bind fun v3=>bif v3.1 then some (x3,x0,x1,x2,x3,x4,x5,x6,x7,v.2.1,v2.2.1,v3.2.1,v3.2.2.1,v3.2.2.2.1,v3.2.2.2.2.1,x14,x15,()) else (f200 (v3.2.1,v3.2.2.1,v3.2.2.2.1,v3.2.2.2.2.1,())).bind fun v4=>bif v4.1 then some (x4,x0,x1,x2,x3,x4,x5,x6,x7,v.2.1,v2.2.1,v4.2.1,v4.2.2.1,v4.2.2.2.1,v4.2.2.2.2.1,x14,x15,()) else (f202 (v4.2.1,v4.2.2.1,v4.2.2.2.1,v4.2.2.2.2.1,())).bind fun v5=>bif v5.1 then some (x5,x0,x1,x2,x3,x4,x5,x6,x7,v.2.1,v2.2.1,v5.2.1,v5.2.2.1,v5.2.2.2.1,v5.2.2.2.2.1,x14,x15,()) else (f203 (v5.2.2.2.2.1,x14,x15,())).bind fun v6=>bif v6.1 then some (x6,x0,x1,x2,x3,x4,x5,x6,x7,v.2.1,v2.2.1,v5.2.1,v5.2.2.1,v5.2.2.2.1,v6.2.1,v6.2.2.1,v6.2.2.2.1,()) else (f204 (v6.2.2.1,())).bind fun v7=>bif v7.1 then some (x7,x0,x1,x2,x3,x4,x5,x6,x7,v.2.1,v2.2.1,v5.2.1,v5.2.2.1,v5.2.2.2.1,v6.2.1,v7.2.1,v6.2.2.2.1,()) else some (0,x0,x1,x2,x3,x4,x5,x6,x7,v.2.1,v2.2.1,v5.2.1,v5.2.2.1,v5.2.2.2.1,v6.2.1,v7.2.1,v6.2.2.2.1,())
theorem h193 (f194:T194) (f195:T195) (f197:T197) (f199:T199) (f200:T200) (f202:T202) (f203:T203) (f204:T204):AqF (K193 f194 f195 f197 f199 f200 f202 f203 f204) 7 Tryz.f193 N193 Li181 Lo182 (F193 f194 f195 f197 f199 f200 f202 f203 f204):=fun v=>by kernel_rfl
def C193:T193:=F193 C194 C195 C197 C199 C200 C202 C203 C204
theorem ok193:FO 193 (E193 C193) :=
 qo (kc ok194 (kc ok195 (kc ok197 (kc ok199 (kc ok200 (kc ok202 (kc ok203 (kc ok204 kn)))))))) Tryz.func193 trivial (h193 C194 C195 C197 C199 C200 C202 C203 C204)
abbrev T158:=LqA×LqB×LqC×LqS×Unit→Option (Int×Unit)
def E158 (f:T158):FEnt:=⟨Li15,Lo10,f⟩
def K158 (f193:T193) (f34:T34):=lk [(193,E193 f193),(34,E34 f34)]
def F158 (f193:T193) (f34:T34):T158:=fun (x0,x1,x2,x3,_)=>(f34 (x3,())).bind fun v=>(f193 (7,4,11,10,8,9,12,5,v.2.1,x3,x0,x1,x2,v.1,[],false,())).bind fun v=>some (v.1,())
def C158:T158:=F158 C193 C34
theorem ok158:FO 158 (E158 C158):=zq2 Li15 Lo10 K158 F158 C193 C34 (kc ok193 (kc ok34 kn)) Tryz.func158
abbrev T205:=LqS×Unit→Option (Bool×LqS×Unit)
def E205 (f:T205):FEnt:=⟨Li144,Lo145,f⟩
def F205:T205:=fun (x0,_)=>some (x0==[],x0,())
theorem h205:AqF KqZ 1 Tryz.f205 .nil Li144 Lo145 (F205):=fun v=>by kernel_rfl
def C205:T205:=F205
theorem ok205:FO 205 (E205 C205) :=
 q0 kn Tryz.func205 (h205)
abbrev T206:=LqS×Unit→Option (Bool×LqS×Unit)
def E206 (f:T206):FEnt:=⟨Li144,Lo145,f⟩
def F206:T206:=fun (x0,_)=>some (decide ((↑x0.length:Int)>63),x0,())
theorem h206:AqF KqZ 1 Tryz.f206 .nil Li144 Lo145 (F206):=fun v=>by kernel_rfl
def C206:T206:=F206
theorem ok206:FO 206 (E206 C206) :=
 q0 kn Tryz.func206 (h206)
abbrev T208_c0:=Int×Bool×Unit→Option (Bool×Unit)
def E208_c0 (f:T208_c0):LEnt:=⟨Li183,Lo184,f⟩
abbrev T208_c1:=Int×Bool×Unit→Option (Bool×Unit)
def E208_c1 (f:T208_c1):LEnt:=⟨Li183,Lo184,f⟩
abbrev T208:=Int×Unit→Option (Bool×Unit)
def E208 (f:T208):FEnt:=⟨Li26,Lo27,f⟩
def F208_c0:T208_c0:=fun (x0,x1,_)=>bif x1 then some (true,()) else bif decide (x0≥48) then bif decide (x0≤57) then some (true,()) else some (x0==45,()) else some (x0==45,())
def C208_c0:T208_c0:=F208_c0
theorem k208_c0:CdOk 0 (subc (code Tryz.f208) [1,0,0,0,1,1,1]) (E208_c0 C208_c0):=zc0 Li183 Lo184 KqZ F208_c0 kn
def N208_c1 (f208_c0:T208_c0):Ann:=(.cond .nil (.cut .nil (E208_c0 f208_c0)))
def F208_c1 (f208_c0:T208_c0):T208_c1:=fun (x0,x1,_)=>bif x1 then some (true,()) else bif decide (x0≥65) then (f208_c0 (x0,decide (x0≤90),())).bind fun v=>some (v.1,()) else (f208_c0 (x0,false,())).bind fun v=>some (v.1,())
theorem h208_c1 (f208_c0:T208_c0):AqC KqZ 0 (subc (code Tryz.f208) [1,0,0,0,1]) (N208_c1 f208_c0) Li183 Lo184 (F208_c1 f208_c0):=fun v=>by kernel_rfl
def C208_c1:T208_c1:=F208_c1 C208_c0
theorem k208_c1:CdOk 0 (subc (code Tryz.f208) [1,0,0,0,1]) (E208_c1 C208_c1) :=
 frd kn (And.intro k208_c0 trivial) (h208_c1 C208_c0)
def N208 (f208_c1:T208_c1):Ann:=(.seq .nil (.seq (.blk (.seq (.cut .nil (E208_c1 f208_c1)) .nil)) .nil))
def F208 (f208_c1:T208_c1):T208:=fun (x0,_)=>bif decide (x0≥97) then (f208_c1 (x0,decide (x0≤122),())).bind fun v=>bif v.1 then some (false,()) else some (true,()) else (f208_c1 (x0,false,())).bind fun v=>bif v.1 then some (false,()) else some (true,())
def C208:T208:=F208 C208_c1
theorem ok208:FO 208 (E208 C208):=zq0_1 Li26 Lo27 KqZ N208 F208 C208_c1 kn Tryz.func208 (And.intro k208_c1 trivial)
abbrev T99_l0:=Bool×(LqS×Int)×Unit→Option ((Int×Unit)⊕Unit)
def E99_l0 (f:T99_l0):LEnt:=⟨Li186,Lo187,f⟩
abbrev T99:=LqS×Bool×Unit→Option (Int×Unit)
def E99 (f:T99):FEnt:=⟨Li185,Lo10,f⟩
def K99 (f208:T208):=lk [(208,E208 f208)]
theorem kok99:KOk Tryz.prog (K99 C208):=(kc ok208 kn)
def F99_l0 (f208:T208):LpF (Bool×(LqS×Int)×Unit) ((Int×Unit)⊕Unit):=fun (x0,x1,_)=>bif decide (Int.toNat x1.2<List.length x1.1) then (f208 ((↑(decR x1.1 (Int.toNat x1.2)).1:Int),())).bind fun v=>bif v.1==x0 then some (Sum.inr (Sum.inl ((↑(Int.toNat x1.2):Int),()))) else some (Sum.inl (x0,(x1.1,(↑(Int.toNat x1.2+(decR x1.1 (Int.toNat x1.2)).2):Int)),())) else some (Sum.inr (Sum.inr ()))
def C99_l0:T99_l0:=loopN (F99_l0 C208) big
theorem k99_l0:LpOk 0 (subc (code Tryz.f99) [1,0,1,0,0]) (E99_l0 C99_l0):=zl1 Li186 Lo187 K99 F99_l0 C208 kok99
def N99 (f99_l0:T99_l0):Ann:=(.seq .nil (.seq (.seq .nil (.blk (.loop (E99_l0 f99_l0)))) .nil))
def F99 (f208:T208) (f99_l0:T99_l0):T99:=fun (x0,x1,_)=>(f99_l0 (x1,(x0,(↑0:Int)),())).bind fun v=>Sum.elim (fun v=>some (v.1,())) (fun v=>some (-1,())) v
def C99:T99:=F99 C208 C99_l0
theorem ok99:FO 99 (E99 C99):=zq1_1 Li185 Lo10 K99 N99 F99 C208 C99_l0 kok99 Tryz.func99 (And.intro k99_l0 trivial)
abbrev T65:=LqS×Unit→Option (Int×Unit)
def E65 (f:T65):FEnt:=⟨Li188,Lo10,f⟩
def K65 (f99:T99):=lk [(99,E99 f99)]
def F65 (f99:T99):T65:=fun (x0,_)=>(f99 (x0,true,())).bind fun v=>some (v.1,())
def C65:T65:=F65 C99
theorem ok65:FO 65 (E65 C65):=zq1 Li188 Lo10 K65 F65 C99 (kc ok99 kn) Tryz.func65
abbrev T35:=LqS×Unit→Option (Bool×Unit)
def E35 (f:T35):FEnt:=⟨Li188,Lo27,f⟩
def K35 (f65:T65):=lk [(65,E65 f65)]
def F35 (f65:T65):T35:=fun (x0,_)=>(f65 (x0,())).bind fun v=>some (decide (v.1≥0),())
def C35:T35:=F35 C65
theorem ok35:FO 35 (E35 C35):=zq1 Li188 Lo27 K35 F35 C65 (kc ok65 kn) Tryz.func35
abbrev T207:=LqS×Unit→Option (Bool×LqS×Unit)
def E207 (f:T207):FEnt:=⟨Li144,Lo145,f⟩
def K207 (f35:T35):=lk [(35,E35 f35)]
def F207 (f35:T35):T207:=fun (x0,_)=>(f35 (x0,())).bind fun v=>some (v.1,x0,())
theorem h207 (f35:T35):AqF (K207 f35) 1 Tryz.f207 .nil Li144 Lo145 (F207 f35):=fun v=>by kernel_rfl
def C207:T207:=F207 C35
theorem ok207:FO 207 (E207 C207) :=
 q0 (kc ok35 kn) Tryz.func207 (h207 C35)
abbrev T209:=LqS×Unit→Option (Bool×LqS×Unit)
def E209 (f:T209):FEnt:=⟨Li144,Lo145,f⟩
def K209 (f198:T198):=lk [(198,E198 f198)]
def F209 (f198:T198):T209:=fun (x0,_)=>(f198 (x0,())).bind fun v=>some (v.1,x0,())
theorem h209 (f198:T198):AqF (K209 f198) 1 Tryz.f209 .nil Li144 Lo145 (F209 f198):=fun v=>by kernel_rfl
def C209:T209:=F209 C198
theorem ok209:FO 209 (E209 C209) :=
 q0 (kc ok198 kn) Tryz.func209 (h209 C198)
abbrev T193v1:=Int×Int×Int×Int×LqS×Unit→Option (Int×Int×Int×Int×Int×LqS×Unit)
def E193v1 (f:T193v1):FEnt:=⟨Li189,Lo190,f⟩
def K193v1 (f205:T205) (f206:T206) (f207:T207) (f209:T209):=lk [(205,E205 f205),(206,E206 f206),(207,E207 f207),(209,E209 f209)]
def N193v1:Ann:=(.seq .nil (.seq (.seq .nil (.blk (.unroll 6 .nil))) .nil))
def F193v1 (f205:T205) (f206:T206) (f207:T207) (f209:T209):T193v1:=fun (x0,x1,x2,x3,x4,_)=>(f205 (x4,())).bind fun v=>bif v.1 then some (x0,x0,x1,x2,x3,v.2.1,()) else (f206 (v.2.1,())).bind fun v=>bif v.1 then some (x1,x0,x1,x2,x3,v.2.1,()) else (f207 (v.2.1,())).bind fun v=>bif v.1 then some (x2,x0,x1,x2,x3,v.2.1,()) else (f209 (v.2.1,())).bind fun v=>bif v.1 then some (x3,x0,x1,x2,x3,v.2.1,()) else some (0,x0,x1,x2,x3,v.2.1,())
theorem h193v1 (f205:T205) (f206:T206) (f207:T207) (f209:T209):AqF (K193v1 f205 f206 f207 f209) 2 Tryz.f193 N193v1 Li189 Lo190 (F193v1 f205 f206 f207 f209):=fun v=>by kernel_rfl
def C193v1:T193v1:=F193v1 C205 C206 C207 C209
theorem ok193v1:FO 193 (E193v1 C193v1) :=
 qo (kc ok205 (kc ok206 (kc ok207 (kc ok209 kn)))) Tryz.func193 trivial (h193v1 C205 C206 C207 C209)
abbrev T159:=LqS×Unit→Option (Int×Unit)
def E159 (f:T159):FEnt:=⟨Li28,Lo10,f⟩
def K159 (f193v1:T193v1):=lk [(193,E193v1 f193v1)]
def F159 (f193v1:T193v1):T159:=fun (x0,_)=>(f193v1 (13,5,8,11,x0,())).bind fun v=>some (v.1,())
def C159:T159:=F159 C193v1
theorem ok159:FO 159 (E159 C159):=zq1 Li28 Lo10 K159 F159 C193v1 (kc ok193v1 kn) Tryz.func159
abbrev T236_l0:=LqS×Int×Int×Unit→Option (Unit⊕(Int×Unit))
def E236_l0 (f:T236_l0):LEnt:=⟨Li191,Lo157,f⟩
abbrev T236:=LqS×Int×Unit→Option (Int×Unit)
def E236 (f:T236):FEnt:=⟨Li13,Lo10,f⟩
def F236_l0:LpF (LqS×Int×Int×Unit) (Unit⊕(Int×Unit)):=fun (x0,x1,x2,_)=>bif decide (x2≥0) then bif decide (0≤x2)&&decide (x2<(↑x0.length:Int)) then bif (↑(x0.getD x2.toNat 0).toNat:Int)==x1 then some (Sum.inr (Sum.inr (x2,()))) else some (Sum.inl (x0,x1,IntKind.i64.wrap (x2-1),())) else none else some (Sum.inr (Sum.inl ()))
def C236_l0:T236_l0:=loopN (F236_l0) big
theorem k236_l0:LpOk 0 (subc (code Tryz.f236) [1,0,1,0,0]) (E236_l0 C236_l0):=zl0 Li191 Lo157 KqZ F236_l0 kn
def N236 (f236_l0:T236_l0):Ann:=(.seq .nil (.seq (.seq .nil (.blk (.loop (E236_l0 f236_l0)))) .nil))
def F236 (f236_l0:T236_l0):T236:=fun (x0,x1,_)=>(f236_l0 (x0,x1,IntKind.i64.wrap ((↑x0.length:Int)-1),())).bind fun v=>Sum.elim (fun v=>some (-1,())) (fun v=>some (v.1,())) v
def C236:T236:=F236 C236_l0
theorem ok236:FO 236 (E236 C236):=zq0_1 Li13 Lo10 KqZ N236 F236 C236_l0 kn Tryz.func236 (And.intro k236_l0 trivial)
abbrev T210:=LqS×Int×Unit→Option (Int×Unit)
def E210 (f:T210):FEnt:=⟨Li13,Lo10,f⟩
def K210 (f236:T236):=lk [(236,E236 f236)]
def F210 (f236:T236):T210:=fun (x0,x1,_)=>(f236 (x0,x1,())).bind fun v=>some (v.1,())
def C210:T210:=F210 C236
theorem ok210:FO 210 (E210 C210):=zq1 Li13 Lo10 K210 F210 C236 (kc ok236 kn) Tryz.func210
abbrev T237_c0:=Int×Bool×Unit→Option ((Int×Bool×Unit)⊕Unit)
def E237_c0 (f:T237_c0):LEnt:=⟨Li192,Lo193,f⟩
abbrev T237_c1:=Int×Bool×Unit→Option ((Int×Bool×Unit)⊕Unit)
def E237_c1 (f:T237_c1):LEnt:=⟨Li194,Lo193,f⟩
abbrev T237:=Int×Unit→Option (Int×Bool×Unit)
def E237 (f:T237):FEnt:=⟨Li21,Lo148,f⟩
def F237_c0:T237_c0:=fun (x0,x1,_)=>bif x1 then some (Sum.inl (IntKind.i64.wrap (IntKind.u8.wrap (x0-65)),true,())) else bif decide (x0≥97) then bif decide (x0≤122) then some (Sum.inl (IntKind.i64.wrap (IntKind.u8.wrap (x0-97)),true,())) else some (Sum.inr ()) else some (Sum.inr ())
def C237_c0:T237_c0:=F237_c0
theorem k237_c0:CdOk 0 (subc (code Tryz.f237) [1,0,0,1,1,1]) (E237_c0 C237_c0):=zc0 Li192 Lo193 KqZ F237_c0 kn
def N237_c1 (f237_c0:T237_c0):Ann:=(.cond .nil (.cut .nil (E237_c0 f237_c0)))
def F237_c1 (f237_c0:T237_c0):T237_c1:=fun (x0,x1,_)=>bif x1 then some (Sum.inl (IntKind.i64.wrap (IntKind.i64.wrap (IntKind.u8.wrap (x0-48))+26),true,())) else bif decide (x0≥65) then (f237_c0 (x0,decide (x0≤90),())).bind fun v=>Sum.elim (fun v=>some (Sum.inl (v.1,v.2.1,()))) (fun v=>some (Sum.inr ())) v else (f237_c0 (x0,false,())).bind fun v=>Sum.elim (fun v=>some (Sum.inl (v.1,v.2.1,()))) (fun v=>some (Sum.inr ())) v
theorem h237_c1 (f237_c0:T237_c0):AqC KqZ 0 (subc (code Tryz.f237) [1,0,0,1]) (N237_c1 f237_c0) Li194 Lo193 (F237_c1 f237_c0):=fun v=>by kernel_rfl
def C237_c1:T237_c1:=F237_c1 C237_c0
theorem k237_c1:CdOk 0 (subc (code Tryz.f237) [1,0,0,1]) (E237_c1 C237_c1) :=
 frd kn (And.intro k237_c0 trivial) (h237_c1 C237_c0)
def N237 (f237_c1:T237_c1):Ann:=(.seq .nil (.seq (.blk (.cut .nil (E237_c1 f237_c1))) .nil))
def F237 (f237_c1:T237_c1):T237:=fun (x0,_)=>bif decide (x0≥48) then (f237_c1 (x0,decide (x0≤57),())).bind fun v=>Sum.elim (fun v=>some (v.1,v.2.1,())) (fun v=>some (0,false,())) v else (f237_c1 (x0,false,())).bind fun v=>Sum.elim (fun v=>some (v.1,v.2.1,())) (fun v=>some (0,false,())) v
def C237:T237:=F237 C237_c1
theorem ok237:FO 237 (E237 C237):=zq0_1 Li21 Lo148 KqZ N237 F237 C237_c1 kn Tryz.func237 (And.intro k237_c1 trivial)
abbrev T211_l0:=LqS×Int×Int×Int×Int×Int×Unit→Option (Unit⊕Unit⊕(Int×LqS×Unit))
def E211_l0 (f:T211_l0):LEnt:=⟨Li197,Lo198,f⟩
abbrev T211_g0:=Unit→Option (Int×LqS×Unit)
def E211_g0 (f:T211_g0):LEnt:=⟨Li199,Lo200,f⟩
abbrev T211:=LqS×Int×Unit→Option (Int×LqS×Unit)
def E211 (f:T211):FEnt:=⟨Li195,Lo196,f⟩
def K211 (f233:T233) (f237:T237):=lk [(233,E233 f233),(237,E237 f237)]
theorem kok211:KOk Tryz.prog (K211 C233 C237):=(kc ok233 (kc ok237 kn))
def F211_l0 (f233:T233) (f237:T237):LpF (LqS×Int×Int×Int×Int×Int×Unit) (Unit⊕Unit⊕(Int×LqS×Unit)):=fun (x0,x1,x2,x3,x4,x5,_)=>bif decide (x5<x4) then bif decide (0≤x5)&&decide (x5<(↑x0.length:Int)) then (f237 ((↑(x0.getD x5.toNat 0).toNat:Int),())).bind fun v=>bif !v.2.1 then some (Sum.inr (Sum.inr (Sum.inl ()))) else bif decide (x3>2147483647) then some (Sum.inr (Sum.inr (Sum.inl ()))) else bif decide (IntKind.i64.wrap (x2+IntKind.i64.wrap (v.1*x3))>2147483647) then some (Sum.inr (Sum.inr (Sum.inl ()))) else (f233 (IntKind.i64.wrap (36*IntKind.i64.wrap (x5+1)),x1,())).bind fun v1=>bif decide (v.1<v1.1) then bif decide (0≤IntKind.i64.wrap (x5+1))&&decide (IntKind.i64.wrap (x5+1)≤(↑x0.length:Int)) then some (Sum.inr (Sum.inr (Sum.inr (IntKind.i64.wrap (x2+IntKind.i64.wrap (v.1*x3)),List.drop (IntKind.i64.wrap (x5+1)).toNat x0,())))) else none else some (Sum.inl (x0,x1,IntKind.i64.wrap (x2+IntKind.i64.wrap (v.1*x3)),IntKind.i64.wrap (x3*IntKind.i64.wrap (36-v1.1)),x4,IntKind.i64.wrap (x5+1),())) else none else some (Sum.inr (Sum.inl ()))
def C211_l0:T211_l0:=loopN (F211_l0 C233 C237) big
theorem k211_l0:LpOk 0 (subc (code Tryz.f211) [1,0,1,0,1,0,0]) (E211_l0 C211_l0):=zl2 Li197 Lo198 K211 F211_l0 C233 C237 kok211
def F211_g0 (f233:T233) (f237:T237):LpF (Unit) (Int×LqS×Unit):=fun (_)=>some (Sum.inr (-1,[],()))
theorem h211_g0 (f233:T233) (f237:T237) (v:HS Li199):aev Γ (K211 f233 f237) 0 ((findLabel (subc (code Tryz.f211) [1,0]) 0).getD .skip) .nil (stof Li199 v) (aroundL 0 0 [] Li199 Lo200)=F211_g0 f233 f237 v:=by kernel_rfl
def C211_g0:T211_g0:=loopN (F211_g0 C233 C237) big
theorem k211_g0:FragOk Tryz.prog 0 (ScopeFrom Tryz.prog (subc (code Tryz.f211) [1,0]) 0) (E211_g0 C211_g0) :=
 frag_big (ins:=Li199) (os:=Lo200) (C:=C211_g0) (frag_label (ins:=Li199) (os:=Lo200) (n := .nil) (ls:=[]) (F:=F211_g0 C233 C237) (rest:=((findLabel (subc (code Tryz.f211) [1,0]) 0).getD .skip)) hm hΓ kok211 (fun _=>big) (by kernel_rfl) (ann_nil _) find_nil (h211_g0 C233 C237)) rfl
def N211 (f211_g0:T211_g0) (f211_l0:T211_l0):Ann:=(.seq .nil (.scope (.seq .nil (.seq (.seq .nil (.blk (.loop (E211_l0 f211_l0)))) .nil)) [(0,(E211_g0 f211_g0))]))
def F211 (f233:T233) (f237:T237) (f211_g0:T211_g0) (f211_l0:T211_l0):T211:=fun (x0,x1,_)=>(f211_l0 (x0,x1,0,1,(↑x0.length:Int),0,())).bind fun v=>Sum.elim (fun v=>some (-1,[],())) (fun v=>Sum.elim (fun v=>(f211_g0 ()).bind fun v=>some (v.1,v.2.1,())) (fun v=>some (v.1,v.2.1,())) v) v
theorem h211 (f233:T233) (f237:T237) (f211_g0:T211_g0) (f211_l0:T211_l0):AqF (K211 f233 f237) 0 Tryz.f211 (N211 f211_g0 f211_l0) Li195 Lo196 (F211 f233 f237 f211_g0 f211_l0):=fun v=>by kernel_rfl
def C211:T211:=F211 C233 C237 C211_g0 C211_l0
theorem ok211:FO 211 (E211 C211) :=
 qo kok211 Tryz.func211 (And.intro k211_l0 (And.intro k211_g0 trivial)) (h211 C233 C237 C211_g0 C211_l0)
abbrev T160_l0:=LqS×Int×Int×Int×Bool×List (Int)×Unit→Option ((List (Int)×Unit)⊕(Bool×Unit))
def E160_l0 (f:T160_l0):LEnt:=⟨Li202,Lo203,f⟩
abbrev T160_c0:=LqS×List (Int)×Unit→Option (Bool×List (Int)×Unit)
def E160_c0 (f:T160_c0):LEnt:=⟨Li204,Lo205,f⟩
abbrev T160:=LqS×Unit→Option (List (Int)×Bool×Unit)
def E160 (f:T160):FEnt:=⟨Li28,Lo201,f⟩
def K160 (f12:T12) (f192:T192) (f210:T210) (f211:T211) (f212:T212) (f98:T98):=lk [(12,E12 f12),(192,E192 f192),(210,E210 f210),(211,E211 f211),(212,E212 f212),(98,E98 f98)]
theorem kok160:KOk Tryz.prog (K160 C12 C192 C210 C211 C212 C98):=(kc ok12 (kc ok192 (kc ok210 (kc ok211 (kc ok212 (kc ok98 kn))))))
def F160_l0 (f12:T12) (f192:T192) (f210:T210) (f211:T211) (f212:T212) (f98:T98):LpF (LqS×Int×Int×Int×Bool×List (Int)×Unit) ((List (Int)×Unit)⊕(Bool×Unit)):=fun (x0,x1,x2,x3,x4,x5,_)=>bif !x0==[] then (f211 (x0,x3,())).bind fun v=>bif decide (v.1<0) then some (Sum.inr (Sum.inr (false,()))) else bif decide (IntKind.i64.wrap (x2+v.1)>2147483647) then some (Sum.inr (Sum.inr (false,()))) else (f192 (v.1,IntKind.i64.wrap ((↑x5.length:Int)+1),x4,())).bind fun v1=>bif IntKind.i64.wrap ((↑x5.length:Int)+1) != 0 then bif decide (IntKind.i64.wrap (x1+IntKind.i64.wrap ((IntKind.i64.wrap (x2+v.1)).tdiv (IntKind.i64.wrap ((↑x5.length:Int)+1))))>1114111) then some (Sum.inr (Sum.inr (false,()))) else (f98 (IntKind.i32.wrap (IntKind.i64.wrap (x1+IntKind.i64.wrap ((IntKind.i64.wrap (x2+v.1)).tdiv (IntKind.i64.wrap ((↑x5.length:Int)+1))))),())).bind fun v2=>bif !v2.1 then some (Sum.inr (Sum.inr (false,()))) else bif IntKind.i64.wrap ((↑x5.length:Int)+1) != 0 then (f212 ((IntKind.i64.wrap (x2+v.1)).tmod (IntKind.i64.wrap ((↑x5.length:Int)+1)),x5,[IntKind.i32.wrap (IntKind.i64.wrap (x1+IntKind.i64.wrap ((IntKind.i64.wrap (x2+v.1)).tdiv (IntKind.i64.wrap ((↑x5.length:Int)+1)))))],())).bind fun v3=>some (Sum.inl (v.2.1,IntKind.i64.wrap (x1+IntKind.i64.wrap ((IntKind.i64.wrap (x2+v.1)).tdiv (IntKind.i64.wrap ((↑x5.length:Int)+1)))),IntKind.i64.wrap ((IntKind.i64.wrap (x2+v.1)).tmod (IntKind.i64.wrap ((↑x5.length:Int)+1))+1),v1.1,false,v3.1,())) else none else none else some (Sum.inr (Sum.inl (x5,())))
theorem h160_l0 (f12:T12) (f192:T192) (f210:T210) (f211:T211) (f212:T212) (f98:T98):AqL (K160 f12 f192 f210 f211 f212 f98) 0 (subc (code Tryz.f160) [1,1,1,1,1,0,1,0,0]) .nil Li202 Lo203 (F160_l0 f12 f192 f210 f211 f212 f98):=fun v=>by kernel_rfl
def C160_l0:T160_l0:=loopN (F160_l0 C12 C192 C210 C211 C212 C98) big
theorem k160_l0:LpOk 0 (subc (code Tryz.f160) [1,1,1,1,1,0,1,0,0]) (E160_l0 C160_l0) :=
 frl kok160 (h160_l0 C12 C192 C210 C211 C212 C98)
def N160_c0 (f160_l0:T160_l0):Ann:=(.seq .nil (.seq (.seq .nil (.blk (.loop (E160_l0 f160_l0)))) .nil))
def F160_c0 (f12:T12) (f192:T192) (f210:T210) (f211:T211) (f212:T212) (f98:T98) (f160_l0:T160_l0):T160_c0:=fun (x0,x1,_)=>(f160_l0 (x0,128,0,72,true,x1,())).bind fun v=>Sum.elim (fun v=>some (true,v.1,())) (fun v=>some (v.1,[],())) v
theorem h160_c0 (f12:T12) (f192:T192) (f210:T210) (f211:T211) (f212:T212) (f98:T98) (f160_l0:T160_l0):AqC (K160 f12 f192 f210 f211 f212 f98) 0 (subc (code Tryz.f160) [1,1,1,1]) (N160_c0 f160_l0) Li204 Lo205 (F160_c0 f12 f192 f210 f211 f212 f98 f160_l0):=fun v=>by kernel_rfl
def C160_c0:T160_c0:=F160_c0 C12 C192 C210 C211 C212 C98 C160_l0
theorem k160_c0:CdOk 0 (subc (code Tryz.f160) [1,1,1,1]) (E160_c0 C160_c0) :=
 frd kok160 (And.intro k160_l0 trivial) (h160_c0 C12 C192 C210 C211 C212 C98 C160_l0)
def N160 (f160_c0:T160_c0):Ann:=(.seq .nil (.seq .nil (.seq .nil (.cut .nil (E160_c0 f160_c0)))))
def F160 (f12:T12) (f192:T192) (f210:T210) (f211:T211) (f212:T212) (f98:T98) (f160_c0:T160_c0):T160:=fun (x0,_)=>(f12 (x0,())).bind fun v=>bif decide (v.1≥0) then some ([],false,()) else (f210 (x0,45,())).bind fun v=>bif decide (v.1>0) then bif decide (0≤v.1)&&decide (v.1≤(↑x0.length:Int)) then bif decide ((List.take (Int.toNat v.1) x0).length≤70368744177664)&&(List.take (Int.toNat v.1) x0).all fun b=>decide (b.toNat<128) then bif decide (0≤IntKind.i64.wrap (v.1+1))&&decide (IntKind.i64.wrap (v.1+1)≤(↑x0.length:Int)) then (f160_c0 (List.drop (IntKind.i64.wrap (v.1+1)).toNat x0,List.map (fun b=>(↑b.toNat:Int)) (List.take (Int.toNat v.1) x0),())).bind fun v=>some (v.2.1,v.1,()) else none else none else none else (f160_c0 (x0,[],())).bind fun v=>some (v.2.1,v.1,())
theorem h160 (f12:T12) (f192:T192) (f210:T210) (f211:T211) (f212:T212) (f98:T98) (f160_c0:T160_c0):AqF (K160 f12 f192 f210 f211 f212 f98) 0 Tryz.f160 (N160 f160_c0) Li28 Lo201 (F160 f12 f192 f210 f211 f212 f98 f160_c0):=fun v=>by kernel_rfl
def C160:T160:=F160 C12 C192 C210 C211 C212 C98 C160_c0
theorem ok160:FO 160 (E160 C160) :=
 qo kok160 Tryz.func160 (And.intro k160_c0 trivial) (h160 C12 C192 C210 C211 C212 C98 C160_c0)
abbrev T141:=Int×Int×Int×Int×Unit→Option (Bool×Int×Unit)
def E141 (f:T141):FEnt:=⟨Li41,Lo42,f⟩
def F141:T141:=fun (x0,x1,x2,x3,_)=>bif decide (x0≤x3) then some (decide (x3≤x1),x3,()) else some (false,x3,())
theorem h141:AqF KqZ 1 Tryz.f141 .nil Li41 Lo42 (F141):=fun v=>by kernel_rfl
def C141:T141:=F141
theorem ok141:FO 141 (E141 C141) :=
 q0 kn Tryz.func141 (h141)
abbrev T140_l0:=LqC×Int×Int×Int×Unit→Option ((Int×Unit)⊕(Int×Int×Unit))
def E140_l0 (f:T140_l0):LEnt:=⟨Li45,Lo46,f⟩
abbrev T140:=LqC×Int×Unit→Option (Int×Int×Unit)
def E140 (f:T140):FEnt:=⟨Li43,Lo44,f⟩
def K140 (f141:T141):=lk [(141,E141 f141)]
theorem kok140:KOk Tryz.prog (K140 C141):=(kc ok141 kn)
def F140_l0 (f141:T141):LpF (LqC×Int×Int×Int×Unit) ((Int×Unit)⊕(Int×Int×Unit)):=fun (x0,x1,x2,x3,_)=>bif decide (x2<x1) then bif decide (0≤x2)&&decide (x2<(↑x0.length:Int)) then (f141 ((x0.getD x2.toNat (0,(0,0))).1,(x0.getD x2.toNat (0,(0,0))).2.1,(x0.getD x2.toNat (0,(0,0))).2.2,x3,())).bind fun v=>bif v.1 then some (Sum.inr (Sum.inr (x2,v.2.1,()))) else some (Sum.inl (x0,x1,IntKind.i64.wrap (x2+1),v.2.1,())) else none else some (Sum.inr (Sum.inl (x3,())))
def C140_l0:T140_l0:=loopN (F140_l0 C141) big
theorem k140_l0:LpOk 1 (subc (code Tryz.f140) [1,0,1,0,0]) (E140_l0 C140_l0):=zl1 Li45 Lo46 K140 F140_l0 C141 kok140
def N140 (f140_l0:T140_l0):Ann:=(.seq .nil (.seq (.seq .nil (.blk (.loop (E140_l0 f140_l0)))) .nil))
def F140 (f141:T141) (f140_l0:T140_l0):T140:=fun (x0,x1,_)=>(f140_l0 (x0,(↑x0.length:Int),0,x1,())).bind fun v=>Sum.elim (fun v=>some (-1,v.1,())) (fun v=>some (v.1,v.2.1,())) v
theorem h140 (f141:T141) (f140_l0:T140_l0):AqF (K140 f141) 1 Tryz.f140 (N140 f140_l0) Li43 Lo44 (F140 f141 f140_l0):=fun v=>by kernel_rfl
def C140:T140:=F140 C141 C140_l0
theorem ok140:FO 140 (E140 C140) :=
 qo kok140 Tryz.func140 (And.intro k140_l0 trivial) (h140 C141 C140_l0)
abbrev T114:=LqA×LqB×LqC×Int×Unit→Option (Int×Unit)
def E114 (f:T114):FEnt:=⟨Li0,Lo36,f⟩
def K114 (f140:T140):=lk [(140,E140 f140)]
def F114 (f140:T140):T114:=fun (x0,x1,x2,x3,_)=>(f140 (x2,x3,())).bind fun v=>bif decide (v.1<0) then some (v.2.1,()) else bif decide (0≤v.1)&&decide (v.1<(↑x2.length:Int)) then some (IntKind.i32.wrap (v.2.1+(x2.getD (Int.toNat v.1) (0,(0,0))).2.2),()) else none
def C114:T114:=F114 C140
theorem ok114:FO 114 (E114 C114):=zq1 Li0 Lo36 K114 F114 C140 (kc ok140 kn) Tryz.func114
abbrev T113v1_l0:=LqA×LqB×LqC×List (Int)×Int×Int×List (Int)×Unit→Option (List (Int)×Unit)
def E113v1_l0 (f:T113v1_l0):LEnt:=⟨Li48,Lo40,f⟩
abbrev T113v1:=List (Int)×LqA×LqB×LqC×Unit→Option (List (Int)×Unit)
def E113v1 (f:T113v1):FEnt:=⟨Li47,Lo38,f⟩
def K113v1 (f114:T114):=lk [(114,E114 f114)]
theorem kok113v1:KOk Tryz.prog (K113v1 C114):=(kc ok114 kn)
def F113v1_l0 (f114:T114):LpF (LqA×LqB×LqC×List (Int)×Int×Int×List (Int)×Unit) (List (Int)×Unit):=fun (x0,x1,x2,x3,x4,x5,x6,_)=>bif decide (x5<x4) then bif decide (0≤x5)&&decide (x5<(↑x3.length:Int)) then (f114 (x0,x1,x2,x3.getD x5.toNat 0,())).bind fun v=>bif decide (x6.length+[v.1].length≤140737488355328/4) then some (Sum.inl (x0,x1,x2,x3,x4,IntKind.i64.wrap (x5+1),x6++[v.1],())) else none else none else some (Sum.inr (x6,()))
def C113v1_l0:T113v1_l0:=loopN (F113v1_l0 C114) big
theorem k113v1_l0:LpOk 0 (subc (code Tryz.f113) [1,1,0,1,0,0]) (E113v1_l0 C113v1_l0):=zl1 Li48 Lo40 K113v1 F113v1_l0 C114 kok113v1
def N113v1 (f113v1_l0:T113v1_l0):Ann:=(.seq .nil (.seq .nil (.seq (.seq .nil (.blk (.loop (E113v1_l0 f113v1_l0)))) .nil)))
def F113v1 (f114:T114) (f113v1_l0:T113v1_l0):T113v1:=fun (x0,x1,x2,x3,_)=>(f113v1_l0 (x1,x2,x3,x0,(↑x0.length:Int),0,[],())).bind fun v=>some (v.1,())
def C113v1:T113v1:=F113v1 C114 C113v1_l0
theorem ok113v1:FO 113 (E113v1 C113v1):=zq1_1 Li47 Lo38 K113v1 N113v1 F113v1 C114 C113v1_l0 kok113v1 Tryz.func113 (And.intro k113v1_l0 trivial)
abbrev T83:=LqA×LqB×LqC×List (Int)×Unit→Option (List (Int)×Unit)
def E83 (f:T83):FEnt:=⟨Li9,Lo38,f⟩
def K83 (f113v1:T113v1):=lk [(113,E113v1 f113v1)]
def F83 (f113v1:T113v1):T83:=fun (x0,x1,x2,x3,_)=>(f113v1 (x3,x0,x1,x2,())).bind fun v=>some (v.1,())
def C83:T83:=F83 C113v1
theorem ok83:FO 83 (E83 C83):=zq1 Li9 Lo38 K83 F83 C113v1 (kc ok113v1 kn) Tryz.func83
abbrev T115:=LqA×LqB×LqC×Int×Unit→Option (Int×Unit)
def E115 (f:T115):FEnt:=⟨Li0,Lo36,f⟩
def K115 (f119:T119):=lk [(119,E119 f119)]
def F115 (f119:T119):T115:=fun (x0,x1,x2,x3,_)=>bif decide (x3<65281) then some (x3,()) else bif decide (x3>65374) then some (x3,()) else (f119 (x0,x1,x2,x3,())).bind fun v=>some (v.2.1,())
def C115:T115:=F115 C119
theorem ok115:FO 115 (E115 C115):=zq1 Li0 Lo36 K115 F115 C119 (kc ok119 kn) Tryz.func115
abbrev T113_l0:=LqA×LqB×LqC×List (Int)×Int×Int×List (Int)×Unit→Option (List (Int)×Unit)
def E113_l0 (f:T113_l0):LEnt:=⟨Li39,Lo40,f⟩
abbrev T113:=List (Int)×LqA×LqB×LqC×Unit→Option (List (Int)×Unit)
def E113 (f:T113):FEnt:=⟨Li37,Lo38,f⟩
def K113 (f115:T115):=lk [(115,E115 f115)]
theorem kok113:KOk Tryz.prog (K113 C115):=(kc ok115 kn)
def F113_l0 (f115:T115):LpF (LqA×LqB×LqC×List (Int)×Int×Int×List (Int)×Unit) (List (Int)×Unit):=fun (x0,x1,x2,x3,x4,x5,x6,_)=>bif decide (x5<x4) then bif decide (0≤x5)&&decide (x5<(↑x3.length:Int)) then (f115 (x0,x1,x2,x3.getD x5.toNat 0,())).bind fun v=>bif decide (x6.length+[v.1].length≤140737488355328/4) then some (Sum.inl (x0,x1,x2,x3,x4,IntKind.i64.wrap (x5+1),x6++[v.1],())) else none else none else some (Sum.inr (x6,()))
def C113_l0:T113_l0:=loopN (F113_l0 C115) big
theorem k113_l0:LpOk 0 (subc (code Tryz.f113) [1,1,0,1,0,0]) (E113_l0 C113_l0):=zl1 Li39 Lo40 K113 F113_l0 C115 kok113
def N113 (f113_l0:T113_l0):Ann:=(.seq .nil (.seq .nil (.seq (.seq .nil (.blk (.loop (E113_l0 f113_l0)))) .nil)))
def F113 (f115:T115) (f113_l0:T113_l0):T113:=fun (x0,x1,x2,x3,_)=>(f113_l0 (x1,x2,x3,x0,(↑x0.length:Int),0,[],())).bind fun v=>some (v.1,())
def C113:T113:=F113 C115 C113_l0
theorem ok113:FO 113 (E113 C113):=zq1_1 Li37 Lo38 K113 N113 F113 C115 C113_l0 kok113 Tryz.func113 (And.intro k113_l0 trivial)
abbrev T84:=LqA×LqB×LqC×List (Int)×Unit→Option (List (Int)×Unit)
def E84 (f:T84):FEnt:=⟨Li9,Lo38,f⟩
def K84 (f113:T113):=lk [(113,E113 f113)]
def F84 (f113:T113):T84:=fun (x0,x1,x2,x3,_)=>(f113 (x3,x0,x1,x2,())).bind fun v=>some (v.1,())
def C84:T84:=F84 C113
theorem ok84:FO 84 (E84 C84):=zq1 Li9 Lo38 K84 F84 C113 (kc ok113 kn) Tryz.func84
abbrev T55:=LqA×LqB×LqC×LqS×Unit→Option (LqS×Bool×Unit)
def E55 (f:T55):FEnt:=⟨Li15,Lo49,f⟩
def K55 (f34:T34) (f82:T82) (f83:T83) (f84:T84) (f85:T85):=lk [(34,E34 f34),(82,E82 f82),(83,E83 f83),(84,E84 f84),(85,E85 f85)]
def F55 (f34:T34) (f82:T82) (f83:T83) (f84:T84) (f85:T85):T55:=fun (x0,x1,x2,x3,_)=>(f34 (x3,())).bind fun v=>bif decide (v.2.1≥0) then some ([],false,()) else (f84 (x0,x1,x2,v.1,())).bind fun v=>(f83 (x0,x1,x2,v.1,())).bind fun v=>(f82 (v.1,())).bind fun v=>(f85 (x0,x1,x2,v.1,())).bind fun v=>some (v.1,v.2.1,())
theorem h55 (f34:T34) (f82:T82) (f83:T83) (f84:T84) (f85:T85):AqF (K55 f34 f82 f83 f84 f85) 0 Tryz.f55 .nil Li15 Lo49 (F55 f34 f82 f83 f84 f85):=fun v=>by kernel_rfl
def C55:T55:=F55 C34 C82 C83 C84 C85
theorem ok55:FO 55 (E55 C55) :=
 q0 (kc ok34 (kc ok82 (kc ok83 (kc ok84 (kc ok85 kn))))) Tryz.func55 (h55 C34 C82 C83 C84 C85)
abbrev T127:=LqA×LqB×LqC×LqS×Unit→Option (LqS×LqS×Int×Unit)
def E127 (f:T127):FEnt:=⟨Li15,Lo16,f⟩
def K127 (f12:T12) (f156:T156) (f157:T157) (f158:T158) (f159:T159) (f160:T160) (f34:T34) (f55:T55) (f82:T82):=lk [(12,E12 f12),(156,E156 f156),(157,E157 f157),(158,E158 f158),(159,E159 f159),(160,E160 f160),(34,E34 f34),(55,E55 f55),(82,E82 f82)]
def F127 (f12:T12) (f156:T156) (f157:T157) (f158:T158) (f159:T159) (f160:T160) (f34:T34) (f55:T55) (f82:T82):T127:=fun (x0,x1,x2,x3,_)=>(f55 (x0,x1,x2,x3,())).bind fun v=>(f156 (v.1,[120,110,45,45],())).bind fun v1=>bif !v.2.1 then some ([],[],7,()) else (f12 (v.1,())).bind fun v2=>bif decide (v2.1≥0) then (f34 (v.1,())).bind fun v3=>(f157 (v3.1,())).bind fun v4=>bif decide ([120,110,45,45].length+List.length v4.1≤9223372036854775807) then (f158 (x0,x1,x2,v.1,())).bind fun v5=>some ([120,110,45,45]++v4.1,v.1,v5.1,()) else none else bif !v1.2.1 then (f159 (v.1,())).bind fun v3=>some (v.1,v.1,v3.1,()) else (f160 (v1.1,())).bind fun v3=>bif !v3.2.1 then some ([],[],12,()) else bif decide ((↑(List.length v.1):Int)>63) then some ([],[],5,()) else (f82 (v3.1,())).bind fun v4=>(f158 (x0,x1,x2,v4.1,())).bind fun v5=>bif v5.1 != 0 then some ([],[],v5.1,()) else (f157 (v3.1,())).bind fun v6=>bif !v6.1==v1.1 then some ([],[],12,()) else some (v.1,v4.1,0,())
theorem h127 (f12:T12) (f156:T156) (f157:T157) (f158:T158) (f159:T159) (f160:T160) (f34:T34) (f55:T55) (f82:T82):AqF (K127 f12 f156 f157 f158 f159 f160 f34 f55 f82) 0 Tryz.f127 .nil Li15 Lo16 (F127 f12 f156 f157 f158 f159 f160 f34 f55 f82):=fun v=>by kernel_rfl
def C127:T127:=F127 C12 C156 C157 C158 C159 C160 C34 C55 C82
theorem ok127:FO 127 (E127 C127) :=
 q0 (kc ok12 (kc ok156 (kc ok157 (kc ok158 (kc ok159 (kc ok160 (kc ok34 (kc ok55 (kc ok82 kn))))))))) Tryz.func127 (h127 C12 C156 C157 C158 C159 C160 C34 C55 C82)
abbrev T95:=LqA×LqB×LqC×LqS×Unit→Option (LqS×Int×Unit)
def E95 (f:T95):FEnt:=⟨Li15,Lo206,f⟩
def K95 (f127:T127):=lk [(127,E127 f127)]
def F95 (f127:T127):T95:=fun (x0,x1,x2,x3,_)=>(f127 (x0,x1,x2,x3,())).bind fun v=>bif v.2.2.1 != 0 then some ([],v.2.2.1,()) else some (v.1,0,())
def C95:T95:=F95 C127
theorem ok95:FO 95 (E95 C95):=zq1 Li15 Lo206 K95 F95 C127 (kc ok127 kn) Tryz.func95
abbrev T96:=LqA×LqB×LqC×LqS×Unit→Option (LqS×Int×Unit)
def E96 (f:T96):FEnt:=⟨Li15,Lo206,f⟩
def K96 (f127:T127):=lk [(127,E127 f127)]
def F96 (f127:T127):T96:=fun (x0,x1,x2,x3,_)=>(f127 (x0,x1,x2,x3,())).bind fun v=>bif v.2.2.1 != 0 then some ([],v.2.2.1,()) else some (v.2.1,0,())
def C96:T96:=F96 C127
theorem ok96:FO 96 (E96 C96):=zq1 Li15 Lo206 K96 F96 C127 (kc ok127 kn) Tryz.func96
abbrev T131:=LqS×Int×Unit→Option (Int×Unit)
def E131 (f:T131):FEnt:=⟨Li13,Lo10,f⟩
def K131 (f163:T163):=lk [(163,E163 f163)]
def F131 (f163:T163):T131:=fun (x0,x1,_)=>(f163 (x0,x1,())).bind fun v=>some (v.1,())
def C131:T131:=F131 C163
theorem ok131:FO 131 (E131 C131):=zq1 Li13 Lo10 K131 F131 C163 (kc ok163 kn) Tryz.func131
abbrev T164_c0:=LqS×LqS×Int×Bool×Unit→Option (Int×Unit)
def E164_c0 (f:T164_c0):LEnt:=⟨Li207,Lo208,f⟩
abbrev T164:=LqS×LqS×Unit→Option (Int×Unit)
def E164 (f:T164):FEnt:=⟨Li112,Lo10,f⟩
def K164 (f131:T131):=lk [(131,E131 f131)]
theorem kok164:KOk Tryz.prog (K164 C131):=(kc ok131 kn)
def F164_c0 (f131:T131):T164_c0:=fun (x0,x1,x2,x3,_)=>bif x3 then some (0,()) else bif x2==1 then bif decide (0<(↑x1.length:Int)) then (f131 (x0,(↑(x1.getD 0 0).toNat:Int),())).bind fun v=>some (v.1,()) else none else bif decide (x2≥(↑x0.length:Int)) then some (-1,()) else none
def C164_c0:T164_c0:=F164_c0 C131
theorem k164_c0:CdOk 0 (subc (code Tryz.f164) [1,1,0,0,1]) (E164_c0 C164_c0):=zc1 Li207 Lo208 K164 F164_c0 C131 kok164
def N164 (f164_c0:T164_c0):Ann:=(.seq .nil (.seq .nil (.seq (.blk (.cut .nil (E164_c0 f164_c0))) .nil)))
def F164 (f131:T131) (f164_c0:T164_c0):T164:=fun (x0,x1,_)=>bif (↑x1.length:Int)==0 then (f164_c0 (x0,x1,(↑x1.length:Int),true,())).bind fun v=>some (v.1,()) else (f164_c0 (x0,x1,(↑x1.length:Int),x1==x0,())).bind fun v=>some (v.1,())
def C164:T164:=F164 C131 C164_c0
theorem ok164:FO 164 (E164 C164):=zq1_1 Li112 Lo10 K164 N164 F164 C131 C164_c0 kok164 Tryz.func164 (And.intro k164_c0 trivial)
abbrev T134:=LqS×LqS×Unit→Option (LqS×LqS×Bool×Unit)
def E134 (f:T134):FEnt:=⟨Li112,Lo209,f⟩
def K134 (f164:T164):=lk [(164,E164 f164)]
def F134 (f164:T164):T134:=fun (x0,x1,_)=>(f164 (x0,x1,())).bind fun v=>bif decide (v.1≥0) then bif decide (0≤v.1)&&decide (v.1≤(↑x0.length:Int)) then bif decide (0≤IntKind.i64.wrap (v.1+(↑x1.length:Int)))&&decide (IntKind.i64.wrap (v.1+(↑x1.length:Int))≤(↑x0.length:Int)) then some (List.take (Int.toNat v.1) x0,List.drop (IntKind.i64.wrap (v.1+(↑x1.length:Int))).toNat x0,true,()) else none else none else some (x0,[],false,())
def C134:T134:=F134 C164
theorem ok134:FO 134 (E134 C134):=zq1 Li112 Lo209 K134 F134 C164 (kc ok164 kn) Tryz.func134
abbrev T110:=LqS×LqS×Unit→Option (LqS×LqS×Bool×Unit)
def E110 (f:T110):FEnt:=⟨Li112,Lo209,f⟩
def K110 (f134:T134):=lk [(134,E134 f134)]
def F110 (f134:T134):T110:=fun (x0,x1,_)=>(f134 (x0,x1,())).bind fun v=>some (v.1,v.2.1,v.2.2.1,())
def C110:T110:=F110 C134
theorem ok110:FO 110 (E110 C110):=zq1 Li112 Lo209 K110 F110 C134 (kc ok134 kn) Tryz.func110
end Go.Proofs.YtbifjondkjgkmaaGreatDoorA.W
namespace Go.Proofs.YtbifjondkjgkmaaGreatDoorA.W
open Go Go.Ae Go.RowKit
attribute [local go_sem] Oper.semAt_some
theorem cut_call {s sep l r:List UInt8} {ok:Bool} (h:C110 (s,sep,())=some (l,r,ok,())) {w:World} (hg:GI w m0) :
 Calls Tryz.prog 110 #[.string ⟨⟨s⟩⟩,.string ⟨⟨sep⟩⟩] w fun e w'=>e = .returned (.tuple #[.string ⟨⟨l⟩⟩,.string ⟨⟨r⟩⟩,.bool ok])∧Below w.heap.size w w':=by
 refine (FnOk.call0 (v:=(s,sep,())) (y:=(l,r,ok,())) ok110 Tryz.func110 (by kernel_rfl) (by kernel_rfl) hg (fun _ h=>h.elim) rfl ⟨_,_,rfl,rfl,_,_,rfl,rfl,rfl⟩ rfl h ?_).mono fun e w' ⟨rv,h1,h2,ax,l',u,h3,h4⟩ => ?_
 · intro ax l' u h3
   cases osel_one_inv h3;rfl
 · cases osel_one_inv h3
   obtain ⟨v,r',e1,⟨a,e2,e3⟩,e4⟩:=h4;have e4':r'=[]:=e4;subst e4';cases e1;subst h1 e2;refine ⟨?_,h2⟩;obtain ⟨v1,q1,f1,rfl,v2,q2,f2,rfl,v3,q3,f3,rfl,f4⟩:=e3;have f4':q3=[]:=f4;subst f4' f3 f2;cases a;cases f1;rfl
def partsC:Nat→List UInt8→Option (List (List UInt8))
 | 0,_=>none
 | n+1,s=>(C110 (s,[46],())).bind fun a=>bif a.2.2.1 then (partsC n a.2.1).map (a.1 :: ·) else some [a.1]
theorem box_of_block {W W':World} {b:Nat} {t:TypeId} {v:Value} (h:Boxed W b t v) (hk:W'.heap[b]? = W.heap[b]?):Boxed W' b t v:=hk.trans h
set_option maxHeartbeats 4000000 in
theorem parts_seq (n:Nat) (hn:1≤n) (Bs:Nat) (s:List UInt8) (xs:List (List UInt8)) (N:Nat) (hxs:partsC N s=some xs) (w:World) (hb:Boxed w Bs 9 (.string ⟨⟨s⟩⟩)) (hg:GI w m0) (hnb:∀b∈GlobB,b≠Bs) :
 SeqD Fence.wide n Tryz.prog 155 #[.pointer (some ⟨Bs,0,none⟩)] (fun x:List UInt8 => #[.string ⟨⟨x⟩⟩]) (fun b=>b=Bs∨b∈GlobB) Bs xs w:=by
 intro l J Jx W hW hJ hJx hY h0;have hb':Boxed W Bs 9 (.string ⟨⟨s⟩⟩):=(hW.block Bs hb.lt).trans hb;have hg':GI W m0:=gi_below hg hW;refine callsIn_of_wp Tryz.func155 rfl trivial ?_ rfl;simp only [Tryz.ntmps155,List.size_toArray,List.length_cons,List.length_nil,Nat.reduceAdd,Nat.reduceSub,Array.replicate_succ,Array.replicate_zero,List.push_toArray,List.append_toArray,List.nil_append,List.cons_append]
 gi_wp2
 gi_loopg [] N (fun k wr=>∃(pre t:List (List UInt8)) (rest:List UInt8),xs=pre++t∧partsC k rest=some t∧J pre wr∧Boxed wr Bs 9 (.string ⟨⟨rest⟩⟩)∧GI wr m0)
 case atStart=>exact ⟨[],xs,s,rfl,hxs,h0,hb',hg'⟩
 case round =>
  rename_i JJ KK hJJ hKK;obtain ⟨pre,t,rest,hx,hp,hJs,hbx,hgr⟩:=hrel;cases gk with
  | zero=>cases hp
  | succ k =>
   simp only [partsC] at hp;obtain ⟨⟨lf,rt,ok,u⟩,hc,hp2⟩:=Option.bind_eq_some_iff.1 hp;simp only at hp2;have hcell:=hbx.cell;have hpre:pre++[lf] <+: xs:=by
    rw [hx];cases ok with
    | true =>
     obtain ⟨t',h1,rfl⟩:=Option.map_eq_some_iff.1 hp2;exact ⟨t',by simp⟩
    | false =>
     have:t=[lf]:=(Option.some.inj hp2).symm;exact ⟨[],by simp [this]⟩
   gi_wp2_with (refine ⟨trivial,?_⟩;gi_at_call 110;refine (callsIn_wide.2 (cut_call hc hgr)).mono ?_;rintro e w' ⟨rfl,hbel⟩;obtain ⟨fn,tmps,assign,body,hy,hR⟩:=hY pre lf w' hpre (hJ _ _ _ hJs (Oth.of_below hbel)))
   refine hR.mono ?_;rintro e W3 (⟨rfl,hJ3,hs3,hk3⟩|⟨rfl,hJx3⟩)
   · have hbx3:Boxed W3 Bs 9 (.string ⟨⟨rest⟩⟩):=(hk3 Bs (.inl rfl)).trans ((hbel.block Bs hbx.lt).trans hbx)
     have hg3:GI W3 m0:=gi_keep (gi_below hgr hbel) hs3 fun b hb=>hk3 b (.inr hb);have hc3:=hbx3.cell;have hf3:=hbx3.frozen;cases ok with
     | true =>
      obtain ⟨t',h1,rfl⟩:=Option.map_eq_some_iff.1 hp2
      gi_wp2
      gi_roundg k
      case rel=>exact ⟨pre++[lf],t',rt,by simp [hx],h1,hJ _ _ _ hJ3 (Oth.set Bs 0 W3 _),Boxed.set _ hbx3,gi_keep hg3 (by simp) fun b hb=>Below.heap_setCell _ _ _ _ (hnb b hb)⟩
      case measure=>omega
     | false =>
      have ht:t=[lf]:=(Option.some.inj hp2).symm;subst ht
      gi_wp2
      refine bodyPost_ret (results_none rfl _ _ _) rfl ?_;exact ⟨⟨_,rfl⟩,.inl (hx▸hJ3)⟩
   · gi_wp2
     refine bodyPost_ret (results_none rfl _ _ _) rfl ?_;exact ⟨⟨_,rfl⟩,.inr ⟨_,hpre,hJx3⟩⟩
def encS (x:List UInt8):Value := .string ⟨⟨x⟩⟩
theorem ownsRow_oth {N Bs base:Nat} {A B:World} {e:TypeId} {size k:Nat} {v:Value} {xs:List Value} (hBs:Bs<base) (h:A.ownsRow base e size v k xs) (ho:OthR N Bs A B):B.ownsRow base e size v k xs:=by
 refine ⟨h.1,?_⟩;rcases h.2 with h|⟨g,cap,cur,e1,h2,h3,h4⟩
 · exact .inl h
 · exact .inr ⟨g,cap,cur,e1,h2,ho.keep g _ h3 (by omega) (.inr rfl),h4⟩
theorem oth_othR {N Bs:Nat} {W0 A B:World} (hN:W0.heap.size≤N) (h:Oth Bs W0 A) (ho:OthR N Bs A B):Oth Bs W0 B :=
 ⟨ho.os.trans h.os,ho.tape.trans h.tape,ho.output.trans h.output,Nat.le_trans h.size ho.size,fun b hb hne=>by
  have h1:=h.keep b hb hne;obtain ⟨o,h2⟩:∃o,W0.heap[b]? = some o:=⟨_,Array.getElem?_eq_getElem hb⟩
  rw [h2] at h1 ⊢;exact ho.keep b o h1 hne (.inl (by omega))⟩
theorem info_string:(Tryz.prog.info? 9).map (fun i=>(i.zero,i.size,i.bytes))=some (some (.string ⟨#[]⟩),1,16):=by kernel_rfl
set_option maxHeartbeats 4000000 in
theorem gather_walk (gf:Nat) (hgf:∀args w,(callFunc gf args).run Tryz.prog w = .ok (.enter gf args) w) (Bs:Nat) (xs:List (List UInt8)) (w:World) (hBs:Bs<w.heap.size) (hg:GI w m0) (hlen:xs.length≤1000000000000)
 (hseq:∀W,Below w.heap.size w W→SeqD Fence.wide 2 Tryz.prog gf #[.pointer (some ⟨Bs,0,none⟩)] (fun x:List UInt8 => #[Value.string ⟨⟨x⟩⟩]) (fun b=>b=Bs∨b∈GlobB) Bs xs W) :
 CallsIn Fence.wide 3 Tryz.prog 154 #[.slice none 0 0,.func (.func gf) #[] #[.pointer (some ⟨Bs,0,none⟩)]] w fun e W' =>
  ∃v,e = .returned v∧W'.ownsRow w.heap.size 9 1 v xs.length (xs.map encS)∧Oth Bs w W':=by
 obtain ⟨i0,hi,hz0,hz1,hz2⟩:=info_parts info_string;refine callsIn_of_wp_marks Tryz.func154 rfl trivial ?_ rfl;simp only [Tryz.ntmps154,List.size_toArray,List.length_cons,List.length_nil,Nat.reduceAdd,Nat.reduceSub,Array.replicate_succ,Array.replicate_zero,List.push_toArray,List.append_toArray,List.nil_append,List.cons_append]
 gi_wp2
 have hB0:Below w.heap.size w (w.alloc (.cells #[.slice none 0 0] 88)):=(Below.refl _ w).alloc (Nat.le_refl _) _;refine wpIn_rangeFunc_dir (F:=Fence.wide) rfl (by omega) (gf:=gf) (lb := #[.pointer (some ⟨Bs,0,none⟩)]) rfl trivial hgf (hseq _ hB0)
  (by rintro b (rfl|hb);· (rw [World.size_alloc];omega)
      · (have:=(hg.b b hb).1;rw [World.size_alloc];omega)) (by rw [World.size_alloc];omega) (fun _=>rfl)
  (fun pre W=>(∃v,Boxed W w.heap.size 88 v∧W.ownsRow w.heap.size 9 1 v pre.length (pre.map encS))∧Oth Bs w W)
  (fun _ _ _=>False)
  (fun s A B hs ho=>by
   obtain ⟨⟨v,h1,h2⟩,h3⟩:=hs;exact ⟨⟨v,boxed_oth h1 (by omega) ho,ownsRow_oth hBs h2 ho⟩,oth_othR (by rw [World.size_alloc];omega) h3 ho⟩)
  (fun _ _ _ _ hs _=>hs)
  ⟨⟨_,Boxed.new _ _ _,World.ownsRow_nil _ _ _ _⟩,Oth.of_below hB0⟩
  (fun x=>{ tmps := #[.slice none 0 0,.func (.func gf) #[] #[.pointer (some ⟨Bs,0,none⟩)],.pointer (some ⟨w.heap.size,0,none⟩),undef,.slice none 0 0,.string ⟨⟨x⟩⟩,.func (.func gf) #[] #[.pointer (some ⟨Bs,0,none⟩)],.string ⟨⟨x⟩⟩,undef,undef,undef,undef,undef],defers:=[] }) ?assign ?body ?done ?stop
 case assign =>
  intro l x W K hK
  gi_wp2
  exact hK
 case body =>
  rintro l pre x W hsz hpre ⟨⟨v,hv,hrow⟩,hoth⟩;have hc:=hv.cell;have hpl:pre.length<xs.length:=by have:=hpre.length_le;simp at this;omega
  have hsz2:=hoth.size
  gi_wp2_with (gi_at_builtin;refine wpListIn_append_own _ rfl _ _ 88 rfl w.heap.size 9 i0 (.string ⟨#[]⟩) 1 16 Tryz.underlying88 hi hz0 hz1 hz2 rfl (by decide) _ _ _ rfl (hrow.alloc _) ⟨W.heap.size,0,none⟩ 1 1 [.string ⟨⟨x⟩⟩] rfl rfl (cell_one_new _ _ _) (by simp [Value.oneCell']) (by simp only [maxLen];omega) (by omega) (by simp;omega) ?_;intro v' w1 hown' hgrow _;obtain ⟨g',cap',rfl⟩:=ownsRow_succ hown';obtain ⟨hv1,hv2,hr2,hk2,hb2⟩:=hv.appended (by decide) hrow hsz2 (Nat.le_refl _) hown' hgrow;have hc1:=hv1.cell;have hf1:=hv1.frozen)
  exact ⟨hk2.from _,fun b hb=>hb2.block b (by
   rcases hb with rfl|hb
   · exact hBs
   · exact (hg.b b hb).1),⟨_,hv2,by simpa [encS] using hr2⟩,hb2.os.trans hoth.os,hb2.tape.trans hoth.tape,hb2.output.trans hoth.output,Nat.le_trans hoth.size hb2.size,fun b hb hne=>(hb2.block b hb).trans (hoth.keep b hb hne)⟩
 case done =>
  rintro D W hD ⟨⟨v,hv,hrow⟩,hoth⟩ hK;have hc:=hv.cell
  gi_wp2
  refine ⟨by simp,.inl ⟨_,_,rfl,run_takeDeferred hK,?_⟩⟩;have hD':w.heap.size+1≤D:=by rw [World.size_alloc] at hD;exact hD
  exact ⟨_,results_tmp rfl _ _ _,v,rfl,ownsRow_putObj hrow _ hK rfl,hoth.os,hoth.tape,hoth.output,by simpa [World.putObj] using hoth.size,fun b hb hne=>(World.putObj_heap_other (by omega)).trans (hoth.keep b hb hne)⟩
 case stop =>
  rintro D c pre W _ _ h _;exact h.elim
set_option maxHeartbeats 4000000 in
theorem parts_mk (s:List UInt8) (w:World):Calls Tryz.prog 125 #[.string ⟨⟨s⟩⟩] w fun e w'=>e = .returned (.func (.func 155) #[] #[.pointer (some ⟨w.heap.size,0,none⟩)])∧w'=w.alloc (.cells #[.string ⟨⟨s⟩⟩] 9):=by
 go_enter Tryz.func125,Tryz.ntmps125
 go_wp2
 go_returns
 exact ⟨rfl,rfl⟩
theorem collect_call (gf Bs:Nat) (hgf:∀args w,(callFunc gf args).run Tryz.prog w = .ok (.enter gf args) w) (xs:List (List UInt8)) (w:World) (hBs:Bs<w.heap.size) (hg:GI w m0) (hlen:xs.length≤1000000000000)
 (hseq:∀W,Below w.heap.size w W→SeqD Fence.wide 2 Tryz.prog gf #[.pointer (some ⟨Bs,0,none⟩)] (fun x:List UInt8 => #[Value.string ⟨⟨x⟩⟩]) (fun b=>b=Bs∨b∈GlobB) Bs xs W) :
 Calls Tryz.prog 124 #[.func (.func gf) #[] #[.pointer (some ⟨Bs,0,none⟩)]] w fun e W' =>
  ∃v,e = .returned v∧W'.ownsRow w.heap.size 9 1 v xs.length (xs.map encS)∧Oth Bs w W':=by
 go_enter Tryz.func124,Tryz.ntmps124
 go_wp2_with (go_at_call 154;refine (callsIn_wide.1 (gather_walk gf hgf Bs xs w hBs hg hlen hseq)).mono ?_;rintro e W' ⟨v,rfl,h1,h2⟩)
 go_returns
 exact ⟨v,rfl,h1,h2⟩
def labelsF (f:List UInt8) (ok:Bool):Option (List (List UInt8)×Int) :=
 bif !ok then some ([],7) else bif f.isEmpty then some ([],13) else
 bif decide (f.length≤1000000000) then
  (partsC (f.length+2) (Lib.replaceAll f [227,128,130] [46])).bind fun ps=>bif decide (ps.length≤1000000000000) then (bif decide (32<ps.length) then some ([],2) else some (ps,0)) else none
 else none
theorem max_len {w:World} (hg:GI w m0):∃m,w.cell? ⟨0,0,none⟩=some (.int .i64 m):=by first|exact hg.i|exact hg.i.1
theorem replace_call (f:List UInt8) (hf:f.length≤1000000000) (w:World) (hg:GI w m0) :
 Calls Tryz.prog 123 #[.string ⟨⟨f⟩⟩,.string ⟨#[227,128,130]⟩,.string ⟨#[46]⟩] w fun e w'=>e = .returned (.string ⟨⟨Lib.replaceAll f [227,128,130] [46]⟩⟩)∧Below w.heap.size w w':=by
 obtain ⟨m,hm⟩:=max_len hg;have hcnt:=Lib.count_le f [227,128,130];refine (Go.Proofs.Any.strings_ReplaceAll Tryz.lays155 Tryz.Builder_Extra_155 ⟨⟨f⟩⟩ ⟨#[227,128,130]⟩ ⟨#[46]⟩ m w ?_ hm ?_ ?_).mono ?_
 · show f.length<_
   omega
 · decide
 · show f.length+Lib.count f [227,128,130]*1≤_
   omega
 · rintro e w' ⟨h1,h2⟩
   exact ⟨h1,h2⟩
theorem below_oth {Bs B:Nat} {A W W':World} (h:Below B A W) (hB:B≤W.heap.size) (hBs:B≤Bs) (ho:Oth Bs W W'):Below B A W' :=
 h.trans ⟨ho.os,ho.tape,ho.output,ho.size,fun k hk=>ho.keep k (by omega) (by omega)⟩
theorem row_slice {W:World} {base:Nat} {e:TypeId} {v:Value} {n:Nat} {xs:List Value} (h:W.ownsRow base e 1 v n xs):∃a cap,v = .slice a n cap:=by
 rcases h.2 with ⟨h1,h2⟩|⟨g,cap,cur,h1,_⟩
 · subst h2;exact ⟨_,_,h1⟩
 · exact ⟨_,_,h1⟩
set_option maxHeartbeats 4000000 in
theorem labels_walk (v0 v1 v2 v3 v4:Value) (s f:List UInt8) (ok:Bool) (ls:List (List UInt8)) (c:Int) (w:World) (hg:GI w m0) (hC:labelsF f ok=some (ls,c))
 (hfold:∀W,Below w.heap.size w W→Calls Tryz.prog 55 #[.agg #[v0,v1,v2,v3,v4],.string ⟨⟨s⟩⟩] W fun e W'=>e = .returned (.tuple #[.string ⟨⟨f⟩⟩,.bool ok])∧Below W.heap.size W W') :
 Calls Tryz.prog 93 #[.agg #[v0,v1,v2,v3,v4],.string ⟨⟨s⟩⟩] w fun e w'=>∃v,e = .returned (.tuple #[v,.int .i64 c])∧Below w.heap.size w w'∧w'.ownsRow w.heap.size 9 1 v ls.length (ls.map encS):=by
 have hW0:Below w.heap.size w (w.alloc (.cells #[v0,v1,v2,v3,v4] 32)):=(Below.refl _ w).alloc (Nat.le_refl _) _;have hF:=hfold _ hW0;clear hfold;cases ok with
 | false =>
  have hC':(([]:List (List UInt8)),(7:Int))=(ls,c):=Option.some.inj hC;cases hC'
  go_enter Tryz.func93,Tryz.ntmps93
  go_wp2_with (go_at_call 55;refine hF.mono ?_;rintro e w1 ⟨rfl,hb1⟩)
  go_returns
  exact ⟨_,rfl,hW0.trans (hb1.mono hW0.size),World.ownsRow_nil _ _ _ _⟩
 | true =>
  cases f with
  | nil =>
   have hC':(([]:List (List UInt8)),(13:Int))=(ls,c):=Option.some.inj hC;cases hC'
   go_enter Tryz.func93,Tryz.ntmps93
   go_wp2_with (go_at_call 55;refine hF.mono ?_;rintro e w1 ⟨rfl,hb1⟩)
   go_returns
   exact ⟨_,rfl,hW0.trans (hb1.mono hW0.size),World.ownsRow_nil _ _ _ _⟩
  | cons f0 f1 =>
   have hC1:(bif decide ((f0::f1).length≤1000000000) then
    (partsC ((f0::f1).length+2) (Lib.replaceAll (f0::f1) [227,128,130] [46])).bind fun ps=>bif decide (ps.length≤1000000000000) then (bif decide (32<ps.length) then some (([]:List (List UInt8)),(2:Int)) else some (ps,0)) else none
    else none)=some (ls,c):=hC
   rcases cond_some hC1 with ⟨hlen,hC2⟩|⟨_,hC2⟩
   case inr=>cases hC2
   have hlen':=of_decide_eq_true hlen;obtain ⟨ps,hps,hC3⟩:=Option.bind_eq_some_iff.1 hC2;rcases cond_some hC3 with ⟨hl2,hC4⟩|⟨_,hC4⟩
   case inr=>cases hC4
   have hl2':=of_decide_eq_true hl2;have hcc:∀W:World,GI W m0→Calls Tryz.prog 124 #[.func (.func 155) #[] #[.pointer (some ⟨W.heap.size,0,none⟩)]] (W.alloc (.cells #[.string ⟨⟨Lib.replaceAll (f0::f1) [227,128,130] [46]⟩⟩] 9)) fun e W' =>
    ∃v,e = .returned v∧W'.ownsRow (W.alloc (.cells #[.string ⟨⟨Lib.replaceAll (f0::f1) [227,128,130] [46]⟩⟩] 9)).heap.size 9 1 v ps.length (ps.map encS)∧Oth W.heap.size (W.alloc (.cells #[.string ⟨⟨Lib.replaceAll (f0::f1) [227,128,130] [46]⟩⟩] 9)) W':=fun W hgW=>by
    have hbW:Below W.heap.size W (W.alloc (.cells #[.string ⟨⟨Lib.replaceAll (f0::f1) [227,128,130] [46]⟩⟩] 9)):=(Below.refl _ W).alloc (Nat.le_refl _) _;have hgW':=gi_below hgW hbW;refine collect_call 155 W.heap.size (enters_of Tryz.func155 (by kernel_rfl) rfl) ps _ (by rw [World.size_alloc];omega) hgW' hl2' fun W2 hb2 => ?_;exact parts_seq 2 (by omega) W.heap.size _ ps _ hps W2 (box_of_block (Boxed.new _ _ _) (hb2.block _ (by rw [World.size_alloc];omega))) (gi_below hgW' hb2) fun b hb=>by have:=(hgW.b b hb).1;omega
   have hg1:=fun W hb=>replace_call (f0::f1) hlen' W (gi_below hg hb);generalize Lib.replaceAll (f0::f1) [227,128,130] [46]=r at hps hcc hg1;have fin:∀{w1 w2 w4:World} {v:Value},Below (w.alloc (.cells #[v0,v1,v2,v3,v4] 32)).heap.size (w.alloc (.cells #[v0,v1,v2,v3,v4] 32)) w1→Below w1.heap.size w1 w2→w4.ownsRow (w2.alloc (.cells #[.string ⟨⟨r⟩⟩] 9)).heap.size 9 1 v ps.length (ps.map encS)→Oth w2.heap.size (w2.alloc (.cells #[.string ⟨⟨r⟩⟩] 9)) w4→Below w.heap.size w w4∧w4.ownsRow w.heap.size 9 1 v ps.length (ps.map encS):=by
    intro w1 w2 w4 v h1 h2 h3 h4;have b2:Below w.heap.size w w2:=(hW0.trans (h1.mono hW0.size)).trans (h2.mono (by have:=hW0.size;have:=h1.size;omega));have b3:Below w.heap.size w (w2.alloc (.cells #[.string ⟨⟨r⟩⟩] 9)):=b2.alloc b2.size _;refine ⟨below_oth b3 b3.size b2.size h4,h3.1,?_⟩;rcases h3.2 with h|⟨g,cap,cur,e1,e2,e3⟩
    · exact .inl h
    · exact .inr ⟨g,cap,cur,e1,Nat.le_trans b3.size e2,e3⟩
   have Fin:Hid _ := @fin;clear fin;by_cases h32:32<ps.length
   · rw [decide_eq_true h32,cond_true] at hC4
     have hC':(([]:List (List UInt8)),(2:Int))=(ls,c):=Option.some.inj hC4;cases hC';clear hC hC1 hC2 hC3 hC4
     go_enter Tryz.func93,Tryz.ntmps93
     go_wp2_with (first
      | (go_at_call 55;refine hF.mono ?_;rintro e w1 ⟨rfl,hb1⟩)
      | (go_at_call 123;refine (hg1 _ (hW0.trans (hb1.mono hW0.size))).mono ?_;rintro e w2 ⟨rfl,hb2⟩)
      | (go_at_call 125;refine (parts_mk r _).mono ?_;rintro e w3 ⟨rfl,rfl⟩)
      | (go_at_call 124;have hgw2:GI w2 m0:=gi_below (gi_below (gi_below hg hW0) hb1) hb2;refine (hcc _ hgw2).mono ?_;rintro e w4 ⟨v,rfl,hrow,hoth⟩;obtain ⟨sa,sc,rfl⟩:=row_slice hrow)
      | go_in)
     go_returns
     exact ⟨_,rfl,(Fin.out hb1 hb2 hrow hoth).1,World.ownsRow_nil _ _ _ _⟩
   · rw [decide_eq_false h32,cond_false] at hC4
     have hC':(ps,(0:Int))=(ls,c):=Option.some.inj hC4;cases hC';clear hC hC1 hC2 hC3 hC4
     go_enter Tryz.func93,Tryz.ntmps93
     go_wp2_with (first
      | (go_at_call 55;refine hF.mono ?_;rintro e w1 ⟨rfl,hb1⟩)
      | (go_at_call 123;refine (hg1 _ (hW0.trans (hb1.mono hW0.size))).mono ?_;rintro e w2 ⟨rfl,hb2⟩)
      | (go_at_call 125;refine (parts_mk r _).mono ?_;rintro e w3 ⟨rfl,rfl⟩)
      | (go_at_call 124;have hgw2:GI w2 m0:=gi_below (gi_below (gi_below hg hW0) hb1) hb2;refine (hcc _ hgw2).mono ?_;rintro e w4 ⟨v,rfl,hrow,hoth⟩;obtain ⟨sa,sc,rfl⟩:=row_slice hrow)
      | go_in)
     go_returns
     exact ⟨_,rfl,(Fin.out hb1 hb2 hrow hoth).1,(Fin.out hb1 hb2 hrow hoth).2⟩
set_option maxHeartbeats 4000000 in
theorem values_seq (n:Nat) (hn:1≤n) (Bs base:Nat) (v:Value) (xs:List (List UInt8)) (K:Nat→Prop) (w:World) (hb:Boxed w Bs 88 v) (hrow:w.ownsRow base 9 1 v xs.length (xs.map encS)) (hlen:xs.length≤1000000000000) (hKb:K Bs) (hKv:∀b,v.ownBlock=some b→K b) (Bd:Nat) :
 SeqD Fence.wide n Tryz.prog 126 #[.pointer (some ⟨Bs,0,none⟩)] (fun x:List UInt8 => #[Value.string ⟨⟨x⟩⟩]) K Bd xs w:=by
 intro l J Jx W hW hJ hJx hY h0;have hb':Boxed W Bs 88 v:=(hW.block Bs hb.lt).trans hb;have hc:=hb'.cell;rcases hrow.2 with ⟨rfl,hn0⟩|⟨g,cap,cur,rfl,hg1,hg2,hg3,hg4,hg5,hg6⟩
 · have hx:xs=[]:=List.eq_nil_of_length_eq_zero hn0
   subst hx;refine callsIn_of_wp Tryz.func126 rfl trivial ?_ rfl;simp only [Tryz.ntmps126,List.size_toArray,List.length_cons,List.length_nil,Nat.reduceAdd,Nat.reduceSub,Array.replicate_succ,Array.replicate_zero,List.push_toArray,List.append_toArray,List.nil_append,List.cons_append]
   gi_wp2
   gi_loopw [7] (fun i wr=>i = .int .i64 0∧J [] wr) (fun _ _=>0)
   case atStart=>exact ⟨rfl,h0⟩
   case round =>
    obtain ⟨rfl,hJs⟩:=hrel
    gi_wp2
    go_end0
    exact ⟨⟨_,rfl⟩,.inl hJs⟩
 · have hKg:K g:=hKv g rfl
   have hgW:W.heap[g]? = some (.cells cur 9 (0,0)):=(hW.block g (lt_of_some hg2)).trans hg2;have hcur:∀(k:Nat) x,xs[k]? = some x→cur[k]? = some (.string ⟨⟨x⟩⟩):=fun k x hk=>by
    have hlt:k<xs.length:=(List.getElem?_eq_some_iff.1 hk).1;have h1:(cur.toList.take (xs.length*1))[k]? = some (encS x):=by rw [hg6,List.getElem?_map,hk];rfl
    rw [List.getElem?_take_of_lt (by omega),Array.getElem?_toList] at h1;exact h1
   refine callsIn_of_wp Tryz.func126 rfl trivial ?_ rfl;simp only [Tryz.ntmps126,List.size_toArray,List.length_cons,List.length_nil,Nat.reduceAdd,Nat.reduceSub,Array.replicate_succ,Array.replicate_zero,List.push_toArray,List.append_toArray,List.nil_append,List.cons_append];generalize hN:xs.length=N at *
   gi_wp2
   gi_loopw [7] (fun i wr=>∃k:Nat,i = .int .i64 k∧k≤N∧Hid (J (xs.take k) wr)∧Hid (wr.heap[g]? = some (.cells cur 9 (0,0)))) (fun i _=>N-(intOf i).toNat)
   case atStart=>exact ⟨0,rfl,Nat.zero_le _,h0,hgW⟩
   case round =>
    obtain ⟨k,rfl,hk,hJs,hgr⟩:=hrel;by_cases hlt:k<N
    · obtain ⟨x,hx⟩:∃x,xs[k]? = some x:=⟨_,List.getElem?_eq_getElem (by omega)⟩
      have htk:xs.take (k+1)=xs.take k++[x]:=by rw [List.take_add_one,hx];rfl
      have hpre:xs.take k++[x] <+: xs:=htk▸List.take_prefix _ _;have hcx:wr.cell? ⟨g,k,none⟩=some (.string ⟨⟨x⟩⟩):=by simp only [World.cell?,hgr.out];exact hcur k x hx
      obtain ⟨fn,tmps,assign,body,hy,hR⟩:=hY _ x wr hpre hJs.out;clear hcur
      gi_wp2
      refine hR.mono ?_;rintro e W3 (⟨rfl,hJ3,hs3,hk3⟩|⟨rfl,hJx3⟩)
      · have hg3:Hid (W3.heap[g]? = some (.cells cur 9 (0,0))):=(hk3 g hKg).trans hgr.out
        have hJ4:Hid (J (xs.take (k+1)) W3):=by rw [htk];exact hJ3
        gi_wp2
        go_roundw
        case rel=>exact ⟨k+1,by simp,by omega,hJ4,hg3⟩
        case measure=>simp [intOf];omega
      · gi_wp2
        refine bodyPost_ret (results_none rfl _ _ _) rfl ?_;exact ⟨⟨_,rfl⟩,.inr ⟨_,hpre,hJx3⟩⟩
    · obtain rfl:k=N:=by omega
      gi_wp2
      go_end0
      exact ⟨⟨_,rfl⟩,.inl (by have:=hJs.out;rwa [List.take_of_length_le (by omega)] at this)⟩
set_option maxHeartbeats 4000000 in
theorem values_mk (a:Option Addr) (n cap:Nat) (w:World):Calls Tryz.prog 94 #[.slice a n cap] w fun e w'=>e = .returned (.func (.func 126) #[] #[.pointer (some ⟨w.heap.size,0,none⟩)])∧w'=w.alloc (.cells #[.slice a n cap] 88):=by
 go_enter Tryz.func94,Tryz.ntmps94
 go_wp2
 go_returns
 exact ⟨rfl,rfl⟩
def K0:Calls':=fun f=>Ae.lookA f []
theorem kok0:KOk Tryz.prog K0:=kok_nil _
noncomputable def body124:Code:=match subc (code Tryz.f62) [1,1,1,1,0,1,0] with | .rangeFunc _ _ _ b=>b|c=>c
noncomputable def ops11:Array Oper:=match subc body124 [0,1,1,1] with | .region _ ops _=>ops|_ => #[]
def t11 (x y:List UInt8):List AV:=[.top,.top,.top,.top,.top,.top,.top,.top,.top,.ptr 2 0,.ptr 3 0,.top,.str x,.top,.str y]++List.replicate 45 .top
def o11 (ps qs:List (List UInt8)):Store:=[[.rowc 9 .str ps],[.rowc 9 .str qs],[.row 0],[.row 1]]
def o11' (ps qs:List (List UInt8)) (x y:List UInt8):Store:=[[],[],[.row 5],[.row 7],[.rowc 9 .str [x]],[.rowc 9 .str (ps++[x])],[.rowc 9 .str [y]],[.rowc 9 .str (qs++[y])]]
theorem r11 (ps qs:List (List UInt8)) (x y:List UInt8):dregion Γ K0 ops11 ⟨t11 x y,o11 ps qs⟩ (fun s=>some s.o) =
 bif decide (ps.length+1≤140737488355328/16) then (bif decide (qs.length+1≤140737488355328/16) then some (o11' ps qs x y) else none) else none:=by kernel_rfl
theorem nd11:∀(i:Nat) o,ops11[i]? = some o→∀c,o.op ≠ .defer c:=by
 have h:(ops11.toList.all fun o=>match o.op with | .defer _=>false|_=>true)=true:=by kernel_rfl
 intro i o ho c hc;have:=List.all_eq_true.1 h o (Array.mem_toList_iff.2 (Array.mem_of_getElem? ho));rw [hc] at this;cases this
theorem repL_of {w:World} {m:Md} {g:List Value}:∀(av:List AV) (vs:List Value),av.length=vs.length→(∀(i:Nat) v,vs[i]? = some v→RepV w m g (av.getD i .top) v)→RepL w m g av vs
 | [],[],_,_=>rfl
 | a::av,v::vs,hl,h=>⟨v,vs,rfl,h 0 v rfl,repL_of av vs (by simpa using hl) fun i u hu=>h (i+1) u hu⟩
structure Two (base A9 A10:Nat) (W:World) (ps qs:List (List UInt8)):Prop where
 ex:∃va vu t9 t10,Boxed W A9 t9 va∧Boxed W A10 t10 vu∧W.ownsRow base 9 1 va ps.length (ps.map encS)∧W.ownsRow base 9 1 vu qs.length (qs.map encS) ∧
  (∀b,va.ownBlock=some b→b≠A9∧b≠A10∧vu.ownBlock≠some b)∧∀b,vu.ownBlock=some b→b≠A9∧b≠A10
def TwoB (A9 A10:Nat) (va vu:Value) (b:Nat):Prop:=b=A9∨b=A10∨va.ownBlock=some b∨vu.ownBlock=some b
theorem repE_enc {w:World} {m:Md} {l:List (List UInt8)} {xs:List Value} (h:RepE w m .str l xs) (hl:xs.length=l.length*1):xs=l.map encS:=by
 apply List.ext_getElem?;intro j;rw [List.getElem?_map];by_cases hj:j<l.length
 · have h1:((xs.drop (j*1)).take 1)=[.string ⟨⟨l[j]⟩⟩]:=h j l[j] (List.getElem?_eq_getElem hj)
   have h2:((xs.drop (j*1)).take 1)[0]? = some (.string ⟨⟨l[j]⟩⟩):=by rw [h1];rfl
   rw [List.getElem?_take_of_lt (by omega),List.getElem?_drop] at h2;simp only [Nat.mul_one,Nat.add_zero] at h2;rw [h2,List.getElem?_eq_getElem hj];rfl
 · rw [List.getElem?_eq_none (by omega),List.getElem?_eq_none (by omega)]
   rfl
theorem enc_repE {w:World} {m:Md} (l:List (List UInt8)):RepE w m .str l (l.map encS):=by
 intro j x hj
 change List UInt8 at x
 change l[j]? = some x at hj
 show ((l.map encS).drop (j*1)).take 1=[.string ⟨⟨x⟩⟩]
 have hlt:=(List.getElem?_eq_some_iff.1 hj).1;have:((l.map encS).drop j)=encS x::(l.map encS).drop (j+1):=by
  rw [←List.map_drop,List.drop_eq_getElem_cons hlt,List.map_cons,List.map_drop];rw [(List.getElem?_eq_some_iff.1 hj).2]
 rw [Nat.mul_one,this];rfl
theorem row_zero {W:World} {base:Nat} {e:TypeId} {size n:Nat} {v:Value} {xs:List Value} (h:W.ownsRow base e size v n xs):W.ownsRow 0 e size v n xs:=by
 refine ⟨h.1,?_⟩;rcases h.2 with h|⟨g,cap,cur,e1,h2,h3⟩
 · exact .inl h
 · exact .inr ⟨g,cap,cur,e1,Nat.zero_le _,h3⟩
theorem row_ge {W:World} {base:Nat} {e:TypeId} {size n:Nat} {v:Value} {xs:List Value} (h:W.ownsRow base e size v n xs):∀b,v.ownBlock=some b→base≤b∧b<W.heap.size∧∃o,W.heap[b]? = some o∧o.isCells=true:=by
 rcases h.2 with ⟨rfl,_⟩|⟨g,cap,cur,rfl,h2,h3,_⟩
 · intro b hb;cases hb
 · intro b hb;cases hb;exact ⟨h2,lt_of_some h3,_,h3,rfl⟩
theorem box_repO {w:World} {m:Md} {g:List Value} {A:Nat} {t:TypeId} {v:Value} {i:Nat} (h:Boxed w A t v) (hi:g[i]? = some v) (hv:∃ao n c,v = .slice ao n c):RepO w m g (.pointer (some ⟨A,0,none⟩)) [.row i] :=
 ⟨fun _ _ _ e=>(by cases e),fun _ _ e=>(by cases e),fun _=>⟨A,t,_,rfl,h,v,[],rfl,⟨hi,hv⟩,rfl⟩,fun _ _ e=>(by cases e),trivial⟩
theorem row_repO {w:World} {m:Md} {g:List Value} {base:Nat} {v:Value} {l:List (List UInt8)} (h:w.ownsRow base 9 1 v l.length (l.map encS)):RepO w m g v [.rowc 9 .str l] :=
 ⟨fun _ _ _ e=>(by cases e;exact ⟨_,row_zero h,enc_repE l⟩),fun _ _ e=>(by cases e),fun e=>(by cases e),fun _ _ e=>(by cases e),trivial⟩
theorem region11 (l n0:Nat) (ps qs:List (List UInt8)) (x y:List UInt8) (hp:ps.length≤1000000000000) (hq:qs.length≤1000000000000) (tm:List Value) (base R A9 A10:Nat) (hR:base≤R) (W:World) (hg:GI W m0) (hgb:∀b∈GlobB,b<base)
 (hne:A9≠A10) (h9:base≤A9) (h10:base≤A10) (h:Two R A9 A10 W ps qs) (hlen:tm.length=60) (hbase:R≤W.heap.size)
 (e9:tm[9]? = some (.pointer (some ⟨A9,0,none⟩))) (e10:tm[10]? = some (.pointer (some ⟨A10,0,none⟩))) (e12:tm[12]? = some (.string ⟨⟨x⟩⟩)) (e14:tm[14]? = some (.string ⟨⟨y⟩⟩)) :
 (Code.region 11 ops11 true).wpIn (Fence.wide.inRound l) n0 Tryz.prog (fun e a' w'=>e = .normal∧Two R A9 A10 w' (ps++[x]) (qs++[y])∧w'.os=W.os∧w'.tape=W.tape∧w'.output=W.output∧W.heap.size≤w'.heap.size ∧
  (∀b,b<R→b≠A9→b≠A10→w'.heap[b]? = W.heap[b]?)∧∀(b:Nat) (o:Obj),W.heap[b]? = some o→o.isCells=false→w'.heap[b]? = some o) { tmps:=tm.toArray,defers:=[] } W:=by
 obtain ⟨va,vu,t9,t10,b9,b10,r9,r10,s1,s2⟩:=h.ex;have g1:=row_ge r9;have g2:=row_ge r10;obtain ⟨sa1,sc1,es1⟩:=row_slice r9;obtain ⟨sa2,sc2,es2⟩:=row_slice r10;have hmu:∀b,TwoB A9 A10 va vu b→base≤b∧b<W.heap.size∧∃o,W.heap[b]? = some o∧o.isCells=true:=by
  rintro b (rfl|rfl|hb|hb)
  · exact ⟨h9,b9.lt,_,b9,rfl⟩
  · exact ⟨h10,b10.lt,_,b10,rfl⟩
  · have:=g1 b hb;exact ⟨by omega,this.2⟩
  · have:=g2 b hb;exact ⟨by omega,this.2⟩
 have hrep:Rep W ⟨TwoB A9 A10 va vu,TwoB A9 A10 va vu⟩ [va,vu,.pointer (some ⟨A9,0,none⟩),.pointer (some ⟨A10,0,none⟩)] ⟨t11 x y,o11 ps qs⟩ { tmps:=tm.toArray,defers:=[] }:=by
  refine ⟨?_,rfl,?_⟩
  · refine repL_of _ _ (by simp [t11,hlen]) fun i v hv => ?_
    have hv':tm[i]? = some v:=hv;have hi:i<60:=hlen▸(List.getElem?_eq_some_iff.1 hv').1;by_cases i9:i=9
    · subst i9;rw [e9] at hv';cases hv';exact ⟨A9,rfl,rfl⟩
    by_cases i10:i=10
    · subst i10;rw [e10] at hv';cases hv';exact ⟨A10,rfl,rfl⟩
    by_cases i12:i=12
    · subst i12;rw [e12] at hv';cases hv';rfl
    by_cases i14:i=14
    · subst i14;rw [e14] at hv';cases hv';rfl
    have ht:(t11 x y).getD i .top = .top:=by
     have hc:i=0∨i=1∨i=2∨i=3∨i=4∨i=5∨i=6∨i=7∨i=8∨i=11∨i=13∨15≤i:=by omega
     rcases hc with rfl|rfl|rfl|rfl|rfl|rfl|rfl|rfl|rfl|rfl|rfl|hc
     iterate 11 rfl
     unfold t11;rw [List.getD_eq_getElem?_getD,List.getElem?_append_right (by simpa using hc),List.getElem?_replicate];split<;>rfl
    rw [ht];trivial
  · refine ⟨⟨hg.i,fun b hb=>⟨(hg.b b hb).1,fun hc => ?_⟩⟩,rfl,?_,fun _ h=>h,fun b hb=>(hmu b hb).2.1,?_,?_⟩
    · have:=(hmu b hc).1;have:=hgb b hb;omega
    · rintro b ⟨i,gi,cs,k1,k2,k3⟩
      match i with
      | 0=>cases k1;cases k2;exact .inr (.inr (.inl k3))
      | 1=>cases k1;cases k2;exact .inr (.inr (.inr k3))
      | 2=>cases k1;cases k2;cases k3;exact .inl rfl
      | 3=>cases k1;cases k2;cases k3;exact .inr (.inl rfl)
      | i+4=>cases k1
    · intro i gi cs k1 k2
      match i with
      | 0=>cases k1;cases k2;exact row_repO r9
      | 1=>cases k1;cases k2;exact row_repO r10
      | 2=>cases k1;cases k2;exact box_repO b9 rfl ⟨_,_,_,es1⟩
      | 3=>cases k1;cases k2;exact box_repO b10 rfl ⟨_,_,_,es2⟩
      | i+4=>cases k1
    · intro i j gi gj ci cj b hij k1 k2 k3 k4 k5 k6
      match i,j with
      | 0,0|1,1|2,2|3,3=>exact hij rfl
      | 0,1=>cases k1;cases k2;cases k3;cases k4;exact (s1 b k5).2.2 k6
      | 1,0=>cases k1;cases k2;cases k3;cases k4;exact (s1 b k6).2.2 k5
      | 0,2=>cases k1;cases k2;cases k3;cases k4;cases k6;exact (s1 _ k5).1 rfl
      | 0,3=>cases k1;cases k2;cases k3;cases k4;cases k6;exact (s1 _ k5).2.1 rfl
      | 1,2=>cases k1;cases k2;cases k3;cases k4;cases k6;exact (s2 _ k5).1 rfl
      | 1,3=>cases k1;cases k2;cases k3;cases k4;cases k6;exact (s2 _ k5).2 rfl
      | 2,0=>cases k1;cases k2;cases k3;cases k4;cases k5;exact (s1 _ k6).1 rfl
      | 3,0=>cases k1;cases k2;cases k3;cases k4;cases k5;exact (s1 _ k6).2.1 rfl
      | 2,1=>cases k1;cases k2;cases k3;cases k4;cases k5;exact (s2 _ k6).1 rfl
      | 3,1=>cases k1;cases k2;cases k3;cases k4;cases k5;exact (s2 _ k6).2 rfl
      | 2,3=>cases k1;cases k2;cases k3;cases k4;cases k5;cases k6;exact hne rfl
      | 3,2=>cases k1;cases k2;cases k3;cases k4;cases k5;cases k6;exact hne rfl
      | i+4,_=>cases k1
      | _,j+4=>cases k3
 have hlim:(140737488355328:Nat)/16=8796093022208:=rfl;have hrun:dregion Γ K0 ops11 ⟨t11 x y,o11 ps qs⟩ (fun s=>some s.o)=some (o11' ps qs x y):=by
  rw [r11,hlim,decide_eq_true (show ps.length+1≤8796093022208 by omega),decide_eq_true (show qs.length+1≤8796093022208 by omega)];rfl
 refine wpIn_mono (dregion_in l n0 nd11 hm hΓ kok0 hrep hrun (Q:=fun a' w'=>Two R A9 A10 w' (ps++[x]) (qs++[y])∧w'.os=W.os∧w'.tape=W.tape∧w'.output=W.output∧W.heap.size≤w'.heap.size ∧
  (∀b,b<R→b≠A9→b≠A10→w'.heap[b]? = W.heap[b]?)∧∀(b:Nat) (o:Obj),W.heap[b]? = some o→o.isCells=false→w'.heap[b]? = some o) ?_) fun e a' w' h=>h
 intro st' a' w' m' g' k1 k2 k3 k4;have ho:st'.o=o11' ps qs x y:=Option.some.inj k1;have hob:=k2.obj;rw [ho] at hob;have q2:g'[2]? = some (.pointer (some ⟨A9,0,none⟩)):=k4 2 _ rfl;have q3:g'[3]? = some (.pointer (some ⟨A10,0,none⟩)):=k4 3 _ rfl;have hlen8:g'.length=8:=hob.len;obtain ⟨v5,q5⟩:∃v,g'[5]? = some v:=⟨_,List.getElem?_eq_getElem (by omega)⟩
 obtain ⟨v7,q7⟩:∃v,g'[7]? = some v:=⟨_,List.getElem?_eq_getElem (by omega)⟩
 obtain ⟨b2,ty2,arr2,z1,z2,z3⟩:=(hob.obj 2 _ [.row 5] q2 rfl).box rfl;obtain ⟨b3,ty3,arr3,y1,y2,y3⟩:=(hob.obj 3 _ [.row 7] q3 rfl).box rfl;cases z1;cases y1;obtain ⟨u5,r5,z4,⟨z5,z6⟩,z7⟩:=z3;obtain ⟨u7,r7,y4,⟨y5,y6⟩,y7⟩:=y3;rw [q5] at z5;rw [q7] at y5;cases z5;cases y5;have z7':r5=[]:=z7;have y7':r7=[]:=y7;subst z7' y7';obtain ⟨xs5,o5,p5⟩:=(hob.obj 5 _ [.rowc 9 .str (ps++[x])] q5 rfl).rowc _ _ _ rfl;obtain ⟨xs7,o7,p7⟩:=(hob.obj 7 _ [.rowc 9 .str (qs++[y])] q7 rfl).rowc _ _ _ rfl;have hx5:=repE_enc p5 o5.1;have hx7:=repE_enc p7 o7.1;subst hx5 hx7;have hge:∀(i:Nat) gi cs b,i≠2→i≠3→g'[i]? = some gi→(o11' ps qs x y)[i]? = some cs→blk gi cs=some b→R≤b:=fun i gi cs b n2 n3 c1 c2 c3=>by
  by_cases hlt:b<W.heap.size
  · rcases k3.mutb b hlt (hob.nm b (hob.sub b ⟨i,gi,cs,c1,c2,c3⟩)) with h|h|h|h
    · exact (hob.sep i 2 _ _ _ _ _ n2 c1 c2 q2 rfl c3 (by rw [h];rfl)).elim
    · exact (hob.sep i 3 _ _ _ _ _ n3 c1 c2 q3 rfl c3 (by rw [h];rfl)).elim
    · exact (g1 b h).1
    · exact (g2 b h).1
  · omega
 have hkeep:∀(b:Nat) (o:Obj),W.heap[b]? = some o→¬TwoB A9 A10 va vu b→w'.heap[b]? = some o:=fun b o hb hn=>(k3.keep b (lt_of_some hb) hn).trans hb;refine ⟨⟨v5,v7,ty2,ty3,?_,?_,?_,?_,?_,?_⟩,k3.os,k3.tape,k3.output,k3.size,?_,?_⟩
 · have:arr2 = #[v5]:=by cases arr2;simpa using z4
   subst this;exact z2
 · have:arr3 = #[v7]:=by cases arr3;simpa using y4
   subst this;exact y2
 · exact own_base o5 fun b hb=>hge 5 _ _ b (by decide) (by decide) q5 rfl hb
 · exact own_base o7 fun b hb=>hge 7 _ _ b (by decide) (by decide) q7 rfl hb
 · intro b hb
   refine ⟨?_,?_,fun hc => ?_⟩
   · rintro rfl;exact hob.sep 5 2 _ _ _ _ _ (by decide) q5 rfl q2 rfl hb rfl
   · rintro rfl;exact hob.sep 5 3 _ _ _ _ _ (by decide) q5 rfl q3 rfl hb rfl
   · exact hob.sep 5 7 _ _ _ _ _ (by decide) q5 rfl q7 rfl hb hc
 · intro b hb
   refine ⟨?_,?_⟩
   · rintro rfl;exact hob.sep 7 2 _ _ _ _ _ (by decide) q7 rfl q2 rfl hb rfl
   · rintro rfl;exact hob.sep 7 3 _ _ _ _ _ (by decide) q7 rfl q3 rfl hb rfl
 · intro b hb hn9 hn10
   refine k3.keep b (by omega) fun hc => ?_;rcases hc with h|h|h|h
   · exact hn9 h
   · exact hn10 h
   · have:=(g1 b h).1;omega
   · have:=(g2 b h).1;omega
 · intro b o hb hc
   refine hkeep b o hb fun hcc => ?_;obtain ⟨_,_,o',e1,e2⟩:=hmu b hcc;rw [hb] at e1;cases e1;rw [hc] at e2;cases e2
def bothF (A U:List UInt8→Option (List UInt8×Int)):List (List UInt8)→List (List UInt8)→List (List UInt8)→Option (Int×List (List UInt8)×List (List UInt8))
 | [],ps,qs=>some (0,ps,qs)
 | x::xs,ps,qs=>(A x).bind fun a=>bif a.2 != 0 then some (a.2,[],[]) else (U x).bind fun u=>bothF A U xs (ps++[a.1]) (qs++[u.1])
theorem two_othR {N Bs R A9 A10:Nat} {W W':World} {ps qs:List (List UInt8)} (h:Two R A9 A10 W ps qs) (h9:A9≠Bs) (h10:A10≠Bs) (hR:Bs<R) (ho:OthR N Bs W W'):Two R A9 A10 W' ps qs:=by
 obtain ⟨va,vu,t9,t10,b9,b10,r9,r10,s1,s2⟩:=h.ex;exact ⟨va,vu,t9,t10,boxed_oth b9 h9 ho,boxed_oth b10 h10 ho,ownsRow_oth hR r9 ho,ownsRow_oth hR r10 ho,s1,s2⟩
theorem row_repT {W:World} {base:Nat} {v:Value} {l:List (List UInt8)} (h:W.ownsRow base 9 1 v l.length (l.map encS)):RepT W m0 (.lst .str) l [v]:=by
 rcases h.2 with ⟨rfl,h0⟩|⟨g,cap,cur,rfl,h2,h3,h4,h5,h6,h7⟩
 · have hl:l=[]:=List.eq_nil_of_length_eq_zero h0
   subst hl;exact ⟨none,0,rfl,Nat.le_refl _,by omega,fun _=>rfl,fun j x hj=>by
    have hj':([]:List (List UInt8))[j]? = some x:=hj;simp at hj'⟩
 · refine ⟨_,cap,rfl,h4,by simp only [maxLen] at h5;omega,fun e=>(by cases e),fun j x hj => ?_⟩
   change List UInt8 at x
   change l[j]? = some x at hj
   refine ⟨g,0,[.string ⟨⟨x⟩⟩],rfl,rfl,rfl,lt_of_some h3,fun hm=>hm,fun i u hu => ?_⟩;have hlt:=(List.getElem?_eq_some_iff.1 hj).1
   match i with
   | i+1=>cases hu
   | 0 =>
    cases hu;have h1:(cur.toList.take (l.length*1))[j]? = some (encS x):=by rw [h7,List.getElem?_map,hj];rfl
    rw [List.getElem?_take_of_lt (by omega),Array.getElem?_toList] at h1;simp only [World.cell?,h3];show cur[0+j*1+0]? = _;rw [show 0+j*1+0=j by omega];exact h1
theorem join_call {W:World} {base:Nat} {v:Value} {l:List (List UInt8)} {r:List UInt8} (h:W.ownsRow base 9 1 v l.length (l.map encS)) (hj:joinF (l,[46],())=some (r,())) (hg:GI W m0) :
 Calls Tryz.prog 97 #[v,.string ⟨#[46]⟩] W fun e W'=>e = .returned (.string ⟨⟨r⟩⟩)∧Below W.heap.size W W':=by
 have hj':C97 (l,[46],())=some (r,()):=hj;refine (FnOk.call0 (v:=(l,[46],())) (y:=(r,())) ok97 Tryz.func97 (by kernel_rfl) (by kernel_rfl) hg (fun _ h=>h.elim) rfl ⟨v,_,rfl,row_repT h,_,_,rfl,rfl,rfl⟩ rfl hj' ?_).mono fun e w' ⟨rv,h1,h2,ax,l',u,h3,h4⟩ => ?_
 · intro ax l' u h3
   cases osel_one_inv h3;rfl
 · cases osel_one_inv h3
   obtain ⟨v,r',e1,e2,e4⟩:=h4;have e4':r'=[]:=e4;subst e4';cases e1;subst h1 e2;exact ⟨rfl,h2⟩
def outF (res:Int×List (List UInt8)×List (List UInt8)):Option (List UInt8×List UInt8×Int) :=
 bif res.1 != 0 then some ([],[],res.1) else (joinF (res.2.1,[46],())).bind fun ja=>bif decide (253<ja.1.length) then some ([],[],5) else (joinF (res.2.2,[46],())).bind fun ju=>some (ja.1,ju.1,0)
set_option maxHeartbeats 4000000 in
theorem both_walk (v0 v1 v2 v3 v4:Value) (s:List UInt8) (ls:List (List UInt8)) (A U:List UInt8→Option (List UInt8×Int)) (res:Int×List (List UInt8)×List (List UInt8)) (w:World) (hg:GI w m0) (hll:ls.length≤32)
 (hres:bothF A U ls [] []=some res) (oa ou:List UInt8) (oc:Int) (hout:outF res=some (oa,ou,oc))
 (hlab:∀W,Below w.heap.size w W→Calls Tryz.prog 93 #[.agg #[v0,v1,v2,v3,v4],.string ⟨⟨s⟩⟩] W fun e w'=>∃v,e = .returned (.tuple #[v,.int .i64 0])∧Below W.heap.size W w'∧w'.ownsRow W.heap.size 9 1 v ls.length (ls.map encS))
 (hA:∀x r,A x=some r→∀W,Below w.heap.size w W→Calls Tryz.prog 95 #[.agg #[v0,v1,v2,v3,v4],.string ⟨⟨x⟩⟩] W fun e W'=>e = .returned (.tuple #[.string ⟨⟨r.1⟩⟩,.int .i64 r.2])∧Below W.heap.size W W')
 (hU:∀x r,U x=some r→∀W,Below w.heap.size w W→Calls Tryz.prog 96 #[.agg #[v0,v1,v2,v3,v4],.string ⟨⟨x⟩⟩] W fun e W'=>e = .returned (.tuple #[.string ⟨⟨r.1⟩⟩,.int .i64 r.2])∧Below W.heap.size W W') :
 Calls Tryz.prog 62 #[.agg #[v0,v1,v2,v3,v4],.string ⟨⟨s⟩⟩] w fun e w'=>e = .returned (.tuple #[.string ⟨⟨oa⟩⟩,.string ⟨⟨ou⟩⟩,.int .i64 oc])∧Below w.heap.size w w':=by
 refine (callsIn_wide (n:=3)).1 ?_;refine callsIn_of_wp_marks Tryz.func62 rfl trivial ?_ rfl;simp only [Tryz.ntmps62,List.size_toArray,List.length_cons,List.length_nil,Nat.reduceAdd,Nat.reduceSub,Array.replicate_succ,Array.replicate_zero,List.push_toArray,List.append_toArray,List.nil_append,List.cons_append];have hW0:Below w.heap.size w ((((w.alloc (.cells #[v0,v1,v2,v3,v4] 32)).alloc (.cells #[.string ⟨#[]⟩] 9)).alloc (.cells #[.string ⟨#[]⟩] 9)).alloc (.cells #[.int .i64 0] 35)) :=
  ((((Below.refl _ w).alloc (Nat.le_refl _) _).alloc (by simp) _).alloc (by simp<;>omega) _).alloc (by simp<;>omega) _
 gi_wp2_with (first
  | (refine ⟨trivial,?_⟩;gi_at_call 93;refine (callsIn_wide.2 (hlab _ hW0)).mono ?_;rintro e w1 ⟨lv,rfl,hb1,hrow⟩;obtain ⟨la,lc,rfl⟩:=row_slice hrow)
  | (refine ⟨trivial,?_⟩;gi_at_call 94;refine (callsIn_wide.2 (values_mk _ _ _ _)).mono ?_;rintro e w2 ⟨rfl,rfl⟩))
 have hb0:Below w.heap.size w w1:=hW0.trans (hb1.mono hW0.size);have hsz1:w.heap.size+4≤w1.heap.size:=by have:=hb1.size;simp at this;omega
 have hT:∀X,Below w1.heap.size w1 X→X.cell? ⟨w.heap.size,0,none⟩=some v0∧X.cell? ⟨w.heap.size,1,none⟩=some v1∧X.cell? ⟨w.heap.size,2,none⟩=some v2∧X.cell? ⟨w.heap.size,3,none⟩=some v3∧X.cell? ⟨w.heap.size,4,none⟩=some v4:=fun X hX=>by
  have h1:X.heap[w.heap.size]? = some (.cells #[v0,v1,v2,v3,v4] 32):=by
   rw [hX.block _ (by omega),hb1.block _ (by simp<;>omega),Below.heap_alloc _ _ _ (by simp<;>omega),Below.heap_alloc _ _ _ (by simp<;>omega),Below.heap_alloc _ _ _ (by simp),heap_alloc_new]
  exact ⟨by rw [cell_of_cells h1];rfl,by rw [cell_of_cells h1];rfl,by rw [cell_of_cells h1];rfl,by rw [cell_of_cells h1];rfl,by rw [cell_of_cells h1];rfl⟩
 have hR:∀X,Below w1.heap.size w1 X→Boxed X (w.heap.size+1) 9 (.string ⟨#[]⟩)∧Boxed X (w.heap.size+1+1) 9 (.string ⟨#[]⟩)∧Boxed X (w.heap.size+1+1+1) 35 (.int .i64 0):=fun X hX=>by
  refine ⟨?_,?_,?_⟩
  · show X.heap[_]? = _
    rw [hX.block _ (by omega),hb1.block _ (by simp<;>omega),Below.heap_alloc _ _ _ (by simp<;>omega),Below.heap_alloc _ _ _ (by simp)];have:=heap_alloc_new (w.alloc (.cells #[v0,v1,v2,v3,v4] 32)) (.cells #[.string ⟨#[]⟩] 9)
    rwa [World.size_alloc] at this
  · show X.heap[_]? = _
    rw [hX.block _ (by omega),hb1.block _ (by simp<;>omega),Below.heap_alloc _ _ _ (by simp)];have:=heap_alloc_new ((w.alloc (.cells #[v0,v1,v2,v3,v4] 32)).alloc (.cells #[.string ⟨#[]⟩] 9)) (.cells #[.string ⟨#[]⟩] 9)
    rwa [World.size_alloc,World.size_alloc] at this
  · show X.heap[_]? = _
    rw [hX.block _ (by omega),hb1.block _ (by simp)];have:=heap_alloc_new (((w.alloc (.cells #[v0,v1,v2,v3,v4] 32)).alloc (.cells #[.string ⟨#[]⟩] 9)).alloc (.cells #[.string ⟨#[]⟩] 9)) (.cells #[.int .i64 0] 35)
    rwa [World.size_alloc,World.size_alloc,World.size_alloc] at this
 have hg1:GI w1 m0:=gi_below hg hb0;have hW2:Below w1.heap.size w1 (((w1.alloc (.cells #[.slice none 0 0] 88)).alloc (.cells #[.slice none 0 0] 88)).alloc (.cells #[.slice la ls.length lc] 88)) :=
  (((Below.refl _ w1).alloc (Nat.le_refl _) _).alloc (by simp) _).alloc (by simp<;>omega) _
 have hszN:(((w1.alloc (.cells #[.slice none 0 0] 88)).alloc (.cells #[.slice none 0 0] 88)).alloc (.cells #[.slice la ls.length lc] 88)).heap.size=w1.heap.size+3:=by simp
 have hbv:Boxed (((w1.alloc (.cells #[.slice none 0 0] 88)).alloc (.cells #[.slice none 0 0] 88)).alloc (.cells #[.slice la ls.length lc] 88)) (w1.heap.size+1+1) 88 (.slice la ls.length lc):=by
  have:=Boxed.new ((w1.alloc (.cells #[.slice none 0 0] 88)).alloc (.cells #[.slice none 0 0] 88)) 88 (.slice la ls.length lc)
  rwa [World.size_alloc,World.size_alloc] at this
 have hb9:Boxed (((w1.alloc (.cells #[.slice none 0 0] 88)).alloc (.cells #[.slice none 0 0] 88)).alloc (.cells #[.slice la ls.length lc] 88)) w1.heap.size 88 (.slice none 0 0) :=
  ((Boxed.new w1 88 (.slice none 0 0)).alloc _).alloc _
 have hb10:Boxed (((w1.alloc (.cells #[.slice none 0 0] 88)).alloc (.cells #[.slice none 0 0] 88)).alloc (.cells #[.slice la ls.length lc] 88)) (w1.heap.size+1) 88 (.slice none 0 0):=by
  have:=(Boxed.new (w1.alloc (.cells #[.slice none 0 0] 88)) 88 (.slice none 0 0)).alloc (.cells #[.slice la ls.length lc] 88)
  rwa [World.size_alloc] at this
 have hrow2:(((w1.alloc (.cells #[.slice none 0 0] 88)).alloc (.cells #[.slice none 0 0] 88)).alloc (.cells #[.slice la ls.length lc] 88)).ownsRow 0 9 1 (.slice la ls.length lc) ls.length (ls.map encS):=by
  have:=row_zero hrow;exact ((this.alloc _).alloc _).alloc _
 have hown:∀b,(Value.slice la ls.length lc).ownBlock=some b→b<w1.heap.size:=fun b hb=>((row_ge hrow) b hb).2.1;clear hlab;refine wpIn_rangeFunc_dir (F:=Fence.wide) (n:=3) rfl (by omega) (gf:=126) (lb := #[.pointer (some ⟨w1.heap.size+1+1,0,none⟩)]) rfl trivial (enters_of Tryz.func126 (by kernel_rfl) rfl)
  (K:=fun b=>b=w1.heap.size+1+1∨(Value.slice la ls.length lc).ownBlock=some b)
  (values_seq 2 (by omega) (w1.heap.size+1+1) 0 _ ls _ _ hbv hrow2 (by omega) (.inl rfl) (fun b hb => .inr hb) (w1.heap.size+1+1))
  (by rintro b (rfl|hb)
      · rw [hszN];omega
      · have:=hown b hb;rw [hszN];omega) (by rw [hszN];omega) (fun _=>rfl)
  (fun pre W=>∃ps qs rest,ls=pre++rest∧bothF A U rest ps qs=some res∧ps.length=pre.length∧qs.length=pre.length∧Two (w1.heap.size+3) w1.heap.size (w1.heap.size+1) W ps qs∧Below w1.heap.size w1 W)
  (fun c pre W=>c = .ret∧res.1≠0∧Boxed W (w.heap.size+1) 9 (.string ⟨#[]⟩)∧Boxed W (w.heap.size+1+1) 9 (.string ⟨#[]⟩)∧Boxed W (w.heap.size+1+1+1) 35 (.int .i64 res.1)∧Below w.heap.size w W)
  (fun pre X Y hs ho=>by
   obtain ⟨ps,qs,rest,h1,h2,h3,h4,h5,h6⟩:=hs;exact ⟨ps,qs,rest,h1,h2,h3,h4,two_othR h5 (by omega) (by omega) (by omega) ho,below_othR h6 (Nat.le_refl _) (by rw [hszN];omega) (by omega) ho⟩)
  (fun c pre X Y hs ho=>by
   obtain ⟨h1,h2,h3,h4,h5,h6⟩:=hs;exact ⟨h1,h2,boxed_oth h3 (by omega) ho,boxed_oth h4 (by omega) ho,boxed_oth h5 (by omega) ho,below_othR h6 (Nat.le_refl _) (by rw [hszN];omega) (by omega) ho⟩)
  ⟨[],[],ls,rfl,hres,rfl,rfl,⟨_,_,_,_,hb9,hb10,World.ownsRow_nil _ _ _ _,World.ownsRow_nil _ _ _ _,fun b hb=>(by cases hb),fun b hb=>(by cases hb)⟩,hW2⟩
  (fun x=>{ tmps := #[.agg #[v0,v1,v2,v3,v4],.string ⟨⟨s⟩⟩,.pointer (some ⟨w.heap.size,0,none⟩),undef,.pointer (some ⟨w.heap.size+1,0,none⟩),.pointer (some ⟨w.heap.size+1+1,0,none⟩),.pointer (some ⟨w.heap.size+1+1+1,0,none⟩),.slice la ls.length lc,.int .i64 0,
   .pointer (some ⟨w1.heap.size,0,none⟩),.pointer (some ⟨w1.heap.size+1,0,none⟩),.string ⟨⟨x⟩⟩,undef,undef,undef,undef,undef,.tuple #[.slice la ls.length lc,.int .i64 0],.agg #[v0,v1,v2,v3,v4],.string ⟨⟨s⟩⟩,.tuple #[.slice la ls.length lc,.int .i64 0],.slice la ls.length lc,.int .i64 0,.int .i64 0,.bool false,undef,.slice la ls.length lc,
   .func (.func 126) #[] #[.pointer (some ⟨w1.heap.size+1+1,0,none⟩)],.string ⟨⟨x⟩⟩,undef,undef,undef,undef,undef,undef,undef,undef,undef,undef,undef,undef,undef,undef,undef,undef,undef,undef,undef,undef,undef,undef,undef,undef,undef,undef,undef,undef,undef,undef,undef],defers:=[] }) ?assign ?body ?done ?stop
 case assign =>
  intro l x W K hK
  gi_wp2
  exact hK
 case body =>
  rintro l pre x W hsz hpre ⟨ps,qs,rest,hls,hbf,hlp,hlq,hTwo,hbel⟩;obtain ⟨rest',rfl⟩:∃r,rest=x::r:=by
   obtain ⟨t,ht⟩:=hpre;rw [hls,List.append_assoc] at ht;have:=List.append_cancel_left ht;exact ⟨t,by simpa using this.symm⟩
  simp only [bothF] at hbf;obtain ⟨⟨a1,a2⟩,ha,hbf2⟩:=Option.bind_eq_some_iff.1 hbf;simp only at hbf2;rw [hszN] at hsz;have hWw:Below w.heap.size w W:=hb0.trans (hbel.mono (by omega));have hcA:=hA x _ ha W hWw;obtain ⟨t0,t1,t2,t3,t4⟩:=hT W hbel;by_cases hz:a2=0
  · subst hz
    have hbf3:((U x).bind fun u=>bothF A U rest' (ps++[a1]) (qs++[u.1]))=some res:=hbf2;obtain ⟨⟨u1,u2⟩,hu,hbf4⟩:=Option.bind_eq_some_iff.1 hbf3;simp only at hbf4;have hcU:=hU x _ hu
    gi_wp2_with (first
     | (refine ⟨trivial,?_⟩;gi_at_call 95;refine (CallsIn.inRound l (callsIn_wide.2 hcA)).mono ?_;rintro e W3 ⟨rfl,hb3⟩;have hbel3:Below w1.heap.size w1 W3:=hbel.trans (hb3.mono (by omega));obtain ⟨t5,t6,t7,t8,t9⟩:=hT W3 hbel3)
     | (refine ⟨trivial,?_⟩;gi_at_call 96;refine (CallsIn.inRound l (callsIn_wide.2 (hcU W3 (hb0.trans (hbel3.mono (by omega)))))).mono ?_;rintro e W4 ⟨rfl,hb4⟩))
    have hb34:Below W.heap.size W W4:=hb3.trans (hb4.mono hb3.size);have hTwo4:Two (w1.heap.size+3) w1.heap.size (w1.heap.size+1) W4 ps qs:=two_othR (N:=0) (Bs:=w1.heap.size+1+1) hTwo (by omega) (by omega) (by omega) (Oth.of_below hb34).toR;have hll2:pre.length≤32:=by have:=hpre.length_le;simp at this;omega
    refine wpIn_mono (c:=Code.region 11 ops11 true) (region11 l _ ps qs a1 u1 (by omega) (by omega) _ w1.heap.size (w1.heap.size+3) w1.heap.size (w1.heap.size+1) (by omega) W4 (gi_below hg1 (hbel3.trans (hb4.mono (by have:=hbel3.size;omega)))) (fun b hb=>(hg1.b b hb).1) (by omega) (Nat.le_refl _) (by omega) hTwo4 rfl (by have:=hb34.size;omega) rfl rfl rfl rfl) ?_;rintro e a' w' ⟨rfl,hTwo',o1,o2,o3,o4,o5,o6⟩;refine ⟨⟨Nat.le_trans hb34.size o4,fun k o _ hk hc=>o6 k o ((hb34.block k (lt_of_some hk)).trans hk) hc⟩,?_,ps++[a1],qs++[u1],rest',by simp [hls],hbf4,by simp;omega,by simp;omega,hTwo',?_⟩
    · rintro b (rfl|hb)
      · rw [o5 _ (by omega) (by omega) (by omega),hb34.block _ (by omega)]
      · have:=hown b hb
        rw [o5 _ (by omega) (by omega) (by omega),hb34.block _ (by omega)]
    · exact (hbel.trans (hb34.mono (by omega))).trans ⟨o1,o2,o3,o4,fun k hk=>o5 k (by omega) (by omega) (by omega)⟩
  · have hbf3:some (a2,([]:List (List UInt8)),([]:List (List UInt8)))=some res:=by
     rw [←hbf2,show (a2 != 0)=true by simpa using hz];rfl
    cases hbf3
    gi_wp2_with (refine ⟨trivial,?_⟩;gi_at_call 95;refine (CallsIn.inRound l (callsIn_wide.2 hcA)).mono ?_;rintro e W3 ⟨rfl,hb3⟩;have hbel3:Below w1.heap.size w1 W3:=hbel.trans (hb3.mono (by omega));obtain ⟨q1,q2,q3⟩:=hR W3 hbel3;have q4:=q1.cell;have q5:=q1.frozen;have q6:=q2.cell;have q7:=q2.frozen;have q8:=q3.cell;have q9:=q3.frozen)
    refine ⟨KeepsFrom.trans ⟨hb3.size,fun k o _ h _=>(hb3.block k (lt_of_some h)).trans h⟩ ((((KeepsOthers.setCell _ _ _).trans (KeepsOthers.setCell _ _ _)).trans (KeepsOthers.setCell _ _ _)).from _),rfl,?_,?_,?_,?_⟩
    · exact setBox (setBox (Boxed.set _ q1) (by omega)) (by omega)
    · exact setBox (Boxed.set _ (setBox q2 (by omega))) (by omega)
    · exact Boxed.set _ (setBox (setBox q3 (by omega)) (by omega))
    · exact (((hb0.trans (hbel3.mono (by omega))).setCell (p:=⟨w.heap.size+1,0,none⟩) (show w.heap.size≤w.heap.size+1 by omega) _).setCell (p:=⟨w.heap.size+1+1,0,none⟩) (show w.heap.size≤w.heap.size+1+1 by omega) _).setCell (p:=⟨w.heap.size+1+1+1,0,none⟩) (show w.heap.size≤w.heap.size+1+1+1 by omega) _
 case done =>
  rintro D W hD ⟨ps,qs,rest,hls,hbf,hlp,hlq,hTwo,hbel⟩ hK;have hrest:rest=[]:=by
   have:=congrArg List.length hls;simp at this;exact this
  subst hrest;have hres':(0,ps,qs)=res:=Option.some.inj hbf;subst hres';have ho:((joinF (ps,[46],())).bind fun ja=>bif decide (253<ja.1.length) then some (([]:List UInt8),([]:List UInt8),(5:Int)) else (joinF (qs,[46],())).bind fun ju=>some (ja.1,ju.1,0))=some (oa,ou,oc):=hout;obtain ⟨⟨ja,ju0⟩,hja,ho2⟩:=Option.bind_eq_some_iff.1 ho;obtain ⟨va,vu,ta,tu,bx9,bx10,rw9,rw10,_,_⟩:=hTwo.ex;have hcj:=join_call rw9 hja (gi_below hg1 hbel);have c9:=bx9.cell;have c10:=bx10.cell;have hDW:D<W.heap.size:=lt_of_some hK;rw [hszN] at hD;have hs8:w1.heap.size≤W.heap.size:=hbel.size;clear hls hbf hout ho hres hll hlp hlq;by_cases h253:253<ja.length
  · have ho3:some (([]:List UInt8),([]:List UInt8),(5:Int))=some (oa,ou,oc):=by rw [←ho2];simp only;rw [decide_eq_true h253];rfl
    cases ho3
    gi_wp2_with (refine ⟨trivial,?_⟩;gi_at_call 97;refine (callsIn_wide.2 hcj).mono ?_;rintro e W5 ⟨rfl,hb5⟩;have hbel5:Below w1.heap.size w1 W5:=hbel.trans (hb5.mono (by have:=hbel.size;omega));obtain ⟨q1,q2,q3⟩:=hR W5 hbel5;have q4:=q1.cell;have q5:=q1.frozen;have q6:=q2.cell;have q7:=q2.frozen;have q8:=q3.cell;have q9:=q3.frozen)
    have hKX:((((W5.setCell ⟨w.heap.size+1,0,none⟩ (.string ⟨#[]⟩)).setCell ⟨w.heap.size+1+1,0,none⟩ (.string ⟨#[]⟩)).setCell ⟨w.heap.size+1+1+1,0,none⟩ (.int .i64 5))).heap[D]? = some (.deferred (some [])):=by
     rw [Below.heap_setCell _ _ _ _ (show D≠w.heap.size+1+1+1 by omega),Below.heap_setCell _ _ _ _ (show D≠w.heap.size+1+1 by omega),Below.heap_setCell _ _ _ _ (show D≠w.heap.size+1 by omega)];exact (hb5.block D hDW).trans hK
    refine ⟨by simp,.inl ⟨_,_,rfl,run_takeDeferred hKX,?_⟩⟩;have e1:=setBox (b':=w.heap.size+1+1+1) (u:=(.int .i64 5)) (setBox (b':=w.heap.size+1+1) (u:=(.string ⟨#[]⟩)) (Boxed.set (.string ⟨#[]⟩) q1) (by omega)) (by omega);have e2:=setBox (b':=w.heap.size+1+1+1) (u:=(.int .i64 5)) (Boxed.set (.string ⟨#[]⟩) (setBox (b':=w.heap.size+1) (u:=(.string ⟨#[]⟩)) q2 (by omega))) (by omega);have e3:=Boxed.set (.int .i64 5) (setBox (b':=w.heap.size+1+1) (u:=(.string ⟨#[]⟩)) (setBox (b':=w.heap.size+1) (u:=(.string ⟨#[]⟩)) q3 (by omega)) (by omega));have hc1:=cell_kept e1.cell (grownBy_putObj' _ D (.deferred none)) (fun r e=>by cases e;exact ⟨_,hKX,rfl⟩);have hc2:=cell_kept e2.cell (grownBy_putObj' _ D (.deferred none)) (fun r e=>by cases e;exact ⟨_,hKX,rfl⟩);have hc3:=cell_kept e3.cell (grownBy_putObj' _ D (.deferred none)) (fun r e=>by cases e;exact ⟨_,hKX,rfl⟩);have hbX:=(((hb0.trans (hbel5.mono (show w.heap.size≤w1.heap.size by omega))).setCell (p:=⟨w.heap.size+1,0,none⟩) (show w.heap.size≤w.heap.size+1 by omega) (.string ⟨#[]⟩)).setCell (p:=⟨w.heap.size+1+1,0,none⟩) (show w.heap.size≤w.heap.size+1+1 by omega) (.string ⟨#[]⟩)).setCell (p:=⟨w.heap.size+1+1+1,0,none⟩) (show w.heap.size≤w.heap.size+1+1+1 by omega) (.int .i64 5);refine ⟨.tuple #[(.string ⟨#[]⟩),(.string ⟨#[]⟩),(.int .i64 5)],?_,rfl,hbX.trans (belowK_b (w:=w) (Nat.le_refl _) _ D _ _ (by omega) hKX rfl rfl)⟩;simp [results,Tryz.f62,go_sem,hc1,hc2,hc3]
  · have ho3:((joinF (qs,[46],())).bind fun ju=>some (ja,ju.1,(0:Int)))=some (oa,ou,oc):=by rw [←ho2];simp only;rw [decide_eq_false h253];rfl
    obtain ⟨⟨ju,ju1⟩,hju,ho4⟩:=Option.bind_eq_some_iff.1 ho3;cases ho4
    gi_wp2_with (first
     | (refine ⟨trivial,?_⟩;gi_at_call 97;refine (callsIn_wide.2 hcj).mono ?_;clear hcj;rintro e W5 ⟨rfl,hb5⟩;have hbel5:Below w1.heap.size w1 W5:=hbel.trans (hb5.mono (by have:=hbel.size;omega));have c11:W5.cell? ⟨w1.heap.size+1,0,none⟩=some vu:=(hb5.cell (p:=⟨w1.heap.size+1,0,none⟩) bx10.lt).trans c10;have hcj2:=join_call (ownsRow_oth (N:=0) (Bs:=w1.heap.size+1+1) (by omega) rw10 (Oth.of_below hb5).toR) hju (gi_below hg1 hbel5))
     | (refine ⟨trivial,?_⟩;gi_at_call 97;refine (callsIn_wide.2 hcj2).mono ?_;clear hcj2;rintro e W6 ⟨rfl,hb6⟩;have hbel6:Below w1.heap.size w1 W6:=hbel5.trans (hb6.mono (by have:=hbel5.size;omega));obtain ⟨q1,q2,q3⟩:=hR W6 hbel6;have q4:=q1.cell;have q5:=q1.frozen;have q6:=q2.cell;have q7:=q2.frozen;have q8:=q3.cell;have q9:=q3.frozen))
    have hKX:((((W6.setCell ⟨w.heap.size+1,0,none⟩ (.string ⟨⟨oa⟩⟩)).setCell ⟨w.heap.size+1+1,0,none⟩ (.string ⟨⟨ju⟩⟩)).setCell ⟨w.heap.size+1+1+1,0,none⟩ (.int .i64 0))).heap[D]? = some (.deferred (some [])):=by
     rw [Below.heap_setCell _ _ _ _ (show D≠w.heap.size+1+1+1 by omega),Below.heap_setCell _ _ _ _ (show D≠w.heap.size+1+1 by omega),Below.heap_setCell _ _ _ _ (show D≠w.heap.size+1 by omega)];exact (hb6.block D (Nat.lt_of_lt_of_le hDW hb5.size)).trans ((hb5.block D hDW).trans hK)
    refine ⟨by simp,.inl ⟨_,_,rfl,run_takeDeferred hKX,?_⟩⟩;have e1:=setBox (b':=w.heap.size+1+1+1) (u:=(.int .i64 0)) (setBox (b':=w.heap.size+1+1) (u:=(.string ⟨⟨ju⟩⟩)) (Boxed.set (.string ⟨⟨oa⟩⟩) q1) (by omega)) (by omega);have e2:=setBox (b':=w.heap.size+1+1+1) (u:=(.int .i64 0)) (Boxed.set (.string ⟨⟨ju⟩⟩) (setBox (b':=w.heap.size+1) (u:=(.string ⟨⟨oa⟩⟩)) q2 (by omega))) (by omega);have e3:=Boxed.set (.int .i64 0) (setBox (b':=w.heap.size+1+1) (u:=(.string ⟨⟨ju⟩⟩)) (setBox (b':=w.heap.size+1) (u:=(.string ⟨⟨oa⟩⟩)) q3 (by omega)) (by omega));have hc1:=cell_kept e1.cell (grownBy_putObj' _ D (.deferred none)) (fun r e=>by cases e;exact ⟨_,hKX,rfl⟩);have hc2:=cell_kept e2.cell (grownBy_putObj' _ D (.deferred none)) (fun r e=>by cases e;exact ⟨_,hKX,rfl⟩);have hc3:=cell_kept e3.cell (grownBy_putObj' _ D (.deferred none)) (fun r e=>by cases e;exact ⟨_,hKX,rfl⟩);have hbX:=(((hb0.trans (hbel6.mono (show w.heap.size≤w1.heap.size by omega))).setCell (p:=⟨w.heap.size+1,0,none⟩) (show w.heap.size≤w.heap.size+1 by omega) (.string ⟨⟨oa⟩⟩)).setCell (p:=⟨w.heap.size+1+1,0,none⟩) (show w.heap.size≤w.heap.size+1+1 by omega) (.string ⟨⟨ju⟩⟩)).setCell (p:=⟨w.heap.size+1+1+1,0,none⟩) (show w.heap.size≤w.heap.size+1+1+1 by omega) (.int .i64 0);refine ⟨.tuple #[(.string ⟨⟨oa⟩⟩),(.string ⟨⟨ju⟩⟩),(.int .i64 0)],?_,rfl,hbX.trans (belowK_b (w:=w) (Nat.le_refl _) _ D _ _ (by omega) hKX rfl rfl)⟩;simp [results,Tryz.f62,go_sem,hc1,hc2,hc3]
 case stop =>
  rintro D c pre W hD hpre ⟨rfl,hne,h1,h2,h3,hbel⟩ hK;have ho:some (([]:List UInt8),([]:List UInt8),res.1)=some (oa,ou,oc):=by
   rw [←hout];unfold outF;rw [show (res.1 != 0)=true by simpa using hne];rfl
  cases ho
  gi_wp2
  refine ⟨by simp,.inl ⟨_,_,rfl,run_takeDeferred hK,?_⟩⟩;have hc1:=cell_kept h1.cell (grownBy_putObj' _ D (.deferred none)) (fun r e=>by cases e;exact ⟨_,hK,rfl⟩);have hc2:=cell_kept h2.cell (grownBy_putObj' _ D (.deferred none)) (fun r e=>by cases e;exact ⟨_,hK,rfl⟩);have hc3:=cell_kept h3.cell (grownBy_putObj' _ D (.deferred none)) (fun r e=>by cases e;exact ⟨_,hK,rfl⟩);rw [hszN] at hD;refine ⟨.tuple #[.string ⟨#[]⟩,.string ⟨#[]⟩,.int .i64 res.1],?_,rfl,hbel.trans (belowK_b (w:=w) (Nat.le_refl _) W D _ _ (by omega) hK rfl rfl)⟩;simp [results,Tryz.f62,go_sem,hc1,hc2,hc3]
set_option maxHeartbeats 4000000 in
theorem both_err (v0 v1 v2 v3 v4:Value) (s:List UInt8) (c:Int) (hc:c≠0) (w:World)
 (hlab:∀W,Below w.heap.size w W→Calls Tryz.prog 93 #[.agg #[v0,v1,v2,v3,v4],.string ⟨⟨s⟩⟩] W fun e w'=>∃v,e = .returned (.tuple #[v,.int .i64 c])∧Below W.heap.size W w') :
 Calls Tryz.prog 62 #[.agg #[v0,v1,v2,v3,v4],.string ⟨⟨s⟩⟩] w fun e w'=>e = .returned (.tuple #[.string ⟨#[]⟩,.string ⟨#[]⟩,.int .i64 c])∧Below w.heap.size w w':=by
 have hW0:Below w.heap.size w ((((w.alloc (.cells #[v0,v1,v2,v3,v4] 32)).alloc (.cells #[.string ⟨#[]⟩] 9)).alloc (.cells #[.string ⟨#[]⟩] 9)).alloc (.cells #[.int .i64 0] 35)) :=
  ((((Below.refl _ w).alloc (Nat.le_refl _) _).alloc (by simp) _).alloc (by simp<;>omega) _).alloc (by simp<;>omega) _
 have hR:∀X,Below (w.heap.size+4) ((((w.alloc (.cells #[v0,v1,v2,v3,v4] 32)).alloc (.cells #[.string ⟨#[]⟩] 9)).alloc (.cells #[.string ⟨#[]⟩] 9)).alloc (.cells #[.int .i64 0] 35)) X→Boxed X (w.heap.size+1) 9 (.string ⟨#[]⟩)∧Boxed X (w.heap.size+1+1) 9 (.string ⟨#[]⟩)∧Boxed X (w.heap.size+1+1+1) 35 (.int .i64 0):=fun X hX=>by
  refine ⟨?_,?_,?_⟩
  · show X.heap[_]? = _
    rw [hX.block _ (by omega),Below.heap_alloc _ _ _ (by simp<;>omega),Below.heap_alloc _ _ _ (by simp)];have:=heap_alloc_new (w.alloc (.cells #[v0,v1,v2,v3,v4] 32)) (.cells #[.string ⟨#[]⟩] 9)
    rwa [World.size_alloc] at this
  · show X.heap[_]? = _
    rw [hX.block _ (by omega),Below.heap_alloc _ _ _ (by simp)];have:=heap_alloc_new ((w.alloc (.cells #[v0,v1,v2,v3,v4] 32)).alloc (.cells #[.string ⟨#[]⟩] 9)) (.cells #[.string ⟨#[]⟩] 9)
    rwa [World.size_alloc,World.size_alloc] at this
  · show X.heap[_]? = _
    rw [hX.block _ (by omega)];have:=heap_alloc_new (((w.alloc (.cells #[v0,v1,v2,v3,v4] 32)).alloc (.cells #[.string ⟨#[]⟩] 9)).alloc (.cells #[.string ⟨#[]⟩] 9)) (.cells #[.int .i64 0] 35)
    rwa [World.size_alloc,World.size_alloc,World.size_alloc] at this
 have hl:=hlab _ hW0;clear hlab
 go_enter Tryz.func62,Tryz.ntmps62
 go_wp2_with (go_at_call 93;refine hl.mono ?_;rintro e w1 ⟨lv,rfl,hb1⟩;obtain ⟨q1,q2,q3⟩:=hR w1 (hb1.mono (by simp));have q4:=q1.cell;have q5:=q1.frozen;have q6:=q2.cell;have q7:=q2.frozen;have q8:=q3.cell;have q9:=q3.frozen)
 have e1:=setBox (b':=w.heap.size+1+1+1) (u:=(.int .i64 c)) (setBox (b':=w.heap.size+1+1) (u:=(.string ⟨#[]⟩)) (Boxed.set (.string ⟨#[]⟩) q1) (by omega)) (by omega);have e2:=setBox (b':=w.heap.size+1+1+1) (u:=(.int .i64 c)) (Boxed.set (.string ⟨#[]⟩) (setBox (b':=w.heap.size+1) (u:=(.string ⟨#[]⟩)) q2 (by omega))) (by omega);have e3:=Boxed.set (.int .i64 c) (setBox (b':=w.heap.size+1+1) (u:=(.string ⟨#[]⟩)) (setBox (b':=w.heap.size+1) (u:=(.string ⟨#[]⟩)) q3 (by omega)) (by omega));have hc1:=e1.cell;have hc2:=e2.cell;have hc3:=e3.cell;have hbX:=(((hW0.trans (hb1.mono (by simp<;>omega))).setCell (p:=⟨w.heap.size+1,0,none⟩) (show w.heap.size≤w.heap.size+1 by omega) (.string ⟨#[]⟩)).setCell (p:=⟨w.heap.size+1+1,0,none⟩) (show w.heap.size≤w.heap.size+1+1 by omega) (.string ⟨#[]⟩)).setCell (p:=⟨w.heap.size+1+1+1,0,none⟩) (show w.heap.size≤w.heap.size+1+1+1 by omega) (.int .i64 c)
 (try simp only [Exit.inBlock,Exit.then])
 refine bodyPost_ret (by simp [results,Tryz.results124,go_sem,hc1,hc2,hc3];try rfl) rfl ?_;exact ⟨rfl,hbX⟩
theorem tbl_int {f:FuncId} {fn:Func} {F:T95} (h:FnOk Tryz.prog f ⟨Li15,Lo206,F⟩) (hf:Tryz.prog.funcs[f]? = some fn) (hb:fn.body.isSome=true) (hname:(fn.name == "runtime.NumGoroutine")=false) {t0 t1 t2} {x r:List UInt8} {c:Int} (hF:F (t0,t1,t2,x,())=some (r,c,()))
 {w:World} {m:Md} (gi:GI w m) (hlt:∀b,m.a b→b<w.heap.size) {a:Array Value} (ht:RepL w m [] (tabA t0 t1 t2) a.toList) :
 Calls Tryz.prog f #[.agg a,.string ⟨⟨x⟩⟩] w fun e w'=>e = .returned (.tuple #[.string ⟨⟨r⟩⟩,.int .i64 c])∧Below w.heap.size w w':=by
 refine (FnOk.call0 (v:=(t0,t1,t2,x,())) (y:=(r,c,())) h hf hb hname gi hlt rfl ⟨_,_,rfl,⟨a,rfl,ht⟩,_,_,rfl,rfl,rfl⟩ rfl hF ?_).mono fun e w' ⟨rv,h1,h2,ax,l',u,h3,h4⟩ => ?_
 · intro ax l' u h3
   cases osel_one_inv h3;rfl
 · cases osel_one_inv h3
   obtain ⟨v,r',e1,⟨b,e2,e3⟩,e4⟩:=h4;have e4':r'=[]:=e4;subst e4';cases e1;subst h1 e2;refine ⟨?_,h2⟩;obtain ⟨v1,q1,f1,rfl,v2,q2,f2,⟨rfl,_⟩,f4⟩:=e3;have f4':q2=[]:=f4;subst f4' f2;cases b;cases f1;rfl
theorem tbl_bool {f:FuncId} {fn:Func} {F:T55} (h:FnOk Tryz.prog f ⟨Li15,Lo49,F⟩) (hf:Tryz.prog.funcs[f]? = some fn) (hb:fn.body.isSome=true) (hname:(fn.name == "runtime.NumGoroutine")=false) {t0 t1 t2} {x r:List UInt8} {c:Bool} (hF:F (t0,t1,t2,x,())=some (r,c,()))
 {w:World} {m:Md} (gi:GI w m) (hlt:∀b,m.a b→b<w.heap.size) {a:Array Value} (ht:RepL w m [] (tabA t0 t1 t2) a.toList) :
 Calls Tryz.prog f #[.agg a,.string ⟨⟨x⟩⟩] w fun e w'=>e = .returned (.tuple #[.string ⟨⟨r⟩⟩,.bool c])∧Below w.heap.size w w':=by
 refine (FnOk.call0 (v:=(t0,t1,t2,x,())) (y:=(r,c,())) h hf hb hname gi hlt rfl ⟨_,_,rfl,⟨a,rfl,ht⟩,_,_,rfl,rfl,rfl⟩ rfl hF ?_).mono fun e w' ⟨rv,h1,h2,ax,l',u,h3,h4⟩ => ?_
 · intro ax l' u h3
   cases osel_one_inv h3;rfl
 · cases osel_one_inv h3
   obtain ⟨v,r',e1,⟨b,e2,e3⟩,e4⟩:=h4;have e4':r'=[]:=e4;subst e4';cases e1;subst h1 e2;refine ⟨?_,h2⟩;obtain ⟨v1,q1,f1,rfl,v2,q2,f2,rfl,f4⟩:=e3;have f4':q2=[]:=f4;subst f4' f2;cases b;cases f1;rfl
def C62:T62:=fun (t0,t1,t2,s,_)=>(C55 (t0,t1,t2,s,())).bind fun f=>(labelsF f.1 f.2.1).bind fun lc=>bif lc.2 != 0 then some ([],[],lc.2,()) else bif decide (lc.1.length≤32) then (bothF (fun x=>(C95 (t0,t1,t2,x,())).map fun r=>(r.1,r.2.1)) (fun x=>(C96 (t0,t1,t2,x,())).map fun r=>(r.1,r.2.1)) lc.1 [] []).bind fun res=>(outF res).map fun o=>(o.1,o.2.1,o.2.2,()) else none
theorem ok62:FnOk Tryz.prog 62 (E62 C62):=by
 refine hand Tryz.func62 (by kernel_rfl) (by kernel_rfl) (fun _=>rfl) (fun _=>rfl) ?_;rintro ⟨t0,t1,t2,s,u⟩ y hy w m args gi hn hlt hargs;obtain ⟨va,r1,e1,⟨a,rfl,ht⟩,vs,r2,e2,e3,e4⟩:=hargs;have e4':r2=[]:=e4;have e3':vs = .string ⟨⟨s⟩⟩:=e3;subst e4' e3' e2;have ha:args = #[.agg a,.string ⟨⟨s⟩⟩]:=by cases args;simpa using e1
 subst ha;have ht0:RepL w m [] (tabA t0 t1 t2) a.toList:=ht;have hst:∀W,Below w.heap.size w W→Stp w m W m:=fun W hb=>stp_below hb fun b hb=>(hn b hb).elim;have htW:∀W,Below w.heap.size w W→RepL W m [] (tabA t0 t1 t2) a.toList:=fun W hb=>RepL.mono (hst W hb) (fun _ _ h=>h) _ _ ht0;have hltW:∀W,Below w.heap.size w W→∀b,m.a b→b<W.heap.size:=fun W hb b h=>Nat.lt_of_lt_of_le (hlt b h) hb.size;have g0:GI w m0:=⟨gi.i,fun b hb=>⟨(gi.b b hb).1,fun h=>h⟩⟩
 obtain ⟨v0,v1,v2,v3,v4,rfl⟩:∃v0 v1 v2 v3 v4,a = #[v0,v1,v2,v3,v4]:=by
  obtain ⟨w0,q0,f0,_,w1,q1,f1,_,w2,q2,f2,_,w3,q3,f3,_,w4,q4,f4,_,f5⟩:=ht0;have f5':q4=[]:=f5;subst f5' f4 f3 f2 f1;exact ⟨w0,w1,w2,w3,w4,by cases a;simpa using f0⟩
 have hy1:((C55 (t0,t1,t2,s,())).bind fun f=>(labelsF f.1 f.2.1).bind fun lc =>
  bif lc.2 != 0 then some ([],[],lc.2,()) else
  bif decide (lc.1.length≤32) then
   (bothF (fun x=>(C95 (t0,t1,t2,x,())).map fun r=>(r.1,r.2.1)) (fun x=>(C96 (t0,t1,t2,x,())).map fun r=>(r.1,r.2.1)) lc.1 [] []).bind fun res=>(outF res).map fun o=>(o.1,o.2.1,o.2.2,())
  else none)=some y:=hy
 obtain ⟨⟨f,ok,u0⟩,hf,hy2⟩:=Option.bind_eq_some_iff.1 hy1;obtain ⟨⟨ls,c⟩,hls,hy3⟩:=Option.bind_eq_some_iff.1 hy2;simp only at hls hy3;have hfold:∀W,Below w.heap.size w W→Calls Tryz.prog 55 #[.agg #[v0,v1,v2,v3,v4],.string ⟨⟨s⟩⟩] W fun e W'=>e = .returned (.tuple #[.string ⟨⟨f⟩⟩,.bool ok])∧Below W.heap.size W W' :=
  fun W hb=>tbl_bool ok55 Tryz.func55 (by kernel_rfl) (by kernel_rfl) hf (gi.mono (hst W hb)) (hltW W hb) (htW W hb)
 have hlab:∀W,Below w.heap.size w W→Calls Tryz.prog 93 #[.agg #[v0,v1,v2,v3,v4],.string ⟨⟨s⟩⟩] W fun e w'=>∃v,e = .returned (.tuple #[v,.int .i64 c])∧Below W.heap.size W w'∧w'.ownsRow W.heap.size 9 1 v ls.length (ls.map encS) :=
  fun W hb=>labels_walk v0 v1 v2 v3 v4 s f ok ls c W (gi_below g0 hb) hls fun W2 hb2=>hfold W2 (hb.trans (hb2.mono hb.size))
 suffices hmain:∃oa ou oc,y=(oa,ou,oc,())∧Calls Tryz.prog 62 #[.agg #[v0,v1,v2,v3,v4],.string ⟨⟨s⟩⟩] w fun e w'=>e = .returned (.tuple #[.string ⟨⟨oa⟩⟩,.string ⟨⟨ou⟩⟩,.int .i64 oc])∧Below w.heap.size w w' by
  obtain ⟨oa,ou,oc,rfl,hc⟩:=hmain;refine hc.mono fun e w' ⟨k1,k2⟩=>⟨_,k1,k2,.ret,[.tuple 3,.str,.str,.int .i64],(oa,ou,oc,()),osel_one [.tuple 3,.str,.str,.int .i64] (oa,ou,oc,()),rfl,rfl,?_⟩
  exact ⟨_,[],rfl,⟨_,rfl,_,_,rfl,rfl,_,_,rfl,rfl,_,_,rfl,⟨rfl,fun h=>(by cases h)⟩,rfl⟩,rfl⟩
 by_cases hc:c=0
 · subst hc
   have hy4:(bif decide (ls.length≤32) then
    (bothF (fun x=>(C95 (t0,t1,t2,x,())).map fun r=>(r.1,r.2.1)) (fun x=>(C96 (t0,t1,t2,x,())).map fun r=>(r.1,r.2.1)) ls [] []).bind fun res=>(outF res).map fun o=>(o.1,o.2.1,o.2.2,())
    else none)=some y:=hy3
   rcases cond_some hy4 with ⟨h32,hy5⟩|⟨_,hy5⟩
   case inr=>cases hy5
   obtain ⟨res,hres,hy6⟩:=Option.bind_eq_some_iff.1 hy5;obtain ⟨⟨oa,ou,oc⟩,hout,hy7⟩:=Option.map_eq_some_iff.1 hy6;refine ⟨oa,ou,oc,hy7.symm,?_⟩;refine both_walk v0 v1 v2 v3 v4 s ls _ _ res w g0 (of_decide_eq_true h32) hres oa ou oc hout (fun W hb=>hlab W hb) ?_ ?_
   · intro x r hr W hb
     obtain ⟨⟨r1,r2,r3⟩,hq,rfl⟩:=Option.map_eq_some_iff.1 hr;exact tbl_int ok95 Tryz.func95 (by kernel_rfl) (by kernel_rfl) hq (gi.mono (hst W hb)) (hltW W hb) (htW W hb)
   · intro x r hr W hb
     obtain ⟨⟨r1,r2,r3⟩,hq,rfl⟩:=Option.map_eq_some_iff.1 hr;exact tbl_int ok96 Tryz.func96 (by kernel_rfl) (by kernel_rfl) hq (gi.mono (hst W hb)) (hltW W hb) (htW W hb)
 · rcases cond_some hy3 with ⟨_,hy4⟩|⟨h0,_⟩
   case inr=>exact (hc (by simpa using h0)).elim
   cases hy4;exact ⟨[],[],c,rfl,both_err v0 v1 v2 v3 v4 s c hc w fun W hb=>(hlab W hb).mono fun e w' ⟨v,k1,k2,_⟩=>⟨v,k1,k2⟩⟩
end Go.Proofs.YtbifjondkjgkmaaGreatDoorA.W
