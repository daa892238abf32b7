/- The texts of the proof, one behind the other: W8, W9, W10, PB, PD0, PD1, PD2, PD3, PD4, PD5, PD6, PD7, PD8, PD9. -/
import Derived.Test.YtbifjondkjgkmaaGreatDoorAMp5
import Derived.Test.YtbifjondkjgkmaaGreatDoorAMp2
import Derived.Lib.IndexMore
set_option maxRecDepth 100000
set_option linter.unusedVariables false
namespace Go.Proofs.YtbifjondkjgkmaaGreatDoorA.W
open Go Go.Ae
abbrev T102:=LqS×Int×Unit→Option (Int×Unit)
def E102 (f:T102):FEnt:=⟨Li13,Lo10,f⟩
def K102 (f131:T131):=lk [(131,E131 f131)]
def F102 (f131:T131):T102:=fun (x0,x1,_)=>(f131 (x0,x1,())).bind fun v=>some (v.1,())
def C102:T102:=F102 C131
theorem ok102:FO 102 (E102 C102):=zq1 Li13 Lo10 K102 F102 C131 (kc ok131 kn) Tryz.func102
abbrev T100_c0:=Int×Bool×Unit→Option (Int×Bool×Unit)
def E100_c0 (f:T100_c0):LEnt:=⟨Li210,Lo211,f⟩
abbrev T100_c1:=Int×Bool×Unit→Option (Int×Bool×Unit)
def E100_c1 (f:T100_c1):LEnt:=⟨Li210,Lo211,f⟩
abbrev T100:=Int×Unit→Option (Bool×Unit)
def E100 (f:T100):FEnt:=⟨Li21,Lo27,f⟩
def K100 (f102:T102):=lk [(102,E102 f102)]
theorem kok100:KOk Tryz.prog (K100 C102):=(kc ok102 kn)
def F100_c0 (f102:T102):T100_c0:=fun (x0,x1,_)=>bif x1 then some (x0,true,()) else bif decide (x0≥48) then bif decide (x0≤57) then some (x0,true,()) else some (x0,decide (x0≥128),()) else some (x0,decide (x0≥128),())
def C100_c0:T100_c0:=F100_c0 C102
theorem k100_c0:CdOk 0 (subc (code Tryz.f100) [1,0,0,0,1,1,1]) (E100_c0 C100_c0):=zc1 Li210 Lo211 K100 F100_c0 C102 kok100
def N100_c1 (f100_c0:T100_c0):Ann:=(.cond .nil (.cut .nil (E100_c0 f100_c0)))
def F100_c1 (f102:T102) (f100_c0:T100_c0):T100_c1:=fun (x0,x1,_)=>bif x1 then some (x0,true,()) else bif decide (x0≥65) then (f100_c0 (x0,decide (x0≤90),())).bind fun v=>some (v.1,v.2.1,()) else (f100_c0 (x0,false,())).bind fun v=>some (v.1,v.2.1,())
theorem h100_c1 (f102:T102) (f100_c0:T100_c0):AqC (K100 f102) 0 (subc (code Tryz.f100) [1,0,0,0,1]) (N100_c1 f100_c0) Li210 Lo211 (F100_c1 f102 f100_c0):=fun v=>by kernel_rfl
def C100_c1:T100_c1:=F100_c1 C102 C100_c0
theorem k100_c1:CdOk 0 (subc (code Tryz.f100) [1,0,0,0,1]) (E100_c1 C100_c1) :=
 frd kok100 (And.intro k100_c0 trivial) (h100_c1 C102 C100_c0)
def N100 (f100_c1:T100_c1):Ann:=(.seq .nil (.seq (.blk (.seq (.cut .nil (E100_c1 f100_c1)) .nil)) .nil))
def F100 (f102:T102) (f100_c1:T100_c1):T100:=fun (x0,_)=>bif decide (x0≥97) then (f100_c1 (x0,decide (x0≤122),())).bind fun v=>bif v.2.1 then some (true,()) else (f102 ([33,35,36,37,38,39,42,43,45,47,61,63,94,95,96,123,124,125,126],v.1,())).bind fun v=>some (decide (v.1≥0),()) else (f100_c1 (x0,false,())).bind fun v=>bif v.2.1 then some (true,()) else (f102 ([33,35,36,37,38,39,42,43,45,47,61,63,94,95,96,123,124,125,126],v.1,())).bind fun v=>some (decide (v.1≥0),())
def C100:T100:=F100 C102 C100_c1
theorem ok100:FO 100 (E100 C100):=zq1_1 Li21 Lo27 K100 N100 F100 C102 C100_c1 kok100 Tryz.func100 (And.intro k100_c1 trivial)
abbrev T101_c0:=Int×LqS×Int×Int×Int×Unit→Option (Int×LqS×Int×Int×Int×Unit)
def E101_c0 (f:T101_c0):LEnt:=⟨Li214,Lo215,f⟩
abbrev T101_l0:=Int×LqS×Int×Int×Int×Unit→Option (Int×LqS×Int×Int×Int×Unit)
def E101_l0 (f:T101_l0):LEnt:=⟨Li214,Lo216,f⟩
abbrev T101:=LqS×Int×Int×Int×Unit→Option (LqS×LqS×Int×Int×Int×Unit)
def E101 (f:T101):FEnt:=⟨Li212,Lo213,f⟩
def K101 (f100:T100):=lk [(100,E100 f100)]
theorem kok101:KOk Tryz.prog (K101 C100):=(kc ok100 kn)
def F101_c0 (f100:T100):T101_c0:=fun (x0,x1,x2,x3,x4,_)=>some (x0,x1,IntKind.i64.wrap (x2+1),x3,x4,())
def C101_c0:T101_c0:=F101_c0 C100
theorem k101_c0:CdOk 1 (subc (code Tryz.f101) [1,1,0,0,0,1]) (E101_c0 C101_c0):=zc1 Li214 Lo215 K101 F101_c0 C100 kok101
def N101_l0 (f101_c0:T101_c0):Ann:=(.cut .nil (E101_c0 f101_c0))
def F101_l0 (f100:T100) (f101_c0:T101_c0):LpF (Int×LqS×Int×Int×Int×Unit) (Int×LqS×Int×Int×Int×Unit):=fun (x0,x1,x2,x3,x4,_)=>bif decide (x2<(↑x1.length:Int)) then bif decide (0≤x2)&&decide (x2<(↑x1.length:Int)) then (f100 ((↑(x1.getD x2.toNat 0).toNat:Int),())).bind fun v=>bif v.1 then (f101_c0 (x0,x1,x2,x3,x4,())).bind fun v=>some (Sum.inl (v.1,v.2.1,v.2.2.1,v.2.2.2.1,v.2.2.2.2.1,())) else some (Sum.inr (x0,x1,x2,x3,x4,())) else none else some (Sum.inr (x0,x1,x2,x3,x4,()))
theorem h101_l0 (f100:T100) (f101_c0:T101_c0):AqL (K101 f100) 1 (subc (code Tryz.f101) [1,1,0,0,0]) (N101_l0 f101_c0) Li214 Lo216 (F101_l0 f100 f101_c0):=fun v=>by kernel_rfl
def C101_l0:T101_l0:=loopN (F101_l0 C100 C101_c0) big
theorem k101_l0:LpOk 1 (subc (code Tryz.f101) [1,1,0,0,0]) (E101_l0 C101_l0) :=
 frm kok101 (And.intro k101_c0 trivial) (h101_l0 C100 C101_c0)
def N101 (f101_l0:T101_l0):Ann:=(.seq .nil (.seq .nil (.seq (.blk (.loop (E101_l0 f101_l0))) .nil)))
def F101 (f100:T100) (f101_l0:T101_l0):T101:=fun (x0,x1,x2,x3,_)=>(f101_l0 (x1,x0,x1,x2,x3,())).bind fun v=>bif decide (0≤v.2.2.1)&&decide (v.2.2.1≤(↑(List.length v.2.1):Int)) then bif decide (0≤v.1)&&decide (v.1≤v.2.2.1) then some (List.drop (Int.toNat v.1) (List.take (Int.toNat v.2.2.1) v.2.1),v.2.1,v.2.2.1,v.2.2.2.1,v.2.2.2.2.1,()) else none else none
theorem h101 (f100:T100) (f101_l0:T101_l0):AqF (K101 f100) 1 Tryz.f101 (N101 f101_l0) Li212 Lo213 (F101 f100 f101_l0):=fun v=>by kernel_rfl
def C101:T101:=F101 C100 C101_l0
theorem ok101:FO 101 (E101 C101) :=
 qo kok101 Tryz.func101 (And.intro k101_l0 trivial) (h101 C100 C101_l0)
abbrev T133:=Int×Unit→Option (Bool×Unit)
def E133 (f:T133):FEnt:=⟨Li21,Lo27,f⟩
def K133 (f102:T102):=lk [(102,E102 f102)]
def F133 (f102:T102):T133:=fun (x0,_)=>(f102 ([32,9],x0,())).bind fun v=>some (decide (v.1≥0),())
def C133:T133:=F133 C102
theorem ok133:FO 133 (E133 C133):=zq1 Li21 Lo27 K133 F133 C102 (kc ok102 kn) Tryz.func133
abbrev T132:=Int×Unit→Option (Bool×Unit)
def E132 (f:T132):FEnt:=⟨Li21,Lo27,f⟩
def K132 (f133:T133):=lk [(133,E133 f133)]
def F132 (f133:T133):T132:=fun (x0,_)=>(f133 (x0,())).bind fun v=>bif v.1 then some (true,()) else bif decide (x0>32) then some (bif x0==127 then false else true,()) else some (false,())
def C132:T132:=F132 C133
theorem ok132:FO 132 (E132 C132):=zq1 Li21 Lo27 K132 F132 C133 (kc ok133 kn) Tryz.func132
abbrev T107:=Int×Int×LqS×Int×Int×Int×Unit→Option (LqS×Int×Int×Int×Unit)
def E107 (f:T107):FEnt:=⟨Li217,Lo218,f⟩
def F107:T107:=fun (x0,x1,x2,x3,x4,x5,_)=>some (x2,x3,x0,x1,())
theorem h107:AqF KqZ 1 Tryz.f107 .nil Li217 Lo218 (F107):=fun v=>by kernel_rfl
def C107:T107:=F107
theorem ok107:FO 107 (E107 C107) :=
 q0 kn Tryz.func107 (h107)
abbrev T103_c0:=Int×LqS×Int×Int×Int×LqS×Unit→Option ((LqS×LqS×Int×Int×Int×Unit)⊕(Int×LqS×Int×Int×Int×LqS×Unit))
def E103_c0 (f:T103_c0):LEnt:=⟨Li219,Lo220,f⟩
abbrev T103_l0:=Int×LqS×Int×Int×Int×LqS×Unit→Option ((LqS×Int×Int×Int×Unit)⊕(LqS×LqS×Int×Int×Int×Unit))
def E103_l0 (f:T103_l0):LEnt:=⟨Li219,Lo221,f⟩
abbrev T103:=LqS×Int×Int×Int×Unit→Option (LqS×LqS×Int×Int×Int×Unit)
def E103 (f:T103):FEnt:=⟨Li212,Lo213,f⟩
def K103 (f107:T107) (f132:T132):=lk [(107,E107 f107),(132,E132 f132)]
theorem kok103:KOk Tryz.prog (K103 C107 C132):=(kc ok107 (kc ok132 kn))
def F103_c0 (f107:T107) (f132:T132):T103_c0:=fun (x0,x1,x2,x3,x4,x5,_)=>bif decide (0≤x0)&&decide (x0<(↑x1.length:Int)) then (f132 ((↑(x1.getD x0.toNat 0).toNat:Int),())).bind fun v=>bif !v.1 then (f107 (x0,4,x1,x2,x3,x4,())).bind fun v=>some (Sum.inl ([],v.1,v.2.1,v.2.2.1,v.2.2.2.1,())) else bif decide (0≤x0)&&decide (x0<(↑x1.length:Int)) then bif decide (x5.length+[UInt8.ofNat (↑(x1.getD x0.toNat 0).toNat:Int).toNat].length≤140737488355328/1) then some (Sum.inr (x0,x1,x2,x3,x4,x5++[UInt8.ofNat (↑(x1.getD x0.toNat 0).toNat:Int).toNat],())) else none else none else none
def C103_c0:T103_c0:=F103_c0 C107 C132
theorem k103_c0:CdOk 1 (subc (code Tryz.f103) [1,1,0,1,0,0,1,0,0,1,1,1]) (E103_c0 C103_c0):=zc2 Li219 Lo220 K103 F103_c0 C107 C132 kok103
def N103_l0 (f103_c0:T103_c0):Ann:=(.seq .nil (.seq (.blk (.seq .nil (.seq .nil (.cut .nil (E103_c0 f103_c0))))) .nil))
def F103_l0 (f107:T107) (f132:T132) (f103_c0:T103_c0):LpF (Int×LqS×Int×Int×Int×LqS×Unit) ((LqS×Int×Int×Int×Unit)⊕(LqS×LqS×Int×Int×Int×Unit)):=fun (x0,x1,x2,x3,x4,x5,_)=>bif decide (x0<(↑x1.length:Int)) then bif decide (0≤x0)&&decide (x0<(↑x1.length:Int)) then bif (↑(x1.getD x0.toNat 0).toNat:Int)==34 then some (Sum.inr (Sum.inr (x5,x1,IntKind.i64.wrap (x0+1),x3,x4,()))) else bif (↑(x1.getD x0.toNat 0).toNat:Int)==92 then bif IntKind.i64.wrap (x0+1)==(↑x1.length:Int) then some (Sum.inr (Sum.inl (x1,x2,x3,x4,()))) else (f103_c0 (IntKind.i64.wrap (x0+1),x1,x2,x3,x4,x5,())).bind fun v=>Sum.elim (fun v=>some (Sum.inr (Sum.inr (v.1,v.2.1,v.2.2.1,v.2.2.2.1,v.2.2.2.2.1,())))) (fun v=>some (Sum.inl (IntKind.i64.wrap (v.1+1),v.2.1,v.2.2.1,v.2.2.2.1,v.2.2.2.2.1,v.2.2.2.2.2.1,()))) v else (f103_c0 (x0,x1,x2,x3,x4,x5,())).bind fun v=>Sum.elim (fun v=>some (Sum.inr (Sum.inr (v.1,v.2.1,v.2.2.1,v.2.2.2.1,v.2.2.2.2.1,())))) (fun v=>some (Sum.inl (IntKind.i64.wrap (v.1+1),v.2.1,v.2.2.1,v.2.2.2.1,v.2.2.2.2.1,v.2.2.2.2.2.1,()))) v else none else some (Sum.inr (Sum.inl (x1,x2,x3,x4,())))
theorem h103_l0 (f107:T107) (f132:T132) (f103_c0:T103_c0):AqL (K103 f107 f132) 1 (subc (code Tryz.f103) [1,1,0,1,0,0]) (N103_l0 f103_c0) Li219 Lo221 (F103_l0 f107 f132 f103_c0):=fun v=>by kernel_rfl
def C103_l0:T103_l0:=loopN (F103_l0 C107 C132 C103_c0) big
theorem k103_l0:LpOk 1 (subc (code Tryz.f103) [1,1,0,1,0,0]) (E103_l0 C103_l0) :=
 frm kok103 (And.intro k103_c0 trivial) (h103_l0 C107 C132 C103_c0)
def N103 (f103_l0:T103_l0):Ann:=(.seq .nil (.seq .nil (.seq (.seq .nil (.blk (.loop (E103_l0 f103_l0)))) .nil)))
def F103 (f107:T107) (f132:T132) (f103_l0:T103_l0):T103:=fun (x0,x1,x2,x3,_)=>(f103_l0 (IntKind.i64.wrap (x1+1),x0,x1,x2,x3,[],())).bind fun v=>Sum.elim (fun v=>(f107 (v.2.1,4,v.1,v.2.1,v.2.2.1,v.2.2.2.1,())).bind fun v=>some ([],v.1,v.2.1,v.2.2.1,v.2.2.2.1,())) (fun v=>some (v.1,v.2.1,v.2.2.1,v.2.2.2.1,v.2.2.2.2.1,())) v
theorem h103 (f107:T107) (f132:T132) (f103_l0:T103_l0):AqF (K103 f107 f132) 1 Tryz.f103 (N103 f103_l0) Li212 Lo213 (F103 f107 f132 f103_l0):=fun v=>by kernel_rfl
def C103:T103:=F103 C107 C132 C103_l0
theorem ok103:FO 103 (E103 C103) :=
 qo kok103 Tryz.func103 (And.intro k103_l0 trivial) (h103 C107 C132 C103_l0)
abbrev T104_c0:=Int×LqS×LqS×Int×Int×Int×Unit→Option (LqS×LqS×Int×Int×Int×Unit)
def E104_c0 (f:T104_c0):LEnt:=⟨Li222,Lo223,f⟩
abbrev T104_l0:=Int×LqS×Int×Int×Int×Unit→Option ((LqS×Int×Int×Int×Unit)⊕(LqS×LqS×Int×Int×Int×Unit))
def E104_l0 (f:T104_l0):LEnt:=⟨Li224,Lo225,f⟩
abbrev T104:=LqS×Int×Int×Int×Unit→Option (LqS×LqS×Int×Int×Int×Unit)
def E104 (f:T104):FEnt:=⟨Li212,Lo213,f⟩
def K104 (f107:T107) (f132:T132) (f133:T133):=lk [(107,E107 f107),(132,E132 f132),(133,E133 f133)]
theorem kok104:KOk Tryz.prog (K104 C107 C132 C133):=(kc ok107 (kc ok132 (kc ok133 kn)))
def F104_c0 (f107:T107) (f132:T132) (f133:T133):T104_c0:=fun (x0,x1,x2,x3,x4,x5,_)=>some (x1,x2,IntKind.i64.wrap (x0+1),x4,x5,())
def C104_c0:T104_c0:=F104_c0 C107 C132 C133
theorem k104_c0:CdOk 1 (subc (code Tryz.f104) [1,0,1,0,0,1,0,0,1,0,1,0,1]) (E104_c0 C104_c0):=zc3 Li222 Lo223 K104 F104_c0 C107 C132 C133 kok104
def N104_l0 (f104_c0:T104_c0):Ann:=(.seq .nil (.seq (.blk (.seq .nil (.blk (.seq .nil (.cond (.cut .nil (E104_c0 f104_c0)) .nil))))) .nil))
def F104_l0 (f107:T107) (f132:T132) (f133:T133) (f104_c0:T104_c0):LpF (Int×LqS×Int×Int×Int×Unit) ((LqS×Int×Int×Int×Unit)⊕(LqS×LqS×Int×Int×Int×Unit)):=fun (x0,x1,x2,x3,x4,_)=>bif decide (x0<(↑x1.length:Int)) then bif decide (0≤x0)&&decide (x0<(↑x1.length:Int)) then bif (↑(x1.getD x0.toNat 0).toNat:Int)==93 then bif decide (0≤x0)&&decide (x0≤(↑x1.length:Int)) then bif decide (0≤IntKind.i64.wrap (x2+1))&&decide (IntKind.i64.wrap (x2+1)≤x0) then (f104_c0 (x0,List.drop (IntKind.i64.wrap (x2+1)).toNat (List.take x0.toNat x1),x1,x2,x3,x4,())).bind fun v=>some (Sum.inr (Sum.inr (v.1,v.2.1,v.2.2.1,v.2.2.2.1,v.2.2.2.2.1,()))) else none else none else bif (↑(x1.getD x0.toNat 0).toNat:Int)==91 then (f107 (x0,4,x1,x2,x3,x4,())).bind fun v=>some (Sum.inr (Sum.inr ([],v.1,v.2.1,v.2.2.1,v.2.2.2.1,()))) else bif (↑(x1.getD x0.toNat 0).toNat:Int)==92 then (f107 (x0,4,x1,x2,x3,x4,())).bind fun v=>some (Sum.inr (Sum.inr ([],v.1,v.2.1,v.2.2.1,v.2.2.2.1,()))) else (f133 ((↑(x1.getD x0.toNat 0).toNat:Int),())).bind fun v=>bif v.1 then (f107 (x0,4,x1,x2,x3,x4,())).bind fun v=>some (Sum.inr (Sum.inr ([],v.1,v.2.1,v.2.2.1,v.2.2.2.1,()))) else (f132 ((↑(x1.getD x0.toNat 0).toNat:Int),())).bind fun v=>bif !v.1 then (f107 (x0,4,x1,x2,x3,x4,())).bind fun v=>some (Sum.inr (Sum.inr ([],v.1,v.2.1,v.2.2.1,v.2.2.2.1,()))) else some (Sum.inl (IntKind.i64.wrap (x0+1),x1,x2,x3,x4,())) else none else some (Sum.inr (Sum.inl (x1,x2,x3,x4,())))
theorem h104_l0 (f107:T107) (f132:T132) (f133:T133) (f104_c0:T104_c0):AqL (K104 f107 f132 f133) 1 (subc (code Tryz.f104) [1,0,1,0,0]) (N104_l0 f104_c0) Li224 Lo225 (F104_l0 f107 f132 f133 f104_c0):=fun v=>by kernel_rfl
def C104_l0:T104_l0:=loopN (F104_l0 C107 C132 C133 C104_c0) big
theorem k104_l0:LpOk 1 (subc (code Tryz.f104) [1,0,1,0,0]) (E104_l0 C104_l0) :=
 frm kok104 (And.intro k104_c0 trivial) (h104_l0 C107 C132 C133 C104_c0)
def N104 (f104_l0:T104_l0):Ann:=(.seq .nil (.seq (.seq .nil (.blk (.loop (E104_l0 f104_l0)))) .nil))
def F104 (f107:T107) (f132:T132) (f133:T133) (f104_l0:T104_l0):T104:=fun (x0,x1,x2,x3,_)=>(f104_l0 (IntKind.i64.wrap (x1+1),x0,x1,x2,x3,())).bind fun v=>Sum.elim (fun v=>(f107 (v.2.1,4,v.1,v.2.1,v.2.2.1,v.2.2.2.1,())).bind fun v=>some ([],v.1,v.2.1,v.2.2.1,v.2.2.2.1,())) (fun v=>some (v.1,v.2.1,v.2.2.1,v.2.2.2.1,v.2.2.2.2.1,())) v
theorem h104 (f107:T107) (f132:T132) (f133:T133) (f104_l0:T104_l0):AqF (K104 f107 f132 f133) 1 Tryz.f104 (N104 f104_l0) Li212 Lo213 (F104 f107 f132 f133 f104_l0):=fun v=>by kernel_rfl
def C104:T104:=F104 C107 C132 C133 C104_l0
theorem ok104:FO 104 (E104 C104) :=
 qo kok104 Tryz.func104 (And.intro k104_l0 trivial) (h104 C107 C132 C133 C104_l0)
abbrev T105_l0:=Int×Int×Int×Int×LqS×Int×Int×Int×Unit→Option ((Int×Int×LqS×Int×Int×Int×Unit)⊕(Int×Int×LqS×Int×Int×Int×Unit)⊕(LqS×LqS×Int×Int×Int×Unit))
def E105_l0 (f:T105_l0):LEnt:=⟨Li226,Lo227,f⟩
abbrev T105_g0:=Int×Int×LqS×Int×Int×Int×Unit→Option (LqS×LqS×Int×Int×Int×Unit)
def E105_g0 (f:T105_g0):LEnt:=⟨Li228,Lo229,f⟩
abbrev T105:=LqS×Int×Int×Int×Unit→Option (LqS×LqS×Int×Int×Int×Unit)
def E105 (f:T105):FEnt:=⟨Li212,Lo213,f⟩
def K105 (f107:T107) (f132:T132):=lk [(107,E107 f107),(132,E132 f132)]
theorem kok105:KOk Tryz.prog (K105 C107 C132):=(kc ok107 (kc ok132 kn))
def F105_l0 (f107:T107) (f132:T132):LpF (Int×Int×Int×Int×LqS×Int×Int×Int×Unit) ((Int×Int×LqS×Int×Int×Int×Unit)⊕(Int×Int×LqS×Int×Int×Int×Unit)⊕(LqS×LqS×Int×Int×Int×Unit)):=fun (x0,x1,x2,x3,x4,x5,x6,x7,_)=>bif decide (x3<(↑x4.length:Int)) then bif decide (0≤x3)&&decide (x3<(↑x4.length:Int)) then bif (↑(x4.getD x3.toNat 0).toNat:Int)==40 then bif decide (IntKind.i64.wrap (x1+1)>32) then some (Sum.inr (Sum.inr (Sum.inl (6,x3,x4,x5,x6,x7,())))) else some (Sum.inl (x0,IntKind.i64.wrap (x1+1),x2,IntKind.i64.wrap (x3+1),x4,x5,x6,x7,())) else bif (↑(x4.getD x3.toNat 0).toNat:Int)==41 then bif IntKind.i64.wrap (x1-1)==0 then bif decide (0≤x3)&&decide (x3≤(↑x4.length:Int)) then bif decide (0≤IntKind.i64.wrap (x0+1))&&decide (IntKind.i64.wrap (x0+1)≤x3) then some (Sum.inr (Sum.inr (Sum.inr (List.drop (IntKind.i64.wrap (x0+1)).toNat (List.take x3.toNat x4),x4,IntKind.i64.wrap (x3+1),x6,x7,())))) else none else none else some (Sum.inl (x0,IntKind.i64.wrap (x1-1),x2,IntKind.i64.wrap (x3+1),x4,x5,x6,x7,())) else bif (↑(x4.getD x3.toNat 0).toNat:Int)==92 then bif IntKind.i64.wrap (x3+1)==(↑x4.length:Int) then some (Sum.inl (x0,x1,x2,IntKind.i64.wrap (IntKind.i64.wrap (x3+1)+1),x4,x5,x6,x7,())) else bif decide (0≤IntKind.i64.wrap (x3+1))&&decide (IntKind.i64.wrap (x3+1)<(↑x4.length:Int)) then (f132 ((↑(x4.getD (IntKind.i64.wrap (x3+1)).toNat 0).toNat:Int),())).bind fun v=>bif !v.1 then some (Sum.inr (Sum.inr (Sum.inl (x2,IntKind.i64.wrap (x3+1),x4,x5,x6,x7,())))) else some (Sum.inl (x0,x1,x2,IntKind.i64.wrap (IntKind.i64.wrap (x3+1)+1),x4,x5,x6,x7,())) else none else (f132 ((↑(x4.getD x3.toNat 0).toNat:Int),())).bind fun v=>bif !v.1 then some (Sum.inr (Sum.inr (Sum.inl (x2,x3,x4,x5,x6,x7,())))) else some (Sum.inl (x0,x1,x2,IntKind.i64.wrap (x3+1),x4,x5,x6,x7,())) else none else some (Sum.inr (Sum.inl (x0,x2,x4,x5,x6,x7,())))
def C105_l0:T105_l0:=loopN (F105_l0 C107 C132) big
theorem k105_l0:LpOk 1 (subc (code Tryz.f105) [1,0,1,1,0,1,0,0]) (E105_l0 C105_l0):=zl2 Li226 Lo227 K105 F105_l0 C107 C132 kok105
def F105_g0 (f107:T107) (f132:T132):LpF (Int×Int×LqS×Int×Int×Int×Unit) (LqS×LqS×Int×Int×Int×Unit):=fun (x0,x1,x2,x3,x4,x5,_)=>(f107 (x1,x0,x2,x3,x4,x5,())).bind fun v=>some (Sum.inr ([],v.1,v.2.1,v.2.2.1,v.2.2.2.1,()))
theorem h105_g0 (f107:T107) (f132:T132) (v:HS Li228):aev Γ (K105 f107 f132) 1 ((findLabel (subc (code Tryz.f105) [1,0]) 0).getD .skip) .nil (stof Li228 v) (aroundL 1 0 [] Li228 Lo229)=F105_g0 f107 f132 v:=by kernel_rfl
def C105_g0:T105_g0:=loopN (F105_g0 C107 C132) big
theorem k105_g0:FragOk Tryz.prog 1 (ScopeFrom Tryz.prog (subc (code Tryz.f105) [1,0]) 0) (E105_g0 C105_g0) :=
 frag_big (ins:=Li228) (os:=Lo229) (C:=C105_g0) (frag_label (ins:=Li228) (os:=Lo229) (n := .nil) (ls:=[]) (F:=F105_g0 C107 C132) (rest:=((findLabel (subc (code Tryz.f105) [1,0]) 0).getD .skip)) hm hΓ kok105 (fun _=>big) (by kernel_rfl) (ann_nil _) find_nil (h105_g0 C107 C132)) rfl
def N105 (f105_g0:T105_g0) (f105_l0:T105_l0):Ann:=(.seq .nil (.scope (.seq .nil (.seq .nil (.seq (.seq .nil (.blk (.loop (E105_l0 f105_l0)))) .nil))) [(0,(E105_g0 f105_g0))]))
def F105 (f107:T107) (f132:T132) (f105_g0:T105_g0) (f105_l0:T105_l0):T105:=fun (x0,x1,x2,x3,_)=>(f105_l0 (x1,0,4,x1,x0,x1,x2,x3,())).bind fun v=>Sum.elim (fun v=>(f107 (v.1,v.2.1,v.2.2.1,v.2.2.2.1,v.2.2.2.2.1,v.2.2.2.2.2.1,())).bind fun v=>some ([],v.1,v.2.1,v.2.2.1,v.2.2.2.1,())) (fun v=>Sum.elim (fun v=>(f105_g0 (v.1,v.2.1,v.2.2.1,v.2.2.2.1,v.2.2.2.2.1,v.2.2.2.2.2.1,())).bind fun v=>some (v.1,v.2.1,v.2.2.1,v.2.2.2.1,v.2.2.2.2.1,())) (fun v=>some (v.1,v.2.1,v.2.2.1,v.2.2.2.1,v.2.2.2.2.1,())) v) v
theorem h105 (f107:T107) (f132:T132) (f105_g0:T105_g0) (f105_l0:T105_l0):AqF (K105 f107 f132) 1 Tryz.f105 (N105 f105_g0 f105_l0) Li212 Lo213 (F105 f107 f132 f105_g0 f105_l0):=fun v=>by kernel_rfl
def C105:T105:=F105 C107 C132 C105_g0 C105_l0
theorem ok105:FO 105 (E105 C105) :=
 qo kok105 Tryz.func105 (And.intro k105_l0 (And.intro k105_g0 trivial)) (h105 C107 C132 C105_g0 C105_l0)
abbrev T106_c0:=Int×Bool×LqS×Int×Int×Int×Unit→Option ((Int×LqS×Int×Int×Int×Unit)⊕(LqS×LqS×Int×Int×Int×Unit))
def E106_c0 (f:T106_c0):LEnt:=⟨Li230,Lo231,f⟩
abbrev T106_l0:=Int×LqS×Int×Int×Int×Unit→Option ((Int×LqS×Int×Int×Int×Unit)⊕(LqS×LqS×Int×Int×Int×Unit))
def E106_l0 (f:T106_l0):LEnt:=⟨Li232,Lo233,f⟩
abbrev T106:=LqS×Int×Int×Int×Unit→Option (LqS×LqS×Int×Int×Int×Unit)
def E106 (f:T106):FEnt:=⟨Li212,Lo213,f⟩
def K106 (f133:T133):=lk [(133,E133 f133)]
theorem kok106:KOk Tryz.prog (K106 C133):=(kc ok133 kn)
def F106_c0 (f133:T133):T106_c0:=fun (x0,x1,x2,x3,x4,x5,_)=>bif x1 then some (Sum.inl (x0,x2,IntKind.i64.wrap (x3+3),x4,x5,())) else bif decide (0≤x3)&&decide (x3≤(↑x2.length:Int)) then bif decide (0≤x0)&&decide (x0≤x3) then some (Sum.inr (List.drop x0.toNat (List.take x3.toNat x2),x2,x3,x4,x5,())) else none else none
def C106_c0:T106_c0:=F106_c0 C133
theorem k106_c0:CdOk 1 (subc (code Tryz.f106) [1,1,0,0,0,1,0,1,0,1,1,1]) (E106_c0 C106_c0):=zc1 Li230 Lo231 K106 F106_c0 C133 kok106
def N106_l0 (f106_c0:T106_c0):Ann:=(.seq .nil (.blk (.seq .nil (.blk (.seq .nil (.cond .nil (.cut .nil (E106_c0 f106_c0))))))))
def F106_l0 (f133:T133) (f106_c0:T106_c0):LpF (Int×LqS×Int×Int×Int×Unit) ((Int×LqS×Int×Int×Int×Unit)⊕(LqS×LqS×Int×Int×Int×Unit)):=fun (x0,x1,x2,x3,x4,_)=>bif decide (x2<(↑x1.length:Int)) then bif decide (0≤x2)&&decide (x2≤(↑x1.length:Int)) then bif decide (0<(↑(List.drop x2.toNat x1).length:Int)) then (f133 ((↑((List.drop x2.toNat x1).getD 0 0).toNat:Int),())).bind fun v=>bif v.1 then some (Sum.inl (x0,x1,IntKind.i64.wrap (x2+1),x3,x4,())) else bif decide ((↑(List.drop x2.toNat x1).length:Int)>2) then bif decide (2≤(↑(List.drop x2.toNat x1).length:Int)) then bif List.take 2 (List.drop x2.toNat x1)==[13,10] then bif decide (2<(↑(List.drop x2.toNat x1).length:Int)) then (f133 ((↑((List.drop x2.toNat x1).getD 2 0).toNat:Int),())).bind fun v=>(f106_c0 (x0,v.1,x1,x2,x3,x4,())).bind fun v=>Sum.elim (fun v=>some (Sum.inl (v.1,v.2.1,v.2.2.1,v.2.2.2.1,v.2.2.2.2.1,()))) (fun v=>some (Sum.inr (Sum.inr (v.1,v.2.1,v.2.2.1,v.2.2.2.1,v.2.2.2.2.1,())))) v else none else (f106_c0 (x0,false,x1,x2,x3,x4,())).bind fun v=>Sum.elim (fun v=>some (Sum.inl (v.1,v.2.1,v.2.2.1,v.2.2.2.1,v.2.2.2.2.1,()))) (fun v=>some (Sum.inr (Sum.inr (v.1,v.2.1,v.2.2.1,v.2.2.2.1,v.2.2.2.2.1,())))) v else none else (f106_c0 (x0,false,x1,x2,x3,x4,())).bind fun v=>Sum.elim (fun v=>some (Sum.inl (v.1,v.2.1,v.2.2.1,v.2.2.2.1,v.2.2.2.2.1,()))) (fun v=>some (Sum.inr (Sum.inr (v.1,v.2.1,v.2.2.1,v.2.2.2.1,v.2.2.2.2.1,())))) v else none else none else some (Sum.inr (Sum.inl (x0,x1,x2,x3,x4,())))
theorem h106_l0 (f133:T133) (f106_c0:T106_c0):AqL (K106 f133) 1 (subc (code Tryz.f106) [1,1,0,0,0]) (N106_l0 f106_c0) Li232 Lo233 (F106_l0 f133 f106_c0):=fun v=>by kernel_rfl
def C106_l0:T106_l0:=loopN (F106_l0 C133 C106_c0) big
theorem k106_l0:LpOk 1 (subc (code Tryz.f106) [1,1,0,0,0]) (E106_l0 C106_l0) :=
 frm kok106 (And.intro k106_c0 trivial) (h106_l0 C133 C106_c0)
def N106 (f106_l0:T106_l0):Ann:=(.seq .nil (.seq .nil (.seq (.blk (.loop (E106_l0 f106_l0))) .nil)))
def F106 (f133:T133) (f106_l0:T106_l0):T106:=fun (x0,x1,x2,x3,_)=>(f106_l0 (x1,x0,x1,x2,x3,())).bind fun v=>Sum.elim (fun v=>bif decide (0≤v.2.2.1)&&decide (v.2.2.1≤(↑(List.length v.2.1):Int)) then bif decide (0≤v.1)&&decide (v.1≤v.2.2.1) then some (List.drop (Int.toNat v.1) (List.take (Int.toNat v.2.2.1) v.2.1),v.2.1,v.2.2.1,v.2.2.2.1,v.2.2.2.2.1,()) else none else none) (fun v=>some (v.1,v.2.1,v.2.2.1,v.2.2.2.1,v.2.2.2.2.1,())) v
theorem h106 (f133:T133) (f106_l0:T106_l0):AqF (K106 f133) 1 Tryz.f106 (N106 f106_l0) Li212 Lo213 (F106 f133 f106_l0):=fun v=>by kernel_rfl
def C106:T106:=F106 C133 C106_l0
theorem ok106:FO 106 (E106 C106) :=
 qo kok106 Tryz.func106 (And.intro k106_l0 trivial) (h106 C133 C106_l0)
abbrev T66_c0:=Int×Int×LqS×Int×Int×Int×Int×LqS×Int×Unit→Option (LqS×Int×Int×Int×Int×LqS×Int×Unit)
def E66_c0 (f:T66_c0):LEnt:=⟨Li235,Lo236,f⟩
abbrev T66:=LqS×Int×Int×Int×Unit→Option (Int×LqS×Int×LqS×Int×Int×Int×Unit)
def E66 (f:T66):FEnt:=⟨Li212,Lo234,f⟩
def K66 (f100:T100) (f101:T101) (f102:T102) (f103:T103) (f104:T104) (f105:T105) (f106:T106) (f107:T107):=lk [(100,E100 f100),(101,E101 f101),(102,E102 f102),(103,E103 f103),(104,E104 f104),(105,E105 f105),(106,E106 f106),(107,E107 f107)]
theorem kok66:KOk Tryz.prog (K66 C100 C101 C102 C103 C104 C105 C106 C107):=(kc ok100 (kc ok101 (kc ok102 (kc ok103 (kc ok104 (kc ok105 (kc ok106 (kc ok107 kn))))))))
def F66_c0 (f100:T100) (f101:T101) (f102:T102) (f103:T103) (f104:T104) (f105:T105) (f106:T106) (f107:T107):T66_c0:=fun (x0,x1,x2,x3,x4,x5,x6,x7,x8,_)=>(f100 (x1,())).bind fun v=>bif v.1 then (f101 (x2,x3,x4,x5,())).bind fun v=>some (v.2.1,v.2.2.1,v.2.2.2.1,v.2.2.2.2.1,0,v.1,x0,()) else (f102 ([60,62,58,59,64,44,46],x1,())).bind fun v=>bif decide (v.1≥0) then bif decide (0≤IntKind.i64.wrap (x3+1))&&decide (IntKind.i64.wrap (x3+1)≤(↑x2.length:Int)) then bif decide (0≤x0)&&decide (x0≤IntKind.i64.wrap (x3+1)) then some (x2,IntKind.i64.wrap (x3+1),x4,x5,2,List.drop x0.toNat (List.take (IntKind.i64.wrap (x3+1)).toNat x2),x0,()) else none else none else bif x1==34 then (f103 (x2,x3,x4,x5,())).bind fun v=>some (v.2.1,v.2.2.1,v.2.2.2.1,v.2.2.2.2.1,1,v.1,x0,()) else bif x1==91 then (f104 (x2,x3,x4,x5,())).bind fun v=>some (v.2.1,v.2.2.1,v.2.2.2.1,v.2.2.2.2.1,5,v.1,x0,()) else bif x1==40 then (f105 (x2,x3,x4,x5,())).bind fun v=>some (v.2.1,v.2.2.1,v.2.2.2.1,v.2.2.2.2.1,3,v.1,x0,()) else (f106 (x2,x3,x4,x5,())).bind fun v=>bif v.1==[] then (f107 (x0,4,v.2.1,v.2.2.1,v.2.2.2.1,v.2.2.2.2.1,())).bind fun v1=>some (v1.1,v1.2.1,v1.2.2.1,v1.2.2.2.1,4,v.1,x0,()) else some (v.2.1,v.2.2.1,v.2.2.2.1,v.2.2.2.2.1,4,v.1,x0,())
theorem h66_c0 (f100:T100) (f101:T101) (f102:T102) (f103:T103) (f104:T104) (f105:T105) (f106:T106) (f107:T107):AqC (K66 f100 f101 f102 f103 f104 f105 f106 f107) 1 (subc (code Tryz.f66) [1,1]) .nil Li235 Lo236 (F66_c0 f100 f101 f102 f103 f104 f105 f106 f107):=fun v=>by kernel_rfl
def C66_c0:T66_c0:=F66_c0 C100 C101 C102 C103 C104 C105 C106 C107
theorem k66_c0:CdOk 1 (subc (code Tryz.f66) [1,1]) (E66_c0 C66_c0) :=
 frc kok66 (h66_c0 C100 C101 C102 C103 C104 C105 C106 C107)
def N66 (f66_c0:T66_c0):Ann:=(.seq .nil (.cut .nil (E66_c0 f66_c0)))
def F66 (f100:T100) (f101:T101) (f102:T102) (f103:T103) (f104:T104) (f105:T105) (f106:T106) (f107:T107) (f66_c0:T66_c0):T66:=fun (x0,x1,x2,x3,_)=>bif decide (0≤x1)&&decide (x1<(↑x0.length:Int)) then (f66_c0 (x1,(↑(x0.getD x1.toNat 0).toNat:Int),x0,x1,x2,x3,0,[],0,())).bind fun v=>some (v.2.2.2.2.1,v.2.2.2.2.2.1,v.2.2.2.2.2.2.1,v.1,v.2.1,v.2.2.1,v.2.2.2.1,()) else none
theorem h66 (f100:T100) (f101:T101) (f102:T102) (f103:T103) (f104:T104) (f105:T105) (f106:T106) (f107:T107) (f66_c0:T66_c0):AqF (K66 f100 f101 f102 f103 f104 f105 f106 f107) 1 Tryz.f66 (N66 f66_c0) Li212 Lo234 (F66 f100 f101 f102 f103 f104 f105 f106 f107 f66_c0):=fun v=>by kernel_rfl
def C66:T66:=F66 C100 C101 C102 C103 C104 C105 C106 C107 C66_c0
theorem ok66:FO 66 (E66 C66) :=
 qo kok66 Tryz.func66 (And.intro k66_c0 trivial) (h66 C100 C101 C102 C103 C104 C105 C106 C107 C66_c0)
abbrev T37_l0:=LqS×LqD×LqS×Int×Int×Int×Unit→Option ((LqD×Unit)⊕(Int×Int×Unit))
def E37_l0 (f:T37_l0):LEnt:=⟨Li238,Lo239,f⟩
abbrev T37:=LqS×Unit→Option (LqD×Int×Int×Unit)
def E37 (f:T37):FEnt:=⟨Li28,Lo237,f⟩
def K37 (f34:T34) (f66:T66):=lk [(34,E34 f34),(66,E66 f66)]
theorem kok37:KOk Tryz.prog (K37 C34 C66):=(kc ok34 (kc ok66 kn))
def F37_l0 (f34:T34) (f66:T66):LpF (LqS×LqD×LqS×Int×Int×Int×Unit) ((LqD×Unit)⊕(Int×Int×Unit)):=fun (x0,x1,x2,x3,x4,x5,_)=>bif decide (x3<(↑x0.length:Int)) then (f66 (x2,x3,x4,x5,())).bind fun v=>bif decide (x1.length+[(v.1,v.2.1,v.2.2.1)].length≤140737488355328/32) then bif v.2.2.2.2.2.2.1 != 0 then some (Sum.inr (Sum.inr (v.2.2.2.2.2.1,v.2.2.2.2.2.2.1,()))) else some (Sum.inl (x0,x1++[(v.1,v.2.1,v.2.2.1)],v.2.2.2.1,v.2.2.2.2.1,v.2.2.2.2.2.1,v.2.2.2.2.2.2.1,())) else none else some (Sum.inr (Sum.inl (x1,())))
def C37_l0:T37_l0:=loopN (F37_l0 C34 C66) big
theorem k37_l0:LpOk 0 (subc (code Tryz.f37) [1,1,1,1,1,0,0,0]) (E37_l0 C37_l0):=zl2 Li238 Lo239 K37 F37_l0 C34 C66 kok37
def N37 (f37_l0:T37_l0):Ann:=(.seq .nil (.seq .nil (.seq .nil (.seq .nil (.seq .nil (.seq (.blk (.loop (E37_l0 f37_l0))) .nil))))))
def F37 (f34:T34) (f66:T66) (f37_l0:T37_l0):T37:=fun (x0,_)=>bif decide ((↑x0.length:Int)>2000) then some ([],0,5,()) else (f34 (x0,())).bind fun v=>bif decide (v.2.1≥0) then some ([],v.2.1,7,()) else (f37_l0 (x0,[],x0,0,0,0,())).bind fun v=>Sum.elim (fun v=>some (v.1,0,0,())) (fun v=>some ([],v.1,v.2.1,())) v
def C37:T37:=F37 C34 C66 C37_l0
theorem ok37:FO 37 (E37 C37):=zq2_1 Li28 Lo237 K37 N37 F37 C34 C66 C37_l0 kok37 Tryz.func37 (And.intro k37_l0 trivial)
abbrev T76_c0:=Int×LqD×Int×LqS×LqS×Unit→Option (Int×LqD×Int×LqS×LqS×Unit)
def E76_c0 (f:T76_c0):LEnt:=⟨Li242,Lo243,f⟩
abbrev T76:=Int×LqD×Int×LqS×LqS×Unit→Option (Int×LqD×Int×LqS×LqS×Unit)
def E76 (f:T76):FEnt:=⟨Li240,Lo241,f⟩
def F76_c0:T76_c0:=fun (x0,x1,x2,x3,x4,_)=>bif decide (0≤IntKind.i64.wrap (x2+x0))&&decide (IntKind.i64.wrap (x2+x0)<(↑x1.length:Int)) then some ((x1.getD (IntKind.i64.wrap (x2+x0)).toNat (0,([],0))).1,x1,x2,x3,x4,()) else none
def C76_c0:T76_c0:=F76_c0
theorem k76_c0:CdOk 1 (subc (code Tryz.f76) [1,1]) (E76_c0 C76_c0):=zc0 Li242 Lo243 KqZ F76_c0 kn
def N76 (f76_c0:T76_c0):Ann:=(.seq .nil (.cut .nil (E76_c0 f76_c0)))
def F76 (f76_c0:T76_c0):T76:=fun (x0,x1,x2,x3,x4,_)=>bif decide (IntKind.i64.wrap (x2+x0)≥(↑x1.length:Int)) then some (-1,x1,x2,x3,x4,()) else (f76_c0 (x0,x1,x2,x3,x4,())).bind fun v=>some (v.1,v.2.1,v.2.2.1,v.2.2.2.1,v.2.2.2.2.1,())
theorem h76 (f76_c0:T76_c0):AqF KqZ 1 Tryz.f76 (N76 f76_c0) Li240 Lo241 (F76 f76_c0):=fun v=>by kernel_rfl
def C76:T76:=F76 C76_c0
theorem ok76:FO 76 (E76 C76) :=
 qo kn Tryz.func76 (And.intro k76_c0 trivial) (h76 C76_c0)
abbrev T49_l0:=LqD×Int×LqS×LqS×Unit→Option (LqD×Int×LqS×LqS×Unit)
def E49_l0 (f:T49_l0):LEnt:=⟨Li246,Lo247,f⟩
abbrev T49:=LqD×Int×LqS×LqS×Unit→Option (Bool×LqD×Int×LqS×LqS×Unit)
def E49 (f:T49):FEnt:=⟨Li244,Lo245,f⟩
def K49 (f76:T76):=lk [(76,E76 f76)]
theorem kok49:KOk Tryz.prog (K49 C76):=(kc ok76 kn)
def F49_l0 (f76:T76):LpF (LqD×Int×LqS×LqS×Unit) (LqD×Int×LqS×LqS×Unit):=fun (x0,x1,x2,x3,_)=>(f76 (0,x0,x1,x2,x3,())).bind fun v=>bif v.1==4 then some (Sum.inl (v.2.1,IntKind.i64.wrap (v.2.2.1+1),v.2.2.2.1,v.2.2.2.2.1,())) else (f76 (0,v.2.1,v.2.2.1,v.2.2.2.1,v.2.2.2.2.1,())).bind fun v=>bif v.1==3 then some (Sum.inl (v.2.1,IntKind.i64.wrap (v.2.2.1+1),v.2.2.2.1,v.2.2.2.2.1,())) else some (Sum.inr (v.2.1,v.2.2.1,v.2.2.2.1,v.2.2.2.2.1,()))
def C49_l0:T49_l0:=loopN (F49_l0 C76) big
theorem k49_l0:LpOk 1 (subc (code Tryz.f49) [1,0,0,0]) (E49_l0 C49_l0):=zl1 Li246 Lo247 K49 F49_l0 C76 kok49
def N49 (f49_l0:T49_l0):Ann:=(.seq .nil (.seq (.blk (.loop (E49_l0 f49_l0))) .nil))
def F49 (f76:T76) (f49_l0:T49_l0):T49:=fun (x0,x1,x2,x3,_)=>(f49_l0 (x0,x1,x2,x3,())).bind fun v=>some (true,v.1,v.2.1,v.2.2.1,v.2.2.2.1,())
theorem h49 (f76:T76) (f49_l0:T49_l0):AqF (K49 f76) 1 Tryz.f49 (N49 f49_l0) Li244 Lo245 (F49 f76 f49_l0):=fun v=>by kernel_rfl
def C49:T49:=F49 C76 C49_l0
theorem ok49:FO 49 (E49 C49) :=
 qo kok49 Tryz.func49 (And.intro k49_l0 trivial) (h49 C76 C49_l0)
abbrev T78:=LqS×LqD×Int×LqS×LqS×Unit→Option (Bool×LqD×Int×LqS×LqS×Unit)
def E78 (f:T78):FEnt:=⟨Li248,Lo245,f⟩
def K78 (f76:T76):=lk [(76,E76 f76)]
def F78 (f76:T76):T78:=fun (x0,x1,x2,x3,x4,_)=>(f76 (0,x1,x2,x3,x4,())).bind fun v=>bif v.1==2 then bif decide (0≤v.2.2.1)&&decide (v.2.2.1<(↑(List.length v.2.1):Int)) then some ((List.getD v.2.1 (Int.toNat v.2.2.1) (0,([],0))).2.1==x0,v.2.1,v.2.2.1,v.2.2.2.1,v.2.2.2.2.1,()) else none else some (false,v.2.1,v.2.2.1,v.2.2.2.1,v.2.2.2.2.1,())
theorem h78 (f76:T76):AqF (K78 f76) 1 Tryz.f78 .nil Li248 Lo245 (F78 f76):=fun v=>by kernel_rfl
def C78:T78:=F78 C76
theorem ok78:FO 78 (E78 C78) :=
 q0 (kc ok76 kn) Tryz.func78 (h78 C76)
abbrev T77_l0:=LqS×LqD×Int×LqS×LqS×Unit→Option (LqS×LqD×Int×LqS×LqS×Unit)
def E77_l0 (f:T77_l0):LEnt:=⟨Li250,Lo251,f⟩
abbrev T77_c0:=LqS×LqD×Int×LqS×LqS×Unit→Option (LqS×Bool×LqD×Int×LqS×LqS×Unit)
def E77_c0 (f:T77_c0):LEnt:=⟨Li250,Lo252,f⟩
abbrev T77:=LqD×Int×LqS×LqS×Unit→Option (LqS×Bool×LqD×Int×LqS×LqS×Unit)
def E77 (f:T77):FEnt:=⟨Li244,Lo249,f⟩
def K77 (f76:T76) (f78:T78):=lk [(76,E76 f76),(78,E78 f78)]
theorem kok77:KOk Tryz.prog (K77 C76 C78):=(kc ok76 (kc ok78 kn))
def F77_l0 (f76:T76) (f78:T78):LpF (LqS×LqD×Int×LqS×LqS×Unit) (LqS×LqD×Int×LqS×LqS×Unit):=fun (x0,x1,x2,x3,x4,_)=>(f78 ([46],x1,x2,x3,x4,())).bind fun v=>bif v.1 then (f76 (1,v.2.1,v.2.2.1,v.2.2.2.1,v.2.2.2.2.1,())).bind fun v=>bif v.1==0 then bif decide (0≤IntKind.i64.wrap (v.2.2.1+1))&&decide (IntKind.i64.wrap (v.2.2.1+1)<(↑(List.length v.2.1):Int)) then bif decide ([46].length+List.length (List.getD v.2.1 (IntKind.i64.wrap (v.2.2.1+1)).toNat (0,([],0))).2.1≤9223372036854775807) then bif decide (x0.length+([46]++(List.getD v.2.1 (IntKind.i64.wrap (v.2.2.1+1)).toNat (0,([],0))).2.1).length≤9223372036854775807) then some (Sum.inl (x0++([46]++(List.getD v.2.1 (IntKind.i64.wrap (v.2.2.1+1)).toNat (0,([],0))).2.1),v.2.1,IntKind.i64.wrap (v.2.2.1+2),v.2.2.2.1,v.2.2.2.2.1,())) else none else none else none else some (Sum.inr (x0,v.2.1,v.2.2.1,v.2.2.2.1,v.2.2.2.2.1,())) else some (Sum.inr (x0,v.2.1,v.2.2.1,v.2.2.2.1,v.2.2.2.2.1,()))
def C77_l0:T77_l0:=loopN (F77_l0 C76 C78) big
theorem k77_l0:LpOk 1 (subc (code Tryz.f77) [1,1,1,0,1,0,0]) (E77_l0 C77_l0):=zl2 Li250 Lo251 K77 F77_l0 C76 C78 kok77
def N77_c0 (f77_l0:T77_l0):Ann:=(.seq (.seq .nil (.blk (.loop (E77_l0 f77_l0)))) .nil)
def F77_c0 (f76:T76) (f78:T78) (f77_l0:T77_l0):T77_c0:=fun (x0,x1,x2,x3,x4,_)=>(f77_l0 (x0,x1,IntKind.i64.wrap (x2+1),x3,x4,())).bind fun v=>some (v.1,true,v.2.1,v.2.2.1,v.2.2.2.1,v.2.2.2.2.1,())
theorem h77_c0 (f76:T76) (f78:T78) (f77_l0:T77_l0):AqC (K77 f76 f78) 1 (subc (code Tryz.f77) [1,1,1]) (N77_c0 f77_l0) Li250 Lo252 (F77_c0 f76 f78 f77_l0):=fun v=>by kernel_rfl
def C77_c0:T77_c0:=F77_c0 C76 C78 C77_l0
theorem k77_c0:CdOk 1 (subc (code Tryz.f77) [1,1,1]) (E77_c0 C77_c0) :=
 frd kok77 (And.intro k77_l0 trivial) (h77_c0 C76 C78 C77_l0)
def N77 (f77_c0:T77_c0):Ann:=(.seq .nil (.seq .nil (.cut .nil (E77_c0 f77_c0))))
def F77 (f76:T76) (f78:T78) (f77_c0:T77_c0):T77:=fun (x0,x1,x2,x3,_)=>(f76 (0,x0,x1,x2,x3,())).bind fun v=>bif v.1 != 0 then some ([],false,v.2.1,v.2.2.1,v.2.2.2.1,v.2.2.2.2.1,()) else bif decide (0≤v.2.2.1)&&decide (v.2.2.1<(↑(List.length v.2.1):Int)) then (f77_c0 ((List.getD v.2.1 (Int.toNat v.2.2.1) (0,([],0))).2.1,v.2.1,v.2.2.1,v.2.2.2.1,v.2.2.2.2.1,())).bind fun v=>some (v.1,v.2.1,v.2.2.1,v.2.2.2.1,v.2.2.2.2.1,v.2.2.2.2.2.1,()) else none
theorem h77 (f76:T76) (f78:T78) (f77_c0:T77_c0):AqF (K77 f76 f78) 1 Tryz.f77 (N77 f77_c0) Li244 Lo249 (F77 f76 f78 f77_c0):=fun v=>by kernel_rfl
def C77:T77:=F77 C76 C78 C77_c0
theorem ok77:FO 77 (E77 C77) :=
 qo kok77 Tryz.func77 (And.intro k77_c0 trivial) (h77 C76 C78 C77_c0)
abbrev T50_c0:=LqD×Int×LqS×LqS×Unit→Option (Bool×LqD×Int×LqS×LqS×Unit)
def E50_c0 (f:T50_c0):LEnt:=⟨Li253,Lo254,f⟩
abbrev T50:=LqD×Int×LqS×LqS×Unit→Option (Bool×LqD×Int×LqS×LqS×Unit)
def E50 (f:T50):FEnt:=⟨Li244,Lo245,f⟩
def K50 (f76:T76) (f77:T77):=lk [(76,E76 f76),(77,E77 f77)]
theorem kok50:KOk Tryz.prog (K50 C76 C77):=(kc ok76 (kc ok77 kn))
def F50_c0 (f76:T76) (f77:T77):T50_c0:=fun (x0,x1,x2,x3,_)=>some (true,x0,IntKind.i64.wrap (x1+1),x2,x3,())
def C50_c0:T50_c0:=F50_c0 C76 C77
theorem k50_c0:CdOk 1 (subc (code Tryz.f50) [1,0,1,0,1]) (E50_c0 C50_c0):=zc2 Li253 Lo254 K50 F50_c0 C76 C77 kok50
def N50 (f50_c0:T50_c0):Ann:=(.seq .nil (.seq (.seq .nil (.cond (.cut .nil (E50_c0 f50_c0)) .nil)) .nil))
def F50 (f76:T76) (f77:T77) (f50_c0:T50_c0):T50:=fun (x0,x1,x2,x3,_)=>(f76 (0,x0,x1,x2,x3,())).bind fun v=>bif v.1==1 then bif decide (0≤v.2.2.1)&&decide (v.2.2.1<(↑(List.length v.2.1):Int)) then (f50_c0 (v.2.1,v.2.2.1,(List.getD v.2.1 (Int.toNat v.2.2.1) (0,([],0))).2.1,v.2.2.2.2.1,())).bind fun v=>some (v.1,v.2.1,v.2.2.1,v.2.2.2.1,v.2.2.2.2.1,()) else none else (f77 (v.2.1,v.2.2.1,v.2.2.2.1,v.2.2.2.2.1,())).bind fun v=>some (v.2.1,v.2.2.1,v.2.2.2.1,v.1,v.2.2.2.2.2.1,())
theorem h50 (f76:T76) (f77:T77) (f50_c0:T50_c0):AqF (K50 f76 f77) 1 Tryz.f50 (N50 f50_c0) Li244 Lo245 (F50 f76 f77 f50_c0):=fun v=>by kernel_rfl
def C50:T50:=F50 C76 C77 C50_c0
theorem ok50:FO 50 (E50 C50) :=
 qo kok50 Tryz.func50 (And.intro k50_c0 trivial) (h50 C76 C77 C50_c0)
abbrev T51:=LqD×Int×LqS×LqS×Unit→Option (Bool×LqD×Int×LqS×LqS×Unit)
def E51 (f:T51):FEnt:=⟨Li244,Lo245,f⟩
def K51 (f78:T78):=lk [(78,E78 f78)]
def F51 (f78:T78):T51:=fun (x0,x1,x2,x3,_)=>(f78 ([64],x0,x1,x2,x3,())).bind fun v=>some (v.1,v.2.1,IntKind.i64.wrap (v.2.2.1+1),v.2.2.2.1,v.2.2.2.2.1,())
theorem h51 (f78:T78):AqF (K51 f78) 1 Tryz.f51 .nil Li244 Lo245 (F51 f78):=fun v=>by kernel_rfl
def C51:T51:=F51 C78
theorem ok51:FO 51 (E51 C51) :=
 q0 (kc ok78 kn) Tryz.func51 (h51 C78)
abbrev T81_l0:=LqS×Int×Int×LqS×Unit→Option (LqS×Unit)
def E81_l0 (f:T81_l0):LEnt:=⟨Li256,Lo257,f⟩
abbrev T81:=LqS×Unit→Option (LqS×Unit)
def E81 (f:T81):FEnt:=⟨Li28,Lo255,f⟩
def F81_l0:LpF (LqS×Int×Int×LqS×Unit) (LqS×Unit):=fun (x0,x1,x2,x3,_)=>bif decide (x2<x1) then bif decide (0≤x2)&&decide (x2<(↑x0.length:Int)) then bif (↑(x0.getD x2.toNat 0).toNat:Int)==34 then bif decide (x3.length+[92].length≤140737488355328/1) then bif decide (0≤x2)&&decide (x2<(↑x0.length:Int)) then bif decide ((x3++[92]).length+[UInt8.ofNat (↑(x0.getD x2.toNat 0).toNat:Int).toNat].length≤140737488355328/1) then some (Sum.inl (x0,x1,IntKind.i64.wrap (x2+1),x3++[92]++[UInt8.ofNat (↑(x0.getD x2.toNat 0).toNat:Int).toNat],())) else none else none else none else bif decide (0≤x2)&&decide (x2<(↑x0.length:Int)) then bif (↑(x0.getD x2.toNat 0).toNat:Int)==92 then bif decide (x3.length+[92].length≤140737488355328/1) then bif decide (0≤x2)&&decide (x2<(↑x0.length:Int)) then bif decide ((x3++[92]).length+[UInt8.ofNat (↑(x0.getD x2.toNat 0).toNat:Int).toNat].length≤140737488355328/1) then some (Sum.inl (x0,x1,IntKind.i64.wrap (x2+1),x3++[92]++[UInt8.ofNat (↑(x0.getD x2.toNat 0).toNat:Int).toNat],())) else none else none else none else bif decide (0≤x2)&&decide (x2<(↑x0.length:Int)) then bif decide (x3.length+[UInt8.ofNat (↑(x0.getD x2.toNat 0).toNat:Int).toNat].length≤140737488355328/1) then some (Sum.inl (x0,x1,IntKind.i64.wrap (x2+1),x3++[UInt8.ofNat (↑(x0.getD x2.toNat 0).toNat:Int).toNat],())) else none else none else none else none else some (Sum.inr (x3,()))
def C81_l0:T81_l0:=loopN (F81_l0) big
theorem k81_l0:LpOk 0 (subc (code Tryz.f81) [1,1,0,1,0,0]) (E81_l0 C81_l0):=zl0 Li256 Lo257 KqZ F81_l0 kn
def N81 (f81_l0:T81_l0):Ann:=(.seq .nil (.seq .nil (.seq (.seq .nil (.blk (.loop (E81_l0 f81_l0)))) .nil)))
def F81 (f81_l0:T81_l0):T81:=fun (x0,_)=>(f81_l0 (x0,(↑x0.length:Int),0,[],())).bind fun v=>some (v.1,())
def C81:T81:=F81 C81_l0
theorem ok81:FO 81 (E81 C81):=zq0_1 Li28 Lo255 KqZ N81 F81 C81_l0 kn Tryz.func81 (And.intro k81_l0 trivial)
abbrev T54:=Int×LqS×Int×Unit→Option (LqS×Unit)
def E54 (f:T54):FEnt:=⟨Li258,Lo255,f⟩
def K54 (f81:T81):=lk [(81,E81 f81)]
def F54 (f81:T81):T54:=fun (x0,x1,x2,_)=>bif x0==1 then (f81 (x1,())).bind fun v=>bif decide ([34].length+List.length v.1≤9223372036854775807) then bif decide (([34]++v.1).length+[34].length≤9223372036854775807) then some ([34]++v.1++[34],()) else none else none else bif x0==3 then bif decide ([40].length+x1.length≤9223372036854775807) then bif decide (([40]++x1).length+[41].length≤9223372036854775807) then some ([40]++x1++[41],()) else none else none else bif x0==5 then bif decide ([91].length+x1.length≤9223372036854775807) then bif decide (([91]++x1).length+[93].length≤9223372036854775807) then some ([91]++x1++[93],()) else none else none else some (x1,())
def C54:T54:=F54 C81
theorem ok54:FO 54 (E54 C54):=zq1 Li258 Lo255 K54 F54 C81 (kc ok81 kn) Tryz.func54
abbrev T52_c0:=LqD×Int×LqS×LqS×Unit→Option (Bool×LqD×Int×LqS×LqS×Unit)
def E52_c0 (f:T52_c0):LEnt:=⟨Li253,Lo254,f⟩
abbrev T52:=LqD×Int×LqS×LqS×Unit→Option (Bool×LqD×Int×LqS×LqS×Unit)
def E52 (f:T52):FEnt:=⟨Li244,Lo245,f⟩
def K52 (f54:T54) (f76:T76) (f77:T77):=lk [(54,E54 f54),(76,E76 f76),(77,E77 f77)]
theorem kok52:KOk Tryz.prog (K52 C54 C76 C77):=(kc ok54 (kc ok76 (kc ok77 kn)))
def F52_c0 (f54:T54) (f76:T76) (f77:T77):T52_c0:=fun (x0,x1,x2,x3,_)=>some (true,x0,IntKind.i64.wrap (x1+1),x2,x3,())
def C52_c0:T52_c0:=F52_c0 C54 C76 C77
theorem k52_c0:CdOk 1 (subc (code Tryz.f52) [1,0,1,0,1]) (E52_c0 C52_c0):=zc3 Li253 Lo254 K52 F52_c0 C54 C76 C77 kok52
def N52 (f52_c0:T52_c0):Ann:=(.seq .nil (.seq (.seq .nil (.cond (.cut .nil (E52_c0 f52_c0)) .nil)) .nil))
def F52 (f54:T54) (f76:T76) (f77:T77) (f52_c0:T52_c0):T52:=fun (x0,x1,x2,x3,_)=>(f76 (0,x0,x1,x2,x3,())).bind fun v=>bif v.1==5 then bif decide (0≤v.2.2.1)&&decide (v.2.2.1<(↑(List.length v.2.1):Int)) then (f54 ((List.getD v.2.1 (Int.toNat v.2.2.1) (0,([],0))).1,(List.getD v.2.1 (Int.toNat v.2.2.1) (0,([],0))).2.1,(List.getD v.2.1 (Int.toNat v.2.2.1) (0,([],0))).2.2,())).bind fun v1=>(f52_c0 (v.2.1,v.2.2.1,v.2.2.2.1,v1.1,())).bind fun v=>some (v.1,v.2.1,v.2.2.1,v.2.2.2.1,v.2.2.2.2.1,()) else none else (f77 (v.2.1,v.2.2.1,v.2.2.2.1,v.2.2.2.2.1,())).bind fun v=>some (v.2.1,v.2.2.1,v.2.2.2.1,v.2.2.2.2.1,v.1,())
theorem h52 (f54:T54) (f76:T76) (f77:T77) (f52_c0:T52_c0):AqF (K52 f54 f76 f77) 1 Tryz.f52 (N52 f52_c0) Li244 Lo245 (F52 f54 f76 f77 f52_c0):=fun v=>by kernel_rfl
def C52:T52:=F52 C54 C76 C77 C52_c0
theorem ok52:FO 52 (E52 C52) :=
 qo kok52 Tryz.func52 (And.intro k52_c0 trivial) (h52 C54 C76 C77 C52_c0)
abbrev T24:=LqD×Unit→Option (LqS×LqS×Int×Bool×Unit)
def E24 (f:T24):FEnt:=⟨Li259,Lo260,f⟩
def K24 (f49:T49) (f50:T50) (f51:T51) (f52:T52):=lk [(49,E49 f49),(50,E50 f50),(51,E51 f51),(52,E52 f52)]
def N24:Ann:=(.seq .nil (.seq .nil (.seq (.seq .nil (.blk (.unroll 9 .nil))) .nil)))
def F24 (f49:T49) (f50:T50) (f51:T51) (f52:T52):T24:=fun (x0,_)=>(f49 (x0,0,[],[],())).bind fun v=>bif !v.1 then some ([],[],0,false,()) else (f50 (v.2.1,v.2.2.1,v.2.2.2.1,v.2.2.2.2.1,())).bind fun v=>bif !v.1 then some ([],[],0,false,()) else (f49 (v.2.1,v.2.2.1,v.2.2.2.1,v.2.2.2.2.1,())).bind fun v=>bif !v.1 then some ([],[],0,false,()) else (f51 (v.2.1,v.2.2.1,v.2.2.2.1,v.2.2.2.2.1,())).bind fun v=>bif !v.1 then some ([],[],0,false,()) else (f49 (v.2.1,v.2.2.1,v.2.2.2.1,v.2.2.2.2.1,())).bind fun v=>bif !v.1 then some ([],[],0,false,()) else (f52 (v.2.1,v.2.2.1,v.2.2.2.1,v.2.2.2.2.1,())).bind fun v=>bif !v.1 then some ([],[],0,false,()) else (f49 (v.2.1,v.2.2.1,v.2.2.2.1,v.2.2.2.2.1,())).bind fun v=>bif !v.1 then some ([],[],0,false,()) else some (v.2.2.2.1,v.2.2.2.2.1,v.2.2.1,true,())
theorem h24 (f49:T49) (f50:T50) (f51:T51) (f52:T52):AqF (K24 f49 f50 f51 f52) 0 Tryz.f24 N24 Li259 Lo260 (F24 f49 f50 f51 f52):=fun v=>by kernel_rfl
def C24:T24:=F24 C49 C50 C51 C52
theorem ok24:FO 24 (E24 C24) :=
 qo (kc ok49 (kc ok50 (kc ok51 (kc ok52 kn)))) Tryz.func24 trivial (h24 C49 C50 C51 C52)
abbrev T36:=Int×Unit→Option (Bool×Unit)
def E36 (f:T36):FEnt:=⟨Li26,Lo27,f⟩
def F36:T36:=fun (x0,_)=>bif x0 != 9 then bif decide (x0<32) then some (true,()) else some (x0==127,()) else some (false,())
def C36:T36:=F36
theorem ok36:FO 36 (E36 C36):=zq0 Li26 Lo27 KqZ F36 kn Tryz.func36
abbrev T99v1_l0:=Bool×(LqS×Int)×Unit→Option ((Int×Unit)⊕Unit)
def E99v1_l0 (f:T99v1_l0):LEnt:=⟨Li262,Lo187,f⟩
abbrev T99v1:=LqS×Bool×Unit→Option (Int×Unit)
def E99v1 (f:T99v1):FEnt:=⟨Li261,Lo10,f⟩
def K99v1 (f36:T36):=lk [(36,E36 f36)]
theorem kok99v1:KOk Tryz.prog (K99v1 C36):=(kc ok36 kn)
def F99v1_l0 (f36:T36):LpF (Bool×(LqS×Int)×Unit) ((Int×Unit)⊕Unit):=fun (x0,x1,_)=>bif decide (Int.toNat x1.2<List.length x1.1) then (f36 ((↑(decR x1.1 (Int.toNat x1.2)).1:Int),())).bind fun v=>bif v.1==x0 then some (Sum.inr (Sum.inl ((↑(Int.toNat x1.2):Int),()))) else some (Sum.inl (x0,(x1.1,(↑(Int.toNat x1.2+(decR x1.1 (Int.toNat x1.2)).2):Int)),())) else some (Sum.inr (Sum.inr ()))
def C99v1_l0:T99v1_l0:=loopN (F99v1_l0 C36) big
theorem k99v1_l0:LpOk 0 (subc (code Tryz.f99) [1,0,1,0,0]) (E99v1_l0 C99v1_l0):=zl1 Li262 Lo187 K99v1 F99v1_l0 C36 kok99v1
def N99v1 (f99v1_l0:T99v1_l0):Ann:=(.seq .nil (.seq (.seq .nil (.blk (.loop (E99v1_l0 f99v1_l0)))) .nil))
def F99v1 (f36:T36) (f99v1_l0:T99v1_l0):T99v1:=fun (x0,x1,_)=>(f99v1_l0 (x1,(x0,(↑0:Int)),())).bind fun v=>Sum.elim (fun v=>some (v.1,())) (fun v=>some (-1,())) v
def C99v1:T99v1:=F99v1 C36 C99v1_l0
theorem ok99v1:FO 99 (E99v1 C99v1):=zq1_1 Li261 Lo10 K99v1 N99v1 F99v1 C36 C99v1_l0 kok99v1 Tryz.func99 (And.intro k99v1_l0 trivial)
abbrev T65v1:=LqS×Unit→Option (Int×Unit)
def E65v1 (f:T65v1):FEnt:=⟨Li263,Lo10,f⟩
def K65v1 (f99v1:T99v1):=lk [(99,E99v1 f99v1)]
def F65v1 (f99v1:T99v1):T65v1:=fun (x0,_)=>(f99v1 (x0,true,())).bind fun v=>some (v.1,())
def C65v1:T65v1:=F65v1 C99v1
theorem ok65v1:FO 65 (E65v1 C65v1):=zq1 Li263 Lo10 K65v1 F65v1 C99v1 (kc ok99v1 kn) Tryz.func65
abbrev T35v1:=LqS×Unit→Option (Bool×Unit)
def E35v1 (f:T35v1):FEnt:=⟨Li263,Lo27,f⟩
def K35v1 (f65v1:T65v1):=lk [(65,E65v1 f65v1)]
def F35v1 (f65v1:T65v1):T35v1:=fun (x0,_)=>(f65v1 (x0,())).bind fun v=>some (decide (v.1≥0),())
def C35v1:T35v1:=F35v1 C65v1
theorem ok35v1:FO 35 (E35v1 C35v1):=zq1 Li263 Lo27 K35v1 F35v1 C65v1 (kc ok65v1 kn) Tryz.func35
abbrev T31:=LqS×Unit→Option (Bool×Unit)
def E31 (f:T31):FEnt:=⟨Li28,Lo27,f⟩
def K31 (f59:T59):=lk [(59,E59 f59)]
def F31 (f59:T59):T31:=fun (x0,_)=>(f59 (x0,[91],())).bind fun v=>some (v.1,())
def C31:T31:=F31 C59
theorem ok31:FO 31 (E31 C31):=zq1 Li28 Lo27 K31 F31 C59 (kc ok59 kn) Tryz.func31
abbrev T33:=LqA×LqB×LqC×LqS×Unit→Option (LqS×Int×Unit)
def E33 (f:T33):FEnt:=⟨Li15,Lo206,f⟩
def K33 (f62:T62):=lk [(62,E62 f62)]
def F33 (f62:T62):T33:=fun (x0,x1,x2,x3,_)=>(f62 (x0,x1,x2,x3,())).bind fun v=>some (v.1,v.2.2.1,())
def C33:T33:=F33 C62
theorem ok33:FO 33 (E33 C33):=zq1 Li15 Lo206 K33 F33 C62 (kc ok62 kn) Tryz.func33
abbrev T11:=LqA×LqB×LqC×LqS×LqS×Unit→Option (Int×Unit)
def E11 (f:T11):FEnt:=⟨Li264,Lo10,f⟩
def K11 (f31:T31) (f33:T33) (f34:T34) (f35v1:T35v1) (f37:T37):=lk [(31,E31 f31),(33,E33 f33),(34,E34 f34),(35,E35v1 f35v1),(37,E37 f37)]
def F11 (f31:T31) (f33:T33) (f34:T34) (f35v1:T35v1) (f37:T37):T11:=fun (x0,x1,x2,x3,x4,_)=>(f34 (x3,())).bind fun v=>bif x3==[] then some (13,()) else bif decide ((↑x3.length:Int)>64) then some (5,()) else bif decide (v.2.1≥0) then some (7,()) else (f35v1 (x3,())).bind fun v=>bif v.1 then some (8,()) else (f31 (x4,())).bind fun v=>bif v.1 then (f37 (x4,())).bind fun v=>bif v.2.2.1 != 0 then some (4,()) else bif (↑(List.length v.1):Int) != 1 then some (4,()) else bif decide (0<(↑(List.length v.1):Int)) then bif (List.getD v.1 0 (0,([],0))).1 != 5 then some (4,()) else some (0,()) else none else (f33 (x0,x1,x2,x4,())).bind fun v=>some (v.2.1,())
theorem h11 (f31:T31) (f33:T33) (f34:T34) (f35v1:T35v1) (f37:T37):AqF (K11 f31 f33 f34 f35v1 f37) 0 Tryz.f11 .nil Li264 Lo10 (F11 f31 f33 f34 f35v1 f37):=fun v=>by kernel_rfl
def C11:T11:=F11 C31 C33 C34 C35v1 C37
theorem ok11:FO 11 (E11 C11) :=
 q0 (kc ok31 (kc ok33 (kc ok34 (kc ok35v1 (kc ok37 kn))))) Tryz.func11 (h11 C31 C33 C34 C35v1 C37)
abbrev T38:=LqA×LqB×LqC×LqS×Unit→Option (LqS×Int×Unit)
def E38 (f:T38):FEnt:=⟨Li15,Lo206,f⟩
def K38 (f12:T12) (f33:T33):=lk [(12,E12 f12),(33,E33 f33)]
def F38 (f12:T12) (f33:T33):T38:=fun (x0,x1,x2,x3,_)=>(f33 (x0,x1,x2,x3,())).bind fun v=>bif v.2.1==0 then (f12 (x3,())).bind fun v1=>bif decide (v1.1<0) then some (x3,0,()) else some (v.1,v.2.1,()) else some (v.1,v.2.1,())
def C38:T38:=F38 C12 C33
theorem ok38:FO 38 (E38 C38):=zq2 Li15 Lo206 K38 F38 C12 C33 (kc ok12 (kc ok33 kn)) Tryz.func38
abbrev T13_c0:=Bool×LqA×LqB×LqC×LqS×LqS×LqS×LqS×Unit→Option ((Int×LqS×LqS×Unit)⊕(LqA×LqB×LqC×LqS×LqS×LqS×LqS×Unit))
def E13_c0 (f:T13_c0):LEnt:=⟨Li266,Lo267,f⟩
abbrev T13:=LqA×LqB×LqC×LqS×LqS×Unit→Option (LqS×LqS×Int×Unit)
def E13 (f:T13):FEnt:=⟨Li264,Lo265,f⟩
def K13 (f12:T12) (f31:T31) (f38:T38):=lk [(12,E12 f12),(31,E31 f31),(38,E38 f38)]
theorem kok13:KOk Tryz.prog (K13 C12 C31 C38):=(kc ok12 (kc ok31 (kc ok38 kn)))
def F13_c0 (f12:T12) (f31:T31) (f38:T38):T13_c0:=fun (x0,x1,x2,x3,x4,x5,x6,x7,_)=>bif x0 then some (Sum.inl (8,[],[],())) else (f31 (x5,())).bind fun v=>bif v.1 then some (Sum.inl (0,x4,x5,())) else some (Sum.inr (x1,x2,x3,x4,x5,x6,x7,()))
def C13_c0:T13_c0:=F13_c0 C12 C31 C38
theorem k13_c0:CdOk 0 (subc (code Tryz.f13) [1,0,0,1]) (E13_c0 C13_c0):=zc3 Li266 Lo267 K13 F13_c0 C12 C31 C38 kok13
def N13 (f13_c0:T13_c0):Ann:=(.seq .nil (.seq (.blk (.cut .nil (E13_c0 f13_c0))) .nil))
def F13 (f12:T12) (f31:T31) (f38:T38) (f13_c0:T13_c0):T13:=fun (x0,x1,x2,x3,x4,_)=>(f12 (x3,())).bind fun v=>bif decide (v.1≥0) then (f13_c0 (true,x0,x1,x2,x3,x4,[],[],())).bind fun v=>Sum.elim (fun v=>some (v.2.1,v.2.2.1,v.1,())) (fun v=>(f38 (v.1,v.2.1,v.2.2.1,v.2.2.2.2.1,())).bind fun v1=>bif v1.2.1 != 0 then some ([],[],v1.2.1,()) else some (v.2.2.2.1,v1.1,0,())) v else (f31 (x4,())).bind fun v=>bif v.1 then (f12 (x4,())).bind fun v=>(f13_c0 (decide (v.1≥0),x0,x1,x2,x3,x4,[],[],())).bind fun v=>Sum.elim (fun v=>some (v.2.1,v.2.2.1,v.1,())) (fun v=>(f38 (v.1,v.2.1,v.2.2.1,v.2.2.2.2.1,())).bind fun v1=>bif v1.2.1 != 0 then some ([],[],v1.2.1,()) else some (v.2.2.2.1,v1.1,0,())) v else (f13_c0 (false,x0,x1,x2,x3,x4,[],[],())).bind fun v=>Sum.elim (fun v=>some (v.2.1,v.2.2.1,v.1,())) (fun v=>(f38 (v.1,v.2.1,v.2.2.1,v.2.2.2.2.1,())).bind fun v1=>bif v1.2.1 != 0 then some ([],[],v1.2.1,()) else some (v.2.2.2.1,v1.1,0,())) v
def C13:T13:=F13 C12 C31 C38 C13_c0
theorem ok13:FO 13 (E13 C13):=zq3_1 Li264 Lo265 K13 N13 F13 C12 C31 C38 C13_c0 kok13 Tryz.func13 (And.intro k13_c0 trivial)
abbrev T88_c0:=Int×Bool×LqA×LqB×LqC×Unit→Option ((Bool×Unit)⊕(Int×LqA×LqB×LqC×Unit))
def E88_c0 (f:T88_c0):LEnt:=⟨Li268,Lo269,f⟩
abbrev T88:=LqA×LqB×LqC×Int×Unit→Option (Bool×Unit)
def E88 (f:T88):FEnt:=⟨Li0,Lo27,f⟩
def K88 (f118:T118) (f119:T119) (f120:T120):=lk [(118,E118 f118),(119,E119 f119),(120,E120 f120)]
theorem kok88:KOk Tryz.prog (K88 C118 C119 C120):=(kc ok118 (kc ok119 (kc ok120 kn)))
def F88_c0 (f118:T118) (f119:T119) (f120:T120):T88_c0:=fun (x0,x1,x2,x3,x4,_)=>bif x1 then some (Sum.inl (true,())) else (f118 (x2,x3,x4,x0,())).bind fun v=>bif v.1==1 then (f119 (x2,x3,x4,x0,())).bind fun v=>bif !v.2.2.2.2.2.1 then some (Sum.inl (true,())) else bif !v.2.2.2.1 then some (Sum.inl (bif v.2.2.2.2.1 then false else true,())) else some (Sum.inl (false,())) else some (Sum.inr (x0,x2,x3,x4,()))
def C88_c0:T88_c0:=F88_c0 C118 C119 C120
theorem k88_c0:CdOk 0 (subc (code Tryz.f88) [1,0,0,1]) (E88_c0 C88_c0):=zc3 Li268 Lo269 K88 F88_c0 C118 C119 C120 kok88
def N88 (f88_c0:T88_c0):Ann:=(.seq .nil (.seq (.blk (.cut .nil (E88_c0 f88_c0))) .nil))
def F88 (f118:T118) (f119:T119) (f120:T120) (f88_c0:T88_c0):T88:=fun (x0,x1,x2,x3,_)=>bif decide (x3≥33) then (f88_c0 (x3,decide (x3≤126),x0,x1,x2,())).bind fun v=>Sum.elim (fun v=>some (v.1,())) (fun v=>(f120 (v.2.1,v.2.2.1,v.2.2.2.1,v.1,())).bind fun v=>some (v.1,())) v else (f88_c0 (x3,false,x0,x1,x2,())).bind fun v=>Sum.elim (fun v=>some (v.1,())) (fun v=>(f120 (v.2.1,v.2.2.1,v.2.2.2.1,v.1,())).bind fun v=>some (v.1,())) v
def C88:T88:=F88 C118 C119 C120 C88_c0
theorem ok88:FO 88 (E88 C88):=zq3_1 Li0 Lo27 K88 N88 F88 C118 C119 C120 C88_c0 kok88 Tryz.func88 (And.intro k88_c0 trivial)
abbrev T86:=Int×LqA×LqB×LqC×List (Int)×Unit→Option (Bool×LqA×LqB×LqC×List (Int)×Unit)
def E86 (f:T86):FEnt:=⟨Li270,Lo153,f⟩
def K86 (f87:T87) (f88:T88):=lk [(87,E87 f87),(88,E88 f88)]
def F86 (f87:T87) (f88:T88):T86:=fun (x0,x1,x2,x3,x4,_)=>(f87 (x1,x2,x3,x4,x0,())).bind fun v=>bif v.1==2 then some (true,x1,x2,x3,x4,()) else bif v.1==0 then bif decide (0≤x0)&&decide (x0<(↑x4.length:Int)) then (f88 (x1,x2,x3,x4.getD x0.toNat 0,())).bind fun v=>some (bif v.1 then false else true,x1,x2,x3,x4,()) else none else some (false,x1,x2,x3,x4,())
theorem h86 (f87:T87) (f88:T88):AqF (K86 f87 f88) 2 Tryz.f86 .nil Li270 Lo153 (F86 f87 f88):=fun v=>by kernel_rfl
def C86:T86:=F86 C87 C88
theorem ok86:FO 86 (E86 C86) :=
 q0 (kc ok87 (kc ok88 kn)) Tryz.func86 (h86 C87 C88)
abbrev T56_l0:=Int×Int×LqA×LqB×LqC×List (Int)×Unit→Option (Unit⊕(Int×Unit))
def E56_l0 (f:T56_l0):LEnt:=⟨Li271,Lo272,f⟩
abbrev T56:=LqA×LqB×LqC×LqS×Unit→Option (Int×Unit)
def E56 (f:T56):FEnt:=⟨Li15,Lo10,f⟩
def K56 (f34:T34) (f86:T86):=lk [(34,E34 f34),(86,E86 f86)]
theorem kok56:KOk Tryz.prog (K56 C34 C86):=(kc ok34 (kc ok86 kn))
def F56_l0 (f34:T34) (f86:T86):LpF (Int×Int×LqA×LqB×LqC×List (Int)×Unit) (Unit⊕(Int×Unit)):=fun (x0,x1,x2,x3,x4,x5,_)=>bif decide (x1<x0) then (f86 (x1,x2,x3,x4,x5,())).bind fun v=>bif v.1 then some (Sum.inr (Sum.inr (8,()))) else some (Sum.inl (x0,IntKind.i64.wrap (x1+1),v.2.1,v.2.2.1,v.2.2.2.1,v.2.2.2.2.1,())) else some (Sum.inr (Sum.inl ()))
def C56_l0:T56_l0:=loopN (F56_l0 C34 C86) big
theorem k56_l0:LpOk 0 (subc (code Tryz.f56) [1,1,1,1,0,1,0,0]) (E56_l0 C56_l0):=zl2 Li271 Lo272 K56 F56_l0 C34 C86 kok56
def N56 (f56_l0:T56_l0):Ann:=(.seq .nil (.seq .nil (.seq .nil (.seq .nil (.seq (.seq .nil (.blk (.loop (E56_l0 f56_l0)))) .nil)))))
def F56 (f34:T34) (f86:T86) (f56_l0:T56_l0):T56:=fun (x0,x1,x2,x3,_)=>(f34 (x3,())).bind fun v=>bif decide (v.2.1≥0) then some (7,()) else bif (↑(List.length v.1):Int)==0 then some (13,()) else (f56_l0 ((↑(List.length v.1):Int),0,x0,x1,x2,v.1,())).bind fun v=>Sum.elim (fun v=>some (0,())) (fun v=>some (v.1,())) v
def C56:T56:=F56 C34 C86 C56_l0
theorem ok56:FO 56 (E56 C56):=zq2_1 Li15 Lo10 K56 N56 F56 C34 C86 C56_l0 kok56 Tryz.func56 (And.intro k56_l0 trivial)
abbrev T30:=LqA×LqB×LqC×LqS×Unit→Option (LqS×Int×Unit)
def E30 (f:T30):FEnt:=⟨Li15,Lo206,f⟩
def K30 (f34:T34) (f55:T55) (f56:T56) (f57:T57) (f58:T58):=lk [(34,E34 f34),(55,E55 f55),(56,E56 f56),(57,E57 f57),(58,E58 f58)]
def F30 (f34:T34) (f55:T55) (f56:T56) (f57:T57) (f58:T58):T30:=fun (x0,x1,x2,x3,_)=>(f55 (x0,x1,x2,x3,())).bind fun v=>bif !v.2.1 then some ([],7,()) else (f56 (x0,x1,x2,v.1,())).bind fun v1=>bif v1.1 != 0 then some ([],v1.1,()) else (f34 (v.1,())).bind fun v2=>(f57 (x0,x1,x2,v2.1,())).bind fun v3=>bif v3.1 then (f58 (x0,x1,x2,v2.1,())).bind fun v4=>bif !v4.1 then some ([],9,()) else some (v.1,0,()) else some (v.1,0,())
theorem h30 (f34:T34) (f55:T55) (f56:T56) (f57:T57) (f58:T58):AqF (K30 f34 f55 f56 f57 f58) 0 Tryz.f30 .nil Li15 Lo206 (F30 f34 f55 f56 f57 f58):=fun v=>by kernel_rfl
def C30:T30:=F30 C34 C55 C56 C57 C58
theorem ok30:FO 30 (E30 C30) :=
 q0 (kc ok34 (kc ok55 (kc ok56 (kc ok57 (kc ok58 kn))))) Tryz.func30 (h30 C34 C55 C56 C57 C58)
abbrev T61:=Int×Unit→Option (Int×Unit)
def E61 (f:T61):FEnt:=⟨Li21,Lo273,f⟩
def F61:T61:=fun (x0,_)=>bif decide (x0≥65) then bif decide (x0≤90) then some (IntKind.u8.wrap (IntKind.u8.wrap (x0-65)+97),()) else some (x0,()) else some (x0,())
def C61:T61:=F61
theorem ok61:FO 61 (E61 C61):=zq0 Li21 Lo273 KqZ F61 kn Tryz.func61
abbrev T60_l0:=LqS×Int×Int×LqS×Unit→Option (LqS×Unit)
def E60_l0 (f:T60_l0):LEnt:=⟨Li276,Lo277,f⟩
abbrev T60:=LqS×Unit→Option (LqS×Unit)
def E60 (f:T60):FEnt:=⟨Li274,Lo275,f⟩
def K60 (f61:T61):=lk [(61,E61 f61)]
theorem kok60:KOk Tryz.prog (K60 C61):=(kc ok61 kn)
def F60_l0 (f61:T61):LpF (LqS×Int×Int×LqS×Unit) (LqS×Unit):=fun (x0,x1,x2,x3,_)=>bif decide (x2<x1) then bif decide (0≤x2)&&decide (x2<(↑x0.length:Int)) then (f61 ((↑(UInt8.toNat (x0.getD x2.toNat 0)):Int),())).bind fun v=>bif decide (x3.length+[UInt8.ofNat (Int.toNat v.1)].length≤140737488355328/1) then some (Sum.inl (x0,x1,IntKind.i64.wrap (x2+1),x3++[UInt8.ofNat (Int.toNat v.1)],())) else none else none else some (Sum.inr (x3,()))
def C60_l0:T60_l0:=loopN (F60_l0 C61) big
theorem k60_l0:LpOk 0 (subc (code Tryz.f60) [1,1,0,1,0,0]) (E60_l0 C60_l0):=zl1 Li276 Lo277 K60 F60_l0 C61 kok60
def N60 (f60_l0:T60_l0):Ann:=(.seq .nil (.seq .nil (.seq (.seq .nil (.blk (.loop (E60_l0 f60_l0)))) .nil)))
def F60 (f61:T61) (f60_l0:T60_l0):T60:=fun (x0,_)=>(f60_l0 (x0,(↑x0.length:Int),0,[],())).bind fun v=>some (v.1,())
def C60:T60:=F60 C61 C60_l0
theorem ok60:FO 60 (E60 C60):=zq1_1 Li274 Lo275 K60 N60 F60 C61 C60_l0 kok60 Tryz.func60 (And.intro k60_l0 trivial)
abbrev T32:=LqS×Unit→Option (LqS×Unit)
def E32 (f:T32):FEnt:=⟨Li28,Lo255,f⟩
def K32 (f60:T60):=lk [(60,E60 f60)]
def F32 (f60:T60):T32:=fun (x0,_)=>bif decide (x0.length≤9223372036854775807) then (f60 (x0,())).bind fun v=>some (v.1,()) else none
def C32:T32:=F32 C60
theorem ok32:FO 32 (E32 C32):=zq1 Li28 Lo255 K32 F32 C60 (kc ok60 kn) Tryz.func32
abbrev T10_c0:=LqA×LqB×LqC×LqS×LqS×LqS×LqS×Unit→Option (LqS×LqS×Unit)
def E10_c0 (f:T10_c0):LEnt:=⟨Li279,Lo280,f⟩
abbrev T10:=LqA×LqB×LqC×LqS×LqS×Unit→Option (LqS×LqS×Unit)
def E10 (f:T10):FEnt:=⟨Li264,Lo278,f⟩
def K10 (f30:T30) (f31:T31) (f32:T32) (f33:T33):=lk [(30,E30 f30),(31,E31 f31),(32,E32 f32),(33,E33 f33)]
theorem kok10:KOk Tryz.prog (K10 C30 C31 C32 C33):=(kc ok30 (kc ok31 (kc ok32 (kc ok33 kn))))
def F10_c0 (f30:T30) (f31:T31) (f32:T32) (f33:T33):T10_c0:=fun (x0,x1,x2,x3,x4,x5,x6,_)=>(f31 (x4,())).bind fun v=>bif v.1 then (f32 (x4,())).bind fun v=>some (x3,v.1,()) else (f33 (x0,x1,x2,x4,())).bind fun v=>bif v.2.1==0 then some (x3,v.1,()) else some (x3,x4,())
theorem h10_c0 (f30:T30) (f31:T31) (f32:T32) (f33:T33):AqC (K10 f30 f31 f32 f33) 0 (subc (code Tryz.f10) [1,1]) .nil Li279 Lo280 (F10_c0 f30 f31 f32 f33):=fun v=>by kernel_rfl
def C10_c0:T10_c0:=F10_c0 C30 C31 C32 C33
theorem k10_c0:CdOk 0 (subc (code Tryz.f10) [1,1]) (E10_c0 C10_c0) :=
 frc kok10 (h10_c0 C30 C31 C32 C33)
def N10 (f10_c0:T10_c0):Ann:=(.seq .nil (.cut .nil (E10_c0 f10_c0)))
def F10 (f30:T30) (f31:T31) (f32:T32) (f33:T33) (f10_c0:T10_c0):T10:=fun (x0,x1,x2,x3,x4,_)=>(f30 (x0,x1,x2,x3,())).bind fun v=>bif v.2.1==0 then (f10_c0 (x0,x1,x2,v.1,x4,[],[],())).bind fun v=>some (v.1,v.2.1,()) else (f10_c0 (x0,x1,x2,x3,x4,[],[],())).bind fun v=>some (v.1,v.2.1,())
theorem h10 (f30:T30) (f31:T31) (f32:T32) (f33:T33) (f10_c0:T10_c0):AqF (K10 f30 f31 f32 f33) 0 Tryz.f10 (N10 f10_c0) Li264 Lo278 (F10 f30 f31 f32 f33 f10_c0):=fun v=>by kernel_rfl
def C10:T10:=F10 C30 C31 C32 C33 C10_c0
theorem ok10:FO 10 (E10 C10) :=
 qo kok10 Tryz.func10 (And.intro k10_c0 trivial) (h10 C30 C31 C32 C33 C10_c0)
abbrev T171_l0:=Int×(LqS×Int)×Unit→Option (Int×Unit)
def E171_l0 (f:T171_l0):LEnt:=⟨Li281,Lo282,f⟩
abbrev T171:=LqS×Unit→Option (Int×Unit)
def E171 (f:T171):FEnt:=⟨Li28,Lo10,f⟩
def F171_l0:LpF (Int×(LqS×Int)×Unit) (Int×Unit):=fun (x0,x1,_)=>bif decide (Int.toNat x1.2<List.length x1.1) then some (Sum.inl (IntKind.i64.wrap (x0+1),(x1.1,(↑(Int.toNat x1.2+(decR x1.1 (Int.toNat x1.2)).2):Int)),())) else some (Sum.inr (x0,()))
def C171_l0:T171_l0:=loopN (F171_l0) big
theorem k171_l0:LpOk 0 (subc (code Tryz.f171) [1,0,1,0,0]) (E171_l0 C171_l0):=zl0 Li281 Lo282 KqZ F171_l0 kn
def N171 (f171_l0:T171_l0):Ann:=(.seq .nil (.seq (.seq .nil (.blk (.loop (E171_l0 f171_l0)))) .nil))
def F171 (f171_l0:T171_l0):T171:=fun (x0,_)=>(f171_l0 (0,(x0,(↑0:Int)),())).bind fun v=>some (v.1,())
def C171:T171:=F171 C171_l0
theorem ok171:FO 171 (E171 C171):=zq0_1 Li28 Lo10 KqZ N171 F171 C171_l0 kn Tryz.func171 (And.intro k171_l0 trivial)
abbrev T221:=LqS×Unit→Option (Int×Int×Unit)
def E221 (f:T221):FEnt:=⟨Li28,Lo283,f⟩
def F221:T221:=fun (x0,_)=>bif decide ((↑x0.length:Int)<1) then some (65533,0,()) else bif decide (0<(↑x0.length:Int)) then none else none
def C221:T221:=F221
theorem ok221:FO 221 (E221 C221):=zq0 Li28 Lo283 KqZ F221 kn Tryz.func221
abbrev T172_c0:=LqS×Bool×Unit→Option ((Int×Int×Unit)⊕(Int×Int×Unit))
def E172_c0 (f:T172_c0):LEnt:=⟨Li284,Lo285,f⟩
abbrev T172:=LqS×Unit→Option (Int×Int×Unit)
def E172 (f:T172):FEnt:=⟨Li28,Lo283,f⟩
def K172 (f221:T221):=lk [(221,E221 f221)]
theorem kok172:KOk Tryz.prog (K172 C221):=(kc ok221 kn)
def F172_c0 (f221:T221):T172_c0:=fun (x0,x1,_)=>bif x1 then bif decide (0<(↑x0.length:Int)) then some (Sum.inl (IntKind.i32.wrap (↑(x0.getD 0 0).toNat:Int),1,())) else none else (f221 (x0,())).bind fun v=>some (Sum.inr (v.1,v.2.1,()))
def C172_c0:T172_c0:=F172_c0 C221
theorem k172_c0:CdOk 0 (subc (code Tryz.f172) [1,0,1]) (E172_c0 C172_c0):=zc1 Li284 Lo285 K172 F172_c0 C221 kok172
def N172 (f172_c0:T172_c0):Ann:=(.seq .nil (.seq (.cut .nil (E172_c0 f172_c0)) .nil))
def F172 (f221:T221) (f172_c0:T172_c0):T172:=fun (x0,_)=>bif !x0==[] then bif decide (0<(↑x0.length:Int)) then (f172_c0 (x0,decide ((↑(x0.getD 0 0).toNat:Int)<128),())).bind fun v=>Sum.elim (fun v=>some (v.1,v.2.1,())) (fun v=>some (v.1,v.2.1,())) v else none else (f172_c0 (x0,false,())).bind fun v=>Sum.elim (fun v=>some (v.1,v.2.1,())) (fun v=>some (v.1,v.2.1,())) v
def C172:T172:=F172 C221 C172_c0
theorem ok172:FO 172 (E172 C172):=zq1_1 Li28 Lo283 K172 N172 F172 C221 C172_c0 kok172 Tryz.func172 (And.intro k172_c0 trivial)
abbrev T137_l0:=LqS×Int×Int×List (LqS)×Unit→Option (LqS×Int×List (LqS)×Unit)
def E137_l0 (f:T137_l0):LEnt:=⟨Li287,Lo288,f⟩
abbrev T137_c0:=LqS×Int×Unit→Option (List (LqS)×Unit)
def E137_c0 (f:T137_c0):LEnt:=⟨Li289,Lo290,f⟩
abbrev T137:=LqS×Int×Unit→Option (List (LqS)×Unit)
def E137 (f:T137):FEnt:=⟨Li195,Lo286,f⟩
def K137 (f171:T171) (f172:T172):=lk [(171,E171 f171),(172,E172 f172)]
theorem kok137:KOk Tryz.prog (K137 C171 C172):=(kc ok171 (kc ok172 kn))
def F137_l0 (f171:T171) (f172:T172):LpF (LqS×Int×Int×List (LqS)×Unit) (LqS×Int×List (LqS)×Unit):=fun (x0,x1,x2,x3,_)=>bif decide (x2<IntKind.i64.wrap (x1-1)) then (f172 (x0,())).bind fun v=>bif decide (0≤v.2.1)&&decide (v.2.1≤(↑x0.length:Int)) then bif decide (0≤x2)&&decide (x2<(↑x3.length:Int)) then bif decide (0≤v.2.1)&&decide (v.2.1≤(↑x0.length:Int)) then some (Sum.inl (List.drop (Int.toNat v.2.1) x0,x1,IntKind.i64.wrap (x2+1),x3.set x2.toNat (List.take (Int.toNat v.2.1) x0),())) else none else none else none else some (Sum.inr (x0,x1,x3,()))
def C137_l0:T137_l0:=loopN (F137_l0 C171 C172) big
theorem k137_l0:LpOk 0 (subc (code Tryz.f137) [1,1,1,1,0,1,0,0]) (E137_l0 C137_l0):=zl2 Li287 Lo288 K137 F137_l0 C171 C172 kok137
def N137_c0 (f137_l0:T137_l0):Ann:=(.seq .nil (.seq (.seq .nil (.blk (.loop (E137_l0 f137_l0)))) .nil))
def F137_c0 (f171:T171) (f172:T172) (f137_l0:T137_l0):T137_c0:=fun (x0,x1,_)=>bif decide (0≤x1)&&(decide (x1=x1)&&(decide ((↑16:Int)*x1≤281474976710656)&&decide (x1≤140737488355328))) then (f137_l0 (x0,x1,0,List.replicate x1.toNat [],())).bind fun v=>bif decide (v.2.1>0) then bif decide (0≤IntKind.i64.wrap (v.2.1-1))&&decide (IntKind.i64.wrap (v.2.1-1)<(↑(List.length v.2.2.1):Int)) then some (List.set v.2.2.1 (IntKind.i64.wrap (v.2.1-1)).toNat v.1,()) else none else some (v.2.2.1,()) else none
theorem h137_c0 (f171:T171) (f172:T172) (f137_l0:T137_l0):AqC (K137 f171 f172) 0 (subc (code Tryz.f137) [1,1,1]) (N137_c0 f137_l0) Li289 Lo290 (F137_c0 f171 f172 f137_l0):=fun v=>by kernel_rfl
def C137_c0:T137_c0:=F137_c0 C171 C172 C137_l0
theorem k137_c0:CdOk 0 (subc (code Tryz.f137) [1,1,1]) (E137_c0 C137_c0) :=
 frd kok137 (And.intro k137_l0 trivial) (h137_c0 C171 C172 C137_l0)
def N137 (f137_c0:T137_c0):Ann:=(.seq .nil (.seq .nil (.cut .nil (E137_c0 f137_c0))))
def F137 (f171:T171) (f172:T172) (f137_c0:T137_c0):T137:=fun (x0,x1,_)=>(f171 (x0,())).bind fun v=>bif decide (x1<0) then (f137_c0 (x0,v.1,())).bind fun v=>some (v.1,()) else bif decide (x1>v.1) then (f137_c0 (x0,v.1,())).bind fun v=>some (v.1,()) else (f137_c0 (x0,x1,())).bind fun v=>some (v.1,())
def C137:T137:=F137 C171 C172 C137_c0
theorem ok137:FO 137 (E137 C137):=zq2_1 Li195 Lo286 K137 N137 F137 C171 C172 C137_c0 kok137 Tryz.func137 (And.intro k137_c0 trivial)
abbrev T139:=LqS×LqS×Unit→Option (Int×Unit)
def E139 (f:T139):FEnt:=⟨Li112,Lo10,f⟩
def K139 (f164:T164):=lk [(164,E164 f164)]
def F139 (f164:T164):T139:=fun (x0,x1,_)=>(f164 (x0,x1,())).bind fun v=>some (v.1,())
def C139:T139:=F139 C164
theorem ok139:FO 139 (E139 C139):=zq1 Li112 Lo10 K139 F139 C164 (kc ok164 kn) Tryz.func139
abbrev T138_l0:=LqS×LqS×Int×Unit→Option (Int×Unit)
def E138_l0 (f:T138_l0):LEnt:=⟨Li291,Lo292,f⟩
abbrev T138:=LqS×LqS×Unit→Option (Int×Unit)
def E138 (f:T138):FEnt:=⟨Li112,Lo10,f⟩
def K138 (f139:T139) (f171:T171) (f173:T173):=lk [(139,E139 f139),(171,E171 f171),(173,E173 f173)]
theorem kok138:KOk Tryz.prog (K138 C139 C171 C173):=(kc ok139 (kc ok171 (kc ok173 kn)))
def F138_l0 (f139:T139) (f171:T171) (f173:T173):LpF (LqS×LqS×Int×Unit) (Int×Unit):=fun (x0,x1,x2,_)=>(f139 (x0,x1,())).bind fun v=>bif v.1 == -1 then some (Sum.inr (x2,())) else bif decide (0≤IntKind.i64.wrap (v.1+(↑x1.length:Int)))&&decide (IntKind.i64.wrap (v.1+(↑x1.length:Int))≤(↑x0.length:Int)) then some (Sum.inl (List.drop (IntKind.i64.wrap (v.1+(↑x1.length:Int))).toNat x0,x1,IntKind.i64.wrap (x2+1),())) else none
theorem h138_l0 (f139:T139) (f171:T171) (f173:T173):AqL (K138 f139 f171 f173) 0 (subc (code Tryz.f138) [1,1,1,1,0,0]) .nil Li291 Lo292 (F138_l0 f139 f171 f173):=fun v=>by kernel_rfl
def C138_l0:T138_l0:=loopN (F138_l0 C139 C171 C173) big
theorem k138_l0:LpOk 0 (subc (code Tryz.f138) [1,1,1,1,0,0]) (E138_l0 C138_l0) :=
 frl kok138 (h138_l0 C139 C171 C173)
def N138 (f138_l0:T138_l0):Ann:=(.seq .nil (.seq .nil (.seq .nil (.seq .nil (.blk (.loop (E138_l0 f138_l0)))))))
def F138 (f139:T139) (f171:T171) (f173:T173) (f138_l0:T138_l0):T138:=fun (x0,x1,_)=>bif (↑x1.length:Int)==0 then (f171 (x0,())).bind fun v=>some (IntKind.i64.wrap (v.1+1),()) else bif (↑x1.length:Int)==1 then bif decide (0<(↑x1.length:Int)) then (f173 (x0,(↑(x1.getD 0 0).toNat:Int),())).bind fun v=>some (v.1,()) else none else (f138_l0 (x0,x1,0,())).bind fun v=>some (v.1,())
def C138:T138:=F138 C139 C171 C173 C138_l0
theorem ok138:FO 138 (E138 C138):=zq3_1 Li112 Lo10 K138 N138 F138 C139 C171 C173 C138_l0 kok138 Tryz.func138 (And.intro k138_l0 trivial)
abbrev T112_l0:=LqS×LqS×Int×Int×Int×List (LqS)×Unit→Option (LqS×Int×List (LqS)×Unit)
def E112_l0 (f:T112_l0):LEnt:=⟨Li294,Lo295,f⟩
abbrev T112_c0:=LqS×LqS×Int×Int×Unit→Option (List (LqS)×Unit)
def E112_c0 (f:T112_c0):LEnt:=⟨Li296,Lo297,f⟩
abbrev T112:=LqS×LqS×Int×Int×Unit→Option (List (LqS)×Unit)
def E112 (f:T112):FEnt:=⟨Li293,Lo286,f⟩
def K112 (f137:T137) (f138:T138) (f139:T139):=lk [(137,E137 f137),(138,E138 f138),(139,E139 f139)]
theorem kok112:KOk Tryz.prog (K112 C137 C138 C139):=(kc ok137 (kc ok138 (kc ok139 kn)))
def F112_l0 (f137:T137) (f138:T138) (f139:T139):LpF (LqS×LqS×Int×Int×Int×List (LqS)×Unit) (LqS×Int×List (LqS)×Unit):=fun (x0,x1,x2,x3,x4,x5,_)=>bif decide (x4<x3) then (f139 (x0,x1,())).bind fun v=>bif decide (v.1<0) then some (Sum.inr (x0,x4,x5,())) else bif decide (0≤IntKind.i64.wrap (v.1+x2))&&decide (IntKind.i64.wrap (v.1+x2)≤(↑x0.length:Int)) then bif decide (0≤x4)&&decide (x4<(↑x5.length:Int)) then bif decide (0≤IntKind.i64.wrap (v.1+(↑x1.length:Int)))&&decide (IntKind.i64.wrap (v.1+(↑x1.length:Int))≤(↑x0.length:Int)) then some (Sum.inl (List.drop (IntKind.i64.wrap (v.1+(↑x1.length:Int))).toNat x0,x1,x2,x3,IntKind.i64.wrap (x4+1),x5.set x4.toNat (List.take (IntKind.i64.wrap (v.1+x2)).toNat x0),())) else none else none else none else some (Sum.inr (x0,x4,x5,()))
theorem h112_l0 (f137:T137) (f138:T138) (f139:T139):AqL (K112 f137 f138 f139) 0 (subc (code Tryz.f112) [1,1,1,1,1,1,1,1,0,0,0]) .nil Li294 Lo295 (F112_l0 f137 f138 f139):=fun v=>by kernel_rfl
def C112_l0:T112_l0:=loopN (F112_l0 C137 C138 C139) big
theorem k112_l0:LpOk 0 (subc (code Tryz.f112) [1,1,1,1,1,1,1,1,0,0,0]) (E112_l0 C112_l0) :=
 frl kok112 (h112_l0 C137 C138 C139)
def N112_c0 (f112_l0:T112_l0):Ann:=(.seq .nil (.seq .nil (.seq .nil (.seq .nil (.seq (.blk (.loop (E112_l0 f112_l0))) .nil)))))
def F112_c0 (f137:T137) (f138:T138) (f139:T139) (f112_l0:T112_l0):T112_c0:=fun (x0,x1,x2,x3,_)=>bif decide (0≤if IntKind.i64.wrap ((↑x0.length:Int)+1)<x3 then IntKind.i64.wrap ((↑x0.length:Int)+1) else x3)&&(decide ((if IntKind.i64.wrap ((↑x0.length:Int)+1)<x3 then IntKind.i64.wrap ((↑x0.length:Int)+1) else x3)=if IntKind.i64.wrap ((↑x0.length:Int)+1)<x3 then IntKind.i64.wrap ((↑x0.length:Int)+1) else x3)&&(decide (((↑16:Int)*if IntKind.i64.wrap ((↑x0.length:Int)+1)<x3 then IntKind.i64.wrap ((↑x0.length:Int)+1) else x3)≤281474976710656)&&decide ((if IntKind.i64.wrap ((↑x0.length:Int)+1)<x3 then IntKind.i64.wrap ((↑x0.length:Int)+1) else x3)≤140737488355328))) then (f112_l0 (x0,x1,x2,IntKind.i64.wrap ((if IntKind.i64.wrap ((↑x0.length:Int)+1)<x3 then IntKind.i64.wrap ((↑x0.length:Int)+1) else x3)-1),0,List.replicate (if IntKind.i64.wrap ((↑x0.length:Int)+1)<x3 then IntKind.i64.wrap ((↑x0.length:Int)+1) else x3).toNat [],())).bind fun v=>bif decide (0≤v.2.1)&&decide (v.2.1<(↑(List.length v.2.2.1):Int)) then bif decide (0≤IntKind.i64.wrap (v.2.1+1))&&decide (IntKind.i64.wrap (v.2.1+1)≤(↑(List.set v.2.2.1 (Int.toNat v.2.1) v.1).length:Int)) then some (List.take (IntKind.i64.wrap (v.2.1+1)).toNat (List.set v.2.2.1 (Int.toNat v.2.1) v.1),()) else none else none else none
theorem h112_c0 (f137:T137) (f138:T138) (f139:T139) (f112_l0:T112_l0):AqC (K112 f137 f138 f139) 0 (subc (code Tryz.f112) [1,1,1,1]) (N112_c0 f112_l0) Li296 Lo297 (F112_c0 f137 f138 f139 f112_l0):=fun v=>by kernel_rfl
def C112_c0:T112_c0:=F112_c0 C137 C138 C139 C112_l0
theorem k112_c0:CdOk 0 (subc (code Tryz.f112) [1,1,1,1]) (E112_c0 C112_c0) :=
 frd kok112 (And.intro k112_l0 trivial) (h112_c0 C137 C138 C139 C112_l0)
def N112 (f112_c0:T112_c0):Ann:=(.seq .nil (.seq .nil (.seq .nil (.cut .nil (E112_c0 f112_c0)))))
def F112 (f137:T137) (f138:T138) (f139:T139) (f112_c0:T112_c0):T112:=fun (x0,x1,x2,x3,_)=>bif x3==0 then some ([],()) else bif x1==[] then (f137 (x0,x3,())).bind fun v=>some (v.1,()) else bif decide (x3<0) then (f138 (x0,x1,())).bind fun v=>(f112_c0 (x0,x1,x2,IntKind.i64.wrap (v.1+1),())).bind fun v=>some (v.1,()) else (f112_c0 (x0,x1,x2,x3,())).bind fun v=>some (v.1,())
def C112:T112:=F112 C137 C138 C139 C112_c0
theorem ok112:FO 112 (E112 C112):=zq3_1 Li293 Lo286 K112 N112 F112 C137 C138 C139 C112_c0 kok112 Tryz.func112 (And.intro k112_c0 trivial)
abbrev T79:=LqS×LqS×Unit→Option (List (LqS)×Unit)
def E79 (f:T79):FEnt:=⟨Li112,Lo286,f⟩
def K79 (f112:T112):=lk [(112,E112 f112)]
def F79 (f112:T112):T79:=fun (x0,x1,_)=>(f112 (x0,x1,0,-1,())).bind fun v=>some (v.1,())
def C79:T79:=F79 C112
theorem ok79:FO 79 (E79 C79):=zq1 Li112 Lo286 K79 F79 C112 (kc ok112 kn) Tryz.func79
abbrev T80_l0:=LqS×Int×Int×Unit→Option ((LqS×Unit)⊕(Bool×Unit))
def E80_l0 (f:T80_l0):LEnt:=⟨Li298,Lo299,f⟩
abbrev T80:=LqS×Unit→Option (Bool×Unit)
def E80 (f:T80):FEnt:=⟨Li28,Lo27,f⟩
def K80 (f100:T100):=lk [(100,E100 f100)]
theorem kok80:KOk Tryz.prog (K80 C100):=(kc ok100 kn)
def F80_l0 (f100:T100):LpF (LqS×Int×Int×Unit) ((LqS×Unit)⊕(Bool×Unit)):=fun (x0,x1,x2,_)=>bif decide (x2<x1) then bif decide (0≤x2)&&decide (x2<(↑x0.length:Int)) then (f100 ((↑(x0.getD x2.toNat 0).toNat:Int),())).bind fun v=>bif !v.1 then some (Sum.inr (Sum.inr (false,()))) else some (Sum.inl (x0,x1,IntKind.i64.wrap (x2+1),())) else none else some (Sum.inr (Sum.inl (x0,())))
def C80_l0:T80_l0:=loopN (F80_l0 C100) big
theorem k80_l0:LpOk 0 (subc (code Tryz.f80) [1,0,1,0,0]) (E80_l0 C80_l0):=zl1 Li298 Lo299 K80 F80_l0 C100 kok80
def N80 (f80_l0:T80_l0):Ann:=(.seq .nil (.seq (.seq .nil (.blk (.loop (E80_l0 f80_l0)))) .nil))
def F80 (f100:T100) (f80_l0:T80_l0):T80:=fun (x0,_)=>(f80_l0 (x0,(↑x0.length:Int),0,())).bind fun v=>Sum.elim (fun v=>some (bif v.1==[] then false else true,())) (fun v=>some (v.1,())) v
def C80:T80:=F80 C100 C80_l0
theorem ok80:FO 80 (E80 C80):=zq1_1 Li28 Lo27 K80 N80 F80 C100 C80_l0 kok80 Tryz.func80 (And.intro k80_l0 trivial)
abbrev T53_l0:=List (LqS)×Int×Int×Unit→Option (Unit⊕(Bool×Unit))
def E53_l0 (f:T53_l0):LEnt:=⟨Li300,Lo301,f⟩
abbrev T53:=LqS×Unit→Option (Bool×Unit)
def E53 (f:T53):FEnt:=⟨Li28,Lo27,f⟩
def K53 (f79:T79) (f80:T80):=lk [(79,E79 f79),(80,E80 f80)]
theorem kok53:KOk Tryz.prog (K53 C79 C80):=(kc ok79 (kc ok80 kn))
def F53_l0 (f79:T79) (f80:T80):LpF (List (LqS)×Int×Int×Unit) (Unit⊕(Bool×Unit)):=fun (x0,x1,x2,_)=>bif decide (x2<x1) then bif decide (0≤x2)&&decide (x2<(↑x0.length:Int)) then (f80 (x0.getD x2.toNat [],())).bind fun v=>bif !v.1 then some (Sum.inr (Sum.inr (false,()))) else some (Sum.inl (x0,x1,IntKind.i64.wrap (x2+1),())) else none else some (Sum.inr (Sum.inl ()))
def C53_l0:T53_l0:=loopN (F53_l0 C79 C80) big
theorem k53_l0:LpOk 0 (subc (code Tryz.f53) [1,0,1,0,0]) (E53_l0 C53_l0):=zl2 Li300 Lo301 K53 F53_l0 C79 C80 kok53
def N53 (f53_l0:T53_l0):Ann:=(.seq .nil (.seq (.seq .nil (.blk (.loop (E53_l0 f53_l0)))) .nil))
def F53 (f79:T79) (f80:T80) (f53_l0:T53_l0):T53:=fun (x0,_)=>(f79 (x0,[46],())).bind fun v=>(f53_l0 (v.1,(↑(List.length v.1):Int),0,())).bind fun v=>Sum.elim (fun v=>some (true,())) (fun v=>some (v.1,())) v
def C53:T53:=F53 C79 C80 C53_l0
theorem ok53:FO 53 (E53 C53):=zq2_1 Li28 Lo27 K53 N53 F53 C79 C80 C53_l0 kok53 Tryz.func53 (And.intro k53_l0 trivial)
abbrev T25:=LqS×LqS×Unit→Option (LqS×Unit)
def E25 (f:T25):FEnt:=⟨Li302,Lo255,f⟩
def K25 (f53:T53) (f54:T54):=lk [(53,E53 f53),(54,E54 f54)]
def F25 (f53:T53) (f54:T54):T25:=fun (x0,x1,_)=>(f53 (x0,())).bind fun v=>bif !v.1 then (f54 (1,x0,0,())).bind fun v=>bif decide (List.length v.1+[64].length≤9223372036854775807) then bif decide ((v.1++[64]).length+x1.length≤9223372036854775807) then some (v.1++[64]++x1,()) else none else none else bif decide (x0.length+[64].length≤9223372036854775807) then bif decide ((x0++[64]).length+x1.length≤9223372036854775807) then some (x0++[64]++x1,()) else none else none
def C25:T25:=F25 C53 C54
theorem ok25:FO 25 (E25 C25):=zq2 Li302 Lo255 K25 F25 C53 C54 (kc ok53 (kc ok54 kn)) Tryz.func25
abbrev T8:=LqS×LqS×Unit→Option (Bool×Unit)
def E8 (f:T8):FEnt:=⟨Li302,Lo27,f⟩
def F8:T8:=fun (x0,x1,_)=>bif decide ((↑x0.length:Int)≤150) then some (decide ((↑x1.length:Int)≤200),()) else some (false,())
def C8:T8:=F8
theorem ok8:FO 8 (E8 C8):=zq0 Li302 Lo27 KqZ F8 kn Tryz.func8
abbrev T67:=Int×LqS×Int×LqS×Unit→Option (Bool×Unit)
def E67 (f:T67):FEnt:=⟨Li303,Lo27,f⟩
def F67:T67:=fun (x0,x1,x2,x3,_)=>bif x0==2 then some (x1==x3,()) else some (false,())
def C67:T67:=F67
theorem ok67:FO 67 (E67 C67):=zq0 Li303 Lo27 KqZ F67 kn Tryz.func67
abbrev T69:=Int×LqS×Int×Unit→Option (Bool×Unit)
def E69 (f:T69):FEnt:=⟨Li258,Lo27,f⟩
def F69:T69:=fun (x0,x1,x2,_)=>bif x0==4 then some (true,()) else some (x0==3,())
def C69:T69:=F69
theorem ok69:FO 69 (E69 C69):=zq0 Li258 Lo27 KqZ F69 kn Tryz.func69
abbrev T108_l0:=LqD×Int×Int×Unit→Option (Unit⊕(Int×Unit))
def E108_l0 (f:T108_l0):LEnt:=⟨m4x,Lo157,f⟩
abbrev T108:=LqD×Unit→Option (Int×Unit)
def E108 (f:T108):FEnt:=⟨Li304,Lo10,f⟩
def K108 (f69:T69):=lk [(69,E69 f69)]
theorem kok108:KOk Tryz.prog (K108 C69):=(kc ok69 kn)
def F108_l0 (f69:T69):LpF (LqD×Int×Int×Unit) (Unit⊕(Int×Unit)):=fun (x0,x1,x2,_)=>bif decide (x2<x1) then bif decide (0≤x2)&&decide (x2<(↑x0.length:Int)) then (f69 ((x0.getD x2.toNat (0,([],0))).1,(x0.getD x2.toNat (0,([],0))).2.1,(x0.getD x2.toNat (0,([],0))).2.2,())).bind fun v=>bif v.1 then some (Sum.inr (Sum.inr (x2,()))) else some (Sum.inl (x0,x1,IntKind.i64.wrap (x2+1),())) else none else some (Sum.inr (Sum.inl ()))
def C108_l0:T108_l0:=loopN (F108_l0 C69) big
theorem k108_l0:LpOk 0 (subc (code Tryz.f108) [1,0,1,0,0]) (E108_l0 C108_l0):=zl1 m4x Lo157 K108 F108_l0 C69 kok108
def N108 (f108_l0:T108_l0):Ann:=(.seq .nil (.seq (.seq .nil (.blk (.loop (E108_l0 f108_l0)))) .nil))
def F108 (f69:T69) (f108_l0:T108_l0):T108:=fun (x0,_)=>(f108_l0 (x0,(↑x0.length:Int),0,())).bind fun v=>Sum.elim (fun v=>some (-1,())) (fun v=>some (v.1,())) v
def C108:T108:=F108 C69 C108_l0
theorem ok108:FO 108 (E108 C108):=zq1_1 Li304 Lo10 K108 N108 F108 C69 C108_l0 kok108 Tryz.func108 (And.intro k108_l0 trivial)
abbrev T68:=LqD×Unit→Option (Bool×Unit)
def E68 (f:T68):FEnt:=⟨Li304,Lo27,f⟩
def K68 (f108:T108):=lk [(108,E108 f108)]
def F68 (f108:T108):T68:=fun (x0,_)=>(f108 (x0,())).bind fun v=>some (decide (v.1≥0),())
def C68:T68:=F68 C108
theorem ok68:FO 68 (E68 C68):=zq1 Li304 Lo27 K68 F68 C108 (kc ok108 kn) Tryz.func68
abbrev T40:=Bool×LqS×LqS×Unit→Option (Bool×Unit)
def E40 (f:T40):FEnt:=⟨m4q,Lo27,f⟩
def K40 (f32:T32):=lk [(32,E32 f32)]
def F40 (f32:T32):T40:=fun (x0,x1,x2,_)=>bif !x0 then bif x2==[] then (f32 (x1,())).bind fun v=>some (v.1==[112,111,115,116,109,97,115,116,101,114],()) else some (false,()) else some (false,())
def C40:T40:=F40 C32
theorem ok40:FO 40 (E40 C40):=zq1 m4q Lo27 K40 F40 C32 (kc ok32 kn) Tryz.func40
abbrev T39_c0:=LqA×LqB×LqC×Bool×LqS×LqS×Bool×LqS×LqS×Unit→Option (Int×Bool×LqS×LqS×Unit)
def E39_c0 (f:T39_c0):LEnt:=⟨m4y,m4t,f⟩
abbrev T39_c1:=Int×LqD×Int×LqA×LqB×LqC×Bool×LqS×LqS×Bool×LqS×LqS×Unit→Option ((Int×Bool×LqS×LqS×Unit)⊕(Int×Bool×LqS×LqS×Unit))
def E39_c1 (f:T39_c1):LEnt:=⟨m4u,m5b,f⟩
abbrev T39_c2:=Int×LqD×Int×LqA×LqB×LqC×Bool×LqS×LqS×Bool×LqS×LqS×Unit→Option ((Int×Bool×LqS×LqS×Unit)⊕(Int×Bool×LqS×LqS×Unit))
def E39_c2 (f:T39_c2):LEnt:=⟨m4u,m5c,f⟩
abbrev T39_g0:=Int×Bool×LqS×LqS×Unit→Option (Int×Bool×LqS×LqS×Unit)
def E39_g0 (f:T39_g0):LEnt:=⟨m4r,m4t,f⟩
abbrev T39:=LqA×LqB×LqC×LqS×Unit→Option (Bool×LqS×LqS×Int×Unit)
def E39 (f:T39):FEnt:=⟨Li15,m4v,f⟩
def K39 (f11:T11) (f24:T24) (f37:T37) (f40:T40) (f67:T67) (f68:T68):=lk [(11,E11 f11),(24,E24 f24),(37,E37 f37),(40,E40 f40),(67,E67 f67),(68,E68 f68)]
theorem kok39:KOk Tryz.prog (K39 C11 C24 C37 C40 C67 C68):=(kc ok11 (kc ok24 (kc ok37 (kc ok40 (kc ok67 (kc ok68 kn))))))
def F39_c0 (f11:T11) (f24:T24) (f37:T37) (f40:T40) (f67:T67) (f68:T68):T39_c0:=fun (x0,x1,x2,x3,x4,x5,x6,x7,x8,_)=>(f11 (x0,x1,x2,x7,x8,())).bind fun v=>bif v.1==0 then some (0,x6,x7,x8,()) else some (v.1,false,[],[],())
theorem h39_c0 (f11:T11) (f24:T24) (f37:T37) (f40:T40) (f67:T67) (f68:T68):AqC (K39 f11 f24 f37 f40 f67 f68) 0 (subc (code Tryz.f39) [1,0,1,1,1,1,1,1,1,1,1,1,1]) .nil m4y m4t (F39_c0 f11 f24 f37 f40 f67 f68):=fun v=>by kernel_rfl
def C39_c0:T39_c0:=F39_c0 C11 C24 C37 C40 C67 C68
theorem k39_c0:CdOk 0 (subc (code Tryz.f39) [1,0,1,1,1,1,1,1,1,1,1,1,1]) (E39_c0 C39_c0) :=
 frc kok39 (h39_c0 C11 C24 C37 C40 C67 C68)
def N39_c1 (f39_c0:T39_c0):Ann:=(.cut .nil (E39_c0 f39_c0))
def F39_c1 (f11:T11) (f24:T24) (f37:T37) (f40:T40) (f67:T67) (f68:T68) (f39_c0:T39_c0):T39_c1:=fun (x0,x1,x2,x3,x4,x5,x6,x7,x8,x9,x10,x11,_)=>bif decide (0≤x0)&&decide (x0≤(↑x1.length:Int)) then bif decide (1≤x0) then (f24 (List.drop 1 (List.take x0.toNat x1),())).bind fun v=>bif !v.2.2.2.1 then some (Sum.inl (x2,x6,x7,x8,())) else bif v.2.2.1 != IntKind.i64.wrap (x0-1) then some (Sum.inl (x2,x6,x7,x8,())) else (f39_c0 (x3,x4,x5,x6,x7,x8,x9,v.1,v.2.1,())).bind fun v=>some (Sum.inr (v.1,v.2.1,v.2.2.1,v.2.2.2.1,())) else none else none
theorem h39_c1 (f11:T11) (f24:T24) (f37:T37) (f40:T40) (f67:T67) (f68:T68) (f39_c0:T39_c0):AqC (K39 f11 f24 f37 f40 f67 f68) 0 (subc (code Tryz.f39) [1,0,1,1,1,1,1,1,1,1,1,1]) (N39_c1 f39_c0) m4u m5b (F39_c1 f11 f24 f37 f40 f67 f68 f39_c0):=fun v=>by kernel_rfl
def C39_c1:T39_c1:=F39_c1 C11 C24 C37 C40 C67 C68 C39_c0
theorem k39_c1:CdOk 0 (subc (code Tryz.f39) [1,0,1,1,1,1,1,1,1,1,1,1]) (E39_c1 C39_c1) :=
 frd kok39 (And.intro k39_c0 trivial) (h39_c1 C11 C24 C37 C40 C67 C68 C39_c0)
def N39_c2 (f39_c1:T39_c1):Ann:=(.seq .nil (.seq .nil (.cut .nil (E39_c1 f39_c1))))
def F39_c2 (f11:T11) (f24:T24) (f37:T37) (f40:T40) (f67:T67) (f68:T68) (f39_c1:T39_c1):T39_c2:=fun (x0,x1,x2,x3,x4,x5,x6,x7,x8,x9,x10,x11,_)=>bif x0==1 then some (Sum.inl (0,true,[],[],())) else bif decide (1<(↑x1.length:Int)) then bif x0==2 then bif decide (1<(↑x1.length:Int)) then bif (x1.getD 1 (0,([],0))).1==0 then (f40 (x9,(x1.getD 1 (0,([],0))).2.1,x11,())).bind fun v=>bif v.1 then some (Sum.inl (0,x9,(x1.getD 1 (0,([],0))).2.1,x11,())) else (f39_c1 (x0,x1,x2,x3,x4,x5,x6,x7,x8,x9,(x1.getD 1 (0,([],0))).2.1,x11,())).bind fun v=>Sum.elim (fun v=>some (Sum.inr (v.1,v.2.1,v.2.2.1,v.2.2.2.1,()))) (fun v=>some (Sum.inl (v.1,v.2.1,v.2.2.1,v.2.2.2.1,()))) v else (f39_c1 (x0,x1,x2,x3,x4,x5,x6,x7,x8,x9,(x1.getD 1 (0,([],0))).2.1,x11,())).bind fun v=>Sum.elim (fun v=>some (Sum.inr (v.1,v.2.1,v.2.2.1,v.2.2.2.1,()))) (fun v=>some (Sum.inl (v.1,v.2.1,v.2.2.1,v.2.2.2.1,()))) v else none else (f39_c1 (x0,x1,x2,x3,x4,x5,x6,x7,x8,x9,(x1.getD 1 (0,([],0))).2.1,x11,())).bind fun v=>Sum.elim (fun v=>some (Sum.inr (v.1,v.2.1,v.2.2.1,v.2.2.2.1,()))) (fun v=>some (Sum.inl (v.1,v.2.1,v.2.2.1,v.2.2.2.1,()))) v else none
theorem h39_c2 (f11:T11) (f24:T24) (f37:T37) (f40:T40) (f67:T67) (f68:T68) (f39_c1:T39_c1):AqC (K39 f11 f24 f37 f40 f67 f68) 0 (subc (code Tryz.f39) [1,0,1,1,1,1,1,1,1]) (N39_c2 f39_c1) m4u m5c (F39_c2 f11 f24 f37 f40 f67 f68 f39_c1):=fun v=>by kernel_rfl
def C39_c2:T39_c2:=F39_c2 C11 C24 C37 C40 C67 C68 C39_c1
theorem k39_c2:CdOk 0 (subc (code Tryz.f39) [1,0,1,1,1,1,1,1,1]) (E39_c2 C39_c2) :=
 frd kok39 (And.intro k39_c1 trivial) (h39_c2 C11 C24 C37 C40 C67 C68 C39_c1)
def F39_g0 (f11:T11) (f24:T24) (f37:T37) (f40:T40) (f67:T67) (f68:T68):LpF (Int×Bool×LqS×LqS×Unit) (Int×Bool×LqS×LqS×Unit):=fun (x0,x1,x2,x3,_)=>some (Sum.inr (x0,false,[],[],()))
theorem h39_g0 (f11:T11) (f24:T24) (f37:T37) (f40:T40) (f67:T67) (f68:T68) (v:HS m4r):aev Γ (K39 f11 f24 f37 f40 f67 f68) 0 ((findLabel (subc (code Tryz.f39) [1,0]) 0).getD .skip) .nil (stof m4r v) (aroundL 0 0 [] m4r m4t)=F39_g0 f11 f24 f37 f40 f67 f68 v:=by kernel_rfl
def C39_g0:T39_g0:=loopN (F39_g0 C11 C24 C37 C40 C67 C68) big
theorem k39_g0:FragOk Tryz.prog 0 (ScopeFrom Tryz.prog (subc (code Tryz.f39) [1,0]) 0) (E39_g0 C39_g0) :=
 frag_big (ins:=m4r) (os:=m4t) (C:=C39_g0) (frag_label (ins:=m4r) (os:=m4t) (n := .nil) (ls:=[]) (F:=F39_g0 C11 C24 C37 C40 C67 C68) (rest:=((findLabel (subc (code Tryz.f39) [1,0]) 0).getD .skip)) hm hΓ kok39 (fun _=>big) (by kernel_rfl) (ann_nil _) find_nil (h39_g0 C11 C24 C37 C40 C67 C68)) rfl
def N39 (f39_c2:T39_c2) (f39_g0:T39_g0):Ann:=(.seq .nil (.scope (.seq .nil (.seq .nil (.seq .nil (.seq .nil (.seq .nil (.seq .nil (.cut .nil (E39_c2 f39_c2)))))))) [(0,(E39_g0 f39_g0))]))
def F39 (f11:T11) (f24:T24) (f37:T37) (f40:T40) (f67:T67) (f68:T68) (f39_c2:T39_c2) (f39_g0:T39_g0):T39:=fun (x0,x1,x2,x3,_)=>(f37 (x3,())).bind fun v=>bif v.2.2.1 != 0 then (f39_g0 (v.2.2.1,false,[],[],())).bind fun v=>some (v.2.1,v.2.2.1,v.2.2.2.1,v.1,()) else bif decide (IntKind.i64.wrap ((↑(List.length v.1):Int)-1)<1) then (f39_g0 (4,false,[],[],())).bind fun v=>some (v.2.1,v.2.2.1,v.2.2.2.1,v.1,()) else bif decide (0<(↑(List.length v.1):Int)) then (f67 ((List.getD v.1 0 (0,([],0))).1,(List.getD v.1 0 (0,([],0))).2.1,(List.getD v.1 0 (0,([],0))).2.2,[60],())).bind fun v1=>bif !v1.1 then (f39_g0 (4,false,[],[],())).bind fun v=>some (v.2.1,v.2.2.1,v.2.2.2.1,v.1,()) else bif decide (0≤IntKind.i64.wrap ((↑(List.length v.1):Int)-1))&&decide (IntKind.i64.wrap ((↑(List.length v.1):Int)-1)<(↑(List.length v.1):Int)) then (f67 ((List.getD v.1 (IntKind.i64.wrap ((↑(List.length v.1):Int)-1)).toNat (0,([],0))).1,(List.getD v.1 (IntKind.i64.wrap ((↑(List.length v.1):Int)-1)).toNat (0,([],0))).2.1,(List.getD v.1 (IntKind.i64.wrap ((↑(List.length v.1):Int)-1)).toNat (0,([],0))).2.2,[62],())).bind fun v2=>bif !v2.1 then (f39_g0 (4,false,[],[],())).bind fun v=>some (v.2.1,v.2.2.1,v.2.2.2.1,v.1,()) else bif decide (0≤IntKind.i64.wrap ((↑(List.length v.1):Int)-1))&&decide (IntKind.i64.wrap ((↑(List.length v.1):Int)-1)≤(↑(List.length v.1):Int)) then bif decide (1≤IntKind.i64.wrap ((↑(List.length v.1):Int)-1)) then (f68 (List.drop 1 (List.take (IntKind.i64.wrap ((↑(List.length v.1):Int)-1)).toNat v.1),())).bind fun v3=>bif v3.1 then (f39_g0 (4,false,[],[],())).bind fun v=>some (v.2.1,v.2.2.1,v.2.2.2.1,v.1,()) else (f39_c2 (IntKind.i64.wrap ((↑(List.length v.1):Int)-1),v.1,4,x0,x1,x2,false,[],[],false,[],[],())).bind fun v=>Sum.elim (fun v=>some (v.2.1,v.2.2.1,v.2.2.2.1,v.1,())) (fun v=>(f39_g0 (v.1,v.2.1,v.2.2.1,v.2.2.2.1,())).bind fun v=>some (v.2.1,v.2.2.1,v.2.2.2.1,v.1,())) v else none else none else none else none
theorem h39 (f11:T11) (f24:T24) (f37:T37) (f40:T40) (f67:T67) (f68:T68) (f39_c2:T39_c2) (f39_g0:T39_g0):AqF (K39 f11 f24 f37 f40 f67 f68) 0 Tryz.f39 (N39 f39_c2 f39_g0) Li15 m4v (F39 f11 f24 f37 f40 f67 f68 f39_c2 f39_g0):=fun v=>by kernel_rfl
def C39:T39:=F39 C11 C24 C37 C40 C67 C68 C39_c2 C39_g0
theorem ok39:FO 39 (E39 C39) :=
 qo kok39 Tryz.func39 (And.intro k39_c2 (And.intro k39_g0 trivial)) (h39 C11 C24 C37 C40 C67 C68 C39_c2 C39_g0)
abbrev T18:=Bool×LqS×LqS×Unit→Option (LqS×Unit)
def E18 (f:T18):FEnt:=⟨m4q,Lo255,f⟩
def K18 (f25:T25) (f40:T40):=lk [(25,E25 f25),(40,E40 f40)]
def F18 (f25:T25) (f40:T40):T18:=fun (x0,x1,x2,_)=>bif x0 then some ([60,62],()) else (f40 (x0,x1,x2,())).bind fun v=>bif v.1 then bif decide ([60].length+x1.length≤9223372036854775807) then bif decide (([60]++x1).length+[62].length≤9223372036854775807) then some ([60]++x1++[62],()) else none else none else (f25 (x1,x2,())).bind fun v=>bif decide ([60].length+List.length v.1≤9223372036854775807) then bif decide (([60]++v.1).length+[62].length≤9223372036854775807) then some ([60]++v.1++[62],()) else none else none
def C18:T18:=F18 C25 C40
theorem ok18:FO 18 (E18 C18):=zq2 m4q Lo255 K18 F18 C25 C40 (kc ok25 (kc ok40 kn)) Tryz.func18
abbrev T16_c0:=Bool×LqA×LqB×LqC×Bool×LqS×LqS×Unit→Option ((Int×Unit)⊕(LqA×LqB×LqC×Bool×LqS×LqS×Unit))
def E16_c0 (f:T16_c0):LEnt:=⟨m4z,m5d,f⟩
abbrev T16:=LqA×LqB×LqC×Bool×LqS×LqS×Unit→Option (Int×Unit)
def E16 (f:T16):FEnt:=⟨m4s,Lo10,f⟩
def K16 (f11:T11) (f40:T40):=lk [(11,E11 f11),(40,E40 f40)]
theorem kok16:KOk Tryz.prog (K16 C11 C40):=(kc ok11 (kc ok40 kn))
def F16_c0 (f11:T11) (f40:T40):T16_c0:=fun (x0,x1,x2,x3,x4,x5,x6,_)=>bif x0 then some (Sum.inl (1,())) else bif x4 then some (Sum.inl (0,())) else (f40 (x4,x5,x6,())).bind fun v=>bif v.1 then some (Sum.inl (0,())) else some (Sum.inr (x1,x2,x3,x4,x5,x6,()))
def C16_c0:T16_c0:=F16_c0 C11 C40
theorem k16_c0:CdOk 0 (subc (code Tryz.f16) [1,0,0,1]) (E16_c0 C16_c0):=zc2 m4z m5d K16 F16_c0 C11 C40 kok16
def N16 (f16_c0:T16_c0):Ann:=(.seq .nil (.seq (.blk (.cut .nil (E16_c0 f16_c0))) .nil))
def F16 (f11:T11) (f40:T40) (f16_c0:T16_c0):T16:=fun (x0,x1,x2,x3,x4,x5,_)=>bif x3 then (f16_c0 (!(x4==[]&&(x5==[]&&true)),x0,x1,x2,x3,x4,x5,())).bind fun v=>Sum.elim (fun v=>some (v.1,())) (fun v=>(f11 (v.1,v.2.1,v.2.2.1,v.2.2.2.2.1,v.2.2.2.2.2.1,())).bind fun v=>some (v.1,())) v else (f16_c0 (false,x0,x1,x2,x3,x4,x5,())).bind fun v=>Sum.elim (fun v=>some (v.1,())) (fun v=>(f11 (v.1,v.2.1,v.2.2.1,v.2.2.2.2.1,v.2.2.2.2.2.1,())).bind fun v=>some (v.1,())) v
def C16:T16:=F16 C11 C40 C16_c0
theorem ok16:FO 16 (E16 C16):=zq2_1 m4s Lo10 K16 N16 F16 C11 C40 C16_c0 kok16 Tryz.func16 (And.intro k16_c0 trivial)
abbrev T41:=LqA×LqB×LqC×Bool×LqS×LqS×Unit→Option (Bool×LqS×LqS×Unit)
def E41 (f:T41):FEnt:=⟨m4s,m5e,f⟩
def K41 (f10:T10) (f40:T40):=lk [(10,E10 f10),(40,E40 f40)]
def F41 (f10:T10) (f40:T40):T41:=fun (x0,x1,x2,x3,x4,x5,_)=>bif x3 then some (true,[],[],()) else (f40 (x3,x4,x5,())).bind fun v=>bif v.1 then some (false,[112,111,115,116,109,97,115,116,101,114],[],()) else (f10 (x0,x1,x2,x4,x5,())).bind fun v=>some (false,v.1,v.2.1,())
def C41:T41:=F41 C10 C40
theorem ok41:FO 41 (E41 C41):=zq2 m4s m5e K41 F41 C10 C40 (kc ok10 (kc ok40 kn)) Tryz.func41
abbrev T19:=LqA×LqB×LqC×Bool×LqS×LqS×Bool×LqS×LqS×Unit→Option (Bool×Unit)
def E19 (f:T19):FEnt:=⟨m5a,Lo27,f⟩
def K19 (f16:T16) (f41:T41):=lk [(16,E16 f16),(41,E41 f41)]
def F19 (f16:T16) (f41:T41):T19:=fun (x0,x1,x2,x3,x4,x5,x6,x7,x8,_)=>(f16 (x0,x1,x2,x3,x4,x5,())).bind fun v=>bif v.1==0 then (f16 (x0,x1,x2,x6,x7,x8,())).bind fun v=>bif v.1==0 then (f41 (x0,x1,x2,x3,x4,x5,())).bind fun v=>(f41 (x0,x1,x2,x6,x7,x8,())).bind fun v1=>some (bif v.1==v1.1 then bif v.2.1==v1.2.1&&(v.2.2.1==v1.2.2.1&&true) then true else false else false,()) else some (false,()) else some (false,())
def C19:T19:=F19 C16 C41
theorem ok19:FO 19 (E19 C19):=zq2 m5a Lo27 K19 F19 C16 C41 (kc ok16 (kc ok41 kn)) Tryz.func19
abbrev T15:=Unit→Option (Bool×Unit)
def E15 (f:T15):FEnt:=⟨Li7,Lo27,f⟩
def K15 (f16:T16) (f18:T18) (f19:T19) (f39:T39) (f9:T9):=lk [(16,E16 f16),(18,E18 f18),(19,E19 f19),(39,E39 f39),(9,E9 f9)]
def C15:T15:=fun _=>some (true,())
theorem h15:afun Γ (K15 C16 C18 C19 C39 C9) 0 Tryz.f15.ntmps Tryz.f15.results.toList (code Tryz.f15) .nil (em id Li7 ()).1 (em id Li7 ()).2 (ofin 0 Lo27)=some (true,()):=by kernel_rfl
theorem ok15:FO 15 (E15 C15) :=
 q0 (kc ok16 (kc ok18 (kc ok19 (kc ok39 (kc ok9 kn))))) Tryz.func15 (fun v=>h15)
abbrev T17:=LqA×LqB×LqC×Bool×LqS×LqS×Unit→Option (Bool×LqS×LqS×Int×Unit)
def E17 (f:T17):FEnt:=⟨m4s,m4v,f⟩
def K17 (f13:T13) (f40:T40):=lk [(13,E13 f13),(40,E40 f40)]
def F17 (f13:T13) (f40:T40):T17:=fun (x0,x1,x2,x3,x4,x5,_)=>bif x3 then some (x3,x4,x5,0,()) else (f40 (x3,x4,x5,())).bind fun v=>bif v.1 then some (x3,x4,x5,0,()) else (f13 (x0,x1,x2,x4,x5,())).bind fun v=>bif v.2.2.1 != 0 then some (false,[],[],v.2.2.1,()) else some (false,v.1,v.2.1,0,())
def C17:T17:=F17 C13 C40
theorem ok17:FO 17 (E17 C17):=zq2 m4s m4v K17 F17 C13 C40 (kc ok13 (kc ok40 kn)) Tryz.func17
abbrev T5:=Bool×LqS×LqS×Unit→Option (Bool×Unit)
def E5 (f:T5):FEnt:=⟨m4q,Lo27,f⟩
def K5 (f12:T12) (f15:T15) (f16:T16) (f17:T17) (f18:T18) (f19:T19) (f8:T8) (f9:T9):=lk [(12,E12 f12),(15,E15 f15),(16,E16 f16),(17,E17 f17),(18,E18 f18),(19,E19 f19),(8,E8 f8),(9,E9 f9)]
def F5 (f12:T12) (f15:T15) (f16:T16) (f17:T17) (f18:T18) (f19:T19) (f8:T8) (f9:T9):T5:=fun (x0,x1,x2,_)=>(f15 ()).bind fun v=>(f8 (x1,x2,())).bind fun v1=>bif !v1.1 then some (v.1,()) else (f9 ()).bind fun v2=>(f16 (v2.1,v2.2.1,v2.2.2.1,x0,x1,x2,())).bind fun v3=>bif v3.1 != 0 then some (v.1,()) else (f17 (v2.1,v2.2.1,v2.2.2.1,x0,x1,x2,())).bind fun v4=>bif v4.2.2.2.1 != 0 then bif v.1 then bif v4.1==false&&(v4.2.1==[]&&(v4.2.2.1==[]&&true)&&true) then (f18 (x0,x1,x2,())).bind fun v=>(f12 (v.1,())).bind fun v=>some (decide (v.1≥0),()) else some (false,()) else some (false,()) else bif v.1 then (f19 (v2.1,v2.2.1,v2.2.2.1,v4.1,v4.2.1,v4.2.2.1,x0,x1,x2,())).bind fun v=>bif v.1 then (f18 (v4.1,v4.2.1,v4.2.2.1,())).bind fun v=>(f12 (v.1,())).bind fun v=>bif decide (v.1<0) then bif v4.2.1==x1 then some (v4.1==x0,()) else some (false,()) else some (false,()) else some (false,()) else some (false,())
theorem h5 (f12:T12) (f15:T15) (f16:T16) (f17:T17) (f18:T18) (f19:T19) (f8:T8) (f9:T9):AqF (K5 f12 f15 f16 f17 f18 f19 f8 f9) 0 Tryz.f5 .nil m4q Lo27 (F5 f12 f15 f16 f17 f18 f19 f8 f9):=fun v=>by kernel_rfl
def C5:T5:=F5 C12 C15 C16 C17 C18 C19 C8 C9
theorem ok5:FO 5 (E5 C5) :=
 q0 (kc ok12 (kc ok15 (kc ok16 (kc ok17 (kc ok18 (kc ok19 (kc ok8 (kc ok9 kn)))))))) Tryz.func5 (h5 C12 C15 C16 C17 C18 C19 C8 C9)
end Go.Proofs.YtbifjondkjgkmaaGreatDoorA.W
set_option linter.unusedSimpArgs false
namespace Go.Proofs.YtbifjondkjgkmaaGreatDoorA.W
open Go Go.Ae
theorem wr {n:Int} (h1 : -9223372036854775808≤n) (h2:n≤9223372036854775807):IntKind.i64.wrap n=n:=by rw [IntKind.wrap_i64];omega
theorem wrN (n:Nat) (h:n≤9223372036854775806):IntKind.i64.wrap ((n:Int)+1)=((n+1:Nat):Int):=by rw [wr]<;>omega
theorem of_to (b:UInt8):UInt8.ofNat b.toNat=b:=by simp
theorem byte_back (b:UInt8):UInt8.ofNat ((b.toNat:Int)).toNat=b:=by simp
theorem getD_lt {α:Type} {l:List α} {i:Nat} {d:α} (h:i<l.length):l.getD i d=l[i]:=by simp [List.getD_eq_getElem?_getD,List.getElem?_eq_getElem h]
def esc1 (c:UInt8):List UInt8:=if c.toNat=34∨c.toNat=92 then [92,c] else [c]
def esc (s:List UInt8):List UInt8:=s.flatMap esc1
theorem esc1_len (c:UInt8):(esc1 c).length≤2:=by unfold esc1;split<;>simp
theorem esc_len:∀s:List UInt8,(esc s).length≤2*s.length
 | []=>by simp [esc]
 | c::s=>by have:=esc_len s;have:=esc1_len c;simp [esc] at *;omega
theorem esc_append (s t:List UInt8):esc (s++t)=esc s++esc t:=by simp [esc]
theorem take_succ_get {α:Type} {s:List α} {k:Nat} (h:k<s.length):s.take (k+1)=s.take k++[s[k]]:=by
 rw [List.take_add_one,List.getElem?_eq_getElem h];rfl
theorem esc_take {s:List UInt8} {k:Nat} (h:k<s.length):esc (s.take (k+1))=esc (s.take k)++esc1 s[k]:=by
 rw [take_succ_get h,esc_append];simp [esc]
theorem ibT {a b:Int} (h:a=b):(a==b)=true:=by simp [h]
theorem ibF {a b:Int} (h:a≠b):(a==b)=false:=by simp [h]
theorem inT {a b:Int} (h:a≠b):(a != b)=true:=by simp [h]
theorem inF {a b:Int} (h:a=b):(a != b)=false:=by simp [h]
theorem esc1_q {c:UInt8} (h:c.toNat=34):esc1 c=[92]++[c]:=by simp [esc1,h]
theorem esc1_b {c:UInt8} (h:c.toNat=92):esc1 c=[92]++[c]:=by simp [esc1,h]
theorem esc1_n {c:UInt8} (h:¬c.toNat=34) (h2:¬c.toNat=92):esc1 c=[c]:=by simp [esc1,h,h2]
theorem r14 (s:List UInt8) (k:Nat) (acc:List UInt8) (h:k<s.length) (hb:s.length≤9223372036854775806) (ha:acc.length+2≤140737488355328) :
 F81_l0 (s,(s.length:Int),(k:Int),acc,())=some (.inl (s,(s.length:Int),((k+1:Nat):Int),acc++esc1 s[k],())):=by
 by_cases e1:s[k].toNat=34
 · simp (disch:=omega) only [F81_l0,decide_eq_true,cond_true,Bool.and_self,vl,getD_lt,byte_back,wrN,Int.toNat_natCast,ibT,esc1_q,List.append_assoc,of_to]
 · by_cases e2:s[k].toNat=92
   · simp (disch:=omega) only [F81_l0,decide_eq_true,cond_true,cond_false,Bool.and_self,vl,getD_lt,byte_back,wrN,Int.toNat_natCast,ibT,ibF,esc1_b,List.append_assoc,of_to]
   · simp (disch:=omega) only [F81_l0,decide_eq_true,cond_true,cond_false,Bool.and_self,vl,getD_lt,byte_back,wrN,Int.toNat_natCast,ibT,ibF,esc1_n,List.append_assoc,of_to]
theorem c14 (s:List UInt8) (hb:s.length≤70368744177663):C81 (s,())=some (esc s,()):=by
 have key:∀(k:Nat) (n:Nat),k≤s.length→s.length-k<n→loopN F81_l0 n (s,(s.length:Int),(k:Int),esc (s.take k),())=some (esc s,()):=by
  intro k n
  induction n generalizing k with
  | zero=>intro _ h;omega
  | succ n ih =>
   intro hk hn;by_cases h:k<s.length
   · have hl:=esc_len (s.take k)
     rw [loopN_inl (r14 s k _ h (by omega) (by simp only [List.length_take] at hl;omega)),←esc_take h];exact ih (k+1) (by omega) (by omega)
   · have:k=s.length:=by omega
     subst this;refine loopN_inr ?_;simp [F81_l0]
 have:=key 0 big (by omega) (by unfold big;omega);simp only [List.take_zero] at this;show F81 C81_l0 (s,())=_;simp only [F81,C81_l0];rw [show loopN F81_l0 big (s,(s.length:Int),0,[],())=some (esc s,()) from this];rfl
def src (k:Int) (s:List UInt8):List UInt8:=if k=1 then [34]++esc s++[34] else if k=3 then [40]++s++[41] else if k=5 then [91]++s++[93] else s
theorem c9 (k:Int) (s:List UInt8) (a:Int) (hb:s.length≤9000):C54 (k,s,a,())=some (src k s,()):=by
 have hl:=esc_len s;show F54 C81 (k,s,a,())=_;by_cases e1:k=1
 · simp (disch:=omega) only [F54,c14,ibT,cond_true,decide_eq_true,vl,Option.bind_some,src,if_pos]
 · by_cases e3:k=3
   · simp (disch:=omega) only [F54,ibT,ibF,cond_true,cond_false,decide_eq_true,vl,Option.bind_some,src,if_pos,if_neg]
   · by_cases e5:k=5
     · simp (disch:=omega) only [F54,ibT,ibF,cond_true,cond_false,decide_eq_true,vl,Option.bind_some,src,if_pos,if_neg]
     · simp (disch:=omega) only [F54,ibT,ibF,cond_true,cond_false,src,if_neg]
def Df {α:Type} (x:Option α) (Q:α→Prop):Prop:=∃y,x=some y∧Q y
section
variable {α β γ:Type} {Q:α→Prop}
theorem dP {y:α} (h:Q y):Df (some y) Q:=⟨y,rfl,h⟩
theorem dO (h:False):Df (none:Option α) Q:=h.elim
theorem dZ {x:Option β} {f:β→Option α} {P:β→Prop} (h:Df x P) (hf:∀a,P a→Df (f a) Q):Df (x.bind f) Q:=by
 obtain ⟨a,rfl,ha⟩:=h;exact hf a ha
theorem Df.mono {x:Option α} {P:α→Prop} (h:Df x P) (hf:∀a,P a→Q a):Df x Q:=by
 obtain ⟨a,e,ha⟩:=h;exact ⟨a,e,hf a ha⟩
theorem Df.and {x:Option α} {P P':α→Prop} (h:Df x P) (h':Df x P'):Df x fun y=>P y∧P' y:=by
 obtain ⟨a,e,ha⟩:=h;obtain ⟨b,e',hb⟩:=h';rw [e] at e';cases e';exact ⟨a,e,ha,hb⟩
theorem dB {b:Bool} {x y:Option α} (h1:b=true→Df x Q) (h2:b=false→Df y Q):Df (bif b then x else y) Q:=by
 cases b
 · exact h2 rfl
 · exact h1 rfl
theorem dH {b:Bool} {x y:Option α} (h1:b=false→Df x Q) (h2:b=true→Df y Q):Df (bif !b then x else y) Q:=by
 cases b
 · exact h1 rfl
 · exact h2 rfl
theorem dD {p:Prop} {dp:Decidable p} {x y:Option α} (h1:p→Df x Q) (h2:¬p→Df y Q):Df (bif decide p then x else y) Q:=by
 by_cases h:p
 · rw [decide_eq_true h];exact h1 h
 · rw [decide_eq_false h];exact h2 h
theorem dG {a b:Int} {x y:Option α} (h1:a=b→Df x Q) (h2:a≠b→Df y Q):Df (bif a==b then x else y) Q:=by
 by_cases h:a=b
 · rw [ibT h];exact h1 h
 · rw [ibF h];exact h2 h
class Rd (b:Bool) (p q:outParam Prop):Prop where
 t:b=true→p
 f:b=false→q
instance (priority := low) (b : Bool) : Rd b (b = true) (b = false) := ⟨id, id⟩
instance (b : Bool) : Rd (!b) (b = false) (b = true) := ⟨fun h => by cases b <;> simp_all, fun h => by cases b <;> simp_all⟩
instance (p : Prop) [Decidable p] : Rd (decide p) p (¬ p) := ⟨of_decide_eq_true, of_decide_eq_false⟩
instance (p : Prop) [Decidable p] : Rd (!decide p) (¬ p) p := ⟨fun h => by simpa using h, fun h => by simpa using h⟩
instance (p q : Prop) [Decidable p] [Decidable q] : Rd (decide p && decide q) (p ∧ q) (¬ (p ∧ q)) := ⟨fun h => by simpa using h, fun h => by simpa using h⟩
instance (a b : Int) : Rd (a == b) (a = b) (a ≠ b) := ⟨fun h => by simpa using h, fun h => by simpa using h⟩
instance (a b : Int) : Rd (a != b) (a ≠ b) (a = b) := ⟨fun h => by simpa using h, fun h => by simpa using h⟩
theorem dX {b:Bool} {p q:Prop} [r:Rd b p q] {x y:Option α} (h1:p→Df x Q) (h2:q→Df y Q):Df (bif b then x else y) Q:=by
 have h:b=true∨b=false:=by cases b<;>simp
 rcases h with h|h
 · rw [h];exact h1 (r.t h)
 · rw [h];exact h2 (r.f h)
theorem dS {f:β→Option α} {g:γ→Option α} {s:β⊕γ} {P:β→Prop} {P':γ→Prop} (hs:Sum.elim P P' s) (h1:∀a,P a→Df (f a) Q) (h2:∀b,P' b→Df (g b) Q):Df (Sum.elim f g s) Q:=by
 cases s with
 | inl a=>exact h1 a hs
 | inr b=>exact h2 b hs
theorem Df.loop {F:β→Option (β⊕α)} (I:β→Prop) (μ:β→Nat) (h:∀v,I v→Df (F v) (Sum.elim (fun v'=>I v'∧μ v'<μ v) Q)) (n:Nat) (v:β) (hv:I v) (hn:μ v<n):Df (loopN F n v) Q:=by
 refine loopN_of I Q μ (fun v hv => ?_) n v hv hn;obtain ⟨y,e,hy⟩:=h v hv;cases y with
 | inl v'=>exact .inl ⟨v',e,hy.1,hy.2⟩
 | inr y=>exact .inr ⟨y,e,hy⟩
theorem dL {F:β→Option (β⊕α)} (I:β→Prop) (μ:β→Nat) (h:∀v,I v→Df (F v) (Sum.elim (fun v'=>I v'∧μ v'<μ v) Q)) (v:β) (hv:I v) (hn:μ v<1000000000000000000):Df (loopN F big v) Q :=
 Df.loop I μ h big v hv (by unfold big;omega)
end
theorem w64' (n:Int):IntKind.i64.wrap n=(n+9223372036854775808)%18446744073709551616-9223372036854775808:=by rw [IntKind.wrap_i64]
theorem w32' (n:Int):IntKind.i32.wrap n=(n+2147483648)%4294967296-2147483648:=by
 simp [IntKind.wrap,IntKind.bits,IntKind.signed];split<;>omega
theorem wu64' (n:Int):IntKind.u64.wrap n=n%18446744073709551616:=IntKind.wrap_u64 n
theorem w64s {n:Int} (h : -9000000000000000000≤n∧n≤9000000000000000000):IntKind.i64.wrap n=n:=by rw [w64'];omega
theorem w32s {n:Int} (h : -2000000000≤n∧n≤2000000000):IntKind.i32.wrap n=n:=by rw [w32'];omega
theorem mid2 {a b:Int} (ha:0≤a) (hb:0≤b) (h:a+b≤9000000000000000000):IntKind.i64.wrap ((IntKind.u64.wrap (IntKind.i64.wrap (a+b))).fdiv (2^min 1 IntKind.u64.bits))=(a+b)/2:=by
 rw [w64s (n:=a+b) (by omega),wu64',show (2:Int)^min 1 IntKind.u64.bits=2 from rfl,Int.fdiv_eq_ediv_of_nonneg _ (by omega),w64s (by omega)];omega
theorem decR_pos (s:List UInt8) (p:Nat):1≤(decR s p).2:=by
 unfold decR Utf8.decode;dsimp only;repeat' split
 all_goals (first|omega|(dsimp only;omega))
theorem d155 (x:Int):Df (C98 (x,())) (fun y=>y.1=true→0≤x∧x≤1114111):=by
 show Df (F98 _) _;unfold F98;dsimp only;with_reducible repeat' (first|apply dP|apply dX<;>intro _)
 all_goals (dsimp only;intro h';first|omega|cases h')
theorem d122 (x:Int):Df (C64 (x,())) (fun y=>0≤y.1∧y.1≤4):=by
 show Df (F64 C98 _) _;unfold F64;dsimp only;refine dZ (d155 x) ?_;rintro ⟨b,u⟩ hb;dsimp only;with_reducible repeat' (first|apply dP|apply dX<;>intro _)
 all_goals (first|omega|(dsimp only;omega))
theorem d121_0 (x:Int) (b:Bool):Df (C63_c0 (x,b,())) (Sum.elim (fun y=>0≤y.1∧y.1≤3) (fun _=>True)):=by
 show Df (F63_c0 _) _;unfold F63_c0;dsimp only;with_reducible repeat' (first|apply dP|apply dX<;>intro _)
 all_goals (first|trivial|exact ⟨by (try dsimp only);omega,by (try dsimp only);omega⟩)
theorem d121_1 (x:Int) (b:Bool):Df (C63_c1 (x,b,())) (Sum.elim (fun y=>0≤y.1∧y.1≤3) (fun _=>True)):=by
 show Df (F63_c1 C63_c0 _) _;unfold F63_c1;dsimp only;with_reducible repeat' (first|apply dP|apply dX<;>intro _)
 all_goals (first|trivial|exact ⟨by (try dsimp only);omega,by (try dsimp only);omega⟩|(refine dZ (d121_0 _ _) ?_;intro s hs;exact dS hs (fun a ha=>dP ha) (fun _ _=>dP trivial)))
theorem d121 (x:Int):Df (C63 (x,())) (fun y => -1≤y.1∧y.1≤3):=by
 show Df (F63 C63_c1 _) _;unfold F63;dsimp only;with_reducible repeat' (first|apply dP|apply dX<;>intro _)
 all_goals (first|(first|omega|(dsimp only;omega))|(refine dZ (d121_1 _ _) ?_;intro s hs;exact dS hs (fun a ha=>dP ⟨by have:=ha.1;dsimp only;omega,ha.2⟩) (fun _ _=>dP (by (try dsimp only);omega))))
theorem d83_0 (s:List UInt8) (n r at_ k:Int) (o:List Int) (h:0≤at_) (hn:0≤n∧n≤3) (hl:at_+n<s.length) (hk:at_+1≤k) (hb:s.length≤1000000000000) :
 Df (C34_l0 (s,n,r,at_,k,o,())) (Sum.elim (fun y=>y.1=s∧y.2.1=n∧y.2.2.2.1=at_∧y.2.2.2.2.1=o) (fun y=>y.1=at_∧y.2.1=o)):=by
 refine dL ?I ?m ?h _ ?hv ?hn
 case I=>exact (fun v=>v.1=s∧v.2.1=n∧v.2.2.2.1=at_∧v.2.2.2.2.2.1=o∧at_+1≤v.2.2.2.2.1)
 case m=>exact (fun v=>(at_+n+1-v.2.2.2.2.1).toNat)
 case hv=>exact ⟨rfl,rfl,rfl,rfl,hk⟩
 case hn=>exact (by (try dsimp only);omega)
 rintro ⟨x0,x1,x2,x3,x4,x5,u⟩ hI;dsimp only at hI;obtain ⟨rfl,rfl,rfl,rfl,hI⟩:=hI;unfold F34_l0;dsimp only;rw [w64s (n:=x3+x1) (by omega)];with_reducible repeat' (first|apply dP|apply dX<;>intro _)
 · exact ⟨rfl,rfl⟩
 · rw [w64s (by omega)]
   exact ⟨⟨rfl,rfl,rfl,rfl,by (try dsimp only);omega⟩,by (try dsimp only);omega⟩
 · refine dO ?_;omega
 · refine dO ?_;omega
 · exact ⟨rfl,rfl,rfl,rfl⟩
theorem d83 (s:List UInt8) (hb:s.length≤1000000000000):Df (C34 (s,())) (fun y=>y.1.length≤s.length∧(y.2.1 = -1∨0≤y.2.1∧y.2.1<s.length)∧(y.2.1<0→0<s.length→0<y.1.length)):=by
 show Df (F34 C63 C64 C34_g0 C34_l1 _) _;unfold F34;dsimp only;refine dZ (P:=Sum.elim (fun y=>y.1.length≤s.length∧(0<s.length→0<y.1.length)) (fun y=>y.2.1.length≤s.length∧0≤y.1∧y.1<s.length)) ?_ ?_
 · refine dL ?I ?m ?h _ ?hv ?hn
   case I=>exact (fun v=>v.1=s∧0≤v.2.1∧v.2.1≤s.length∧v.2.2.1.length≤v.2.1∧(0<v.2.1→0<v.2.2.1.length))
   case m=>exact (fun v=>(s.length-v.2.1).toNat)
   case hv=>exact ⟨rfl,by (try dsimp only);omega,by (try dsimp only);omega,by simp,by simp⟩
   case hn=>exact (by (try dsimp only);omega)
   rintro ⟨x0,x1,x2,u⟩ hI;dsimp only at hI;obtain ⟨rfl,h0,h1,h2,h2'⟩:=hI;unfold F34_l1;dsimp only;with_reducible repeat' (first|apply dP|apply dX<;>intro _)
   · refine dZ (d121 _) ?_
     rintro ⟨n,r,u⟩ hn;dsimp only at hn ⊢;rw [w64s (n:=(x0.length:Int)-x1) (by omega)];with_reducible repeat' (first|apply dP|apply dX<;>intro _)
     · exact ⟨by (try dsimp only);omega,by (try dsimp only);omega,by (try dsimp only);omega⟩
     · exact ⟨by (try dsimp only);omega,by (try dsimp only);omega,by (try dsimp only);omega⟩
     · rw [w64s (n:=x1+1) (by omega)]
       refine dZ (d83_0 x0 n r x1 (x1+1) x2 h0 (by omega) (by omega) (by omega) hb) ?_;intro s hs;refine dS hs ?_ ?_
       · rintro ⟨a0,a1,a2,a3,a4,u⟩ ha
         dsimp only at ha ⊢;obtain ⟨rfl,rfl,rfl,rfl⟩:=ha;refine dZ (d122 _) ?_;rintro ⟨m,u⟩ hm;dsimp only at hm ⊢;with_reducible repeat' (first|apply dP|apply dX<;>intro _)
         · exact ⟨by (try dsimp only);omega,by (try dsimp only);omega,by (try dsimp only);omega⟩
         · rw [w64s (n:=a1+1) (by omega),w64s (by omega)]
           exact ⟨⟨rfl,by (try dsimp only);omega,by (try dsimp only);omega,by simp only [vl];omega,fun _=>by simp only [vl];omega⟩,by (try dsimp only);omega⟩
         · refine dO ?_
           simp only [List.length_cons,List.length_nil] at *
           omega
       · rintro ⟨a0,a1,u⟩ ha
         dsimp only at ha ⊢;obtain ⟨rfl,rfl⟩:=ha;exact dP ⟨by (try dsimp only);omega,by (try dsimp only);omega,by (try dsimp only);omega⟩
   · refine dO ?_;omega
   · exact ⟨by (try dsimp only);omega,fun _=>h2' (by omega)⟩
 · intro r hr
   refine dS hr ?_ ?_
   · rintro ⟨a,u⟩ ha
     exact dP ⟨ha.1,.inl rfl,fun _=>ha.2⟩
   · rintro ⟨a,b,u⟩ ha
     exact dP ⟨ha.1,.inr ha.2,fun h=>by have:=ha.2.1;dsimp only at h this;omega⟩
theorem d178 (l:List Int) (hb:l.length≤20000000000000):Df (C82 (l,())) (fun y=>y.1.length≤4*l.length):=by
 show Df (F82 C64 C82_l0 _) _;unfold F82;dsimp only;refine dZ (P:=Sum.elim (fun y=>y.1.length≤4*l.length) (fun y=>y.1.length≤4*l.length)) ?_ ?_
 · refine dL ?I ?m ?h _ ?hv ?hn
   case I=>exact (fun v=>v.1=l∧v.2.1=l.length∧0≤v.2.2.1∧v.2.2.1≤l.length∧v.2.2.2.1.length≤4*v.2.2.1)
   case m=>exact (fun v=>(l.length-v.2.2.1).toNat)
   case hv=>exact ⟨rfl,rfl,by (try dsimp only);omega,by (try dsimp only);omega,by simp⟩
   case hn=>exact (by (try dsimp only);omega)
   rintro ⟨x0,x1,x2,x3,u⟩ hI;dsimp only at hI;obtain ⟨rfl,rfl,h0,h1,h2⟩:=hI;unfold F82_l0;dsimp only;with_reducible repeat' (first|apply dP|apply dX<;>intro _)
   · refine dZ (d122 _) ?_
     rintro ⟨m,u⟩ hm;dsimp only at hm ⊢;rw [w64s (n:=x2+1) (by omega)];with_reducible repeat' (first|apply dP|apply dX<;>intro _)
     all_goals first
      | exact (by simp:(([]:List UInt8).length≤4*x0.length))
      | exact ⟨⟨rfl,rfl,by (try dsimp only);omega,by (try dsimp only);omega,by simp only [vl];omega⟩,by (try dsimp only);omega⟩
      | (refine dO ?_;simp only [List.length_cons,List.length_nil] at *;omega)
   · refine dO ?_;omega
   · exact (by (try dsimp only);omega:x3.length≤4*x0.length)
 · intro r hr
   refine dS hr ?_ ?_
   · rintro ⟨a,u⟩ ha;exact dP ha
   · rintro ⟨a,b,u⟩ ha;exact dP ha
theorem d21 (s:List UInt8) (hb:s.length≤1000000000000000):Df (C12 (s,())) (fun y=>y.1<s.length∧(y.1<0→∀c∈s,c.toNat<128)):=by
 show Df (F12 C12_l0 _) _;unfold F12;dsimp only;refine dZ (P:=Sum.elim (fun y=>∀c∈s,c.toNat<128) (fun y=>0≤y.1∧y.1<s.length)) ?_ ?_
 · refine dL ?I ?m ?h _ ?hv ?hn
   case I=>exact (fun v=>v.1=s∧v.2.1=s.length∧0≤v.2.2.1∧v.2.2.1≤s.length∧∀c∈s.take v.2.2.1.toNat,c.toNat<128)
   case m=>exact (fun v=>(s.length-v.2.2.1).toNat)
   case hv=>exact ⟨rfl,rfl,by (try dsimp only);omega,by (try dsimp only);omega,by simp⟩
   case hn=>exact (by (try dsimp only);omega)
   rintro ⟨x0,x1,x2,u⟩ hI;dsimp only at hI;obtain ⟨rfl,rfl,h0,h1,h2⟩:=hI;unfold F12_l0;dsimp only;with_reducible repeat' (first|apply dP|apply dX<;>intro _)
   · exact ⟨by (try dsimp only);omega,by (try dsimp only);omega⟩
   · rename_i h3 h4 h5
     rw [w64s (n:=x2+1) (by omega)];have hlt:x2.toNat<x0.length:=by omega
     refine ⟨⟨rfl,rfl,by (try dsimp only);omega,by (try dsimp only);omega,?_⟩,by (try dsimp only);omega⟩;dsimp only;intro c hc;rw [show (x2+1).toNat=x2.toNat+1 by omega,take_succ_get hlt] at hc;rcases List.mem_append.1 hc with hc|hc
     · exact h2 c hc
     · rw [List.mem_singleton] at hc
       rw [getD_lt hlt] at h5;subst hc;omega
   · refine dO ?_;omega
   · intro c hc
     refine h2 c ?_;rw [List.take_of_length_le (by omega)];exact hc
 · intro r hr
   refine dS hr ?_ ?_
   · intro u hu;exact dP ⟨by (try dsimp only);omega,fun _=>hu⟩
   · rintro ⟨a,u⟩ ha;exact dP ⟨ha.2,fun h=>by have:=ha.1;dsimp only at h this;omega⟩
abbrev R6:=Int×Int×Int×Int×Int×Int
abbrev R4:=Int×Int×Int×Int
abbrev R3:=Int×Int×Int
theorem d289 (a b c d e f g:Int):Df (C188 (a,b,c,d,e,f,g,())) (fun _=>True):=by
 show Df (F188 _) _;unfold F188;dsimp only;with_reducible repeat' (first|apply dP|apply dX<;>intro _)
 all_goals trivial
theorem d288 (T:List R6) (r:Int) (hT:T.length≤1000000000000):Df (C187 (T,r,())) (fun y=>0≤y.1∧(y.2.1=true→y.1<T.length)):=by
 show Df (F187 C188 C187_l0 _) _;unfold F187;dsimp only;refine dZ (P:=fun y=>y.1=T∧y.2.2.1=T.length∧0≤y.2.2.2.1∧y.2.2.2.1≤T.length) ?_ ?_
 · refine dL ?I ?m ?h _ ?hv ?hn
   case I=>exact (fun v=>v.1=T∧v.2.2.1=T.length∧0≤v.2.2.2.1∧v.2.2.2.1≤v.2.2.2.2.1∧v.2.2.2.2.1≤T.length)
   case m=>exact (fun v=>(v.2.2.2.2.1-v.2.2.2.1).toNat)
   case hv=>exact ⟨rfl,rfl,by (try dsimp only);omega,by (try dsimp only);omega,by (try dsimp only);omega⟩
   case hn=>exact (by (try dsimp only);omega)
   rintro ⟨x0,x1,x2,x3,x4,u⟩ hI;dsimp only at hI;obtain ⟨rfl,rfl,h0,h1,h2⟩:=hI;unfold F187_l0;dsimp only;rw [mid2 (by omega) (by omega) (by omega)];with_reducible repeat' (first|apply dP|apply dX<;>intro _)
   · refine dZ (d289 _ _ _ _ _ _ _) ?_
     rintro ⟨m,u⟩ -
     dsimp only;rw [w64s (n:=(x3+x4)/2+1) (by omega)];with_reducible repeat' (first|apply dP|apply dX<;>intro _)
     · exact ⟨⟨rfl,rfl,by (try dsimp only);omega,by (try dsimp only);omega,by (try dsimp only);omega⟩,by (try dsimp only);omega⟩
     · exact ⟨⟨rfl,rfl,by (try dsimp only);omega,by (try dsimp only);omega,by (try dsimp only);omega⟩,by (try dsimp only);omega⟩
   · refine dO ?_;omega
   · exact ⟨rfl,rfl,by (try dsimp only);omega,by (try dsimp only);omega⟩
 · rintro ⟨x0,x1,x2,x3,u⟩ hI
   dsimp only at hI ⊢;obtain ⟨rfl,rfl,h0,h1⟩:=hI;with_reducible repeat' (first|apply dP|apply dX<;>intro _)
   · refine dZ (d289 _ _ _ _ _ _ _) ?_
     rintro ⟨m,u⟩ -
     exact dP ⟨by (try dsimp only);omega,fun _=>by (try dsimp only);omega⟩
   · refine dO ?_;omega
   · exact ⟨by (try dsimp only);omega,fun h=>by cases h⟩
theorem d248 (T:List R6) (A:List R4) (B:List R3) (r:Int) (hT:T.length≤1000000000000):Df (C151 (T,A,B,r,())) (fun y=>y.2.2.2.1=0∨∃e∈T,y.2.2.2.1=e.2.2.2.1):=by
 show Df (F151 C187 _) _;unfold F151;dsimp only;refine dZ (d288 T r hT) ?_;rintro ⟨i,b,u⟩ h;dsimp only at h ⊢;with_reducible repeat' (first|apply dP|apply dX<;>intro _)
 · exact .inl rfl
 · rename_i h1
   have hlt:i.toNat<T.length:=by omega
   refine .inr ⟨T[i.toNat],List.getElem_mem hlt,?_⟩;dsimp only;rw [getD_lt hlt]
 · rename_i h1 h2
   have:=h.2 h1;refine dO ?_;omega
def TOk (T:List R6):Prop:=T.length≤1000000000000∧∀e∈T,0≤e.2.2.2.1∧e.2.2.2.1<8
theorem d218 (T:List R6) (A:List R4) (B:List R3) (r:Int) (hT:TOk T):Df (C121 (T,A,B,r,())) (fun y=>0≤y.1∧y.1<8):=by
 show Df (F121 C151 _) _;unfold F121;dsimp only;refine dZ (d248 T A B r hT.1) ?_;rintro ⟨a,b,c,d,e,f,u⟩ h;dsimp only at h ⊢;refine dP ?_;rcases h with rfl|⟨e,he,rfl⟩
 · exact ⟨by decide,by decide⟩
 · exact hT.2 e he
theorem d215 (T:List R6) (A:List R4) (B:List R3) (r:Int) (hT:TOk T):Df (C118 (T,A,B,r,())) (fun _=>True):=by
 show Df (F118 C151 _) _;unfold F118;dsimp only;exact dZ (d248 T A B r hT.1) fun _ _=>dP trivial
theorem d313 (T:List R6) (A:List R4) (B:List R3) (r:Int) (hT:TOk T):Df (C245 (T,A,B,r,())) (fun _=>True):=by
 show Df (F245 C151 _) _;unfold F245;dsimp only;exact dZ (d248 T A B r hT.1) fun _ _=>dP trivial
theorem d306 (T:List R6) (A:List R4) (B:List R3) (r:Int) (hT:TOk T):Df (C231 (T,A,B,r,())) (fun _=>True):=by
 show Df (F231 C151 _) _;unfold F231;dsimp only;exact dZ (d248 T A B r hT.1) fun _ _=>dP trivial
theorem d298 (a b c d e:Int):Df (C223 (a,b,c,d,e,())) (fun _=>True):=by
 show Df (F223 _) _;unfold F223;dsimp only;with_reducible repeat' (first|apply dP|apply dX<;>intro _)
 all_goals trivial
theorem d297 (A:List R4) (r:Int) (hA:A.length≤1000000000000):Df (C222 (A,r,())) (fun y=>y.1<A.length):=by
 show Df (F222 C223 C222_l0 _) _;unfold F222;dsimp only;refine dZ (P:=Sum.elim (fun _=>True) (fun y=>y.1<A.length)) ?_ ?_
 · refine dL ?I ?m ?h _ ?hv ?hn
   case I=>exact (fun v=>v.1=A∧v.2.1=A.length∧0≤v.2.2.1∧v.2.2.1≤A.length)
   case m=>exact (fun v=>(A.length-v.2.2.1).toNat)
   case hv=>exact ⟨rfl,rfl,by (try dsimp only);omega,by (try dsimp only);omega⟩
   case hn=>exact (by (try dsimp only);omega)
   rintro ⟨x0,x1,x2,x3,u⟩ hI;dsimp only at hI;obtain ⟨rfl,rfl,h0,h1⟩:=hI;unfold F222_l0;dsimp only;with_reducible repeat' (first|apply dP|apply dX<;>intro _)
   · refine dZ (d298 _ _ _ _ _) ?_
     rintro ⟨m,m',u⟩ -
     dsimp only;rw [w64s (n:=x2+1) (by omega)];with_reducible repeat' (first|apply dP|apply dX<;>intro _)
     · exact (by (try dsimp only);omega:x2<x0.length)
     · exact ⟨⟨rfl,rfl,by (try dsimp only);omega,by (try dsimp only);omega⟩,by (try dsimp only);omega⟩
   · refine dO ?_;omega
   · trivial
 · intro s hs
   refine dS hs ?_ ?_
   · rintro ⟨a,u⟩ -
     exact dP (by (try dsimp only);omega)
   · rintro ⟨a,b,u⟩ h
     exact dP h
theorem d276 (T:List R6) (A:List R4) (B:List R3) (r:Int) (hA:A.length≤1000000000000):Df (C175 (T,A,B,r,())) (fun _=>True):=by
 show Df (F175 C222 _) _;unfold F175;dsimp only;refine dZ (d297 A r hA) ?_;rintro ⟨i,b,u⟩ h;dsimp only at h ⊢;with_reducible repeat' (first|apply dP|apply dX<;>intro _)
 all_goals first|trivial|(refine dO ?_;omega)
theorem d238 (a b c d:Int):Df (C141 (a,b,c,d,())) (fun _=>True):=by
 show Df (F141 _) _;unfold F141;dsimp only;with_reducible repeat' (first|apply dP|apply dX<;>intro _)
 all_goals trivial
theorem d237 (A:List R3) (r:Int) (hA:A.length≤1000000000000):Df (C140 (A,r,())) (fun y=>y.1<A.length):=by
 show Df (F140 C141 C140_l0 _) _;unfold F140;dsimp only;refine dZ (P:=Sum.elim (fun _=>True) (fun y=>y.1<A.length)) ?_ ?_
 · refine dL ?I ?m ?h _ ?hv ?hn
   case I=>exact (fun v=>v.1=A∧v.2.1=A.length∧0≤v.2.2.1∧v.2.2.1≤A.length)
   case m=>exact (fun v=>(A.length-v.2.2.1).toNat)
   case hv=>exact ⟨rfl,rfl,by (try dsimp only);omega,by (try dsimp only);omega⟩
   case hn=>exact (by (try dsimp only);omega)
   rintro ⟨x0,x1,x2,x3,u⟩ hI;dsimp only at hI;obtain ⟨rfl,rfl,h0,h1⟩:=hI;unfold F140_l0;dsimp only;with_reducible repeat' (first|apply dP|apply dX<;>intro _)
   · refine dZ (d238 _ _ _ _) ?_
     rintro ⟨m,m',u⟩ -
     dsimp only;rw [w64s (n:=x2+1) (by omega)];with_reducible repeat' (first|apply dP|apply dX<;>intro _)
     · exact (by (try dsimp only);omega:x2<x0.length)
     · exact ⟨⟨rfl,rfl,by (try dsimp only);omega,by (try dsimp only);omega⟩,by (try dsimp only);omega⟩
   · refine dO ?_;omega
   · trivial
 · intro s hs
   refine dS hs ?_ ?_
   · rintro ⟨a,u⟩ -
     exact dP (by (try dsimp only);omega)
   · rintro ⟨a,b,u⟩ h
     exact dP h
theorem d211 (T:List R6) (A:List R4) (B:List R3) (r:Int) (hB:B.length≤1000000000000):Df (C114 (T,A,B,r,())) (fun _=>True):=by
 show Df (F114 C140 _) _;unfold F114;dsimp only;refine dZ (d237 B r hB) ?_;rintro ⟨i,b,u⟩ h;dsimp only at h ⊢;with_reducible repeat' (first|apply dP|apply dX<;>intro _)
 all_goals first|trivial|(refine dO ?_;omega)
theorem d216 (T:List R6) (A:List R4) (B:List R3) (r:Int):Df (C119 (T,A,B,r,())) (fun _=>True):=by
 unfold C119;dsimp only;with_reducible repeat' (first|apply dP|apply dX<;>intro _)
 · trivial
 · cases splitD r with
   | none=>exact dP trivial
   | some s=>exact dP trivial
theorem d212 (T:List R6) (A:List R4) (B:List R3) (r:Int):Df (C115 (T,A,B,r,())) (fun _=>True):=by
 show Df (F115 C119 _) _;unfold F115;dsimp only;with_reducible repeat' (first|apply dP|apply dX<;>intro _)
 all_goals first|trivial|exact dZ (d216 T A B r) fun _ _=>dP trivial
theorem d210 (T:List R6) (A:List R4) (B:List R3) (l:List Int) (hl:l.length≤1000000000000):Df (C113 (l,T,A,B,())) (fun y=>y.1.length=l.length):=by
 show Df (F113 C115 C113_l0 _) _;unfold F113;dsimp only;refine dZ (P:=fun y=>y.1.length=l.length) ?_ (fun _ h=>dP h);refine dL ?I ?m ?h _ ?hv ?hn
 case I=>exact (fun v=>v.2.2.2.1=l∧v.2.2.2.2.1=l.length∧0≤v.2.2.2.2.2.1∧v.2.2.2.2.2.1≤l.length∧v.2.2.2.2.2.2.1.length=v.2.2.2.2.2.1)
 case m=>exact (fun v=>(l.length-v.2.2.2.2.2.1).toNat)
 case hv=>exact ⟨rfl,rfl,by (try dsimp only);omega,by (try dsimp only);omega,rfl⟩
 case hn=>exact (by (try dsimp only);omega)
 rintro ⟨x0,x1,x2,x3,x4,x5,x6,u⟩ hI;dsimp only at hI;obtain ⟨rfl,rfl,h0,h1,h2⟩:=hI;unfold F113_l0;dsimp only;with_reducible repeat' (first|apply dP|apply dX<;>intro _)
 · refine dZ (d212 _ _ _ _) ?_
   rintro ⟨m,u⟩ -
   dsimp only;rw [w64s (n:=x5+1) (by omega)];with_reducible repeat' (first|apply dP|apply dX<;>intro _)
   · exact ⟨⟨rfl,rfl,by (try dsimp only);omega,by (try dsimp only);omega,by simp only [vl];omega⟩,by (try dsimp only);omega⟩
   · refine dO ?_;simp only [List.length_cons,List.length_nil] at *;omega
 · refine dO ?_;omega
 · exact (by (try dsimp only);omega:x6.length=x3.length)
theorem d210v1 (T:List R6) (A:List R4) (B:List R3) (hB:B.length≤1000000000000) (l:List Int) (hl:l.length≤1000000000000):Df (C113v1 (l,T,A,B,())) (fun y=>y.1.length=l.length):=by
 show Df (F113v1 C114 C113v1_l0 _) _;unfold F113v1;dsimp only;refine dZ (P:=fun y=>y.1.length=l.length) ?_ (fun _ h=>dP h);refine dL ?I ?m ?h _ ?hv ?hn
 case I=>exact (fun v=>v.2.2.1=B∧v.2.2.2.1=l∧v.2.2.2.2.1=l.length∧0≤v.2.2.2.2.2.1∧v.2.2.2.2.2.1≤l.length∧v.2.2.2.2.2.2.1.length=v.2.2.2.2.2.1)
 case m=>exact (fun v=>(l.length-v.2.2.2.2.2.1).toNat)
 case hv=>exact ⟨rfl,rfl,rfl,by (try dsimp only);omega,by (try dsimp only);omega,rfl⟩
 case hn=>exact (by (try dsimp only);omega)
 rintro ⟨x0,x1,x2,x3,x4,x5,x6,u⟩ hI;dsimp only at hI;obtain ⟨rfl,rfl,rfl,h0,h1,h2⟩:=hI;unfold F113v1_l0;dsimp only;with_reducible repeat' (first|apply dP|apply dX<;>intro _)
 · refine dZ (d211 _ _ _ _ hB) ?_
   rintro ⟨m,u⟩ -
   dsimp only;rw [w64s (n:=x5+1) (by omega)];with_reducible repeat' (first|apply dP|apply dX<;>intro _)
   · exact ⟨⟨rfl,rfl,rfl,by (try dsimp only);omega,by (try dsimp only);omega,by simp only [vl];omega⟩,by (try dsimp only);omega⟩
   · refine dO ?_;simp only [List.length_cons,List.length_nil] at *;omega
 · refine dO ?_;omega
 · exact (by (try dsimp only);omega:x6.length=x3.length)
theorem d180 (T:List R6) (A:List R4) (B:List R3) (l:List Int) (hl:l.length≤1000000000000):Df (C84 (T,A,B,l,())) (fun y=>y.1.length=l.length):=by
 show Df (F84 C113 _) _;unfold F84;dsimp only;exact dZ (d210 T A B l hl) fun _ h=>dP h
theorem d179 (T:List R6) (A:List R4) (B:List R3) (hB:B.length≤1000000000000) (l:List Int) (hl:l.length≤1000000000000):Df (C83 (T,A,B,l,())) (fun y=>y.1.length=l.length):=by
 show Df (F83 C113v1 _) _;unfold F83;dsimp only;exact dZ (d210v1 T A B hB l hl) fun _ h=>dP h
theorem d300 (a b c:Int):Df (C225 (a,b,c,())) (fun _=>True):=by
 show Df (F225 _) _;unfold F225;dsimp only;with_reducible repeat' (first|apply dP|apply dX<;>intro _)
 all_goals trivial
theorem d301 (a:Int):Df (C226 (a,())) (fun y=>y.1.length≤3):=by
 show Df (F226 _) _;unfold F226;dsimp only;with_reducible repeat' (first|apply dP|apply dX<;>intro _)
 all_goals (dsimp only;simp)
theorem d302 (a b:List Int) (ha:a.length≤1000000) (hb:b.length≤1000000):Df (C227 ([a,b],())) (fun y=>y.1.length=a.length+b.length):=by
 show Df (F227 C244 C227_l0 C227_l1 _) _;unfold F227;dsimp only;refine dZ (P:=fun y=>y.1=[a,b]∧0≤y.2.1∧y.2.1≤2000000) ?_ ?_
 · refine dL ?I ?m ?h _ ?hv ?hn
   case I=>exact (fun v=>v.1=[a,b]∧v.2.2.1=[a,b]∧v.2.2.2.1=2∧((v.2.2.2.2.1=0∧v.2.1=0)∨(v.2.2.2.2.1=1∧v.2.1=a.length)∨(v.2.2.2.2.1=2∧v.2.1=a.length+b.length)))
   case m=>exact (fun v=>(2-v.2.2.2.2.1).toNat)
   case hv=>exact ⟨rfl,rfl,rfl,.inl ⟨rfl,rfl⟩⟩
   case hn=>exact (by (try dsimp only);omega)
   rintro ⟨x0,x1,x2,x3,x4,u⟩ hI;dsimp only at hI;obtain ⟨rfl,rfl,rfl,hI⟩:=hI;unfold F227_l0;dsimp only;rcases hI with ⟨rfl,rfl⟩|⟨rfl,rfl⟩|⟨rfl,rfl⟩
   · have e:([a,b]:List (List Int)).getD (0:Int).toNat []=a:=rfl
     rw [e,w64s (n:=0+(a.length:Int)) (by omega),w64s (n:=(0:Int)+1) (by omega)];with_reducible repeat' (first|apply dP|apply dX<;>intro _)
     all_goals first
      | exact ⟨⟨rfl,rfl,rfl,.inr (.inl ⟨rfl,by (try dsimp only);omega⟩)⟩,by (try dsimp only);omega⟩
      | (refine dO ?_;simp only [List.length_cons,List.length_nil] at *;omega)
      | (exfalso;omega)
   · have e:([a,b]:List (List Int)).getD (1:Int).toNat []=b:=rfl
     rw [e,w64s (n:=(a.length:Int)+(b.length:Int)) (by omega),w64s (n:=(1:Int)+1) (by omega)];with_reducible repeat' (first|apply dP|apply dX<;>intro _)
     all_goals first
      | exact ⟨⟨rfl,rfl,rfl,.inr (.inr ⟨rfl,rfl⟩)⟩,by (try dsimp only);omega⟩
      | (refine dO ?_;simp only [List.length_cons,List.length_nil] at *;omega)
      | (exfalso;omega)
   · with_reducible repeat' (first|apply dP|apply dX<;>intro _)
     all_goals first
      | exact ⟨rfl,by (try dsimp only);omega,by (try dsimp only);omega⟩
      | (refine dO ?_;simp only [List.length_cons,List.length_nil] at *;omega)
      | (exfalso;omega)
 · rintro ⟨x0,x1,u⟩ hI
   dsimp only at hI ⊢;obtain ⟨rfl,h0,h1⟩:=hI;refine dZ (P:=fun y=>y.1=[]) ?_ ?_
   · unfold C244
     dsimp only;with_reducible repeat' (first|apply dP|apply dX<;>intro _)
     · rfl
     · refine dO ?_;omega
   rintro ⟨x2,u⟩ hx;dsimp only at hx ⊢;subst hx;refine dZ (P:=fun y=>y.1.length=a.length+b.length) ?_ (fun _ h=>dP h);refine dL ?I ?m ?h _ ?hv ?hn
   case I=>exact (fun v=>v.1=[a,b]∧v.2.1=2∧((v.2.2.1=0∧v.2.2.2.1.length=0)∨(v.2.2.1=1∧v.2.2.2.1.length=a.length)∨(v.2.2.1=2∧v.2.2.2.1.length=a.length+b.length)))
   case m=>exact (fun v=>(2-v.2.2.1).toNat)
   case hv=>exact ⟨rfl,rfl,.inl ⟨rfl,rfl⟩⟩
   case hn=>exact (by (try dsimp only);omega)
   rintro ⟨x0,x1,x2,x3,u⟩ hI;dsimp only at hI;obtain ⟨rfl,rfl,hI⟩:=hI;unfold F227_l1;dsimp only;rcases hI with ⟨rfl,hx⟩|⟨rfl,hx⟩|⟨rfl,hx⟩
   · have e:([a,b]:List (List Int)).getD (0:Int).toNat []=a:=rfl
     rw [e,w64s (n:=(0:Int)+1) (by omega)];with_reducible repeat' (first|apply dP|apply dX<;>intro _)
     all_goals first
      | exact ⟨⟨rfl,rfl,.inr (.inl ⟨rfl,by simp only [List.length_append];omega⟩)⟩,by (try dsimp only);omega⟩
      | (refine dO ?_;simp only [List.length_cons,List.length_nil] at *;omega)
      | (exfalso;omega)
   · have e:([a,b]:List (List Int)).getD (1:Int).toNat []=b:=rfl
     rw [e,w64s (n:=(1:Int)+1) (by omega)];with_reducible repeat' (first|apply dP|apply dX<;>intro _)
     all_goals first
      | exact ⟨⟨rfl,rfl,.inr (.inr ⟨rfl,by simp only [List.length_append];omega⟩)⟩,by (try dsimp only);omega⟩
      | (refine dO ?_;simp only [List.length_cons,List.length_nil] at *;omega)
      | (exfalso;omega)
   · with_reducible repeat' (first|apply dP|apply dX<;>intro _)
     all_goals first
      | exact hx
      | (refine dO ?_;simp only [List.length_cons,List.length_nil] at *;omega)
      | (exfalso;omega)
def nxt (r:Int):Option (Int×Int):=bif decide (65281≤r)&&decide (r≤65374) then some (r-65248,0) else (splitD r).map fun s=>(s.2.1,s.2.2.1)
def dep:Nat→Int→Bool
 | 0,_=>false
 | n+1,r=>match nxt r with
  | none=>true
  | some (a,b)=>dep n a&&(b==0||dep n b)
theorem dep_k1:((List.range 94).all fun n=>dep 4 ((33+n:Nat):Int))=true:=by kernel_rfl
theorem dep_k2:(splitT.all fun s=>dep 4 s.2.1&&(s.2.2.1==0||dep 4 s.2.2.1))=true:=by kernel_rfl
theorem dep_all (r:Int):dep 5 r=true:=by
 unfold dep;cases h:nxt r with
 | none=>rfl
 | some p =>
  obtain ⟨a,b⟩:=p;dsimp only;unfold nxt at h;by_cases hw:65281≤r∧r≤65374
  · rw [decide_eq_true hw.1,decide_eq_true hw.2] at h
    simp only [Bool.and_self,cond_true,Option.some.injEq,Prod.mk.injEq] at h;obtain ⟨rfl,rfl⟩:=h;have:=List.all_eq_true.1 dep_k1 (r-65281).toNat (List.mem_range.2 (by omega))
    rw [show (((33+(r-65281).toNat:Nat)):Int)=r-65248 by omega] at this;rw [this];rfl
  · have e:(decide (65281≤r)&&decide (r≤65374))=false:=by simp;omega
    rw [e] at h;simp only [cond_false,Option.map_eq_some_iff] at h;obtain ⟨s,hs,he⟩:=h;have hm:s∈splitT:=List.mem_of_find?_eq_some hs;have:=List.all_eq_true.1 dep_k2 s hm;cases he;exact this
theorem c216n (T:List R6) (A:List R4) (B:List R3) (r:Int):Df (C119 (T,A,B,r,())) (fun v=>v.2.2.2.2.2.1=false∨nxt r=some (v.2.1,v.2.2.1)):=by
 unfold C119 nxt;dsimp only;with_reducible repeat' (first|apply dP|apply dX<;>intro _)
 · rename_i h
   refine .inr ?_;rw [decide_eq_true h.1,decide_eq_true h.2];rfl
 · rename_i h
   have e:(decide (65281≤r)&&decide (r≤65374))=false:=by simp;omega
   rw [e];cases splitD r with
   | none=>exact dP (.inl rfl)
   | some s=>exact dP (.inr rfl)
theorem d279c (G:T178) (r:Int) (sf b:Bool) (T:List R6) (A:List R4) (B:List R3) (v0 a c:Int) (s o:Bool) (K:Nat) (hK:1≤K)
 (ha:b=false→c=0→Df (G (T,A,B,a,sf,())) (fun y=>y.1.length≤K)) :
 Df (F178_c0 C119 G C225 C226 C227 (r,sf,b,T,A,B,v0,a,c,s,o,())) (Sum.elim (fun y=>y.1.length≤K) (fun y=>y=(sf,T,A,B,v0,a,c,s,o,())∧b=false∧c≠0)):=by
 unfold F178_c0;dsimp only;with_reducible repeat' (first|apply dP|apply dX<;>intro _)
 · exact (by simpa using hK:([r]:List Int).length≤K)
 · rename_i h1 h2
   exact dZ (ha h1 h2) fun y hy=>dP hy
 · rename_i h1 h2
   exact ⟨rfl,h1,h2⟩
theorem d279r (T:List R6) (A:List R4) (B:List R3):∀(n m:Nat) (r:Int) (sf:Bool),dep n r=true→n≤9 →
 Df (recN (fun G=>F178 C119 G C225 C226 C227 (F178_c0 C119 G C225 C226 C227)) (n+m) (T,A,B,r,sf,())) (fun y=>y.1.length≤3*2^n)
 | 0,m,r,sf,h,hn=>by cases h
 | n+1,m,r,sf,h,hn=>by
  rw [show n+1+m=(n+m)+1 by omega];show Df (F178 C119 (recN (fun G=>F178 C119 G C225 C226 C227 (F178_c0 C119 G C225 C226 C227)) (n+m)) C225 C226 C227 (F178_c0 C119 (recN (fun G=>F178 C119 G C225 C226 C227 (F178_c0 C119 G C225 C226 C227)) (n+m)) C225 C226 C227) (T,A,B,r,sf,())) _;have ih:=d279r T A B n m;generalize recN (fun G=>F178 C119 G C225 C226 C227 (F178_c0 C119 G C225 C226 C227)) (n+m)=G at ih ⊢;have hp:3*2^n≤3*2^9:=Nat.mul_le_mul_left 3 (Nat.pow_le_pow_right (by omega) (by omega));have hp1:1≤2^n:=Nat.one_le_two_pow;have hp2:3*2^(n+1)=3*2^n+3*2^n:=by rw [Nat.pow_succ];omega
  generalize 3*2^n=K at ih hp hp2;have hK:3≤K∨True := .inr trivial;rw [hp2];have hK3:3≤K+K:=by
   have:3*2^1≤3*2^(n+1):=Nat.mul_le_mul_left 3 (Nat.pow_le_pow_right (by omega) (by omega));omega
  have ih':∀(r:Int) (sf:Bool),dep n r=true→Df (G (T,A,B,r,sf,())) (fun y=>y.1.length≤K):=fun r sf h=>ih r sf h (by omega);clear ih;unfold F178;dsimp only;refine dZ (c216n T A B r) ?_;rintro ⟨v0,a,c,s,o,is,u⟩ hv;dsimp only at hv ⊢;refine dZ (d300 _ _ _) ?_;rintro ⟨b,u⟩ -
  dsimp only;have two:is=true→c≠0→∀sf,Df ((G (T,A,B,a,sf,())).bind fun val_2=>(G (T,A,B,c,sf,())).bind fun val=>(C227 ([val_2.fst,val.fst],())).bind fun val=>some (val.fst,())) (fun y=>y.1.length≤K+K):=by
   intro his hc sf;rcases hv with rfl|hv
   · cases his
   · unfold dep at h
     rw [hv] at h;simp only [Bool.and_eq_true,Bool.or_eq_true,beq_iff_eq] at h;refine dZ (ih' a sf h.1) ?_;rintro ⟨p,u⟩ hp';refine dZ (ih' c sf (h.2.resolve_left hc)) ?_;rintro ⟨q,u⟩ hq;dsimp only at hp' hq ⊢;refine dZ (d302 p q (by omega) (by omega)) ?_;rintro ⟨z,u⟩ hz;exact dP (by dsimp only at hz ⊢;omega)
  have one:is=true→Df (G (T,A,B,a,sf,())) (fun y=>y.1.length≤K+K):=by
   intro his;rcases hv with rfl|hv
   · cases his
   · unfold dep at h
     rw [hv] at h;simp only [Bool.and_eq_true] at h;exact (ih' a sf h.1).mono fun _ h=>by omega
  with_reducible repeat' (first|apply dP|apply dX<;>intro _)
  · refine dZ (d301 _) ?_
    rintro ⟨l,u⟩ hl;exact dP (by dsimp only at hl ⊢;omega)
  · refine dZ (d279c G r sf true T A B v0 a c s o (K+K) (by omega) (fun h=>by cases h)) ?_
    intro z hz;refine dS hz (fun y hy=>dP hy) ?_;rintro y ⟨-,h,-⟩;cases h
  · rename_i h1 h2 h3
    refine dZ (d279c G r sf (!sf) T A B v0 a c s o (K+K) (by omega) (fun _ _=>one h2)) ?_;intro z hz;refine dS hz (fun y hy=>dP hy) ?_;rintro y ⟨rfl,-,hc⟩;exact two h2 hc sf
  · rename_i h1 h2 h3
    refine dZ (d279c G r sf false T A B v0 a c s o (K+K) (by omega) (fun _ _=>one h2)) ?_;intro z hz;refine dS hz (fun y hy=>dP hy) ?_;rintro y ⟨rfl,-,hc⟩;exact two h2 hc sf
theorem d279 (T:List R6) (A:List R4) (B:List R3) (r:Int) (sf:Bool):Df (C178 (T,A,B,r,sf,())) (fun y=>y.1.length≤96):=by
 obtain ⟨m,hm⟩:∃m,big=5+m:=⟨big-5,by unfold big;omega⟩
 show Df (recN (fun G=>F178 C119 G C225 C226 C227 (F178_c0 C119 G C225 C226 C227)) big _) _;rw [hm];exact d279r T A B 5 m r sf (dep_all r) (by omega)
theorem d240 (T:List R6) (A:List R4) (B:List R3) (l:List Int) (sf:Bool) (hl:l.length≤100000000000):Df (C143 (T,A,B,l,sf,())) (fun y=>y.1.length≤96*l.length):=by
 show Df (F143 C178 C143_l0 _) _;unfold F143;dsimp only;refine dZ (P:=fun y=>y.1.length≤96*l.length) ?_ (fun _ h=>dP h);refine dL ?I ?m ?h _ ?hv ?hn
 case I=>exact (fun v=>v.2.1=l∧v.2.2.1=l.length∧0≤v.2.2.2.1∧v.2.2.2.1≤l.length∧v.2.2.2.2.2.2.2.1.length≤96*v.2.2.2.1)
 case m=>exact (fun v=>(l.length-v.2.2.2.1).toNat)
 case hv=>exact ⟨rfl,rfl,by (try dsimp only);omega,by (try dsimp only);omega,by simp⟩
 case hn=>exact (by (try dsimp only);omega)
 rintro ⟨x0,x1,x2,x3,x4,x5,x6,x7,u⟩ hI;dsimp only at hI;obtain ⟨rfl,rfl,h0,h1,h2⟩:=hI;unfold F143_l0;dsimp only;with_reducible repeat' (first|apply dP|apply dX<;>intro _)
 · refine dZ (d279 _ _ _ _ _) ?_
   rintro ⟨z,u⟩ hz;dsimp only at hz ⊢;rw [w64s (n:=x3+1) (by omega)];with_reducible repeat' (first|apply dP|apply dX<;>intro _)
   · exact ⟨⟨rfl,rfl,by (try dsimp only);omega,by (try dsimp only);omega,by simp only [List.length_append];omega⟩,by (try dsimp only);omega⟩
   · refine dO ?_;omega
 · refine dO ?_;omega
 · exact (by (try dsimp only);omega:x7.length≤96*x1.length)
theorem d303 (T:List R6) (A:List R4) (B:List R3) (a b:Int):Df (C228 (T,A,B,a,b,())) (fun _=>True):=by
 unfold C228;dsimp only;cases pairD a b with
 | none=>exact dP trivial
 | some s=>exact dP trivial
theorem d280_0 (a b:Int) (f:Bool) (T:List R6) (A:List R4) (B:List R3):Df (C179_c0 (a,b,f,T,A,B,())) (fun _=>True):=by
 show Df (F179_c0 C225 C228 _) _;unfold F179_c0;dsimp only;with_reducible repeat' (first|apply dP|apply dX<;>intro _)
 · trivial
 · refine dZ (d300 _ _ _) ?_
   rintro ⟨z,u⟩ -
   dsimp only;with_reducible repeat' (first|apply dP|apply dX<;>intro _)
   · refine dZ (d300 _ _ _) ?_
     rintro ⟨z,u⟩ -
     dsimp only;with_reducible repeat' (first|apply dP|apply dX<;>intro _)
     all_goals trivial
   all_goals trivial
theorem d280 (T:List R6) (A:List R4) (B:List R3) (a b:Int):Df (C179 (T,A,B,a,b,())) (fun _=>True):=by
 show Df (F179 C225 C228 C179_c0 _) _;unfold F179;dsimp only;have fin:∀f,Df ((C179_c0 (a,b,f,T,A,B,())).bind fun val=>Sum.elim (fun val=>some (val.fst,val.snd.fst,())) (fun val=>(C228 (val.snd.snd.fst,val.snd.snd.snd.fst,val.snd.snd.snd.snd.fst,val.fst,val.snd.fst,())).bind fun val=>some (val.fst,val.snd.fst,())) val) (fun _=>True):=by
  intro f;refine dZ (d280_0 a b f T A B) ?_;intro z hz;cases z with
  | inl y=>exact dP trivial
  | inr y=>exact dZ (d303 _ _ _ _ _) fun _ _=>dP trivial
 refine dZ (d300 _ _ _) ?_;rintro ⟨z,u⟩ -
 dsimp only;with_reducible repeat' (first|apply dP|apply dX<;>intro _)
 · refine dZ (d300 _ _ _) ?_
   rintro ⟨z,u⟩ -
   exact fin _
 · exact fin _
theorem d241_0 (x0 x1 x2 x3:Int) (x4:List Int) (x5 x6:Int) (x7:Bool) (x8:List R6) (x9:List R4) (x10:List R3) (x11:List Int) (h:x7=true→0≤x0∧x0<x11.length) :
 Df (C144_c0 (x0,x1,x2,x3,x4,x5,x6,x7,x8,x9,x10,x11,())) (Sum.elim (fun y=>∃l',l'.length=x11.length∧y=(x0,x1,x4,x5,x6,x8,x9,x10,l',())) (fun y=>y=(x0,x1,x2,x3,x4,x5,x6,x8,x9,x10,x11,()))):=by
 show Df (F144_c0 C175 C179 _) _;unfold F144_c0;dsimp only;with_reducible repeat' (first|apply dP|apply dX<;>intro _)
 · refine dZ (d280 _ _ _ _ _) ?_
   rintro ⟨a,b,u⟩ -
   dsimp only;with_reducible repeat' (first|apply dP|apply dX<;>intro _)
   · exact ⟨_,List.length_set,rfl⟩
   · rename_i h1 h2 h3 h4
     exact absurd h2 h4
   · exact rfl
 · rename_i h1 h2
   exact dO (h2 (h h1))
 · exact rfl
theorem d241 (T:List R6) (A:List R4) (B:List R3) (l:List Int) (hl:l.length≤10000000000000) (hA:A.length≤1000000000000):Df (C144 (T,A,B,l,())) (fun y=>y.1.length≤l.length):=by
 show Df (F144 C175 C179 C144_l0 _) _;unfold F144;dsimp only;refine dZ (P:=fun y=>y.1.length≤l.length) ?_ (fun _ h=>dP h);refine dL ?I ?m ?h _ ?hv ?hn
 case I=>exact (fun v=>v.2.2.1=l∧v.2.2.2.1=l.length∧0≤v.2.2.2.2.1∧v.2.2.2.2.1≤l.length∧v.2.2.2.2.2.2.1=A∧v.2.2.2.2.2.2.2.2.1.length≤v.2.2.2.2.1∧v.1<v.2.2.2.2.2.2.2.2.1.length)
 case m=>exact (fun v=>(l.length-v.2.2.2.2.1).toNat)
 case hv=>exact ⟨rfl,rfl,by (try dsimp only);omega,by (try dsimp only);omega,rfl,by simp,by simp⟩
 case hn=>exact (by (try dsimp only);omega)
 rintro ⟨x0,x1,x2,x3,x4,x5,x6,x7,x8,u⟩ hI;dsimp only at hI;obtain ⟨rfl,rfl,h0,h1,rfl,h2,h3⟩:=hI;have fin:∀(cl:Int) (f:Bool),(f=true→0≤x0∧x0<x8.length)→x4<x2.length→Df ((C144_c0 (x0,x1,x2.getD x4.toNat 0,cl,x2,(x2.length:Int),x4,f,x5,x6,x7,x8,())).bind fun val =>
  Sum.elim (fun val=>some (Sum.inl (val.fst,val.snd.fst,val.snd.snd.fst,val.snd.snd.snd.fst,IntKind.i64.wrap (val.snd.snd.snd.snd.fst+1),val.snd.snd.snd.snd.snd.fst,val.snd.snd.snd.snd.snd.snd.fst,val.snd.snd.snd.snd.snd.snd.snd.fst,val.snd.snd.snd.snd.snd.snd.snd.snd.fst,())))
   (fun val=>bif decide (List.length val.snd.snd.snd.snd.snd.snd.snd.snd.snd.snd.fst+[val.snd.snd.fst].length≤140737488355328/4) then
    bif val.snd.snd.snd.fst==0 then some (Sum.inl (IntKind.i64.wrap ((↑(val.snd.snd.snd.snd.snd.snd.snd.snd.snd.snd.fst++[val.snd.snd.fst]).length:Int)-1),0,val.snd.snd.snd.snd.fst,val.snd.snd.snd.snd.snd.fst,IntKind.i64.wrap (val.snd.snd.snd.snd.snd.snd.fst+1),val.snd.snd.snd.snd.snd.snd.snd.fst,val.snd.snd.snd.snd.snd.snd.snd.snd.fst,val.snd.snd.snd.snd.snd.snd.snd.snd.snd.fst,val.snd.snd.snd.snd.snd.snd.snd.snd.snd.snd.fst++[val.snd.snd.fst],()))
    else some (Sum.inl (val.fst,if val.snd.snd.snd.fst>val.snd.fst then val.snd.snd.snd.fst else val.snd.fst,val.snd.snd.snd.snd.fst,val.snd.snd.snd.snd.snd.fst,IntKind.i64.wrap (val.snd.snd.snd.snd.snd.snd.fst+1),val.snd.snd.snd.snd.snd.snd.snd.fst,val.snd.snd.snd.snd.snd.snd.snd.snd.fst,val.snd.snd.snd.snd.snd.snd.snd.snd.snd.fst,val.snd.snd.snd.snd.snd.snd.snd.snd.snd.snd.fst++[val.snd.snd.fst],()))
    else none) val)
  (Sum.elim (fun v':Int×Int×List Int×Int×Int×List R6×List R4×List R3×List Int×Unit=>(v'.2.2.1=x2∧v'.2.2.2.1=(x2.length:Int)∧0≤v'.2.2.2.2.1∧v'.2.2.2.2.1≤x2.length∧v'.2.2.2.2.2.2.1=x6∧v'.2.2.2.2.2.2.2.2.1.length≤v'.2.2.2.2.1∧v'.1<v'.2.2.2.2.2.2.2.2.1.length)∧(x2.length-v'.2.2.2.2.1).toNat<(x2.length-x4).toNat) (fun y:List Int×Unit=>y.1.length≤x2.length)):=by
  intro cl f hf hlt;refine dZ (d241_0 _ _ _ _ _ _ _ _ _ _ _ _ hf) ?_;intro z hz;refine dS hz ?_ ?_
  · rintro y ⟨l',hl',rfl⟩
    dsimp only;rw [w64s (n:=x4+1) (by omega)];exact dP ⟨⟨rfl,rfl,by (try dsimp only);omega,by (try dsimp only);omega,rfl,by (try dsimp only);omega,by (try dsimp only);omega⟩,by (try dsimp only);omega⟩
  · rintro y rfl
    dsimp only;rw [w64s (n:=x4+1) (by omega),w64s (n:=((x8++[x2.getD x4.toNat 0]).length:Int)-1) (by simp only [vl];omega)];with_reducible repeat' (first|apply dP|apply dX<;>intro _)
    · exact ⟨⟨rfl,rfl,by (try dsimp only);omega,by (try dsimp only);omega,rfl,by simp only [vl];omega,by simp only [vl];omega⟩,by (try dsimp only);omega⟩
    · exact ⟨⟨rfl,rfl,by (try dsimp only);omega,by (try dsimp only);omega,rfl,by simp only [vl];omega,by simp only [vl];omega⟩,by (try dsimp only);omega⟩
    · refine dO ?_;simp only [List.length_cons,List.length_nil] at *;omega
 unfold F144_l0;dsimp only;with_reducible repeat' (first|apply dP|apply dX<;>intro _)
 · rename_i h4 h5
   refine dZ (d276 _ _ _ _ hA) ?_;rintro ⟨cl,u⟩ -
   dsimp only;with_reducible repeat' (first|apply dP|apply dX<;>intro _)
   · exact fin _ _ (fun _=>by omega) (by omega)
   · exact fin _ _ (fun _=>by omega) (by omega)
   · exact fin _ _ (fun h=>by cases h) (by omega)
 · refine dO ?_;omega
 · exact (by (try dsimp only);omega:x8.length≤x2.length)
theorem d290 (a b:Int):Df (C233 (a,b,())) (fun y=>1≤y.1∧y.1≤26):=by
 show Df (F233 _) _;unfold F233;dsimp only;refine dP ?_;dsimp only;generalize IntKind.i64.wrap (a-b)=n;split<;>split<;>omega
theorem d291_0 (a:Int) (b:Bool):Df (C234_c0 (a,b,())) (fun _=>True):=by
 show Df (F234_c0 _) _;unfold F234_c0;dsimp only;with_reducible repeat' (first|apply dP|apply dX<;>intro _)
 all_goals trivial
theorem d291 (a:Int):Df (C234 (a,())) (fun _=>True):=by
 show Df (F234 C234_c0 _) _;unfold F234;dsimp only;with_reducible repeat' (first|apply dP|apply dX<;>intro _)
 all_goals (refine dZ (d291_0 _ _) ?_;intro z hz;cases z<;>exact dP trivial)
theorem d251_l (n b k:Int) (out:List UInt8) (j:Nat) (h0:0≤n) (h1:n<10^j) (hb:out.length+j≤100000000000000) (hn:n≤100000000000000) :
 Df (C191_l0 (n,b,k,out,())) (fun y=>y.1.length≤out.length+j+1):=by
 refine dL ?I ?m ?h _ ?hv ?hn
 case I=>exact (fun v=>∃j':Nat,0≤v.1∧v.1<10^j'∧v.1≤n∧v.2.2.2.1.length+j'≤out.length+j)
 case m=>exact (fun v=>v.1.toNat)
 case hv=>exact ⟨j,h0,h1,Int.le_refl _,Nat.le_refl _⟩
 case hn=>exact (by (try dsimp only);omega)
 rintro ⟨x0,x1,x2,x3,u⟩ hI;dsimp only at hI;obtain ⟨j',i0,i1,i2,i3⟩:=hI;unfold F191_l0;dsimp only;refine dZ (d290 _ _) ?_;rintro ⟨t,u⟩ ht;dsimp only at ht ⊢;with_reducible repeat' (first|apply dP|apply dX<;>intro _)
 · refine dZ (d291 _) ?_
   rintro ⟨d,d',u⟩ -
   dsimp only;with_reducible repeat' (first|apply dP|apply dX<;>intro _)
   · exact (by simp only [vl];omega:(x3++[_]).length≤out.length+j+1)
   · refine dO ?_;simp only [List.length_cons,List.length_nil] at *;omega
 · rename_i hge hne
   refine dZ (d291 _) ?_;rintro ⟨d,d',u⟩ -
   dsimp only;rw [w64s (n:=36-t) (by omega)] at hne ⊢;rw [w64s (n:=x0-t) (by omega),Int.tdiv_eq_ediv_of_nonneg (by omega)];have q0:0≤(x0-t)/(36-t):=Int.ediv_nonneg (by omega) (by omega);have q1:(x0-t)/(36-t)*(36-t)≤x0-t:=Int.ediv_mul_le _ (by omega);have q2:(x0-t)/(36-t)*10≤(x0-t)/(36-t)*(36-t):=Int.mul_le_mul_of_nonneg_left (by omega) q0;generalize (x0-t)/(36-t)=q at q0 q1 q2 ⊢;rw [w64s (n:=q) (by omega)];with_reducible repeat' (first|apply dP|apply dX<;>intro _)
   · obtain ⟨i,rfl⟩:∃i,j'=i+1:=by
      cases j' with
      | zero=>simp at i1;omega
      | succ i=>exact ⟨i,rfl⟩
     rw [Int.pow_succ] at i1;generalize hP:(10:Int)^i=P at i1;refine ⟨⟨i,q0,?_,?_,?_⟩,?_⟩
     · show q<10^i
       rw [hP];omega
     · dsimp only;omega
     · simp only [vl];omega
     · dsimp only;omega
   · rename_i hz
     exact absurd hz hne
   · refine dO ?_;simp only [List.length_cons,List.length_nil] at *;omega
 · rename_i hge hne
   rw [w64s (n:=36-t) (by omega)] at hne;refine dO ?_;omega
theorem d251 (n b:Int) (out:List UInt8) (h0:0≤n) (h1:n<10^13) (hb:out.length≤90000000000000) :
 Df (C191 (n,b,out,())) (fun y=>y.1.length≤out.length+14):=by
 show Df (F191 C233 C234 C191_l0 _) _;unfold F191;dsimp only;refine dZ (d290 _ _) ?_;rintro ⟨t,u⟩ ht;dsimp only at ht ⊢;have h13:(10:Int)^13=10000000000000:=rfl;have h12:(10:Int)^12=1000000000000:=rfl;rw [h13] at h1;with_reducible repeat' (first|apply dP|apply dX<;>intro _)
 · refine dZ (d291 _) ?_
   rintro ⟨d,d',u⟩ -
   dsimp only;with_reducible repeat' (first|apply dP|apply dX<;>intro _)
   · exact (by simp only [vl];omega:(out++[_]).length≤out.length+14)
   · refine dO ?_;simp only [List.length_cons,List.length_nil] at *;omega
 · rename_i hge hne
   refine dZ (d291 _) ?_;rintro ⟨d,d',u⟩ -
   dsimp only;rw [w64s (n:=36-t) (by omega)] at hne ⊢;rw [w64s (n:=n-t) (by omega),Int.tdiv_eq_ediv_of_nonneg (by omega)];have q0:0≤(n-t)/(36-t):=Int.ediv_nonneg (by omega) (by omega);have q1:(n-t)/(36-t)*(36-t)≤n-t:=Int.ediv_mul_le _ (by omega);have q2:(n-t)/(36-t)*10≤(n-t)/(36-t)*(36-t):=Int.mul_le_mul_of_nonneg_left (by omega) q0;generalize (n-t)/(36-t)=q at q0 q1 q2 ⊢;rw [w64s (n:=q) (by omega)];with_reducible repeat' (first|apply dP|apply dX<;>intro _)
   · refine dZ (d251_l q b _ (out++[UInt8.ofNat (Int.toNat d)]) 12 q0 (by rw [h12];omega) (by simp only [vl];omega) (by omega)) ?_
     rintro ⟨y,u⟩ hy;simp only [vl] at hy;exact dP (by (try dsimp only);omega)
   · rename_i hz
     exact absurd hz hne
   · refine dO ?_;simp only [List.length_cons,List.length_nil] at *;omega
 · rename_i hge hne
   rw [w64s (n:=36-t) (by omega)] at hne;refine dO ?_;omega
theorem d252_l (a b:Int) (h0:0≤a) (h1:a≤100000000000000000):Df (C192_l0 (a,b,())) (fun y=>0≤y.1∧y.1≤455):=by
 refine dL ?I ?m ?h _ ?hv ?hn
 case I=>exact (fun v=>0≤v.1∧v.1≤100000000000000000)
 case m=>exact (fun v=>v.1.toNat)
 case hv=>exact ⟨h0,h1⟩
 case hn=>exact (by (try dsimp only);omega)
 rintro ⟨x0,x1,u⟩ hI;dsimp only at hI;unfold F192_l0;dsimp only;with_reducible repeat' (first|apply dP|apply dX<;>intro _)
 · rw [Int.tdiv_eq_ediv_of_nonneg (by omega),w64s (n:=x0/35) (by omega)]
   exact ⟨⟨by (try dsimp only);omega,by (try dsimp only);omega⟩,by (try dsimp only);omega⟩
 · exact ⟨by (try dsimp only);omega,by (try dsimp only);omega⟩
theorem d252_0 (a c:Int) (h0:0≤a) (h1:a≤10000000000000000):Df (C192_c0 (a,c,())) (fun _=>True):=by
 show Df (F192_c0 C192_l0 _) _;unfold F192_c0;dsimp only;have hm:1≤(if c>1 then c else 1):=by split<;>omega
 generalize (if c>1 then c else 1)=m at hm;have q0:0≤a/m:=Int.ediv_nonneg h0 (by omega);have q1:a/m≤a:=Int.ediv_le_self _ h0;rw [Int.tdiv_eq_ediv_of_nonneg h0,w64s (n:=a/m) (by omega),w64s (n:=a+a/m) (by omega)];with_reducible repeat' (first|apply dP|apply dX<;>intro _)
 · refine dZ (d252_l _ _ (by omega) (by omega)) ?_
   rintro ⟨x,y,u⟩ h;dsimp only at h ⊢;rw [w64s (n:=x+38) (by omega)];with_reducible repeat' (first|apply dP|apply dX<;>intro _)
   · trivial
   · refine dO ?_;omega
 · refine dO ?_;omega
theorem d252 (a c:Int) (f:Bool) (h0:0≤a) (h1:a≤10000000000000000):Df (C192 (a,c,f,())) (fun _=>True):=by
 show Df (F192 C192_c0 _) _;unfold F192;dsimp only;rw [Int.tdiv_eq_ediv_of_nonneg h0,Int.tdiv_eq_ediv_of_nonneg h0,w64s (n:=a/700) (by omega),w64s (n:=a/2) (by omega)];with_reducible repeat' (first|apply dP|apply dX<;>intro _)
 · exact dZ (d252_0 _ _ (by omega) (by omega)) fun _ _=>dP trivial
 · exact dZ (d252_0 _ _ (by omega) (by omega)) fun _ _=>dP trivial
def cnt (n:Int) (l:List Int):Nat:=l.countP fun r=>decide (r<n)
def ceq (n:Int) (l:List Int):Nat:=l.countP fun r=>decide (r=n)
theorem cnt_le (n:Int) (l:List Int):cnt n l≤l.length:=List.countP_le_length
theorem cnt_succ (n:Int):∀l:List Int,cnt (n+1) l=cnt n l+ceq n l
 | []=>rfl
 | x::l=>by
  have ih:=cnt_succ n l;unfold cnt ceq at *
  simp only [List.countP_cons,decide_eq_true_eq];split<;>split<;>split<;>omega
theorem cnt_same {n m:Int} (h:n≤m):∀{l:List Int},(∀r∈l,n≤r→m≤r)→cnt m l=cnt n l
 | [],_=>rfl
 | x::l,hl=>by
  have ih:=cnt_same (l:=l) h fun r hr=>hl r (List.mem_cons_of_mem _ hr);have hx:=hl x List.mem_cons_self;unfold cnt at *
  simp only [List.countP_cons,decide_eq_true_eq];split<;>split<;>omega
theorem cnt_all {n:Int}:∀{l:List Int},(∀r∈l,r<n)→cnt n l=l.length
 | [],_=>rfl
 | x::l,hl=>by
  have ih:=cnt_all (l:=l) fun r hr=>hl r (List.mem_cons_of_mem _ hr);have hx:=hl x List.mem_cons_self;unfold cnt at *
  simp only [List.countP_cons,List.length_cons,decide_eq_true_eq,hx,if_true];omega
theorem ceq_pos {n:Int}:∀{l:List Int},n∈l→1≤ceq n l
 | x::l,h=>by
  unfold ceq;simp only [List.countP_cons,decide_eq_true_eq];rcases List.mem_cons.1 h with rfl|h
  · simp
  · have:=ceq_pos h
    unfold ceq at this;omega
theorem ceq_take {n:Int} {l:List Int} {i:Nat} (h:i<l.length):ceq n (l.take (i+1))=ceq n (l.take i)+if l[i]=n then 1 else 0:=by
 unfold ceq;rw [take_succ_get h,List.countP_append];simp [List.countP_cons]
theorem cnt_take {n:Int} {l:List Int} {i:Nat} (h:i<l.length):cnt n (l.take (i+1))=cnt n (l.take i)+if l[i]<n then 1 else 0:=by
 unfold cnt;rw [take_succ_get h,List.countP_append];simp [List.countP_cons]
theorem ceq_le_take (n:Int) (l:List Int) (i:Nat):ceq n (l.take i)≤ceq n l:=by
 unfold ceq;exact (List.take_sublist i l).countP_le
theorem d250 (l:List Int) (n:Int) (hn:0≤n) (hl:l.length≤1000000000000):Df (C190 (l,n,())) (fun y=>(y.1<0∧∀r∈l,r<n)∨(y.1∈l∧n≤y.1∧∀r∈l,n≤r→y.1≤r)):=by
 show Df (F190 C190_l0 _) _;unfold F190;dsimp only;refine dZ (P:=fun y=>(y.1<0∧∀r∈l,r<n)∨(y.1∈l∧n≤y.1∧∀r∈l,n≤r→y.1≤r)) ?_ (fun _ h=>dP h);refine dL ?I ?m ?h _ ?hv ?hn
 case I=>exact (fun v=>v.1=n∧v.2.2.1=l∧v.2.2.2.1=l.length∧0≤v.2.2.2.2.1∧v.2.2.2.2.1≤l.length∧((v.2.1<0∧∀r∈l.take v.2.2.2.2.1.toNat,r<n)∨(v.2.1∈l∧n≤v.2.1∧∀r∈l.take v.2.2.2.2.1.toNat,n≤r→v.2.1≤r)))
 case m=>exact (fun v=>(l.length-v.2.2.2.2.1).toNat)
 case hv=>exact ⟨rfl,rfl,rfl,by (try dsimp only);omega,by (try dsimp only);omega,.inl ⟨by (try dsimp only);omega,by simp⟩⟩
 case hn=>exact (by (try dsimp only);omega)
 rintro ⟨x0,x1,x2,x3,x4,u⟩ hI;dsimp only at hI;obtain ⟨rfl,rfl,rfl,h0,h1,hI⟩:=hI;unfold F190_l0;dsimp only;with_reducible repeat' (first|apply dP|apply dX<;>intro _)
 all_goals try rw [w64s (n:=x4+1) (by omega)]
 · rename_i a1 a2 a3 a4
   have hlt:x4.toNat<x2.length:=by omega
   rw [getD_lt hlt] at a3 ⊢;refine ⟨⟨rfl,rfl,rfl,by (try dsimp only);omega,by (try dsimp only);omega,.inr ⟨List.getElem_mem hlt,a3,?_⟩⟩,by (try dsimp only);omega⟩;dsimp only;intro r hr hge;rw [show (x4+1).toNat=x4.toNat+1 by omega,take_succ_get hlt] at hr;rcases List.mem_append.1 hr with hr|hr
   · rcases hI with ⟨_,hI⟩|⟨_,hx,_⟩
     · have:=hI r hr;omega
     · omega
   · rw [List.mem_singleton] at hr;omega
 · rename_i a1 a2 a3 a4 a5
   have hlt:x4.toNat<x2.length:=by omega
   rw [getD_lt hlt] at a3 a5 ⊢;refine ⟨⟨rfl,rfl,rfl,by (try dsimp only);omega,by (try dsimp only);omega,.inr ⟨List.getElem_mem hlt,a3,?_⟩⟩,by (try dsimp only);omega⟩;dsimp only;intro r hr hge;rw [show (x4+1).toNat=x4.toNat+1 by omega,take_succ_get hlt] at hr;rcases List.mem_append.1 hr with hr|hr
   · rcases hI with ⟨hx,_⟩|⟨_,hx,hI⟩
     · omega
     · have:=hI r hr hge;omega
   · rw [List.mem_singleton] at hr;omega
 · rename_i a1 a2 a3 a4 a5
   have hlt:x4.toNat<x2.length:=by omega
   rw [getD_lt hlt] at a3 a5;refine ⟨⟨rfl,rfl,rfl,by (try dsimp only);omega,by (try dsimp only);omega,?_⟩,by (try dsimp only);omega⟩;dsimp only;rcases hI with ⟨hx,_⟩|⟨hm,hx,hI⟩
   · omega
   · refine .inr ⟨hm,hx,fun r hr hge => ?_⟩
     rw [show (x4+1).toNat=x4.toNat+1 by omega,take_succ_get hlt] at hr;rcases List.mem_append.1 hr with hr|hr
     · exact hI r hr hge
     · rw [List.mem_singleton] at hr;omega
 · rename_i a1 a2 a3
   have hlt:x4.toNat<x2.length:=by omega
   rw [getD_lt hlt] at a3;refine ⟨⟨rfl,rfl,rfl,by (try dsimp only);omega,by (try dsimp only);omega,?_⟩,by (try dsimp only);omega⟩;dsimp only;rcases hI with ⟨hx,hI⟩|⟨hm,hx,hI⟩
   · refine .inl ⟨hx,fun r hr => ?_⟩
     rw [show (x4+1).toNat=x4.toNat+1 by omega,take_succ_get hlt] at hr;rcases List.mem_append.1 hr with hr|hr
     · exact hI r hr
     · rw [List.mem_singleton] at hr;omega
   · refine .inr ⟨hm,hx,fun r hr hge => ?_⟩
     rw [show (x4+1).toNat=x4.toNat+1 by omega,take_succ_get hlt] at hr;rcases List.mem_append.1 hr with hr|hr
     · exact hI r hr hge
     · rw [List.mem_singleton] at hr;omega
 · refine dO ?_;omega
 · rw [List.take_of_length_le (by omega)] at hI
   exact hI
theorem d223_0 (l:List Int) (hl:l.length≤1000000000000):Df (C157_l0 (l,l,(l.length:Int),0,[],())) (Sum.elim (fun y=>y.1=l∧(∀r∈l,0≤r∧r≤1114111)∧y.2.1.length=cnt 128 l) (fun y=>y.1=[])):=by
 refine dL ?I ?m ?h _ ?hv ?hn
 case I=>exact (fun v=>v.1=l∧v.2.1=l∧v.2.2.1=l.length∧0≤v.2.2.2.1∧v.2.2.2.1≤l.length∧(∀r∈l.take v.2.2.2.1.toNat,0≤r∧r≤1114111)∧v.2.2.2.2.1.length=cnt 128 (l.take v.2.2.2.1.toNat))
 case m=>exact (fun v=>(l.length-v.2.2.2.1).toNat)
 case hv=>exact ⟨rfl,rfl,rfl,by (try dsimp only);omega,by (try dsimp only);omega,by simp,rfl⟩
 case hn=>exact (by (try dsimp only);omega)
 rintro ⟨x0,x1,x2,x3,x4,u⟩ hI;dsimp only at hI;obtain ⟨rfl,rfl,rfl,h0,h1,h2,h3⟩:=hI;unfold F157_l0;dsimp only;with_reducible repeat' (first|apply dP|apply dX<;>intro _)
 · refine dZ (d155 _) ?_
   rintro ⟨b,u⟩ hb;dsimp only at hb ⊢;have hlt:x3.toNat<x1.length:=by omega
   have hc:=cnt_le 128 (x1.take x3.toNat);rw [List.length_take] at hc;have hr:b=true→∀r∈x1.take (x3.toNat+1),0≤r∧r≤1114111:=by
    intro hbt r hr;rw [take_succ_get hlt] at hr;rcases List.mem_append.1 hr with hr|hr
    · exact h2 r hr
    · rw [List.mem_singleton] at hr
      have:=hb hbt;rw [getD_lt hlt] at this;subst hr;exact this
   have hct:=cnt_take (n:=128) hlt;have hs:(x3+1).toNat=x3.toNat+1:=by omega
   rw [w64s (n:=x3+1) (by omega)];with_reducible repeat' (first|apply dP|apply dX<;>intro _)
   · exact rfl
   · rename_i hbt hlow _
     rw [getD_lt hlt] at hlow;rw [if_pos hlow] at hct;exact ⟨⟨rfl,rfl,rfl,by (try dsimp only);omega,by (try dsimp only);omega,by dsimp only;rw [hs];exact hr hbt,by dsimp only;rw [hs,List.length_append,hct,h3];rfl⟩,by (try dsimp only);omega⟩
   · refine dO ?_;simp only [List.length_cons,List.length_nil] at *;omega
   · rename_i hbt hlow
     rw [getD_lt hlt] at hlow;rw [if_neg hlow] at hct;exact ⟨⟨rfl,rfl,rfl,by (try dsimp only);omega,by (try dsimp only);omega,by dsimp only;rw [hs];exact hr hbt,by dsimp only;rw [hs,hct,h3];rfl⟩,by (try dsimp only);omega⟩
 · refine dO ?_;omega
 · rw [List.take_of_length_le (by omega)] at h2 h3
   exact ⟨rfl,h2,h3⟩
theorem d223_1 (l:List Int) (p m delta bias h:Int) (out:List UInt8) (hl:l.length≤1000000000000) (hh:h=cnt m l) (hd:0≤delta∧delta≤2147483647) (ho:out.length≤l.length+1+14*cnt m l) :
 Df (C157_l1 (l,p,m,delta,bias,h,l,(l.length:Int),0,out,())) (fun y=>y.1=l∧y.2.1=p∧y.2.2.1=m∧0≤y.2.2.2.1∧y.2.2.2.1≤2147483647+l.length∧y.2.2.2.2.2.1=cnt m l+ceq m l∧y.2.2.2.2.2.2.1.length≤l.length+1+14*(cnt m l+ceq m l)):=by
 refine dL ?I ?m ?h _ ?hv ?hn
 case I=>exact (fun v=>v.1=l∧v.2.1=p∧v.2.2.1=m∧0≤v.2.2.2.1∧v.2.2.2.1≤2147483647+v.2.2.2.2.2.2.2.2.1∧v.2.2.2.2.2.1=cnt m l+ceq m (l.take v.2.2.2.2.2.2.2.2.1.toNat)∧v.2.2.2.2.2.2.1=l∧v.2.2.2.2.2.2.2.1=l.length∧0≤v.2.2.2.2.2.2.2.2.1∧v.2.2.2.2.2.2.2.2.1≤l.length∧v.2.2.2.2.2.2.2.2.2.1.length≤l.length+1+14*(cnt m l+ceq m (l.take v.2.2.2.2.2.2.2.2.1.toNat)))
 case m=>exact (fun v=>(l.length-v.2.2.2.2.2.2.2.2.1).toNat)
 case hv=>exact ⟨rfl,rfl,rfl,hd.1,by (try dsimp only);omega,by dsimp only;rw [hh];simp [ceq],rfl,rfl,by (try dsimp only);omega,by (try dsimp only);omega,by dsimp only;simpa [ceq] using ho⟩
 case hn=>exact (by (try dsimp only);omega)
 rintro ⟨x0,x1,x2,x3,x4,x5,x6,x7,x8,x9,u⟩ hI;dsimp only at hI;obtain ⟨rfl,rfl,rfl,h0,h1,rfl,rfl,rfl,h2,h3,h4⟩:=hI;have c1:=cnt_le x2 x6;have c2:=ceq_le_take x2 x6 x8.toNat
 have c3:ceq x2 x6≤x6.length:=List.countP_le_length;unfold F157_l1;dsimp only;with_reducible repeat' (first|apply dP|apply dX<;>intro _)
 all_goals try rw [w64s (n:=x8+1) (by omega)]
 · rename_i a1 a2 a3
   have hlt:x8.toNat<x6.length:=by omega
   have hct:=ceq_take (n:=x2) hlt;have hs:(x8+1).toNat=x8.toNat+1:=by omega
   rw [getD_lt hlt] at a3;rw [if_neg (by omega)] at hct;rw [w64s (n:=x3+1) (by omega)];refine ⟨⟨rfl,rfl,rfl,by (try dsimp only);omega,by (try dsimp only);omega,?_,rfl,rfl,by (try dsimp only);omega,by (try dsimp only);omega,?_⟩,by (try dsimp only);omega⟩
   · dsimp only;rw [hs,hct];simp
   · dsimp only;rw [hs,hct];omega
 · rename_i a1 a2 a3 a4
   have hlt:x8.toNat<x6.length:=by omega
   have hct:=ceq_take (n:=x2) hlt;have hs:(x8+1).toNat=x8.toNat+1:=by omega
   rw [getD_lt hlt] at a3 a4;rw [if_pos a4] at hct;refine dZ (d251 _ _ _ h0 (by rw [show (10:Int)^13=10000000000000 from rfl];omega) (by omega)) ?_;rintro ⟨y,u⟩ hy;dsimp only at hy ⊢;rw [w64s (n:=((cnt x2 x6:Int)+(ceq x2 (x6.take x8.toNat):Int))+1) (by omega)];refine dZ (d252 _ _ _ h0 (by omega)) ?_;rintro ⟨z,u⟩ -
   dsimp only;refine dP ⟨⟨rfl,rfl,rfl,by (try dsimp only);omega,by (try dsimp only);omega,?_,rfl,rfl,by (try dsimp only);omega,by (try dsimp only);omega,?_⟩,by (try dsimp only);omega⟩
   · dsimp only;rw [hs,hct];simp;omega
   · dsimp only;rw [hs,hct];omega
 · rename_i a1 a2 a3 a4
   have hlt:x8.toNat<x6.length:=by omega
   have hct:=ceq_take (n:=x2) hlt;have hs:(x8+1).toNat=x8.toNat+1:=by omega
   rw [getD_lt hlt] at a3 a4;rw [if_neg a4] at hct;refine ⟨⟨rfl,rfl,rfl,by (try dsimp only);omega,by (try dsimp only);omega,?_,rfl,rfl,by (try dsimp only);omega,by (try dsimp only);omega,?_⟩,by (try dsimp only);omega⟩
   · dsimp only;rw [hs,hct];simp
   · dsimp only;rw [hs,hct];omega
 · refine dO ?_;omega
 · rw [List.take_of_length_le (by omega)] at h4 ⊢
   exact ⟨rfl,rfl,rfl,by (try dsimp only);omega,by (try dsimp only);omega,rfl,h4⟩
theorem d223_2 (l:List Int) (out:List UInt8) (hl:l.length≤1000000000000) (hr:∀r∈l,0≤r∧r≤1114111) (ho:out.length≤l.length+1) :
 Df (C157_l2 (l,(cnt 128 l:Int),128,0,72,(cnt 128 l:Int),out,())) (Sum.elim (fun y=>y.1.length≤15*l.length+1) (fun y=>y.1=[])):=by
 refine dL ?I ?m ?h _ ?hv ?hn
 case I=>exact (fun v=>v.1=l∧128≤v.2.2.1∧v.2.2.1≤1114112∧0≤v.2.2.2.1∧v.2.2.2.1≤2147483648+l.length∧v.2.2.2.2.2.1=cnt v.2.2.1 l∧v.2.2.2.2.2.2.1.length≤l.length+1+14*cnt v.2.2.1 l)
 case m=>exact (fun v=>l.length-cnt v.2.2.1 l)
 case hv=>exact ⟨rfl,by (try dsimp only);omega,by (try dsimp only);omega,by (try dsimp only);omega,by (try dsimp only);omega,rfl,by (try dsimp only);omega⟩
 case hn=>exact (by (try dsimp only);omega)
 rintro ⟨x0,x1,x2,x3,x4,x5,x6,u⟩ hI;dsimp only at hI;obtain ⟨rfl,h0,h1,h2,h3,rfl,h4⟩:=hI;have c1:=cnt_le x2 x0;unfold F157_l2;dsimp only;with_reducible repeat' (first|apply dP|apply dX<;>intro _)
 · rename_i hlt
   refine dZ (d250 x0 x2 (by omega) hl) ?_;rintro ⟨m,u⟩ hm;dsimp only at hm ⊢;rcases hm with ⟨_,hm⟩|⟨hm,hnm,hmin⟩
   · have:=cnt_all hm
     omega
   · have hm2:=hr m hm
     have hp0:0≤(m-x2)*((cnt x2 x0:Int)+1):=Int.mul_nonneg (by omega) (by omega);have hp1:(m-x2)*((cnt x2 x0:Int)+1)≤1114111*((cnt x2 x0:Int)+1):=Int.mul_le_mul_of_nonneg_right (by omega) (by omega);rw [w32s (n:=m-x2) (by omega),w64s (n:=m-x2) (by omega),w64s (n:=(cnt x2 x0:Int)+1) (by omega)];generalize (m-x2)*((cnt x2 x0:Int)+1)=P at hp0 hp1 ⊢;rw [w64s (n:=P) (by omega),w64s (n:=x3+P) (by omega)];have hsame:=cnt_same hnm hmin;have hpos:=ceq_pos hm;have hsucc:=cnt_succ m x0;have c4:=cnt_le (m+1) x0;with_reducible repeat' (first|apply dP|apply dX<;>intro _)
     · exact rfl
     · refine dZ (d223_1 x0 x1 m (x3+P) x4 _ x6 hl (by rw [hsame]) (by omega) (by omega)) ?_
       rintro ⟨y0,y1,y2,y3,y4,y5,y6,u⟩ hy;dsimp only at hy ⊢;obtain ⟨rfl,rfl,rfl,k0,k1,rfl,k2⟩:=hy;rw [w32s (n:=y2+1) (by omega),w64s (n:=y3+1) (by omega)];refine dP ⟨⟨rfl,by (try dsimp only);omega,by (try dsimp only);omega,by (try dsimp only);omega,by (try dsimp only);omega,?_,?_⟩,?_⟩
       · dsimp only;rw [hsucc];simp
       · dsimp only;rw [hsucc];exact k2
       · dsimp only;omega
 · exact (by (try dsimp only);omega:x6.length≤15*x0.length+1)
theorem d223 (l:List Int) (hl:l.length≤1000000000000):Df (C157 (l,())) (fun y=>y.1.length≤15*l.length+1):=by
 show Df (F157 C190 C191 C192 C98 C157_c0 C157_l0 _) _;unfold F157;dsimp only;refine dZ (d223_0 l hl) ?_;intro z hz;refine dS hz ?_ ?_
 · rintro ⟨x0,x1,u⟩ hx
   dsimp only at hx ⊢;obtain ⟨rfl,hr,hc⟩:=hx;have c0:=cnt_le 128 x0;have fin:∀out:List UInt8,out.length≤x0.length+1→Df ((C157_c0 (x0,(x1.length:Int),out,())).bind fun val=>some (val.fst,val.snd.fst,())) (fun y=>y.1.length≤15*x0.length+1):=by
    intro out ho;refine dZ (P:=fun y=>y.1.length≤15*x0.length+1) ?_ (fun _ h=>dP h);show Df (F157_c0 C190 C191 C192 C98 C157_l2 _) _;unfold F157_c0;dsimp only;rw [hc];refine dZ (d223_2 x0 out hl hr ho) ?_;intro z hz;refine dS hz ?_ ?_
    · rintro ⟨y,u⟩ hy;exact dP hy
    · rintro ⟨y,b,u⟩ hy
      dsimp only at hy;subst hy;exact dP (by simp)
   with_reducible repeat' (first|apply dP|apply dX<;>intro _)
   · exact fin _ (by simp only [vl];omega)
   · refine dO ?_;simp only [List.length_cons,List.length_nil] at *;omega
   · exact fin _ (by omega)
 · rintro ⟨y,b,u⟩ hy
   dsimp only at hy;subst hy;exact dP (by simp)
structure TK (T:List R6) (A:List R4) (B:List R3):Prop where
 t:TOk T
 a:A.length≤1000000000000
 b:B.length≤1000000000000
section
variable {T:List R6} {A:List R4} {B:List R3}
theorem d304 (l:List Int) (p n:Int) (hp:0≤p∧p≤1000000000000000) (hn : -1000000000000001≤n∧n≤1000000000000001):Df (C229 (T,A,B,l,p,n,())) (fun y=>y.1≥0→0≤p+n∧p+n<l.length):=by
 show Df (F229 _) _;unfold F229;dsimp only;rw [w64s (n:=p+n) (by omega)];with_reducible repeat' (first|apply dP|apply dX<;>intro _)
 · intro h;dsimp only at h;omega
 · intro h;dsimp only at h;omega
 · intro h;omega
 · refine dO ?_;omega
theorem d282 (h:TK T A B) (l:List Int) (p:Int) (hp:0≤p∧p≤1000000000000000):Df (C181 (T,A,B,l,p,())) (fun _=>True):=by
 show Df (F181 C175 C229 _) _;unfold F181;dsimp only;refine dZ (d304 l p (-1) hp (by omega)) ?_;rintro ⟨x,u⟩ -
 exact dZ (d276 T A B _ h.a) fun _ _=>dP trivial
theorem d305 (h:TK T A B) (l:List Int) (p s:Int) (hp:0≤p∧p<l.length) (hl:l.length≤1000000000000) (hs:s=1∨s = -1):Df (C230 (T,A,B,l,p,s,())) (fun _=>True):=by
 show Df (F230 C229 C245 C230_l0 _) _;unfold F230;dsimp only;refine dZ (P:=fun _=>True) ?_ ?_
 · refine dL ?I ?m ?h _ ?hv ?hn
   case I=>exact (fun v=>v.1=s∧v.2.2.1=T∧v.2.2.2.2.2.1=l∧v.2.2.2.2.2.2.1=p ∧ -1≤p+v.2.1∧p+v.2.1≤l.length)
   case m=>exact (fun v=>(bif s==1 then (l.length-(p+v.2.1)) else p+v.2.1+1).toNat)
   case hv=>exact ⟨rfl,rfl,rfl,rfl,by (try dsimp only);omega,by (try dsimp only);omega⟩
   case hn=>exact (by rcases hs with rfl|rfl<;>simp<;>omega)
   rintro ⟨x0,x1,x2,x3,x4,x5,x6,u⟩ hI;dsimp only at hI;obtain ⟨rfl,rfl,rfl,rfl,h0,h1⟩:=hI;unfold F230_l0;dsimp only;refine dZ (d304 x5 x6 x1 (by omega) (by omega)) ?_;rintro ⟨c,u⟩ hc;dsimp only at hc ⊢;with_reducible repeat' (first|apply dP|apply dX<;>intro _)
   · rename_i hge
     have hc':=hc hge;refine dZ (d304 x5 x6 x1 (by omega) (by omega)) ?_;rintro ⟨c,u⟩ -
     dsimp only;refine dZ (d313 x2 _ _ _ h.t) ?_;rintro ⟨j,u⟩ -
     dsimp only;rw [w64s (n:=x1+x0) (by omega)];with_reducible repeat' (first|apply dP|apply dX<;>intro _)
     · trivial
     · refine ⟨⟨rfl,rfl,rfl,rfl,by (try dsimp only);omega,by (try dsimp only);omega⟩,?_⟩
       rcases hs with rfl|rfl
       · simp only [show ((1:Int)==1)=true from rfl,cond_true];omega
       · simp only [show ((-1:Int)==1)=false from rfl,cond_false];omega
   · trivial
 · intro z hz
   cases z<;>exact dP trivial
theorem d283 (h:TK T A B) (l:List Int) (p:Int) (hp:0≤p∧p<l.length) (hl:l.length≤1000000000000):Df (C182 (T,A,B,l,p,())) (fun _=>True):=by
 show Df (F182 C181 C230 _) _;unfold F182;dsimp only;refine dZ (d305 h l p 1 hp hl (.inl rfl)) ?_;rintro ⟨x,u⟩ -
 refine dZ (d282 h l p (by omega)) ?_;rintro ⟨y,u⟩ -
 dsimp only;with_reducible repeat' (first|apply dP|apply dX<;>intro _)
 · trivial
 · refine dZ (d305 h l p (-1) hp hl (.inr rfl)) ?_
   rintro ⟨x,u⟩ -
   dsimp only;with_reducible repeat' (first|apply dP|apply dX<;>intro _)
   all_goals trivial
theorem d284 (l:List Int) (p:Int) (hp:0≤p∧p≤1000000000000000):Df (C183 (T,A,B,l,p,())) (fun _=>True):=by
 show Df (F183 C229 _) _;unfold F183;dsimp only;refine dZ (d304 l p (-1) hp (by omega)) ?_;rintro ⟨x,u⟩ -
 dsimp only;with_reducible repeat' (first|apply dP|apply dX<;>intro _)
 · exact dZ (d304 l p 1 hp (by omega)) fun _ _=>dP trivial
 · trivial
theorem d285 (h:TK T A B) (l:List Int) (p:Int) (hp:0≤p∧p≤1000000000000000):Df (C184 (T,A,B,l,p,())) (fun _=>True):=by
 show Df (F184 C229 C231 _) _;unfold F184;dsimp only;refine dZ (d304 l p 1 hp (by omega)) ?_;rintro ⟨x,u⟩ -
 exact dZ (d306 T A B _ h.t) fun _ _=>dP trivial
theorem d286 (h:TK T A B) (l:List Int) (p:Int) (hp:0≤p∧p≤1000000000000000):Df (C185 (T,A,B,l,p,())) (fun _=>True):=by
 show Df (F185 C229 C231 _) _;unfold F185;dsimp only;refine dZ (d304 l p (-1) hp (by omega)) ?_;rintro ⟨x,u⟩ -
 exact dZ (d306 T A B _ h.t) fun _ _=>dP trivial
theorem d242 (x:Int):Df (C145 (x,())) (fun _=>True):=by
 show Df (F145 _) _;unfold F145;dsimp only;with_reducible repeat' (first|apply dP|apply dX<;>intro _)
 all_goals trivial
theorem d245 (x:Int):Df (C148 (x,())) (fun _=>True):=by
 show Df (F148 _) _;unfold F148;dsimp only;with_reducible repeat' (first|apply dP|apply dX<;>intro _)
 all_goals trivial
theorem d281 (l:List Int) (hl:l.length≤1000000000000):Df (C180 (l,())) (fun _=>True):=by
 show Df (F180 C148 C180_l0 _) _;unfold F180;dsimp only;refine dZ (P:=fun _=>True) ?_ (fun z _=>by cases z<;>exact dP trivial);refine dL ?I ?m ?h _ ?hv ?hn
 case I=>exact (fun v=>v.1=l∧v.2.1=l.length∧0≤v.2.2.1∧v.2.2.1≤l.length)
 case m=>exact (fun v=>(l.length-v.2.2.1).toNat)
 case hv=>exact ⟨rfl,rfl,by (try dsimp only);omega,by (try dsimp only);omega⟩
 case hn=>exact (by (try dsimp only);omega)
 rintro ⟨x0,x1,x2,u⟩ hI;dsimp only at hI;obtain ⟨rfl,rfl,h0,h1⟩:=hI;unfold F180_l0;dsimp only;with_reducible repeat' (first|apply dP|apply dX<;>intro _)
 · refine dZ (d245 _) ?_
   rintro ⟨b,u⟩ -
   dsimp only;rw [w64s (n:=x2+1) (by omega)];with_reducible repeat' (first|apply dP|apply dX<;>intro _)
   · trivial
   · exact ⟨⟨rfl,rfl,by (try dsimp only);omega,by (try dsimp only);omega⟩,by (try dsimp only);omega⟩
 · refine dO ?_;omega
 · trivial
theorem d281v1 (l:List Int) (hl:l.length≤1000000000000):Df (C180v1 (l,())) (fun _=>True):=by
 show Df (F180v1 C145 C180v1_l0 _) _;unfold F180v1;dsimp only;refine dZ (P:=fun _=>True) ?_ (fun z _=>by cases z<;>exact dP trivial);refine dL ?I ?m ?h _ ?hv ?hn
 case I=>exact (fun v=>v.1=l∧v.2.1=l.length∧0≤v.2.2.1∧v.2.2.1≤l.length)
 case m=>exact (fun v=>(l.length-v.2.2.1).toNat)
 case hv=>exact ⟨rfl,rfl,by (try dsimp only);omega,by (try dsimp only);omega⟩
 case hn=>exact (by (try dsimp only);omega)
 rintro ⟨x0,x1,x2,u⟩ hI;dsimp only at hI;obtain ⟨rfl,rfl,h0,h1⟩:=hI;unfold F180v1_l0;dsimp only;with_reducible repeat' (first|apply dP|apply dX<;>intro _)
 · refine dZ (d242 _) ?_
   rintro ⟨b,u⟩ -
   dsimp only;rw [w64s (n:=x2+1) (by omega)];with_reducible repeat' (first|apply dP|apply dX<;>intro _)
   · trivial
   · exact ⟨⟨rfl,rfl,by (try dsimp only);omega,by (try dsimp only);omega⟩,by (try dsimp only);omega⟩
 · refine dO ?_;omega
 · trivial
theorem d243 (l:List Int) (p:Int) (hl:l.length≤1000000000000):Df (C146 (T,A,B,l,p,())) (fun _=>True):=by
 show Df (F146 C147 _) _;unfold F146;dsimp only;refine dZ (P:=fun _=>True) ?_ (fun _ _=>dP trivial);show Df (F147 C180 _) _;unfold F147;dsimp only;exact dZ (d281 l hl) fun _ _=>dP trivial
theorem d246 (l:List Int) (p:Int) (hl:l.length≤1000000000000):Df (C149 (T,A,B,l,p,())) (fun _=>True):=by
 show Df (F149 C147v1 _) _;unfold F149;dsimp only;refine dZ (P:=fun _=>True) ?_ (fun _ _=>dP trivial);show Df (F147v1 C180v1 _) _;unfold F147v1;dsimp only;exact dZ (d281v1 l hl) fun _ _=>dP trivial
theorem d307 (h:TK T A B) (r:Int) (l:List Int) (p:Int):Df (C232 (r,T,A,B,l,p,())) (fun y=>y.2=(T,A,B,l,p,())):=by
 show Df (F232 C231 _) _;unfold F232;dsimp only;refine dZ (d306 T A B _ h.t) ?_;rintro ⟨x,u⟩ -
 dsimp only;with_reducible repeat' (first|apply dP|apply dX<;>intro _)
 all_goals rfl
theorem d281v2 (h:TK T A B) (l:List Int) (l':List Int) (p:Int) (hl:l.length≤1000000000000):Df (C180v2 (l,T,A,B,l',p,())) (fun _=>True):=by
 show Df (F180v2 C232 C180v2_l0 _) _;unfold F180v2;dsimp only;refine dZ (P:=fun _=>True) ?_ (fun z _=>by cases z<;>exact dP trivial);refine dL ?I ?m ?h _ ?hv ?hn
 case I=>exact (fun v=>v.1=l∧v.2.1=l.length∧0≤v.2.2.1∧v.2.2.1≤l.length∧v.2.2.2=(T,A,B,l',p,()))
 case m=>exact (fun v=>(l.length-v.2.2.1).toNat)
 case hv=>exact ⟨rfl,rfl,by (try dsimp only);omega,by (try dsimp only);omega,rfl⟩
 case hn=>exact (by (try dsimp only);omega)
 rintro ⟨x0,x1,x2,x3,x4,x5,x6,x7,u⟩ hI;dsimp only at hI;obtain ⟨rfl,rfl,h0,h1,h2⟩:=hI;simp only [Prod.mk.injEq] at h2;obtain ⟨rfl,rfl,rfl,rfl,rfl,-⟩:=h2;unfold F180v2_l0;dsimp only;with_reducible repeat' (first|apply dP|apply dX<;>intro _)
 · refine dZ (d307 h _ _ _) ?_
   rintro ⟨b,y1,y2,y3,y4,y5,u⟩ hy;simp only [Prod.mk.injEq] at hy;obtain ⟨rfl,rfl,rfl,rfl,rfl,-⟩:=hy;dsimp only;rw [w64s (n:=x2+1) (by omega)];with_reducible repeat' (first|apply dP|apply dX<;>intro _)
   · trivial
   · exact ⟨⟨rfl,rfl,by (try dsimp only);omega,by (try dsimp only);omega,rfl⟩,by (try dsimp only);omega⟩
 · refine dO ?_;omega
 · trivial
theorem d287 (h:TK T A B) (l:List Int) (p:Int) (hl:l.length≤1000000000000):Df (C186 (T,A,B,l,p,())) (fun _=>True):=by
 show Df (F186 C147v2 _) _;unfold F186;dsimp only;refine dZ (P:=fun _=>True) ?_ (fun _ _=>dP trivial);show Df (F147v2 C180v2 _) _;unfold F147v2;dsimp only;exact dZ (d281v2 h l l p hl) fun _ _=>dP trivial
theorem d214 (x:Int):Df (C117 (x,())) (fun _=>True):=by
 show Df (F117 C145 C148 C150 _) _;unfold F117;dsimp only;refine dZ (d242 x) ?_;rintro ⟨b,u⟩ -
 dsimp only;with_reducible repeat' (first|apply dP|apply dX<;>intro _)
 · trivial
 · refine dZ (d245 x) ?_
   rintro ⟨b,u⟩ -
   dsimp only;with_reducible repeat' (first|apply dP|apply dX<;>intro _)
   · trivial
   · refine dZ (P:=fun _=>True) ⟨(),rfl,trivial⟩ ?_
     intro u _;with_reducible repeat' (first|apply dP|apply dX<;>intro _)
     all_goals trivial
theorem d183 (h:TK T A B) (l:List Int) (p:Int) (hl:l.length≤1000000000000) (hp:p≤1000000000000):Df (C87 (T,A,B,l,p,())) (fun _=>True):=by
 show Df (F87 C117 C146 C149 C181 C182 C183 C184 C185 C186 _) _;unfold F87;dsimp only;have fin:∀{x:Option (Bool×Unit)},Df x (fun _=>True)→Df (x.bind fun val=>bif val.fst then some ((1:Int),()) else some (2,())) (fun _=>True):=by
  intro x hx;refine dZ hx ?_;rintro ⟨b,u⟩ -
  dsimp only;with_reducible repeat' (first|apply dP|apply dX<;>intro _)
  all_goals trivial
 with_reducible repeat' (first|apply dP|apply dX<;>intro _)
 · trivial
 · trivial
 · refine dZ (d214 _) ?_
   intro z _;rcases z with z|z|z|z|z|z|z|z|z
   · exact fin (d243 l p hl)
   · exact fin (d246 l p hl)
   · exact fin (d282 h l p (by omega))
   · exact fin (d283 h l p (by omega) hl)
   · exact fin (d284 l p (by omega))
   · exact fin (d285 h l p (by omega))
   · exact fin (d286 h l p (by omega))
   · exact fin (d287 h l p hl)
   · exact dP trivial
 · refine dO ?_;omega
theorem d217 (h:TK T A B) (r:Int):Df (C120 (T,A,B,r,())) (fun _=>True):=by
 show Df (F120 C118 C119 _) _;unfold F120;dsimp only;refine dZ (d216 T A B r) ?_;rintro ⟨v0,a,c,s,o,is,u⟩ -
 dsimp only;with_reducible repeat' (first|apply dP|apply dX<;>intro _)
 all_goals first
  | trivial
  | (refine dZ (d215 T A B r h.t) ?_;rintro ⟨x,u⟩ -;dsimp only;(repeat' (first|apply dP|(apply dG<;>intro _)));all_goals trivial)
theorem d261 (h:TK T A B) (l:List Int) (hl:l.length≤1000000000000):Df (C201 (T,A,B,l,())) (fun _=>True):=by
 show Df (F201 C120 C87 C201_l0 _) _;unfold F201;dsimp only;refine dZ (P:=fun _=>True) ?_ (fun z _=>by cases z<;>exact dP trivial);refine dL ?I ?m ?h _ ?hv ?hn
 case I=>exact (fun v=>v.1=l∧v.2.1=l∧v.2.2.1=l.length∧0≤v.2.2.2.1∧v.2.2.2.1≤l.length∧v.2.2.2.2=(T,A,B,()))
 case m=>exact (fun v=>(l.length-v.2.2.2.1).toNat)
 case hv=>exact ⟨rfl,rfl,rfl,by (try dsimp only);omega,by (try dsimp only);omega,rfl⟩
 case hn=>exact (by (try dsimp only);omega)
 rintro ⟨x0,x1,x2,x3,x4,x5,x6,u⟩ hI;dsimp only at hI;obtain ⟨rfl,rfl,rfl,h0,h1,h2⟩:=hI;simp only [Prod.mk.injEq] at h2;obtain ⟨rfl,rfl,rfl,-⟩:=h2;unfold F201_l0;dsimp only;with_reducible repeat' (first|apply dP|apply dX<;>intro _)
 · refine dZ (d183 h _ _ hl (by omega)) ?_
   rintro ⟨b,u⟩ -
   dsimp only;rw [w64s (n:=x3+1) (by omega)];with_reducible repeat' (first|apply dP|apply dX<;>intro _)
   · trivial
   · refine dZ (d217 h _) ?_
     rintro ⟨b,u⟩ -
     dsimp only;with_reducible repeat' (first|apply dP|apply dX<;>intro _)
     · trivial
     · exact ⟨⟨rfl,rfl,rfl,by (try dsimp only);omega,by (try dsimp only);omega,rfl⟩,by (try dsimp only);omega⟩
   · exact ⟨⟨rfl,rfl,rfl,by (try dsimp only);omega,by (try dsimp only);omega,rfl⟩,by (try dsimp only);omega⟩
 · refine dO ?_;omega
 · trivial
theorem d260 (h:TK T A B) (l:List Int) (hl:l.length≤1000000000000):Df (C200 (T,A,B,l,())) (fun y=>y.2=(T,A,B,l,())):=by
 show Df (F200 C201 _) _;unfold F200;dsimp only;exact dZ (d261 h l hl) fun _ _=>dP rfl
theorem d185 (h:TK T A B) (l:List Int) (hl:l.length≤1000000000000):Df (C89 (T,A,B,l,())) (fun _=>True):=by
 show Df (F89 C121 C89_l0 _) _;unfold F89;dsimp only;refine dZ (P:=fun y=>y.1.length=8∧y.2.1.length=8) ?_ ?_
 · refine dL ?I ?m ?h _ ?hv ?hn
   case I=>exact (fun v=>v.1=l∧v.2.1=l.length∧0≤v.2.2.1∧v.2.2.1≤l.length∧v.2.2.2.1=T∧v.2.2.2.2.2.2.1.length=8∧v.2.2.2.2.2.2.2.1.length=8)
   case m=>exact (fun v=>(l.length-v.2.2.1).toNat)
   case hv=>exact ⟨rfl,rfl,by (try dsimp only);omega,by (try dsimp only);omega,rfl,rfl,rfl⟩
   case hn=>exact (by (try dsimp only);omega)
   rintro ⟨x0,x1,x2,x3,x4,x5,x6,x7,u⟩ hI;dsimp only at hI;obtain ⟨rfl,rfl,h0,h1,rfl,h2,h3⟩:=hI;unfold F89_l0;dsimp only;with_reducible repeat' (first|apply dP|apply dX<;>intro _)
   · refine dZ (d218 x3 _ _ _ h.t) ?_
     rintro ⟨b,u⟩ hb;dsimp only at hb ⊢;rw [w64s (n:=x2+1) (by omega)];with_reducible repeat' (first|apply dP|apply dX<;>intro _)
     all_goals first
      | exact ⟨⟨rfl,rfl,by (try dsimp only);omega,by (try dsimp only);omega,rfl,h2,by simp only [List.length_set];omega⟩,by (try dsimp only);omega⟩
      | (refine dO ?_;omega)
   · refine dO ?_;omega
   · exact ⟨h2,h3⟩
 · rintro ⟨x0,x1,u⟩ hx
   dsimp only at hx ⊢;with_reducible repeat' (first|apply dP|apply dX<;>intro _)
   all_goals first|trivial|(refine dO ?_;omega)
theorem d153 (h:TK T A B) (l:List Int) (hl:l.length≤1000000000000):Df (C57 (T,A,B,l,())) (fun _=>True):=by
 show Df (F57 C89 _) _;unfold F57;dsimp only;exact dZ (d185 h l hl) fun _ _=>dP trivial
theorem d187 (h:TK T A B) (l:List Int):Df (C91 (T,A,B,l,())) (fun _=>True):=by
 show Df (F91 C121 _) _;unfold F91;dsimp only;with_reducible repeat' (first|apply dP|apply dX<;>intro _)
 · trivial
 · refine dZ (d218 T A B _ h.t) ?_
   rintro ⟨b,u⟩ -
   dsimp only;with_reducible repeat' (first|apply dP|apply dX<;>intro _)
   all_goals trivial
 · refine dO ?_;omega
theorem d154_0 (x:Bool) (y:Bool) (z:List Int) (hz:z.length=8):Df (C58_c0 (x,y,z,())) (fun _=>True):=by
 show Df (F58_c0 C57 C89 C90 C91 _) _;unfold F58_c0;dsimp only;with_reducible repeat' (first|apply dP|apply dX<;>intro _)
 all_goals first|trivial|(refine dO ?_;omega)|(rename_i h1 h2;exact absurd (show Int.toNat 1<z.length by rw [hz];decide) h2)
theorem d154_1 (x:Int) (y:Bool) (z:List Int) (hz:z.length=8):Df (C58_c1 (x,y,z,())) (fun _=>True):=by
 show Df (F58_c1 C57 C89 C90 C91 C58_c0 _) _;unfold F58_c1;dsimp only;with_reducible repeat' (first|apply dP|apply dX<;>intro _)
 all_goals exact dZ (d154_0 _ _ z hz) fun _ _=>dP trivial
end
section
variable {T:List R6} {A:List R4} {B:List R3}
theorem d278 (hA:A.length≤1000000000000) (a b:Int):Df (C177 (a,b,T,A,B,())) (fun y=>y.2=(T,A,B,())):=by
 unfold C177 F177;dsimp only;refine dZ (d276 T A B _ hA) ?_;rintro ⟨x,u⟩ -
 exact dZ (d276 T A B _ hA) fun _ _=>dP rfl
theorem d310_0 (o n:Nat) (a b i j:Int) (row:List Int) (hj:1≤j∧j<n) (hn:n≤100000000000000) :
 Df (C242_c0 (((o:Int),(n:Int)),a,b,i,j,row,T,A,B,())) (fun y=>∃(r':List Int),r'.length=row.length∧y=(((o:Int),(n:Int)),a,b,i,j-1,r',T,A,B,())):=by
 unfold C242_c0 F242_c0;dsimp only;simp only [Int.toNat_natCast];rw [w64s (n:=j-1) (by omega)];with_reducible repeat' (first|apply dP|apply dX<;>intro _)
 · exact ⟨_,by simp only [List.length_set],rfl⟩
 all_goals (refine dO ?_;omega)
theorem d310_1 (hA:A.length≤1000000000000) (o n:Nat) (a b i j:Int) (row:List Int) (ha:0≤a) (hj:a≤j∧j<n) (hn:n≤100000000000000) :
 Df (C242_l0 (((o:Int),(n:Int)),a,b,i,j,row,T,A,B,())) (fun y=>∃(r':List Int),r'.length=row.length∧y=(((o:Int),(n:Int)),a,b,i,r',T,A,B,())):=by
 refine dL ?I ?m ?h _ ?hv ?hn
 case I=>exact (fun v=>∃(j':Int) (r':List Int),a≤j'∧j'<n∧r'.length=row.length∧v=(((o:Int),(n:Int)),a,b,i,j',r',T,A,B,()))
 case m=>exact (fun v=>(v.2.2.2.2.1-a).toNat)
 case hv=>exact ⟨j,row,hj.1,hj.2,rfl,rfl⟩
 case hn=>exact (by (try dsimp only);omega)
 rintro v ⟨j',r',h1,h2,h3,rfl⟩;unfold F242_l0;dsimp only;simp only [Int.toNat_natCast];rw [w64s (n:=j'-1) (by omega)];with_reducible repeat' (first|apply dP|apply dX<;>intro _)
 · refine dZ (d278 hA _ _) ?_
   rintro ⟨c,t,a',b',u⟩ hc;simp only [Prod.mk.injEq] at hc;obtain ⟨rfl,rfl,rfl,-⟩:=hc;dsimp only;with_reducible repeat' (first|apply dP|apply dX<;>intro _)
   · refine dZ (d310_0 o n a b i j' r' (by omega) hn) ?_
     rintro y ⟨r2,h4,rfl⟩;dsimp only;simp only [Int.toNat_natCast];exact dP ⟨⟨_,_,by omega,by omega,h4.trans h3,rfl⟩,by (try dsimp only);omega⟩
   · exact ⟨_,h3,rfl⟩
 · refine dO ?_;omega
 · refine dO ?_;omega
 · exact ⟨_,h3,rfl⟩
theorem d310 (hA:A.length≤1000000000000) (o n:Nat) (a b:Int) (row:List Int) (ha:0≤a∧a≤n) (hb:b≤n) (hn:n≤100000000000000) :
 Df (C242 (((o:Int),(n:Int)),a,b,row,T,A,B,())) (fun y=>∃(r':List Int),r'.length=row.length∧y=(r',T,A,B,())):=by
 unfold C242 F242;dsimp only;simp only [Int.toNat_natCast];rw [w64s (n:=a+1) (by omega)];refine dZ (P:=fun y=>∃(r':List Int),r'.length=row.length∧y=(r',T,A,B,())) ?_ ?_
 · refine dL ?I ?m ?h _ ?hv ?hn
   case I=>exact (fun v=>∃(i:Int) (r':List Int),a+1≤i∧r'.length=row.length∧v=(((o:Int),(n:Int)),a,b,i,r',T,A,B,()))
   case m=>exact (fun v=>(b-v.2.2.2.1).toNat)
   case hv=>exact ⟨a+1,row,Int.le_refl _,rfl,rfl⟩
   case hn=>exact (by (try dsimp only);omega)
   rintro v ⟨i,r',h1,h2,rfl⟩;unfold F242_l1;dsimp only;simp only [Int.toNat_natCast];with_reducible repeat' (first|apply dP|apply dX<;>intro _)
   · refine dZ (d310_1 hA o n a b i i r' ha.1 (by omega) hn) ?_
     rintro y ⟨r2,h4,rfl⟩;dsimp only;simp only [Int.toNat_natCast];rw [w64s (n:=i+1) (by omega)];exact dP ⟨⟨_,_,by omega,h4.trans h2,rfl⟩,by (try dsimp only);omega⟩
   · exact ⟨_,h2,rfl⟩
 · rintro y ⟨r',h,rfl⟩
   exact dP ⟨_,h,rfl⟩
theorem d316 (o n:Nat) (a b k:Int) (row:List Int) (ha:0≤a∧a+k≤n) (hb:0≤b∧b+k≤n) (hn:n≤100000000000000) :
 Df (C255 (((o:Int),(n:Int)),a,b,k,row,T,A,B,())) (fun y=>∃(r':List Int),r'.length=row.length∧y=(r',T,A,B,())):=by
 unfold C255 F255;dsimp only;simp only [Int.toNat_natCast];refine dZ (P:=fun y=>∃(r':List Int),r'.length=row.length∧y=(r',T,A,B,())) ?_ ?_
 · refine dL ?I ?m ?h _ ?hv ?hn
   case I=>exact (fun v=>∃(i:Int) (r':List Int),0≤i∧r'.length=row.length∧v=(((o:Int),(n:Int)),a,b,k,i,r',T,A,B,()))
   case m=>exact (fun v=>(k-v.2.2.2.2.1).toNat)
   case hv=>exact ⟨0,row,Int.le_refl _,rfl,rfl⟩
   case hn=>exact (by (try dsimp only);omega)
   rintro v ⟨i,r',h1,h2,rfl⟩;unfold F255_l0;dsimp only;simp only [Int.toNat_natCast];by_cases hlt:i<k
   · rw [w64s (n:=a+i) (by omega),w64s (n:=b+i) (by omega),w64s (n:=i+1) (by omega)]
     with_reducible repeat' (first|apply dP|apply dX<;>intro _)
     · exact ⟨⟨_,_,by omega,by simp only [List.length_set];exact h2,rfl⟩,by (try dsimp only);omega⟩
     all_goals first|(refine dO ?_;omega)|(exfalso;omega)
   · rw [decide_eq_false hlt]
     exact dP ⟨_,h2,rfl⟩
 · rintro y ⟨r',h,rfl⟩
   exact dP ⟨_,h,rfl⟩
theorem d315 (o n:Nat) (a m b:Int) (row:List Int) (ha:0≤a∧a<m) (hb:m<b∧b≤n) (hn:n≤100000000000000) :
 Df (C249 (((o:Int),(n:Int)),a,m,b,row,T,A,B,())) (fun y=>∃(r':List Int),r'.length=row.length∧y=(r',T,A,B,())):=by
 unfold C249 F249;dsimp only;simp only [Int.toNat_natCast];rw [w64s (n:=m-a) (by omega),w64s (n:=b-m) (by omega)];refine dZ (P:=fun y=>∃(i:Int) (r':List Int),0≤i∧i≤m-a∧m+i≤n∧r'.length=row.length∧y=(((o:Int),(n:Int)),m,i,r',T,A,B,())) ?_ ?_
 · refine dL ?I ?m ?h _ ?hv ?hn
   case I=>exact (fun v=>∃(i:Int) (j:Int) (r':List Int),0<i∧0<j∧i≤m-a∧j≤b-m∧r'.length=row.length∧v=(((o:Int),(n:Int)),m,i,j,r',T,A,B,()))
   case m=>exact (fun v=>(v.2.2.1+v.2.2.2.1).toNat)
   case hv=>exact ⟨m-a,b-m,row,by omega,by omega,Int.le_refl _,Int.le_refl _,rfl,rfl⟩
   case hn=>exact (by (try dsimp only);omega)
   rintro v ⟨i,j,r',h1,h2,h3,h4,h5,rfl⟩;unfold F249_l0;dsimp only;simp only [Int.toNat_natCast];rw [w64s (n:=m-i) (by omega),w64s (n:=i-j) (by omega),w64s (n:=j-i) (by omega),w64s (n:=m+j) (by omega),w64s (n:=m+j-i) (by omega)];with_reducible repeat' (first|apply dP|apply dX<;>intro _)
   · refine dZ (d316 o n (m-i) m j r' (by omega) (by omega) hn) ?_
     rintro y ⟨r2,h6,rfl⟩;dsimp only;exact dP ⟨⟨_,_,_,by omega,by omega,by omega,by omega,h6.trans h5,rfl⟩,by (try dsimp only);omega⟩
   · refine dZ (d316 o n (m-i) (m+j-i) i r' (by omega) (by omega) hn) ?_
     rintro y ⟨r2,h6,rfl⟩;dsimp only;exact dP ⟨⟨_,_,_,by omega,by omega,by omega,by omega,h6.trans h5,rfl⟩,by (try dsimp only);omega⟩
   · exact ⟨_,_,by omega,by omega,by omega,h5,rfl⟩
 · rintro y ⟨i,r',h1,h2,h3,h4,rfl⟩
   dsimp only;simp only [Int.toNat_natCast];rw [w64s (n:=m-i) (by omega)];refine dZ (d316 o n (m-i) m i r' (by omega) (by omega) hn) ?_;rintro y ⟨r2,h6,rfl⟩;exact dP ⟨_,h6.trans h4,rfl⟩
theorem d311_0 (G:T243) (hA:A.length≤1000000000000) (o n:Nat) (a i j:Int) (row:List Int) (ha:0≤a∧a<n) (hi:0≤i∧i≤j) (hj:j≤n) (hn:n≤100000000000000) :
 Df (C243_l0 G (((o:Int),(n:Int)),a,i,j,row,T,A,B,())) (fun y=>∃(i':Int),i≤i'∧i'≤j∧y=(((o:Int),(n:Int)),a,i',row,T,A,B,())):=by
 refine dL ?I ?m ?h _ ?hv ?hn
 case I=>exact (fun v=>∃(i':Int) (j':Int),i≤i'∧i'≤j'∧j'≤j∧v=(((o:Int),(n:Int)),a,i',j',row,T,A,B,()))
 case m=>exact (fun v=>(v.2.2.2.1-v.2.2.1).toNat)
 case hv=>exact ⟨i,j,Int.le_refl _,hi.2,Int.le_refl _,rfl⟩
 case hn=>exact (by (try dsimp only);omega)
 rintro v ⟨i',j',h1,h2,h3,rfl⟩;unfold F243_l0;dsimp only;simp only [Int.toNat_natCast];rw [mid2 (by omega) (by omega) (by omega),w64s (n:=(i'+j')/2+1) (by omega)];with_reducible repeat' (first|apply dP|apply dX<;>intro _)
 · refine dZ (d278 hA _ _) ?_
   rintro ⟨c,t,a',b',u⟩ hc;simp only [Prod.mk.injEq] at hc;obtain ⟨rfl,rfl,rfl,-⟩:=hc;dsimp only;with_reducible repeat' (first|apply dP|apply dX<;>intro _)
   · exact ⟨⟨_,_,by omega,by omega,by omega,rfl⟩,by (try dsimp only);omega⟩
   · exact ⟨⟨_,_,by omega,by omega,by omega,rfl⟩,by (try dsimp only);omega⟩
 · refine dO ?_;omega
 · refine dO ?_;omega
 · exact ⟨_,by omega,by omega,rfl⟩
theorem d311_2 (G:T243) (hA:A.length≤1000000000000) (o n:Nat) (a i j:Int) (row:List Int) (ha:0≤a∧a<n) (hi:0≤i∧i≤j) (hj:j≤n) (hn:n≤100000000000000) :
 Df (C243_l2 G (((o:Int),(n:Int)),a,i,j,row,T,A,B,())) (fun y=>∃(i':Int),i≤i'∧i'≤j∧y=(((o:Int),(n:Int)),a,i',row,T,A,B,())):=by
 refine dL ?I ?m ?h _ ?hv ?hn
 case I=>exact (fun v=>∃(i':Int) (j':Int),i≤i'∧i'≤j'∧j'≤j∧v=(((o:Int),(n:Int)),a,i',j',row,T,A,B,()))
 case m=>exact (fun v=>(v.2.2.2.1-v.2.2.1).toNat)
 case hv=>exact ⟨i,j,Int.le_refl _,hi.2,Int.le_refl _,rfl⟩
 case hn=>exact (by (try dsimp only);omega)
 rintro v ⟨i',j',h1,h2,h3,rfl⟩;unfold F243_l2;dsimp only;simp only [Int.toNat_natCast];rw [mid2 (by omega) (by omega) (by omega),w64s (n:=(i'+j')/2+1) (by omega)];with_reducible repeat' (first|apply dP|apply dX<;>intro _)
 · refine dZ (d278 hA _ _) ?_
   rintro ⟨c,t,a',b',u⟩ hc;simp only [Prod.mk.injEq] at hc;obtain ⟨rfl,rfl,rfl,-⟩:=hc;dsimp only;with_reducible repeat' (first|apply dP|apply dX<;>intro _)
   · exact ⟨⟨_,_,by omega,by omega,by omega,rfl⟩,by (try dsimp only);omega⟩
   · exact ⟨⟨_,_,by omega,by omega,by omega,rfl⟩,by (try dsimp only);omega⟩
 · refine dO ?_;omega
 · refine dO ?_;omega
 · exact ⟨_,by omega,by omega,rfl⟩
theorem d311_1 (G:T243) (o n:Nat) (i k:Int) (row:List Int) (hk:0≤k) (hi:i≤n) (hn:n≤100000000000000) (hi0:0≤i) :
 Df (C243_l1 G (((o:Int),(n:Int)),i,k,row,T,A,B,())) (fun y=>∃(r':List Int),r'.length=row.length∧y=(r',T,A,B,())):=by
 refine dL ?I ?m ?h _ ?hv ?hn
 case I=>exact (fun v=>∃(k':Int) (r':List Int),0≤k'∧r'.length=row.length∧v=(((o:Int),(n:Int)),i,k',r',T,A,B,()))
 case m=>exact (fun v=>(i-v.2.2.1).toNat)
 case hv=>exact ⟨k,row,hk,rfl,rfl⟩
 case hn=>exact (by (try dsimp only);omega)
 rintro v ⟨k',r',h1,h2,rfl⟩;unfold F243_l1;dsimp only;simp only [Int.toNat_natCast];rw [w64s (n:=i-1) (by omega)];by_cases hlt:k'<i-1
 · rw [w64s (n:=k'+1) (by omega)]
   with_reducible repeat' (first|apply dP|apply dX<;>intro _)
   · exact ⟨⟨_,_,by omega,by simp only [List.length_set];exact h2,rfl⟩,by (try dsimp only);omega⟩
   all_goals first|(refine dO ?_;omega)|(exfalso;omega)
 · rw [decide_eq_false hlt]
   exact dP ⟨_,h2,rfl⟩
theorem d311_3 (G:T243) (o n:Nat) (i k:Int) (row:List Int) (hk:k<n) (hi:0≤i) (hn:n≤100000000000000) :
 Df (C243_l3 G (((o:Int),(n:Int)),i,k,row,T,A,B,())) (fun y=>∃(r':List Int),r'.length=row.length∧y=(r',T,A,B,())):=by
 refine dL ?I ?m ?h _ ?hv ?hn
 case I=>exact (fun v=>∃(k':Int) (r':List Int),k'<n∧r'.length=row.length∧v=(((o:Int),(n:Int)),i,k',r',T,A,B,()))
 case m=>exact (fun v=>(v.2.2.1-i).toNat)
 case hv=>exact ⟨k,row,hk,rfl,rfl⟩
 case hn=>exact (by (try dsimp only);omega)
 rintro v ⟨k',r',h1,h2,rfl⟩;unfold F243_l3;dsimp only;simp only [Int.toNat_natCast];by_cases hlt:k'>i
 · rw [w64s (n:=k'-1) (by omega)]
   with_reducible repeat' (first|apply dP|apply dX<;>intro _)
   · exact ⟨⟨_,_,by omega,by simp only [List.length_set];exact h2,rfl⟩,by (try dsimp only);omega⟩
   all_goals first|(refine dO ?_;omega)|(exfalso;omega)
 · rw [decide_eq_false hlt]
   exact dP ⟨_,h2,rfl⟩
theorem d311_4 (G:T243) (hA:A.length≤1000000000000) (o n:Nat) (a m b mid s st r p:Int) (row:List Int) (h0:0≤st∧st≤r) (hr:r≤n) (hp:0≤p-r+1∧p-st<n) (hn:n≤100000000000000) :
 Df (C243_l4 G (((o:Int),(n:Int)),a,m,b,mid,s,st,r,p,row,T,A,B,())) (fun y=>∃(st':Int),st≤st'∧st'≤r∧y=(((o:Int),(n:Int)),a,m,b,mid,s,st',row,T,A,B,())):=by
 refine dL ?I ?m ?h _ ?hv ?hn
 case I=>exact (fun v=>∃(i':Int) (j':Int),st≤i'∧i'≤j'∧j'≤r∧v=(((o:Int),(n:Int)),a,m,b,mid,s,i',j',p,row,T,A,B,()))
 case m=>exact (fun v=>(v.2.2.2.2.2.2.2.1-v.2.2.2.2.2.2.1).toNat)
 case hv=>exact ⟨st,r,Int.le_refl _,h0.2,Int.le_refl _,rfl⟩
 case hn=>exact (by (try dsimp only);omega)
 rintro v ⟨i',j',h1,h2,h3,rfl⟩;unfold F243_l4;dsimp only;simp only [Int.toNat_natCast];rw [mid2 (by omega) (by omega) (by omega)];by_cases hlt:i'<j'
 · rw [w64s (n:=(i'+j')/2+1) (by omega),w64s (n:=p-(i'+j')/2) (by omega)]
   with_reducible repeat' (first|apply dP|apply dX<;>intro _)
   · refine dZ (d278 hA _ _) ?_
     rintro ⟨c,t,a',b',u⟩ hc;simp only [Prod.mk.injEq] at hc;obtain ⟨rfl,rfl,rfl,-⟩:=hc;dsimp only;with_reducible repeat' (first|apply dP|apply dX<;>intro _)
     · exact ⟨⟨_,_,by omega,by omega,by omega,rfl⟩,by (try dsimp only);omega⟩
     · exact ⟨⟨_,_,by omega,by omega,by omega,rfl⟩,by (try dsimp only);omega⟩
   all_goals first|(refine dO ?_;omega)|(exfalso;omega)
 · rw [decide_eq_false hlt]
   exact dP ⟨_,by omega,by omega,rfl⟩
def Mg (T:List R6) (A:List R4) (B:List R3) (G:T243) (o n:Nat) (k:Int):Prop:=∀(a m b:Int) (row:List Int),0≤a→a<m→m<b→b≤n→b-a<k →
 Df (G (((o:Int),(n:Int)),a,m,b,row,T,A,B,())) (fun y=>∃(r':List Int),r'.length=row.length∧y=(r',T,A,B,()))
theorem d311_c0 (G:T243) (o n:Nat) (k:Int) (hG:Mg T A B G o n k) (b mid e:Int) (row:List Int) (h:0≤mid∧b≤n∧b-mid<k) :
 Df (C243_c0 G (((o:Int),(n:Int)),b,mid,e,row,T,A,B,())) (fun y=>∃(r':List Int),r'.length=row.length∧y=(r',T,A,B,())):=by
 show Df (F243_c0 C177 G C249 _) _;unfold F243_c0;dsimp only;simp only [Int.toNat_natCast];with_reducible repeat' (first|apply dP|apply dX<;>intro _)
 · refine dZ (hG mid e b row (by omega) (by omega) (by omega) (by omega) (by omega)) ?_
   rintro y ⟨r',h,rfl⟩;exact dP ⟨_,h,rfl⟩
 · exact ⟨_,rfl,rfl⟩
 · exact ⟨_,rfl,rfl⟩
theorem d311_c1 (G:T243) (o n:Nat) (k:Int) (hG:Mg T A B G o n k) (a b mid st e:Int) (row:List Int) (h0:0≤a∧mid≤n∧mid-a<k) (h:0≤mid∧b≤n∧b-mid<k) :
 Df (C243_c1 G (((o:Int),(n:Int)),a,b,mid,st,e,row,T,A,B,())) (fun y=>∃(r':List Int),r'.length=row.length∧y=(r',T,A,B,())):=by
 show Df (F243_c1 C177 G C249 (C243_c0 G) _) _;unfold F243_c1;dsimp only;simp only [Int.toNat_natCast];have fin:∀r0:List Int,r0.length=row.length→Df ((C243_c0 G (((o:Int),(n:Int)),b,mid,e,r0,T,A,B,())).bind fun val=>some (val.fst,val.snd.fst,val.snd.snd.fst,val.snd.snd.snd.fst,())) (fun y=>∃(r':List Int),r'.length=row.length∧y=(r',T,A,B,())):=by
  intro r0 hr;refine dZ (d311_c0 G o n k hG b mid e r0 h) ?_;rintro y ⟨r',h,rfl⟩;exact dP ⟨_,h.trans hr,rfl⟩
 with_reducible repeat' (first|apply dP|apply dX<;>intro _)
 · refine dZ (hG a st mid row (by omega) (by omega) (by omega) (by omega) (by omega)) ?_
   rintro y ⟨r',h,rfl⟩;exact fin r' h
 · exact fin row rfl
 · exact fin row rfl
theorem d311_c2 (G:T243) (hA:A.length≤1000000000000) (o n:Nat) (k:Int) (hG:Mg T A B G o n k) (a m b mid s st r:Int) (row:List Int) (hn:n≤100000000000000) (hs:s=mid+m) (h0:0≤st∧st≤r) (hr:r≤n) (hp:0≤s-r∧s-st≤n)
 (ha:0≤a∧mid≤n∧mid-a<k) (h:0≤mid∧b≤n∧b-mid<k) (hm:m≤n) :
 Df (C243_c2 G (((o:Int),(n:Int)),a,m,b,mid,s,st,r,row,T,A,B,())) (fun y=>∃(r':List Int),r'.length=row.length∧y=(r',T,A,B,())):=by
 show Df (F243_c2 C177 G C249 (C243_c1 G) (C243_l4 G) _) _;unfold F243_c2;dsimp only;simp only [Int.toNat_natCast];rw [w64s (n:=s-1) (by omega)];refine dZ (d311_4 G hA o n a m b mid s st r (s-1) row h0 hr (by omega) hn) ?_;rintro y ⟨st',h1,h2,rfl⟩;dsimp only;simp only [Int.toNat_natCast];rw [w64s (n:=s-st') (by omega)];have fin:∀r0:List Int,r0.length=row.length→Df ((C243_c1 G (((o:Int),(n:Int)),a,b,mid,st',s-st',r0,T,A,B,())).bind fun val=>some (val.fst,val.snd.fst,val.snd.snd.fst,val.snd.snd.snd.fst,())) (fun y=>∃(r':List Int),r'.length=row.length∧y=(r',T,A,B,())):=by
  intro r0 hr0;refine dZ (d311_c1 G o n k hG a b mid st' (s-st') r0 ha h) ?_;rintro y ⟨r',h,rfl⟩;exact dP ⟨_,h.trans hr0,rfl⟩
 with_reducible repeat' (first|apply dP|apply dX<;>intro _)
 · refine dZ (d315 o n st' m (s-st') row (by omega) (by omega) hn) ?_
   rintro y ⟨r',h,rfl⟩;exact fin r' h
 · exact fin row rfl
 · exact fin row rfl
def FF311 (G:T243):T243:=F243 C177 G C249 (C243_c2 G) (C243_l0 G) (C243_l1 G) (C243_l2 G) (C243_l3 G)
theorem d311r (hA:A.length≤1000000000000) (o n:Nat) (hn:n≤100000000000000):∀k:Nat,Mg T A B (recN FF311 k) o n (k:Int)
 | 0=>fun a m b row h0 h1 h2 h3 h4=>by omega
 | k+1=>fun a m b row h0 h1 h2 h3 h4=>by
  have hG:=d311r hA o n hn k;show Df (FF311 (recN FF311 k) _) _;generalize recN FF311 k=G at hG ⊢;show Df (F243 C177 G C249 (C243_c2 G) (C243_l0 G) (C243_l1 G) (C243_l2 G) (C243_l3 G) _) _;unfold F243;dsimp only;simp only [Int.toNat_natCast];rw [w64s (n:=m-a) (by omega),w64s (n:=b-m) (by omega),mid2 (by omega) (by omega) (by omega),w64s (n:=(a+b)/2+m) (by omega),w64s (n:=(a+b)/2+m-b) (by omega)];have fin:∀{x:Option (List Int×List R6×List R4×List R3×Unit)},Df x (fun y=>∃(r':List Int),r'.length=row.length∧y=(r',T,A,B,()))→Df (x.bind fun val=>some (val.fst,val.snd.fst,val.snd.snd.fst,val.snd.snd.snd.fst,())) (fun y=>∃(r':List Int),r'.length=row.length∧y=(r',T,A,B,())):=by
   intro x hx;refine dZ hx ?_;rintro y ⟨r',h,rfl⟩;exact dP ⟨_,h,rfl⟩
  with_reducible repeat' (first|apply dP|apply dX<;>intro _)
  · refine dZ (d311_0 G hA o n a m b row (by omega) (by omega) (by omega) hn) ?_
    rintro y ⟨i',h5,h6,rfl⟩;dsimp only;simp only [Int.toNat_natCast];exact fin (d311_1 G o n i' a row (by omega) (by omega) hn (by omega))
  · refine dZ (d311_2 G hA o n m a m row (by omega) (by omega) (by omega) hn) ?_
    rintro y ⟨i',h5,h6,rfl⟩;dsimp only;simp only [Int.toNat_natCast];exact fin (d311_3 G o n i' m row (by omega) (by omega) hn)
  · exact fin (d311_c2 G hA o n k hG a m b ((a+b)/2) ((a+b)/2+m) ((a+b)/2+m-b) ((a+b)/2) row hn rfl (by omega) (by omega) (by omega) (by omega) (by omega) (by omega))
  · exact fin (d311_c2 G hA o n k hG a m b ((a+b)/2) ((a+b)/2+m) a m row hn rfl (by omega) (by omega) (by omega) (by omega) (by omega) (by omega))
theorem d311 (hA:A.length≤1000000000000) (o n:Nat) (hn:n≤100000000000000) (a m b:Int) (row:List Int) (h0:0≤a) (h1:a<m) (h2:m<b) (h3:b≤n) :
 Df (C243 (((o:Int),(n:Int)),a,m,b,row,T,A,B,())) (fun y=>∃(r':List Int),r'.length=row.length∧y=(r',T,A,B,())):=by
 show Df (recN FF311 big _) _;exact d311r hA o n hn big a m b row h0 h1 h2 h3 (by unfold big;omega)
theorem d299_0 (hA:A.length≤1000000000000) (o n:Nat) (hn:n≤100000000000000) (row:List Int) :
 Df (C224_l0 (((o:Int),(n:Int)),(n:Int),20,0,20,row,T,A,B,())) (fun y=>∃(a:Int) (r':List Int),0≤a∧a≤n∧r'.length=row.length∧y=(((o:Int),(n:Int)),(n:Int),20,a,r',T,A,B,())):=by
 refine dL ?I ?m ?h _ ?hv ?hn
 case I=>exact (fun v=>∃(a:Int) (r':List Int),0≤a∧a≤n∧r'.length=row.length∧v=(((o:Int),(n:Int)),(n:Int),20,a,a+20,r',T,A,B,()))
 case m=>exact (fun v=>(n-v.2.2.2.1).toNat)
 case hv=>exact ⟨0,row,Int.le_refl _,by omega,rfl,rfl⟩
 case hn=>exact (by (try dsimp only);omega)
 rintro v ⟨a,r',h1,h2,h3,rfl⟩;unfold F224_l0;dsimp only;simp only [Int.toNat_natCast];rw [w64s (n:=a+20+20) (by omega)];with_reducible repeat' (first|apply dP|apply dX<;>intro _)
 · refine dZ (d310 hA o n a (a+20) r' (by omega) (by omega) hn) ?_
   rintro y ⟨r2,h4,rfl⟩;exact dP ⟨⟨a+20,r2,by omega,by omega,h4.trans h3,rfl⟩,by (try dsimp only);omega⟩
 · exact ⟨_,_,h1,h2,h3,rfl⟩
theorem d299_1 (hA:A.length≤1000000000000) (o n:Nat) (hn:n≤100000000000000) (bs:Int) (hbs:1≤bs∧bs≤n) (row:List Int) :
 Df (C224_l1 (((o:Int),(n:Int)),(n:Int),bs,0,2*bs,row,T,A,B,())) (fun y=>∃(a:Int) (r':List Int),0≤a∧a≤n∧r'.length=row.length∧y=(((o:Int),(n:Int)),(n:Int),bs,a,r',T,A,B,())):=by
 refine dL ?I ?m ?h _ ?hv ?hn
 case I=>exact (fun v=>∃(a:Int) (r':List Int),0≤a∧a≤n∧r'.length=row.length∧v=(((o:Int),(n:Int)),(n:Int),bs,a,a+2*bs,r',T,A,B,()))
 case m=>exact (fun v=>(n-v.2.2.2.1).toNat)
 case hv=>exact ⟨0,row,Int.le_refl _,by omega,rfl,by rw [Int.zero_add]⟩
 case hn=>exact (by (try dsimp only);omega)
 rintro v ⟨a,r',h1,h2,h3,rfl⟩;unfold F224_l1;dsimp only;simp only [Int.toNat_natCast];rw [w64s (n:=2*bs) (by omega),w64s (n:=a+bs) (by omega),w64s (n:=a+2*bs+2*bs) (by omega)];with_reducible repeat' (first|apply dP|apply dX<;>intro _)
 · refine dZ (d311 hA o n hn a (a+bs) (a+2*bs) r' (by omega) (by omega) (by omega) (by omega)) ?_
   rintro y ⟨r2,h4,rfl⟩;exact dP ⟨⟨a+2*bs,r2,by omega,by omega,h4.trans h3,rfl⟩,by (try dsimp only);omega⟩
 · exact ⟨_,_,h1,h2,h3,rfl⟩
theorem d299 (hA:A.length≤1000000000000) (o n:Nat) (hn:n≤100000000000000) (row:List Int) :
 Df (C224 (((o:Int),(n:Int)),(n:Int),row,T,A,B,())) (fun y=>∃(r':List Int),r'.length=row.length∧y=(r',T,A,B,())):=by
 unfold C224 F224;dsimp only;simp only [Int.toNat_natCast];refine dZ (d299_0 hA o n hn row) ?_;rintro y ⟨a,r1,h1,h2,h3,rfl⟩;dsimp only;simp only [Int.toNat_natCast];refine dZ (d310 hA o n a n r1 (by omega) (by omega) hn) ?_;rintro y ⟨r2,h4,rfl⟩;dsimp only;refine dZ (P:=fun y=>∃(r':List Int),r'.length=row.length∧y=(r',T,A,B,())) ?_ ?_
 · refine dL ?I ?m ?h _ ?hv ?hn
   case I=>exact (fun v=>∃(bs:Int) (r':List Int),1≤bs∧bs≤400000000000000∧r'.length=row.length∧v=(((o:Int),(n:Int)),(n:Int),bs,r',T,A,B,()))
   case m=>exact (fun v=>(n-v.2.2.1).toNat)
   case hv=>exact ⟨20,r2,by omega,by omega,h4.trans h3,rfl⟩
   case hn=>exact (by (try dsimp only);omega)
   rintro v ⟨bs,r',h5,h6,h7,rfl⟩;unfold F224_l2;dsimp only;simp only [Int.toNat_natCast];rw [w64s (n:=2*bs) (by omega)];with_reducible repeat' (first|apply dP|apply dX<;>intro _)
   · refine dZ (d299_1 hA o n hn bs (by omega) r') ?_
     rintro y ⟨a,r3,h8,h9,h10,rfl⟩;dsimp only;simp only [Int.toNat_natCast];rw [w64s (n:=a+bs) (by omega),w64s (n:=bs*2) (by omega)];with_reducible repeat' (first|apply dP|apply dX<;>intro _)
     · refine dZ (d311 hA o n hn a (a+bs) n r3 (by omega) (by omega) (by omega) (by omega)) ?_
       rintro y ⟨r4,h11,rfl⟩;exact dP ⟨⟨_,_,by omega,by omega,(h11.trans h10).trans h7,rfl⟩,by (try dsimp only);omega⟩
     · exact ⟨⟨_,_,by omega,by omega,h10.trans h7,rfl⟩,by (try dsimp only);omega⟩
   · exact ⟨_,h7,rfl⟩
 · rintro y ⟨r',h,rfl⟩
   exact dP ⟨_,h,rfl⟩
theorem d277 (hA:A.length≤1000000000000) (o n:Nat) (hn:n≤100000000000000) (row:List Int) :
 Df (C176 (((o:Int),(n:Int)),row,T,A,B,())) (fun y=>∃(r':List Int),r'.length=row.length∧y=(r',T,A,B,())):=by
 unfold C176 F176;dsimp only;simp only [Int.toNat_natCast];refine dZ (d299 hA o n hn row) ?_;rintro y ⟨r',h,rfl⟩;exact dP ⟨_,h,rfl⟩
theorem d239_0 (hA:A.length≤1000000000000) (f k:Int) (row:List Int) (hf:0≤f∧f≤k) (hk:k≤row.length) (hn:row.length≤35184372088832) :
 Df (C142_c0 (f,k,T,A,B,row,())) (fun y=>∃(r':List Int),r'.length=row.length∧y=(k+1,k,T,A,B,r',())):=by
 unfold C142_c0 F142_c0;dsimp only;rw [w64s (n:=k+1) (by omega)];with_reducible repeat' (first|apply dP|apply dX<;>intro _)
 · refine dZ (d277 hA f.toNat (k.toNat-f.toNat) (by omega) row) ?_
   rintro y ⟨r',h,rfl⟩;exact dP ⟨_,h,rfl⟩
 · refine dO ?_;omega
 · refine dO ?_;omega
theorem d239 (hA:A.length≤1000000000000) (l:List Int) (hl:l.length≤35184372088832):Df (C142 (T,A,B,l,())) (fun y=>y.1.length=l.length):=by
 unfold C142 F142;dsimp only;refine dZ (P:=fun y=>y.1=l) ?_ ?_
 · unfold C174
   dsimp only;with_reducible repeat' (first|apply dP|apply dX<;>intro _)
   · rfl
   · refine dO ?_;omega
 rintro ⟨l',u⟩ hl';dsimp only at hl' ⊢;subst hl';refine dZ (P:=fun y=>y.1.length=l'.length) ?_ (fun _ h=>dP h);refine dL ?I ?m ?h _ ?hv ?hn
 case I=>exact (fun v=>∃(f:Int) (k:Int) (r':List Int),0≤f∧f≤k∧k≤l'.length+1∧r'.length=l'.length∧v=(f,k,T,A,B,r',()))
 case m=>exact (fun v=>(l'.length+1-v.2.1).toNat)
 case hv=>exact ⟨0,0,l',Int.le_refl _,Int.le_refl _,by omega,rfl,rfl⟩
 case hn=>exact (by (try dsimp only);omega)
 rintro v ⟨f,k,r',h1,h2,h3,h4,rfl⟩;unfold F142_l0;dsimp only;rw [w64s (n:=k+1) (by omega)];have fin:k≤r'.length→Df ((C142_c0 (f,k,T,A,B,r',())).bind fun val=>some (Sum.inl (val.fst,IntKind.i64.wrap (val.snd.fst+1),val.snd.snd.fst,val.snd.snd.snd.fst,val.snd.snd.snd.snd.fst,val.snd.snd.snd.snd.snd.fst,())))
  (Sum.elim (fun v':Int×Int×List R6×List R4×List R3×List Int×Unit=>(∃(f:Int) (k:Int) (r':List Int),0≤f∧f≤k∧k≤l'.length+1∧r'.length=l'.length∧v'=(f,k,T,A,B,r',()))∧(l'.length+1-v'.2.1).toNat<(l'.length+1-k).toNat) (fun y:List Int×Unit=>y.1.length=l'.length)):=by
  intro hk;refine dZ (d239_0 hA f k r' (by omega) hk (by omega)) ?_;rintro y ⟨r2,h5,rfl⟩;dsimp only;rw [w64s (n:=k+1) (by omega)];exact dP ⟨⟨_,_,_,by omega,by omega,by omega,h5.trans h4,rfl⟩,by (try dsimp only);omega⟩
 with_reducible repeat' (first|apply dP|apply dX<;>intro _)
 · refine dZ (d276 T A B _ hA) ?_
   rintro ⟨c,u⟩ -
   dsimp only;with_reducible repeat' (first|apply dP|apply dX<;>intro _)
   · exact ⟨⟨_,_,_,by omega,by omega,by omega,h4,rfl⟩,by (try dsimp only);omega⟩
   · exact fin (by omega)
 · refine dO ?_;omega
 · exact fin (by omega)
 · exact h4
end
section
variable {T:List R6} {A:List R4} {B:List R3}
theorem endF_total (f:Int→Option Int) (h:∀x,∃y,f x=some y):∀l:List (Int×Int),∃y,endF f l=some y
 | []=>⟨0,rfl⟩
 | x::l=>by
  obtain ⟨b,hb⟩:=h x.2;simp only [endF,hb,Option.bind_some];cases (b != 6) with
  | true=>exact ⟨b,rfl⟩
  | false=>exact endF_total f h l
theorem d186 (h:TK T A B) (l:List Int) (hl:l.length≤1000000000000):Df (C90 (T,A,B,l,())) (fun _=>True):=by
 unfold C90;dsimp only;rw [decide_eq_true hl];obtain ⟨y,hy⟩:=endF_total (fun x=>(C121 (T,A,B,x,())).map fun r=>r.1) (fun x=>by
  obtain ⟨y,e,-⟩:=d218 T A B x h.t;exact ⟨y.1,by simp only [e,Option.map_some]⟩) (bk l)
 exact ⟨(y,()),by simp only [cond_true,hy,Option.map_some],trivial⟩
theorem d154 (h:TK T A B) (l:List Int) (hl:l.length≤1000000000000):Df (C58 (T,A,B,l,())) (fun _=>True):=by
 unfold C58 F58;dsimp only;refine dZ (d185 h l hl) ?_;rintro ⟨z0,z1,z2,z3,z4,z5,z6,z7,u⟩ -
 refine dZ (d186 h l hl) ?_;rintro ⟨e,u⟩ -
 refine dZ (d187 h l) ?_;rintro ⟨s,u⟩ -
 dsimp only;with_reducible repeat' (first|apply dP|apply dX<;>intro _)
 · exact dZ (d154_1 _ _ _ rfl) fun _ _=>dP trivial
 · exact dZ (d154_1 _ _ _ rfl) fun _ _=>dP trivial
 · refine dZ (d153 h l hl) ?_
   rintro ⟨b,u⟩ -
   dsimp only;with_reducible repeat' (first|apply dP|apply dX<;>intro _)
   all_goals trivial
 · trivial
theorem d262 (h:TK T A B) (l:List Int) (hl:l.length≤1000000000000):Df (C202 (T,A,B,l,())) (fun y=>y.2=(T,A,B,l,())):=by
 unfold C202 F202;dsimp only;refine dZ (d153 h l hl) ?_;rintro ⟨b,u⟩ -
 dsimp only;with_reducible repeat' (first|apply dP|apply dX<;>intro _)
 · exact dZ (d154 h l hl) fun _ _=>dP rfl
 · rfl
theorem d213 (h:TK T A B) (s:List UInt8) (a b:Bool) (hs:s.length≤100000000000):Df (C116 (T,A,B,s,a,b,())) (fun y=>y.1.length≤384*s.length):=by
 unfold C116 F116;dsimp only;refine dZ (d83 s (by omega)) ?_;rintro ⟨l,at_,u⟩ hl;dsimp only at hl ⊢;with_reducible repeat' (first|apply dP|apply dX<;>intro _)
 · exact (by simp:([]:List UInt8).length≤384*s.length)
 · refine dZ (d240 T A B l a (by omega)) ?_
   rintro ⟨l2,u⟩ h2;dsimp only at h2 ⊢;refine dZ (d239 h.a l2 (by omega)) ?_;rintro ⟨l3,u⟩ h3;dsimp only at h3 ⊢;with_reducible repeat' (first|apply dP|apply dX<;>intro _)
   · refine dZ (d241 T A B l3 (by omega) h.a) ?_
     rintro ⟨l4,u⟩ h4;dsimp only at h4 ⊢;refine dZ (d178 l4 (by omega)) ?_;rintro ⟨s5,b5,u⟩ h5;exact dP (by dsimp only at h5 ⊢;omega)
   · refine dZ (d178 l3 (by omega)) ?_
     rintro ⟨s5,b5,u⟩ h5;exact dP (by dsimp only at h5 ⊢;omega)
theorem d181 (h:TK T A B) (s:List UInt8) (hs:s.length≤100000000000):Df (C85 (T,A,B,s,())) (fun y=>y.1.length≤384*s.length):=by
 unfold C85 F85;dsimp only;refine dZ (d213 h s false true hs) ?_;rintro ⟨x,b,u⟩ hx;exact dP hx
theorem d151 (h:TK T A B) (s:List UInt8) (hs:s.length≤10000000000):Df (C55 (T,A,B,s,())) (fun y=>y.1.length≤1536*s.length):=by
 unfold C55 F55;dsimp only;refine dZ (d83 s (by omega)) ?_;rintro ⟨l,at_,u⟩ hl;dsimp only at hl ⊢;with_reducible repeat' (first|apply dP|apply dX<;>intro _)
 · exact (by simp:([]:List UInt8).length≤1536*s.length)
 · refine dZ (d180 T A B l (by omega)) ?_
   rintro ⟨l2,u⟩ h2;dsimp only at h2 ⊢;refine dZ (d179 T A B h.b l2 (by omega)) ?_;rintro ⟨l3,u⟩ h3;dsimp only at h3 ⊢;refine dZ (d178 l3 (by omega)) ?_;rintro ⟨s4,b4,u⟩ h4;dsimp only at h4 ⊢;refine dZ (d181 h s4 (by omega)) ?_;rintro ⟨s5,b5,u⟩ h5;exact dP (by dsimp only at h5 ⊢;omega)
theorem d131 (a b:List UInt8):Df (C92 (a,b,())) (fun y=>y.1=true→b.length≤a.length):=by
 unfold C92 F92;dsimp only;with_reducible repeat' (first|apply dP|apply dX<;>intro _)
 · intro _;dsimp only at *;omega
 · refine dO ?_;omega
 · intro h;cases h
theorem d166 (a b:List UInt8):Df (C189 (a,b,())) (fun y=>y.1.length≤a.length):=by
 unfold C189 F189;dsimp only;refine dZ (d131 a b) ?_;rintro ⟨x,u⟩ hx;dsimp only at hx ⊢;with_reducible repeat' (first|apply dP|apply dX<;>intro _)
 · exact Nat.le_refl _
 · exact (by simp:(List.drop _ a).length≤a.length)
 · rename_i h1 h2
   have:=hx h1;refine dO ?_;omega
theorem d132 (a b:List UInt8):Df (C156 (a,b,())) (fun y=>y.1.length≤a.length):=by
 unfold C156 F156;dsimp only;refine dZ (d166 a b) ?_;rintro ⟨x,b,u⟩ hx;exact dP hx
theorem d96 (a b:List UInt8):Df (C59 (a,b,())) (fun _=>True):=by
 unfold C59 F59;dsimp only;exact dZ (d131 a b) fun _ _=>dP trivial
theorem d308 (a b:List UInt8) (ha:a.length≤1000000000000000) (hb:b.length≤1000000000000000):Df (C246 (a,b,())) (fun _=>True):=by
 unfold C246 F246;dsimp only;rw [w64s (n:=(a.length:Int)-(b.length:Int)) (by omega)];with_reducible repeat' (first|apply dP|apply dX<;>intro _)
 · trivial
 · refine dO ?_;omega
 · trivial
theorem d292 (a b:List UInt8) (ha:a.length≤1000000000000000) (hb:b.length≤1000000000000000):Df (C235 (a,b,())) (fun _=>True):=by
 unfold C235 F235;dsimp only;exact dZ (d308 a b ha hb) fun _ _=>dP trivial
theorem d258 (a:List UInt8) (ha:a.length≤1000000000000000):Df (C198 (a,())) (fun _=>True):=by
 unfold C198 F198;dsimp only;refine dZ (d96 _ _) ?_;rintro ⟨x,u⟩ -
 dsimp only;with_reducible repeat' (first|apply dP|apply dX<;>intro _)
 · trivial
 · refine dZ (d292 _ _ ha (by simp)) ?_
   rintro ⟨x,u⟩ -
   dsimp only;with_reducible repeat' (first|apply dP|apply dX<;>intro _)
   · trivial
   · trivial
   · refine dO ?_;omega
   · trivial
theorem d257 (a:List UInt8) (ha:a.length≤1000000000000000):Df (C197 (a,())) (fun y=>y.2.1=a):=by
 unfold C197 F197;dsimp only;exact dZ (d258 a ha) fun _ _=>dP rfl
theorem d256 (h:TK T A B) (s:List UInt8) (hs:s.length≤100000000000):Df (C196 (T,A,B,s,())) (fun _=>True):=by
 unfold C196 F196;dsimp only;refine dZ (d181 h s hs) ?_;rintro ⟨x,b,u⟩ -
 dsimp only;with_reducible repeat' (first|apply dP|apply dX<;>intro _)
 all_goals trivial
theorem d255 (h:TK T A B) (s:List UInt8) (hs:s.length≤100000000000):Df (C195 (s,T,A,B,())) (fun y=>y.2=(s,T,A,B,())∧(y.1=false→0<s.length)):=by
 unfold C195 F195;dsimp only;refine dZ (d21 s (by omega)) ?_;rintro ⟨x,u⟩ hx;dsimp only at hx ⊢;with_reducible repeat' (first|apply dP|apply dX<;>intro _)
 · exact ⟨rfl,fun h=>by cases h⟩
 · refine dZ (d256 h s hs) ?_
   rintro ⟨x,u⟩ -
   exact dP ⟨rfl,fun _=>by omega⟩
theorem d259 (h:TK T A B) (l:List Int) (hl:0<l.length):Df (C199 (T,A,B,l,())) (fun y=>y.2=(T,A,B,l,())):=by
 unfold C199 F199;dsimp only;with_reducible repeat' (first|apply dP|apply dX<;>intro _)
 · exact dZ (d215 T A B _ h.t) fun _ _=>dP rfl
 · refine dO ?_;omega
theorem d254 (a:Int):Df (C194 (a,())) (fun y=>y.2.1=a∧(y.1=false→a<0)):=by
 unfold C194 F194;dsimp only;refine dP ⟨rfl,fun h => ?_⟩;dsimp only at h;simp only [decide_eq_false_iff_not] at h;omega
theorem d263 (l:List Int) (a:List UInt8) (b:Bool) (hl:l.length≤1000000000000):Df (C203 (l,a,b,())) (fun y=>y.2.1=l):=by
 unfold C203 F203;dsimp only;exact dZ (d223 l hl) fun _ _=>dP rfl
theorem d264 (a:List UInt8):Df (C204 (a,())) (fun _=>True):=by
 unfold C204 F204;dsimp only;exact dP trivial
theorem d253 (h:TK T A B) (a0 a1 a2 a3 a4 a5 a6 a7:Int) (at_:Int) (s:List UInt8) (l:List Int) (c:List UInt8) (d:Bool) (hs:s.length≤100000000000) (hl:l.length≤100000000000) (h0:at_<0→0<s.length→0<l.length) :
 Df (C193 (a0,a1,a2,a3,a4,a5,a6,a7,at_,s,T,A,B,l,c,d,())) (fun _=>True):=by
 unfold C193 F193;dsimp only;refine dZ (d254 at_) ?_;rintro ⟨b,at',u⟩ hb;dsimp only at hb ⊢;obtain ⟨rfl,hb⟩:=hb;with_reducible repeat' (first|apply dP|apply dX<;>intro _)
 · trivial
 · rename_i h1
   refine dZ (d255 h s hs) ?_;rintro ⟨b2,y⟩ ⟨hy,h2⟩;dsimp only at hy h2;subst hy;dsimp only;with_reducible repeat' (first|apply dP|apply dX<;>intro _)
   · trivial
   · rename_i h3
     refine dZ (d257 s (by omega)) ?_;rintro ⟨b3,s',u⟩ hs';dsimp only at hs' ⊢;with_reducible repeat' (first|apply dP|apply dX<;>intro _)
     · trivial
     · refine dZ (d259 h l (h0 (hb h1) (h2 h3))) ?_
       rintro ⟨b4,y⟩ hy;dsimp only at hy;subst hy;dsimp only;with_reducible repeat' (first|apply dP|apply dX<;>intro _)
       · trivial
       · refine dZ (d260 h l (by omega)) ?_
         rintro ⟨b5,y⟩ hy;dsimp only at hy;subst hy;dsimp only;with_reducible repeat' (first|apply dP|apply dX<;>intro _)
         · trivial
         · refine dZ (d262 h l (by omega)) ?_
           rintro ⟨b6,y⟩ hy;dsimp only at hy;subst hy;dsimp only;with_reducible repeat' (first|apply dP|apply dX<;>intro _)
           · trivial
           · refine dZ (d263 l c d (by omega)) ?_
             rintro ⟨b7,l',c',d',u⟩ -
             dsimp only;with_reducible repeat' (first|apply dP|apply dX<;>intro _)
             · trivial
             · refine dZ (d264 _) ?_
               rintro ⟨b8,c8,u⟩ -
               dsimp only;with_reducible repeat' (first|apply dP|apply dX<;>intro _)
               all_goals trivial
theorem d224 (h:TK T A B) (s:List UInt8) (hs:s.length≤100000000000):Df (C158 (T,A,B,s,())) (fun _=>True):=by
 unfold C158 F158;dsimp only;refine dZ (d83 s (by omega)) ?_;rintro ⟨l,at_,u⟩ hl;dsimp only at hl ⊢;refine dZ (d253 h _ _ _ _ _ _ _ _ at_ s l _ _ hs (by omega) hl.2.2) ?_;rintro ⟨e,y⟩ -
 exact dP trivial
theorem d268_0 (a:Int) (b:Bool):Df (C208_c0 (a,b,())) (fun _=>True):=by
 unfold C208_c0 F208_c0;dsimp only;with_reducible repeat' (first|apply dP|apply dX<;>intro _)
 all_goals trivial
theorem d268_1 (a:Int) (b:Bool):Df (C208_c1 (a,b,())) (fun _=>True):=by
 unfold C208_c1 F208_c1;dsimp only;with_reducible repeat' (first|apply dP|apply dX<;>intro _)
 all_goals first|trivial|exact dZ (d268_0 _ _) fun _ _=>dP trivial
theorem d268 (a:Int):Df (C208 (a,())) (fun _=>True):=by
 unfold C208 F208;dsimp only;with_reducible repeat' (first|apply dP|apply dX<;>intro _)
 all_goals (refine dZ (d268_1 _ _) ?_;rintro ⟨x,u⟩ -;dsimp only;(repeat' (first|with_reducible apply dP|(with_reducible apply dB<;>intro _)));all_goals trivial)
theorem d156 (s:List UInt8) (b:Bool) (hs:s.length≤1000000000000000):Df (C99 (s,b,())) (fun _=>True):=by
 unfold C99 F99;dsimp only;refine dZ (P:=fun _=>True) ?_ (fun z _=>by cases z<;>exact dP trivial);refine dL ?I ?m ?h _ ?hv ?hn
 case I=>exact (fun v=>v.2.1.1=s∧0≤v.2.1.2)
 case m=>exact (fun v=>s.length-v.2.1.2.toNat)
 case hv=>exact ⟨rfl,Int.le_refl _⟩
 case hn=>exact (by (try dsimp only);omega)
 · rintro ⟨x0,⟨x1,p⟩,u⟩ hI
   dsimp only at hI;obtain ⟨rfl,h0⟩:=hI;unfold F99_l0;dsimp only;with_reducible repeat' (first|apply dP|apply dX<;>intro _)
   · refine dZ (d268 _) ?_
     rintro ⟨x,u⟩ -
     dsimp only;have:=decR_pos x1 p.toNat
     with_reducible repeat' (first|apply dP|apply dX<;>intro _)
     · trivial
     · exact ⟨⟨rfl,by (try dsimp only);omega⟩,by (try dsimp only);omega⟩
   · trivial
end
section
variable {T:List R6} {A:List R4} {B:List R3}
theorem d84 (s:List UInt8) (hs:s.length≤1000000000000000):Df (C35 (s,())) (fun _=>True):=by
 unfold C35 F35;dsimp only;refine dZ (P:=fun _=>True) ?_ (fun _ _=>dP trivial);unfold C65 F65;dsimp only;exact dZ (d156 s true hs) fun _ _=>dP trivial
theorem d225 (s:List UInt8) (hs:s.length≤1000000000000000):Df (C159 (s,())) (fun _=>True):=by
 unfold C159 F159;dsimp only;refine dZ (P:=fun _=>True) ?_ (fun _ _=>dP trivial);unfold C193v1 F193v1;dsimp only;refine dZ (P:=fun y=>y.2.1=s) (dP rfl) ?_;rintro ⟨b,s1,u⟩ h1;dsimp only at h1 ⊢;subst h1;with_reducible repeat' (first|apply dP|apply dX<;>intro _)
 · trivial
 · refine dZ (P:=fun y=>y.2.1=s1) (dP rfl) ?_
   rintro ⟨b,s2,u⟩ h2;dsimp only at h2 ⊢;subst h2;with_reducible repeat' (first|apply dP|apply dX<;>intro _)
   · trivial
   · refine dZ (P:=fun y=>y.2.1=s2) ?_ ?_
     · unfold C207 F207
       dsimp only;exact dZ (d84 s2 hs) fun _ _=>dP rfl
     rintro ⟨b,s3,u⟩ h3;dsimp only at h3 ⊢;subst h3;with_reducible repeat' (first|apply dP|apply dX<;>intro _)
     · trivial
     · refine dZ (P:=fun _=>True) ?_ ?_
       · unfold C209 F209
         dsimp only;exact dZ (d258 s3 hs) fun _ _=>dP trivial
       rintro ⟨b,s4,u⟩ -
       dsimp only;with_reducible repeat' (first|apply dP|apply dX<;>intro _)
       all_goals trivial
theorem wu8' (n:Int):IntKind.u8.wrap n=n%256:=by simp [IntKind.wrap,IntKind.bits,IntKind.signed]
theorem d294_0 (x:Int) (b:Bool) (hb:b=true→65≤x∧x≤90):Df (C237_c0 (x,b,())) (Sum.elim (fun y=>0≤y.1∧y.1≤35) (fun _=>True)):=by
 unfold C237_c0 F237_c0;dsimp only;with_reducible repeat' (first|apply dP|apply dX<;>intro _)
 · rename_i h1
   have:=hb h1;rw [wu8',w64'];exact ⟨by (try dsimp only);omega,by (try dsimp only);omega⟩
 · rw [wu8',w64']
   exact ⟨by (try dsimp only);omega,by (try dsimp only);omega⟩
 all_goals trivial
theorem d294_1 (x:Int) (b:Bool) (hb:b=true→48≤x∧x≤57):Df (C237_c1 (x,b,())) (Sum.elim (fun y=>0≤y.1∧y.1≤35) (fun _=>True)):=by
 unfold C237_c1 F237_c1;dsimp only;with_reducible repeat' (first|apply dP|apply dX<;>intro _)
 · rename_i h1
   have:=hb h1;rw [wu8',w64',w64'];exact ⟨by (try dsimp only);omega,by (try dsimp only);omega⟩
 · refine dZ (d294_0 x _ (fun h=>by simp only [decide_eq_true_eq] at h;omega)) ?_
   intro z hz;exact dS hz (fun a ha=>dP ha) (fun _ _=>dP trivial)
 · refine dZ (d294_0 x _ (fun h=>by cases h)) ?_
   intro z hz;exact dS hz (fun a ha=>dP ha) (fun _ _=>dP trivial)
theorem d294 (x:Int):Df (C237 (x,())) (fun y=>y.2.1=true→0≤y.1∧y.1≤35):=by
 unfold C237 F237;dsimp only;with_reducible repeat' (first|apply dP|apply dX<;>intro _)
 · refine dZ (d294_1 x _ (fun h=>by simp only [decide_eq_true_eq] at h;omega)) ?_
   intro z hz;exact dS hz (fun a ha=>dP fun _=>ha) (fun _ _=>dP fun h=>by cases h)
 · refine dZ (d294_1 x _ (fun h=>by cases h)) ?_
   intro z hz;exact dS hz (fun a ha=>dP fun _=>ha) (fun _ _=>dP fun h=>by cases h)
theorem d271_l (s:List UInt8) (b:Int) (hs:s.length≤1000000000000):Df (C211_l0 (s,b,0,1,(s.length:Int),0,())) (Sum.elim (fun _=>True) (Sum.elim (fun _=>True) (fun y=>0≤y.1∧y.1≤2147483647∧y.2.1.length<s.length))):=by
 refine dL ?I ?m ?h _ ?hv ?hn
 case I=>exact (fun v=>v.1=s∧0≤v.2.2.1∧v.2.2.1≤2147483647∧0≤v.2.2.2.1∧v.2.2.2.1≤75161927645∧v.2.2.2.2.1=s.length∧0≤v.2.2.2.2.2.1∧v.2.2.2.2.2.1≤s.length)
 case m=>exact (fun v=>(s.length-v.2.2.2.2.2.1).toNat)
 case hv=>exact ⟨rfl,by (try dsimp only);omega,by (try dsimp only);omega,by (try dsimp only);omega,by (try dsimp only);omega,rfl,by (try dsimp only);omega,by (try dsimp only);omega⟩
 case hn=>exact (by (try dsimp only);omega)
 rintro ⟨x0,x1,x2,x3,x4,x5,u⟩ hI;dsimp only at hI;obtain ⟨rfl,h0,h1,h2,h3,rfl,h4,h5⟩:=hI;unfold F211_l0;dsimp only;with_reducible repeat' (first|apply dP|apply dX<;>intro _)
 · refine dZ (d294 _) ?_
   rintro ⟨d,ok,u⟩ hd;dsimp only at hd ⊢;refine dH (fun _=>dP trivial) (fun hok => ?_);refine dD (fun _=>dP trivial) (fun hw => ?_)
   · have hd':=hd hok
     have p0:0≤d*x3:=Int.mul_nonneg hd'.1 h2;have p1:d*x3≤35*x3:=Int.mul_le_mul_of_nonneg_right hd'.2 h2;generalize d*x3=P at p0 p1 ⊢;rw [w64s (n:=P) (by omega),w64s (n:=x2+P) (by omega),w64s (n:=x5+1) (by omega)];with_reducible repeat' (first|apply dP|apply dX<;>intro _)
     · trivial
     · refine dZ (d290 _ _) ?_
       rintro ⟨t,u⟩ ht;dsimp only at ht ⊢;have q0:0≤x3*(36-t):=Int.mul_nonneg h2 (by omega);have q1:x3*(36-t)≤x3*35:=Int.mul_le_mul_of_nonneg_left (by omega) h2;rw [w64s (n:=36-t) (by omega)];generalize x3*(36-t)=R at q0 q1 ⊢;rw [w64s (n:=R) (by omega)];with_reducible repeat' (first|apply dP|apply dX<;>intro _)
       · refine ⟨by (try dsimp only);omega,by (try dsimp only);omega,?_⟩
         simp only [List.length_drop];omega
       · refine dO ?_;omega
       · exact ⟨⟨rfl,by (try dsimp only);omega,by (try dsimp only);omega,by (try dsimp only);omega,by (try dsimp only);omega,rfl,by (try dsimp only);omega,by (try dsimp only);omega⟩,by (try dsimp only);omega⟩
 · refine dO ?_;omega
 · trivial
theorem d271 (s:List UInt8) (b:Int) (hs:s.length≤1000000000000):Df (C211 (s,b,())) (fun y=>y.1<0∨(0≤y.1∧y.1≤2147483647∧y.2.1.length<s.length)):=by
 unfold C211 F211;dsimp only;refine dZ (d271_l s b hs) ?_;intro z hz;refine dS hz ?_ ?_
 · intro u _
   exact dP (.inl (by (try dsimp only);omega))
 · intro z2 hz2
   refine dS hz2 ?_ ?_
   · intro u _
     refine dZ (P:=fun y=>y.1<0) ?_ ?_
     · refine dL ?I ?m ?h _ ?hv ?hn
       case I=>exact (fun _=>True)
       case m=>exact (fun _=>0)
       case hv=>exact trivial
       case hn=>exact (by (try dsimp only);omega)
       intro v _;unfold F211_g0;exact dP (by decide:(-1:Int)<0)
     · rintro ⟨a,b,u⟩ h
       exact dP (.inl h)
   · rintro ⟨a,b,u⟩ h
     exact dP (.inr h)
theorem d272 (i:Int) (l:List Int) (x:Int) (hi:0≤i∧i≤l.length) (hl:l.length≤1000000000000):Df (C212 (i,l,[x],())) (fun y=>y.1.length=l.length+1):=by
 unfold C212;dsimp only;rw [decide_eq_true hi.1,decide_eq_true hi.2,decide_eq_true hl];refine dP ?_;simp only [List.length_append,List.length_take,List.length_drop,List.length_cons,List.length_nil];omega
theorem d226_l (L:Nat) (hL:L≤1000000000000) (s:List UInt8) (out:List Int) (h:s.length+out.length≤L):Df (C160_l0 (s,128,0,72,true,out,())) (Sum.elim (fun y=>y.1.length≤L) (fun _=>True)):=by
 refine dL ?I ?m ?h _ ?hv ?hn
 case I=>exact (fun v=>v.1.length+v.2.2.2.2.2.1.length≤L∧128≤v.2.1∧v.2.1≤1114111∧0≤v.2.2.1∧v.2.2.1≤v.2.2.2.2.2.1.length)
 case m=>exact (fun v=>v.1.length)
 case hv=>exact ⟨h,by (try dsimp only);omega,by (try dsimp only);omega,by (try dsimp only);omega,by (try dsimp only);omega⟩
 case hn=>exact (by (try dsimp only);omega)
 rintro ⟨x0,x1,x2,x3,x4,x5,u⟩ hI;dsimp only at hI;obtain ⟨h0,h1,h2,h3,h4⟩:=hI;unfold F160_l0;dsimp only;rw [w64s (n:=(x5.length:Int)+1) (by omega)];with_reducible repeat' (first|apply dP|apply dX<;>intro _)
 · refine dZ (d271 x0 x3 (by omega)) ?_
   rintro ⟨d,rest,u⟩ hd;dsimp only at hd ⊢;refine dD (fun _=>dP trivial) (fun hneg => ?_)
   · have hd':=hd.resolve_left hneg
     rw [w64s (n:=x2+d) (by omega)];with_reducible repeat' (first|apply dP|apply dX<;>intro _)
     · trivial
     · refine dZ (d252 _ _ _ hd'.1 (by omega)) ?_
       rintro ⟨b,u⟩ -
       dsimp only;have q0:0≤(x2+d)/((x5.length:Int)+1):=Int.ediv_nonneg (by omega) (by omega);have q1:(x2+d)/((x5.length:Int)+1)≤x2+d:=Int.ediv_le_self _ (by omega);have r0:0≤(x2+d)%((x5.length:Int)+1):=Int.emod_nonneg _ (by omega);have r1:(x2+d)%((x5.length:Int)+1)<(x5.length:Int)+1:=Int.emod_lt_of_pos _ (by omega);rw [Int.tdiv_eq_ediv_of_nonneg (by omega),Int.tmod_eq_emod_of_nonneg (by omega)];generalize (x2+d)/((x5.length:Int)+1)=q at q0 q1 ⊢;generalize (x2+d)%((x5.length:Int)+1)=r at r0 r1 ⊢;rw [w64s (n:=q) (by omega),w64s (n:=x1+q) (by omega)];with_reducible repeat' (first|apply dP|apply dX<;>intro _)
       · trivial
       · refine dZ (d155 _) ?_
         rintro ⟨ok,u⟩ -
         dsimp only;with_reducible repeat' (first|apply dP|apply dX<;>intro _)
         · trivial
         · refine dZ (d272 r x5 _ (by omega) (by omega)) ?_
           rintro ⟨out',u⟩ ho;dsimp only at ho ⊢;rw [w64s (n:=r+1) (by omega)];exact dP ⟨⟨by (try dsimp only);omega,by (try dsimp only);omega,by (try dsimp only);omega,by (try dsimp only);omega,by (try dsimp only);omega⟩,by (try dsimp only);omega⟩
         · refine dO ?_;omega
       · refine dO ?_;omega
 · exact (by (try dsimp only);omega:x5.length≤L)
theorem d226_0 (L:Nat) (hL:L≤1000000000000) (s:List UInt8) (out:List Int) (h:s.length+out.length≤L):Df (C160_c0 (s,out,())) (fun y=>y.2.1.length≤L):=by
 unfold C160_c0 F160_c0;dsimp only;refine dZ (d226_l L hL s out h) ?_;intro z hz;refine dS hz ?_ ?_
 · rintro ⟨a,u⟩ ha
   exact dP ha
 · rintro ⟨a,u⟩ -
   exact dP (by simp)
theorem d270 (s:List UInt8) (c:Int) (hs:s.length≤1000000000000):Df (C210 (s,c,())) (fun y => -1≤y.1∧y.1<s.length):=by
 unfold C210 F210;dsimp only;refine dZ (P:=fun y => -1≤y.1∧y.1<s.length) ?_ (fun _ h=>dP h);unfold C236 F236;dsimp only;rw [w64s (n:=(s.length:Int)-1) (by omega)];refine dZ (P:=Sum.elim (fun _=>True) (fun y => -1≤y.1∧y.1<s.length)) ?_ ?_
 · refine dL ?I ?m ?h _ ?hv ?hn
   case I=>exact (fun v=>v.1=s ∧ -1≤v.2.2.1∧v.2.2.1<s.length)
   case m=>exact (fun v=>(v.2.2.1+1).toNat)
   case hv=>exact ⟨rfl,by (try dsimp only);omega,by (try dsimp only);omega⟩
   case hn=>exact (by (try dsimp only);omega)
   rintro ⟨x0,x1,x2,u⟩ hI;dsimp only at hI;obtain ⟨rfl,h0,h1⟩:=hI;unfold F236_l0;dsimp only;with_reducible repeat' (first|apply dP|apply dX<;>intro _)
   · exact ⟨by (try dsimp only);omega,by (try dsimp only);omega⟩
   · rw [w64s (n:=x2-1) (by omega)]
     exact ⟨⟨rfl,by (try dsimp only);omega,by (try dsimp only);omega⟩,by (try dsimp only);omega⟩
   · refine dO ?_;omega
   · trivial
 · intro z hz
   refine dS hz ?_ ?_
   · intro u _
     exact dP ⟨by (try dsimp only);omega,by (try dsimp only);omega⟩
   · rintro ⟨a,u⟩ h
     exact dP h
theorem d226 (s:List UInt8) (hs:s.length≤1000000000000):Df (C160 (s,())) (fun y=>y.1.length≤s.length):=by
 unfold C160 F160;dsimp only;refine dZ (d21 s (by omega)) ?_;rintro ⟨e,u⟩ he;dsimp only at he ⊢;with_reducible repeat' (first|apply dP|apply dX<;>intro _)
 · exact (by simp:([]:List Int).length≤s.length)
 · rename_i hneg
   have hall:=he.2 (by omega);refine dZ (d270 s 45 hs) ?_;rintro ⟨k,u⟩ hk;dsimp only at hk ⊢;rw [w64s (n:=k+1) (by omega)];have hb:(decide ((List.take k.toNat s).length≤70368744177664)&&(List.take k.toNat s).all fun b=>decide (b.toNat<128))=true:=by
    rw [decide_eq_true (by rw [List.length_take];omega),Bool.true_and,List.all_eq_true];intro c hc;exact decide_eq_true (hall c (List.mem_of_mem_take hc))
   rw [hb];simp only [cond_true];with_reducible repeat' (first|apply dP|apply dX<;>intro _)
   · refine dZ (d226_0 s.length hs _ _ (by simp only [List.length_drop,List.length_map,List.length_take];omega)) ?_
     rintro ⟨a,b,u⟩ h;exact dP h
   · refine dO ?_;omega
   · refine dO ?_;omega
   · refine dZ (d226_0 s.length hs _ _ (by simp)) ?_
     rintro ⟨a,b,u⟩ h;exact dP h
theorem d192 (h:TK T A B) (s:List UInt8) (hs:s.length≤6000000):Df (C127 (T,A,B,s,())) (fun y=>y.1.length≤200000000000∧y.2.1.length≤200000000000):=by
 unfold C127 F127;dsimp only;refine dZ (d151 h s (by omega)) ?_;rintro ⟨f,ok,u⟩ hf;dsimp only at hf ⊢;refine dZ (d132 f _) ?_;rintro ⟨rest,is,u⟩ hr;dsimp only at hr ⊢;with_reducible repeat' (first|apply dP|apply dX<;>intro _)
 · exact ⟨by simp,by simp⟩
 · refine dZ (d21 f (by omega)) ?_
   rintro ⟨e,u⟩ -
   dsimp only;with_reducible repeat' (first|apply dP|apply dX<;>intro _)
   · refine dZ (d83 f (by omega)) ?_
     rintro ⟨l,at_,u⟩ hl;dsimp only at hl ⊢;refine dZ (d223 l (by omega)) ?_;rintro ⟨code,b,u⟩ hc;dsimp only at hc ⊢;with_reducible repeat' (first|apply dP|apply dX<;>intro _)
     · refine dZ (d224 h f (by omega)) ?_
       rintro ⟨w,u⟩ -
       exact dP ⟨by simp only [vl];omega,by (try dsimp only);omega⟩
     · refine dO ?_;simp only [List.length_cons,List.length_nil] at *;omega
   · refine dZ (d225 f (by omega)) ?_
     rintro ⟨w,u⟩ -
     exact dP ⟨by (try dsimp only);omega,by (try dsimp only);omega⟩
   · refine dZ (d226 rest (by omega)) ?_
     rintro ⟨l,ok2,u⟩ hl;dsimp only at hl ⊢;with_reducible repeat' (first|apply dP|apply dX<;>intro _)
     · exact ⟨by simp,by simp⟩
     · exact ⟨by simp,by simp⟩
     · refine dZ (d178 l (by omega)) ?_
       rintro ⟨us,b,u⟩ hu;dsimp only at hu ⊢;refine dZ (d224 h us (by omega)) ?_;rintro ⟨w,u⟩ -
       dsimp only;with_reducible repeat' (first|apply dP|apply dX<;>intro _)
       · exact ⟨by simp,by simp⟩
       · refine dZ (d223 l (by omega)) ?_
         rintro ⟨code,b,u⟩ -
         dsimp only;with_reducible repeat' (first|apply dP|apply dX<;>intro _)
         · exact ⟨by simp,by simp⟩
         · exact ⟨by (try dsimp only);omega,by (try dsimp only);omega⟩
theorem d159 (h:TK T A B) (s:List UInt8) (hs:s.length≤6000000):Df (C95 (T,A,B,s,())) (fun y=>y.1.length≤200000000000):=by
 unfold C95 F95;dsimp only;refine dZ (d192 h s hs) ?_;rintro ⟨a,b,e,u⟩ ha;dsimp only at ha ⊢;with_reducible repeat' (first|apply dP|apply dX<;>intro _)
 · exact (by simp:([]:List UInt8).length≤200000000000)
 · exact ha.1
theorem d160 (h:TK T A B) (s:List UInt8) (hs:s.length≤6000000):Df (C96 (T,A,B,s,())) (fun y=>y.1.length≤200000000000):=by
 unfold C96 F96;dsimp only;refine dZ (d192 h s hs) ?_;rintro ⟨a,b,e,u⟩ ha;dsimp only at ha ⊢;with_reducible repeat' (first|apply dP|apply dX<;>intro _)
 · exact (by simp:([]:List UInt8).length≤200000000000)
 · exact ha.2
theorem indexByte_lt (c:UInt8):∀l:List UInt8,Lib.indexByte l c<l.length
 | []=>by simp [Lib.indexByte]
 | b::l=>by
  have:=indexByte_lt c l;simp only [Lib.indexByte,List.length_cons];split
  · omega
  · split<;>omega
theorem d162 (s:List UInt8) (c:Int):Df (C131 (s,c,())) (fun y => -1≤y.1∧y.1<s.length):=by
 unfold C131 F131;dsimp only;exact dZ (P:=fun y => -1≤y.1∧y.1<s.length) (dP ⟨Lib.indexByte_ge s _,indexByte_lt _ s⟩) fun _ h=>dP h
theorem d197_0 (s:List UInt8) (b:Bool) (hb:b=true→0<s.length):Df (C164_c0 (s,[46],1,b,())) (fun y => -1≤y.1∧y.1<s.length):=by
 unfold C164_c0 F164_c0;dsimp only;with_reducible repeat' (first|apply dP|apply dX<;>intro _)
 · rename_i h1
   have:=hb h1;exact ⟨by (try dsimp only);omega,by (try dsimp only);omega⟩
 · exact dZ (d162 s _) fun _ h=>dP h
 · rename_i h1 h2 h3
   exact absurd (by decide:(0:Int)<(([46]:List UInt8).length:Int)) h3
 all_goals (exfalso;omega)
theorem d129 (s:List UInt8) (hs:s.length≤1000000000000):Df (C110 (s,[46],())) (fun y=>y.1.length≤s.length∧y.2.1.length≤s.length∧(y.2.2.1=true→y.2.1.length<s.length)):=by
 unfold C110 F110;dsimp only;refine dZ (P:=fun y=>y.1.length≤s.length∧y.2.1.length≤s.length∧(y.2.2.1=true→y.2.1.length<s.length)) ?_ (fun _ h=>dP h);unfold C134 F134;dsimp only;refine dZ (P:=fun y => -1≤y.1∧y.1<s.length) ?_ ?_
 · unfold C164 F164
   dsimp only;have e0:((([46]:List UInt8).length:Int)==0)=false:=rfl;rw [e0];simp only [cond_false];refine dZ (d197_0 s _ fun h => ?_) fun _ h=>dP h;have:=eq_of_beq h;rw [←this];decide
 rintro ⟨k,u⟩ hk;dsimp only at hk ⊢;rw [show (([46]:List UInt8).length:Int)=1 from rfl,w64s (n:=k+1) (by omega)];with_reducible repeat' (first|apply dP|apply dX<;>intro _)
 · refine ⟨?_,?_,fun _ => ?_⟩
   · simp only [List.length_take];omega
   · simp only [List.length_drop];omega
   · simp only [List.length_drop];omega
 · refine dO ?_;omega
 · refine dO ?_;omega
 · exact ⟨Nat.le_refl _,by simp,fun h=>by cases h⟩
theorem parts_total:∀(n:Nat) (s:List UInt8),s.length<n→s.length≤1000000000000→∃ps,partsC n s=some ps∧ps.length≤n∧∀p∈ps,p.length≤s.length
 | n+1,s,hn,hs=>by
  obtain ⟨⟨a,b,ok,u⟩,e,h1,h2,h3⟩:=d129 s hs;dsimp only at h1 h2 h3;cases ok with
  | true =>
   have h4:=h3 rfl;obtain ⟨ps,e2,h5,h6⟩:=parts_total n b (by omega) (by omega);refine ⟨a::ps,by simp only [partsC,e,Option.bind_some,cond_true,e2,Option.map_some],by simp only [List.length_cons];omega,?_⟩;intro p hp;rcases List.mem_cons.1 hp with rfl|hp
   · exact h1
   · have:=h6 p hp;omega
  | false =>
   refine ⟨[a],by simp only [partsC,e,Option.bind_some,cond_false],by simp only [List.length_cons,List.length_nil];omega,?_⟩;intro p hp;rw [List.mem_singleton] at hp;subst hp;exact h1
end
section
variable {T:List R6} {A:List R4} {B:List R3}
theorem index_fit {s old:List UInt8} {i:Nat} (h:Lib.index s old=i):i+old.length≤s.length:=by
 have:=Lib.index_room s old (by omega);omega
theorem replaceK_le (old new:List UInt8) (hl:new.length≤old.length):∀(k:Nat) (s:List UInt8),(Lib.replaceK old new k s).length≤s.length
 | 0,s=>Nat.le_refl _
 | k+1,s=>by
  by_cases h:Lib.index s old = -1
  · rw [Lib.replaceK,if_pos (by rw [h];rfl)];exact Nat.le_refl _
  · obtain ⟨i,hi⟩:∃i:Nat,Lib.index s old=i:=⟨(Lib.index s old).toNat,by have:=Lib.index_ge s old;omega⟩
    rw [Lib.replaceK_hit old new k s i hi];have h1:=replaceK_le old new hl k (s.drop (i+old.length));have h2:=index_fit hi;simp only [List.length_append,List.length_take,List.length_drop] at h1 ⊢;omega
theorem replaceAll_le (s old new:List UInt8) (hl:new.length≤old.length):(Lib.replaceAll s old new).length≤s.length:=by
 unfold Lib.replaceAll Lib.replace;split
 · exact Nat.le_refl _
 · exact replaceK_le old new hl _ s
theorem labels_total (f:List UInt8) (ok:Bool) (hf:f.length≤5000000):∃ls c,labelsF f ok=some (ls,c)∧ls.length≤32∧∀p∈ls,p.length≤5000000:=by
 unfold labelsF;cases ok with
 | false=>exact ⟨[],7,rfl,by simp,fun p hp=>by cases hp⟩
 | true =>
  cases hfe:f.isEmpty with
  | true=>exact ⟨[],13,rfl,by simp,fun p hp=>by cases hp⟩
  | false =>
   simp only [Bool.not_true,cond_false];rw [decide_eq_true (by omega)];simp only [cond_true];have hr:=replaceAll_le f [227,128,130] [46] (by decide);obtain ⟨ps,e,h1,h2⟩:=parts_total (f.length+2) (Lib.replaceAll f [227,128,130] [46]) (by omega) (by omega);simp only [e,Option.bind_some];rw [decide_eq_true (by omega)];simp only [cond_true];by_cases h3:32<ps.length
   · rw [decide_eq_true h3]
     exact ⟨[],2,rfl,by simp,fun p hp=>by cases hp⟩
   · rw [decide_eq_false h3]
     exact ⟨ps,0,rfl,by omega,fun p hp=>by have:=h2 p hp;omega⟩
theorem lens_snoc (l:List (List UInt8)) (x:List UInt8):Lib.lens (l++[x])=Lib.lens l+x.length:=by simp [Lib.lens]
theorem both_total (f g:List UInt8→Option (List UInt8×Int)) (hf:∀x:List UInt8,x.length≤5000000→∃y,f x=some y∧y.1.length≤200000000000) (hg:∀x:List UInt8,x.length≤5000000→∃y,g x=some y∧y.1.length≤200000000000) :
 ∀(ls ps qs:List (List UInt8)) (n:Nat),(∀p∈ls,p.length≤5000000)→ps.length+ls.length≤32→qs.length+ls.length≤32→Lib.lens ps≤200000000000*n→Lib.lens qs≤200000000000*n→n+ls.length≤32 →
  ∃r,bothF f g ls ps qs=some r∧r.2.1.length≤32∧r.2.2.length≤32∧Lib.lens r.2.1≤6400000000000∧Lib.lens r.2.2≤6400000000000
 | [],ps,qs,n,h,h1,h2,h3,h4,h5=>⟨(0,ps,qs),rfl,by simpa using h1,by simpa using h2,by simp only [List.length_nil] at h5;dsimp only;omega,by simp only [List.length_nil] at h5;dsimp only;omega⟩
 | x::ls,ps,qs,n,h,h1,h2,h3,h4,h5=>by
  obtain ⟨a,ea,ha⟩:=hf x (h x List.mem_cons_self);obtain ⟨b,eb,hb⟩:=hg x (h x List.mem_cons_self);simp only [bothF,ea,Option.bind_some];simp only [List.length_cons] at h1 h2 h5;cases hz:(a.2 != 0) with
  | true=>exact ⟨(a.2,[],[]),rfl,by simp,by simp,by simp [Lib.lens],by simp [Lib.lens]⟩
  | false =>
   simp only [cond_false,eb,Option.bind_some];exact both_total f g hf hg ls (ps++[a.1]) (qs++[b.1]) (n+1) (fun p hp=>h p (List.mem_cons_of_mem _ hp)) (by simp only [vl];omega) (by simp only [vl];omega)
    (by rw [lens_snoc];omega) (by rw [lens_snoc];omega) (by omega)
theorem join_total (l:List (List UInt8)) (h1:l.length≤32) (h2:Lib.lens l≤6400000000000):∃r,joinF (l,[46],())=some (r,()):=by
 unfold joinF;have hj:(Lib.join l [46]).length≤140737488355328:=by
  cases l with
  | nil=>exact Nat.zero_le _
  | cons x r =>
   rw [Lib.join_length];simp only [List.length_cons,List.length_nil] at h1 ⊢;omega
 dsimp only;rw [decide_eq_true (by omega),decide_eq_true hj];exact ⟨_,rfl⟩
theorem out_total (r:Int×List (List UInt8)×List (List UInt8)) (h1:r.2.1.length≤32) (h2:r.2.2.length≤32) (h3:Lib.lens r.2.1≤6400000000000) (h4:Lib.lens r.2.2≤6400000000000):∃o,outF r=some o:=by
 unfold outF;cases (r.1 != 0) with
 | true=>exact ⟨_,rfl⟩
 | false =>
  obtain ⟨a,ha⟩:=join_total r.2.1 h1 h3;obtain ⟨b,hb⟩:=join_total r.2.2 h2 h4;simp only [cond_false,ha,Option.bind_some,hb];cases decide (253<a.length) with
  | true=>exact ⟨_,rfl⟩
  | false=>exact ⟨_,rfl⟩
theorem d124 (h:TK T A B) (s:List UInt8) (hs:s.length≤3000):∃y,C62 (T,A,B,s,())=some y:=by
 obtain ⟨⟨f,ok,u⟩,e,hf⟩:=d151 h s (by omega);dsimp only at hf;obtain ⟨ls,c,e2,hll,hls⟩:=labels_total f ok (by omega);unfold C62;dsimp only;simp only [e,Option.bind_some,e2];cases (c != 0) with
 | true=>exact ⟨_,rfl⟩
 | false =>
  simp only [cond_false];rw [decide_eq_true hll];obtain ⟨r,er,h1,h2,h3,h4⟩:=both_total (fun x=>(C95 (T,A,B,x,())).map fun r=>(r.1,r.2.1)) (fun x=>(C96 (T,A,B,x,())).map fun r=>(r.1,r.2.1))
   (fun x hx=>by
    obtain ⟨y,e,hy⟩:=d159 h x (by omega);exact ⟨(y.1,y.2.1),by simp only [e,Option.map_some],hy⟩)
   (fun x hx=>by
    obtain ⟨y,e,hy⟩:=d160 h x (by omega);exact ⟨(y.1,y.2.1),by simp only [e,Option.map_some],hy⟩)
   ls [] [] 0 hls (by simpa using hll) (by simpa using hll) (by simp [Lib.lens]) (by simp [Lib.lens]) (by simpa using hll)
  obtain ⟨o,ho⟩:=out_total r h1 h2 h3 h4;simp only [cond_true,er,Option.bind_some,ho,Option.map_some];exact ⟨_,rfl⟩
end
end Go.Proofs.YtbifjondkjgkmaaGreatDoorA.W
