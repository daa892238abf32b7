/- The texts of the proof, one behind the other: W10, W11, W12, W13, PB, PL1, PL2, PL3, PL4, PL5, PL6, PL7, PQ, PL8, PL9, PM1, PM2, W14, PD0, PD1, PD2, PD3. -/
import Derived.Test.YtiacnhhmkdkpmaaGreatDoorAMy4
import Derived.Test.YtiacnhhmkdkpmaaGreatDoorAMy2
set_option maxRecDepth 100000
set_option linter.unusedVariables false
namespace Go.Proofs.YtiacnhhmkdkpmaaGreatDoorA.W
open Go Go.Ae
abbrev T109_l0 := LqD × Int × LqS × LqS × Unit → Option (LqD × Int × LqS × LqS × Unit)
def E109_l0 (f : T109_l0) : LEnt := ⟨Li248, Lo249, f⟩
abbrev T109 := LqD × Int × LqS × LqS × Unit → Option (Bool × LqD × Int × LqS × LqS × Unit)
def E109 (f : T109) : FEnt := ⟨Li246, Lo247, f⟩
def K109 (f146 : T146) := lk [(146, E146 f146)]
theorem kok109 : KOk Tryz.prog (K109 C146) := (kc ok146 kn)
def F109_l0 (f146 : T146) : LpF (LqD × Int × LqS × LqS × Unit) (LqD × Int × LqS × LqS × Unit) := fun (x0, x1, x2, x3, _) =>
 (f146 (0, x0, x1, x2, x3, ())).bind fun v =>
 bif v.1 == 4 then
 some
 (Sum.inl
 (v.2.1, IntKind.i64.wrap (v.2.2.1 + 1), v.2.2.2.1, v.2.2.2.2.1, ()))
 else
 (f146 (0, v.2.1, v.2.2.1, v.2.2.2.1, v.2.2.2.2.1, ())).bind fun v =>
 bif v.1 == 3 then
 some
 (Sum.inl
 (v.2.1, IntKind.i64.wrap (v.2.2.1 + 1), v.2.2.2.1, v.2.2.2.2.1,
 ()))
 else some (Sum.inr (v.2.1, v.2.2.1, v.2.2.2.1, v.2.2.2.2.1, ()))
def C109_l0 : T109_l0 := loopN (F109_l0 C146) big
theorem k109_l0 : LpOk 1 (subc (code Tryz.f109) [1, 0, 0, 0]) (E109_l0 C109_l0) := zl1 Li248 Lo249 K109 F109_l0 C146 kok109
def N109 (f109_l0 : T109_l0) : Ann := (.seq .nil (.seq (.blk (.loop (E109_l0 f109_l0))) .nil))
def F109 (f146 : T146) (f109_l0 : T109_l0) : T109 := fun (x0, x1, x2, x3, _) =>
 (f109_l0 (x0, x1, x2, x3, ())).bind fun v =>
 some (true, v.1, v.2.1, v.2.2.1, v.2.2.2.1, ())
theorem h109 (f146 : T146) (f109_l0 : T109_l0) : AqF (K109 f146) 1 Tryz.f109 (N109 f109_l0) Li246 Lo247 (F109 f146 f109_l0) := fun v => by kernel_rfl
def C109 : T109 := F109 C146 C109_l0
theorem ok109 : FO 109 (E109 C109) :=
 qo kok109 Tryz.func109 (And.intro k109_l0 trivial) (h109 C146 C109_l0)
abbrev T148 := LqS × LqD × Int × LqS × LqS × Unit → Option (Bool × LqD × Int × LqS × LqS × Unit)
def E148 (f : T148) : FEnt := ⟨Li250, Lo247, f⟩
def K148 (f146 : T146) := lk [(146, E146 f146)]
def F148 (f146 : T146) : T148 := fun (x0, x1, x2, x3, x4, _) =>
 (f146 (0, x1, x2, x3, x4, ())).bind fun v =>
 bif v.1 == 2 then
 bif decide (0 ≤ v.2.2.1) && decide (v.2.2.1 < (↑(List.length v.2.1) : Int)) then
 some
 ((List.getD v.2.1 (Int.toNat v.2.2.1)
 (0, ([], 0))).2.1 ==
 x0,
 v.2.1, v.2.2.1, v.2.2.2.1, v.2.2.2.2.1, ())
 else none
 else some (false, v.2.1, v.2.2.1, v.2.2.2.1, v.2.2.2.2.1, ())
theorem h148 (f146 : T146) : AqF (K148 f146) 1 Tryz.f148 .nil Li250 Lo247 (F148 f146) := fun v => by kernel_rfl
def C148 : T148 := F148 C146
theorem ok148 : FO 148 (E148 C148) :=
 q0 (kc ok146 kn) Tryz.func148 (h148 C146)
abbrev T147_l0 := LqS × LqD × Int × LqS × LqS × Unit → Option (LqS × LqD × Int × LqS × LqS × Unit)
def E147_l0 (f : T147_l0) : LEnt := ⟨Li252, Lo253, f⟩
abbrev T147_c0 := LqS × LqD × Int × LqS × LqS × Unit → Option (LqS × Bool × LqD × Int × LqS × LqS × Unit)
def E147_c0 (f : T147_c0) : LEnt := ⟨Li252, Lo254, f⟩
abbrev T147 := LqD × Int × LqS × LqS × Unit → Option (LqS × Bool × LqD × Int × LqS × LqS × Unit)
def E147 (f : T147) : FEnt := ⟨Li246, Lo251, f⟩
def K147 (f146 : T146) (f148 : T148) := lk [(146, E146 f146), (148, E148 f148)]
theorem kok147 : KOk Tryz.prog (K147 C146 C148) := (kc ok146 (kc ok148 kn))
def F147_l0 (f146 : T146) (f148 : T148) : LpF (LqS × LqD × Int × LqS × LqS × Unit) (LqS × LqD × Int × LqS × LqS × Unit) := fun (x0, x1, x2, x3, x4, _) =>
 (f148 ([46], x1, x2, x3, x4, ())).bind fun v =>
 bif v.1 then
 (f146 (1, v.2.1, v.2.2.1, v.2.2.2.1, v.2.2.2.2.1, ())).bind fun v =>
 bif v.1 == 0 then
 bif
 decide (0 ≤ IntKind.i64.wrap (v.2.2.1 + 1)) &&
 decide (IntKind.i64.wrap (v.2.2.1 + 1) < (↑(List.length v.2.1) : Int)) then
 bif
 decide
 ([46].length +
 List.length
 (List.getD v.2.1 (IntKind.i64.wrap (v.2.2.1 + 1)).toNat
 (0, ([], 0))).2.1 ≤
 9223372036854775807) then
 bif
 decide
 (x0.length +
 ([46] ++
 (List.getD v.2.1 (IntKind.i64.wrap (v.2.2.1 + 1)).toNat
 (0, ([], 0))).2.1).length ≤
 9223372036854775807) then
 some
 (Sum.inl
 (x0 ++
 ([46] ++
 (List.getD v.2.1 (IntKind.i64.wrap (v.2.2.1 + 1)).toNat
 (0, ([], 0))).2.1),
 v.2.1, IntKind.i64.wrap (v.2.2.1 + 2), v.2.2.2.1, v.2.2.2.2.1,
 ()))
 else none
 else none
 else none
 else some (Sum.inr (x0, v.2.1, v.2.2.1, v.2.2.2.1, v.2.2.2.2.1, ()))
 else some (Sum.inr (x0, v.2.1, v.2.2.1, v.2.2.2.1, v.2.2.2.2.1, ()))
def C147_l0 : T147_l0 := loopN (F147_l0 C146 C148) big
theorem k147_l0 : LpOk 1 (subc (code Tryz.f147) [1, 1, 1, 0, 1, 0, 0]) (E147_l0 C147_l0) := zl2 Li252 Lo253 K147 F147_l0 C146 C148 kok147
def N147_c0 (f147_l0 : T147_l0) : Ann := (.seq (.seq .nil (.blk (.loop (E147_l0 f147_l0)))) .nil)
def F147_c0 (f146 : T146) (f148 : T148) (f147_l0 : T147_l0) : T147_c0 := fun (x0, x1, x2, x3, x4, _) =>
 (f147_l0 (x0, x1, IntKind.i64.wrap (x2 + 1), x3, x4, ())).bind fun v =>
 some (v.1, true, v.2.1, v.2.2.1, v.2.2.2.1, v.2.2.2.2.1, ())
theorem h147_c0 (f146 : T146) (f148 : T148) (f147_l0 : T147_l0) : AqC (K147 f146 f148) 1 (subc (code Tryz.f147) [1, 1, 1]) (N147_c0 f147_l0) Li252 Lo254 (F147_c0 f146 f148 f147_l0) := fun v => by kernel_rfl
def C147_c0 : T147_c0 := F147_c0 C146 C148 C147_l0
theorem k147_c0 : CdOk 1 (subc (code Tryz.f147) [1, 1, 1]) (E147_c0 C147_c0) :=
 frd kok147 (And.intro k147_l0 trivial) (h147_c0 C146 C148 C147_l0)
def N147 (f147_c0 : T147_c0) : Ann := (.seq .nil (.seq .nil (.cut .nil (E147_c0 f147_c0))))
def F147 (f146 : T146) (f148 : T148) (f147_c0 : T147_c0) : T147 := fun (x0, x1, x2, x3, _) =>
 (f146 (0, x0, x1, x2, x3, ())).bind fun v =>
 bif v.1 != 0 then
 some ([], false, v.2.1, v.2.2.1, v.2.2.2.1, v.2.2.2.2.1, ())
 else
 bif decide (0 ≤ v.2.2.1) && decide (v.2.2.1 < (↑(List.length v.2.1) : Int)) then
 (f147_c0
 ((List.getD v.2.1 (Int.toNat v.2.2.1)
 (0, ([], 0))).2.1,
 v.2.1, v.2.2.1, v.2.2.2.1, v.2.2.2.2.1, ())).bind
 fun v =>
 some
 (v.1, v.2.1, v.2.2.1, v.2.2.2.1, v.2.2.2.2.1,
 v.2.2.2.2.2.1, ())
 else none
theorem h147 (f146 : T146) (f148 : T148) (f147_c0 : T147_c0) : AqF (K147 f146 f148) 1 Tryz.f147 (N147 f147_c0) Li246 Lo251 (F147 f146 f148 f147_c0) := fun v => by kernel_rfl
def C147 : T147 := F147 C146 C148 C147_c0
theorem ok147 : FO 147 (E147 C147) :=
 qo kok147 Tryz.func147 (And.intro k147_c0 trivial) (h147 C146 C148 C147_c0)
abbrev T110_c0 := LqD × Int × LqS × LqS × Unit → Option (Bool × LqD × Int × LqS × LqS × Unit)
def E110_c0 (f : T110_c0) : LEnt := ⟨Li255, Lo256, f⟩
abbrev T110 := LqD × Int × LqS × LqS × Unit → Option (Bool × LqD × Int × LqS × LqS × Unit)
def E110 (f : T110) : FEnt := ⟨Li246, Lo247, f⟩
def K110 (f146 : T146) (f147 : T147) := lk [(146, E146 f146), (147, E147 f147)]
theorem kok110 : KOk Tryz.prog (K110 C146 C147) := (kc ok146 (kc ok147 kn))
def F110_c0 (f146 : T146) (f147 : T147) : T110_c0 := fun (x0, x1, x2, x3, _) =>
 some (true, x0, IntKind.i64.wrap (x1 + 1), x2, x3, ())
theorem h110_c0 (f146 : T146) (f147 : T147) : AqC (K110 f146 f147) 1 (subc (code Tryz.f110) [1, 0, 1, 0, 1]) .nil Li255 Lo256 (F110_c0 f146 f147) := fun v => by kernel_rfl
def C110_c0 : T110_c0 := F110_c0 C146 C147
theorem k110_c0 : CdOk 1 (subc (code Tryz.f110) [1, 0, 1, 0, 1]) (E110_c0 C110_c0) :=
 frc kok110 (h110_c0 C146 C147)
def N110 (f110_c0 : T110_c0) : Ann := (.seq .nil (.seq (.seq .nil (.cond (.cut .nil (E110_c0 f110_c0)) .nil)) .nil))
def F110 (f146 : T146) (f147 : T147) (f110_c0 : T110_c0) : T110 := fun (x0, x1, x2, x3, _) =>
 (f146 (0, x0, x1, x2, x3, ())).bind fun v =>
 bif v.1 == 1 then
 bif decide (0 ≤ v.2.2.1) && decide (v.2.2.1 < (↑(List.length v.2.1) : Int)) then
 (f110_c0
 (v.2.1, v.2.2.1,
 (List.getD v.2.1 (Int.toNat v.2.2.1)
 (0, ([], 0))).2.1,
 v.2.2.2.2.1, ())).bind
 fun v =>
 some (v.1, v.2.1, v.2.2.1, v.2.2.2.1, v.2.2.2.2.1, ())
 else none
 else
 (f147 (v.2.1, v.2.2.1, v.2.2.2.1, v.2.2.2.2.1, ())).bind fun v =>
 some (v.2.1, v.2.2.1, v.2.2.2.1, v.1, v.2.2.2.2.2.1, ())
theorem h110 (f146 : T146) (f147 : T147) (f110_c0 : T110_c0) : AqF (K110 f146 f147) 1 Tryz.f110 (N110 f110_c0) Li246 Lo247 (F110 f146 f147 f110_c0) := fun v => by kernel_rfl
def C110 : T110 := F110 C146 C147 C110_c0
theorem ok110 : FO 110 (E110 C110) :=
 qo kok110 Tryz.func110 (And.intro k110_c0 trivial) (h110 C146 C147 C110_c0)
abbrev T111 := LqD × Int × LqS × LqS × Unit → Option (Bool × LqD × Int × LqS × LqS × Unit)
def E111 (f : T111) : FEnt := ⟨Li246, Lo247, f⟩
def K111 (f148 : T148) := lk [(148, E148 f148)]
def F111 (f148 : T148) : T111 := fun (x0, x1, x2, x3, _) =>
 (f148 ([64], x0, x1, x2, x3, ())).bind fun v =>
 some
 (v.1, v.2.1, IntKind.i64.wrap (v.2.2.1 + 1), v.2.2.2.1, v.2.2.2.2.1,
 ())
theorem h111 (f148 : T148) : AqF (K111 f148) 1 Tryz.f111 .nil Li246 Lo247 (F111 f148) := fun v => by kernel_rfl
def C111 : T111 := F111 C148
theorem ok111 : FO 111 (E111 C111) :=
 q0 (kc ok148 kn) Tryz.func111 (h111 C148)
abbrev T126_l0 := LqS × Int × Int × LqS × Unit → Option (LqS × Unit)
def E126_l0 (f : T126_l0) : LEnt := ⟨Li257, Lo258, f⟩
abbrev T126 := LqS × Unit → Option (LqS × Unit)
def E126 (f : T126) : FEnt := ⟨Li30, Lo16, f⟩
def F126_l0 : LpF (LqS × Int × Int × LqS × Unit) (LqS × Unit) := fun (x0, x1, x2, x3, _) =>
 bif decide (x2 < x1) then
 bif decide (0 ≤ x2) && decide (x2 < (↑x0.length : Int)) then
 bif (↑(x0.getD x2.toNat 0).toNat : Int) == 34 then
 bif decide (x3.length + [92].length ≤ 140737488355328 / 1) then
 bif decide (0 ≤ x2) && decide (x2 < (↑x0.length : Int)) then
 bif
 decide
 ((x3 ++ [92]).length +
 [UInt8.ofNat (↑(x0.getD x2.toNat 0).toNat : Int).toNat].length ≤
 140737488355328 / 1) then
 some
 (Sum.inl
 (x0, x1, IntKind.i64.wrap (x2 + 1),
 x3 ++ [92] ++ [UInt8.ofNat (↑(x0.getD x2.toNat 0).toNat : Int).toNat],
 ()))
 else none
 else none
 else none
 else
 bif decide (0 ≤ x2) && decide (x2 < (↑x0.length : Int)) then
 bif (↑(x0.getD x2.toNat 0).toNat : Int) == 92 then
 bif decide (x3.length + [92].length ≤ 140737488355328 / 1) then
 bif decide (0 ≤ x2) && decide (x2 < (↑x0.length : Int)) then
 bif
 decide
 ((x3 ++ [92]).length +
 [UInt8.ofNat (↑(x0.getD x2.toNat 0).toNat : Int).toNat].length ≤
 140737488355328 / 1) then
 some
 (Sum.inl
 (x0, x1, IntKind.i64.wrap (x2 + 1),
 x3 ++ [92] ++ [UInt8.ofNat (↑(x0.getD x2.toNat 0).toNat : Int).toNat],
 ()))
 else none
 else none
 else none
 else
 bif decide (0 ≤ x2) && decide (x2 < (↑x0.length : Int)) then
 bif
 decide
 (x3.length + [UInt8.ofNat (↑(x0.getD x2.toNat 0).toNat : Int).toNat].length ≤
 140737488355328 / 1) then
 some
 (Sum.inl
 (x0, x1, IntKind.i64.wrap (x2 + 1), x3 ++ [UInt8.ofNat (↑(x0.getD x2.toNat 0).toNat : Int).toNat],
 ()))
 else none
 else none
 else none
 else none
 else some (Sum.inr (x3, ()))
def C126_l0 : T126_l0 := loopN (F126_l0) big
theorem k126_l0 : LpOk 0 (subc (code Tryz.f126) [1, 1, 0, 1, 0, 0]) (E126_l0 C126_l0) := zl0 Li257 Lo258 KqZ F126_l0 kn
def N126 (f126_l0 : T126_l0) : Ann := (.seq .nil (.seq .nil (.seq (.seq .nil (.blk (.loop (E126_l0 f126_l0)))) .nil)))
def F126 (f126_l0 : T126_l0) : T126 := fun (x0, _) =>
 (f126_l0 (x0, (↑x0.length : Int), 0, [], ())).bind fun v => some (v.1, ())
def C126 : T126 := F126 C126_l0
theorem ok126 : FO 126 (E126 C126) := zq0_1 Li30 Lo16 KqZ N126 F126 C126_l0 kn Tryz.func126 (And.intro k126_l0 trivial)
abbrev T89 := Int × LqS × Int × Unit → Option (LqS × Unit)
def E89 (f : T89) : FEnt := ⟨Li259, Lo16, f⟩
def K89 (f126 : T126) := lk [(126, E126 f126)]
def F89 (f126 : T126) : T89 := fun (x0, x1, x2, _) =>
 bif x0 == 1 then
 (f126 (x1, ())).bind fun v =>
 bif decide ([34].length + List.length v.1 ≤ 9223372036854775807) then
 bif decide (([34] ++ v.1).length + [34].length ≤ 9223372036854775807) then
 some ([34] ++ v.1 ++ [34], ())
 else none
 else none
 else
 bif x0 == 3 then
 bif decide ([40].length + x1.length ≤ 9223372036854775807) then
 bif decide (([40] ++ x1).length + [41].length ≤ 9223372036854775807) then
 some ([40] ++ x1 ++ [41], ())
 else none
 else none
 else
 bif x0 == 5 then
 bif decide ([91].length + x1.length ≤ 9223372036854775807) then
 bif decide (([91] ++ x1).length + [93].length ≤ 9223372036854775807) then
 some ([91] ++ x1 ++ [93], ())
 else none
 else none
 else some (x1, ())
def C89 : T89 := F89 C126
theorem ok89 : FO 89 (E89 C89) := zq1 Li259 Lo16 K89 F89 C126 (kc ok126 kn) Tryz.func89
abbrev T112_c0 := LqD × Int × LqS × LqS × Unit → Option (Bool × LqD × Int × LqS × LqS × Unit)
def E112_c0 (f : T112_c0) : LEnt := ⟨Li255, Lo256, f⟩
abbrev T112 := LqD × Int × LqS × LqS × Unit → Option (Bool × LqD × Int × LqS × LqS × Unit)
def E112 (f : T112) : FEnt := ⟨Li246, Lo247, f⟩
def K112 (f146 : T146) (f147 : T147) (f89 : T89) := lk [(146, E146 f146), (147, E147 f147), (89, E89 f89)]
theorem kok112 : KOk Tryz.prog (K112 C146 C147 C89) := (kc ok146 (kc ok147 (kc ok89 kn)))
def F112_c0 (f146 : T146) (f147 : T147) (f89 : T89) : T112_c0 := fun (x0, x1, x2, x3, _) =>
 some (true, x0, IntKind.i64.wrap (x1 + 1), x2, x3, ())
theorem h112_c0 (f146 : T146) (f147 : T147) (f89 : T89) : AqC (K112 f146 f147 f89) 1 (subc (code Tryz.f112) [1, 0, 1, 0, 1]) .nil Li255 Lo256 (F112_c0 f146 f147 f89) := fun v => by kernel_rfl
def C112_c0 : T112_c0 := F112_c0 C146 C147 C89
theorem k112_c0 : CdOk 1 (subc (code Tryz.f112) [1, 0, 1, 0, 1]) (E112_c0 C112_c0) :=
 frc kok112 (h112_c0 C146 C147 C89)
def N112 (f112_c0 : T112_c0) : Ann := (.seq .nil (.seq (.seq .nil (.cond (.cut .nil (E112_c0 f112_c0)) .nil)) .nil))
def F112 (f146 : T146) (f147 : T147) (f89 : T89) (f112_c0 : T112_c0) : T112 := fun (x0, x1, x2, x3, _) =>
 (f146 (0, x0, x1, x2, x3, ())).bind fun v =>
 bif v.1 == 5 then
 bif decide (0 ≤ v.2.2.1) && decide (v.2.2.1 < (↑(List.length v.2.1) : Int)) then
 (f89
 ((List.getD v.2.1 (Int.toNat v.2.2.1)
 (0, ([], 0))).1,
 (List.getD v.2.1 (Int.toNat v.2.2.1)
 (0, ([], 0))).2.1,
 (List.getD v.2.1 (Int.toNat v.2.2.1)
 (0, ([], 0))).2.2,
 ())).bind
 fun v1 =>
 (f112_c0 (v.2.1, v.2.2.1, v.2.2.2.1, v1.1, ())).bind fun v =>
 some (v.1, v.2.1, v.2.2.1, v.2.2.2.1, v.2.2.2.2.1, ())
 else none
 else
 (f147 (v.2.1, v.2.2.1, v.2.2.2.1, v.2.2.2.2.1, ())).bind fun v =>
 some (v.2.1, v.2.2.1, v.2.2.2.1, v.2.2.2.2.1, v.1, ())
theorem h112 (f146 : T146) (f147 : T147) (f89 : T89) (f112_c0 : T112_c0) : AqF (K112 f146 f147 f89) 1 Tryz.f112 (N112 f112_c0) Li246 Lo247 (F112 f146 f147 f89 f112_c0) := fun v => by kernel_rfl
def C112 : T112 := F112 C146 C147 C89 C112_c0
theorem ok112 : FO 112 (E112 C112) :=
 qo kok112 Tryz.func112 (And.intro k112_c0 trivial) (h112 C146 C147 C89 C112_c0)
abbrev T71 := LqD × Unit → Option (LqS × LqS × Int × Bool × Unit)
def E71 (f : T71) : FEnt := ⟨Li260, Lo261, f⟩
def K71 (f109 : T109) (f110 : T110) (f111 : T111) (f112 : T112) := lk [(109, E109 f109), (110, E110 f110), (111, E111 f111), (112, E112 f112)]
def N71 : Ann := (.seq .nil (.seq .nil (.seq (.seq .nil (.blk (.unroll 9 .nil))) .nil)))
def F71 (f109 : T109) (f110 : T110) (f111 : T111) (f112 : T112) : T71 := fun (x0, _) =>
 (f109 (x0, 0, [], [], ())).bind fun v =>
 bif !v.1 then some ([], [], 0, false, ())
 else
 (f110 (v.2.1, v.2.2.1, v.2.2.2.1, v.2.2.2.2.1, ())).bind fun v =>
 bif !v.1 then some ([], [], 0, false, ())
 else
 (f109 (v.2.1, v.2.2.1, v.2.2.2.1, v.2.2.2.2.1, ())).bind fun v =>
 bif !v.1 then some ([], [], 0, false, ())
 else
 (f111 (v.2.1, v.2.2.1, v.2.2.2.1, v.2.2.2.2.1, ())).bind fun v =>
 bif !v.1 then some ([], [], 0, false, ())
 else
 (f109 (v.2.1, v.2.2.1, v.2.2.2.1, v.2.2.2.2.1, ())).bind fun v =>
 bif !v.1 then some ([], [], 0, false, ())
 else
 (f112 (v.2.1, v.2.2.1, v.2.2.2.1, v.2.2.2.2.1, ())).bind
 fun v =>
 bif !v.1 then some ([], [], 0, false, ())
 else
 (f109 (v.2.1, v.2.2.1, v.2.2.2.1, v.2.2.2.2.1, ())).bind
 fun v =>
 bif !v.1 then some ([], [], 0, false, ())
 else some (v.2.2.2.1, v.2.2.2.2.1, v.2.2.1, true, ())
theorem h71 (f109 : T109) (f110 : T110) (f111 : T111) (f112 : T112) : AqF (K71 f109 f110 f111 f112) 0 Tryz.f71 N71 Li260 Lo261 (F71 f109 f110 f111 f112) := fun v => by kernel_rfl
def C71 : T71 := F71 C109 C110 C111 C112
theorem ok71 : FO 71 (E71 C71) :=
 qo (kc ok109 (kc ok110 (kc ok111 (kc ok112 kn)))) Tryz.func71 trivial (h71 C109 C110 C111 C112)
abbrev T143_c0 := Int × Bool × LqD × Int × LqS × LqS × LqS × LqS × Unit → Option (Bool × LqD × Int × LqS × LqS × Unit)
def E143_c0 (f : T143_c0) : LEnt := ⟨Li264, Lo265, f⟩
abbrev T143 := LqD × Int × Unit → Option (LqS × LqS × Bool × LqD × Int × Unit)
def E143 (f : T143) : FEnt := ⟨Li262, Lo263, f⟩
def K143 (f71 : T71) := lk [(71, E71 f71)]
theorem kok143 : KOk Tryz.prog (K143 C71) := (kc ok71 kn)
def F143_c0 (f71 : T71) : T143_c0 := fun (x0, x1, x2, x3, x4, x5, x6, x7, _) =>
 some (x1, x2, IntKind.i64.wrap (x3 + x0), x6, x7, ())
def C143_c0 : T143_c0 := F143_c0 C71
theorem k143_c0 : CdOk 1 (subc (code Tryz.f143) [1, 1]) (E143_c0 C143_c0) := zc1 Li264 Lo265 K143 F143_c0 C71 kok143
def N143 (f143_c0 : T143_c0) : Ann := (.seq .nil (.cut .nil (E143_c0 f143_c0)))
def F143 (f71 : T71) (f143_c0 : T143_c0) : T143 := fun (x0, x1, _) =>
 bif decide (0 ≤ x1) && decide (x1 ≤ (↑x0.length : Int)) then
 (f71 (List.drop x1.toNat x0, ())).bind fun v =>
 (f143_c0 (v.2.2.1, v.2.2.2.1, x0, x1, [], [], v.1, v.2.1, ())).bind fun v =>
 some (v.2.2.2.1, v.2.2.2.2.1, v.1, v.2.1, v.2.2.1, ())
 else none
theorem h143 (f71 : T71) (f143_c0 : T143_c0) : AqF (K143 f71) 1 Tryz.f143 (N143 f143_c0) Li262 Lo263 (F143 f71 f143_c0) := fun v => by kernel_rfl
def C143 : T143 := F143 C71 C143_c0
theorem ok143 : FO 143 (E143 C143) :=
 qo kok143 Tryz.func143 (And.intro k143_c0 trivial) (h143 C71 C143_c0)
abbrev T175_l0 := List (Int) × Int × Int × Int × Unit → Option (Unit ⊕ (Int × Unit))
def E175_l0 (f : T175_l0) : LEnt := ⟨Li267, Lo159, f⟩
abbrev T175 := List (Int) × Int × Unit → Option (Int × Unit)
def E175 (f : T175) : FEnt := ⟨Li266, Lo10, f⟩
def F175_l0 : LpF (List (Int) × Int × Int × Int × Unit) (Unit ⊕ (Int × Unit)) := fun (x0, x1, x2, x3, _) =>
 bif decide (x3 < x2) then
 bif decide (0 ≤ x3) && decide (x3 < (↑x0.length : Int)) then
 bif x1 == x0.getD x3.toNat 0 then some (Sum.inr (Sum.inr (x3, ())))
 else some (Sum.inl (x0, x1, x2, IntKind.i64.wrap (x3 + 1), ()))
 else none
 else some (Sum.inr (Sum.inl ()))
def C175_l0 : T175_l0 := loopN (F175_l0) big
theorem k175_l0 : LpOk 0 (subc (code Tryz.f175) [1, 0, 1, 0, 0]) (E175_l0 C175_l0) := zl0 Li267 Lo159 KqZ F175_l0 kn
def N175 (f175_l0 : T175_l0) : Ann := (.seq .nil (.seq (.seq .nil (.blk (.loop (E175_l0 f175_l0)))) .nil))
def F175 (f175_l0 : T175_l0) : T175 := fun (x0, x1, _) =>
 (f175_l0 (x0, x1, (↑x0.length : Int), 0, ())).bind fun v =>
 Sum.elim (fun v => some (-1, ())) (fun v => some (v.1, ())) v
def C175 : T175 := F175 C175_l0
theorem ok175 : FO 175 (E175 C175) := zq0_1 Li266 Lo10 KqZ N175 F175 C175_l0 kn Tryz.func175 (And.intro k175_l0 trivial)
abbrev T142 := List (Int) × Int × Unit → Option (Bool × Unit)
def E142 (f : T142) : FEnt := ⟨Li266, Lo29, f⟩
def K142 (f175 : T175) := lk [(175, E175 f175)]
def F142 (f175 : T175) : T142 := fun (x0, x1, _) =>
 (f175 (x0, x1, ())).bind fun v => some (decide (v.1 ≥ 0), ())
def C142 : T142 := F142 C175
theorem ok142 : FO 142 (E142 C142) := zq1 Li266 Lo29 K142 F142 C175 (kc ok175 kn) Tryz.func142
abbrev T106 := List (Int) × LqD × Int × Unit → Option (Bool × LqD × Int × Unit)
def E106 (f : T106) : FEnt := ⟨Li268, Lo269, f⟩
def K106 (f142 : T142) := lk [(142, E142 f142)]
def F106 (f142 : T142) : T106 := fun (x0, x1, x2, _) =>
 bif decide (x2 < (↑x1.length : Int)) then
 bif decide (0 ≤ x2) && decide (x2 < (↑x1.length : Int)) then
 (f142 (x0, (x1.getD x2.toNat (0, ([], 0))).1, ())).bind
 fun v => some (v.1, x1, x2, ())
 else none
 else some (false, x1, x2, ())
theorem h106 (f142 : T142) : AqF (K106 f142) 1 Tryz.f106 .nil Li268 Lo269 (F106 f142) := fun v => by kernel_rfl
def C106 : T106 := F106 C142
theorem ok106 : FO 106 (E106 C106) :=
 q0 (kc ok142 kn) Tryz.func106 (h106 C142)
abbrev T145_l0 := LqD × Int × Unit → Option (LqD × Int × Unit)
def E145_l0 (f : T145_l0) : LEnt := ⟨Li271, Lo272, f⟩
abbrev T145 := LqD × Int × Unit → Option (LqD × Int × Unit)
def E145 (f : T145) : FEnt := ⟨Li262, Lo270, f⟩
def K145 (f106 : T106) := lk [(106, E106 f106)]
theorem kok145 : KOk Tryz.prog (K145 C106) := (kc ok106 kn)
def F145_l0 (f106 : T106) : LpF (LqD × Int × Unit) (LqD × Int × Unit) := fun (x0, x1, _) =>
 (f106 ([4, 3], x0, x1, ())).bind fun v =>
 bif v.1 then some (Sum.inl (v.2.1, IntKind.i64.wrap (v.2.2.1 + 1), ()))
 else some (Sum.inr (v.2.1, v.2.2.1, ()))
def C145_l0 : T145_l0 := loopN (F145_l0 C106) big
theorem k145_l0 : LpOk 1 (subc (code Tryz.f145) [0, 0]) (E145_l0 C145_l0) := zl1 Li271 Lo272 K145 F145_l0 C106 kok145
def N145 (f145_l0 : T145_l0) : Ann := (.blk (.loop (E145_l0 f145_l0)))
def F145 (f106 : T106) (f145_l0 : T145_l0) : T145 := fun (x0, x1, _) =>
 (f145_l0 (x0, x1, ())).bind fun v => some (v.1, v.2.1, ())
theorem h145 (f106 : T106) (f145_l0 : T145_l0) : AqF (K145 f106) 1 Tryz.f145 (N145 f145_l0) Li262 Lo270 (F145 f106 f145_l0) := fun v => by kernel_rfl
def C145 : T145 := F145 C106 C145_l0
theorem ok145 : FO 145 (E145 C145) :=
 qo kok145 Tryz.func145 (And.intro k145_l0 trivial) (h145 C106 C145_l0)
abbrev T144_c0 := LqD × Int × List (LqS) × Unit → Option (LqD × Int × List (LqS) × Unit)
def E144_c0 (f : T144_c0) : LEnt := ⟨Li274, Lo275, f⟩
abbrev T144_l0 := LqD × Int × List (LqS) × Unit → Option (LqD × Int × List (LqS) × Unit)
def E144_l0 (f : T144_l0) : LEnt := ⟨Li274, Lo276, f⟩
abbrev T144 := LqD × Int × Unit → Option (LqS × Bool × LqD × Int × Unit)
def E144 (f : T144) : FEnt := ⟨Li262, Lo273, f⟩
def K144 (f106 : T106) (f145 : T145) (f73 : T73) := lk [(106, E106 f106), (145, E145 f145), (73, E73 f73)]
theorem kok144 : KOk Tryz.prog (K144 C106 C145 C73) := (kc ok106 (kc ok145 (kc ok73 kn)))
def F144_c0 (f106 : T106) (f145 : T145) (f73 : T73) : T144_c0 := fun (x0, x1, x2, _) =>
 some (x0, IntKind.i64.wrap (x1 + 1), x2, ())
theorem h144_c0 (f106 : T106) (f145 : T145) (f73 : T73) : AqC (K144 f106 f145 f73) 1 (subc (code Tryz.f144) [1, 1, 0, 1, 0, 0, 1, 0, 0, 1]) .nil Li274 Lo275 (F144_c0 f106 f145 f73) := fun v => by kernel_rfl
def C144_c0 : T144_c0 := F144_c0 C106 C145 C73
theorem k144_c0 : CdOk 1 (subc (code Tryz.f144) [1, 1, 0, 1, 0, 0, 1, 0, 0, 1]) (E144_c0 C144_c0) :=
 frc kok144 (h144_c0 C106 C145 C73)
def N144_l0 (f144_c0 : T144_c0) : Ann := (.seq .nil (.seq (.blk (.cut .nil (E144_c0 f144_c0))) .nil))
def F144_l0 (f106 : T106) (f145 : T145) (f73 : T73) (f144_c0 : T144_c0) : LpF (LqD × Int × List (LqS) × Unit) (LqD × Int × List (LqS) × Unit) := fun (x0, x1, x2, _) =>
 (f106 ([0, 1], x0, x1, ())).bind fun v =>
 bif v.1 then
 bif decide (0 ≤ v.2.2.1) && decide (v.2.2.1 < (↑(List.length v.2.1) : Int)) then
 bif
 decide
 (x2.length +
 [(List.getD v.2.1 (Int.toNat v.2.2.1)
 (0, ([], 0))).2.1].length ≤
 140737488355328 / 16) then
 (f144_c0
 (v.2.1, v.2.2.1,
 x2 ++
 [(List.getD v.2.1 (Int.toNat v.2.2.1)
 (0, ([], 0))).2.1],
 ())).bind
 fun v =>
 (f145 (v.1, v.2.1, ())).bind fun v1 =>
 some (Sum.inl (v1.1, v1.2.1, v.2.2.1, ()))
 else none
 else none
 else some (Sum.inr (v.2.1, v.2.2.1, x2, ()))
theorem h144_l0 (f106 : T106) (f145 : T145) (f73 : T73) (f144_c0 : T144_c0) : AqL (K144 f106 f145 f73) 1 (subc (code Tryz.f144) [1, 1, 0, 1, 0, 0]) (N144_l0 f144_c0) Li274 Lo276 (F144_l0 f106 f145 f73 f144_c0) := fun v => by kernel_rfl
def C144_l0 : T144_l0 := loopN (F144_l0 C106 C145 C73 C144_c0) big
theorem k144_l0 : LpOk 1 (subc (code Tryz.f144) [1, 1, 0, 1, 0, 0]) (E144_l0 C144_l0) :=
 frm kok144 (And.intro k144_c0 trivial) (h144_l0 C106 C145 C73 C144_c0)
def N144 (f144_l0 : T144_l0) : Ann := (.seq .nil (.seq .nil (.seq (.seq .nil (.blk (.loop (E144_l0 f144_l0)))) .nil)))
def F144 (f106 : T106) (f145 : T145) (f73 : T73) (f144_l0 : T144_l0) : T144 := fun (x0, x1, _) =>
 (f145 (x0, x1, ())).bind fun v =>
 (f144_l0 (v.1, v.2.1, [], ())).bind fun v =>
 (f73 (v.2.2.1, [32], ())).bind fun v1 =>
 some (v1.1, decide ((↑(List.length v.2.2.1) : Int) > 0), v.1, v.2.1, ())
theorem h144 (f106 : T106) (f145 : T145) (f73 : T73) (f144_l0 : T144_l0) : AqF (K144 f106 f145 f73) 1 Tryz.f144 (N144 f144_l0) Li262 Lo273 (F144 f106 f145 f73 f144_l0) := fun v => by kernel_rfl
def C144 : T144 := F144 C106 C145 C73 C144_l0
theorem ok144 : FO 144 (E144 C144) :=
 qo kok144 Tryz.func144 (And.intro k144_l0 trivial) (h144 C106 C145 C73 C144_l0)
abbrev T68_c0 := LqD × Int × Unit → Option (Bool × LqD × Int × Unit)
def E68_c0 (f : T68_c0) : LEnt := ⟨Li278, Lo279, f⟩
abbrev T68 := LqS × LqD × Int × Unit → Option (Bool × LqD × Int × Unit)
def E68 (f : T68) : FEnt := ⟨Li277, Lo269, f⟩
def K68 (f106 : T106) := lk [(106, E106 f106)]
theorem kok68 : KOk Tryz.prog (K68 C106) := (kc ok106 kn)
def F68_c0 (f106 : T106) : T68_c0 := fun (x0, x1, _) =>
 some (true, x0, IntKind.i64.wrap (x1 + 1), ())
def C68_c0 : T68_c0 := F68_c0 C106
theorem k68_c0 : CdOk 1 (subc (code Tryz.f68) [1, 1]) (E68_c0 C68_c0) := zc1 Li278 Lo279 K68 F68_c0 C106 kok68
def N68 (f68_c0 : T68_c0) : Ann := (.seq .nil (.cut .nil (E68_c0 f68_c0)))
def F68 (f106 : T106) (f68_c0 : T68_c0) : T68 := fun (x0, x1, x2, _) =>
 (f106 ([2], x1, x2, ())).bind fun v =>
 bif !v.1 then some (false, v.2.1, v.2.2.1, ())
 else
 bif decide (0 ≤ v.2.2.1) && decide (v.2.2.1 < (↑(List.length v.2.1) : Int)) then
 bif
 !(List.getD v.2.1 (Int.toNat v.2.2.1)
 (0, ([], 0))).2.1 ==
 x0 then
 some (false, v.2.1, v.2.2.1, ())
 else
 (f68_c0 (v.2.1, v.2.2.1, ())).bind fun v =>
 some (v.1, v.2.1, v.2.2.1, ())
 else none
theorem h68 (f106 : T106) (f68_c0 : T68_c0) : AqF (K68 f106) 1 Tryz.f68 (N68 f68_c0) Li277 Lo269 (F68 f106 f68_c0) := fun v => by kernel_rfl
def C68 : T68 := F68 C106 C68_c0
theorem ok68 : FO 68 (E68 C68) :=
 qo kok68 Tryz.func68 (And.intro k68_c0 trivial) (h68 C106 C68_c0)
abbrev T107_c0 := LqS × Bool × LqD × Int × LqS × Bool × LqS × LqS × Unit → Option (Bool × LqD × Int × LqS × Bool × List ((LqS × LqS)) × Unit)
def E107_c0 (f : T107_c0) : LEnt := ⟨Li281, Lo282, f⟩
abbrev T107 := LqD × Int × Unit → Option (LqS × Bool × List ((LqS × LqS)) × Bool × LqD × Int × Unit)
def E107 (f : T107) : FEnt := ⟨Li262, Lo280, f⟩
def K107 (f143 : T143) (f144 : T144) (f145 : T145) (f68 : T68) := lk [(143, E143 f143), (144, E144 f144), (145, E145 f145), (68, E68 f68)]
theorem kok107 : KOk Tryz.prog (K107 C143 C144 C145 C68) := (kc ok143 (kc ok144 (kc ok145 (kc ok68 kn))))
def F107_c0 (f143 : T143) (f144 : T144) (f145 : T145) (f68 : T68) : T107_c0 := fun (x0, x1, x2, x3, x4, x5, x6, x7, _) =>
 (f145 (x2, x3, ())).bind fun v => some (x1, v.1, v.2.1, x0, false, [(x6, x7)], ())
theorem h107_c0 (f143 : T143) (f144 : T144) (f145 : T145) (f68 : T68) : AqC (K107 f143 f144 f145 f68) 1 (subc (code Tryz.f107) [1, 1, 1, 1, 1, 1]) .nil Li281 Lo282 (F107_c0 f143 f144 f145 f68) := fun v => by kernel_rfl
def C107_c0 : T107_c0 := F107_c0 C143 C144 C145 C68
theorem k107_c0 : CdOk 1 (subc (code Tryz.f107) [1, 1, 1, 1, 1, 1]) (E107_c0 C107_c0) :=
 frc kok107 (h107_c0 C143 C144 C145 C68)
def N107 (f107_c0 : T107_c0) : Ann := (.seq .nil (.seq .nil (.seq .nil (.seq .nil (.seq .nil (.cut .nil (E107_c0 f107_c0)))))))
def F107 (f143 : T143) (f144 : T144) (f145 : T145) (f68 : T68) (f107_c0 : T107_c0) : T107 := fun (x0, x1, _) =>
 (f143 (x0, x1, ())).bind fun v =>
 bif v.2.2.1 then
 some ([], false, [(v.1, v.2.1)], true, v.2.2.2.1, v.2.2.2.2.1, ())
 else
 (f144 (v.2.2.2.1, v.2.2.2.2.1, ())).bind fun v =>
 (f68 ([60], v.2.2.1, v.2.2.2.1, ())).bind fun v1 =>
 bif !v1.1 then some ([], false, [], false, v1.2.1, v1.2.2.1, ())
 else
 (f143 (v1.2.1, v1.2.2.1, ())).bind fun v2 =>
 bif v2.2.2.1 then
 (f68 ([62], v2.2.2.2.1, v2.2.2.2.2.1, ())).bind fun v3 =>
 (f107_c0
 (v.1, v3.1, v3.2.1, v3.2.2.1, [], false, v2.1, v2.2.1,
 ())).bind
 fun v =>
 some
 (v.2.2.2.1, v.2.2.2.2.1, v.2.2.2.2.2.1, v.1, v.2.1,
 v.2.2.1, ())
 else
 (f107_c0
 (v.1, false, v2.2.2.2.1, v2.2.2.2.2.1, [], false, v2.1,
 v2.2.1, ())).bind
 fun v =>
 some
 (v.2.2.2.1, v.2.2.2.2.1, v.2.2.2.2.2.1, v.1, v.2.1,
 v.2.2.1, ())
theorem h107 (f143 : T143) (f144 : T144) (f145 : T145) (f68 : T68) (f107_c0 : T107_c0) : AqF (K107 f143 f144 f145 f68) 1 Tryz.f107 (N107 f107_c0) Li262 Lo280 (F107 f143 f144 f145 f68 f107_c0) := fun v => by kernel_rfl
def C107 : T107 := F107 C143 C144 C145 C68 C107_c0
theorem ok107 : FO 107 (E107 C107) :=
 qo kok107 Tryz.func107 (And.intro k107_c0 trivial) (h107 C143 C144 C145 C68 C107_c0)
abbrev T108_l0 := Bool × LqD × Int × LqS × Bool × LqS × Bool × List ((LqS × LqS)) × Unit → Option ((LqD × Int × LqS × Bool × LqS × Bool × List ((LqS × LqS)) × Unit) ⊕ (Bool × LqD × Int × LqS × Bool × Unit))
def E108_l0 (f : T108_l0) : LEnt := ⟨Li283, Lo284, f⟩
abbrev T108 := LqD × Int × Unit → Option (LqS × Bool × List ((LqS × LqS)) × Bool × LqD × Int × Unit)
def E108 (f : T108) : FEnt := ⟨Li262, Lo280, f⟩
def K108 (f107 : T107) (f144 : T144) (f145 : T145) (f68 : T68) := lk [(107, E107 f107), (144, E144 f144), (145, E145 f145), (68, E68 f68)]
theorem kok108 : KOk Tryz.prog (K108 C107 C144 C145 C68) := (kc ok107 (kc ok144 (kc ok145 (kc ok68 kn))))
def F108_l0 (f107 : T107) (f144 : T144) (f145 : T145) (f68 : T68) : LpF (Bool × LqD × Int × LqS × Bool × LqS × Bool × List ((LqS × LqS)) × Unit) ((LqD × Int × LqS × Bool × LqS × Bool × List ((LqS × LqS)) × Unit) ⊕ (Bool × LqD × Int × LqS × Bool × Unit)) := fun (x0, x1, x2, x3, x4, x5, x6, x7, _) =>
 bif x0 then
 bif decide ((↑x7.length : Int) > 0) then
 (f68 ([44], x1, x2, ())).bind fun v =>
 bif !v.1 then some (Sum.inr (Sum.inr (false, v.2.1, v.2.2.1, [], false, ())))
 else
 (f107 (v.2.1, v.2.2.1, ())).bind fun v =>
 bif !v.2.2.2.1 then
 some
 (Sum.inr (Sum.inr (false, v.2.2.2.2.1, v.2.2.2.2.2.1, [], false, ())))
 else
 bif decide (x7.length + List.length v.2.2.1 ≤ 140737488355328 / 32) then
 (f68 ([59], v.2.2.2.2.1, v.2.2.2.2.2.1, ())).bind fun v1 =>
 some
 (Sum.inl
 (bif v1.1 then false else true, v1.2.1, v1.2.2.1, x3, x4, x5, x6,
 x7 ++ v.2.2.1, ()))
 else none
 else
 (f107 (x1, x2, ())).bind fun v =>
 bif !v.2.2.2.1 then
 some (Sum.inr (Sum.inr (false, v.2.2.2.2.1, v.2.2.2.2.2.1, [], false, ())))
 else
 bif decide (x7.length + List.length v.2.2.1 ≤ 140737488355328 / 32) then
 (f68 ([59], v.2.2.2.2.1, v.2.2.2.2.2.1, ())).bind fun v1 =>
 some
 (Sum.inl
 (bif v1.1 then false else true, v1.2.1, v1.2.2.1, x3, x4, x5, x6,
 x7 ++ v.2.2.1, ()))
 else none
 else some (Sum.inr (Sum.inl (x1, x2, x3, x4, x5, x6, x7, ())))
theorem h108_l0 (f107 : T107) (f144 : T144) (f145 : T145) (f68 : T68) : AqL (K108 f107 f144 f145 f68) 1 (subc (code Tryz.f108) [1, 1, 1, 1, 1, 0, 1, 0, 0]) .nil Li283 Lo284 (F108_l0 f107 f144 f145 f68) := fun v => by kernel_rfl
def C108_l0 : T108_l0 := loopN (F108_l0 C107 C144 C145 C68) big
theorem k108_l0 : LpOk 1 (subc (code Tryz.f108) [1, 1, 1, 1, 1, 0, 1, 0, 0]) (E108_l0 C108_l0) :=
 frl kok108 (h108_l0 C107 C144 C145 C68)
def N108 (f108_l0 : T108_l0) : Ann := (.seq .nil (.seq .nil (.seq .nil (.seq .nil (.seq .nil (.seq (.seq .nil (.blk (.loop (E108_l0 f108_l0)))) .nil))))))
def F108 (f107 : T107) (f144 : T144) (f145 : T145) (f68 : T68) (f108_l0 : T108_l0) : T108 := fun (x0, x1, _) =>
 (f144 (x0, x1, ())).bind fun v =>
 bif v.1 == [] then some ([], false, [], false, v.2.2.1, v.2.2.2.1, ())
 else
 (f68 ([58], v.2.2.1, v.2.2.2.1, ())).bind fun v1 =>
 bif !v1.1 then some ([], false, [], false, v1.2.1, v1.2.2.1, ())
 else
 (f145 (v1.2.1, v1.2.2.1, ())).bind fun v2 =>
 (f68 ([59], v2.1, v2.2.1, ())).bind fun v3 =>
 (f108_l0 (!v3.1, v3.2.1, v3.2.2.1, [], false, v.1, true, [], ())).bind fun v =>
 Sum.elim
 (fun v =>
 (f145 (v.1, v.2.1, ())).bind fun v4 =>
 some
 (v.2.2.2.2.1, v.2.2.2.2.2.1, v.2.2.2.2.2.2.1, true,
 v4.1, v4.2.1, ()))
 (fun v =>
 some
 (v.2.2.2.1, v.2.2.2.2.1, [], v.1, v.2.1, v.2.2.1,
 ()))
 v
theorem h108 (f107 : T107) (f144 : T144) (f145 : T145) (f68 : T68) (f108_l0 : T108_l0) : AqF (K108 f107 f144 f145 f68) 1 Tryz.f108 (N108 f108_l0) Li262 Lo280 (F108 f107 f144 f145 f68 f108_l0) := fun v => by kernel_rfl
def C108 : T108 := F108 C107 C144 C145 C68 C108_l0
theorem ok108 : FO 108 (E108 C108) :=
 qo kok108 Tryz.func108 (And.intro k108_l0 trivial) (h108 C107 C144 C145 C68 C108_l0)
abbrev T69 := LqD × Int × Unit → Option (LqS × Bool × List ((LqS × LqS)) × Bool × LqD × Int × Unit)
def E69 (f : T69) : FEnt := ⟨Li262, Lo280, f⟩
def K69 (f107 : T107) (f108 : T108) := lk [(107, E107 f107), (108, E108 f108)]
def N69 : Ann := (.seq .nil (.seq .nil (.seq (.seq .nil (.blk (.unroll 4 .nil))) .nil)))
def F69 (f107 : T107) (f108 : T108) : T69 := fun (x0, x1, _) =>
 (f107 (x0, x1, ())).bind fun v =>
 bif v.2.2.2.1 then
 some (v.1, v.2.1, v.2.2.1, true, v.2.2.2.2.1, v.2.2.2.2.2.1, ())
 else
 (f108 (v.2.2.2.2.1, x1, ())).bind fun v =>
 bif v.2.2.2.1 then
 some
 (v.1, v.2.1, v.2.2.1, true, v.2.2.2.2.1, v.2.2.2.2.2.1,
 ())
 else some ([], false, [], false, v.2.2.2.2.1, v.2.2.2.2.2.1, ())
theorem h69 (f107 : T107) (f108 : T108) : AqF (K69 f107 f108) 1 Tryz.f69 N69 Li262 Lo280 (F69 f107 f108) := fun v => by kernel_rfl
def C69 : T69 := F69 C107 C108
theorem ok69 : FO 69 (E69 C69) :=
 qo (kc ok107 (kc ok108 kn)) Tryz.func69 trivial (h69 C107 C108)
abbrev T31_l0 := List ((LqS × (Bool × List ((LqS × LqS))))) × Int × Int × List ((LqS × LqS)) × Unit → Option (List ((LqS × LqS)) × Unit)
def E31_l0 (f : T31_l0) : LEnt := ⟨Li287, Lo288, f⟩
abbrev T31 := List ((LqS × (Bool × List ((LqS × LqS))))) × Unit → Option (List ((LqS × LqS)) × Unit)
def E31 (f : T31) : FEnt := ⟨Li285, Lo286, f⟩
def F31_l0 : LpF (List ((LqS × (Bool × List ((LqS × LqS))))) × Int × Int × List ((LqS × LqS)) × Unit) (List ((LqS × LqS)) × Unit) := fun (x0, x1, x2, x3, _) =>
 bif decide (x2 < x1) then
 bif decide (0 ≤ x2) && decide (x2 < (↑x0.length : Int)) then
 bif
 decide
 (x3.length +
 List.length (x0.getD x2.toNat ([], (false, []))).2.2 ≤
 140737488355328 / 32) then
 some
 (Sum.inl
 (x0, x1, IntKind.i64.wrap (x2 + 1),
 x3 ++ (x0.getD x2.toNat ([], (false, []))).2.2, ()))
 else none
 else none
 else some (Sum.inr (x3, ()))
def C31_l0 : T31_l0 := loopN (F31_l0) big
theorem k31_l0 : LpOk 0 (subc (code Tryz.f31) [1, 1, 0, 1, 0, 0]) (E31_l0 C31_l0) := zl0 Li287 Lo288 KqZ F31_l0 kn
def N31 (f31_l0 : T31_l0) : Ann := (.seq .nil (.seq .nil (.seq (.seq .nil (.blk (.loop (E31_l0 f31_l0)))) .nil)))
def F31 (f31_l0 : T31_l0) : T31 := fun (x0, _) =>
 (f31_l0 (x0, (↑x0.length : Int), 0, [], ())).bind fun v => some (v.1, ())
def C31 : T31 := F31 C31_l0
theorem ok31 : FO 31 (E31 C31) := zq0_1 Li285 Lo286 KqZ N31 F31 C31_l0 kn Tryz.func31 (And.intro k31_l0 trivial)
abbrev T85 := Int × Unit → Option (Bool × Unit)
def E85 (f : T85) : FEnt := ⟨Li28, Lo29, f⟩
def F85 : T85 := fun (x0, _) =>
 bif x0 != 9 then bif decide (x0 < 32) then some (true, ()) else some (x0 == 127, ())
 else some (false, ())
def C85 : T85 := F85
theorem ok85 : FO 85 (E85 C85) := zq0 Li28 Lo29 KqZ F85 kn Tryz.func85
abbrev T156v1_l0 := Bool × (LqS × Int) × Unit → Option ((Int × Unit) ⊕ Unit)
def E156v1_l0 (f : T156v1_l0) : LEnt := ⟨Li290, Lo189, f⟩
abbrev T156v1 := LqS × Bool × Unit → Option (Int × Unit)
def E156v1 (f : T156v1) : FEnt := ⟨Li289, Lo10, f⟩
def K156v1 (f85 : T85) := lk [(85, E85 f85)]
theorem kok156v1 : KOk Tryz.prog (K156v1 C85) := (kc ok85 kn)
def F156v1_l0 (f85 : T85) : LpF (Bool × (LqS × Int) × Unit) ((Int × Unit) ⊕ Unit) := fun (x0, x1, _) =>
 bif decide (Int.toNat x1.2 < List.length x1.1) then
 (f85 ((↑(decR x1.1 (Int.toNat x1.2)).1 : Int), ())).bind fun v =>
 bif v.1 == x0 then some (Sum.inr (Sum.inl ((↑(Int.toNat x1.2) : Int), ())))
 else some (Sum.inl (x0, (x1.1, (↑(Int.toNat x1.2 + (decR x1.1 (Int.toNat x1.2)).2) : Int)), ()))
 else some (Sum.inr (Sum.inr ()))
def C156v1_l0 : T156v1_l0 := loopN (F156v1_l0 C85) big
theorem k156v1_l0 : LpOk 0 (subc (code Tryz.f156) [1, 0, 1, 0, 0]) (E156v1_l0 C156v1_l0) := zl1 Li290 Lo189 K156v1 F156v1_l0 C85 kok156v1
def N156v1 (f156v1_l0 : T156v1_l0) : Ann := (.seq .nil (.seq (.seq .nil (.blk (.loop (E156v1_l0 f156v1_l0)))) .nil))
def F156v1 (f85 : T85) (f156v1_l0 : T156v1_l0) : T156v1 := fun (x0, x1, _) =>
 (f156v1_l0 (x1, (x0, (↑0 : Int)), ())).bind fun v =>
 Sum.elim (fun v => some (v.1, ())) (fun v => some (-1, ())) v
def C156v1 : T156v1 := F156v1 C85 C156v1_l0
theorem ok156v1 : FO 156 (E156v1 C156v1) := zq1_1 Li289 Lo10 K156v1 N156v1 F156v1 C85 C156v1_l0 kok156v1 Tryz.func156 (And.intro k156v1_l0 trivial)
abbrev T123v1 := LqS × Unit → Option (Int × Unit)
def E123v1 (f : T123v1) : FEnt := ⟨Li291, Lo10, f⟩
def K123v1 (f156v1 : T156v1) := lk [(156, E156v1 f156v1)]
def F123v1 (f156v1 : T156v1) : T123v1 := fun (x0, _) =>
 (f156v1 (x0, true, ())).bind fun v => some (v.1, ())
def C123v1 : T123v1 := F123v1 C156v1
theorem ok123v1 : FO 123 (E123v1 C123v1) := zq1 Li291 Lo10 K123v1 F123v1 C156v1 (kc ok156v1 kn) Tryz.func123
abbrev T84v1 := LqS × Unit → Option (Bool × Unit)
def E84v1 (f : T84v1) : FEnt := ⟨Li291, Lo29, f⟩
def K84v1 (f123v1 : T123v1) := lk [(123, E123v1 f123v1)]
def F84v1 (f123v1 : T123v1) : T84v1 := fun (x0, _) =>
 (f123v1 (x0, ())).bind fun v => some (decide (v.1 ≥ 0), ())
def C84v1 : T84v1 := F84v1 C123v1
theorem ok84v1 : FO 84 (E84v1 C84v1) := zq1 Li291 Lo29 K84v1 F84v1 C123v1 (kc ok123v1 kn) Tryz.func84
abbrev T86 := LqS × Unit → Option (Bool × Unit)
def E86 (f : T86) : FEnt := ⟨Li30, Lo29, f⟩
def K86 (f96 : T96) := lk [(96, E96 f96)]
def F86 (f96 : T96) : T86 := fun (x0, _) =>
 (f96 (x0, [91], ())).bind fun v => some (v.1, ())
def C86 : T86 := F86 C96
theorem ok86 : FO 86 (E86 C86) := zq1 Li30 Lo29 K86 F86 C96 (kc ok96 kn) Tryz.func86
abbrev T87 := LqA × LqB × LqC × LqS × Unit → Option (LqS × Int × Unit)
def E87 (f : T87) : FEnt := ⟨Li17, Lo208, f⟩
def K87 (f124 : T124) := lk [(124, E124 f124)]
def F87 (f124 : T124) : T87 := fun (x0, x1, x2, x3, _) =>
 (f124 (x0, x1, x2, x3, ())).bind fun v => some (v.1, v.2.2.1, ())
def C87 : T87 := F87 C124
theorem ok87 : FO 87 (E87 C87) := zq1 Li17 Lo208 K87 F87 C124 (kc ok124 kn) Tryz.func87
abbrev T44 := LqA × LqB × LqC × LqS × LqS × Unit → Option (Int × Unit)
def E44 (f : T44) : FEnt := ⟨Li292, Lo10, f⟩
def K44 (f67 : T67) (f83 : T83) (f84v1 : T84v1) (f86 : T86) (f87 : T87) := lk [(67, E67 f67), (83, E83 f83), (84, E84v1 f84v1), (86, E86 f86), (87, E87 f87)]
def F44 (f67 : T67) (f83 : T83) (f84v1 : T84v1) (f86 : T86) (f87 : T87) : T44 := fun (x0, x1, x2, x3, x4, _) =>
 (f83 (x3, ())).bind fun v =>
 bif x3 == [] then some (13, ())
 else
 bif decide ((↑x3.length : Int) > 64) then some (5, ())
 else
 bif decide (v.2.1 ≥ 0) then some (7, ())
 else
 (f84v1 (x3, ())).bind fun v =>
 bif v.1 then some (8, ())
 else
 (f86 (x4, ())).bind fun v =>
 bif v.1 then
 (f67 (x4, ())).bind fun v =>
 bif v.2.2.1 != 0 then some (4, ())
 else
 bif (↑(List.length v.1) : Int) != 1 then some (4, ())
 else
 bif decide (0 < (↑(List.length v.1) : Int)) then
 bif
 (List.getD v.1 0
 (0, ([], 0))).1 !=
 5 then
 some (4, ())
 else some (0, ())
 else none
 else (f87 (x0, x1, x2, x4, ())).bind fun v => some (v.2.1, ())
theorem h44 (f67 : T67) (f83 : T83) (f84v1 : T84v1) (f86 : T86) (f87 : T87) : AqF (K44 f67 f83 f84v1 f86 f87) 0 Tryz.f44 .nil Li292 Lo10 (F44 f67 f83 f84v1 f86 f87) := fun v => by kernel_rfl
def C44 : T44 := F44 C67 C83 C84v1 C86 C87
theorem ok44 : FO 44 (E44 C44) :=
 q0 (kc ok67 (kc ok83 (kc ok84v1 (kc ok86 (kc ok87 kn))))) Tryz.func44 (h44 C67 C83 C84v1 C86 C87)
abbrev T70_l0 := List ((LqS × LqS)) × Int × Int × LqA × LqB × LqC × Unit → Option (Unit ⊕ (Int × Unit))
def E70_l0 (f : T70_l0) : LEnt := ⟨Li294, Lo165, f⟩
abbrev T70 := LqA × LqB × LqC × List ((LqS × LqS)) × Unit → Option (Int × Unit)
def E70 (f : T70) : FEnt := ⟨Li293, Lo10, f⟩
def K70 (f44 : T44) := lk [(44, E44 f44)]
theorem kok70 : KOk Tryz.prog (K70 C44) := (kc ok44 kn)
def F70_l0 (f44 : T44) : LpF (List ((LqS × LqS)) × Int × Int × LqA × LqB × LqC × Unit) (Unit ⊕ (Int × Unit)) := fun (x0, x1, x2, x3, x4, x5, _) =>
 bif decide (x2 < x1) then
 bif decide (0 ≤ x2) && decide (x2 < (↑x0.length : Int)) then
 (f44
 (x3, x4, x5, (x0.getD x2.toNat ([], [])).1,
 (x0.getD x2.toNat ([], [])).2, ())).bind
 fun v =>
 bif v.1 != 0 then some (Sum.inr (Sum.inr (v.1, ())))
 else some (Sum.inl (x0, x1, IntKind.i64.wrap (x2 + 1), x3, x4, x5, ()))
 else none
 else some (Sum.inr (Sum.inl ()))
def C70_l0 : T70_l0 := loopN (F70_l0 C44) big
theorem k70_l0 : LpOk 0 (subc (code Tryz.f70) [1, 1, 0, 1, 0, 0]) (E70_l0 C70_l0) := zl1 Li294 Lo165 K70 F70_l0 C44 kok70
def N70 (f70_l0 : T70_l0) : Ann := (.seq .nil (.seq .nil (.seq (.seq .nil (.blk (.loop (E70_l0 f70_l0)))) .nil)))
def F70 (f44 : T44) (f70_l0 : T70_l0) : T70 := fun (x0, x1, x2, x3, _) =>
 bif decide ((↑x3.length : Int) > 100) then some (2, ())
 else
 (f70_l0 (x3, (↑x3.length : Int), 0, x0, x1, x2, ())).bind fun v =>
 Sum.elim (fun v => some (0, ())) (fun v => some (v.1, ())) v
def C70 : T70 := F70 C44 C70_l0
theorem ok70 : FO 70 (E70 C70) := zq1_1 Li293 Lo10 K70 N70 F70 C44 C70_l0 kok70 Tryz.func70 (And.intro k70_l0 trivial)
abbrev T30_l0 := LqD × Bool × LqA × LqB × LqC × LqD × Int × List ((LqS × (Bool × List ((LqS × LqS))))) × Unit → Option ((LqD × LqA × LqB × LqC × LqD × Int × List ((LqS × (Bool × List ((LqS × LqS))))) × Unit) ⊕ (Int × Unit))
def E30_l0 (f : T30_l0) : LEnt := ⟨Li296, Lo297, f⟩
abbrev T30 := LqA × LqB × LqC × LqS × Unit → Option (List ((LqS × (Bool × List ((LqS × LqS))))) × Int × Unit)
def E30 (f : T30) : FEnt := ⟨Li17, Lo295, f⟩
def K30 (f31 : T31) (f67 : T67) (f68 : T68) (f69 : T69) (f70 : T70) := lk [(31, E31 f31), (67, E67 f67), (68, E68 f68), (69, E69 f69), (70, E70 f70)]
theorem kok30 : KOk Tryz.prog (K30 C31 C67 C68 C69 C70) := (kc ok31 (kc ok67 (kc ok68 (kc ok69 (kc ok70 kn)))))
def F30_l0 (f31 : T31) (f67 : T67) (f68 : T68) (f69 : T69) (f70 : T70) : LpF (LqD × Bool × LqA × LqB × LqC × LqD × Int × List ((LqS × (Bool × List ((LqS × LqS))))) × Unit) ((LqD × LqA × LqB × LqC × LqD × Int × List ((LqS × (Bool × List ((LqS × LqS))))) × Unit) ⊕ (Int × Unit)) := fun (x0, x1, x2, x3, x4, x5, x6, x7, _) =>
 bif x1 then
 (f69 (x5, x6, ())).bind fun v =>
 bif !v.2.2.2.1 then some (Sum.inr (Sum.inr (4, ())))
 else
 bif decide (x7.length + [(v.1, v.2.1, v.2.2.1)].length ≤ 140737488355328 / 48) then
 (f68 ([44], v.2.2.2.2.1, v.2.2.2.2.2.1, ())).bind fun v1 =>
 some
 (Sum.inl
 (x0, v1.1, x2, x3, x4, v1.2.1, v1.2.2.1,
 x7 ++ [(v.1, v.2.1, v.2.2.1)], ()))
 else none
 else some (Sum.inr (Sum.inl (x0, x2, x3, x4, x5, x6, x7, ())))
theorem h30_l0 (f31 : T31) (f67 : T67) (f68 : T68) (f69 : T69) (f70 : T70) : AqL (K30 f31 f67 f68 f69 f70) 0 (subc (code Tryz.f30) [1, 1, 1, 1, 1, 0, 1, 0, 0]) .nil Li296 Lo297 (F30_l0 f31 f67 f68 f69 f70) := fun v => by kernel_rfl
def C30_l0 : T30_l0 := loopN (F30_l0 C31 C67 C68 C69 C70) big
theorem k30_l0 : LpOk 0 (subc (code Tryz.f30) [1, 1, 1, 1, 1, 0, 1, 0, 0]) (E30_l0 C30_l0) :=
 frl kok30 (h30_l0 C31 C67 C68 C69 C70)
def N30 (f30_l0 : T30_l0) : Ann := (.seq .nil (.seq .nil (.seq .nil (.seq .nil (.seq .nil (.seq (.seq .nil (.blk (.loop (E30_l0 f30_l0)))) .nil))))))
def F30 (f31 : T31) (f67 : T67) (f68 : T68) (f69 : T69) (f70 : T70) (f30_l0 : T30_l0) : T30 := fun (x0, x1, x2, x3, _) =>
 (f67 (x3, ())).bind fun v =>
 bif v.2.2.1 != 0 then some ([], v.2.2.1, ())
 else
 (f30_l0 (v.1, true, x0, x1, x2, v.1, 0, [], ())).bind fun v =>
 Sum.elim
 (fun v =>
 bif decide (v.2.2.2.2.2.1 < (↑(List.length v.1) : Int)) then some ([], 4, ())
 else
 (f31 (v.2.2.2.2.2.2.1, ())).bind fun v1 =>
 (f70 (v.2.1, v.2.2.1, v.2.2.2.1, v1.1, ())).bind fun v2 =>
 bif v2.1 != 0 then some ([], v2.1, ())
 else some (v.2.2.2.2.2.2.1, 0, ()))
 (fun v => some ([], v.1, ())) v
theorem h30 (f31 : T31) (f67 : T67) (f68 : T68) (f69 : T69) (f70 : T70) (f30_l0 : T30_l0) : AqF (K30 f31 f67 f68 f69 f70) 0 Tryz.f30 (N30 f30_l0) Li17 Lo295 (F30 f31 f67 f68 f69 f70 f30_l0) := fun v => by kernel_rfl
def C30 : T30 := F30 C31 C67 C68 C69 C70 C30_l0
theorem ok30 : FO 30 (E30 C30) :=
 qo kok30 Tryz.func30 (And.intro k30_l0 trivial) (h30 C31 C67 C68 C69 C70 C30_l0)
abbrev T227_l0 := Int × (LqS × Int) × Unit → Option (Int × Unit)
def E227_l0 (f : T227_l0) : LEnt := ⟨Li298, Lo299, f⟩
abbrev T227 := LqS × Unit → Option (Int × Unit)
def E227 (f : T227) : FEnt := ⟨Li30, Lo10, f⟩
def F227_l0 : LpF (Int × (LqS × Int) × Unit) (Int × Unit) := fun (x0, x1, _) =>
 bif decide (Int.toNat x1.2 < List.length x1.1) then
 some
 (Sum.inl
 (IntKind.i64.wrap (x0 + 1), (x1.1, (↑(Int.toNat x1.2 + (decR x1.1 (Int.toNat x1.2)).2) : Int)),
 ()))
 else some (Sum.inr (x0, ()))
def C227_l0 : T227_l0 := loopN (F227_l0) big
theorem k227_l0 : LpOk 0 (subc (code Tryz.f227) [1, 0, 1, 0, 0]) (E227_l0 C227_l0) := zl0 Li298 Lo299 KqZ F227_l0 kn
def N227 (f227_l0 : T227_l0) : Ann := (.seq .nil (.seq (.seq .nil (.blk (.loop (E227_l0 f227_l0)))) .nil))
def F227 (f227_l0 : T227_l0) : T227 := fun (x0, _) =>
 (f227_l0 (0, (x0, (↑0 : Int)), ())).bind fun v => some (v.1, ())
def C227 : T227 := F227 C227_l0
theorem ok227 : FO 227 (E227 C227) := zq0_1 Li30 Lo10 KqZ N227 F227 C227_l0 kn Tryz.func227 (And.intro k227_l0 trivial)
abbrev T273 := LqS × Unit → Option (Int × Int × Unit)
def E273 (f : T273) : FEnt := ⟨Li30, Lo300, f⟩
def F273 : T273 := fun (x0, _) =>
 bif decide ((↑x0.length : Int) < 1) then some (65533, 0, ())
 else bif decide (0 < (↑x0.length : Int)) then none else none
def C273 : T273 := F273
theorem ok273 : FO 273 (E273 C273) := zq0 Li30 Lo300 KqZ F273 kn Tryz.func273
abbrev T228_c0 := LqS × Bool × Unit → Option ((Int × Int × Unit) ⊕ (Int × Int × Unit))
def E228_c0 (f : T228_c0) : LEnt := ⟨Li301, Lo302, f⟩
abbrev T228 := LqS × Unit → Option (Int × Int × Unit)
def E228 (f : T228) : FEnt := ⟨Li30, Lo300, f⟩
def K228 (f273 : T273) := lk [(273, E273 f273)]
theorem kok228 : KOk Tryz.prog (K228 C273) := (kc ok273 kn)
def F228_c0 (f273 : T273) : T228_c0 := fun (x0, x1, _) =>
 bif x1 then
 bif decide (0 < (↑x0.length : Int)) then
 some (Sum.inl (IntKind.i32.wrap (↑(x0.getD 0 0).toNat : Int), 1, ()))
 else none
 else (f273 (x0, ())).bind fun v => some (Sum.inr (v.1, v.2.1, ()))
def C228_c0 : T228_c0 := F228_c0 C273
theorem k228_c0 : CdOk 0 (subc (code Tryz.f228) [1, 0, 1]) (E228_c0 C228_c0) := zc1 Li301 Lo302 K228 F228_c0 C273 kok228
def N228 (f228_c0 : T228_c0) : Ann := (.seq .nil (.seq (.cut .nil (E228_c0 f228_c0)) .nil))
def F228 (f273 : T273) (f228_c0 : T228_c0) : T228 := fun (x0, _) =>
 bif !x0 == [] then
 bif decide (0 < (↑x0.length : Int)) then
 (f228_c0 (x0, decide ((↑(x0.getD 0 0).toNat : Int) < 128), ())).bind fun v =>
 Sum.elim (fun v => some (v.1, v.2.1, ())) (fun v => some (v.1, v.2.1, ()))
 v
 else none
 else
 (f228_c0 (x0, false, ())).bind fun v =>
 Sum.elim (fun v => some (v.1, v.2.1, ())) (fun v => some (v.1, v.2.1, ()))
 v
def C228 : T228 := F228 C273 C228_c0
theorem ok228 : FO 228 (E228 C228) := zq1_1 Li30 Lo300 K228 N228 F228 C273 C228_c0 kok228 Tryz.func228 (And.intro k228_c0 trivial)
abbrev T193_l0 := LqS × Int × Int × List (LqS) × Unit → Option (LqS × Int × List (LqS) × Unit)
def E193_l0 (f : T193_l0) : LEnt := ⟨Li304, Lo305, f⟩
abbrev T193_c0 := LqS × Int × Unit → Option (List (LqS) × Unit)
def E193_c0 (f : T193_c0) : LEnt := ⟨Li306, Lo307, f⟩
abbrev T193 := LqS × Int × Unit → Option (List (LqS) × Unit)
def E193 (f : T193) : FEnt := ⟨Li197, Lo303, f⟩
def K193 (f227 : T227) (f228 : T228) := lk [(227, E227 f227), (228, E228 f228)]
theorem kok193 : KOk Tryz.prog (K193 C227 C228) := (kc ok227 (kc ok228 kn))
def F193_l0 (f227 : T227) (f228 : T228) : LpF (LqS × Int × Int × List (LqS) × Unit) (LqS × Int × List (LqS) × Unit) := fun (x0, x1, x2, x3, _) =>
 bif decide (x2 < IntKind.i64.wrap (x1 - 1)) then
 (f228 (x0, ())).bind fun v =>
 bif decide (0 ≤ v.2.1) && decide (v.2.1 ≤ (↑x0.length : Int)) then
 bif decide (0 ≤ x2) && decide (x2 < (↑x3.length : Int)) then
 bif decide (0 ≤ v.2.1) && decide (v.2.1 ≤ (↑x0.length : Int)) then
 some
 (Sum.inl
 (List.drop (Int.toNat v.2.1) x0, x1, IntKind.i64.wrap (x2 + 1),
 x3.set x2.toNat (List.take (Int.toNat v.2.1) x0), ()))
 else none
 else none
 else none
 else some (Sum.inr (x0, x1, x3, ()))
def C193_l0 : T193_l0 := loopN (F193_l0 C227 C228) big
theorem k193_l0 : LpOk 0 (subc (code Tryz.f193) [1, 1, 1, 1, 0, 1, 0, 0]) (E193_l0 C193_l0) := zl2 Li304 Lo305 K193 F193_l0 C227 C228 kok193
def N193_c0 (f193_l0 : T193_l0) : Ann := (.seq .nil (.seq (.seq .nil (.blk (.loop (E193_l0 f193_l0)))) .nil))
def F193_c0 (f227 : T227) (f228 : T228) (f193_l0 : T193_l0) : T193_c0 := fun (x0, x1, _) =>
 bif
 decide (0 ≤ x1) &&
 (decide (x1 = x1) && (decide ((↑16 : Int) * x1 ≤ 281474976710656) && decide (x1 ≤ 140737488355328))) then
 (f193_l0 (x0, x1, 0, List.replicate x1.toNat [], ())).bind fun v =>
 bif decide (v.2.1 > 0) then
 bif
 decide (0 ≤ IntKind.i64.wrap (v.2.1 - 1)) &&
 decide (IntKind.i64.wrap (v.2.1 - 1) < (↑(List.length v.2.2.1) : Int)) then
 some (List.set v.2.2.1 (IntKind.i64.wrap (v.2.1 - 1)).toNat v.1, ())
 else none
 else some (v.2.2.1, ())
 else none
theorem h193_c0 (f227 : T227) (f228 : T228) (f193_l0 : T193_l0) : AqC (K193 f227 f228) 0 (subc (code Tryz.f193) [1, 1, 1]) (N193_c0 f193_l0) Li306 Lo307 (F193_c0 f227 f228 f193_l0) := fun v => by kernel_rfl
def C193_c0 : T193_c0 := F193_c0 C227 C228 C193_l0
theorem k193_c0 : CdOk 0 (subc (code Tryz.f193) [1, 1, 1]) (E193_c0 C193_c0) :=
 frd kok193 (And.intro k193_l0 trivial) (h193_c0 C227 C228 C193_l0)
def N193 (f193_c0 : T193_c0) : Ann := (.seq .nil (.seq .nil (.cut .nil (E193_c0 f193_c0))))
def F193 (f227 : T227) (f228 : T228) (f193_c0 : T193_c0) : T193 := fun (x0, x1, _) =>
 (f227 (x0, ())).bind fun v =>
 bif decide (x1 < 0) then (f193_c0 (x0, v.1, ())).bind fun v => some (v.1, ())
 else
 bif decide (x1 > v.1) then (f193_c0 (x0, v.1, ())).bind fun v => some (v.1, ())
 else (f193_c0 (x0, x1, ())).bind fun v => some (v.1, ())
def C193 : T193 := F193 C227 C228 C193_c0
theorem ok193 : FO 193 (E193 C193) := zq2_1 Li197 Lo303 K193 N193 F193 C227 C228 C193_c0 kok193 Tryz.func193 (And.intro k193_c0 trivial)
abbrev T195 := LqS × LqS × Unit → Option (Int × Unit)
def E195 (f : T195) : FEnt := ⟨Li114, Lo10, f⟩
def K195 (f197 : T197) := lk [(197, E197 f197)]
def F195 (f197 : T197) : T195 := fun (x0, x1, _) =>
 (f197 (x0, x1, ())).bind fun v => some (v.1, ())
def C195 : T195 := F195 C197
theorem ok195 : FO 195 (E195 C195) := zq1 Li114 Lo10 K195 F195 C197 (kc ok197 kn) Tryz.func195
abbrev T194_l0 := LqS × LqS × Int × Unit → Option (Int × Unit)
def E194_l0 (f : T194_l0) : LEnt := ⟨Li308, Lo309, f⟩
abbrev T194 := LqS × LqS × Unit → Option (Int × Unit)
def E194 (f : T194) : FEnt := ⟨Li114, Lo10, f⟩
def K194 (f195 : T195) (f227 : T227) (f229 : T229) := lk [(195, E195 f195), (227, E227 f227), (229, E229 f229)]
theorem kok194 : KOk Tryz.prog (K194 C195 C227 C229) := (kc ok195 (kc ok227 (kc ok229 kn)))
def F194_l0 (f195 : T195) (f227 : T227) (f229 : T229) : LpF (LqS × LqS × Int × Unit) (Int × Unit) := fun (x0, x1, x2, _) =>
 (f195 (x0, x1, ())).bind fun v =>
 bif v.1 == -1 then some (Sum.inr (x2, ()))
 else
 bif
 decide (0 ≤ IntKind.i64.wrap (v.1 + (↑x1.length : Int))) &&
 decide (IntKind.i64.wrap (v.1 + (↑x1.length : Int)) ≤ (↑x0.length : Int)) then
 some
 (Sum.inl
 (List.drop (IntKind.i64.wrap (v.1 + (↑x1.length : Int))).toNat x0, x1, IntKind.i64.wrap (x2 + 1),
 ()))
 else none
theorem h194_l0 (f195 : T195) (f227 : T227) (f229 : T229) : AqL (K194 f195 f227 f229) 0 (subc (code Tryz.f194) [1, 1, 1, 1, 0, 0]) .nil Li308 Lo309 (F194_l0 f195 f227 f229) := fun v => by kernel_rfl
def C194_l0 : T194_l0 := loopN (F194_l0 C195 C227 C229) big
theorem k194_l0 : LpOk 0 (subc (code Tryz.f194) [1, 1, 1, 1, 0, 0]) (E194_l0 C194_l0) :=
 frl kok194 (h194_l0 C195 C227 C229)
def N194 (f194_l0 : T194_l0) : Ann := (.seq .nil (.seq .nil (.seq .nil (.seq .nil (.blk (.loop (E194_l0 f194_l0)))))))
def F194 (f195 : T195) (f227 : T227) (f229 : T229) (f194_l0 : T194_l0) : T194 := fun (x0, x1, _) =>
 bif (↑x1.length : Int) == 0 then (f227 (x0, ())).bind fun v => some (IntKind.i64.wrap (v.1 + 1), ())
 else
 bif (↑x1.length : Int) == 1 then
 bif decide (0 < (↑x1.length : Int)) then
 (f229 (x0, (↑(x1.getD 0 0).toNat : Int), ())).bind fun v => some (v.1, ())
 else none
 else (f194_l0 (x0, x1, 0, ())).bind fun v => some (v.1, ())
theorem h194 (f195 : T195) (f227 : T227) (f229 : T229) (f194_l0 : T194_l0) : AqF (K194 f195 f227 f229) 0 Tryz.f194 (N194 f194_l0) Li114 Lo10 (F194 f195 f227 f229 f194_l0) := fun v => by kernel_rfl
def C194 : T194 := F194 C195 C227 C229 C194_l0
theorem ok194 : FO 194 (E194 C194) :=
 qo kok194 Tryz.func194 (And.intro k194_l0 trivial) (h194 C195 C227 C229 C194_l0)
abbrev T161_l0 := LqS × LqS × Int × Int × Int × List (LqS) × Unit → Option (LqS × Int × List (LqS) × Unit)
def E161_l0 (f : T161_l0) : LEnt := ⟨Li311, Lo312, f⟩
abbrev T161_c0 := LqS × LqS × Int × Int × Unit → Option (List (LqS) × Unit)
def E161_c0 (f : T161_c0) : LEnt := ⟨Li313, Lo314, f⟩
abbrev T161 := LqS × LqS × Int × Int × Unit → Option (List (LqS) × Unit)
def E161 (f : T161) : FEnt := ⟨Li310, Lo303, f⟩
def K161 (f193 : T193) (f194 : T194) (f195 : T195) := lk [(193, E193 f193), (194, E194 f194), (195, E195 f195)]
theorem kok161 : KOk Tryz.prog (K161 C193 C194 C195) := (kc ok193 (kc ok194 (kc ok195 kn)))
def F161_l0 (f193 : T193) (f194 : T194) (f195 : T195) : LpF (LqS × LqS × Int × Int × Int × List (LqS) × Unit) (LqS × Int × List (LqS) × Unit) := fun (x0, x1, x2, x3, x4, x5, _) =>
 bif decide (x4 < x3) then
 (f195 (x0, x1, ())).bind fun v =>
 bif decide (v.1 < 0) then some (Sum.inr (x0, x4, x5, ()))
 else
 bif
 decide (0 ≤ IntKind.i64.wrap (v.1 + x2)) &&
 decide (IntKind.i64.wrap (v.1 + x2) ≤ (↑x0.length : Int)) then
 bif decide (0 ≤ x4) && decide (x4 < (↑x5.length : Int)) then
 bif
 decide (0 ≤ IntKind.i64.wrap (v.1 + (↑x1.length : Int))) &&
 decide (IntKind.i64.wrap (v.1 + (↑x1.length : Int)) ≤ (↑x0.length : Int)) then
 some
 (Sum.inl
 (List.drop (IntKind.i64.wrap (v.1 + (↑x1.length : Int))).toNat x0, x1, x2, x3,
 IntKind.i64.wrap (x4 + 1), x5.set x4.toNat (List.take (IntKind.i64.wrap (v.1 + x2)).toNat x0),
 ()))
 else none
 else none
 else none
 else some (Sum.inr (x0, x4, x5, ()))
theorem h161_l0 (f193 : T193) (f194 : T194) (f195 : T195) : AqL (K161 f193 f194 f195) 0 (subc (code Tryz.f161) [1, 1, 1, 1, 1, 1, 1, 1, 0, 0, 0]) .nil Li311 Lo312 (F161_l0 f193 f194 f195) := fun v => by kernel_rfl
def C161_l0 : T161_l0 := loopN (F161_l0 C193 C194 C195) big
theorem k161_l0 : LpOk 0 (subc (code Tryz.f161) [1, 1, 1, 1, 1, 1, 1, 1, 0, 0, 0]) (E161_l0 C161_l0) :=
 frl kok161 (h161_l0 C193 C194 C195)
def N161_c0 (f161_l0 : T161_l0) : Ann := (.seq .nil (.seq .nil (.seq .nil (.seq .nil (.seq (.blk (.loop (E161_l0 f161_l0))) .nil)))))
def F161_c0 (f193 : T193) (f194 : T194) (f195 : T195) (f161_l0 : T161_l0) : T161_c0 := fun (x0, x1, x2, x3, _) =>
 bif
 decide
 (0 ≤
 if IntKind.i64.wrap ((↑x0.length : Int) + 1) < x3 then IntKind.i64.wrap ((↑x0.length : Int) + 1) else x3) &&
 (decide
 ((if IntKind.i64.wrap ((↑x0.length : Int) + 1) < x3 then IntKind.i64.wrap ((↑x0.length : Int) + 1) else x3) =
 if IntKind.i64.wrap ((↑x0.length : Int) + 1) < x3 then IntKind.i64.wrap ((↑x0.length : Int) + 1) else x3) &&
 (decide
 (((↑16 : Int) *
 if IntKind.i64.wrap ((↑x0.length : Int) + 1) < x3 then IntKind.i64.wrap ((↑x0.length : Int) + 1)
 else x3) ≤
 281474976710656) &&
 decide
 ((if IntKind.i64.wrap ((↑x0.length : Int) + 1) < x3 then IntKind.i64.wrap ((↑x0.length : Int) + 1)
 else x3) ≤
 140737488355328))) then
 (f161_l0
 (x0, x1, x2,
 IntKind.i64.wrap
 ((if IntKind.i64.wrap ((↑x0.length : Int) + 1) < x3 then IntKind.i64.wrap ((↑x0.length : Int) + 1)
 else x3) -
 1),
 0,
 List.replicate
 (if IntKind.i64.wrap ((↑x0.length : Int) + 1) < x3 then IntKind.i64.wrap ((↑x0.length : Int) + 1)
 else x3).toNat
 [],
 ())).bind
 fun v =>
 bif decide (0 ≤ v.2.1) && decide (v.2.1 < (↑(List.length v.2.2.1) : Int)) then
 bif
 decide (0 ≤ IntKind.i64.wrap (v.2.1 + 1)) &&
 decide
 (IntKind.i64.wrap (v.2.1 + 1) ≤
 (↑(List.set v.2.2.1 (Int.toNat v.2.1) v.1).length : Int)) then
 some
 (List.take (IntKind.i64.wrap (v.2.1 + 1)).toNat
 (List.set v.2.2.1 (Int.toNat v.2.1) v.1),
 ())
 else none
 else none
 else none
theorem h161_c0 (f193 : T193) (f194 : T194) (f195 : T195) (f161_l0 : T161_l0) : AqC (K161 f193 f194 f195) 0 (subc (code Tryz.f161) [1, 1, 1, 1]) (N161_c0 f161_l0) Li313 Lo314 (F161_c0 f193 f194 f195 f161_l0) := fun v => by kernel_rfl
def C161_c0 : T161_c0 := F161_c0 C193 C194 C195 C161_l0
theorem k161_c0 : CdOk 0 (subc (code Tryz.f161) [1, 1, 1, 1]) (E161_c0 C161_c0) :=
 frd kok161 (And.intro k161_l0 trivial) (h161_c0 C193 C194 C195 C161_l0)
def N161 (f161_c0 : T161_c0) : Ann := (.seq .nil (.seq .nil (.seq .nil (.cut .nil (E161_c0 f161_c0)))))
def F161 (f193 : T193) (f194 : T194) (f195 : T195) (f161_c0 : T161_c0) : T161 := fun (x0, x1, x2, x3, _) =>
 bif x3 == 0 then some ([], ())
 else
 bif x1 == [] then (f193 (x0, x3, ())).bind fun v => some (v.1, ())
 else
 bif decide (x3 < 0) then
 (f194 (x0, x1, ())).bind fun v =>
 (f161_c0 (x0, x1, x2, IntKind.i64.wrap (v.1 + 1), ())).bind fun v => some (v.1, ())
 else (f161_c0 (x0, x1, x2, x3, ())).bind fun v => some (v.1, ())
theorem h161 (f193 : T193) (f194 : T194) (f195 : T195) (f161_c0 : T161_c0) : AqF (K161 f193 f194 f195) 0 Tryz.f161 (N161 f161_c0) Li310 Lo303 (F161 f193 f194 f195 f161_c0) := fun v => by kernel_rfl
def C161 : T161 := F161 C193 C194 C195 C161_c0
theorem ok161 : FO 161 (E161 C161) :=
 qo kok161 Tryz.func161 (And.intro k161_c0 trivial) (h161 C193 C194 C195 C161_c0)
abbrev T125 := LqS × LqS × Unit → Option (List (LqS) × Unit)
def E125 (f : T125) : FEnt := ⟨Li114, Lo303, f⟩
def K125 (f161 : T161) := lk [(161, E161 f161)]
def F125 (f161 : T161) : T125 := fun (x0, x1, _) =>
 (f161 (x0, x1, 0, -1, ())).bind fun v => some (v.1, ())
def C125 : T125 := F125 C161
theorem ok125 : FO 125 (E125 C125) := zq1 Li114 Lo303 K125 F125 C161 (kc ok161 kn) Tryz.func125
abbrev T47_l0 := LqS × Int × Int × Unit → Option ((LqS × Unit) ⊕ (Bool × Unit))
def E47_l0 (f : T47_l0) : LEnt := ⟨Li315, Lo316, f⟩
abbrev T47 := LqS × Unit → Option (Bool × Unit)
def E47 (f : T47) : FEnt := ⟨Li30, Lo29, f⟩
def K47 (f90 : T90) := lk [(90, E90 f90)]
theorem kok47 : KOk Tryz.prog (K47 C90) := (kc ok90 kn)
def F47_l0 (f90 : T90) : LpF (LqS × Int × Int × Unit) ((LqS × Unit) ⊕ (Bool × Unit)) := fun (x0, x1, x2, _) =>
 bif decide (x2 < x1) then
 bif decide (0 ≤ x2) && decide (x2 < (↑x0.length : Int)) then
 (f90 ((↑(x0.getD x2.toNat 0).toNat : Int), ())).bind fun v =>
 bif !v.1 then some (Sum.inr (Sum.inr (false, ())))
 else some (Sum.inl (x0, x1, IntKind.i64.wrap (x2 + 1), ()))
 else none
 else some (Sum.inr (Sum.inl (x0, ())))
def C47_l0 : T47_l0 := loopN (F47_l0 C90) big
theorem k47_l0 : LpOk 0 (subc (code Tryz.f47) [1, 0, 1, 0, 0]) (E47_l0 C47_l0) := zl1 Li315 Lo316 K47 F47_l0 C90 kok47
def N47 (f47_l0 : T47_l0) : Ann := (.seq .nil (.seq (.seq .nil (.blk (.loop (E47_l0 f47_l0)))) .nil))
def F47 (f90 : T90) (f47_l0 : T47_l0) : T47 := fun (x0, _) =>
 (f47_l0 (x0, (↑x0.length : Int), 0, ())).bind fun v =>
 Sum.elim (fun v => some (bif v.1 == [] then false else true, ()))
 (fun v => some (v.1, ())) v
def C47 : T47 := F47 C90 C47_l0
theorem ok47 : FO 47 (E47 C47) := zq1_1 Li30 Lo29 K47 N47 F47 C90 C47_l0 kok47 Tryz.func47 (And.intro k47_l0 trivial)
abbrev T88_l0 := List (LqS) × Int × Int × Unit → Option (Unit ⊕ (Bool × Unit))
def E88_l0 (f : T88_l0) : LEnt := ⟨Li317, Lo318, f⟩
abbrev T88 := LqS × Unit → Option (Bool × Unit)
def E88 (f : T88) : FEnt := ⟨Li30, Lo29, f⟩
def K88 (f125 : T125) (f47 : T47) := lk [(125, E125 f125), (47, E47 f47)]
theorem kok88 : KOk Tryz.prog (K88 C125 C47) := (kc ok125 (kc ok47 kn))
def F88_l0 (f125 : T125) (f47 : T47) : LpF (List (LqS) × Int × Int × Unit) (Unit ⊕ (Bool × Unit)) := fun (x0, x1, x2, _) =>
 bif decide (x2 < x1) then
 bif decide (0 ≤ x2) && decide (x2 < (↑x0.length : Int)) then
 (f47 (x0.getD x2.toNat [], ())).bind fun v =>
 bif !v.1 then some (Sum.inr (Sum.inr (false, ())))
 else some (Sum.inl (x0, x1, IntKind.i64.wrap (x2 + 1), ()))
 else none
 else some (Sum.inr (Sum.inl ()))
def C88_l0 : T88_l0 := loopN (F88_l0 C125 C47) big
theorem k88_l0 : LpOk 0 (subc (code Tryz.f88) [1, 0, 1, 0, 0]) (E88_l0 C88_l0) := zl2 Li317 Lo318 K88 F88_l0 C125 C47 kok88
def N88 (f88_l0 : T88_l0) : Ann := (.seq .nil (.seq (.seq .nil (.blk (.loop (E88_l0 f88_l0)))) .nil))
def F88 (f125 : T125) (f47 : T47) (f88_l0 : T88_l0) : T88 := fun (x0, _) =>
 (f125 (x0, [46], ())).bind fun v =>
 (f88_l0 (v.1, (↑(List.length v.1) : Int), 0, ())).bind fun v =>
 Sum.elim (fun v => some (true, ())) (fun v => some (v.1, ())) v
def C88 : T88 := F88 C125 C47 C88_l0
theorem ok88 : FO 88 (E88 C88) := zq2_1 Li30 Lo29 K88 N88 F88 C125 C47 C88_l0 kok88 Tryz.func88 (And.intro k88_l0 trivial)
abbrev T45 := LqS × LqS × Unit → Option (LqS × Unit)
def E45 (f : T45) : FEnt := ⟨Li319, Lo16, f⟩
def K45 (f88 : T88) (f89 : T89) := lk [(88, E88 f88), (89, E89 f89)]
def F45 (f88 : T88) (f89 : T89) : T45 := fun (x0, x1, _) =>
 (f88 (x0, ())).bind fun v =>
 bif !v.1 then
 (f89 (1, x0, 0, ())).bind fun v =>
 bif decide (List.length v.1 + [64].length ≤ 9223372036854775807) then
 bif decide ((v.1 ++ [64]).length + x1.length ≤ 9223372036854775807) then
 some (v.1 ++ [64] ++ x1, ())
 else none
 else none
 else
 bif decide (x0.length + [64].length ≤ 9223372036854775807) then
 bif decide ((x0 ++ [64]).length + x1.length ≤ 9223372036854775807) then
 some (x0 ++ [64] ++ x1, ())
 else none
 else none
def C45 : T45 := F45 C88 C89
theorem ok45 : FO 45 (E45 C45) := zq2 Li319 Lo16 K45 F45 C88 C89 (kc ok88 (kc ok89 kn)) Tryz.func45
abbrev T72_l0 := List ((LqS × LqS)) × Int × Int × LqS × Bool × List ((LqS × LqS)) × List (LqS) × Unit → Option (LqS × Bool × List ((LqS × LqS)) × List (LqS) × Unit)
def E72_l0 (f : T72_l0) : LEnt := ⟨Li321, Lo322, f⟩
abbrev T72 := LqS × Bool × List ((LqS × LqS)) × Unit → Option (LqS × Unit)
def E72 (f : T72) : FEnt := ⟨Li320, Lo16, f⟩
def K72 (f45 : T45) (f73 : T73) (f89 : T89) := lk [(45, E45 f45), (73, E73 f73), (89, E89 f89)]
theorem kok72 : KOk Tryz.prog (K72 C45 C73 C89) := (kc ok45 (kc ok73 (kc ok89 kn)))
def F72_l0 (f45 : T45) (f73 : T73) (f89 : T89) : LpF (List ((LqS × LqS)) × Int × Int × LqS × Bool × List ((LqS × LqS)) × List (LqS) × Unit) (LqS × Bool × List ((LqS × LqS)) × List (LqS) × Unit) := fun (x0, x1, x2, x3, x4, x5, x6, _) =>
 bif decide (x2 < x1) then
 bif decide (0 ≤ x2) && decide (x2 < (↑x0.length : Int)) then
 (f45 ((x0.getD x2.toNat ([], [])).1, (x0.getD x2.toNat ([], [])).2, ())).bind
 fun v =>
 bif decide (x6.length + [v.1].length ≤ 140737488355328 / 16) then
 some (Sum.inl (x0, x1, IntKind.i64.wrap (x2 + 1), x3, x4, x5, x6 ++ [v.1], ()))
 else none
 else none
 else some (Sum.inr (x3, x4, x5, x6, ()))
theorem h72_l0 (f45 : T45) (f73 : T73) (f89 : T89) : AqL (K72 f45 f73 f89) 0 (subc (code Tryz.f72) [1, 1, 0, 1, 0, 0]) .nil Li321 Lo322 (F72_l0 f45 f73 f89) := fun v => by kernel_rfl
def C72_l0 : T72_l0 := loopN (F72_l0 C45 C73 C89) big
theorem k72_l0 : LpOk 0 (subc (code Tryz.f72) [1, 1, 0, 1, 0, 0]) (E72_l0 C72_l0) :=
 frl kok72 (h72_l0 C45 C73 C89)
def N72 (f72_l0 : T72_l0) : Ann := (.seq .nil (.seq .nil (.seq (.seq .nil (.blk (.loop (E72_l0 f72_l0)))) .nil)))
def F72 (f45 : T45) (f73 : T73) (f89 : T89) (f72_l0 : T72_l0) : T72 := fun (x0, x1, x2, _) =>
 (f72_l0 (x2, (↑x2.length : Int), 0, x0, x1, x2, [], ())).bind fun v =>
 (f89 (1, v.1, 0, ())).bind fun v1 =>
 (f73 (v.2.2.2.1, [44, 32], ())).bind fun v2 =>
 bif v.2.1 then
 bif decide (List.length v1.1 + [58].length ≤ 9223372036854775807) then
 bif decide ((v1.1 ++ [58]).length + List.length v2.1 ≤ 9223372036854775807) then
 bif
 decide
 ((v1.1 ++ [58] ++ v2.1).length + [59].length ≤ 9223372036854775807) then
 some (v1.1 ++ [58] ++ v2.1 ++ [59], ())
 else none
 else none
 else none
 else
 bif !v.1 == [] then
 bif decide (List.length v1.1 + [32, 60].length ≤ 9223372036854775807) then
 bif decide ((v1.1 ++ [32, 60]).length + List.length v2.1 ≤ 9223372036854775807) then
 bif
 decide
 ((v1.1 ++ [32, 60] ++ v2.1).length + [62].length ≤
 9223372036854775807) then
 some (v1.1 ++ [32, 60] ++ v2.1 ++ [62], ())
 else none
 else none
 else none
 else some (v2.1, ())
theorem h72 (f45 : T45) (f73 : T73) (f89 : T89) (f72_l0 : T72_l0) : AqF (K72 f45 f73 f89) 0 Tryz.f72 (N72 f72_l0) Li320 Lo16 (F72 f45 f73 f89 f72_l0) := fun v => by kernel_rfl
def C72 : T72 := F72 C45 C73 C89 C72_l0
theorem ok72 : FO 72 (E72 C72) :=
 qo kok72 Tryz.func72 (And.intro k72_l0 trivial) (h72 C45 C73 C89 C72_l0)
abbrev T34_l0 := List ((LqS × (Bool × List ((LqS × LqS))))) × Int × Int × List (LqS) × Unit → Option (List (LqS) × Unit)
def E34_l0 (f : T34_l0) : LEnt := ⟨Li323, Lo324, f⟩
abbrev T34 := List ((LqS × (Bool × List ((LqS × LqS))))) × Unit → Option (LqS × Unit)
def E34 (f : T34) : FEnt := ⟨Li285, Lo16, f⟩
def K34 (f72 : T72) (f73 : T73) := lk [(72, E72 f72), (73, E73 f73)]
theorem kok34 : KOk Tryz.prog (K34 C72 C73) := (kc ok72 (kc ok73 kn))
def F34_l0 (f72 : T72) (f73 : T73) : LpF (List ((LqS × (Bool × List ((LqS × LqS))))) × Int × Int × List (LqS) × Unit) (List (LqS) × Unit) := fun (x0, x1, x2, x3, _) =>
 bif decide (x2 < x1) then
 bif decide (0 ≤ x2) && decide (x2 < (↑x0.length : Int)) then
 (f72
 ((x0.getD x2.toNat ([], (false, []))).1,
 (x0.getD x2.toNat ([], (false, []))).2.1,
 (x0.getD x2.toNat ([], (false, []))).2.2, ())).bind
 fun v =>
 bif decide (x3.length + [v.1].length ≤ 140737488355328 / 16) then
 some (Sum.inl (x0, x1, IntKind.i64.wrap (x2 + 1), x3 ++ [v.1], ()))
 else none
 else none
 else some (Sum.inr (x3, ()))
def C34_l0 : T34_l0 := loopN (F34_l0 C72 C73) big
theorem k34_l0 : LpOk 0 (subc (code Tryz.f34) [1, 1, 0, 1, 0, 0]) (E34_l0 C34_l0) := zl2 Li323 Lo324 K34 F34_l0 C72 C73 kok34
def N34 (f34_l0 : T34_l0) : Ann := (.seq .nil (.seq .nil (.seq (.seq .nil (.blk (.loop (E34_l0 f34_l0)))) .nil)))
def F34 (f72 : T72) (f73 : T73) (f34_l0 : T34_l0) : T34 := fun (x0, _) =>
 (f34_l0 (x0, (↑x0.length : Int), 0, [], ())).bind fun v =>
 (f73 (v.1, [44, 32], ())).bind fun v => some (v.1, ())
def C34 : T34 := F34 C72 C73 C34_l0
theorem ok34 : FO 34 (E34 C34) := zq2_1 Li285 Lo16 K34 N34 F34 C72 C73 C34_l0 kok34 Tryz.func34 (And.intro k34_l0 trivial)
abbrev T75 := LqS × Bool × List ((LqS × LqS)) × Unit → Option (Bool × Unit)
def E75 (f : T75) : FEnt := ⟨Li320, Lo29, f⟩
def F75 : T75 := fun (x0, x1, x2, _) =>
 bif x1 then
 bif x0 == [] then some (true, ())
 else bif !x1 then some (bif (↑x2.length : Int) == 1 then false else true, ()) else some (false, ())
 else bif !x1 then some (bif (↑x2.length : Int) == 1 then false else true, ()) else some (false, ())
def C75 : T75 := F75
theorem ok75 : FO 75 (E75 C75) := zq0 Li320 Lo29 KqZ F75 kn Tryz.func75
abbrev T116_l0 := List ((LqS × (Bool × List ((LqS × LqS))))) × Int × Int × Unit → Option (Unit ⊕ (Int × Unit))
def E116_l0 (f : T116_l0) : LEnt := ⟨Li326, Lo159, f⟩
abbrev T116 := List ((LqS × (Bool × List ((LqS × LqS))))) × Unit → Option (Int × Unit)
def E116 (f : T116) : FEnt := ⟨Li325, Lo10, f⟩
def K116 (f75 : T75) := lk [(75, E75 f75)]
theorem kok116 : KOk Tryz.prog (K116 C75) := (kc ok75 kn)
def F116_l0 (f75 : T75) : LpF (List ((LqS × (Bool × List ((LqS × LqS))))) × Int × Int × Unit) (Unit ⊕ (Int × Unit)) := fun (x0, x1, x2, _) =>
 bif decide (x2 < x1) then
 bif decide (0 ≤ x2) && decide (x2 < (↑x0.length : Int)) then
 (f75
 ((x0.getD x2.toNat ([], (false, []))).1,
 (x0.getD x2.toNat ([], (false, []))).2.1,
 (x0.getD x2.toNat ([], (false, []))).2.2, ())).bind
 fun v =>
 bif v.1 then some (Sum.inr (Sum.inr (x2, ())))
 else some (Sum.inl (x0, x1, IntKind.i64.wrap (x2 + 1), ()))
 else none
 else some (Sum.inr (Sum.inl ()))
def C116_l0 : T116_l0 := loopN (F116_l0 C75) big
theorem k116_l0 : LpOk 0 (subc (code Tryz.f116) [1, 0, 1, 0, 0]) (E116_l0 C116_l0) := zl1 Li326 Lo159 K116 F116_l0 C75 kok116
def N116 (f116_l0 : T116_l0) : Ann := (.seq .nil (.seq (.seq .nil (.blk (.loop (E116_l0 f116_l0)))) .nil))
def F116 (f75 : T75) (f116_l0 : T116_l0) : T116 := fun (x0, _) =>
 (f116_l0 (x0, (↑x0.length : Int), 0, ())).bind fun v =>
 Sum.elim (fun v => some (-1, ())) (fun v => some (v.1, ())) v
def C116 : T116 := F116 C75 C116_l0
theorem ok116 : FO 116 (E116 C116) := zq1_1 Li325 Lo10 K116 N116 F116 C75 C116_l0 kok116 Tryz.func116 (And.intro k116_l0 trivial)
abbrev T74 := List ((LqS × (Bool × List ((LqS × LqS))))) × Unit → Option (Bool × Unit)
def E74 (f : T74) : FEnt := ⟨Li325, Lo29, f⟩
def K74 (f116 : T116) := lk [(116, E116 f116)]
def F74 (f116 : T116) : T74 := fun (x0, _) =>
 (f116 (x0, ())).bind fun v => some (decide (v.1 ≥ 0), ())
def C74 : T74 := F74 C116
theorem ok74 : FO 74 (E74 C74) := zq1 Li325 Lo29 K74 F74 C116 (kc ok116 kn) Tryz.func74
abbrev T76 := LqS × Bool × List ((LqS × LqS)) × Unit → Option (Bool × Unit)
def E76 (f : T76) : FEnt := ⟨Li320, Lo29, f⟩
def K76 (f83 : T83) := lk [(83, E83 f83)]
def F76 (f83 : T83) : T76 := fun (x0, x1, x2, _) =>
 (f83 (x0, ())).bind fun v => some (decide (v.2.1 ≥ 0), ())
def C76 : T76 := F76 C83
theorem ok76 : FO 76 (E76 C76) := zq1 Li320 Lo29 K76 F76 C83 (kc ok83 kn) Tryz.func76
abbrev T116v1_l0 := List ((LqS × (Bool × List ((LqS × LqS))))) × Int × Int × Unit → Option (Unit ⊕ (Int × Unit))
def E116v1_l0 (f : T116v1_l0) : LEnt := ⟨Li328, Lo159, f⟩
abbrev T116v1 := List ((LqS × (Bool × List ((LqS × LqS))))) × Unit → Option (Int × Unit)
def E116v1 (f : T116v1) : FEnt := ⟨Li327, Lo10, f⟩
def K116v1 (f76 : T76) := lk [(76, E76 f76)]
theorem kok116v1 : KOk Tryz.prog (K116v1 C76) := (kc ok76 kn)
def F116v1_l0 (f76 : T76) : LpF (List ((LqS × (Bool × List ((LqS × LqS))))) × Int × Int × Unit) (Unit ⊕ (Int × Unit)) := fun (x0, x1, x2, _) =>
 bif decide (x2 < x1) then
 bif decide (0 ≤ x2) && decide (x2 < (↑x0.length : Int)) then
 (f76
 ((x0.getD x2.toNat ([], (false, []))).1,
 (x0.getD x2.toNat ([], (false, []))).2.1,
 (x0.getD x2.toNat ([], (false, []))).2.2, ())).bind
 fun v =>
 bif v.1 then some (Sum.inr (Sum.inr (x2, ())))
 else some (Sum.inl (x0, x1, IntKind.i64.wrap (x2 + 1), ()))
 else none
 else some (Sum.inr (Sum.inl ()))
def C116v1_l0 : T116v1_l0 := loopN (F116v1_l0 C76) big
theorem k116v1_l0 : LpOk 0 (subc (code Tryz.f116) [1, 0, 1, 0, 0]) (E116v1_l0 C116v1_l0) := zl1 Li328 Lo159 K116v1 F116v1_l0 C76 kok116v1
def N116v1 (f116v1_l0 : T116v1_l0) : Ann := (.seq .nil (.seq (.seq .nil (.blk (.loop (E116v1_l0 f116v1_l0)))) .nil))
def F116v1 (f76 : T76) (f116v1_l0 : T116v1_l0) : T116v1 := fun (x0, _) =>
 (f116v1_l0 (x0, (↑x0.length : Int), 0, ())).bind fun v =>
 Sum.elim (fun v => some (-1, ())) (fun v => some (v.1, ())) v
def C116v1 : T116v1 := F116v1 C76 C116v1_l0
theorem ok116v1 : FO 116 (E116v1 C116v1) := zq1_1 Li327 Lo10 K116v1 N116v1 F116v1 C76 C116v1_l0 kok116v1 Tryz.func116 (And.intro k116v1_l0 trivial)
abbrev T74v1 := List ((LqS × (Bool × List ((LqS × LqS))))) × Unit → Option (Bool × Unit)
def E74v1 (f : T74v1) : FEnt := ⟨Li327, Lo29, f⟩
def K74v1 (f116v1 : T116v1) := lk [(116, E116v1 f116v1)]
def F74v1 (f116v1 : T116v1) : T74v1 := fun (x0, _) =>
 (f116v1 (x0, ())).bind fun v => some (decide (v.1 ≥ 0), ())
def C74v1 : T74v1 := F74v1 C116v1
theorem ok74v1 : FO 74 (E74v1 C74v1) := zq1 Li327 Lo29 K74v1 F74v1 C116v1 (kc ok116v1 kn) Tryz.func74
abbrev T117 := Int × Unit → Option (Bool × Unit)
def E117 (f : T117) : FEnt := ⟨Li28, Lo29, f⟩
def F117 : T117 := fun (x0, _) =>
 bif x0 != 9 then bif decide (x0 < 32) then some (true, ()) else some (x0 == 127, ())
 else some (false, ())
def C117 : T117 := F117
theorem ok117 : FO 117 (E117 C117) := zq0 Li28 Lo29 KqZ F117 kn Tryz.func117
abbrev T156v2_l0 := Bool × (LqS × Int) × Unit → Option ((Int × Unit) ⊕ Unit)
def E156v2_l0 (f : T156v2_l0) : LEnt := ⟨Li330, Lo189, f⟩
abbrev T156v2 := LqS × Bool × Unit → Option (Int × Unit)
def E156v2 (f : T156v2) : FEnt := ⟨Li329, Lo10, f⟩
def K156v2 (f117 : T117) := lk [(117, E117 f117)]
theorem kok156v2 : KOk Tryz.prog (K156v2 C117) := (kc ok117 kn)
def F156v2_l0 (f117 : T117) : LpF (Bool × (LqS × Int) × Unit) ((Int × Unit) ⊕ Unit) := fun (x0, x1, _) =>
 bif decide (Int.toNat x1.2 < List.length x1.1) then
 (f117 ((↑(decR x1.1 (Int.toNat x1.2)).1 : Int), ())).bind fun v =>
 bif v.1 == x0 then some (Sum.inr (Sum.inl ((↑(Int.toNat x1.2) : Int), ())))
 else some (Sum.inl (x0, (x1.1, (↑(Int.toNat x1.2 + (decR x1.1 (Int.toNat x1.2)).2) : Int)), ()))
 else some (Sum.inr (Sum.inr ()))
def C156v2_l0 : T156v2_l0 := loopN (F156v2_l0 C117) big
theorem k156v2_l0 : LpOk 0 (subc (code Tryz.f156) [1, 0, 1, 0, 0]) (E156v2_l0 C156v2_l0) := zl1 Li330 Lo189 K156v2 F156v2_l0 C117 kok156v2
def N156v2 (f156v2_l0 : T156v2_l0) : Ann := (.seq .nil (.seq (.seq .nil (.blk (.loop (E156v2_l0 f156v2_l0)))) .nil))
def F156v2 (f117 : T117) (f156v2_l0 : T156v2_l0) : T156v2 := fun (x0, x1, _) =>
 (f156v2_l0 (x1, (x0, (↑0 : Int)), ())).bind fun v =>
 Sum.elim (fun v => some (v.1, ())) (fun v => some (-1, ())) v
def C156v2 : T156v2 := F156v2 C117 C156v2_l0
theorem ok156v2 : FO 156 (E156v2 C156v2) := zq1_1 Li329 Lo10 K156v2 N156v2 F156v2 C117 C156v2_l0 kok156v2 Tryz.func156 (And.intro k156v2_l0 trivial)
abbrev T123v2 := LqS × Unit → Option (Int × Unit)
def E123v2 (f : T123v2) : FEnt := ⟨Li331, Lo10, f⟩
def K123v2 (f156v2 : T156v2) := lk [(156, E156v2 f156v2)]
def F123v2 (f156v2 : T156v2) : T123v2 := fun (x0, _) =>
 (f156v2 (x0, true, ())).bind fun v => some (v.1, ())
def C123v2 : T123v2 := F123v2 C156v2
theorem ok123v2 : FO 123 (E123v2 C123v2) := zq1 Li331 Lo10 K123v2 F123v2 C156v2 (kc ok156v2 kn) Tryz.func123
abbrev T84v2 := LqS × Unit → Option (Bool × Unit)
def E84v2 (f : T84v2) : FEnt := ⟨Li331, Lo29, f⟩
def K84v2 (f123v2 : T123v2) := lk [(123, E123v2 f123v2)]
def F84v2 (f123v2 : T123v2) : T84v2 := fun (x0, _) =>
 (f123v2 (x0, ())).bind fun v => some (decide (v.1 ≥ 0), ())
def C84v2 : T84v2 := F84v2 C123v2
theorem ok84v2 : FO 84 (E84v2 C84v2) := zq1 Li331 Lo29 K84v2 F84v2 C123v2 (kc ok123v2 kn) Tryz.func84
abbrev T77 := LqS × Bool × List ((LqS × LqS)) × Unit → Option (Bool × Unit)
def E77 (f : T77) : FEnt := ⟨Li320, Lo29, f⟩
def K77 (f84v2 : T84v2) := lk [(84, E84v2 f84v2)]
def F77 (f84v2 : T84v2) : T77 := fun (x0, x1, x2, _) =>
 (f84v2 (x0, ())).bind fun v => some (v.1, ())
def C77 : T77 := F77 C84v2
theorem ok77 : FO 77 (E77 C77) := zq1 Li320 Lo29 K77 F77 C84v2 (kc ok84v2 kn) Tryz.func77
abbrev T116v2_l0 := List ((LqS × (Bool × List ((LqS × LqS))))) × Int × Int × Unit → Option (Unit ⊕ (Int × Unit))
def E116v2_l0 (f : T116v2_l0) : LEnt := ⟨Li333, Lo159, f⟩
abbrev T116v2 := List ((LqS × (Bool × List ((LqS × LqS))))) × Unit → Option (Int × Unit)
def E116v2 (f : T116v2) : FEnt := ⟨Li332, Lo10, f⟩
def K116v2 (f77 : T77) := lk [(77, E77 f77)]
theorem kok116v2 : KOk Tryz.prog (K116v2 C77) := (kc ok77 kn)
def F116v2_l0 (f77 : T77) : LpF (List ((LqS × (Bool × List ((LqS × LqS))))) × Int × Int × Unit) (Unit ⊕ (Int × Unit)) := fun (x0, x1, x2, _) =>
 bif decide (x2 < x1) then
 bif decide (0 ≤ x2) && decide (x2 < (↑x0.length : Int)) then
 (f77
 ((x0.getD x2.toNat ([], (false, []))).1,
 (x0.getD x2.toNat ([], (false, []))).2.1,
 (x0.getD x2.toNat ([], (false, []))).2.2, ())).bind
 fun v =>
 bif v.1 then some (Sum.inr (Sum.inr (x2, ())))
 else some (Sum.inl (x0, x1, IntKind.i64.wrap (x2 + 1), ()))
 else none
 else some (Sum.inr (Sum.inl ()))
def C116v2_l0 : T116v2_l0 := loopN (F116v2_l0 C77) big
theorem k116v2_l0 : LpOk 0 (subc (code Tryz.f116) [1, 0, 1, 0, 0]) (E116v2_l0 C116v2_l0) := zl1 Li333 Lo159 K116v2 F116v2_l0 C77 kok116v2
def N116v2 (f116v2_l0 : T116v2_l0) : Ann := (.seq .nil (.seq (.seq .nil (.blk (.loop (E116v2_l0 f116v2_l0)))) .nil))
def F116v2 (f77 : T77) (f116v2_l0 : T116v2_l0) : T116v2 := fun (x0, _) =>
 (f116v2_l0 (x0, (↑x0.length : Int), 0, ())).bind fun v =>
 Sum.elim (fun v => some (-1, ())) (fun v => some (v.1, ())) v
def C116v2 : T116v2 := F116v2 C77 C116v2_l0
theorem ok116v2 : FO 116 (E116v2 C116v2) := zq1_1 Li332 Lo10 K116v2 N116v2 F116v2 C77 C116v2_l0 kok116v2 Tryz.func116 (And.intro k116v2_l0 trivial)
abbrev T74v2 := List ((LqS × (Bool × List ((LqS × LqS))))) × Unit → Option (Bool × Unit)
def E74v2 (f : T74v2) : FEnt := ⟨Li332, Lo29, f⟩
def K74v2 (f116v2 : T116v2) := lk [(116, E116v2 f116v2)]
def F74v2 (f116v2 : T116v2) : T74v2 := fun (x0, _) =>
 (f116v2 (x0, ())).bind fun v => some (decide (v.1 ≥ 0), ())
def C74v2 : T74v2 := F74v2 C116v2
theorem ok74v2 : FO 74 (E74v2 C74v2) := zq1 Li332 Lo29 K74v2 F74v2 C116v2 (kc ok116v2 kn) Tryz.func74
abbrev T35_c0 := List ((LqS × (Bool × List ((LqS × LqS))))) × Bool × LqA × LqB × LqC × Unit → Option ((Int × Unit) ⊕ (List ((LqS × (Bool × List ((LqS × LqS))))) × LqA × LqB × LqC × Unit))
def E35_c0 (f : T35_c0) : LEnt := ⟨Li335, Lo336, f⟩
abbrev T35 := LqA × LqB × LqC × List ((LqS × (Bool × List ((LqS × LqS))))) × Unit → Option (Int × Unit)
def E35 (f : T35) : FEnt := ⟨Li334, Lo10, f⟩
def K35 (f31 : T31) (f70 : T70) (f74 : T74) (f74v1 : T74v1) (f74v2 : T74v2) := lk [(31, E31 f31), (70, E70 f70), (74, E74 f74), (74, E74v1 f74v1), (74, E74v2 f74v2)]
theorem kok35 : KOk Tryz.prog (K35 C31 C70 C74 C74v1 C74v2) := (kc ok31 (kc ok70 (kc ok74 (kc ok74v1 (kc ok74v2 kn)))))
def F35_c0 (f31 : T31) (f70 : T70) (f74 : T74) (f74v1 : T74v1) (f74v2 : T74v2) : T35_c0 := fun (x0, x1, x2, x3, x4, _) =>
 bif x1 then some (Sum.inl (1, ()))
 else
 (f74v1 (x0, ())).bind fun v =>
 bif v.1 then some (Sum.inl (7, ()))
 else
 (f74v2 (x0, ())).bind fun v =>
 bif v.1 then some (Sum.inl (8, ())) else some (Sum.inr (x0, x2, x3, x4, ()))
theorem h35_c0 (f31 : T31) (f70 : T70) (f74 : T74) (f74v1 : T74v1) (f74v2 : T74v2) : AqC (K35 f31 f70 f74 f74v1 f74v2) 0 (subc (code Tryz.f35) [1, 0, 0, 1]) .nil Li335 Lo336 (F35_c0 f31 f70 f74 f74v1 f74v2) := fun v => by kernel_rfl
def C35_c0 : T35_c0 := F35_c0 C31 C70 C74 C74v1 C74v2
theorem k35_c0 : CdOk 0 (subc (code Tryz.f35) [1, 0, 0, 1]) (E35_c0 C35_c0) :=
 frc kok35 (h35_c0 C31 C70 C74 C74v1 C74v2)
def N35 (f35_c0 : T35_c0) : Ann := (.seq .nil (.seq (.blk (.cut .nil (E35_c0 f35_c0))) .nil))
def F35 (f31 : T31) (f70 : T70) (f74 : T74) (f74v1 : T74v1) (f74v2 : T74v2) (f35_c0 : T35_c0) : T35 := fun (x0, x1, x2, x3, _) =>
 bif (↑x3.length : Int) == 0 then
 (f35_c0 (x3, true, x0, x1, x2, ())).bind fun v =>
 Sum.elim (fun v => some (v.1, ()))
 (fun v =>
 (f31 (v.1, ())).bind fun v1 =>
 (f70 (v.2.1, v.2.2.1, v.2.2.2.1, v1.1, ())).bind fun v =>
 some (v.1, ()))
 v
 else
 (f74 (x3, ())).bind fun v =>
 (f35_c0 (x3, v.1, x0, x1, x2, ())).bind fun v =>
 Sum.elim (fun v => some (v.1, ()))
 (fun v =>
 (f31 (v.1, ())).bind fun v1 =>
 (f70 (v.2.1, v.2.2.1, v.2.2.2.1, v1.1, ())).bind fun v =>
 some (v.1, ()))
 v
theorem h35 (f31 : T31) (f70 : T70) (f74 : T74) (f74v1 : T74v1) (f74v2 : T74v2) (f35_c0 : T35_c0) : AqF (K35 f31 f70 f74 f74v1 f74v2) 0 Tryz.f35 (N35 f35_c0) Li334 Lo10 (F35 f31 f70 f74 f74v1 f74v2 f35_c0) := fun v => by kernel_rfl
def C35 : T35 := F35 C31 C70 C74 C74v1 C74v2 C35_c0
theorem ok35 : FO 35 (E35 C35) :=
 qo kok35 Tryz.func35 (And.intro k35_c0 trivial) (h35 C31 C70 C74 C74v1 C74v2 C35_c0)
abbrev T29 := Unit → Option (Bool × Unit)
def E29 (f : T29) : FEnt := ⟨Li7, Lo29, f⟩
def K29 (f18 : T18) (f30 : T30) (f31 : T31) (f34 : T34) (f35 : T35) := lk [(18, E18 f18), (30, E30 f30), (31, E31 f31), (34, E34 f34), (35, E35 f35)]
def C29 : T29 := fun _ => some (true, ())
theorem h29 : afun Γ (K29 C18 C30 C31 C34 C35) 0 Tryz.f29.ntmps Tryz.f29.results.toList (code Tryz.f29) .nil (em id Li7 ()).1 (em id Li7 ()).2 (ofin 0 Lo29) = some (true, ()) := by kernel_rfl
theorem ok29 : FO 29 (E29 C29) :=
 q0 (kc ok18 (kc ok30 (kc ok31 (kc ok34 (kc ok35 kn))))) Tryz.func29 (fun v => h29)
abbrev T32 := LqA × LqB × LqC × LqS × Unit → Option (LqS × LqS × Int × Unit)
def E32 (f : T32) : FEnt := ⟨Li17, Lo337, f⟩
def K32 (f44 : T44) (f67 : T67) (f71 : T71) := lk [(44, E44 f44), (67, E67 f67), (71, E71 f71)]
def F32 (f44 : T44) (f67 : T67) (f71 : T71) : T32 := fun (x0, x1, x2, x3, _) =>
 (f67 (x3, ())).bind fun v =>
 bif v.2.2.1 != 0 then some ([], [], v.2.2.1, ())
 else
 (f71 (v.1, ())).bind fun v1 =>
 bif !v1.2.2.2.1 then some ([], [], 4, ())
 else
 bif v1.2.2.1 != (↑(List.length v.1) : Int) then some ([], [], 4, ())
 else
 (f44 (x0, x1, x2, v1.1, v1.2.1, ())).bind fun v =>
 bif v.1 != 0 then some ([], [], v.1, ()) else some (v1.1, v1.2.1, 0, ())
theorem h32 (f44 : T44) (f67 : T67) (f71 : T71) : AqF (K32 f44 f67 f71) 0 Tryz.f32 .nil Li17 Lo337 (F32 f44 f67 f71) := fun v => by kernel_rfl
def C32 : T32 := F32 C44 C67 C71
theorem ok32 : FO 32 (E32 C32) :=
 q0 (kc ok44 (kc ok67 (kc ok71 kn))) Tryz.func32 (h32 C44 C67 C71)
abbrev T9_c0 := Bool × List ((LqS × (Bool × List ((LqS × LqS))))) × Int × LqS × LqS × Unit → Option (Bool × Unit)
def E9_c0 (f : T9_c0) : LEnt := ⟨Li338, Lo339, f⟩
abbrev T9 := LqS × Unit → Option (Bool × Unit)
def E9 (f : T9) : FEnt := ⟨Li30, Lo29, f⟩
def K9 (f18 : T18) (f29 : T29) (f30 : T30) (f32 : T32) := lk [(18, E18 f18), (29, E29 f29), (30, E30 f30), (32, E32 f32)]
theorem kok9 : KOk Tryz.prog (K9 C18 C29 C30 C32) := (kc ok18 (kc ok29 (kc ok30 (kc ok32 kn))))
def F9_c0 (f18 : T18) (f29 : T29) (f30 : T30) (f32 : T32) : T9_c0 := fun (x0, x1, x2, x3, x4, _) =>
 bif x0 then
 bif x2 == 0 then
 bif (↑x1.length : Int) == 1 then
 bif decide (0 < (↑x1.length : Int)) then
 bif (x1.getD 0 ([], (false, []))).1 == [] then
 bif decide (0 < (↑x1.length : Int)) then
 bif !(x1.getD 0 ([], (false, []))).2.1 then
 bif decide (0 < (↑x1.length : Int)) then
 bif
 (↑(List.length
 (x1.getD 0
 ([], (false, []))).2.2) :
 Int) ==
 1 then
 bif decide (0 < (↑x1.length : Int)) then
 bif
 decide
 (0 <
 (↑(List.length
 (x1.getD 0
 ([], (false, []))).2.2) :
 Int)) then
 some
 (bif
 (List.getD
 (x1.getD 0
 ([], (false, []))).2.2
 0 ([], [])).1 ==
 x3 then
 bif
 (List.getD
 (x1.getD 0
 ([], (false, []))).2.2
 0 ([], [])).2 ==
 x4 then
 true
 else false
 else false,
 ())
 else none
 else none
 else some (false, ())
 else none
 else some (false, ())
 else none
 else some (false, ())
 else none
 else some (false, ())
 else some (false, ())
 else some (false, ())
theorem h9_c0 (f18 : T18) (f29 : T29) (f30 : T30) (f32 : T32) : AqC (K9 f18 f29 f30 f32) 0 (subc (code Tryz.f9) [1, 1, 1, 1, 1, 1, 1]) .nil Li338 Lo339 (F9_c0 f18 f29 f30 f32) := fun v => by kernel_rfl
def C9_c0 : T9_c0 := F9_c0 C18 C29 C30 C32
theorem k9_c0 : CdOk 0 (subc (code Tryz.f9) [1, 1, 1, 1, 1, 1, 1]) (E9_c0 C9_c0) :=
 frc kok9 (h9_c0 C18 C29 C30 C32)
def N9 (f9_c0 : T9_c0) : Ann := (.seq .nil (.seq .nil (.seq .nil (.seq .nil (.seq .nil (.seq .nil (.cut .nil (E9_c0 f9_c0))))))))
def F9 (f18 : T18) (f29 : T29) (f30 : T30) (f32 : T32) (f9_c0 : T9_c0) : T9 := fun (x0, _) =>
 (f29 ()).bind fun v =>
 bif decide ((↑x0.length : Int) > 300) then some (v.1, ())
 else
 (f18 ()).bind fun v1 =>
 (f32 (v1.1, v1.2.1, v1.2.2.1, x0, ())).bind fun v2 =>
 (f30 (v1.1, v1.2.1, v1.2.2.1, x0, ())).bind fun v3 =>
 bif v2.2.2.1 != 0 then
 bif v.1 then
 bif v2.2.2.1 == 4 then some (true, ())
 else some (v3.2.1 == v2.2.2.1, ())
 else some (false, ())
 else
 (f9_c0 (v.1, v3.1, v3.2.1, v2.1, v2.2.1, ())).bind fun v =>
 some (v.1, ())
theorem h9 (f18 : T18) (f29 : T29) (f30 : T30) (f32 : T32) (f9_c0 : T9_c0) : AqF (K9 f18 f29 f30 f32) 0 Tryz.f9 (N9 f9_c0) Li30 Lo29 (F9 f18 f29 f30 f32 f9_c0) := fun v => by kernel_rfl
def C9 : T9 := F9 C18 C29 C30 C32 C9_c0
theorem ok9 : FO 9 (E9 C9) :=
 qo kok9 Tryz.func9 (And.intro k9_c0 trivial) (h9 C18 C29 C30 C32 C9_c0)
end Go.Proofs.YtiacnhhmkdkpmaaGreatDoorA.W
set_option linter.unusedSimpArgs false
namespace Go.Proofs.YtiacnhhmkdkpmaaGreatDoorA.W
open Go Go.Ae
theorem wr {n : Int} (h1 : -9223372036854775808 ≤ n) (h2 : n ≤ 9223372036854775807) : IntKind.i64.wrap n = n := by rw [IntKind.wrap_i64]; omega
theorem wrN (n : Nat) (h : n ≤ 9223372036854775806) : IntKind.i64.wrap ((n : Int) + 1) = ((n + 1 : Nat) : Int) := by rw [wr] <;> omega
theorem of_to (b : UInt8) : UInt8.ofNat b.toNat = b := by simp
theorem byte_back (b : UInt8) : UInt8.ofNat ((b.toNat : Int)).toNat = b := by simp
theorem getD_lt {α : Type} {l : List α} {i : Nat} {d : α} (h : i < l.length) : l.getD i d = l[i] := by simp [List.getD_eq_getElem?_getD, List.getElem?_eq_getElem h]
def esc1 (c : UInt8) : List UInt8 := if c.toNat = 34 ∨ c.toNat = 92 then [92, c] else [c]
def esc (s : List UInt8) : List UInt8 := s.flatMap esc1
theorem esc1_len (c : UInt8) : (esc1 c).length ≤ 2 := by unfold esc1; split <;> simp
theorem esc_len : ∀ s : List UInt8, (esc s).length ≤ 2 * s.length
 | [] => by simp [esc]
 | c :: s => by have := esc_len s; have := esc1_len c; simp [esc] at *; omega
theorem esc_append (s t : List UInt8) : esc (s ++ t) = esc s ++ esc t := by simp [esc]
theorem take_succ_get {α : Type} {s : List α} {k : Nat} (h : k < s.length) : s.take (k + 1) = s.take k ++ [s[k]] := by
 rw [List.take_add_one, List.getElem?_eq_getElem h]; rfl
theorem esc_take {s : List UInt8} {k : Nat} (h : k < s.length) : esc (s.take (k + 1)) = esc (s.take k) ++ esc1 s[k] := by
 rw [take_succ_get h, esc_append]; simp [esc]
theorem ibT {a b : Int} (h : a = b) : (a == b) = true := by simp [h]
theorem ibF {a b : Int} (h : a ≠ b) : (a == b) = false := by simp [h]
theorem inT {a b : Int} (h : a ≠ b) : (a != b) = true := by simp [h]
theorem inF {a b : Int} (h : a = b) : (a != b) = false := by simp [h]
theorem u8_eq {a : UInt8} {n : Nat} (h : a.toNat = n) : a = UInt8.ofNat n := by subst h; simp
theorem esc1_q {c : UInt8} (h : c.toNat = 34) : esc1 c = [92] ++ [c] := by simp [esc1, h]
theorem esc1_b {c : UInt8} (h : c.toNat = 92) : esc1 c = [92] ++ [c] := by simp [esc1, h]
theorem esc1_n {c : UInt8} (h : ¬ c.toNat = 34) (h2 : ¬ c.toNat = 92) : esc1 c = [c] := by simp [esc1, h, h2]
theorem r14 (s : List UInt8) (k : Nat) (acc : List UInt8) (h : k < s.length) (hb : s.length ≤ 9223372036854775806) (ha : acc.length + 2 ≤ 140737488355328) :
 F126_l0 (s, (s.length : Int), (k : Int), acc, ()) = some (.inl (s, (s.length : Int), ((k + 1 : Nat) : Int), acc ++ esc1 s[k], ())) := by
 by_cases e1 : s[k].toNat = 34
 · simp (disch := omega) only [F126_l0, decide_eq_true, cond_true, Bool.and_self, List.length_append, List.length_cons, List.length_nil, getD_lt, byte_back, wrN, Int.toNat_natCast, ibT, esc1_q, List.append_assoc, of_to]
 · by_cases e2 : s[k].toNat = 92
   · simp (disch := omega) only [F126_l0, decide_eq_true, cond_true, cond_false, Bool.and_self, List.length_append, List.length_cons, List.length_nil, getD_lt, byte_back, wrN, Int.toNat_natCast, ibT, ibF, esc1_b, List.append_assoc, of_to]
   · simp (disch := omega) only [F126_l0, decide_eq_true, cond_true, cond_false, Bool.and_self, List.length_append, List.length_cons, List.length_nil, getD_lt, byte_back, wrN, Int.toNat_natCast, ibT, ibF, esc1_n, List.append_assoc, of_to]
theorem c14 (s : List UInt8) (hb : s.length ≤ 70368744177663) : C126 (s, ()) = some (esc s, ()) := by
 have key : ∀ (k : Nat) (n : Nat), k ≤ s.length → s.length - k < n → loopN F126_l0 n (s, (s.length : Int), (k : Int), esc (s.take k), ()) = some (esc s, ()) := by
  intro k n
  induction n generalizing k with
  | zero => intro _ h; omega
  | succ n ih =>
   intro hk hn
   by_cases h : k < s.length
   · have hl := esc_len (s.take k)
     rw [loopN_inl (r14 s k _ h (by omega) (by simp only [List.length_take] at hl; omega)), ← esc_take h]
     exact ih (k + 1) (by omega) (by omega)
   · have : k = s.length := by omega
     subst this
     refine loopN_inr ?_
     simp [F126_l0]
 have := key 0 big (by omega) (by unfold big; omega)
 simp only [List.take_zero] at this
 show F126 C126_l0 (s, ()) = _
 simp only [F126, C126_l0]
 rw [show loopN F126_l0 big (s, (s.length : Int), 0, [], ()) = some (esc s, ()) from this]
 rfl
def src (k : Int) (s : List UInt8) : List UInt8 := if k = 1 then [34] ++ esc s ++ [34] else if k = 3 then [40] ++ s ++ [41] else if k = 5 then [91] ++ s ++ [93] else s
theorem c9 (k : Int) (s : List UInt8) (a : Int) (hb : s.length ≤ 3000) : C89 (k, s, a, ()) = some (src k s, ()) := by
 have hl := esc_len s
 show F89 C126 (k, s, a, ()) = _
 by_cases e1 : k = 1
 · simp (disch := omega) only [F89, c14, ibT, cond_true, decide_eq_true, List.length_append, List.length_cons, List.length_nil, Option.bind_some, src, if_pos]
 · by_cases e3 : k = 3
   · simp (disch := omega) only [F89, ibT, ibF, cond_true, cond_false, decide_eq_true, List.length_append, List.length_cons, List.length_nil, Option.bind_some, src, if_pos, if_neg]
   · by_cases e5 : k = 5
     · simp (disch := omega) only [F89, ibT, ibF, cond_true, cond_false, decide_eq_true, List.length_append, List.length_cons, List.length_nil, Option.bind_some, src, if_pos, if_neg]
     · simp (disch := omega) only [F89, ibT, ibF, cond_true, cond_false, src, if_neg]
theorem all256 (p : UInt8 → Bool) (h : (List.range 256).all (fun n => p (UInt8.ofNat n)) = true) (c : UInt8) : p c = true := by
 have h1 := List.all_eq_true.1 h c.toNat (List.mem_range.2 (by have := c.toNat_lt; omega))
 simpa using h1
def gB (o : Option (Bool × Unit)) : Bool := match o with | some (b, _) => b | none => false
def okB (o : Option (Bool × Unit)) : Bool := match o with | some (_, _) => true | none => false
theorem okB_some {o : Option (Bool × Unit)} (h : okB o = true) : o = some (gB o, ()) := by
 cases o with
 | none => cases h
 | some x => rfl
def atomB (c : UInt8) : Bool := gB (C90 ((c.toNat : Int), ()))
def blankB (c : UInt8) : Bool := gB (C174 ((c.toNat : Int), ()))
def mayB (c : UInt8) : Bool := gB (C173 ((c.toNat : Int), ()))
def signI (c : UInt8) : Int := match C127 ([60, 62, 58, 59, 64, 44, 46], (c.toNat : Int), ()) with | some (i, _) => i | none => 0
def signB (c : UInt8) : Bool := decide (signI c ≥ 0)
theorem c17 (c : UInt8) : C90 ((c.toNat : Int), ()) = some (atomB c, ()) := okB_some (all256 (fun c => okB (C90 ((c.toNat : Int), ()))) (by kernel_rfl) c)
theorem c32 (c : UInt8) : C174 ((c.toNat : Int), ()) = some (blankB c, ()) := okB_some (all256 (fun c => okB (C174 ((c.toNat : Int), ()))) (by kernel_rfl) c)
theorem c31 (c : UInt8) : C173 ((c.toNat : Int), ()) = some (mayB c, ()) := okB_some (all256 (fun c => okB (C173 ((c.toNat : Int), ()))) (by kernel_rfl) c)
theorem c22s (c : UInt8) : C127 ([60, 62, 58, 59, 64, 44, 46], (c.toNat : Int), ()) = some (signI c, ()) := rfl
theorem gd {α : Type} {pre r : List α} {c d : α} {p : Nat} (h : pre.length = p) : (pre ++ c :: r).getD p d = c := by subst h; simp
theorem dr {α : Type} {pre r : List α} {p : Nat} (h : pre.length = p) : List.drop p (pre ++ r) = r := by subst h; simp
theorem Sk : (∀ {p : Prop} [Decidable p], p → decide p = true) ∧ (∀ {p : Prop} [Decidable p], ¬ p → decide p = false) ∧ (∀ {α : Type} (a b : α), (bif true then a else b) = a) ∧ (∀ {α : Type} (a b : α), (bif false then a else b) = b) ∧
 (∀ b : Bool, (b && b) = b) ∧ (∀ b : Bool, (true && b) = b) ∧ (∀ b : Bool, (b && true) = b) ∧ (∀ b : Bool, (false && b) = false) ∧ (∀ b : Bool, (b && false) = false) ∧ (!true) = false ∧ (!false) = true ∧
 (∀ {α : Type} {a b : List α}, (a ++ b).length = a.length + b.length) ∧ (∀ {α : Type} {a : α} {l : List α}, (a :: l).length = l.length + 1) ∧ (∀ {α : Type}, ([] : List α).length = 0) ∧ (∀ n : Nat, ((n : Int)).toNat = n) ∧
 (∀ {a b : Int}, a = b → (a == b) = true) ∧ (∀ {a b : Int}, a ≠ b → (a == b) = false) ∧ (∀ {a b : Int}, a ≠ b → (a != b) = true) ∧ (∀ {a b : Int}, a = b → (a != b) = false) ∧
 (∀ n : Nat, n ≤ 9223372036854775806 → IntKind.i64.wrap ((n : Int) + 1) = ((n + 1 : Nat) : Int)) ∧ (∀ {α : Type} {pre r : List α} {c d : α} {p : Nat}, pre.length = p → (pre ++ c :: r).getD p d = c) ∧ (∀ {α : Type} {pre r : List α} {p : Nat}, pre.length = p → List.drop p (pre ++ r) = r) ∧
 (∀ {α β : Type} (a : α) (f : α → Option β), (some a).bind f = f a) ∧ (∀ {α β γ : Type} (f : α → γ) (g : β → γ) (x : α), Sum.elim f g (Sum.inl x) = f x) ∧ (∀ {α β γ : Type} (f : α → γ) (g : β → γ) (x : β), Sum.elim f g (Sum.inr x) = g x) ∧ (∀ b : UInt8, UInt8.ofNat ((b.toNat : Int)).toNat = b) ∧ ∀ b : UInt8, UInt8.ofNat b.toNat = b :=
 ⟨@decide_eq_true, @decide_eq_false, fun _ _ => rfl, fun _ _ => rfl, Bool.and_self, Bool.true_and, Bool.and_true, Bool.false_and, Bool.and_false, rfl, rfl, @fun _ _ _ => List.length_append, @fun _ _ _ => List.length_cons, @fun _ => List.length_nil, Int.toNat_natCast, @ibT, @ibF, @inT, @inF, wrN, @gd, @dr, @Option.bind_some, fun _ _ _ => rfl, fun _ _ _ => rfl, byte_back, of_to⟩
theorem shift {α : Type} (pre : List α) (c : α) (r : List α) : pre ++ c :: r = (pre ++ [c]) ++ r := by simp
theorem c27 (k e : Int) (s : List UInt8) (at_ bad err : Int) : C141 (k, e, s, at_, bad, err, ()) = some (s, at_, k, e, ()) := rfl
def al : List UInt8 → Nat
 | [] => 0
 | c :: r => bif atomB c then al r + 1 else 0
theorem al_le : ∀ r, al r ≤ r.length
 | [] => Nat.le_refl _
 | c :: r => by have := al_le r; simp only [al]; cases atomB c <;> simp; omega
theorem l21 (f bad err : Int) : ∀ (r pre : List UInt8) (p n : Nat), pre.length = p → r.length < n → p + r.length ≤ 140737488355328 →
 loopN (F136_l0 C90 C136_c0) n (f, pre ++ r, (p : Int), bad, err, ()) = some (f, pre ++ r, ((p + al r : Nat) : Int), bad, err, ())
 | [], pre, p, n + 1, hp, hn, hb => by
  refine loopN_inr ?_
  simp (disch := (first | omega | (simp only [List.length_append, List.length_cons, List.length_nil]; omega))) only [F136_l0, C136_c0, F136_c0, Sk, al, List.append_nil, Nat.add_zero]
 | c :: r, pre, p, n + 1, hp, hn, hb => by
  simp only [List.length_cons] at hn hb
  cases h : atomB c with
  | true =>
   rw [loopN_inl (v' := (f, pre ++ c :: r, ((p + 1 : Nat) : Int), bad, err, ())) (by simp (disch := (first | omega | (simp only [List.length_append, List.length_cons, List.length_nil]; omega))) only [F136_l0, C136_c0, F136_c0, Sk, c17, h])]
   rw [shift, l21 f bad err r (pre ++ [c]) (p + 1) n (by simp [hp]) (by omega) (by omega)]
   simp only [al, h, cond_true, Nat.add_assoc, Nat.add_comm 1]
  | false =>
   refine loopN_inr ?_
   simp (disch := (first | omega | (simp only [List.length_append, List.length_cons, List.length_nil]; omega))) only [F136_l0, C136_c0, F136_c0, Sk, c17, h, al, Nat.add_zero]
theorem c21 (pre r : List UInt8) (p : Nat) (bad err : Int) (hp : pre.length = p) (hb : p + r.length ≤ 140737488355328) :
 C136 (pre ++ r, (p : Int), bad, err, ()) = some (r.take (al r), pre ++ r, ((p + al r : Nat) : Int), bad, err, ()) := by
 have := al_le r
 show F136 C90 C136_l0 (pre ++ r, (p : Int), bad, err, ()) = _
 have hl : C136_l0 ((p : Int), pre ++ r, (p : Int), bad, err, ()) = _ := l21 p bad err r pre p big hp (by unfold big; omega) hb
 simp (disch := (first | omega | (simp only [List.length_append, List.length_cons, List.length_nil]; omega))) only [F136, hl, Sk]
 rw [show List.drop p (List.take (p + al r) (pre ++ r)) = r.take (al r) by rw [← hp, List.take_append, List.take_of_length_le (by omega), List.drop_append]; simp]
def wl : List UInt8 → Nat
 | [] => 0
 | c :: r => bif blankB c then wl r + 1 else
  match r with
  | b :: d :: r' => bif (c == 13 && b == 10) && blankB d then wl r' + 3 else 0
  | _ => 0
theorem wl_le : ∀ r, wl r ≤ r.length
 | [] => Nat.le_refl _
 | [c] => by simp only [wl]; cases blankB c <;> simp
 | [c, b] => by have := wl_le [b]; simp only [wl] at *; cases blankB c <;> cases blankB b <;> simp
 | c :: b :: d :: r' => by
  have h1 := wl_le (b :: d :: r')
  have h2 := wl_le r'
  rw [wl]
  cases blankB c
  · simp only [cond_false]; cases (c == 13 && b == 10) && blankB d <;> simp; omega
  · simp only [cond_true, List.length_cons] at *; omega
theorem beq2 (c b : UInt8) : ([c, b] == [13, 10]) = (c == 13 && b == 10) := by
 rw [Bool.eq_iff_iff]; simp
theorem c26c (f p : Nat) (s : List UInt8) (bad err : Int) (b : Bool) (hf : f ≤ p) (hp : p ≤ s.length) (hb : p ≤ 140737488355328) :
 C140_c0 ((f : Int), b, s, (p : Int), bad, err, ()) = some (bif b then .inl ((f : Int), s, ((p + 3 : Nat) : Int), bad, err, ()) else .inr (List.drop f (List.take p s), s, (p : Int), bad, err, ())) := by
 cases b with
 | true => simp only [C140_c0, F140_c0, cond_true]; rw [wr (by omega) (by omega)]; rfl
 | false => simp (disch := (first | omega | (simp only [List.length_append, List.length_cons, List.length_nil]; omega))) only [C140_c0, F140_c0, Sk]
theorem wl_t {c : UInt8} {r : List UInt8} (h : blankB c = true) : wl (c :: r) = wl r + 1 := by
 match r with
 | [] => simp [wl, h]
 | [b] => simp [wl, h]
 | b :: d :: r => rw [wl, h]; rfl
theorem wl_stop {c : UInt8} {r : List UInt8} (h : blankB c = false) (h2 : r.length < 2) : wl (c :: r) = 0 := by
 match r, h2 with
 | [], _ => simp [wl, h]
 | [b], _ => simp [wl, h]
 | b :: d :: r, h2 => simp at h2; omega
theorem l26 (f : Nat) (bad err : Int) : ∀ (m : Nat) (r pre : List UInt8) (p n : Nat), r.length ≤ m → pre.length = p → r.length < n → f ≤ p → p + r.length ≤ 140737488355328 →
 loopN (F140_l0 C174 C140_c0) n ((f : Int), pre ++ r, (p : Int), bad, err, ()) = some (.inl ((f : Int), pre ++ r, ((p + wl r : Nat) : Int), bad, err, ())) ∨
 loopN (F140_l0 C174 C140_c0) n ((f : Int), pre ++ r, (p : Int), bad, err, ()) = some (.inr (List.drop f (List.take (p + wl r) (pre ++ r)), pre ++ r, ((p + wl r : Nat) : Int), bad, err, ()))
 | _, _, _, _, 0, _, _, hn, _, _ => by omega
 | m, [], pre, p, n + 1, hm, hp, hn, hf, hb => by
  refine .inl (loopN_inr ?_)
  simp (disch := (first | omega | (simp only [List.length_append, List.length_cons, List.length_nil]; omega))) only [F140_l0, Sk, wl, List.append_nil, Nat.add_zero]
 | 0, c :: r, pre, p, n + 1, hm, hp, hn, hf, hb => by simp at hm
 | m + 1, c :: r, pre, p, n + 1, hm, hp, hn, hf, hb => by
  simp only [List.length_cons] at hn hb hm
  cases h : blankB c with
  | true =>
   rw [loopN_inl (v' := ((f : Int), pre ++ c :: r, ((p + 1 : Nat) : Int), bad, err, ())) (by simp (disch := (first | omega | (simp only [List.length_append, List.length_cons, List.length_nil]; omega))) only [F140_l0, Sk, c32, h, List.getD_cons_zero])]
   rw [shift]
   have := l26 f bad err m r (pre ++ [c]) (p + 1) n (by omega) (by simp [hp]) (by omega) (by omega) (by omega)
   rw [show p + wl (c :: r) = p + 1 + wl r by rw [wl_t h]; omega]
   exact this
  | false =>
   have stop : ∀ (hw : wl (c :: r) = 0), F140_l0 C174 C140_c0 ((f : Int), pre ++ c :: r, (p : Int), bad, err, ()) = some (.inr (.inr (List.drop f (List.take p (pre ++ c :: r)), pre ++ c :: r, (p : Int), bad, err, ()))) →
    loopN (F140_l0 C174 C140_c0) (n + 1) ((f : Int), pre ++ c :: r, (p : Int), bad, err, ()) = some (.inr (List.drop f (List.take (p + wl (c :: r)) (pre ++ c :: r)), pre ++ c :: r, ((p + wl (c :: r) : Nat) : Int), bad, err, ())) := by
    intro hw h
    rw [hw]; exact loopN_inr h
   match r, hm, hn, hb with
   | [], hm, hn, hb =>
    refine .inr (stop (wl_stop h (by simp)) ?_)
    simp (disch := (first | omega | (simp only [List.length_append, List.length_cons, List.length_nil]; omega))) only [F140_l0, Sk, c32, h, List.getD_cons_zero, c26c]
   | [b], hm, hn, hb =>
    refine .inr (stop (wl_stop h (by simp)) ?_)
    simp only [List.length_cons, List.length_nil] at hn hb hm
    simp (disch := (first | omega | (simp only [List.length_append, List.length_cons, List.length_nil]; omega))) only [F140_l0, Sk, c32, h, List.getD_cons_zero, c26c]
   | b :: d :: r', hm, hn, hb =>
    simp only [List.length_cons] at hn hb hm
    cases hq : (c == 13 && b == 10) with
    | false =>
     refine .inr (stop (by rw [wl, h, hq]; rfl) ?_)
     simp (disch := (first | omega | (simp only [List.length_append, List.length_cons, List.length_nil]; omega))) only [F140_l0, Sk, c32, h, List.getD_cons_zero, c26c, List.take_succ_cons, List.take_zero, beq2, hq]
    | true =>
     cases hd : blankB d with
     | false =>
      refine .inr (stop (by rw [wl, h, hq, hd]; rfl) ?_)
      simp (disch := (first | omega | (simp only [List.length_append, List.length_cons, List.length_nil]; omega))) only [F140_l0, Sk, c32, h, List.getD_cons_zero, List.getD_cons_succ, c26c, List.take_succ_cons, List.take_zero, beq2, hq, hd]
     | true =>
      rw [loopN_inl (v' := ((f : Int), pre ++ c :: b :: d :: r', ((p + 3 : Nat) : Int), bad, err, ())) (by simp (disch := (first | omega | (simp only [List.length_append, List.length_cons, List.length_nil]; omega))) only [F140_l0, Sk, c32, h, List.getD_cons_zero, List.getD_cons_succ, c26c, List.take_succ_cons, List.take_zero, beq2, hq, hd])]
      have := l26 f bad err m r' (pre ++ [c, b, d]) (p + 3) n (by omega) (by simp [hp]) (by omega) (by omega) (by omega)
      rw [show p + wl (c :: b :: d :: r') = p + 3 + wl r' by rw [wl, h, hq, hd]; simp only [cond_true, cond_false, Bool.and_self]; omega]
      rw [show pre ++ c :: b :: d :: r' = (pre ++ [c, b, d]) ++ r' by simp]
      exact this
theorem text_eq {pre r : List UInt8} {p k : Nat} (hp : pre.length = p) : List.drop p (List.take (p + k) (pre ++ r)) = r.take k := by
 rw [← hp, List.take_append, List.take_of_length_le (by omega), List.drop_append]; simp
theorem c26 (pre r : List UInt8) (p : Nat) (bad err : Int) (hp : pre.length = p) (hb : p + r.length ≤ 140737488355328) :
 C140 (pre ++ r, (p : Int), bad, err, ()) = some (r.take (wl r), pre ++ r, ((p + wl r : Nat) : Int), bad, err, ()) := by
 have := wl_le r
 show F140 C174 C140_l0 (pre ++ r, (p : Int), bad, err, ()) = _
 rcases l26 p bad err r.length r pre p big (Nat.le_refl _) hp (by unfold big; omega) (Nat.le_refl _) hb with hl | hl
 · have hl' : C140_l0 ((p : Int), pre ++ r, (p : Int), bad, err, ()) = _ := hl
   simp (disch := (first | omega | (simp only [List.length_append, List.length_cons, List.length_nil]; omega))) only [F140, hl', Sk, text_eq]
 · have hl' : C140_l0 ((p : Int), pre ++ r, (p : Int), bad, err, ()) = _ := hl
   simp (disch := (first | omega | (simp only [List.length_append, List.length_cons, List.length_nil]; omega))) only [F140, hl', Sk, text_eq]
inductive Tk where
 | ok (t : List UInt8) (u : Nat)
 | bad (off : Nat) (e : Int)
 | start
def Tk.push (l : List UInt8) (n : Nat) : Tk → Tk
 | .ok t u => .ok (l ++ t) (n + u)
 | .bad off e => .bad (n + off) e
 | .start => .start
def qt : List UInt8 → Tk
 | [] => .start
 | c :: r => if c.toNat = 34 then .ok [] 1 else if c.toNat = 92 then
  match r with
  | [] => .start
  | d :: r' => bif mayB d then (qt r').push [d] 2 else .bad 1 4
  else bif mayB c then (qt r).push [c] 1 else .bad 0 4
theorem qt_q {c : UInt8} {r : List UInt8} (h : c.toNat = 34) : qt (c :: r) = .ok [] 1 := by cases r <;> simp [qt, h]
theorem qt_b0 {c : UInt8} (h : c.toNat = 92) : qt [c] = .start := by simp [qt, h]
theorem qt_b1 {c d : UInt8} {r : List UInt8} (h : c.toNat = 92) : qt (c :: d :: r) = bif mayB d then (qt r).push [d] 2 else .bad 1 4 := by simp [qt, h]
theorem qt_c {c : UInt8} {r : List UInt8} (h1 : ¬ c.toNat = 34) (h2 : ¬ c.toNat = 92) : qt (c :: r) = bif mayB c then (qt r).push [c] 1 else .bad 0 4 := by cases r <;> simp [qt, h1, h2]
def resq (s : List UInt8) (a bad err : Int) (out : List UInt8) (q : Nat) : Tk → (List UInt8 × Int × Int × Int × Unit) ⊕ (List UInt8 × List UInt8 × Int × Int × Int × Unit)
 | .ok t u => .inr (out ++ t, s, ((q + u : Nat) : Int), bad, err, ())
 | .bad off e => .inr ([], s, a, ((q + off : Nat) : Int), e, ())
 | .start => .inl (s, a, bad, err, ())
theorem resq_push (s : List UInt8) (a bad err : Int) (out : List UInt8) (q : Nat) (l : List UInt8) (n : Nat) (k : Tk) : resq s a bad err out q (k.push l n) = resq s a bad err (out ++ l) (q + n) k := by
 cases k <;> simp [Tk.push, resq, Nat.add_assoc]
theorem c23c (pre r out : List UInt8) (d : UInt8) (q : Nat) (a bad err : Int) (hq : pre.length = q) (hb : q + r.length ≤ 140737488355320) (ho : out.length + 1 ≤ 140737488355328) :
 C137_c0 ((q : Int), pre ++ d :: r, a, bad, err, out, ()) = some (bif mayB d then .inr ((q : Int), pre ++ d :: r, a, bad, err, out ++ [d], ()) else .inl ([], pre ++ d :: r, a, (q : Int), 4, ())) := by
 cases h : mayB d <;> simp (disch := (first | omega | (simp only [List.length_append, List.length_cons, List.length_nil]; omega))) only [C137_c0, F137_c0, Sk, c31, c27, h]
theorem l23 (a bad err : Int) : ∀ (m : Nat) (r pre out : List UInt8) (q n : Nat), r.length ≤ m → pre.length = q → r.length < n → q + r.length ≤ 140737488355320 → out.length + r.length ≤ 140737488355320 →
 loopN (F137_l0 C141 C173 C137_c0) n ((q : Int), pre ++ r, a, bad, err, out, ()) = some (resq (pre ++ r) a bad err out q (qt r))
 | _, _, _, _, _, 0, _, _, hn, _, _ => by omega
 | m, [], pre, out, q, n + 1, hm, hq, hn, hb, ho => by
  refine loopN_inr ?_
  simp (disch := (first | omega | (simp only [List.length_append, List.length_cons, List.length_nil]; omega))) only [F137_l0, Sk, List.append_nil, qt, resq]
 | 0, c :: r, pre, out, q, n + 1, hm, hq, hn, hb, ho => by simp at hm
 | m + 1, c :: r, pre, out, q, n + 1, hm, hq, hn, hb, ho => by
  simp only [List.length_cons] at hn hb hm ho
  by_cases e1 : c.toNat = 34
  · refine loopN_inr ?_
    rw [qt_q e1]
    simp (disch := (first | omega | (simp only [List.length_append, List.length_cons, List.length_nil]; omega))) only [F137_l0, Sk, resq, List.append_nil]
  · by_cases e2 : c.toNat = 92
    · match r, hm, hn, hb, ho with
      | [], hm, hn, hb, ho =>
       refine loopN_inr ?_
       rw [qt_b0 e2]
       simp (disch := (first | omega | (simp only [List.length_append, List.length_cons, List.length_nil]; omega))) only [F137_l0, Sk, resq, List.append_nil]
      | d :: r', hm, hn, hb, ho =>
       simp only [List.length_cons] at hn hb hm ho
       have hc := c23c (pre ++ [c]) r' out d (q + 1) a bad err (by simp [hq]) (by omega) (by omega)
       rw [← shift] at hc
       rw [qt_b1 e2]
       cases h : mayB d with
       | true =>
        rw [h] at hc
        simp only [cond_true] at hc ⊢
        rw [loopN_inl (v' := (((q + 2 : Nat) : Int), pre ++ c :: d :: r', a, bad, err, out ++ [d], ())) (by
         simp (disch := (first | omega | (simp only [List.length_append, List.length_cons, List.length_nil]; omega))) only [F137_l0, Sk, hc])]
        have := l23 a bad err m r' (pre ++ [c, d]) (out ++ [d]) (q + 2) n (by omega) (by simp [hq]) (by omega) (by omega) (by simp; omega)
        rw [show pre ++ c :: d :: r' = (pre ++ [c, d]) ++ r' by simp, this, ← resq_push]
       | false =>
        rw [h] at hc
        simp only [cond_false] at hc ⊢
        refine loopN_inr ?_
        simp (disch := (first | omega | (simp only [List.length_append, List.length_cons, List.length_nil]; omega))) only [F137_l0, Sk, hc, resq]
    · have hc := c23c pre r out c q a bad err hq (by omega) (by omega)
      rw [qt_c e1 e2]
      cases h : mayB c with
      | true =>
       rw [h] at hc
       simp only [cond_true] at hc ⊢
       rw [loopN_inl (v' := (((q + 1 : Nat) : Int), pre ++ c :: r, a, bad, err, out ++ [c], ())) (by
        simp (disch := (first | omega | (simp only [List.length_append, List.length_cons, List.length_nil]; omega))) only [F137_l0, Sk, hc])]
       have := l23 a bad err m r (pre ++ [c]) (out ++ [c]) (q + 1) n (by omega) (by simp [hq]) (by omega) (by omega) (by simp; omega)
       rw [shift, this, ← resq_push]
      | false =>
       rw [h] at hc
       simp only [cond_false] at hc ⊢
       refine loopN_inr ?_
       simp (disch := (first | omega | (simp only [List.length_append, List.length_cons, List.length_nil]; omega))) only [F137_l0, Sk, hc, resq, Nat.add_zero]
def fin (s : List UInt8) (p : Nat) (bad err : Int) (q : Nat) : Tk → List UInt8 × List UInt8 × Int × Int × Int × Unit
 | .ok t u => (t, s, ((q + u : Nat) : Int), bad, err, ())
 | .bad off e => ([], s, (p : Int), ((q + off : Nat) : Int), e, ())
 | .start => ([], s, (p : Int), (p : Int), 4, ())
theorem c23 (pre r : List UInt8) (c : UInt8) (p : Nat) (bad err : Int) (hp : pre.length = p) (hb : p + r.length ≤ 140737488355000) :
 C137 (pre ++ c :: r, (p : Int), bad, err, ()) = some (fin (pre ++ c :: r) p bad err (p + 1) (qt r)) := by
 show F137 C141 C173 C137_l0 (pre ++ c :: r, (p : Int), bad, err, ()) = _
 have hl := l23 p bad err r.length r (pre ++ [c]) [] (p + 1) big (Nat.le_refl _) (by simp [hp]) (by unfold big; omega) (by omega) (by simp; omega)
 rw [← shift] at hl
 have hl' : C137_l0 (((p + 1 : Nat) : Int), pre ++ c :: r, (p : Int), bad, err, [], ()) = _ := hl
 cases hq : qt r <;> rw [hq] at hl' <;> simp (disch := (first | omega | (simp only [List.length_append, List.length_cons, List.length_nil]; omega))) only [F137, Sk, hl', resq, fin, c27, List.nil_append]
def ltk : List UInt8 → Tk
 | [] => .start
 | c :: r => if c.toNat = 93 then .ok [] 1 else if c.toNat = 91 then .bad 0 4 else if c.toNat = 92 then .bad 0 4 else
  bif blankB c then .bad 0 4 else bif mayB c then (ltk r).push [c] 1 else .bad 0 4
def resl (s : List UInt8) (a bad err : Int) (from_ : Nat) (q : Nat) : Tk → (List UInt8 × Int × Int × Int × Unit) ⊕ (List UInt8 × List UInt8 × Int × Int × Int × Unit)
 | .ok t u => .inr (List.drop from_ (List.take (q + t.length) s), s, ((q + u : Nat) : Int), bad, err, ())
 | .bad off e => .inr ([], s, a, ((q + off : Nat) : Int), e, ())
 | .start => .inl (s, a, bad, err, ())
theorem resl_push (s : List UInt8) (a bad err : Int) (f q : Nat) (l : List UInt8) (n : Nat) (hl : l.length = n) (k : Tk) : resl s a bad err f q (k.push l n) = resl s a bad err f (q + n) k := by
 cases k <;> simp [Tk.push, resl, Nat.add_assoc, hl]
theorem l24 (a : Nat) (bad err : Int) : ∀ (r pre : List UInt8) (q n : Nat), pre.length = q → a + 1 ≤ q → r.length < n → q + r.length ≤ 140737488355320 →
 loopN (F138_l0 C141 C173 C174 C138_c0) n ((q : Int), pre ++ r, (a : Int), bad, err, ()) = some (resl (pre ++ r) a bad err (a + 1) q (ltk r))
 | _, _, _, 0, _, _, hn, _ => by omega
 | [], pre, q, n + 1, hq, ha, hn, hb => by
  refine loopN_inr ?_
  simp (disch := (first | omega | (simp only [List.length_append, List.length_cons, List.length_nil]; omega))) only [F138_l0, C138_c0, F138_c0, Sk, List.append_nil, ltk, resl]
 | c :: r, pre, q, n + 1, hq, ha, hn, hb => by
  simp only [List.length_cons] at hn hb
  by_cases e1 : c.toNat = 93
  · refine loopN_inr ?_
    simp (disch := (first | omega | (simp only [List.length_append, List.length_cons, List.length_nil]; omega))) only [F138_l0, C138_c0, F138_c0, Sk, ltk, if_pos, resl, Nat.add_zero]
  · by_cases e2 : c.toNat = 91
    · refine loopN_inr ?_
      simp (disch := (first | omega | (simp only [List.length_append, List.length_cons, List.length_nil]; omega))) only [F138_l0, C138_c0, F138_c0, Sk, ltk, if_pos, if_neg, resl, Nat.add_zero, c27]
    · by_cases e3 : c.toNat = 92
      · refine loopN_inr ?_
        simp (disch := (first | omega | (simp only [List.length_append, List.length_cons, List.length_nil]; omega))) only [F138_l0, C138_c0, F138_c0, Sk, ltk, if_pos, if_neg, resl, Nat.add_zero, c27]
      · cases h1 : blankB c with
        | true =>
         refine loopN_inr ?_
         simp (disch := (first | omega | (simp only [List.length_append, List.length_cons, List.length_nil]; omega))) only [F138_l0, C138_c0, F138_c0, Sk, ltk, if_pos, if_neg, resl, Nat.add_zero, c27, c32, h1]
        | false =>
         cases h2 : mayB c with
         | false =>
          refine loopN_inr ?_
          simp (disch := (first | omega | (simp only [List.length_append, List.length_cons, List.length_nil]; omega))) only [F138_l0, C138_c0, F138_c0, Sk, ltk, if_pos, if_neg, resl, Nat.add_zero, c27, c32, c31, h1, h2]
         | true =>
          rw [loopN_inl (v' := (((q + 1 : Nat) : Int), pre ++ c :: r, (a : Int), bad, err, ())) (by
           simp (disch := (first | omega | (simp only [List.length_append, List.length_cons, List.length_nil]; omega))) only [F138_l0, C138_c0, F138_c0, Sk, c32, c31, h1, h2])]
          have := l24 a bad err r (pre ++ [c]) (q + 1) n (by simp [hq]) (by omega) (by omega) (by omega)
          rw [shift, this, ← resl_push (l := [c]) (n := 1) _ _ _ _ _ _ rfl]
          simp only [ltk, if_neg e1, if_neg e2, if_neg e3, h1, h2, cond_true, cond_false]
theorem ltk_ok : ∀ {r t : List UInt8} {u : Nat}, ltk r = .ok t u → u = t.length + 1 ∧ t.length < r.length ∧ r.take t.length = t
 | [], t, u, h => by simp [ltk] at h
 | c :: r, t, u, h => by
  unfold ltk at h
  split at h
  · cases h; simp
  · split at h
    · cases h
    · split at h
      · cases h
      · cases h1 : blankB c <;> cases h2 : mayB c <;> rw [h1, h2] at h <;> simp only [cond_true, cond_false] at h <;> try (cases h; done)
        cases hr : ltk r with
        | ok t' u' =>
         rw [hr] at h
         cases h
         obtain ⟨i1, i2, i3⟩ := ltk_ok hr
         exact ⟨by simp; omega, by simpa using i2, by simpa using i3⟩
        | bad o e => rw [hr] at h; cases h
        | start => rw [hr] at h; cases h
theorem c24 (pre r : List UInt8) (c : UInt8) (p : Nat) (bad err : Int) (hp : pre.length = p) (hb : p + r.length ≤ 140737488355000) :
 C138 (pre ++ c :: r, (p : Int), bad, err, ()) = some (fin (pre ++ c :: r) p bad err (p + 1) (ltk r)) := by
 show F138 C141 C173 C174 C138_l0 (pre ++ c :: r, (p : Int), bad, err, ()) = _
 have hl := l24 p bad err r (pre ++ [c]) (p + 1) big (by simp [hp]) (by omega) (by unfold big; omega) (by omega)
 rw [← shift] at hl
 have hl' : C138_l0 (((p + 1 : Nat) : Int), pre ++ c :: r, (p : Int), bad, err, ()) = _ := hl
 cases hq : ltk r with
 | ok t u =>
  rw [hq] at hl'
  obtain ⟨i1, i2, i3⟩ := ltk_ok hq
  simp (disch := (first | omega | (simp only [List.length_append, List.length_cons, List.length_nil]; omega))) only [F138, Sk, hl', resl, fin]
  rw [shift, text_eq (by simp [hp]), i3]
 | bad o e => rw [hq] at hl'; simp (disch := (first | omega | (simp only [List.length_append, List.length_cons, List.length_nil]; omega))) only [F138, Sk, hl', resl, fin]
 | start => rw [hq] at hl'; simp (disch := (first | omega | (simp only [List.length_append, List.length_cons, List.length_nil]; omega))) only [F138, Sk, hl', resl, fin, c27]
def nt : Nat → List UInt8 → Tk
 | _, [] => .start
 | deep, c :: r => if c.toNat = 40 then (if deep + 1 > 32 then .bad 0 6 else (nt (deep + 1) r).push [c] 1)
  else if c.toNat = 41 then (if deep = 1 then .ok [] 1 else (nt (deep - 1) r).push [c] 1)
  else if c.toNat = 92 then
   match r with
   | [] => .start
   | d :: r' => bif mayB d then (nt deep r').push [c, d] 2 else .bad 1 4
  else bif mayB c then (nt deep r).push [c] 1 else .bad 0 4
theorem nt_o {deep : Nat} {c : UInt8} {r : List UInt8} (h : c.toNat = 40) : nt deep (c :: r) = if deep + 1 > 32 then .bad 0 6 else (nt (deep + 1) r).push [c] 1 := by cases r <;> simp [nt, h]
theorem nt_c {deep : Nat} {c : UInt8} {r : List UInt8} (h : c.toNat = 41) : nt deep (c :: r) = if deep = 1 then .ok [] 1 else (nt (deep - 1) r).push [c] 1 := by cases r <;> simp [nt, h]
theorem nt_b0 {deep : Nat} {c : UInt8} (h : c.toNat = 92) : nt deep [c] = .start := by simp [nt, h]
theorem nt_b1 {deep : Nat} {c d : UInt8} {r : List UInt8} (h : c.toNat = 92) : nt deep (c :: d :: r) = bif mayB d then (nt deep r).push [c, d] 2 else .bad 1 4 := by simp [nt, h]
theorem nt_m {deep : Nat} {c : UInt8} {r : List UInt8} (h1 : ¬ c.toNat = 40) (h2 : ¬ c.toNat = 41) (h3 : ¬ c.toNat = 92) : nt deep (c :: r) = bif mayB c then (nt deep r).push [c] 1 else .bad 0 4 := by cases r <;> simp [nt, h1, h2, h3]
theorem wrM (n : Nat) (h : n ≤ 9223372036854775806) (h1 : 1 ≤ n) : IntKind.i64.wrap ((n : Int) - 1) = ((n - 1 : Nat) : Int) := by rw [wr] <;> omega
def resn (s : List UInt8) (f : Nat) (a bad err : Int) (q : Nat) : Tk → ((Int × Int × List UInt8 × Int × Int × Int × Unit) ⊕ (Int × Int × List UInt8 × Int × Int × Int × Unit) ⊕ (List UInt8 × List UInt8 × Int × Int × Int × Unit))
 | .ok t u => .inr (.inr (List.drop (f + 1) (List.take (q + t.length) s), s, ((q + u : Nat) : Int), bad, err, ()))
 | .bad off e => .inr (.inl (e, ((q + off : Nat) : Int), s, a, bad, err, ()))
 | .start => .inl ((f : Int), 4, s, a, bad, err, ())
theorem resn_push (s : List UInt8) (f : Nat) (a bad err : Int) (q : Nat) (l : List UInt8) (n : Nat) (hl : l.length = n) (k : Tk) : resn s f a bad err q (k.push l n) = resn s f a bad err (q + n) k := by
 cases k <;> simp [Tk.push, resn, Nat.add_assoc, hl]
theorem l25 (f : Nat) (a bad err : Int) : ∀ (m : Nat) (r pre : List UInt8) (deep q n : Nat), r.length ≤ m → 1 ≤ deep → deep ≤ 32 → pre.length = q → f + 1 ≤ q → r.length < n → q + r.length ≤ 140737488355320 →
 loopN (F139_l0 C141 C173) n ((f : Int), (deep : Int), 4, (q : Int), pre ++ r, a, bad, err, ()) = some (resn (pre ++ r) f a bad err q (nt deep r))
 | _, _, _, _, _, 0, _, _, _, _, _, hn, _ => by omega
 | m, [], pre, deep, q, n + 1, hm, hd, hd2, hq, hf, hn, hb => by
  refine loopN_inr ?_
  simp (disch := (first | omega | (simp only [List.length_append, List.length_cons, List.length_nil]; omega))) only [F139_l0, Sk, List.append_nil, nt, resn]
 | 0, c :: r, pre, deep, q, n + 1, hm, hd, hd2, hq, hf, hn, hb => by simp at hm
 | m + 1, c :: r, pre, deep, q, n + 1, hm, hd, hd2, hq, hf, hn, hb => by
  simp only [List.length_cons] at hn hb hm
  have next : ∀ (d' : Nat), 1 ≤ d' → d' ≤ 32 → F139_l0 C141 C173 ((f : Int), (deep : Int), 4, (q : Int), pre ++ c :: r, a, bad, err, ()) = some (.inl ((f : Int), (d' : Int), 4, ((q + 1 : Nat) : Int), pre ++ c :: r, a, bad, err, ())) →
   loopN (F139_l0 C141 C173) (n + 1) ((f : Int), (deep : Int), 4, (q : Int), pre ++ c :: r, a, bad, err, ()) = some (resn (pre ++ c :: r) f a bad err q ((nt d' r).push [c] 1)) := by
   intro d' h1 h2 h3
   rw [loopN_inl h3, resn_push (l := [c]) (n := 1) _ _ _ _ _ _ rfl]
   have := l25 f a bad err m r (pre ++ [c]) d' (q + 1) n (by omega) h1 h2 (by simp [hq]) (by omega) (by omega) (by omega)
   rw [shift, this]
  by_cases e1 : c.toNat = 40
  · rw [nt_o e1]
    by_cases hdd : deep + 1 > 32
    · rw [if_pos hdd]
      refine loopN_inr ?_
      simp (disch := (first | omega | (simp only [List.length_append, List.length_cons, List.length_nil]; omega))) only [F139_l0, Sk, resn, Nat.add_zero]
    · rw [if_neg hdd]
      refine next (deep + 1) (by omega) (by omega) ?_
      simp (disch := (first | omega | (simp only [List.length_append, List.length_cons, List.length_nil]; omega))) only [F139_l0, Sk]
  · by_cases e2 : c.toNat = 41
    · rw [nt_c e2]
      by_cases hd1 : deep = 1
      · rw [if_pos hd1]
        refine loopN_inr ?_
        subst hd1
        simp (disch := (first | omega | (simp only [List.length_append, List.length_cons, List.length_nil]; omega))) only [F139_l0, Sk, resn, Nat.add_zero, wrM]
      · rw [if_neg hd1]
        refine next (deep - 1) (by omega) (by omega) ?_
        simp (disch := (first | omega | (simp only [List.length_append, List.length_cons, List.length_nil]; omega))) only [F139_l0, Sk, wrM]
    · by_cases e3 : c.toNat = 92
      · match r, hm, hn, hb with
        | [], hm, hn, hb =>
         rw [nt_b0 e3]
         simp only [List.length_nil] at hn hb hm
         rw [loopN_inl (v' := ((f : Int), (deep : Int), 4, ((q + 2 : Nat) : Int), pre ++ [c], a, bad, err, ())) (by
          simp (disch := (first | omega | (simp only [List.length_append, List.length_cons, List.length_nil]; omega))) only [F139_l0, Sk])]
         obtain ⟨n', rfl⟩ : ∃ n', n = n' + 1 := ⟨n - 1, by omega⟩
         refine loopN_inr ?_
         simp (disch := (first | omega | (simp only [List.length_append, List.length_cons, List.length_nil]; omega))) only [F139_l0, Sk, resn]
        | d :: r', hm, hn, hb =>
         simp only [List.length_cons] at hn hb hm
         rw [nt_b1 e3]
         have hg : (pre ++ c :: d :: r').getD (q + 1) 0 = d := by rw [shift]; exact gd (by simp [hq])
         cases h : mayB d with
         | true =>
          rw [loopN_inl (v' := ((f : Int), (deep : Int), 4, ((q + 2 : Nat) : Int), pre ++ c :: d :: r', a, bad, err, ())) (by
           simp (disch := (first | omega | (simp only [List.length_append, List.length_cons, List.length_nil]; omega))) only [F139_l0, Sk, hg, c31, h])]
          have := l25 f a bad err m r' (pre ++ [c, d]) deep (q + 2) n (by omega) hd hd2 (by simp [hq]) (by omega) (by omega) (by omega)
          rw [show pre ++ c :: d :: r' = (pre ++ [c, d]) ++ r' by simp, this, cond_true, resn_push (l := [c, d]) (n := 2) _ _ _ _ _ _ rfl]
         | false =>
          refine loopN_inr ?_
          simp (disch := (first | omega | (simp only [List.length_append, List.length_cons, List.length_nil]; omega))) only [F139_l0, Sk, hg, c31, h, resn]
      · rw [nt_m e1 e2 e3]
        cases h : mayB c with
        | true =>
         refine next deep hd hd2 ?_
         simp (disch := (first | omega | (simp only [List.length_append, List.length_cons, List.length_nil]; omega))) only [F139_l0, Sk, c31, h]
        | false =>
         refine loopN_inr ?_
         simp (disch := (first | omega | (simp only [List.length_append, List.length_cons, List.length_nil]; omega))) only [F139_l0, Sk, c31, h, resn, Nat.add_zero]
theorem push_ok {k : Tk} {l t : List UInt8} {n u : Nat} (h : k.push l n = .ok t u) : ∃ t' u', k = .ok t' u' ∧ t = l ++ t' ∧ u = n + u' := by
 cases k <;> simp [Tk.push] at h
 exact ⟨_, _, rfl, h.1.symm, h.2.symm⟩
theorem nt_ok : ∀ (m : Nat) {r t : List UInt8} {u deep : Nat}, r.length ≤ m → nt deep r = .ok t u → u = t.length + 1 ∧ t.length < r.length ∧ r.take t.length = t
 | _, [], t, u, deep, _, h => by simp [nt] at h
 | 0, c :: r, t, u, deep, hm, h => by simp at hm
 | m + 1, c :: r, t, u, deep, hm, h => by
  simp only [List.length_cons] at hm
  have one : ∀ (d' : Nat), (nt d' r).push [c] 1 = .ok t u → u = t.length + 1 ∧ t.length < (c :: r).length ∧ (c :: r).take t.length = t := by
   intro d' h
   obtain ⟨t', u', h1, rfl, rfl⟩ := push_ok h
   obtain ⟨i1, i2, i3⟩ := nt_ok m (by omega) h1
   exact ⟨by simp; omega, by simpa using i2, by simpa using i3⟩
  by_cases e1 : c.toNat = 40
  · rw [nt_o e1] at h
    split at h
    · cases h
    · exact one _ h
  · by_cases e2 : c.toNat = 41
    · rw [nt_c e2] at h
      split at h
      · cases h; simp
      · exact one _ h
    · by_cases e3 : c.toNat = 92
      · match r, hm, h with
        | [], hm, h => rw [nt_b0 e3] at h; cases h
        | d :: r', hm, h =>
         simp only [List.length_cons] at hm
         rw [nt_b1 e3] at h
         cases hd : mayB d <;> rw [hd] at h
         · cases h
         · obtain ⟨t', u', h1, rfl, rfl⟩ := push_ok h
           obtain ⟨i1, i2, i3⟩ := nt_ok m (by omega) h1
           exact ⟨by simp; omega, by simpa using i2, by simpa using i3⟩
      · rw [nt_m e1 e2 e3] at h
        cases hd : mayB c <;> rw [hd] at h
        · cases h
        · exact one _ h
theorem c25g (k e : Int) (s : List UInt8) (a bad err : Int) : C139_g0 (e, k, s, a, bad, err, ()) = some ([], s, a, k, e, ()) := by
 show loopN _ big _ = _
 rw [show big = 999999999999999999999 + 1 from rfl]
 exact loopN_inr rfl
theorem c25 (pre r : List UInt8) (c : UInt8) (p : Nat) (bad err : Int) (hc : c.toNat = 40) (hp : pre.length = p) (hb : p + r.length ≤ 140737488355000) :
 C139 (pre ++ c :: r, (p : Int), bad, err, ()) = some (fin (pre ++ c :: r) p bad err (p + 1) (nt 1 r)) := by
 show F139 C141 C173 C139_g0 C139_l0 (pre ++ c :: r, (p : Int), bad, err, ()) = _
 have hl := l25 p p bad err r.length r (pre ++ [c]) 1 (p + 1) 999999999999999999999 (Nat.le_refl _) (by omega) (by omega) (by simp [hp]) (by omega) (by omega) (by omega)
 rw [← shift] at hl
 have h0 : C139_l0 ((p : Int), 0, 4, (p : Int), pre ++ c :: r, (p : Int), bad, err, ()) = some (resn (pre ++ c :: r) p p bad err (p + 1) (nt 1 r)) := by
  rw [← hl]
  show loopN _ (999999999999999999999 + 1) _ = _
  refine loopN_inl ?_
  simp (disch := (first | omega | (simp only [List.length_append, List.length_cons, List.length_nil]; omega))) only [F139_l0, Sk]
  rfl
 cases hq : nt 1 r with
 | ok t u =>
  rw [hq] at h0
  obtain ⟨i1, i2, i3⟩ := nt_ok _ (Nat.le_refl _) hq
  simp (disch := (first | omega | (simp only [List.length_append, List.length_cons, List.length_nil]; omega))) only [F139, Sk, h0, resn, fin]
  rw [shift, text_eq (by simp [hp]), i3]
 | bad o e => rw [hq] at h0; simp (disch := (first | omega | (simp only [List.length_append, List.length_cons, List.length_nil]; omega))) only [F139, Sk, h0, resn, fin, c25g]
 | start => rw [hq] at h0; simp (disch := (first | omega | (simp only [List.length_append, List.length_cons, List.length_nil]; omega))) only [F139, Sk, h0, resn, fin, c27]
def g1 (o : Option (Int × Int × Unit)) : Int := match o with | some (n, _, _) => n | none => 0
def g2 (o : Option (Int × Int × Unit)) : Int := match o with | some (_, v, _) => v | none => 0
def ok2 (o : Option (Int × Int × Unit)) : Bool := match o with | some _ => true | none => false
theorem ok2_some {o : Option (Int × Int × Unit)} (h : ok2 o = true) : o = some (g1 o, g2 o, ()) := by
 cases o with
 | none => cases h
 | some x => rfl
def leadN (c : UInt8) : Int := g1 (C121 ((c.toNat : Int), ()))
def leadV (c : UInt8) : Int := g2 (C121 ((c.toNat : Int), ()))
theorem c19k : ((List.range 256).all fun n => (fun c : UInt8 => ok2 (C121 ((c.toNat : Int), ()))) (UInt8.ofNat n)) = true := by kernel_rfl
theorem c19 (c : UInt8) : C121 ((c.toNat : Int), ()) = some (leadN c, leadV c, ()) := ok2_some (all256 (fun c => ok2 (C121 ((c.toNat : Int), ()))) c19k c)
def rngB : Int → Bool
 | .ofNat n => Nat.ble n 3
 | .negSucc n => Nat.beq n 0
theorem lead_k : ((List.range 256).all fun n => (fun c : UInt8 => rngB (leadN c)) (UInt8.ofNat n)) = true := by kernel_rfl
theorem lead_rng (c : UInt8) : leadN c = -1 ∨ 0 ≤ leadN c ∧ leadN c ≤ 3 := by
 have h : rngB (leadN c) = true := all256 (fun c => rngB (leadN c)) lead_k c
 generalize leadN c = x at h
 cases x with
 | ofNat n => have := Nat.le_of_ble_eq_true h; right; simp; omega
 | negSucc n => have := Nat.eq_of_beq_eq_true h; subst this; left; rfl
def lenR (v : Int) : Int := match C122 (v, ()) with | some (n, _) => n | none => 0
theorem c20 (v : Int) : C122 (v, ()) = some (lenR v, ()) := by
 have h : ∃ n, C122 (v, ()) = some (n, ()) := by
  show ∃ n, F122 C155 (v, ()) = some (n, ())
  have h29 : ∃ b, C155 (v, ()) = some (b, ()) := by
   simp only [C155, F155]
   cases decide (v ≥ 0) <;> cases decide (v ≤ 1114111) <;> cases decide (v ≥ 55296) <;> exact ⟨_, rfl⟩
  obtain ⟨b, hb⟩ := h29
  simp only [F122, hb, Option.bind_some]
  cases b <;> cases decide (v ≤ 127) <;> cases decide (v ≤ 2047) <;> cases decide (v ≤ 65535) <;> exact ⟨_, rfl⟩
 obtain ⟨n, hn⟩ := h
 rw [lenR, hn]
def contB (c : UInt8) : Bool := !(intBits BinOp.andNot IntKind.u8 (c.toNat : Int) 63 != 128)
def stepV (v : Int) (c : UInt8) : Int := intBits BinOp.or IntKind.i32 (IntKind.i32.wrap (v * 2 ^ min 6 IntKind.i32.bits)) (IntKind.i32.wrap (intBits BinOp.and IntKind.u8 (c.toNat : Int) 63))
def conts : Nat → List UInt8 → Int → Option Int
 | 0, _, v => some v
 | _ + 1, [], _ => none
 | n + 1, c :: r, v => bif contB c then conts n r (stepV v c) else none
def ch : List UInt8 → Nat
 | [] => 0
 | c :: r => if leadN c < 0 then 0 else if r.length < (leadN c).toNat then 0 else
  match conts (leadN c).toNat r (leadV c) with
  | none => 0
  | some v => if lenR v = leadN c + 1 then (leadN c).toNat + 1 else 0
theorem ch_le : ∀ s, ch s ≤ s.length
 | [] => Nat.le_refl _
 | c :: r => by
  simp only [ch, List.length_cons]
  split
  · omega
  · split
    · omega
    · split
      · omega
      · split <;> omega
def res0 (s : List UInt8) (n a : Int) (out : List Int) : Option Int → (List UInt8 × Int × Int × Int × List Int × Unit) ⊕ (Int × List Int × Unit)
 | some v => .inl (s, n, v, a, out, ())
 | none => .inr (a, out, ())
theorem l150 (a : Nat) (m : Nat) (out : List Int) : ∀ (j : Nat) (r pre : List UInt8) (v : Int) (k n : Nat), pre.length = k → k + j = a + m + 1 → j ≤ r.length → j < n → k + r.length ≤ 140737488355320 → m ≤ 3 →
 loopN (F83_l0 C121 C122) n (pre ++ r, (m : Int), v, (a : Int), (k : Int), out, ()) = some (res0 (pre ++ r) m a out (conts j r v))
 | _, _, _, _, _, 0, _, _, _, hn, _, _ => by omega
 | 0, r, pre, v, k, n + 1, hk, hj, hr, hn, hb, hm => by
  refine loopN_inr ?_
  have h : IntKind.i64.wrap ((a : Int) + (m : Int)) = (a : Int) + m := wr (by omega) (by omega)
  simp (disch := (first | omega | (simp only [List.length_append, List.length_cons, List.length_nil]; omega))) only [F83_l0, h, Sk, conts, res0]
 | j + 1, [], pre, v, k, n + 1, hk, hj, hr, hn, hb, hm => by simp at hr
 | j + 1, c :: r, pre, v, k, n + 1, hk, hj, hr, hn, hb, hm => by
  simp only [List.length_cons] at hr hb
  have h : IntKind.i64.wrap ((a : Int) + (m : Int)) = (a : Int) + m := wr (by omega) (by omega)
  cases hc : contB c with
  | true =>
   have hc' : (intBits BinOp.andNot IntKind.u8 (c.toNat : Int) 63 != 128) = false := by simpa [contB] using hc
   rw [loopN_inl (v' := (pre ++ c :: r, (m : Int), stepV v c, (a : Int), ((k + 1 : Nat) : Int), out, ())) (by
    simp (disch := (first | omega | (simp only [List.length_append, List.length_cons, List.length_nil]; omega))) only [F83_l0, h, Sk, hc']
    rfl)]
   rw [shift, l150 a m out j r (pre ++ [c]) (stepV v c) (k + 1) n (by simp [hk]) (by omega) (by omega) (by omega) (by omega) hm]
   simp only [conts, hc, cond_true]
  | false =>
   have hc' : (intBits BinOp.andNot IntKind.u8 (c.toNat : Int) 63 != 128) = true := by simpa [contB] using hc
   refine loopN_inr ?_
   simp (disch := (first | omega | (simp only [List.length_append, List.length_cons, List.length_nil]; omega))) only [F83_l0, h, Sk, hc', conts, hc, res0]
def ut : Nat → List UInt8 → Nat → Option Nat
 | 0, _, _ => none
 | n + 1, s, p => if s = [] then none else if ch s = 0 then some p else ut n (s.drop (ch s)) (p + ch s)
def r15 (out : List Int) : Option Nat → (List Int × Unit) ⊕ (Int × List Int × Unit)
 | none => .inl (out, ())
 | some b => .inr ((b : Int), out, ())
theorem r151 (c : UInt8) (r pre : List UInt8) (out : List Int) (p : Nat) (hp : pre.length = p) (hb : p + r.length ≤ 140737488355000) (ho : out.length ≤ 1000000000) :
 F83_l1 C121 C122 C83_l0 (pre ++ c :: r, (p : Int), out, ()) = some (if ch (c :: r) = 0 then .inr (.inr ((p : Int), out, ())) else
  .inl (pre ++ c :: r, ((p + ch (c :: r) : Nat) : Int), out ++ [((conts (leadN c).toNat r (leadV c)).getD 0)], ())) := by
 have hrng := lead_rng c
 by_cases h1 : leadN c < 0
 · have : ch (c :: r) = 0 := by simp [ch, h1]
   rw [if_pos this]
   simp (disch := (first | omega | (simp only [List.length_append, List.length_cons, List.length_nil]; omega))) only [F83_l1, Sk, c19]
 · have hw : IntKind.i64.wrap (((pre.length + (r.length + 1) : Nat) : Int) - (p : Int)) = (r.length : Int) + 1 := by rw [wr] <;> omega
   obtain ⟨m, hm⟩ : ∃ m : Nat, leadN c = m := ⟨(leadN c).toNat, by omega⟩
   by_cases h2 : r.length < m
   · have : ch (c :: r) = 0 := by simp [ch, hm, h2]
     rw [if_pos this]
     simp (disch := (first | omega | (simp only [List.length_append, List.length_cons, List.length_nil]; omega))) only [F83_l1, Sk, c19, hw, hm]
   · have hl := l150 p m out m r (pre ++ [c]) (leadV c) (p + 1) big (by simp [hp]) (by omega) (by omega) (by unfold big; omega) (by omega) (by omega)
     rw [← shift] at hl
     have hl' : C83_l0 (pre ++ c :: r, (m : Int), leadV c, (p : Int), ((p + 1 : Nat) : Int), out, ()) = _ := hl
     cases hc : conts m r (leadV c) with
     | none =>
      have : ch (c :: r) = 0 := by simp [ch, hm, h2, hc]
      rw [if_pos this]
      simp (disch := (first | omega | (simp only [List.length_append, List.length_cons, List.length_nil]; omega))) only [F83_l1, Sk, c19, hw, hm, hl', hc, res0]
     | some v =>
      have hw2 : IntKind.i64.wrap ((m : Int) + 1) = (m : Int) + 1 := wr (by omega) (by omega)
      by_cases h3 : lenR v = m + 1
      · have hch : ch (c :: r) = m + 1 := by simp [ch, hm, h2, hc, h3]
        have hw3 : IntKind.i64.wrap ((p : Int) + ((m : Int) + 1)) = ((p + (m + 1) : Nat) : Int) := by rw [wr] <;> omega
        rw [if_neg (by omega), hch]
        simp (disch := (first | omega | (simp only [List.length_append, List.length_cons, List.length_nil]; omega))) only [F83_l1, hw2, hw3, decide_eq_true, decide_eq_false, cond_true, cond_false, Bool.and_self, List.length_append, List.length_cons, List.length_nil, Int.toNat_natCast, inF, gd, Option.bind_some, Sum.elim_inl, wrN, c19, hw, hm, hl', hc, res0, c20, Option.getD_some]
      · have : ch (c :: r) = 0 := by simp [ch, hm, h2, hc, h3]
        rw [if_pos this]
        simp (disch := (first | omega | (simp only [List.length_append, List.length_cons, List.length_nil]; omega))) only [F83_l1, hw2, Sk, c19, hw, hm, hl', hc, res0, c20]
theorem l151 : ∀ (m : Nat) (r pre : List UInt8) (out : List Int) (p n : Nat), r.length ≤ m → pre.length = p → r.length < n → p + r.length ≤ 140737488355000 → out.length + r.length ≤ 1000000000 →
 ∃ o, loopN (F83_l1 C121 C122 C83_l0) n (pre ++ r, (p : Int), out, ()) = some (r15 o (ut n r p))
 | _, _, _, _, _, 0, _, _, hn, _, _ => by omega
 | m, [], pre, out, p, n + 1, hm, hp, hn, hb, ho => by
  refine ⟨out, loopN_inr ?_⟩
  simp (disch := (first | omega | (simp only [List.length_append, List.length_cons, List.length_nil]; omega))) only [F83_l1, Sk, List.append_nil, ut, if_true, r15]
 | 0, c :: r, pre, out, p, n + 1, hm, hp, hn, hb, ho => by simp at hm
 | m + 1, c :: r, pre, out, p, n + 1, hm, hp, hn, hb, ho => by
  simp only [List.length_cons] at hm hn hb ho
  have hr := r151 c r pre out p hp (by omega) (by omega)
  by_cases h : ch (c :: r) = 0
  · rw [if_pos h] at hr
    refine ⟨out, ?_⟩
    rw [loopN_inr hr]
    simp [ut, h, r15]
  · rw [if_neg h] at hr
    have hle := ch_le (c :: r)
    simp only [List.length_cons] at hle
    have hsplit : pre ++ c :: r = (pre ++ (c :: r).take (ch (c :: r))) ++ (c :: r).drop (ch (c :: r)) := by rw [List.append_assoc, List.take_append_drop]
    obtain ⟨o, ho'⟩ := l151 m ((c :: r).drop (ch (c :: r))) (pre ++ (c :: r).take (ch (c :: r))) (out ++ [((conts (leadN c).toNat r (leadV c)).getD 0)]) (p + ch (c :: r)) n (by simp; omega) (by simp [hp]; omega) (by simp; omega) (by simp; omega) (by simp; omega)
    refine ⟨o, ?_⟩
    rw [loopN_inl hr]
    rw [← hsplit] at ho'
    rw [ho']
    simp [ut, h]
def utf (s : List UInt8) : Option Nat := ut big s 0
theorem c15 (s : List UInt8) (hb : s.length ≤ 1000000) : ∃ o, C83 (s, ()) = some (o, (match utf s with | none => -1 | some b => (b : Int)), ()) := by
 obtain ⟨o, h⟩ := l151 s.length s [] [] 0 big (Nat.le_refl _) rfl (by unfold big; omega) (by omega) (by simp; omega)
 have h' : C83_l1 (s, 0, [], ()) = some (r15 o (utf s)) := h
 refine ⟨o, ?_⟩
 show F83 C121 C122 C83_g0 C83_l1 (s, ()) = _
 have hg : ∀ (b : Int) (o : List Int), C83_g0 (b, o, ()) = some (b, o, ()) := by
  intro b o
  show loopN _ big _ = _
  rw [show big = 999999999999999999999 + 1 from rfl]
  exact loopN_inr rfl
 simp only [F83, h', Option.bind_some]
 cases utf s <;> simp [r15, hg]
def Tk.up : Tk → Tk
 | .ok t u => .ok t (1 + u)
 | .bad off e => .bad (1 + off) e
 | .start => .start
def one (c : UInt8) (r : List UInt8) : Int × Tk :=
 if atomB c = true then (0, .ok ((c :: r).take (al (c :: r))) (al (c :: r)))
 else if signB c = true then (2, .ok [c] 1)
 else if c.toNat = 34 then (1, (qt r).up)
 else if c.toNat = 91 then (5, (ltk r).up)
 else if c.toNat = 40 then (3, (nt 1 r).up)
 else if wl (c :: r) = 0 then (4, .start) else (4, .ok ((c :: r).take (wl (c :: r))) (wl (c :: r)))
theorem fin_up (s : List UInt8) (p : Nat) (bad err : Int) (k : Tk) : fin s p bad err (p + 1) k = fin s p bad err p k.up := by
 cases k <;> simp [fin, Tk.up, Nat.add_assoc]
def tkres (s : List UInt8) (p : Nat) (bad err : Int) (x : Int × Tk) : Int × List UInt8 × Int × List UInt8 × Int × Int × Int × Unit :=
 (x.1, (fin s p bad err p x.2).1, (p : Int), (fin s p bad err p x.2).2)
theorem c16 (pre r : List UInt8) (c : UInt8) (p : Nat) (bad err : Int) (hp : pre.length = p) (hb : p + r.length ≤ 140737488354000) :
 C105 (pre ++ c :: r, (p : Int), bad, err, ()) = some (tkres (pre ++ c :: r) p bad err (one c r)) := by
 show F105 C127 C136 C137 C138 C139 C140 C141 C90 C105_c0 (pre ++ c :: r, (p : Int), bad, err, ()) = _
 have h21 := c21 pre (c :: r) p bad err hp (by simp; omega)
 have h26 := c26 pre (c :: r) p bad err hp (by simp; omega)
 have h23 := c23 pre r c p bad err hp (by omega)
 have h24 := c24 pre r c p bad err hp (by omega)
 unfold one
 by_cases h1 : atomB c = true
 · rw [if_pos h1]
   simp (disch := (first | omega | (simp only [List.length_append, List.length_cons, List.length_nil]; omega))) only [F105, C105_c0, F105_c0, Sk, c17, h1, h21, tkres, fin]
 · rw [if_neg h1]
   have h1' : atomB c = false := by simpa using h1
   by_cases h2 : signB c = true
   · rw [if_pos h2]
     have h2' : signI c ≥ 0 := by simpa [signB] using h2
     have ht : List.drop p (List.take (p + 1) (pre ++ c :: r)) = [c] := by rw [text_eq hp]; rfl
     simp (disch := (first | omega | (simp only [List.length_append, List.length_cons, List.length_nil]; omega))) only [F105, C105_c0, F105_c0, Sk, c17, h1', c22s, ht, tkres, fin]
   · rw [if_neg h2]
     have h2' : ¬ signI c ≥ 0 := by simpa [signB] using h2
     by_cases h3 : c.toNat = 34
     · rw [if_pos h3]
       rw [fin_up] at h23
       simp (disch := (first | omega | (simp only [List.length_append, List.length_cons, List.length_nil]; omega))) only [F105, C105_c0, F105_c0, Sk, c17, h1', c22s, h23, tkres]
     · rw [if_neg h3]
       by_cases h4 : c.toNat = 91
       · rw [if_pos h4]
         rw [fin_up] at h24
         simp (disch := (first | omega | (simp only [List.length_append, List.length_cons, List.length_nil]; omega))) only [F105, C105_c0, F105_c0, Sk, c17, h1', c22s, h24, tkres]
       · rw [if_neg h4]
         by_cases h5 : c.toNat = 40
         · rw [if_pos h5]
           have h25 := c25 pre r c p bad err h5 hp (by omega)
           rw [fin_up] at h25
           simp (disch := (first | omega | (simp only [List.length_append, List.length_cons, List.length_nil]; omega))) only [F105, C105_c0, F105_c0, Sk, c17, h1', c22s, h25, tkres]
         · rw [if_neg h5]
           by_cases h6 : wl (c :: r) = 0
           · rw [if_pos h6]
             rw [h6] at h26
             simp (disch := (first | omega | (simp only [List.length_append, List.length_cons, List.length_nil]; omega))) only [F105, C105_c0, F105_c0, Sk, c17, h1', c22s, h26, tkres, fin, List.take_zero, c27, beq_self_eq_true, Nat.add_zero]
           · rw [if_neg h6]
             obtain ⟨w, hw⟩ : ∃ w, wl (c :: r) = w + 1 := ⟨wl (c :: r) - 1, by omega⟩
             have hne : ((c :: r).take (wl (c :: r)) == []) = false := by rw [hw]; rfl
             simp (disch := (first | omega | (simp only [List.length_append, List.length_cons, List.length_nil]; omega))) only [F105, C105_c0, F105_c0, Sk, c17, h1', c22s, h26, tkres, fin, hne]
abbrev Tok := Int × (List UInt8 × Int)
def lx : Nat → List UInt8 → Nat → List Tok ⊕ (Nat × Int)
 | 0, _, _ => .inl []
 | n + 1, s, p => match s with
  | [] => .inl []
  | c :: r => match one c r with
   | (k, .ok t u) => match lx n ((c :: r).drop u) (p + u) with
    | .inl l => .inl ((k, t, (p : Int)) :: l)
    | .inr e => .inr e
   | (_, .bad off e) => .inr (p + off, e)
   | (_, .start) => .inr (p, 4)
theorem qt_used : ∀ (m : Nat) {r t : List UInt8} {u : Nat}, r.length ≤ m → qt r = .ok t u → t.length + 1 ≤ u ∧ u ≤ r.length
 | _, [], t, u, _, h => by simp [qt] at h
 | 0, c :: r, t, u, hm, h => by simp at hm
 | m + 1, c :: r, t, u, hm, h => by
  simp only [List.length_cons] at hm ⊢
  by_cases e1 : c.toNat = 34
  · rw [qt_q e1] at h; cases h; simp
  · by_cases e2 : c.toNat = 92
    · match r, hm, h with
      | [], hm, h => rw [qt_b0 e2] at h; cases h
      | d :: r', hm, h =>
       rw [qt_b1 e2] at h
       cases hd : mayB d <;> rw [hd] at h
       · cases h
       · obtain ⟨t', u', h1, rfl, rfl⟩ := push_ok h
         have := qt_used m (by simp at hm; omega) h1
         simp; omega
    · rw [qt_c e1 e2] at h
      cases hd : mayB c <;> rw [hd] at h
      · cases h
      · obtain ⟨t', u', h1, rfl, rfl⟩ := push_ok h
        have := qt_used m (by omega) h1
        simp; omega
theorem up_ok {k : Tk} {t : List UInt8} {u : Nat} (h : k.up = .ok t u) : ∃ u', k = .ok t u' ∧ u = 1 + u' := by
 cases k <;> simp [Tk.up] at h
 obtain ⟨rfl, rfl⟩ := h
 exact ⟨_, rfl, rfl⟩
theorem al_pos {c : UInt8} {r : List UInt8} (h : atomB c = true) : 1 ≤ al (c :: r) := by simp [al, h]
theorem one_used {c : UInt8} {r t : List UInt8} {k : Int} {u : Nat} (h : one c r = (k, .ok t u)) : 1 ≤ u ∧ u ≤ r.length + 1 := by
 unfold one at h
 split at h
 · rename_i h1
   cases h
   have := al_le (c :: r)
   exact ⟨al_pos h1, by simpa using this⟩
 · split at h
   · cases h; exact ⟨by omega, by omega⟩
   · split at h
     · obtain ⟨u', h1, rfl⟩ := up_ok (Prod.mk.inj h).2
       have := qt_used _ (Nat.le_refl _) h1
       omega
     · split at h
       · obtain ⟨u', h1, rfl⟩ := up_ok (Prod.mk.inj h).2
         have := ltk_ok h1
         omega
       · split at h
         · obtain ⟨u', h1, rfl⟩ := up_ok (Prod.mk.inj h).2
           have := nt_ok _ (Nat.le_refl _) h1
           omega
         · split at h
           · cases h
           · rename_i h6
             cases h
             have := wl_le (c :: r)
             exact ⟨by omega, by simpa using this⟩
def rL11 (out : List Tok) : List Tok ⊕ (Nat × Int) → (List Tok × Unit) ⊕ (Int × Int × Unit)
 | .inl l => .inl (out ++ l, ())
 | .inr (b, e) => .inr ((b : Int), e, ())
def Tk.eok : Tk → Prop
 | .bad _ e => e = 4 ∨ e = 6
 | _ => True
theorem push_eok {k : Tk} {l : List UInt8} {n : Nat} (h : k.eok) : (k.push l n).eok := by cases k <;> first | exact h | exact trivial
theorem up_eok {k : Tk} (h : k.eok) : k.up.eok := by cases k <;> first | exact h | exact trivial
theorem qt_e : ∀ (m : Nat) (r : List UInt8), r.length ≤ m → (qt r).eok
 | _, [], _ => trivial
 | 0, c :: r, hm => by simp at hm
 | m + 1, c :: r, hm => by
  simp only [List.length_cons] at hm
  by_cases e1 : c.toNat = 34
  · rw [qt_q e1]; trivial
  · by_cases e2 : c.toNat = 92
    · match r, hm with
      | [], hm => rw [qt_b0 e2]; trivial
      | d :: r', hm =>
       rw [qt_b1 e2]
       cases mayB d
       · exact .inl rfl
       · exact push_eok (qt_e m r' (by simp at hm; omega))
    · rw [qt_c e1 e2]
      cases mayB c
      · exact .inl rfl
      · exact push_eok (qt_e m r (by omega))
theorem ltk_e : ∀ r : List UInt8, (ltk r).eok
 | [] => trivial
 | c :: r => by
  unfold ltk
  split
  · trivial
  · split
    · exact .inl rfl
    · split
      · exact .inl rfl
      · cases blankB c
        · cases mayB c
          · exact .inl rfl
          · exact push_eok (ltk_e r)
        · exact .inl rfl
theorem nt_e : ∀ (m deep : Nat) (r : List UInt8), r.length ≤ m → (nt deep r).eok
 | _, _, [], _ => by simp [nt, Tk.eok]
 | 0, _, c :: r, hm => by simp at hm
 | m + 1, deep, c :: r, hm => by
  simp only [List.length_cons] at hm
  by_cases e1 : c.toNat = 40
  · rw [nt_o e1]
    split
    · exact .inr rfl
    · exact push_eok (nt_e m _ r (by omega))
  · by_cases e2 : c.toNat = 41
    · rw [nt_c e2]
      split
      · trivial
      · exact push_eok (nt_e m _ r (by omega))
    · by_cases e3 : c.toNat = 92
      · match r, hm with
        | [], hm => rw [nt_b0 e3]; trivial
        | d :: r', hm =>
         rw [nt_b1 e3]
         cases mayB d
         · exact .inl rfl
         · exact push_eok (nt_e m _ r' (by simp at hm; omega))
      · rw [nt_m e1 e2 e3]
        cases mayB c
        · exact .inl rfl
        · exact push_eok (nt_e m _ r (by omega))
theorem one_e (c : UInt8) (r : List UInt8) : (one c r).2.eok := by
 unfold one
 split
 · trivial
 · split
   · trivial
   · split
     · exact up_eok (qt_e _ r (Nat.le_refl _))
     · split
       · exact up_eok (ltk_e r)
       · split
         · exact up_eok (nt_e _ _ r (Nat.le_refl _))
         · split <;> trivial
theorem l11 (s : List UInt8) : ∀ (m : Nat) (r pre : List UInt8) (out : List Tok) (bad : Int) (p n : Nat), r.length ≤ m → s = pre ++ r → pre.length = p → r.length < n → p + r.length ≤ 100000 → out.length + r.length ≤ 100000 →
 loopN (F67_l0 C105 C83) n (s, out, s, (p : Int), bad, 0, ()) = some (rL11 out (lx m r p))
 | _, _, _, _, _, _, 0, _, _, _, hn, _, _ => by omega
 | 0, [], pre, out, bad, p, n + 1, hm, hs, hp, hn, hb, ho => by
  refine loopN_inr ?_
  have : s.length = p := by rw [hs]; simp [hp]
  simp (disch := (first | omega | (simp only [List.length_append, List.length_cons, List.length_nil]; omega))) only [F67_l0, this, Sk, lx, rL11, List.append_nil]
 | m + 1, [], pre, out, bad, p, n + 1, hm, hs, hp, hn, hb, ho => by
  refine loopN_inr ?_
  have : s.length = p := by rw [hs]; simp [hp]
  simp (disch := (first | omega | (simp only [List.length_append, List.length_cons, List.length_nil]; omega))) only [F67_l0, this, Sk, lx, rL11, List.append_nil]
 | 0, c :: r, pre, out, bad, p, n + 1, hm, hs, hp, hn, hb, ho => by simp at hm
 | m + 1, c :: r, pre, out, bad, p, n + 1, hm, hs, hp, hn, hb, ho => by
  simp only [List.length_cons] at hm hn hb ho
  have h16 := c16 pre r c p bad 0 hp (by omega)
  have he := one_e c r
  rw [← hs] at h16
  have hl : s.length = p + (r.length + 1) := by rw [hs]; simp [hp]
  cases h1 : one c r with
  | mk k tk =>
   rw [h1] at h16 he
   cases tk with
   | ok t u =>
    have hu := one_used h1
    rw [loopN_inl (v' := (s, out ++ [(k, t, (p : Int))], s, ((p + u : Nat) : Int), bad, 0, ())) (by
     simp (disch := (first | omega | (simp only [List.length_append, List.length_cons, List.length_nil]; omega))) only [F67_l0, hl, Sk, h16, tkres, fin])]
    have := l11 s m ((c :: r).drop u) (pre ++ (c :: r).take u) (out ++ [(k, t, (p : Int))]) bad (p + u) n (by simp; omega) (by rw [hs, List.append_assoc, List.take_append_drop]) (by simp [hp]; omega) (by simp; omega) (by simp; omega) (by simp; omega)
    rw [this]
    simp only [lx, h1]
    cases lx m ((c :: r).drop u) (p + u) with
    | inl l => simp [rL11]
    | inr e => rfl
   | bad off e =>
    have he' : e = 4 ∨ e = 6 := he
    refine loopN_inr ?_
    simp (disch := (first | omega | (simp only [List.length_append, List.length_cons, List.length_nil]; omega))) only [F67_l0, hl, Sk, h16, tkres, fin, lx, h1, rL11]
   | start =>
    refine loopN_inr ?_
    simp (disch := (first | omega | (simp only [List.length_append, List.length_cons, List.length_nil]; omega))) only [F67_l0, hl, Sk, h16, tkres, fin, lx, h1, rL11]
theorem lx_fuel : ∀ (n m : Nat) (s : List UInt8) (p : Nat), s.length ≤ n → s.length ≤ m → lx n s p = lx m s p
 | 0, 0, _, _, _, _ => rfl
 | 0, m + 1, [], p, _, _ => rfl
 | n + 1, 0, [], p, _, _ => rfl
 | n + 1, m + 1, [], p, _, _ => rfl
 | 0, _, c :: r, p, h, _ => by simp at h
 | n + 1, 0, c :: r, p, _, h => by simp at h
 | n + 1, m + 1, c :: r, p, h, h' => by
  simp only [List.length_cons] at h h'
  simp only [lx]
  cases h1 : one c r with
  | mk k tk =>
   cases tk with
   | ok t u =>
    have hu := one_used h1
    simp only
    rw [lx_fuel n m ((c :: r).drop u) (p + u) (by simp; omega) (by simp; omega)]
   | bad off e => rfl
   | start => rfl
def lexs (s : List UInt8) (p : Nat) : List Tok ⊕ (Nat × Int) := lx s.length s p
theorem lexs_nil (p : Nat) : lexs [] p = .inl [] := rfl
theorem lexs_cons (c : UInt8) (r : List UInt8) (p : Nat) : lexs (c :: r) p = match one c r with
 | (k, .ok t u) => (match lexs ((c :: r).drop u) (p + u) with
  | .inl l => .inl ((k, t, (p : Int)) :: l)
  | .inr e => .inr e)
 | (_, .bad off e) => .inr (p + off, e)
 | (_, .start) => .inr (p, 4) := by
 unfold lexs
 simp only [List.length_cons, lx]
 cases h1 : one c r with
 | mk k tk =>
  cases tk with
  | ok t u =>
   have hu := one_used h1
   simp only
   rw [lx_fuel r.length ((c :: r).drop u).length ((c :: r).drop u) (p + u) (by simp; omega) (Nat.le_refl _)]
  | bad off e => rfl
  | start => rfl
def cons1 (x : Tok) : List Tok ⊕ (Nat × Int) → List Tok ⊕ (Nat × Int)
 | .inl l => .inl (x :: l)
 | .inr e => .inr e
theorem lexs_ok {c : UInt8} {r t : List UInt8} {k : Int} {u : Nat} (h : one c r = (k, .ok t u)) (p : Nat) : lexs (c :: r) p = cons1 (k, t, (p : Int)) (lexs ((c :: r).drop u) (p + u)) := by
 rw [lexs_cons, h]; rfl
theorem lexs_bad {c : UInt8} {r : List UInt8} {k e : Int} {off : Nat} (h : one c r = (k, .bad off e)) (p : Nat) : lexs (c :: r) p = .inr (p + off, e) := by
 rw [lexs_cons, h]
theorem lexs_start {c : UInt8} {r : List UInt8} {k : Int} (h : one c r = (k, .start)) (p : Nat) : lexs (c :: r) p = .inr (p, 4) := by
 rw [lexs_cons, h]
def end1 : List Tok ⊕ (Nat × Int) → List Tok × Int × Int
 | .inl l => (l, 0, 0)
 | .inr x => ([], (x.1 : Int), x.2)
def end2 : Option Nat → List Tok ⊕ (Nat × Int) → List Tok × Int × Int
 | some b, _ => ([], (b : Int), 7)
 | none, x => end1 x
def lexR (s : List UInt8) : List Tok × Int × Int := if 2000 < s.length then ([], 0, 5) else end2 (utf s) (lexs s 0)
theorem c11 (s : List UInt8) : C67 (s, ()) = some ((lexR s).1, (lexR s).2.1, (lexR s).2.2, ()) := by
 show F67 C105 C83 C67_l0 (s, ()) = _
 unfold lexR
 by_cases h : 2000 < s.length
 · simp only [if_pos h]
   simp (disch := (first | omega | (simp only [List.length_append, List.length_cons, List.length_nil]; omega))) only [F67, Sk]
 · simp only [if_neg h]
   obtain ⟨o, h15⟩ := c15 s (by omega)
   cases hu : utf s with
   | some b =>
    rw [hu] at h15
    simp only at h15
    simp (disch := (first | omega | (simp only [List.length_append, List.length_cons, List.length_nil]; omega))) only [F67, Sk, h15, end2]
   | none =>
    rw [hu] at h15
    have hl := l11 s s.length s [] [] 0 0 big (Nat.le_refl _) (by simp) rfl (by unfold big; omega) (by omega) (by simp; omega)
    have hl' : C67_l0 (s, [], s, 0, 0, 0, ()) = some (rL11 [] (lexs s 0)) := hl
    simp (disch := (first | omega | (simp only [List.length_append, List.length_cons, List.length_nil]; omega))) only [F67, Sk, h15, hl']
    cases lexs s 0 with
    | inl l => simp [rL11, end2, end1]
    | inr x => obtain ⟨b, e⟩ := x; simp [rL11, end2, end1]
theorem ltk_end : ∀ {r t : List UInt8} {u : Nat}, ltk r = .ok t u → u = t.length + 1 ∧ ∃ x, r = t ++ 93 :: x
 | [], t, u, h => by simp [ltk] at h
 | c :: r, t, u, h => by
  unfold ltk at h
  split at h
  · rename_i hc
    cases h
    exact ⟨rfl, r, by rw [u8_eq hc]; rfl⟩
  · split at h
    · cases h
    · split at h
      · cases h
      · cases h1 : blankB c <;> cases h2 : mayB c <;> rw [h1, h2] at h <;> simp only [cond_true, cond_false] at h <;> try (cases h; done)
        obtain ⟨t', u', h3, rfl, rfl⟩ := push_ok h
        obtain ⟨i1, x, i2⟩ := ltk_end h3
        exact ⟨by simp; omega, x, by rw [i2]; simp⟩
theorem nt_end : ∀ (m : Nat) {r t : List UInt8} {u deep : Nat}, r.length ≤ m → nt deep r = .ok t u → u = t.length + 1 ∧ ∃ x, r = t ++ 41 :: x
 | _, [], t, u, deep, _, h => by simp [nt] at h
 | 0, c :: r, t, u, deep, hm, h => by simp at hm
 | m + 1, c :: r, t, u, deep, hm, h => by
  simp only [List.length_cons] at hm
  have one : ∀ (d' : Nat), (nt d' r).push [c] 1 = .ok t u → u = t.length + 1 ∧ ∃ x, c :: r = t ++ 41 :: x := by
   intro d' h
   obtain ⟨t', u', h1, rfl, rfl⟩ := push_ok h
   obtain ⟨i1, x, i2⟩ := nt_end m (by omega) h1
   exact ⟨by simp; omega, x, by rw [i2]; simp⟩
  by_cases e1 : c.toNat = 40
  · rw [nt_o e1] at h
    split at h
    · cases h
    · exact one _ h
  · by_cases e2 : c.toNat = 41
    · rw [nt_c e2] at h
      split at h
      · cases h; exact ⟨rfl, r, by rw [u8_eq e2]; rfl⟩
      · exact one _ h
    · by_cases e3 : c.toNat = 92
      · match r, hm, h with
        | [], hm, h => rw [nt_b0 e3] at h; cases h
        | d :: r', hm, h =>
         simp only [List.length_cons] at hm
         rw [nt_b1 e3] at h
         cases hd : mayB d <;> rw [hd] at h
         · cases h
         · obtain ⟨t', u', h1, rfl, rfl⟩ := push_ok h
           obtain ⟨i1, x, i2⟩ := nt_end m (by omega) h1
           exact ⟨by simp; omega, x, by rw [i2]; simp⟩
      · rw [nt_m e1 e2 e3] at h
        cases hd : mayB c <;> rw [hd] at h
        · cases h
        · exact one _ h
theorem one_src {c : UInt8} {r t : List UInt8} {k : Int} {u : Nat} (h : one c r = (k, .ok t u)) : (k ≠ 1 → src k t = (c :: r).take u) ∧ (k = 1 → c = 34 ∧ t.length + 2 ≤ u) := by
 unfold one at h
 split at h
 · cases h; exact ⟨fun _ => by simp [src], fun h => by cases h⟩
 · split at h
   · cases h; exact ⟨fun _ => by simp [src], fun h => by cases h⟩
   · split at h
     · rename_i hc
       obtain ⟨u', h1, rfl⟩ := up_ok (Prod.mk.inj h).2
       have hk := (Prod.mk.inj h).1
       have := qt_used _ (Nat.le_refl _) h1
       exact ⟨fun hk' => absurd hk.symm hk', fun _ => ⟨u8_eq hc, by omega⟩⟩
     · split at h
       · rename_i hc
         obtain ⟨u', h1, rfl⟩ := up_ok (Prod.mk.inj h).2
         obtain ⟨i1, x, i2⟩ := ltk_end h1
         have hk := (Prod.mk.inj h).1
         subst hk
         refine ⟨fun _ => ?_, fun h => by cases h⟩
         rw [i2, i1, u8_eq hc]
         simp [src, Nat.add_comm 1, List.take_append, List.take_of_length_le]
       · split at h
         · rename_i hc
           obtain ⟨u', h1, rfl⟩ := up_ok (Prod.mk.inj h).2
           obtain ⟨i1, x, i2⟩ := nt_end _ (Nat.le_refl _) h1
           have hk := (Prod.mk.inj h).1
           subst hk
           refine ⟨fun _ => ?_, fun h => by cases h⟩
           rw [i2, i1, u8_eq hc]
           simp [src, Nat.add_comm 1, List.take_append, List.take_of_length_le]
         · split at h
           · cases h
           · cases h; exact ⟨fun _ => by simp [src], fun h => by cases h⟩
theorem one_text_len {c : UInt8} {r t : List UInt8} {k : Int} {u : Nat} (h : one c r = (k, .ok t u)) : t.length ≤ u := by
 obtain ⟨h1, h2⟩ := one_src h
 have hu := one_used h
 by_cases hk : k = 1
 · have := (h2 hk).2; omega
 · have := h1 hk
   have hl : t.length ≤ (src k t).length := by
    unfold src; split
    · rename_i h; exact absurd h hk
    · split
      · simp; omega
      · split
        · simp; omega
        · omega
   rw [this] at hl
   simp only [List.length_take, List.length_cons] at hl
   omega
theorem cons1_inl {x : Tok} {y : List Tok ⊕ (Nat × Int)} {l : List Tok} (h : cons1 x y = .inl l) : ∃ l', y = .inl l' ∧ l = x :: l' := by cases y <;> simp [cons1] at h; exact ⟨_, rfl, h.symm⟩
theorem lexs_inl {c : UInt8} {r : List UInt8} {p : Nat} {l : List Tok} (h : lexs (c :: r) p = .inl l) : ∃ k t u l', one c r = (k, .ok t u) ∧ lexs ((c :: r).drop u) (p + u) = .inl l' ∧ l = (k, t, (p : Int)) :: l' := by
 cases h1 : one c r with
 | mk k tk =>
  cases tk with
  | ok t u =>
   rw [lexs_ok h1] at h
   obtain ⟨l', h2, h3⟩ := cons1_inl h
   exact ⟨k, t, u, l', rfl, h2, h3⟩
  | bad off e => rw [lexs_bad h1] at h; cases h
  | start => rw [lexs_start h1] at h; cases h
def asciiB (c : UInt8) : Bool := decide (c.toNat < 128)
theorem asc_k : ((List.range 256).all fun n => (fun c : UInt8 => !asciiB c || (decide (leadN c = 0) && decide (lenR (leadV c) = 1))) (UInt8.ofNat n)) = true := by kernel_rfl
theorem ch_asc {c : UInt8} (h : c.toNat < 128) (r : List UInt8) : ch (c :: r) = 1 := by
 have h1 : (!asciiB c || (decide (leadN c = 0) && decide (lenR (leadV c) = 1))) = true := all256 (fun c : UInt8 => !asciiB c || (decide (leadN c = 0) && decide (lenR (leadV c) = 1))) asc_k c
 have h2 : asciiB c = true := by simp [asciiB, h]
 simp only [h2, Bool.not_true, Bool.false_or, Bool.and_eq_true, decide_eq_true_eq] at h1
 simp [ch, h1.1, conts, h1.2]
def stops (p : UInt8 → Bool) : List UInt8 → Prop
 | [] => True
 | b :: _ => p b = false
inductive Val : List UInt8 → Prop
 | nil : Val []
 | cons (s : List UInt8) (h : ch s ≠ 0) (h2 : Val (s.drop (ch s))) : Val s
def contK (c : UInt8) : Bool := !contB c || decide (128 ≤ c.toNat)
theorem cont_k : ((List.range 256).all fun n => contK (UInt8.ofNat n)) = true := by kernel_rfl
theorem cont_hi {c : UInt8} (h : contB c = true) : 128 ≤ c.toNat := by
 have := all256 contK cont_k c
 simpa [contK, h] using this
theorem conts_hi : ∀ (n : Nat) (r : List UInt8) (v v' : Int), conts n r v = some v' → n ≤ r.length ∧ ∀ c ∈ r.take n, 128 ≤ c.toNat
 | 0, r, v, v', _ => ⟨by omega, by simp⟩
 | n + 1, [], v, v', h => by simp [conts] at h
 | n + 1, c :: r, v, v', h => by
  cases hc : contB c with
  | true =>
   simp only [conts, hc, cond_true] at h
   obtain ⟨h1, h2⟩ := conts_hi n r _ _ h
   refine ⟨by simp; omega, fun x hx => ?_⟩
   rw [List.take_succ_cons] at hx
   rcases List.mem_cons.1 hx with rfl | hx
   · exact cont_hi hc
   · exact h2 x hx
  | false => simp [conts, hc] at h
theorem conts_app : ∀ (n : Nat) (r x : List UInt8) (v : Int), n ≤ r.length → conts n (r ++ x) v = conts n r v
 | 0, r, x, v, _ => by cases r <;> rfl
 | n + 1, [], x, v, h => by simp at h
 | n + 1, c :: r, x, v, h => by
  simp only [List.cons_append, conts]
  cases contB c
  · rfl
  · exact conts_app n r x _ (by simpa using h)
theorem ch_some {c : UInt8} {r : List UInt8} (h : ch (c :: r) ≠ 0) : ∃ v, ¬ leadN c < 0 ∧ ¬ r.length < (leadN c).toNat ∧ conts (leadN c).toNat r (leadV c) = some v ∧ lenR v = leadN c + 1 ∧ ch (c :: r) = (leadN c).toNat + 1 := by
 simp only [ch] at h
 split at h
 · exact absurd rfl h
 · rename_i h1
   split at h
   · exact absurd rfl h
   · rename_i h2
     split at h
     · exact absurd rfl h
     · rename_i v hv
       split at h
       · rename_i h3
         exact ⟨v, h1, h2, hv, h3, by simp [ch, h1, h2, hv, h3]⟩
       · exact absurd rfl h
theorem ch_unapp {s x : List UInt8} (h : ch (s ++ x) ≠ 0) (hl : ch (s ++ x) ≤ s.length) : ch s = ch (s ++ x) := by
 cases s with
 | nil => simp at hl; exact absurd hl h
 | cons c r =>
  obtain ⟨v, h1, h2, h3, h4, h5⟩ := ch_some (r := r ++ x) h
  have h5' : ch (c :: r ++ x) = (leadN c).toNat + 1 := h5
  rw [h5'] at hl ⊢
  simp only [List.length_cons] at hl
  rw [conts_app _ _ _ _ (by omega)] at h3
  simp only [ch, if_neg h1, if_neg (show ¬ r.length < (leadN c).toNat by omega), h3, if_pos h4]
theorem Val.one {c : UInt8} (h : c.toNat < 128) : Val [c] := .cons _ (by rw [ch_asc h]; simp) (by rw [ch_asc h]; exact .nil)
theorem Val.split : ∀ (m : Nat) (a : List UInt8) (c : UInt8) (b : List UInt8), a.length ≤ m → c.toNat < 128 → Val (a ++ c :: b) → Val a ∧ Val b
 | m, [], c, b, _, hc, h => by
  refine ⟨.nil, ?_⟩
  cases h with
  | cons _ h h2 => simpa [ch_asc hc] using h2
 | 0, d :: a, c, b, hm, hc, h => by simp at hm
 | m + 1, d :: a, c, b, hm, hc, h => by
  cases h with
  | cons _ h0 h2 =>
   have hk : ch (d :: a ++ c :: b) ≤ (d :: a).length := by
    by_cases hd : d.toNat < 128
    · have : ch (d :: a ++ c :: b) = 1 := ch_asc hd _
      rw [this]; simp
    · obtain ⟨v, g1, g2, g3, g4, g5⟩ := ch_some (r := a ++ c :: b) h0
      have g5' : ch (d :: a ++ c :: b) = (leadN d).toNat + 1 := g5
      rw [g5', List.length_cons]
      obtain ⟨e1, e2⟩ := conts_hi _ _ _ _ g3
      rcases Nat.lt_or_ge a.length (leadN d).toNat with hlt | hge
      · exfalso
        have : c ∈ (a ++ c :: b).take (leadN d).toNat := by
         rw [List.take_append]
         obtain ⟨j, hj⟩ : ∃ j, (leadN d).toNat - a.length = j + 1 := ⟨(leadN d).toNat - a.length - 1, by omega⟩
         rw [hj, List.take_succ_cons]; simp
        have := e2 c this
        omega
      · omega
   have hsame := ch_unapp (s := d :: a) (x := c :: b) h0 hk
   have h0' : ch (d :: a) ≠ 0 := by rw [hsame]; exact h0
   rw [List.drop_append, show ch (d :: a ++ c :: b) - (d :: a).length = 0 by omega, List.drop_zero, ← hsame] at h2
   obtain ⟨i1, i2⟩ := Val.split m ((d :: a).drop (ch (d :: a))) c b (by simp at hm ⊢; omega) hc h2
   exact ⟨.cons _ h0' i1, i2⟩
theorem Val.cut {a b : List UInt8} {c : UInt8} (hc : c.toNat < 128) (h : Val (a ++ c :: b)) : Val a ∧ Val b := Val.split _ a c b (Nat.le_refl _) hc h
def kd (d : Nat) (l : List Tok) : Int := match l[d]? with | some t => t.1 | none => -1
theorem gdk {pre l : List Tok} {p d : Nat} (hp : pre.length = p) {x : Tok} : (pre ++ l).getD (p + d) x = l.getD d x := by
 subst hp
 simp [List.getD_eq_getElem?_getD, List.getElem?_append_right]
theorem c146 (d : Nat) (pre l : List Tok) (p : Nat) (a b : List UInt8) (hp : pre.length = p) (hb : p + d + l.length ≤ 1000000000) :
 C146 ((d : Int), pre ++ l, (p : Int), a, b, ()) = some (kd d l, pre ++ l, (p : Int), a, b, ()) := by
 show F146 C146_c0 _ = _
 have hw : IntKind.i64.wrap ((p : Int) + (d : Int)) = ((p + d : Nat) : Int) := by rw [wr (by omega) (by omega)]; simp
 have hlen : (pre ++ l).length = p + l.length := by simp [hp]
 simp only [F146, hw, hlen]
 by_cases h : l.length ≤ d
 · rw [decide_eq_true (by omega)]
   simp only [cond_true, kd, List.getElem?_eq_none h]
 · rw [decide_eq_false (by omega)]
   simp only [cond_false, C146_c0, F146_c0, hw, hlen]
   rw [decide_eq_true (by omega), decide_eq_true (by omega)]
   simp only [Bool.and_self, cond_true, Int.toNat_natCast, Option.bind_some]
   rw [gdk hp]
   simp only [kd, List.getElem?_eq_getElem (show d < l.length by omega), getD_lt (show d < l.length by omega)]
def skn : List Tok → Nat
 | [] => 0
 | t :: r => bif t.1 == 4 || t.1 == 3 then skn r + 1 else 0
theorem skn_le : ∀ l, skn l ≤ l.length
 | [] => Nat.le_refl _
 | t :: r => by have := skn_le r; simp only [skn]; cases (t.1 == 4 || t.1 == 3) <;> simp; omega
theorem kd0_cons (t : Tok) (r : List Tok) : kd 0 (t :: r) = t.1 := rfl
theorem l109 (a b : List UInt8) : ∀ (l pre : List Tok) (p n : Nat), pre.length = p → l.length < n → p + l.length ≤ 100000000 →
 loopN (F109_l0 C146) n (pre ++ l, (p : Int), a, b, ()) = some (pre ++ l, ((p + skn l : Nat) : Int), a, b, ())
 | [], pre, p, n + 1, hp, hn, hb => by
  have h := c146 0 pre [] p a b hp (by simp at hb ⊢; omega)
  refine loopN_inr ?_
  simp only [F109_l0, Int.natCast_zero] at h ⊢
  simp only [h, Option.bind_some, show kd 0 ([] : List Tok) = -1 from rfl, ibF (show (-1 : Int) ≠ 4 by decide), ibF (show (-1 : Int) ≠ 3 by decide), cond_false, skn, Nat.add_zero]
 | t :: l, pre, p, n + 1, hp, hn, hb => by
  simp only [List.length_cons] at hn hb
  have h := c146 0 pre (t :: l) p a b hp (by simp only [List.length_cons]; omega)
  simp only [Int.natCast_zero, kd0_cons] at h
  have hw := wrN p (by omega)
  by_cases h4 : t.1 = 4
  · rw [loopN_inl (v' := (pre ++ t :: l, ((p + 1 : Nat) : Int), a, b, ())) (by simp only [F109_l0, h, Option.bind_some, ibT h4, cond_true, hw])]
    rw [shift, l109 a b l (pre ++ [t]) (p + 1) n (by simp [hp]) (by omega) (by omega)]
    simp only [skn, ibT h4, Bool.true_or, cond_true, Nat.add_assoc, Nat.add_comm 1]
  · by_cases h3 : t.1 = 3
    · rw [loopN_inl (v' := (pre ++ t :: l, ((p + 1 : Nat) : Int), a, b, ())) (by simp only [F109_l0, h, Option.bind_some, ibF h4, ibT h3, cond_true, cond_false, hw])]
      rw [shift, l109 a b l (pre ++ [t]) (p + 1) n (by simp [hp]) (by omega) (by omega)]
      simp only [skn, ibT h3, Bool.or_true, cond_true, Nat.add_assoc, Nat.add_comm 1]
    · refine loopN_inr ?_
      simp only [F109_l0, h, Option.bind_some, ibF h4, ibF h3, cond_false, skn, Bool.or_self, Nat.add_zero]
theorem c109 (pre l : List Tok) (p : Nat) (a b : List UInt8) (hp : pre.length = p) (hb : p + l.length ≤ 100000000) :
 C109 (pre ++ l, (p : Int), a, b, ()) = some (true, pre ++ l, ((p + skn l : Nat) : Int), a, b, ()) := by
 show F109 C146 C109_l0 _ = _
 have hl : C109_l0 (pre ++ l, (p : Int), a, b, ()) = _ := l109 a b l pre p big hp (by unfold big; omega) hb
 simp only [F109, hl, Option.bind_some]
def sgn (s : List UInt8) : List Tok → Bool
 | t :: _ => t.1 == 2 && t.2.1 == s
 | [] => false
theorem c148 (s : List UInt8) (pre l : List Tok) (p : Nat) (a b : List UInt8) (hp : pre.length = p) (hb : p + l.length ≤ 100000000) :
 C148 (s, pre ++ l, (p : Int), a, b, ()) = some (sgn s l, pre ++ l, (p : Int), a, b, ()) := by
 show F148 C146 _ = _
 have h := c146 0 pre l p a b hp (by omega)
 simp only [Int.natCast_zero] at h
 have hlen : (pre ++ l).length = p + l.length := by simp [hp]
 cases l with
 | nil => simp only [F148, h, Option.bind_some, show kd 0 ([] : List Tok) = -1 from rfl, ibF (show (-1 : Int) ≠ 2 by decide), cond_false, sgn]
 | cons t r =>
  simp only [List.length_cons] at hlen hb
  simp only [F148, h, Option.bind_some, kd0_cons]
  by_cases h2 : t.1 = 2
  · simp only [ibT h2, cond_true, hlen, sgn, Bool.true_and]
    rw [decide_eq_true (by omega), decide_eq_true (by omega)]
    simp only [Bool.and_self, cond_true, Int.toNat_natCast, gd hp]
  · simp only [ibF h2, cond_false, sgn, Bool.false_and]
def szT : List Tok → Nat
 | [] => 0
 | t :: r => t.2.1.length + szT r
def dwn (acc : List UInt8) : List Tok → List UInt8 × Nat
 | t :: u :: r => bif (t.1 == 2 && t.2.1 == [46]) && u.1 == 0 then ((dwn (acc ++ ([46] ++ u.2.1)) r).1, (dwn (acc ++ ([46] ++ u.2.1)) r).2 + 2) else (acc, 0)
 | _ => (acc, 0)
theorem l147 (a b : List UInt8) : ∀ (m : Nat) (l pre : List Tok) (acc : List UInt8) (p n : Nat), l.length ≤ m → pre.length = p → l.length < n → p + l.length ≤ 100000000 → acc.length + szT l + l.length ≤ 100000000 →
 loopN (F147_l0 C146 C148) n (acc, pre ++ l, (p : Int), a, b, ()) = some ((dwn acc l).1, pre ++ l, ((p + (dwn acc l).2 : Nat) : Int), a, b, ())
 | m, l, pre, acc, p, n + 1, hm, hp, hn, hb, hz => by
  have h := c148 [46] pre l p a b hp hb
  have hlen : (pre ++ l).length = p + l.length := by simp [hp]
  have hw := wrN p (by omega)
  have h1 := c146 1 pre l p a b hp (by omega)
  simp only [Int.natCast_one] at h1
  match l, hm, hn, hb, hz, h, hlen, h1 with
  | [], hm, hn, hb, hz, h, hlen, h1 =>
   refine loopN_inr ?_
   simp only [F147_l0, h, Option.bind_some, sgn, cond_false, dwn, Nat.add_zero]
  | [t], hm, hn, hb, hz, h, hlen, h1 =>
   refine loopN_inr ?_
   simp only [F147_l0, h, Option.bind_some, sgn]
   cases hs : (t.1 == 2 && t.2.1 == [46]) with
   | false => simp only [cond_false, dwn, Nat.add_zero]
   | true => simp only [cond_true, h1, Option.bind_some, show kd 1 [t] = -1 from rfl, ibF (show (-1 : Int) ≠ 0 by decide), cond_false, dwn, Nat.add_zero]
  | t :: u :: r, hm, hn, hb, hz, h, hlen, h1 =>
   simp only [List.length_cons, szT] at hm hn hb hz hlen
   cases hs : (t.1 == 2 && t.2.1 == [46]) with
   | false =>
    refine loopN_inr ?_
    simp only [F147_l0, h, Option.bind_some, sgn, hs, cond_false, dwn, Bool.false_and, Nat.add_zero]
   | true =>
    by_cases hu : u.1 = 0
    · have hgd : (pre ++ t :: u :: r).getD (p + 1) ((0, ([], 0)) : Tok) = u := by rw [gdk hp]; rfl
      rw [loopN_inl (v' := (acc ++ ([46] ++ u.2.1), pre ++ t :: u :: r, ((p + 2 : Nat) : Int), a, b, ())) ?_]
      · rw [show pre ++ t :: u :: r = (pre ++ [t, u]) ++ r by simp]
        rw [l147 a b (m - 2) r (pre ++ [t, u]) _ (p + 2) n (by omega) (by simp [hp]) (by omega) (by omega) (by simp only [List.length_append, List.length_cons, List.length_nil]; omega)]
        simp only [dwn, hs, ibT hu, Bool.and_self, cond_true]
        rw [show p + 2 + (dwn (acc ++ ([46] ++ u.2.1)) r).2 = p + ((dwn (acc ++ ([46] ++ u.2.1)) r).2 + 2) by omega]
      · simp only [F147_l0, h, Option.bind_some, sgn, hs, cond_true, h1, show kd 1 (t :: u :: r) = u.1 from rfl, ibT hu, hw, hlen, Int.toNat_natCast, hgd]
        rw [decide_eq_true (by omega), decide_eq_true (by omega), decide_eq_true (by simp only [List.length_cons, List.length_nil]; omega), decide_eq_true (by simp only [List.length_append, List.length_cons, List.length_nil]; omega)]
        simp only [Bool.and_self, cond_true]
        rw [show IntKind.i64.wrap ((p : Int) + 2) = ((p + 2 : Nat) : Int) by rw [wr (by omega) (by omega)]; simp]
    · refine loopN_inr ?_
      simp only [F147_l0, h, Option.bind_some, sgn, hs, cond_true, h1, show kd 1 (t :: u :: r) = u.1 from rfl, ibF hu, cond_false, dwn, Bool.and_false, Nat.add_zero]
def dot : List Tok → List UInt8 × Bool × Nat
 | t :: r => bif t.1 == 0 then ((dwn t.2.1 r).1, true, (dwn t.2.1 r).2 + 1) else ([], false, 0)
 | [] => ([], false, 0)
theorem c147 (pre l : List Tok) (p : Nat) (a b : List UInt8) (hp : pre.length = p) (hb : p + l.length ≤ 100000000) (hz : szT l + l.length ≤ 100000000) :
 C147 (pre ++ l, (p : Int), a, b, ()) = some ((dot l).1, (dot l).2.1, pre ++ l, ((p + (dot l).2.2 : Nat) : Int), a, b, ()) := by
 show F147 C146 C148 C147_c0 _ = _
 have h := c146 0 pre l p a b hp (by omega)
 simp only [Int.natCast_zero] at h
 have hlen : (pre ++ l).length = p + l.length := by simp [hp]
 have hw := wrN p (by omega)
 cases l with
 | nil => simp only [F147, h, Option.bind_some, show kd 0 ([] : List Tok) = -1 from rfl, inT (show (-1 : Int) ≠ 0 by decide), cond_true, dot, Nat.add_zero]
 | cons t r =>
  simp only [List.length_cons, szT] at hlen hb hz
  simp only [F147, h, Option.bind_some, kd0_cons]
  by_cases h0 : t.1 = 0
  · have hl : C147_l0 (t.2.1, (pre ++ [t]) ++ r, ((p + 1 : Nat) : Int), a, b, ()) = _ := l147 a b r.length r (pre ++ [t]) t.2.1 (p + 1) big (Nat.le_refl _) (by simp [hp]) (by unfold big; omega) (by omega) (by omega)
    rw [← shift] at hl
    simp only [inF h0, cond_false, hlen, Int.toNat_natCast, gd hp]
    rw [decide_eq_true (by omega), decide_eq_true (by omega)]
    simp only [Bool.and_self, cond_true, C147_c0, F147_c0, hw, hl, Option.bind_some, dot, ibT h0]
    rw [show p + 1 + (dwn t.2.1 r).2 = p + ((dwn t.2.1 r).2 + 1) by omega]
  · simp only [inT h0, cond_true, dot, ibF h0, cond_false, Nat.add_zero]
def loc : List Tok → Bool × List UInt8 × Nat
 | t :: r => bif t.1 == 1 then (true, t.2.1, 1) else ((dot (t :: r)).2.1, (dot (t :: r)).1, (dot (t :: r)).2.2)
 | [] => (false, [], 0)
theorem c110 (pre l : List Tok) (p : Nat) (a b : List UInt8) (hp : pre.length = p) (hb : p + l.length ≤ 100000000) (hz : szT l + l.length ≤ 100000000) :
 C110 (pre ++ l, (p : Int), a, b, ()) = some ((loc l).1, pre ++ l, ((p + (loc l).2.2 : Nat) : Int), (loc l).2.1, b, ()) := by
 show F110 C146 C147 C110_c0 _ = _
 have h := c146 0 pre l p a b hp (by omega)
 have hd := c147 pre l p a b hp hb hz
 simp only [Int.natCast_zero] at h
 have hlen : (pre ++ l).length = p + l.length := by simp [hp]
 have hw := wrN p (by omega)
 cases l with
 | nil => simp only [F110, h, Option.bind_some, show kd 0 ([] : List Tok) = -1 from rfl, ibF (show (-1 : Int) ≠ 1 by decide), cond_false, hd, dot, loc, Nat.add_zero]
 | cons t r =>
  simp only [List.length_cons] at hlen hb
  simp only [F110, h, Option.bind_some, kd0_cons]
  by_cases h1 : t.1 = 1
  · simp only [ibT h1, cond_true, hlen, Int.toNat_natCast, gd hp]
    rw [decide_eq_true (by omega), decide_eq_true (by omega)]
    simp only [Bool.and_self, cond_true, C110_c0, F110_c0, hw, Option.bind_some, loc, ibT h1]
  · simp only [ibF h1, cond_false, hd, Option.bind_some, loc]
theorem c111 (pre l : List Tok) (p : Nat) (a b : List UInt8) (hp : pre.length = p) (hb : p + l.length ≤ 100000000) :
 C111 (pre ++ l, (p : Int), a, b, ()) = some (sgn [64] l, pre ++ l, ((p + 1 : Nat) : Int), a, b, ()) := by
 show F111 C148 _ = _
 simp only [F111, c148 [64] pre l p a b hp hb, Option.bind_some, wrN p (show p ≤ 9223372036854775806 by omega)]
def dom : List Tok → Bool × List UInt8 × Nat
 | t :: r => bif t.1 == 5 then (true, src t.1 t.2.1, 1) else ((dot (t :: r)).2.1, (dot (t :: r)).1, (dot (t :: r)).2.2)
 | [] => (false, [], 0)
theorem c112 (pre l : List Tok) (p : Nat) (a b : List UInt8) (hp : pre.length = p) (hb : p + l.length ≤ 100000000) (hz : szT l + l.length ≤ 3000) :
 C112 (pre ++ l, (p : Int), a, b, ()) = some ((dom l).1, pre ++ l, ((p + (dom l).2.2 : Nat) : Int), a, (dom l).2.1, ()) := by
 show F112 C146 C147 C89 C112_c0 _ = _
 have h := c146 0 pre l p a b hp (by omega)
 have hd := c147 pre l p a b hp hb (by omega)
 simp only [Int.natCast_zero] at h
 have hlen : (pre ++ l).length = p + l.length := by simp [hp]
 have hw := wrN p (by omega)
 cases l with
 | nil => simp only [F112, h, Option.bind_some, show kd 0 ([] : List Tok) = -1 from rfl, ibF (show (-1 : Int) ≠ 5 by decide), cond_false, hd, dot, dom, Nat.add_zero]
 | cons t r =>
  simp only [List.length_cons, szT] at hlen hb hz
  simp only [F112, h, Option.bind_some, kd0_cons]
  by_cases h1 : t.1 = 5
  · simp only [ibT h1, cond_true, hlen, Int.toNat_natCast, gd hp]
    rw [decide_eq_true (by omega), decide_eq_true (by omega), c9 t.1 t.2.1 t.2.2 (by omega)]
    simp only [Bool.and_self, cond_true, C112_c0, F112_c0, hw, Option.bind_some, dom, ibT h1]
  · simp only [ibF h1, cond_false, hd, Option.bind_some, dom]
theorem szT_drop : ∀ (p : Nat) (l : List Tok), szT (l.drop p) ≤ szT l
 | 0, l => Nat.le_refl _
 | p + 1, [] => Nat.le_refl _
 | p + 1, t :: r => Nat.le_trans (szT_drop p r) (by simp only [szT]; omega)
theorem o109 (l : List Tok) (p : Nat) (a b : List UInt8) (hp : p ≤ l.length) (hb : l.length ≤ 3000) :
 C109 (l, (p : Int), a, b, ()) = some (true, l, ((p + skn (l.drop p) : Nat) : Int), a, b, ()) := by
 have h := c109 (l.take p) (l.drop p) p a b (by simp; omega) (by simp; omega)
 rwa [List.take_append_drop] at h
theorem o110 (l : List Tok) (p : Nat) (a b : List UInt8) (hp : p ≤ l.length) (hb : szT l + l.length ≤ 3000) :
 C110 (l, (p : Int), a, b, ()) = some ((loc (l.drop p)).1, l, ((p + (loc (l.drop p)).2.2 : Nat) : Int), (loc (l.drop p)).2.1, b, ()) := by
 have hs := szT_drop p l
 have h := c110 (l.take p) (l.drop p) p a b (by simp; omega) (by simp; omega) (by simp; omega)
 rwa [List.take_append_drop] at h
theorem o111 (l : List Tok) (p : Nat) (a b : List UInt8) (hp : p ≤ l.length) (hb : l.length ≤ 3000) :
 C111 (l, (p : Int), a, b, ()) = some (sgn [64] (l.drop p), l, ((p + 1 : Nat) : Int), a, b, ()) := by
 have h := c111 (l.take p) (l.drop p) p a b (by simp; omega) (by simp; omega)
 rwa [List.take_append_drop] at h
theorem o112 (l : List Tok) (p : Nat) (a b : List UInt8) (hp : p ≤ l.length) (hb : szT l + l.length ≤ 3000) :
 C112 (l, (p : Int), a, b, ()) = some ((dom (l.drop p)).1, l, ((p + (dom (l.drop p)).2.2 : Nat) : Int), a, (dom (l.drop p)).2.1, ()) := by
 have hs := szT_drop p l
 have h := c112 (l.take p) (l.drop p) p a b (by simp; omega) (by simp; omega) (by simp; omega)
 rwa [List.take_append_drop] at h
theorem dwn_le : ∀ (m : Nat) (l : List Tok) (acc : List UInt8), l.length ≤ m → (dwn acc l).2 ≤ l.length
 | _, [], _, _ => Nat.le_refl _
 | _, [_], _, _ => Nat.zero_le _
 | 0, _ :: _ :: _, _, h => by simp at h
 | m + 1, t :: u :: r, acc, h => by
  have := dwn_le m r (acc ++ ([46] ++ u.2.1)) (by simp at h; omega)
  simp only [dwn]
  cases ((t.1 == 2 && t.2.1 == [46]) && u.1 == 0) with
  | true => simp only [cond_true, List.length_cons]; omega
  | false => simp only [cond_false]; omega
theorem dot_le (l : List Tok) : (dot l).2.2 ≤ l.length := by
 cases l with
 | nil => exact Nat.le_refl _
 | cons t r =>
  have := dwn_le r.length r t.2.1 (Nat.le_refl _)
  simp only [dot]
  cases (t.1 == 0) with
  | true => simp only [cond_true, List.length_cons]; omega
  | false => simp only [cond_false]; omega
theorem loc_le (l : List Tok) : (loc l).2.2 ≤ l.length := by
 cases l with
 | nil => exact Nat.le_refl _
 | cons t r =>
  have := dot_le (t :: r)
  simp only [loc]
  cases (t.1 == 1) with
  | true => simp
  | false => simpa using this
theorem dom_le (l : List Tok) : (dom l).2.2 ≤ l.length := by
 cases l with
 | nil => exact Nat.le_refl _
 | cons t r =>
  have := dot_le (t :: r)
  simp only [dom]
  cases (t.1 == 5) with
  | true => simp
  | false => simpa using this
def mt (l : List Tok) : Option (List UInt8 × List UInt8 × Nat) :=
 let n1 := skn l
 let n2 := n1 + (loc (l.drop n1)).2.2
 let n3 := n2 + skn (l.drop n2)
 let n5 := n3 + 1 + skn (l.drop (n3 + 1))
 let n6 := n5 + (dom (l.drop n5)).2.2
 bif !(loc (l.drop n1)).1 then none else bif !sgn [64] (l.drop n3) then none else bif !(dom (l.drop n5)).1 then none else
 some ((loc (l.drop n1)).2.1, (dom (l.drop n5)).2.1, n6 + skn (l.drop n6))
theorem sgn_pos {s : List UInt8} {l : List Tok} (h : sgn s l = true) : 1 ≤ l.length := by
 cases l with
 | nil => cases h
 | cons t r => simp
theorem c71 (l : List Tok) (hb : szT l + l.length ≤ 3000) :
 C71 (l, ()) = some (match mt l with | some r => (r.1, r.2.1, (r.2.2 : Int), true, ()) | none => ([], [], 0, false, ())) := by
 show F71 C109 C110 C111 C112 _ = _
 have h1 := o109 l 0 [] [] (Nat.zero_le _) (by omega)
 simp only [Int.natCast_zero, List.drop_zero, Nat.zero_add] at h1
 have b1 := skn_le l
 have h2 := o110 l (skn l) [] [] b1 hb
 have b2 := loc_le (l.drop (skn l))
 rw [List.length_drop] at b2
 simp only [F71, h1, h2, Option.bind_some, Bool.not_true, cond_false, mt]
 cases hl : (loc (l.drop (skn l))).1 with
 | false => simp only [Bool.not_false, cond_true]
 | true =>
  simp only [Bool.not_true, cond_false]
  generalize hn2 : skn l + (loc (l.drop (skn l))).2.2 = n2
  have b3 : n2 ≤ l.length := by omega
  generalize (loc (l.drop (skn l))).2.1 = A
  rw [o109 l n2 A [] b3 (by omega)]
  have b4 := skn_le (l.drop n2)
  rw [List.length_drop] at b4
  simp only [Option.bind_some, Bool.not_true, cond_false]
  generalize hn3 : n2 + skn (l.drop n2) = n3
  rw [o111 l n3 A [] (by omega) (by omega)]
  simp only [Option.bind_some]
  cases hs : sgn [64] (l.drop n3) with
  | false => simp only [Bool.not_false, cond_true]
  | true =>
   have b5 := sgn_pos hs
   rw [List.length_drop] at b5
   simp only [Bool.not_true, cond_false]
   rw [o109 l (n3 + 1) A [] (by omega) (by omega)]
   have b6 := skn_le (l.drop (n3 + 1))
   rw [List.length_drop] at b6
   simp only [Option.bind_some, Bool.not_true, cond_false]
   generalize hn5 : n3 + 1 + skn (l.drop (n3 + 1)) = n5
   rw [o112 l n5 A [] (by omega) hb]
   have b7 := dom_le (l.drop n5)
   rw [List.length_drop] at b7
   simp only [Option.bind_some]
   cases hd : (dom (l.drop n5)).1 with
   | false => simp only [Bool.not_false, cond_true]
   | true =>
    simp only [Bool.not_true, cond_false]
    rw [o109 l _ A _ (by omega) (by omega)]
    simp only [Option.bind_some, Bool.not_true, cond_false]
theorem mt_le (l : List Tok) {r : List UInt8 × List UInt8 × Nat} (h : mt l = some r) : r.2.2 ≤ l.length := by
 unfold mt at h
 simp only at h
 have b1 := skn_le l
 have b2 := loc_le (l.drop (skn l))
 rw [List.length_drop] at b2
 cases hl : (loc (l.drop (skn l))).1 with
 | false => simp only [hl, Bool.not_false, cond_true] at h; cases h
 | true =>
  simp only [hl, Bool.not_true, cond_false] at h
  generalize hn2 : skn l + (loc (l.drop (skn l))).2.2 = n2 at h
  have b4 := skn_le (l.drop n2)
  rw [List.length_drop] at b4
  generalize hn3 : n2 + skn (l.drop n2) = n3 at h
  cases hs : sgn [64] (l.drop n3) with
  | false => simp only [hs, Bool.not_false, cond_true] at h; cases h
  | true =>
   simp only [hs, Bool.not_true, cond_false] at h
   have b5 := sgn_pos hs
   rw [List.length_drop] at b5
   have b6 := skn_le (l.drop (n3 + 1))
   rw [List.length_drop] at b6
   generalize hn5 : n3 + 1 + skn (l.drop (n3 + 1)) = n5 at h
   have b7 := dom_le (l.drop n5)
   rw [List.length_drop] at b7
   cases hd : (dom (l.drop n5)).1 with
   | false => simp only [hd, Bool.not_false, cond_true] at h; cases h
   | true =>
    simp only [hd, Bool.not_true, cond_false] at h
    cases h
    have b8 := skn_le (l.drop (n5 + (dom (l.drop n5)).2.2))
    rw [List.length_drop] at b8
    simp only
    omega
theorem c143 (l : List Tok) (p : Nat) (hp : p ≤ l.length) (hb : szT l + l.length ≤ 3000) :
 C143 (l, (p : Int), ()) = some (match mt (l.drop p) with | some r => (r.1, r.2.1, true, l, ((p + r.2.2 : Nat) : Int), ()) | none => ([], [], false, l, (p : Int), ())) := by
 show F143 C71 C143_c0 _ = _
 have hs := szT_drop p l
 have h := c71 (l.drop p) (by rw [List.length_drop]; omega)
 simp only [F143, Int.toNat_natCast, h, Option.bind_some]
 rw [decide_eq_true (by omega), decide_eq_true (by omega)]
 simp only [Bool.and_self, cond_true]
 cases hm : mt (l.drop p) with
 | none => simp only [C143_c0, F143_c0, Option.bind_some]; rw [show IntKind.i64.wrap ((p : Int) + 0) = (p : Int) by rw [wr (by omega) (by omega)]; simp]
 | some r =>
  have hr := mt_le _ hm
  rw [List.length_drop] at hr
  simp only [C143_c0, F143_c0, Option.bind_some]
  rw [show IntKind.i64.wrap ((p : Int) + (r.2.2 : Int)) = ((p + r.2.2 : Nat) : Int) by rw [wr (by omega) (by omega)]; simp]
theorem l175 (x : Int) : ∀ (r pre : List Int) (p n N : Nat), pre.length = p → N = p + r.length → r.length < n → N ≤ 100000 →
 (loopN F175_l0 n (pre ++ r, x, (N : Int), (p : Int), ())).map (fun y => decide ((Sum.elim (fun _ => (-1 : Int)) (fun v => v.1) y) ≥ 0)) = some (r.any fun y => x == y)
 | [], pre, p, n + 1, N, hp, hN, hn, hb => by
  rw [loopN_inr (show F175_l0 (pre ++ [], x, (N : Int), (p : Int), ()) = some (.inr (.inl ())) by
   simp only [F175_l0]; rw [decide_eq_false (by simp at hN; omega)]; rfl)]
  rfl
 | y :: r, pre, p, n + 1, N, hp, hN, hn, hb => by
  simp only [List.length_cons] at hN hn
  have hlen : (pre ++ y :: r).length = N := by simp [hp]; omega
  by_cases h : x = y
  · rw [loopN_inr (show F175_l0 (pre ++ y :: r, x, (N : Int), (p : Int), ()) = some (.inr (.inr ((p : Int), ()))) by
     simp only [F175_l0, hlen, Int.toNat_natCast, gd hp]
     rw [decide_eq_true (by omega), decide_eq_true (by omega), ibT h]; rfl)]
    simp [h]
  · rw [loopN_inl (v' := (pre ++ y :: r, x, (N : Int), ((p + 1 : Nat) : Int), ())) (by
     simp only [F175_l0, hlen, Int.toNat_natCast, gd hp]
     rw [decide_eq_true (by omega), decide_eq_true (by omega), ibF h, wrN p (by omega)]; rfl)]
    rw [shift, l175 x r (pre ++ [y]) (p + 1) n N (by simp [hp]) (by omega) (by omega) hb]
    simp [h]
theorem c142 (ks : List Int) (x : Int) (hb : ks.length ≤ 100000) : C142 (ks, x, ()) = some (ks.any fun y => x == y, ()) := by
 show F142 C175 _ = _
 have h := l175 x ks [] 0 big ks.length rfl (by simp) (by unfold big; omega) hb
 have h' : (C175_l0 (ks, x, (ks.length : Int), 0, ())).map (fun y => decide ((Sum.elim (fun _ => (-1 : Int)) (fun v => v.1) y) ≥ 0)) = some (ks.any fun y => x == y) := h
 obtain ⟨y, hy, hd⟩ := Option.map_eq_some_iff.1 h'
 have h175 : C175 (ks, x, ()) = some (Sum.elim (fun _ => (-1 : Int)) (fun v => v.1) y, ()) := by
  show F175 C175_l0 _ = _
  simp only [F175, hy, Option.bind_some]
  cases y <;> rfl
 simp only [F142, h175, Option.bind_some, hd]
def isK (ks : List Int) (l : List Tok) (p : Nat) : Bool := match l[p]? with | some t => ks.any fun y => t.1 == y | none => false
theorem c106 (ks : List Int) (l : List Tok) (p : Nat) (hk : ks.length ≤ 100000) : C106 (ks, l, (p : Int), ()) = some (isK ks l p, l, (p : Int), ()) := by
 show F106 C142 _ = _
 simp only [F106]
 by_cases h : p < l.length
 · rw [decide_eq_true (by omega), decide_eq_true (by omega)]
   simp only [Bool.and_self, cond_true, Int.toNat_natCast, getD_lt h, c142 ks _ hk, Option.bind_some, isK, List.getElem?_eq_getElem h]
 · rw [decide_eq_false (by omega)]
   simp only [cond_false, isK, List.getElem?_eq_none (show l.length ≤ p by omega)]
def isS (s : List UInt8) (l : List Tok) (p : Nat) : Bool := match l[p]? with | some t => t.1 == 2 && t.2.1 == s | none => false
theorem c68 (s : List UInt8) (l : List Tok) (p : Nat) (hb : p ≤ 100000) : C68 (s, l, (p : Int), ()) = some (isS s l p, l, ((p + (bif isS s l p then 1 else 0) : Nat) : Int), ()) := by
 show F68 C106 C68_c0 _ = _
 simp only [F68, c106 [2] l p (by simp), Option.bind_some, isS]
 cases hp : l[p]? with
 | none => simp only [isK, hp, Bool.not_false, cond_true, cond_false, Nat.add_zero]
 | some t =>
  obtain ⟨hlt, ht⟩ := List.getElem?_eq_some_iff.1 hp
  by_cases h2 : t.1 = 2
  · have hk : isK [2] l p = true := by simp [isK, hp, h2]
    simp only [hk, Bool.not_true, cond_false, Int.toNat_natCast, getD_lt hlt, ht, ibT h2, Bool.true_and]
    rw [decide_eq_true (by omega), decide_eq_true (by omega)]
    simp only [Bool.and_self, cond_true]
    cases (t.2.1 == s) with
    | false => simp only [Bool.not_false, cond_true, cond_false, Nat.add_zero]
    | true => simp only [Bool.not_true, cond_false, cond_true, C68_c0, F68_c0, wrN p (by omega), Option.bind_some]
  · have hk : isK [2] l p = false := by simp [isK, hp, h2]
    simp only [hk, Bool.not_false, cond_true, ibF h2, Bool.false_and, cond_false, Nat.add_zero]
theorem l145 (l : List Tok) : ∀ (m p n : Nat), l.length - p ≤ m → l.length - p < n → p ≤ 100000 → l.length ≤ 100000 → 
 loopN (F145_l0 C106) n (l, (p : Int), ()) = some (l, ((p + skn (l.drop p) : Nat) : Int), ())
 | m, p, n + 1, hm, hn, hb, hl => by
  have h := c106 [4, 3] l p (by simp)
  by_cases hp : p < l.length
  · rw [List.drop_eq_getElem_cons hp]
    have hk : isK [4, 3] l p = (l[p].1 == 4 || l[p].1 == 3) := by simp [isK, List.getElem?_eq_getElem hp]
    cases hc : (l[p].1 == 4 || l[p].1 == 3) with
    | true =>
     rw [loopN_inl (v' := (l, ((p + 1 : Nat) : Int), ())) (by simp only [F145_l0, h, Option.bind_some, hk, hc, cond_true, wrN p (by omega)])]
     rw [l145 l (m - 1) (p + 1) n (by omega) (by omega) (by omega) hl]
     simp only [skn, hc, cond_true, Nat.add_assoc, Nat.add_comm 1]
    | false =>
     refine loopN_inr ?_
     simp only [F145_l0, h, Option.bind_some, hk, hc, cond_false, skn, Nat.add_zero]
  · refine loopN_inr ?_
    have hk : isK [4, 3] l p = false := by simp [isK, List.getElem?_eq_none (show l.length ≤ p by omega)]
    simp only [F145_l0, h, Option.bind_some, hk, cond_false, List.drop_of_length_le (show l.length ≤ p by omega), skn, Nat.add_zero]
theorem c145 (l : List Tok) (p : Nat) (hp : p ≤ 100000) (hl : l.length ≤ 100000) : C145 (l, (p : Int), ()) = some (l, ((p + skn (l.drop p) : Nat) : Int), ()) := by
 show F145 C106 C145_l0 _ = _
 have h : C145_l0 (l, (p : Int), ()) = _ := l145 l l.length p big (by omega) (by unfold big; omega) hp hl
 simp only [F145, h, Option.bind_some]
def phw : Nat → List Tok → List (List UInt8) × Nat
 | 0, _ => ([], 0)
 | m + 1, l => match l with
  | [] => ([], 0)
  | t :: r => bif t.1 == 0 || t.1 == 1 then (t.2.1 :: (phw m (r.drop (skn r))).1, 1 + skn r + (phw m (r.drop (skn r))).2) else ([], 0)
theorem l144 (l : List Tok) (hl : l.length ≤ 3000) : ∀ (m p n : Nat) (ws : List (List UInt8)), l.length - p ≤ m → m < n → p ≤ l.length → ws.length + m ≤ 100000 →
 loopN (F144_l0 C106 C145 C73 C144_c0) n (l, (p : Int), ws, ()) = some (l, ((p + (phw m (l.drop p)).2 : Nat) : Int), ws ++ (phw m (l.drop p)).1, ())
 | m, p, n + 1, ws, hm, hn, hp, hw => by
  have h := c106 [0, 1] l p (by simp)
  by_cases hlt : p < l.length
  · obtain ⟨k, rfl⟩ : ∃ k, m = k + 1 := ⟨m - 1, by omega⟩
    rw [List.drop_eq_getElem_cons hlt]
    have hk : isK [0, 1] l p = (l[p].1 == 0 || l[p].1 == 1) := by simp [isK, List.getElem?_eq_getElem hlt]
    cases hc : (l[p].1 == 0 || l[p].1 == 1) with
    | true =>
     have h145 := c145 l (p + 1) (by omega) (by omega)
     have hb := skn_le (l.drop (p + 1))
     rw [List.length_drop] at hb
     rw [loopN_inl (v' := (l, ((p + 1 + skn (l.drop (p + 1)) : Nat) : Int), ws ++ [l[p].2.1], ())) ?_]
     · rw [l144 l hl k (p + 1 + skn (l.drop (p + 1))) n (ws ++ [l[p].2.1]) (by omega) (by omega) (by omega) (by simp; omega)]
       simp only [phw, hc, cond_true, List.drop_drop, List.append_assoc, List.cons_append, List.nil_append]
       rw [show p + 1 + skn (l.drop (p + 1)) + (phw k (l.drop (p + 1 + skn (l.drop (p + 1))))).2 = p + (1 + skn (l.drop (p + 1)) + (phw k (l.drop (p + 1 + skn (l.drop (p + 1))))).2) by omega]
     · simp only [F144_l0, h, Option.bind_some, hk, hc, cond_true, Int.toNat_natCast, getD_lt hlt]
       rw [decide_eq_true (by omega), decide_eq_true (by omega), decide_eq_true (by simp only [List.length_cons, List.length_nil]; omega)]
       simp only [Bool.and_self, cond_true, C144_c0, F144_c0, wrN p (by omega), Option.bind_some, h145]
    | false =>
     refine loopN_inr ?_
     simp only [F144_l0, h, Option.bind_some, hk, hc, cond_false, phw, Nat.add_zero, List.append_nil]
  · refine loopN_inr ?_
    have hk : isK [0, 1] l p = false := by simp [isK, List.getElem?_eq_none (show l.length ≤ p by omega)]
    have he : phw m ([] : List Tok) = ([], 0) := by cases m <;> rfl
    simp only [F144_l0, h, Option.bind_some, hk, cond_false, List.drop_of_length_le (show l.length ≤ p by omega), he, Nat.add_zero, List.append_nil]
theorem phw_sz : ∀ (m : Nat) (l : List Tok), Lib.lens (phw m l).1 ≤ szT l ∧ (phw m l).1.length ≤ l.length ∧ (phw m l).2 ≤ l.length
 | 0, _ => ⟨Nat.zero_le _, Nat.zero_le _, Nat.zero_le _⟩
 | m + 1, [] => ⟨Nat.zero_le _, Nat.zero_le _, Nat.zero_le _⟩
 | m + 1, t :: r => by
  have h1 := phw_sz m (r.drop (skn r))
  have h2 := szT_drop (skn r) r
  have h3 := skn_le r
  rw [List.length_drop] at h1
  simp only [phw, szT]
  cases (t.1 == 0 || t.1 == 1) with
  | true => simp only [cond_true, Lib.lens, List.length_cons, List.map_cons, List.sum_cons] at h1 ⊢; omega
  | false => simp [Lib.lens]
def phr (l : List Tok) (p : Nat) : List UInt8 × Bool × Nat :=
 (Lib.join (phw l.length (l.drop (p + skn (l.drop p)))).1 [32], decide (0 < (phw l.length (l.drop (p + skn (l.drop p)))).1.length), p + skn (l.drop p) + (phw l.length (l.drop (p + skn (l.drop p)))).2)
theorem c144 (l : List Tok) (p : Nat) (hp : p ≤ l.length) (hb : szT l + l.length ≤ 3000) :
 C144 (l, (p : Int), ()) = some ((phr l p).1, (phr l p).2.1, l, ((phr l p).2.2 : Int), ()) := by
 show F144 C106 C145 C73 C144_l0 _ = _
 have b1 := skn_le (l.drop p)
 rw [List.length_drop] at b1
 have h1 := c145 l p (by omega) (by omega)
 have h2 : C144_l0 (l, ((p + skn (l.drop p) : Nat) : Int), [], ()) = _ := l144 l (by omega) l.length (p + skn (l.drop p)) big [] (by omega) (by unfold big; omega) (by omega) (by simp; omega)
 simp only [F144, h1, Option.bind_some, h2, List.nil_append, phr]
 have hz := phw_sz l.length (l.drop (p + skn (l.drop p)))
 have hs := szT_drop (p + skn (l.drop p)) l
 rw [List.length_drop] at hz
 generalize phw l.length (l.drop (p + skn (l.drop p))) = W at hz ⊢
 have hj : (Lib.join W.1 [32]).length ≤ 100000 := by
  cases hw : W.1 with
  | nil => exact Nat.zero_le _
  | cons x r =>
   rw [Lib.join_length]
   rw [hw] at hz
   simp only [List.length_cons, List.length_nil] at hz ⊢
   omega
 have hc : C73 (W.1, [32], ()) = some (Lib.join W.1 [32], ()) := by
  show joinF _ = _
  unfold joinF
  simp only
  rw [decide_eq_true (by omega), decide_eq_true (by omega)]
  rfl
 simp only [hc, Option.bind_some]
 congr 2
 simp
def Df {α : Type} (x : Option α) (Q : α → Prop) : Prop := ∃ y, x = some y ∧ Q y
section
variable {α β γ : Type} {Q : α → Prop}
theorem dP {y : α} (h : Q y) : Df (some y) Q := ⟨y, rfl, h⟩
theorem dO (h : False) : Df (none : Option α) Q := h.elim
theorem dZ {x : Option β} {f : β → Option α} {P : β → Prop} (h : Df x P) (hf : ∀ a, P a → Df (f a) Q) : Df (x.bind f) Q := by
 obtain ⟨a, rfl, ha⟩ := h
 exact hf a ha
theorem Df.mono {x : Option α} {P : α → Prop} (h : Df x P) (hf : ∀ a, P a → Q a) : Df x Q := by
 obtain ⟨a, e, ha⟩ := h
 exact ⟨a, e, hf a ha⟩
theorem Df.and {x : Option α} {P P' : α → Prop} (h : Df x P) (h' : Df x P') : Df x fun y => P y ∧ P' y := by
 obtain ⟨a, e, ha⟩ := h
 obtain ⟨b, e', hb⟩ := h'
 rw [e] at e'
 cases e'
 exact ⟨a, e, ha, hb⟩
theorem dB {b : Bool} {x y : Option α} (h1 : b = true → Df x Q) (h2 : b = false → Df y Q) : Df (bif b then x else y) Q := by
 cases b
 · exact h2 rfl
 · exact h1 rfl
theorem dH {b : Bool} {x y : Option α} (h1 : b = false → Df x Q) (h2 : b = true → Df y Q) : Df (bif !b then x else y) Q := by
 cases b
 · exact h1 rfl
 · exact h2 rfl
theorem dD {p : Prop} {dp : Decidable p} {x y : Option α} (h1 : p → Df x Q) (h2 : ¬ p → Df y Q) : Df (bif decide p then x else y) Q := by
 by_cases h : p
 · rw [decide_eq_true h]; exact h1 h
 · rw [decide_eq_false h]; exact h2 h
theorem dG {a b : Int} {x y : Option α} (h1 : a = b → Df x Q) (h2 : a ≠ b → Df y Q) : Df (bif a == b then x else y) Q := by
 by_cases h : a = b
 · rw [ibT h]; exact h1 h
 · rw [ibF h]; exact h2 h
class Rd (b : Bool) (p q : outParam Prop) : Prop where
 t : b = true → p
 f : b = false → q
instance (priority := low) (b : Bool) : Rd b (b = true) (b = false) := ⟨id, id⟩
instance (b : Bool) : Rd (!b) (b = false) (b = true) := ⟨fun h => by cases b <;> simp_all, fun h => by cases b <;> simp_all⟩
instance (p : Prop) [Decidable p] : Rd (decide p) p (¬ p) := ⟨of_decide_eq_true, of_decide_eq_false⟩
instance (p : Prop) [Decidable p] : Rd (!decide p) (¬ p) p := ⟨fun h => by simpa using h, fun h => by simpa using h⟩
instance (p q : Prop) [Decidable p] [Decidable q] : Rd (decide p && decide q) (p ∧ q) (¬ (p ∧ q)) := ⟨fun h => by simpa using h, fun h => by simpa using h⟩
instance (a b : Int) : Rd (a == b) (a = b) (a ≠ b) := ⟨fun h => by simpa using h, fun h => by simpa using h⟩
instance (a b : Int) : Rd (a != b) (a ≠ b) (a = b) := ⟨fun h => by simpa using h, fun h => by simpa using h⟩
theorem dX {b : Bool} {p q : Prop} [r : Rd b p q] {x y : Option α} (h1 : p → Df x Q) (h2 : q → Df y Q) : Df (bif b then x else y) Q := by
 have h : b = true ∨ b = false := by cases b <;> simp
 rcases h with h | h
 · rw [h]; exact h1 (r.t h)
 · rw [h]; exact h2 (r.f h)
theorem dS {f : β → Option α} {g : γ → Option α} {s : β ⊕ γ} {P : β → Prop} {P' : γ → Prop} (hs : Sum.elim P P' s) (h1 : ∀ a, P a → Df (f a) Q) (h2 : ∀ b, P' b → Df (g b) Q) : Df (Sum.elim f g s) Q := by
 cases s with
 | inl a => exact h1 a hs
 | inr b => exact h2 b hs
theorem Df.loop {F : β → Option (β ⊕ α)} (I : β → Prop) (μ : β → Nat) (h : ∀ v, I v → Df (F v) (Sum.elim (fun v' => I v' ∧ μ v' < μ v) Q)) (n : Nat) (v : β) (hv : I v) (hn : μ v < n) : Df (loopN F n v) Q := by
 refine loopN_of I Q μ (fun v hv => ?_) n v hv hn
 obtain ⟨y, e, hy⟩ := h v hv
 cases y with
 | inl v' => exact .inl ⟨v', e, hy.1, hy.2⟩
 | inr y => exact .inr ⟨y, e, hy⟩
theorem dL {F : β → Option (β ⊕ α)} (I : β → Prop) (μ : β → Nat) (h : ∀ v, I v → Df (F v) (Sum.elim (fun v' => I v' ∧ μ v' < μ v) Q)) (v : β) (hv : I v) (hn : μ v < 1000000000000000000) : Df (loopN F big v) Q :=
 Df.loop I μ h big v hv (by unfold big; omega)
end
theorem w64' (n : Int) : IntKind.i64.wrap n = (n + 9223372036854775808) % 18446744073709551616 - 9223372036854775808 := by rw [IntKind.wrap_i64]
theorem w32' (n : Int) : IntKind.i32.wrap n = (n + 2147483648) % 4294967296 - 2147483648 := by
 simp [IntKind.wrap, IntKind.bits, IntKind.signed]
 split <;> omega
theorem wu64' (n : Int) : IntKind.u64.wrap n = n % 18446744073709551616 := IntKind.wrap_u64 n
theorem w64s {n : Int} (h : -9000000000000000000 ≤ n ∧ n ≤ 9000000000000000000) : IntKind.i64.wrap n = n := by rw [w64']; omega
theorem w32s {n : Int} (h : -2000000000 ≤ n ∧ n ≤ 2000000000) : IntKind.i32.wrap n = n := by rw [w32']; omega
theorem mid2 {a b : Int} (ha : 0 ≤ a) (hb : 0 ≤ b) (h : a + b ≤ 9000000000000000000) : IntKind.i64.wrap ((IntKind.u64.wrap (IntKind.i64.wrap (a + b))).fdiv (2 ^ min 1 IntKind.u64.bits)) = (a + b) / 2 := by
 rw [w64s (n := a + b) (by omega), wu64', show (2 : Int) ^ min 1 IntKind.u64.bits = 2 from rfl, Int.fdiv_eq_ediv_of_nonneg _ (by omega), w64s (by omega)]
 omega
theorem decR_pos (s : List UInt8) (p : Nat) : 1 ≤ (decR s p).2 := by
 unfold decR Utf8.decode
 dsimp only
 repeat' split
 all_goals (first | omega | (dsimp only; omega))
theorem d155 (x : Int) : Df (C155 (x, ())) (fun y => y.1 = true → 0 ≤ x ∧ x ≤ 1114111) := by
 show Df (F155 _) _
 unfold F155
 dsimp only
 with_reducible repeat' (first | apply dP | apply dX <;> intro _)
 all_goals (dsimp only; intro h'; first | omega | cases h')
theorem d122 (x : Int) : Df (C122 (x, ())) (fun y => 0 ≤ y.1 ∧ y.1 ≤ 4) := by
 show Df (F122 C155 _) _
 unfold F122
 dsimp only
 refine dZ (d155 x) ?_
 rintro ⟨b, u⟩ hb
 dsimp only
 with_reducible repeat' (first | apply dP | apply dX <;> intro _)
 all_goals (first | omega | (dsimp only; omega))
theorem d121_0 (x : Int) (b : Bool) : Df (C121_c0 (x, b, ())) (Sum.elim (fun y => 0 ≤ y.1 ∧ y.1 ≤ 3) (fun _ => True)) := by
 show Df (F121_c0 _) _
 unfold F121_c0
 dsimp only
 with_reducible repeat' (first | apply dP | apply dX <;> intro _)
 all_goals (first | trivial | exact ⟨by first | omega | (dsimp only; omega), by first | omega | (dsimp only; omega)⟩)
theorem d121_1 (x : Int) (b : Bool) : Df (C121_c1 (x, b, ())) (Sum.elim (fun y => 0 ≤ y.1 ∧ y.1 ≤ 3) (fun _ => True)) := by
 show Df (F121_c1 C121_c0 _) _
 unfold F121_c1
 dsimp only
 with_reducible repeat' (first | apply dP | apply dX <;> intro _)
 all_goals (first | trivial | exact ⟨by first | omega | (dsimp only; omega), by first | omega | (dsimp only; omega)⟩ | (refine dZ (d121_0 _ _) ?_; intro s hs; exact dS hs (fun a ha => dP ha) (fun _ _ => dP trivial)))
theorem d121 (x : Int) : Df (C121 (x, ())) (fun y => -1 ≤ y.1 ∧ y.1 ≤ 3) := by
 show Df (F121 C121_c1 _) _
 unfold F121
 dsimp only
 with_reducible repeat' (first | apply dP | apply dX <;> intro _)
 all_goals (first | (first | omega | (dsimp only; omega)) | (refine dZ (d121_1 _ _) ?_; intro s hs; exact dS hs (fun a ha => dP ⟨by have := ha.1; dsimp only; omega, ha.2⟩) (fun _ _ => dP (by first | omega | (dsimp only; omega)))))
theorem d83_0 (s : List UInt8) (n r at_ k : Int) (o : List Int) (h : 0 ≤ at_) (hn : 0 ≤ n ∧ n ≤ 3) (hl : at_ + n < s.length) (hk : at_ + 1 ≤ k) (hb : s.length ≤ 1000000000000) :
 Df (C83_l0 (s, n, r, at_, k, o, ())) (Sum.elim (fun y => y.1 = s ∧ y.2.1 = n ∧ y.2.2.2.1 = at_ ∧ y.2.2.2.2.1 = o) (fun y => y.1 = at_ ∧ y.2.1 = o)) := by
 refine dL ?I ?m ?h _ ?hv ?hn
 case I => exact (fun v => v.1 = s ∧ v.2.1 = n ∧ v.2.2.2.1 = at_ ∧ v.2.2.2.2.2.1 = o ∧ at_ + 1 ≤ v.2.2.2.2.1)
 case m => exact (fun v => (at_ + n + 1 - v.2.2.2.2.1).toNat)
 case hv => exact ⟨rfl, rfl, rfl, rfl, hk⟩
 case hn => exact (by first | omega | (dsimp only; omega))
 rintro ⟨x0, x1, x2, x3, x4, x5, u⟩ hI
 dsimp only at hI
 obtain ⟨rfl, rfl, rfl, rfl, hI⟩ := hI
 unfold F83_l0
 dsimp only
 rw [w64s (n := x3 + x1) (by omega)]
 with_reducible repeat' (first | apply dP | apply dX <;> intro _)
 · exact ⟨rfl, rfl⟩
 · rw [w64s (by omega)]
   exact ⟨⟨rfl, rfl, rfl, rfl, by first | omega | (dsimp only; omega)⟩, by first | omega | (dsimp only; omega)⟩
 · refine dO ?_; omega
 · refine dO ?_; omega
 · exact ⟨rfl, rfl, rfl, rfl⟩
theorem d83 (s : List UInt8) (hb : s.length ≤ 1000000000000) : Df (C83 (s, ())) (fun y => y.1.length ≤ s.length ∧ (y.2.1 = -1 ∨ 0 ≤ y.2.1 ∧ y.2.1 < s.length) ∧ (y.2.1 < 0 → 0 < s.length → 0 < y.1.length)) := by
 show Df (F83 C121 C122 C83_g0 C83_l1 _) _
 unfold F83
 dsimp only
 refine dZ (P := Sum.elim (fun y => y.1.length ≤ s.length ∧ (0 < s.length → 0 < y.1.length)) (fun y => y.2.1.length ≤ s.length ∧ 0 ≤ y.1 ∧ y.1 < s.length)) ?_ ?_
 · refine dL ?I ?m ?h _ ?hv ?hn
   case I => exact (fun v => v.1 = s ∧ 0 ≤ v.2.1 ∧ v.2.1 ≤ s.length ∧ v.2.2.1.length ≤ v.2.1 ∧ (0 < v.2.1 → 0 < v.2.2.1.length))
   case m => exact (fun v => (s.length - v.2.1).toNat)
   case hv => exact ⟨rfl, by first | omega | (dsimp only; omega), by first | omega | (dsimp only; omega), by simp, by simp⟩
   case hn => exact (by first | omega | (dsimp only; omega))
   rintro ⟨x0, x1, x2, u⟩ hI
   dsimp only at hI
   obtain ⟨rfl, h0, h1, h2, h2'⟩ := hI
   unfold F83_l1
   dsimp only
   with_reducible repeat' (first | apply dP | apply dX <;> intro _)
   · refine dZ (d121 _) ?_
     rintro ⟨n, r, u⟩ hn
     dsimp only at hn ⊢
     rw [w64s (n := (x0.length : Int) - x1) (by omega)]
     with_reducible repeat' (first | apply dP | apply dX <;> intro _)
     · exact ⟨by first | omega | (dsimp only; omega), by first | omega | (dsimp only; omega), by first | omega | (dsimp only; omega)⟩
     · exact ⟨by first | omega | (dsimp only; omega), by first | omega | (dsimp only; omega), by first | omega | (dsimp only; omega)⟩
     · rw [w64s (n := x1 + 1) (by omega)]
       refine dZ (d83_0 x0 n r x1 (x1 + 1) x2 h0 (by omega) (by omega) (by omega) hb) ?_
       intro s hs
       refine dS hs ?_ ?_
       · rintro ⟨a0, a1, a2, a3, a4, u⟩ ha
         dsimp only at ha ⊢
         obtain ⟨rfl, rfl, rfl, rfl⟩ := ha
         refine dZ (d122 _) ?_
         rintro ⟨m, u⟩ hm
         dsimp only at hm ⊢
         with_reducible repeat' (first | apply dP | apply dX <;> intro _)
         · exact ⟨by first | omega | (dsimp only; omega), by first | omega | (dsimp only; omega), by first | omega | (dsimp only; omega)⟩
         · rw [w64s (n := a1 + 1) (by omega), w64s (by omega)]
           exact ⟨⟨rfl, by first | omega | (dsimp only; omega), by first | omega | (dsimp only; omega), by simp only [List.length_append, List.length_cons, List.length_nil]; omega, fun _ => by simp only [List.length_append, List.length_cons, List.length_nil]; omega⟩, by first | omega | (dsimp only; omega)⟩
         · refine dO ?_
           simp only [List.length_cons, List.length_nil] at *
           omega
       · rintro ⟨a0, a1, u⟩ ha
         dsimp only at ha ⊢
         obtain ⟨rfl, rfl⟩ := ha
         exact dP ⟨by first | omega | (dsimp only; omega), by first | omega | (dsimp only; omega), by first | omega | (dsimp only; omega)⟩
   · refine dO ?_; omega
   · exact ⟨by first | omega | (dsimp only; omega), fun _ => h2' (by omega)⟩
 · intro r hr
   refine dS hr ?_ ?_
   · rintro ⟨a, u⟩ ha
     exact dP ⟨ha.1, .inl rfl, fun _ => ha.2⟩
   · rintro ⟨a, b, u⟩ ha
     exact dP ⟨ha.1, .inr ha.2, fun h => by have := ha.2.1; dsimp only at h this; omega⟩
theorem d178 (l : List Int) (hb : l.length ≤ 20000000000000) : Df (C178 (l, ())) (fun y => y.1.length ≤ 4 * l.length) := by
 show Df (F178 C122 C178_l0 _) _
 unfold F178
 dsimp only
 refine dZ (P := Sum.elim (fun y => y.1.length ≤ 4 * l.length) (fun y => y.1.length ≤ 4 * l.length)) ?_ ?_
 · refine dL ?I ?m ?h _ ?hv ?hn
   case I => exact (fun v => v.1 = l ∧ v.2.1 = l.length ∧ 0 ≤ v.2.2.1 ∧ v.2.2.1 ≤ l.length ∧ v.2.2.2.1.length ≤ 4 * v.2.2.1)
   case m => exact (fun v => (l.length - v.2.2.1).toNat)
   case hv => exact ⟨rfl, rfl, by first | omega | (dsimp only; omega), by first | omega | (dsimp only; omega), by simp⟩
   case hn => exact (by first | omega | (dsimp only; omega))
   rintro ⟨x0, x1, x2, x3, u⟩ hI
   dsimp only at hI
   obtain ⟨rfl, rfl, h0, h1, h2⟩ := hI
   unfold F178_l0
   dsimp only
   with_reducible repeat' (first | apply dP | apply dX <;> intro _)
   · refine dZ (d122 _) ?_
     rintro ⟨m, u⟩ hm
     dsimp only at hm ⊢
     rw [w64s (n := x2 + 1) (by omega)]
     with_reducible repeat' (first | apply dP | apply dX <;> intro _)
     all_goals first
      | exact (by simp : (([] : List UInt8).length ≤ 4 * x0.length))
      | exact ⟨⟨rfl, rfl, by first | omega | (dsimp only; omega), by first | omega | (dsimp only; omega), by simp only [List.length_append, List.length_cons, List.length_nil]; omega⟩, by first | omega | (dsimp only; omega)⟩
      | (refine dO ?_; simp only [List.length_cons, List.length_nil] at *; omega)
   · refine dO ?_; omega
   · exact (by first | omega | (dsimp only; omega) : x3.length ≤ 4 * x0.length)
 · intro r hr
   refine dS hr ?_ ?_
   · rintro ⟨a, u⟩ ha; exact dP ha
   · rintro ⟨a, b, u⟩ ha; exact dP ha
theorem d21 (s : List UInt8) (hb : s.length ≤ 1000000000000000) : Df (C21 (s, ())) (fun y => y.1 < s.length ∧ (y.1 < 0 → ∀ c ∈ s, c.toNat < 128)) := by
 show Df (F21 C21_l0 _) _
 unfold F21
 dsimp only
 refine dZ (P := Sum.elim (fun y => ∀ c ∈ s, c.toNat < 128) (fun y => 0 ≤ y.1 ∧ y.1 < s.length)) ?_ ?_
 · refine dL ?I ?m ?h _ ?hv ?hn
   case I => exact (fun v => v.1 = s ∧ v.2.1 = s.length ∧ 0 ≤ v.2.2.1 ∧ v.2.2.1 ≤ s.length ∧ ∀ c ∈ s.take v.2.2.1.toNat, c.toNat < 128)
   case m => exact (fun v => (s.length - v.2.2.1).toNat)
   case hv => exact ⟨rfl, rfl, by first | omega | (dsimp only; omega), by first | omega | (dsimp only; omega), by simp⟩
   case hn => exact (by first | omega | (dsimp only; omega))
   rintro ⟨x0, x1, x2, u⟩ hI
   dsimp only at hI
   obtain ⟨rfl, rfl, h0, h1, h2⟩ := hI
   unfold F21_l0
   dsimp only
   with_reducible repeat' (first | apply dP | apply dX <;> intro _)
   · exact ⟨by first | omega | (dsimp only; omega), by first | omega | (dsimp only; omega)⟩
   · rename_i h3 h4 h5
     rw [w64s (n := x2 + 1) (by omega)]
     have hlt : x2.toNat < x0.length := by omega
     refine ⟨⟨rfl, rfl, by first | omega | (dsimp only; omega), by first | omega | (dsimp only; omega), ?_⟩, by first | omega | (dsimp only; omega)⟩
     dsimp only
     intro c hc
     rw [show (x2 + 1).toNat = x2.toNat + 1 by omega, take_succ_get hlt] at hc
     rcases List.mem_append.1 hc with hc | hc
     · exact h2 c hc
     · rw [List.mem_singleton] at hc
       rw [getD_lt hlt] at h5
       subst hc; omega
   · refine dO ?_; omega
   · intro c hc
     refine h2 c ?_
     rw [List.take_of_length_le (by omega)]; exact hc
 · intro r hr
   refine dS hr ?_ ?_
   · intro u hu; exact dP ⟨by first | omega | (dsimp only; omega), fun _ => hu⟩
   · rintro ⟨a, u⟩ ha; exact dP ⟨ha.2, fun h => by have := ha.1; dsimp only at h this; omega⟩
abbrev R6 := Int × Int × Int × Int × Int × Int
abbrev R4 := Int × Int × Int × Int
abbrev R3 := Int × Int × Int
theorem d289 (a b c d e f g : Int) : Df (C289 (a, b, c, d, e, f, g, ())) (fun _ => True) := by
 show Df (F289 _) _
 unfold F289
 dsimp only
 with_reducible repeat' (first | apply dP | apply dX <;> intro _)
 all_goals trivial
theorem d288 (T : List R6) (r : Int) (hT : T.length ≤ 1000000000000) : Df (C288 (T, r, ())) (fun y => 0 ≤ y.1 ∧ (y.2.1 = true → y.1 < T.length)) := by
 show Df (F288 C289 C288_l0 _) _
 unfold F288
 dsimp only
 refine dZ (P := fun y => y.1 = T ∧ y.2.2.1 = T.length ∧ 0 ≤ y.2.2.2.1 ∧ y.2.2.2.1 ≤ T.length) ?_ ?_
 · refine dL ?I ?m ?h _ ?hv ?hn
   case I => exact (fun v => v.1 = T ∧ v.2.2.1 = T.length ∧ 0 ≤ v.2.2.2.1 ∧ v.2.2.2.1 ≤ v.2.2.2.2.1 ∧ v.2.2.2.2.1 ≤ T.length)
   case m => exact (fun v => (v.2.2.2.2.1 - v.2.2.2.1).toNat)
   case hv => exact ⟨rfl, rfl, by first | omega | (dsimp only; omega), by first | omega | (dsimp only; omega), by first | omega | (dsimp only; omega)⟩
   case hn => exact (by first | omega | (dsimp only; omega))
   rintro ⟨x0, x1, x2, x3, x4, u⟩ hI
   dsimp only at hI
   obtain ⟨rfl, rfl, h0, h1, h2⟩ := hI
   unfold F288_l0
   dsimp only
   rw [mid2 (by omega) (by omega) (by omega)]
   with_reducible repeat' (first | apply dP | apply dX <;> intro _)
   · refine dZ (d289 _ _ _ _ _ _ _) ?_
     rintro ⟨m, u⟩ -
     dsimp only
     rw [w64s (n := (x3 + x4) / 2 + 1) (by omega)]
     with_reducible repeat' (first | apply dP | apply dX <;> intro _)
     · exact ⟨⟨rfl, rfl, by first | omega | (dsimp only; omega), by first | omega | (dsimp only; omega), by first | omega | (dsimp only; omega)⟩, by first | omega | (dsimp only; omega)⟩
     · exact ⟨⟨rfl, rfl, by first | omega | (dsimp only; omega), by first | omega | (dsimp only; omega), by first | omega | (dsimp only; omega)⟩, by first | omega | (dsimp only; omega)⟩
   · refine dO ?_; omega
   · exact ⟨rfl, rfl, by first | omega | (dsimp only; omega), by first | omega | (dsimp only; omega)⟩
 · rintro ⟨x0, x1, x2, x3, u⟩ hI
   dsimp only at hI ⊢
   obtain ⟨rfl, rfl, h0, h1⟩ := hI
   with_reducible repeat' (first | apply dP | apply dX <;> intro _)
   · refine dZ (d289 _ _ _ _ _ _ _) ?_
     rintro ⟨m, u⟩ -
     exact dP ⟨by first | omega | (dsimp only; omega), fun _ => by first | omega | (dsimp only; omega)⟩
   · refine dO ?_; omega
   · exact ⟨by first | omega | (dsimp only; omega), fun h => by cases h⟩
theorem d248 (T : List R6) (A : List R4) (B : List R3) (r : Int) (hT : T.length ≤ 1000000000000) : Df (C248 (T, A, B, r, ())) (fun y => y.2.2.2.1 = 0 ∨ ∃ e ∈ T, y.2.2.2.1 = e.2.2.2.1) := by
 show Df (F248 C288 _) _
 unfold F248
 dsimp only
 refine dZ (d288 T r hT) ?_
 rintro ⟨i, b, u⟩ h
 dsimp only at h ⊢
 with_reducible repeat' (first | apply dP | apply dX <;> intro _)
 · exact .inl rfl
 · rename_i h1
   have hlt : i.toNat < T.length := by omega
   refine .inr ⟨T[i.toNat], List.getElem_mem hlt, ?_⟩
   dsimp only
   rw [getD_lt hlt]
 · rename_i h1 h2
   have := h.2 h1
   refine dO ?_; omega
def TOk (T : List R6) : Prop := T.length ≤ 1000000000000 ∧ ∀ e ∈ T, 0 ≤ e.2.2.2.1 ∧ e.2.2.2.1 < 8
theorem d218 (T : List R6) (A : List R4) (B : List R3) (r : Int) (hT : TOk T) : Df (C218 (T, A, B, r, ())) (fun y => 0 ≤ y.1 ∧ y.1 < 8) := by
 show Df (F218 C248 _) _
 unfold F218
 dsimp only
 refine dZ (d248 T A B r hT.1) ?_
 rintro ⟨a, b, c, d, e, f, u⟩ h
 dsimp only at h ⊢
 refine dP ?_
 rcases h with rfl | ⟨e, he, rfl⟩
 · exact ⟨by decide, by decide⟩
 · exact hT.2 e he
theorem d215 (T : List R6) (A : List R4) (B : List R3) (r : Int) (hT : TOk T) : Df (C215 (T, A, B, r, ())) (fun _ => True) := by
 show Df (F215 C248 _) _
 unfold F215
 dsimp only
 exact dZ (d248 T A B r hT.1) fun _ _ => dP trivial
theorem d313 (T : List R6) (A : List R4) (B : List R3) (r : Int) (hT : TOk T) : Df (C313 (T, A, B, r, ())) (fun _ => True) := by
 show Df (F313 C248 _) _
 unfold F313
 dsimp only
 exact dZ (d248 T A B r hT.1) fun _ _ => dP trivial
theorem d306 (T : List R6) (A : List R4) (B : List R3) (r : Int) (hT : TOk T) : Df (C306 (T, A, B, r, ())) (fun _ => True) := by
 show Df (F306 C248 _) _
 unfold F306
 dsimp only
 exact dZ (d248 T A B r hT.1) fun _ _ => dP trivial
theorem d298 (a b c d e : Int) : Df (C298 (a, b, c, d, e, ())) (fun _ => True) := by
 show Df (F298 _) _
 unfold F298
 dsimp only
 with_reducible repeat' (first | apply dP | apply dX <;> intro _)
 all_goals trivial
theorem d297 (A : List R4) (r : Int) (hA : A.length ≤ 1000000000000) : Df (C297 (A, r, ())) (fun y => y.1 < A.length) := by
 show Df (F297 C298 C297_l0 _) _
 unfold F297
 dsimp only
 refine dZ (P := Sum.elim (fun _ => True) (fun y => y.1 < A.length)) ?_ ?_
 · refine dL ?I ?m ?h _ ?hv ?hn
   case I => exact (fun v => v.1 = A ∧ v.2.1 = A.length ∧ 0 ≤ v.2.2.1 ∧ v.2.2.1 ≤ A.length)
   case m => exact (fun v => (A.length - v.2.2.1).toNat)
   case hv => exact ⟨rfl, rfl, by first | omega | (dsimp only; omega), by first | omega | (dsimp only; omega)⟩
   case hn => exact (by first | omega | (dsimp only; omega))
   rintro ⟨x0, x1, x2, x3, u⟩ hI
   dsimp only at hI
   obtain ⟨rfl, rfl, h0, h1⟩ := hI
   unfold F297_l0
   dsimp only
   with_reducible repeat' (first | apply dP | apply dX <;> intro _)
   · refine dZ (d298 _ _ _ _ _) ?_
     rintro ⟨m, m', u⟩ -
     dsimp only
     rw [w64s (n := x2 + 1) (by omega)]
     with_reducible repeat' (first | apply dP | apply dX <;> intro _)
     · exact (by first | omega | (dsimp only; omega) : x2 < x0.length)
     · exact ⟨⟨rfl, rfl, by first | omega | (dsimp only; omega), by first | omega | (dsimp only; omega)⟩, by first | omega | (dsimp only; omega)⟩
   · refine dO ?_; omega
   · trivial
 · intro s hs
   refine dS hs ?_ ?_
   · rintro ⟨a, u⟩ -
     exact dP (by first | omega | (dsimp only; omega))
   · rintro ⟨a, b, u⟩ h
     exact dP h
theorem d276 (T : List R6) (A : List R4) (B : List R3) (r : Int) (hA : A.length ≤ 1000000000000) : Df (C276 (T, A, B, r, ())) (fun _ => True) := by
 show Df (F276 C297 _) _
 unfold F276
 dsimp only
 refine dZ (d297 A r hA) ?_
 rintro ⟨i, b, u⟩ h
 dsimp only at h ⊢
 with_reducible repeat' (first | apply dP | apply dX <;> intro _)
 all_goals first | trivial | (refine dO ?_; omega)
theorem d238 (a b c d : Int) : Df (C238 (a, b, c, d, ())) (fun _ => True) := by
 show Df (F238 _) _
 unfold F238
 dsimp only
 with_reducible repeat' (first | apply dP | apply dX <;> intro _)
 all_goals trivial
theorem d237 (A : List R3) (r : Int) (hA : A.length ≤ 1000000000000) : Df (C237 (A, r, ())) (fun y => y.1 < A.length) := by
 show Df (F237 C238 C237_l0 _) _
 unfold F237
 dsimp only
 refine dZ (P := Sum.elim (fun _ => True) (fun y => y.1 < A.length)) ?_ ?_
 · refine dL ?I ?m ?h _ ?hv ?hn
   case I => exact (fun v => v.1 = A ∧ v.2.1 = A.length ∧ 0 ≤ v.2.2.1 ∧ v.2.2.1 ≤ A.length)
   case m => exact (fun v => (A.length - v.2.2.1).toNat)
   case hv => exact ⟨rfl, rfl, by first | omega | (dsimp only; omega), by first | omega | (dsimp only; omega)⟩
   case hn => exact (by first | omega | (dsimp only; omega))
   rintro ⟨x0, x1, x2, x3, u⟩ hI
   dsimp only at hI
   obtain ⟨rfl, rfl, h0, h1⟩ := hI
   unfold F237_l0
   dsimp only
   with_reducible repeat' (first | apply dP | apply dX <;> intro _)
   · refine dZ (d238 _ _ _ _) ?_
     rintro ⟨m, m', u⟩ -
     dsimp only
     rw [w64s (n := x2 + 1) (by omega)]
     with_reducible repeat' (first | apply dP | apply dX <;> intro _)
     · exact (by first | omega | (dsimp only; omega) : x2 < x0.length)
     · exact ⟨⟨rfl, rfl, by first | omega | (dsimp only; omega), by first | omega | (dsimp only; omega)⟩, by first | omega | (dsimp only; omega)⟩
   · refine dO ?_; omega
   · trivial
 · intro s hs
   refine dS hs ?_ ?_
   · rintro ⟨a, u⟩ -
     exact dP (by first | omega | (dsimp only; omega))
   · rintro ⟨a, b, u⟩ h
     exact dP h
theorem d211 (T : List R6) (A : List R4) (B : List R3) (r : Int) (hB : B.length ≤ 1000000000000) : Df (C211 (T, A, B, r, ())) (fun _ => True) := by
 show Df (F211 C237 _) _
 unfold F211
 dsimp only
 refine dZ (d237 B r hB) ?_
 rintro ⟨i, b, u⟩ h
 dsimp only at h ⊢
 with_reducible repeat' (first | apply dP | apply dX <;> intro _)
 all_goals first | trivial | (refine dO ?_; omega)
theorem d216 (T : List R6) (A : List R4) (B : List R3) (r : Int) : Df (C216 (T, A, B, r, ())) (fun _ => True) := by
 unfold C216
 dsimp only
 with_reducible repeat' (first | apply dP | apply dX <;> intro _)
 · trivial
 · cases splitD r with
   | none => exact dP trivial
   | some s => exact dP trivial
theorem d212 (T : List R6) (A : List R4) (B : List R3) (r : Int) : Df (C212 (T, A, B, r, ())) (fun _ => True) := by
 show Df (F212 C216 _) _
 unfold F212
 dsimp only
 with_reducible repeat' (first | apply dP | apply dX <;> intro _)
 all_goals first | trivial | exact dZ (d216 T A B r) fun _ _ => dP trivial
theorem d210 (T : List R6) (A : List R4) (B : List R3) (l : List Int) (hl : l.length ≤ 1000000000000) : Df (C210 (l, T, A, B, ())) (fun y => y.1.length = l.length) := by
 show Df (F210 C212 C210_l0 _) _
 unfold F210
 dsimp only
 refine dZ (P := fun y => y.1.length = l.length) ?_ (fun _ h => dP h)
 refine dL ?I ?m ?h _ ?hv ?hn
 case I => exact (fun v => v.2.2.2.1 = l ∧ v.2.2.2.2.1 = l.length ∧ 0 ≤ v.2.2.2.2.2.1 ∧ v.2.2.2.2.2.1 ≤ l.length ∧ v.2.2.2.2.2.2.1.length = v.2.2.2.2.2.1)
 case m => exact (fun v => (l.length - v.2.2.2.2.2.1).toNat)
 case hv => exact ⟨rfl, rfl, by first | omega | (dsimp only; omega), by first | omega | (dsimp only; omega), rfl⟩
 case hn => exact (by first | omega | (dsimp only; omega))
 rintro ⟨x0, x1, x2, x3, x4, x5, x6, u⟩ hI
 dsimp only at hI
 obtain ⟨rfl, rfl, h0, h1, h2⟩ := hI
 unfold F210_l0
 dsimp only
 with_reducible repeat' (first | apply dP | apply dX <;> intro _)
 · refine dZ (d212 _ _ _ _) ?_
   rintro ⟨m, u⟩ -
   dsimp only
   rw [w64s (n := x5 + 1) (by omega)]
   with_reducible repeat' (first | apply dP | apply dX <;> intro _)
   · exact ⟨⟨rfl, rfl, by first | omega | (dsimp only; omega), by first | omega | (dsimp only; omega), by simp only [List.length_append, List.length_cons, List.length_nil]; omega⟩, by first | omega | (dsimp only; omega)⟩
   · refine dO ?_; simp only [List.length_cons, List.length_nil] at *; omega
 · refine dO ?_; omega
 · exact (by first | omega | (dsimp only; omega) : x6.length = x3.length)
theorem d210v1 (T : List R6) (A : List R4) (B : List R3) (hB : B.length ≤ 1000000000000) (l : List Int) (hl : l.length ≤ 1000000000000) : Df (C210v1 (l, T, A, B, ())) (fun y => y.1.length = l.length) := by
 show Df (F210v1 C211 C210v1_l0 _) _
 unfold F210v1
 dsimp only
 refine dZ (P := fun y => y.1.length = l.length) ?_ (fun _ h => dP h)
 refine dL ?I ?m ?h _ ?hv ?hn
 case I => exact (fun v => v.2.2.1 = B ∧ v.2.2.2.1 = l ∧ v.2.2.2.2.1 = l.length ∧ 0 ≤ v.2.2.2.2.2.1 ∧ v.2.2.2.2.2.1 ≤ l.length ∧ v.2.2.2.2.2.2.1.length = v.2.2.2.2.2.1)
 case m => exact (fun v => (l.length - v.2.2.2.2.2.1).toNat)
 case hv => exact ⟨rfl, rfl, rfl, by first | omega | (dsimp only; omega), by first | omega | (dsimp only; omega), rfl⟩
 case hn => exact (by first | omega | (dsimp only; omega))
 rintro ⟨x0, x1, x2, x3, x4, x5, x6, u⟩ hI
 dsimp only at hI
 obtain ⟨rfl, rfl, rfl, h0, h1, h2⟩ := hI
 unfold F210v1_l0
 dsimp only
 with_reducible repeat' (first | apply dP | apply dX <;> intro _)
 · refine dZ (d211 _ _ _ _ hB) ?_
   rintro ⟨m, u⟩ -
   dsimp only
   rw [w64s (n := x5 + 1) (by omega)]
   with_reducible repeat' (first | apply dP | apply dX <;> intro _)
   · exact ⟨⟨rfl, rfl, rfl, by first | omega | (dsimp only; omega), by first | omega | (dsimp only; omega), by simp only [List.length_append, List.length_cons, List.length_nil]; omega⟩, by first | omega | (dsimp only; omega)⟩
   · refine dO ?_; simp only [List.length_cons, List.length_nil] at *; omega
 · refine dO ?_; omega
 · exact (by first | omega | (dsimp only; omega) : x6.length = x3.length)
theorem d180 (T : List R6) (A : List R4) (B : List R3) (l : List Int) (hl : l.length ≤ 1000000000000) : Df (C180 (T, A, B, l, ())) (fun y => y.1.length = l.length) := by
 show Df (F180 C210 _) _
 unfold F180
 dsimp only
 exact dZ (d210 T A B l hl) fun _ h => dP h
theorem d179 (T : List R6) (A : List R4) (B : List R3) (hB : B.length ≤ 1000000000000) (l : List Int) (hl : l.length ≤ 1000000000000) : Df (C179 (T, A, B, l, ())) (fun y => y.1.length = l.length) := by
 show Df (F179 C210v1 _) _
 unfold F179
 dsimp only
 exact dZ (d210v1 T A B hB l hl) fun _ h => dP h
theorem d300 (a b c : Int) : Df (C300 (a, b, c, ())) (fun _ => True) := by
 show Df (F300 _) _
 unfold F300
 dsimp only
 with_reducible repeat' (first | apply dP | apply dX <;> intro _)
 all_goals trivial
theorem d301 (a : Int) : Df (C301 (a, ())) (fun y => y.1.length ≤ 3) := by
 show Df (F301 _) _
 unfold F301
 dsimp only
 with_reducible repeat' (first | apply dP | apply dX <;> intro _)
 all_goals (dsimp only; simp)
theorem d302 (a b : List Int) (ha : a.length ≤ 1000000) (hb : b.length ≤ 1000000) : Df (C302 ([a, b], ())) (fun y => y.1.length = a.length + b.length) := by
 show Df (F302 C312 C302_l0 C302_l1 _) _
 unfold F302
 dsimp only
 refine dZ (P := fun y => y.1 = [a, b] ∧ 0 ≤ y.2.1 ∧ y.2.1 ≤ 2000000) ?_ ?_
 · refine dL ?I ?m ?h _ ?hv ?hn
   case I => exact (fun v => v.1 = [a, b] ∧ v.2.2.1 = [a, b] ∧ v.2.2.2.1 = 2 ∧ ((v.2.2.2.2.1 = 0 ∧ v.2.1 = 0) ∨ (v.2.2.2.2.1 = 1 ∧ v.2.1 = a.length) ∨ (v.2.2.2.2.1 = 2 ∧ v.2.1 = a.length + b.length)))
   case m => exact (fun v => (2 - v.2.2.2.2.1).toNat)
   case hv => exact ⟨rfl, rfl, rfl, .inl ⟨rfl, rfl⟩⟩
   case hn => exact (by first | omega | (dsimp only; omega))
   rintro ⟨x0, x1, x2, x3, x4, u⟩ hI
   dsimp only at hI
   obtain ⟨rfl, rfl, rfl, hI⟩ := hI
   unfold F302_l0
   dsimp only
   rcases hI with ⟨rfl, rfl⟩ | ⟨rfl, rfl⟩ | ⟨rfl, rfl⟩
   · have e : ([a, b] : List (List Int)).getD (0 : Int).toNat [] = a := rfl
     rw [e, w64s (n := 0 + (a.length : Int)) (by omega), w64s (n := (0 : Int) + 1) (by omega)]
     with_reducible repeat' (first | apply dP | apply dX <;> intro _)
     all_goals first
      | exact ⟨⟨rfl, rfl, rfl, .inr (.inl ⟨rfl, by first | omega | (dsimp only; omega)⟩)⟩, by first | omega | (dsimp only; omega)⟩
      | (refine dO ?_; simp only [List.length_cons, List.length_nil] at *; omega)
      | (exfalso; omega)
   · have e : ([a, b] : List (List Int)).getD (1 : Int).toNat [] = b := rfl
     rw [e, w64s (n := (a.length : Int) + (b.length : Int)) (by omega), w64s (n := (1 : Int) + 1) (by omega)]
     with_reducible repeat' (first | apply dP | apply dX <;> intro _)
     all_goals first
      | exact ⟨⟨rfl, rfl, rfl, .inr (.inr ⟨rfl, rfl⟩)⟩, by first | omega | (dsimp only; omega)⟩
      | (refine dO ?_; simp only [List.length_cons, List.length_nil] at *; omega)
      | (exfalso; omega)
   · with_reducible repeat' (first | apply dP | apply dX <;> intro _)
     all_goals first
      | exact ⟨rfl, by first | omega | (dsimp only; omega), by first | omega | (dsimp only; omega)⟩
      | (refine dO ?_; simp only [List.length_cons, List.length_nil] at *; omega)
      | (exfalso; omega)
 · rintro ⟨x0, x1, u⟩ hI
   dsimp only at hI ⊢
   obtain ⟨rfl, h0, h1⟩ := hI
   refine dZ (P := fun y => y.1 = []) ?_ ?_
   · unfold C312
     dsimp only
     with_reducible repeat' (first | apply dP | apply dX <;> intro _)
     · rfl
     · refine dO ?_; omega
   rintro ⟨x2, u⟩ hx
   dsimp only at hx ⊢
   subst hx
   refine dZ (P := fun y => y.1.length = a.length + b.length) ?_ (fun _ h => dP h)
   refine dL ?I ?m ?h _ ?hv ?hn
   case I => exact (fun v => v.1 = [a, b] ∧ v.2.1 = 2 ∧ ((v.2.2.1 = 0 ∧ v.2.2.2.1.length = 0) ∨ (v.2.2.1 = 1 ∧ v.2.2.2.1.length = a.length) ∨ (v.2.2.1 = 2 ∧ v.2.2.2.1.length = a.length + b.length)))
   case m => exact (fun v => (2 - v.2.2.1).toNat)
   case hv => exact ⟨rfl, rfl, .inl ⟨rfl, rfl⟩⟩
   case hn => exact (by first | omega | (dsimp only; omega))
   rintro ⟨x0, x1, x2, x3, u⟩ hI
   dsimp only at hI
   obtain ⟨rfl, rfl, hI⟩ := hI
   unfold F302_l1
   dsimp only
   rcases hI with ⟨rfl, hx⟩ | ⟨rfl, hx⟩ | ⟨rfl, hx⟩
   · have e : ([a, b] : List (List Int)).getD (0 : Int).toNat [] = a := rfl
     rw [e, w64s (n := (0 : Int) + 1) (by omega)]
     with_reducible repeat' (first | apply dP | apply dX <;> intro _)
     all_goals first
      | exact ⟨⟨rfl, rfl, .inr (.inl ⟨rfl, by simp only [List.length_append]; omega⟩)⟩, by first | omega | (dsimp only; omega)⟩
      | (refine dO ?_; simp only [List.length_cons, List.length_nil] at *; omega)
      | (exfalso; omega)
   · have e : ([a, b] : List (List Int)).getD (1 : Int).toNat [] = b := rfl
     rw [e, w64s (n := (1 : Int) + 1) (by omega)]
     with_reducible repeat' (first | apply dP | apply dX <;> intro _)
     all_goals first
      | exact ⟨⟨rfl, rfl, .inr (.inr ⟨rfl, by simp only [List.length_append]; omega⟩)⟩, by first | omega | (dsimp only; omega)⟩
      | (refine dO ?_; simp only [List.length_cons, List.length_nil] at *; omega)
      | (exfalso; omega)
   · with_reducible repeat' (first | apply dP | apply dX <;> intro _)
     all_goals first
      | exact hx
      | (refine dO ?_; simp only [List.length_cons, List.length_nil] at *; omega)
      | (exfalso; omega)
def nxt (r : Int) : Option (Int × Int) := bif decide (65281 ≤ r) && decide (r ≤ 65374) then some (r - 65248, 0) else (splitD r).map fun s => (s.2.1, s.2.2.1)
def dep : Nat → Int → Bool
 | 0, _ => false
 | n + 1, r => match nxt r with
  | none => true
  | some (a, b) => dep n a && (b == 0 || dep n b)
theorem dep_k1 : ((List.range 94).all fun n => dep 4 ((33 + n : Nat) : Int)) = true := by kernel_rfl
theorem dep_k2 : (splitT.all fun s => dep 4 s.2.1 && (s.2.2.1 == 0 || dep 4 s.2.2.1)) = true := by kernel_rfl
theorem dep_all (r : Int) : dep 5 r = true := by
 unfold dep
 cases h : nxt r with
 | none => rfl
 | some p =>
  obtain ⟨a, b⟩ := p
  dsimp only
  unfold nxt at h
  by_cases hw : 65281 ≤ r ∧ r ≤ 65374
  · rw [decide_eq_true hw.1, decide_eq_true hw.2] at h
    simp only [Bool.and_self, cond_true, Option.some.injEq, Prod.mk.injEq] at h
    obtain ⟨rfl, rfl⟩ := h
    have := List.all_eq_true.1 dep_k1 (r - 65281).toNat (List.mem_range.2 (by omega))
    rw [show (((33 + (r - 65281).toNat : Nat)) : Int) = r - 65248 by omega] at this
    rw [this]; rfl
  · have e : (decide (65281 ≤ r) && decide (r ≤ 65374)) = false := by simp; omega
    rw [e] at h
    simp only [cond_false, Option.map_eq_some_iff] at h
    obtain ⟨s, hs, he⟩ := h
    have hm : s ∈ splitT := List.mem_of_find?_eq_some hs
    have := List.all_eq_true.1 dep_k2 s hm
    cases he
    exact this
theorem c216n (T : List R6) (A : List R4) (B : List R3) (r : Int) : Df (C216 (T, A, B, r, ())) (fun v => v.2.2.2.2.2.1 = false ∨ nxt r = some (v.2.1, v.2.2.1)) := by
 unfold C216 nxt
 dsimp only
 with_reducible repeat' (first | apply dP | apply dX <;> intro _)
 · rename_i h
   refine .inr ?_
   rw [decide_eq_true h.1, decide_eq_true h.2]; rfl
 · rename_i h
   have e : (decide (65281 ≤ r) && decide (r ≤ 65374)) = false := by simp; omega
   rw [e]
   cases splitD r with
   | none => exact dP (.inl rfl)
   | some s => exact dP (.inr rfl)
theorem d279c (G : T279) (r : Int) (sf b : Bool) (T : List R6) (A : List R4) (B : List R3) (v0 a c : Int) (s o : Bool) (K : Nat) (hK : 1 ≤ K)
 (ha : b = false → c = 0 → Df (G (T, A, B, a, sf, ())) (fun y => y.1.length ≤ K)) :
 Df (F279_c0 C216 G C300 C301 C302 (r, sf, b, T, A, B, v0, a, c, s, o, ())) (Sum.elim (fun y => y.1.length ≤ K) (fun y => y = (sf, T, A, B, v0, a, c, s, o, ()) ∧ b = false ∧ c ≠ 0)) := by
 unfold F279_c0
 dsimp only
 with_reducible repeat' (first | apply dP | apply dX <;> intro _)
 · exact (by simpa using hK : ([r] : List Int).length ≤ K)
 · rename_i h1 h2
   exact dZ (ha h1 h2) fun y hy => dP hy
 · rename_i h1 h2
   exact ⟨rfl, h1, h2⟩
theorem d279r (T : List R6) (A : List R4) (B : List R3) : ∀ (n m : Nat) (r : Int) (sf : Bool), dep n r = true → n ≤ 9 →
 Df (recN (fun G => F279 C216 G C300 C301 C302 (F279_c0 C216 G C300 C301 C302)) (n + m) (T, A, B, r, sf, ())) (fun y => y.1.length ≤ 3 * 2 ^ n)
 | 0, m, r, sf, h, hn => by cases h
 | n + 1, m, r, sf, h, hn => by
  rw [show n + 1 + m = (n + m) + 1 by omega]
  show Df (F279 C216 (recN (fun G => F279 C216 G C300 C301 C302 (F279_c0 C216 G C300 C301 C302)) (n + m)) C300 C301 C302 (F279_c0 C216 (recN (fun G => F279 C216 G C300 C301 C302 (F279_c0 C216 G C300 C301 C302)) (n + m)) C300 C301 C302) (T, A, B, r, sf, ())) _
  have ih := d279r T A B n m
  generalize recN (fun G => F279 C216 G C300 C301 C302 (F279_c0 C216 G C300 C301 C302)) (n + m) = G at ih ⊢
  have hp : 3 * 2 ^ n ≤ 3 * 2 ^ 9 := Nat.mul_le_mul_left 3 (Nat.pow_le_pow_right (by omega) (by omega))
  have hp1 : 1 ≤ 2 ^ n := Nat.one_le_two_pow
  have hp2 : 3 * 2 ^ (n + 1) = 3 * 2 ^ n + 3 * 2 ^ n := by rw [Nat.pow_succ]; omega
  generalize 3 * 2 ^ n = K at ih hp hp2
  have hK : 3 ≤ K ∨ True := .inr trivial
  rw [hp2]
  have hK3 : 3 ≤ K + K := by
   have : 3 * 2 ^ 1 ≤ 3 * 2 ^ (n + 1) := Nat.mul_le_mul_left 3 (Nat.pow_le_pow_right (by omega) (by omega))
   omega
  have ih' : ∀ (r : Int) (sf : Bool), dep n r = true → Df (G (T, A, B, r, sf, ())) (fun y => y.1.length ≤ K) := fun r sf h => ih r sf h (by omega)
  clear ih
  unfold F279
  dsimp only
  refine dZ (c216n T A B r) ?_
  rintro ⟨v0, a, c, s, o, is, u⟩ hv
  dsimp only at hv ⊢
  refine dZ (d300 _ _ _) ?_
  rintro ⟨b, u⟩ -
  dsimp only
  have two : is = true → c ≠ 0 → ∀ sf, Df ((G (T, A, B, a, sf, ())).bind fun val_2 => (G (T, A, B, c, sf, ())).bind fun val => (C302 ([val_2.fst, val.fst], ())).bind fun val => some (val.fst, ())) (fun y => y.1.length ≤ K + K) := by
   intro his hc sf
   rcases hv with rfl | hv
   · cases his
   · unfold dep at h
     rw [hv] at h
     simp only [Bool.and_eq_true, Bool.or_eq_true, beq_iff_eq] at h
     refine dZ (ih' a sf h.1) ?_
     rintro ⟨p, u⟩ hp'
     refine dZ (ih' c sf (h.2.resolve_left hc)) ?_
     rintro ⟨q, u⟩ hq
     dsimp only at hp' hq ⊢
     refine dZ (d302 p q (by omega) (by omega)) ?_
     rintro ⟨z, u⟩ hz
     exact dP (by dsimp only at hz ⊢; omega)
  have one : is = true → Df (G (T, A, B, a, sf, ())) (fun y => y.1.length ≤ K + K) := by
   intro his
   rcases hv with rfl | hv
   · cases his
   · unfold dep at h
     rw [hv] at h
     simp only [Bool.and_eq_true] at h
     exact (ih' a sf h.1).mono fun _ h => by omega
  with_reducible repeat' (first | apply dP | apply dX <;> intro _)
  · refine dZ (d301 _) ?_
    rintro ⟨l, u⟩ hl
    exact dP (by dsimp only at hl ⊢; omega)
  · refine dZ (d279c G r sf true T A B v0 a c s o (K + K) (by omega) (fun h => by cases h)) ?_
    intro z hz
    refine dS hz (fun y hy => dP hy) ?_
    rintro y ⟨-, h, -⟩
    cases h
  · rename_i h1 h2 h3
    refine dZ (d279c G r sf (!sf) T A B v0 a c s o (K + K) (by omega) (fun _ _ => one h2)) ?_
    intro z hz
    refine dS hz (fun y hy => dP hy) ?_
    rintro y ⟨rfl, -, hc⟩
    exact two h2 hc sf
  · rename_i h1 h2 h3
    refine dZ (d279c G r sf false T A B v0 a c s o (K + K) (by omega) (fun _ _ => one h2)) ?_
    intro z hz
    refine dS hz (fun y hy => dP hy) ?_
    rintro y ⟨rfl, -, hc⟩
    exact two h2 hc sf
theorem d279 (T : List R6) (A : List R4) (B : List R3) (r : Int) (sf : Bool) : Df (C279 (T, A, B, r, sf, ())) (fun y => y.1.length ≤ 96) := by
 obtain ⟨m, hm⟩ : ∃ m, big = 5 + m := ⟨big - 5, by unfold big; omega⟩
 show Df (recN (fun G => F279 C216 G C300 C301 C302 (F279_c0 C216 G C300 C301 C302)) big _) _
 rw [hm]
 exact d279r T A B 5 m r sf (dep_all r) (by omega)
theorem d240 (T : List R6) (A : List R4) (B : List R3) (l : List Int) (sf : Bool) (hl : l.length ≤ 100000000000) : Df (C240 (T, A, B, l, sf, ())) (fun y => y.1.length ≤ 96 * l.length) := by
 show Df (F240 C279 C240_l0 _) _
 unfold F240
 dsimp only
 refine dZ (P := fun y => y.1.length ≤ 96 * l.length) ?_ (fun _ h => dP h)
 refine dL ?I ?m ?h _ ?hv ?hn
 case I => exact (fun v => v.2.1 = l ∧ v.2.2.1 = l.length ∧ 0 ≤ v.2.2.2.1 ∧ v.2.2.2.1 ≤ l.length ∧ v.2.2.2.2.2.2.2.1.length ≤ 96 * v.2.2.2.1)
 case m => exact (fun v => (l.length - v.2.2.2.1).toNat)
 case hv => exact ⟨rfl, rfl, by first | omega | (dsimp only; omega), by first | omega | (dsimp only; omega), by simp⟩
 case hn => exact (by first | omega | (dsimp only; omega))
 rintro ⟨x0, x1, x2, x3, x4, x5, x6, x7, u⟩ hI
 dsimp only at hI
 obtain ⟨rfl, rfl, h0, h1, h2⟩ := hI
 unfold F240_l0
 dsimp only
 with_reducible repeat' (first | apply dP | apply dX <;> intro _)
 · refine dZ (d279 _ _ _ _ _) ?_
   rintro ⟨z, u⟩ hz
   dsimp only at hz ⊢
   rw [w64s (n := x3 + 1) (by omega)]
   with_reducible repeat' (first | apply dP | apply dX <;> intro _)
   · exact ⟨⟨rfl, rfl, by first | omega | (dsimp only; omega), by first | omega | (dsimp only; omega), by simp only [List.length_append]; omega⟩, by first | omega | (dsimp only; omega)⟩
   · refine dO ?_; omega
 · refine dO ?_; omega
 · exact (by first | omega | (dsimp only; omega) : x7.length ≤ 96 * x1.length)
theorem d303 (T : List R6) (A : List R4) (B : List R3) (a b : Int) : Df (C303 (T, A, B, a, b, ())) (fun _ => True) := by
 unfold C303
 dsimp only
 cases pairD a b with
 | none => exact dP trivial
 | some s => exact dP trivial
theorem d280_0 (a b : Int) (f : Bool) (T : List R6) (A : List R4) (B : List R3) : Df (C280_c0 (a, b, f, T, A, B, ())) (fun _ => True) := by
 show Df (F280_c0 C300 C303 _) _
 unfold F280_c0
 dsimp only
 with_reducible repeat' (first | apply dP | apply dX <;> intro _)
 · trivial
 · refine dZ (d300 _ _ _) ?_
   rintro ⟨z, u⟩ -
   dsimp only
   with_reducible repeat' (first | apply dP | apply dX <;> intro _)
   · refine dZ (d300 _ _ _) ?_
     rintro ⟨z, u⟩ -
     dsimp only
     with_reducible repeat' (first | apply dP | apply dX <;> intro _)
     all_goals trivial
   all_goals trivial
theorem d280 (T : List R6) (A : List R4) (B : List R3) (a b : Int) : Df (C280 (T, A, B, a, b, ())) (fun _ => True) := by
 show Df (F280 C300 C303 C280_c0 _) _
 unfold F280
 dsimp only
 have fin : ∀ f, Df ((C280_c0 (a, b, f, T, A, B, ())).bind fun val => Sum.elim (fun val => some (val.fst, val.snd.fst, ())) (fun val => (C303 (val.snd.snd.fst, val.snd.snd.snd.fst, val.snd.snd.snd.snd.fst, val.fst, val.snd.fst, ())).bind fun val => some (val.fst, val.snd.fst, ())) val) (fun _ => True) := by
  intro f
  refine dZ (d280_0 a b f T A B) ?_
  intro z hz
  cases z with
  | inl y => exact dP trivial
  | inr y => exact dZ (d303 _ _ _ _ _) fun _ _ => dP trivial
 refine dZ (d300 _ _ _) ?_
 rintro ⟨z, u⟩ -
 dsimp only
 with_reducible repeat' (first | apply dP | apply dX <;> intro _)
 · refine dZ (d300 _ _ _) ?_
   rintro ⟨z, u⟩ -
   exact fin _
 · exact fin _
theorem d241_0 (x0 x1 x2 x3 : Int) (x4 : List Int) (x5 x6 : Int) (x7 : Bool) (x8 : List R6) (x9 : List R4) (x10 : List R3) (x11 : List Int) (h : x7 = true → 0 ≤ x0 ∧ x0 < x11.length) :
 Df (C241_c0 (x0, x1, x2, x3, x4, x5, x6, x7, x8, x9, x10, x11, ())) (Sum.elim (fun y => ∃ l', l'.length = x11.length ∧ y = (x0, x1, x4, x5, x6, x8, x9, x10, l', ())) (fun y => y = (x0, x1, x2, x3, x4, x5, x6, x8, x9, x10, x11, ()))) := by
 show Df (F241_c0 C276 C280 _) _
 unfold F241_c0
 dsimp only
 with_reducible repeat' (first | apply dP | apply dX <;> intro _)
 · refine dZ (d280 _ _ _ _ _) ?_
   rintro ⟨a, b, u⟩ -
   dsimp only
   with_reducible repeat' (first | apply dP | apply dX <;> intro _)
   · exact ⟨_, List.length_set, rfl⟩
   · rename_i h1 h2 h3 h4
     exact absurd h2 h4
   · exact rfl
 · rename_i h1 h2
   exact dO (h2 (h h1))
 · exact rfl
theorem d241 (T : List R6) (A : List R4) (B : List R3) (l : List Int) (hl : l.length ≤ 10000000000000) (hA : A.length ≤ 1000000000000) : Df (C241 (T, A, B, l, ())) (fun y => y.1.length ≤ l.length) := by
 show Df (F241 C276 C280 C241_l0 _) _
 unfold F241
 dsimp only
 refine dZ (P := fun y => y.1.length ≤ l.length) ?_ (fun _ h => dP h)
 refine dL ?I ?m ?h _ ?hv ?hn
 case I => exact (fun v => v.2.2.1 = l ∧ v.2.2.2.1 = l.length ∧ 0 ≤ v.2.2.2.2.1 ∧ v.2.2.2.2.1 ≤ l.length ∧ v.2.2.2.2.2.2.1 = A ∧ v.2.2.2.2.2.2.2.2.1.length ≤ v.2.2.2.2.1 ∧ v.1 < v.2.2.2.2.2.2.2.2.1.length)
 case m => exact (fun v => (l.length - v.2.2.2.2.1).toNat)
 case hv => exact ⟨rfl, rfl, by first | omega | (dsimp only; omega), by first | omega | (dsimp only; omega), rfl, by simp, by simp⟩
 case hn => exact (by first | omega | (dsimp only; omega))
 rintro ⟨x0, x1, x2, x3, x4, x5, x6, x7, x8, u⟩ hI
 dsimp only at hI
 obtain ⟨rfl, rfl, h0, h1, rfl, h2, h3⟩ := hI
 have fin : ∀ (cl : Int) (f : Bool), (f = true → 0 ≤ x0 ∧ x0 < x8.length) → x4 < x2.length → Df ((C241_c0 (x0, x1, x2.getD x4.toNat 0, cl, x2, (x2.length : Int), x4, f, x5, x6, x7, x8, ())).bind fun val =>
  Sum.elim (fun val => some (Sum.inl (val.fst, val.snd.fst, val.snd.snd.fst, val.snd.snd.snd.fst, IntKind.i64.wrap (val.snd.snd.snd.snd.fst + 1), val.snd.snd.snd.snd.snd.fst, val.snd.snd.snd.snd.snd.snd.fst, val.snd.snd.snd.snd.snd.snd.snd.fst, val.snd.snd.snd.snd.snd.snd.snd.snd.fst, ())))
   (fun val => bif decide (List.length val.snd.snd.snd.snd.snd.snd.snd.snd.snd.snd.fst + [val.snd.snd.fst].length ≤ 140737488355328 / 4) then
    bif val.snd.snd.snd.fst == 0 then some (Sum.inl (IntKind.i64.wrap ((↑(val.snd.snd.snd.snd.snd.snd.snd.snd.snd.snd.fst ++ [val.snd.snd.fst]).length : Int) - 1), 0, val.snd.snd.snd.snd.fst, val.snd.snd.snd.snd.snd.fst, IntKind.i64.wrap (val.snd.snd.snd.snd.snd.snd.fst + 1), val.snd.snd.snd.snd.snd.snd.snd.fst, val.snd.snd.snd.snd.snd.snd.snd.snd.fst, val.snd.snd.snd.snd.snd.snd.snd.snd.snd.fst, val.snd.snd.snd.snd.snd.snd.snd.snd.snd.snd.fst ++ [val.snd.snd.fst], ()))
    else some (Sum.inl (val.fst, if val.snd.snd.snd.fst > val.snd.fst then val.snd.snd.snd.fst else val.snd.fst, val.snd.snd.snd.snd.fst, val.snd.snd.snd.snd.snd.fst, IntKind.i64.wrap (val.snd.snd.snd.snd.snd.snd.fst + 1), val.snd.snd.snd.snd.snd.snd.snd.fst, val.snd.snd.snd.snd.snd.snd.snd.snd.fst, val.snd.snd.snd.snd.snd.snd.snd.snd.snd.fst, val.snd.snd.snd.snd.snd.snd.snd.snd.snd.snd.fst ++ [val.snd.snd.fst], ()))
    else none) val)
  (Sum.elim (fun v' : Int × Int × List Int × Int × Int × List R6 × List R4 × List R3 × List Int × Unit => (v'.2.2.1 = x2 ∧ v'.2.2.2.1 = (x2.length : Int) ∧ 0 ≤ v'.2.2.2.2.1 ∧ v'.2.2.2.2.1 ≤ x2.length ∧ v'.2.2.2.2.2.2.1 = x6 ∧ v'.2.2.2.2.2.2.2.2.1.length ≤ v'.2.2.2.2.1 ∧ v'.1 < v'.2.2.2.2.2.2.2.2.1.length) ∧ (x2.length - v'.2.2.2.2.1).toNat < (x2.length - x4).toNat) (fun y : List Int × Unit => y.1.length ≤ x2.length)) := by
  intro cl f hf hlt
  refine dZ (d241_0 _ _ _ _ _ _ _ _ _ _ _ _ hf) ?_
  intro z hz
  refine dS hz ?_ ?_
  · rintro y ⟨l', hl', rfl⟩
    dsimp only
    rw [w64s (n := x4 + 1) (by omega)]
    exact dP ⟨⟨rfl, rfl, by first | omega | (dsimp only; omega), by first | omega | (dsimp only; omega), rfl, by first | omega | (dsimp only; omega), by first | omega | (dsimp only; omega)⟩, by first | omega | (dsimp only; omega)⟩
  · rintro y rfl
    dsimp only
    rw [w64s (n := x4 + 1) (by omega), w64s (n := ((x8 ++ [x2.getD x4.toNat 0]).length : Int) - 1) (by simp only [List.length_append, List.length_cons, List.length_nil]; omega)]
    with_reducible repeat' (first | apply dP | apply dX <;> intro _)
    · exact ⟨⟨rfl, rfl, by first | omega | (dsimp only; omega), by first | omega | (dsimp only; omega), rfl, by simp only [List.length_append, List.length_cons, List.length_nil]; omega, by simp only [List.length_append, List.length_cons, List.length_nil]; omega⟩, by first | omega | (dsimp only; omega)⟩
    · exact ⟨⟨rfl, rfl, by first | omega | (dsimp only; omega), by first | omega | (dsimp only; omega), rfl, by simp only [List.length_append, List.length_cons, List.length_nil]; omega, by simp only [List.length_append, List.length_cons, List.length_nil]; omega⟩, by first | omega | (dsimp only; omega)⟩
    · refine dO ?_; simp only [List.length_cons, List.length_nil] at *; omega
 unfold F241_l0
 dsimp only
 with_reducible repeat' (first | apply dP | apply dX <;> intro _)
 · rename_i h4 h5
   refine dZ (d276 _ _ _ _ hA) ?_
   rintro ⟨cl, u⟩ -
   dsimp only
   with_reducible repeat' (first | apply dP | apply dX <;> intro _)
   · exact fin _ _ (fun _ => by omega) (by omega)
   · exact fin _ _ (fun _ => by omega) (by omega)
   · exact fin _ _ (fun h => by cases h) (by omega)
 · refine dO ?_; omega
 · exact (by first | omega | (dsimp only; omega) : x8.length ≤ x2.length)
end Go.Proofs.YtiacnhhmkdkpmaaGreatDoorA.W
