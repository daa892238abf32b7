/- The texts of the proof, one behind the other: W3, W4, W5, W6, W7, W8. -/
import Derived.Test.YtiacnhhmkdkpmaaGreatDoorCMc3
set_option maxRecDepth 100000
set_option linter.unusedVariables false
namespace Go.Proofs.YtiacnhhmkdkpmaaGreatDoorC.W
open Go Go.Ae
abbrev T131 := LqS × LqS × Unit → Option (Bool × Unit)
def E131 (f : T131) : FEnt := ⟨f131_ins, f131_outs, f⟩
def K131 : Calls' := fun f => Ae.lookA f []
theorem kok131 : KOk Tryz.prog (K131) := (kok_nil _)
def F131 : T131 := fun (x0, x1, _) =>
 bif decide ((↑x0.length : Int) ≥ (↑x1.length : Int)) then
 bif decide (0 ≤ (↑x1.length : Int)) && decide ((↑x1.length : Int) ≤ (↑x0.length : Int)) then
 some (List.take (↑x1.length : Int).toNat x0 == x1, ())
 else none
 else some (false, ())
theorem h131 : AqF (K131) 0 Tryz.f131 .nil f131_ins f131_outs (F131) := fun v => by kernel_rfl
def C131 : T131 := F131
theorem ok131 : FnOk Tryz.prog 131 (E131 C131) :=
 fnx (n := .nil) kok131 Tryz.func131 (by kernel_rfl) (by kernel_rfl) (ann_nil _) (fun v => by kernel_rfl) (h131)
abbrev T166 := LqS × LqS × Unit → Option (LqS × Bool × Unit)
def E166 (f : T166) : FEnt := ⟨f166_ins, f166_outs, f⟩
def K166 (f131 : T131) : Calls' := fun f => Ae.lookA f [(131, E131 f131)]
theorem kok166 : KOk Tryz.prog (K166 C131) := (kok_cons ok131 (kok_nil _))
def F166 (f131 : T131) : T166 := fun (x0, x1, _) =>
 (f131 (x0, x1, ())).bind fun v =>
 bif !v.1 then some (x0, false, ())
 else
 bif decide (0 ≤ (↑x1.length : Int)) && decide ((↑x1.length : Int) ≤ (↑x0.length : Int)) then
 some (List.drop (↑x1.length : Int).toNat x0, true, ())
 else none
theorem h166 (f131 : T131) : AqF (K166 f131) 0 Tryz.f166 .nil f166_ins f166_outs (F166 f131) := fun v => by kernel_rfl
def C166 : T166 := F166 C131
theorem ok166 : FnOk Tryz.prog 166 (E166 C166) :=
 fnx (n := .nil) kok166 Tryz.func166 (by kernel_rfl) (by kernel_rfl) (ann_nil _) (fun v => by kernel_rfl) (h166 C131)
abbrev T132 := LqS × LqS × Unit → Option (LqS × Bool × Unit)
def E132 (f : T132) : FEnt := ⟨f132_ins, f132_outs, f⟩
def K132 (f166 : T166) : Calls' := fun f => Ae.lookA f [(166, E166 f166)]
theorem kok132 : KOk Tryz.prog (K132 C166) := (kok_cons ok166 (kok_nil _))
def F132 (f166 : T166) : T132 := fun (x0, x1, _) =>
 (f166 (x0, x1, ())).bind fun v => some (v.1, v.2.1, ())
theorem h132 (f166 : T166) : AqF (K132 f166) 0 Tryz.f132 .nil f132_ins f132_outs (F132 f166) := fun v => by kernel_rfl
def C132 : T132 := F132 C166
theorem ok132 : FnOk Tryz.prog 132 (E132 C132) :=
 fnx (n := .nil) kok132 Tryz.func132 (by kernel_rfl) (by kernel_rfl) (ann_nil _) (fun v => by kernel_rfl) (h132 C166)
abbrev T155 := Int × Unit → Option (Bool × Unit)
def E155 (f : T155) : FEnt := ⟨f155_ins, f155_outs, f⟩
def K155 : Calls' := fun f => Ae.lookA f []
theorem kok155 : KOk Tryz.prog (K155) := (kok_nil _)
def F155 : T155 := fun (x0, _) =>
 bif decide (x0 ≥ 0) then
 bif decide (x0 ≤ 1114111) then
 bif decide (x0 ≥ 55296) then some (bif decide (x0 ≤ 57343) then false else true, ())
 else some (!false, ())
 else some (false, ())
 else some (false, ())
theorem h155 : AqF (K155) 0 Tryz.f155 .nil f155_ins f155_outs (F155) := fun v => by kernel_rfl
def C155 : T155 := F155
theorem ok155 : FnOk Tryz.prog 155 (E155 C155) :=
 fnx (n := .nil) kok155 Tryz.func155 (by kernel_rfl) (by kernel_rfl) (ann_nil _) (fun v => by kernel_rfl) (h155)
abbrev T122 := Int × Unit → Option (Int × Unit)
def E122 (f : T122) : FEnt := ⟨f122_ins, f122_outs, f⟩
def K122 (f155 : T155) : Calls' := fun f => Ae.lookA f [(155, E155 f155)]
theorem kok122 : KOk Tryz.prog (K122 C155) := (kok_cons ok155 (kok_nil _))
def F122 (f155 : T155) : T122 := fun (x0, _) =>
 (f155 (x0, ())).bind fun v =>
 bif !v.1 then some (0, ())
 else
 bif decide (x0 ≤ 127) then some (1, ())
 else
 bif decide (x0 ≤ 2047) then some (2, ())
 else bif decide (x0 ≤ 65535) then some (3, ()) else some (4, ())
theorem h122 (f155 : T155) : AqF (K122 f155) 0 Tryz.f122 .nil f122_ins f122_outs (F122 f155) := fun v => by kernel_rfl
def C122 : T122 := F122 C155
theorem ok122 : FnOk Tryz.prog 122 (E122 C122) :=
 fnx (n := .nil) kok122 Tryz.func122 (by kernel_rfl) (by kernel_rfl) (ann_nil _) (fun v => by kernel_rfl) (h122 C155)
abbrev T178_l0 := List (Int) × Int × Int × LqS × Unit → Option ((LqS × Unit) ⊕ (LqS × Bool × Unit))
def E178_l0 (f : T178_l0) : LEnt := ⟨f178_l0_ins, f178_l0_outs, f⟩
abbrev T178 := List (Int) × Unit → Option (LqS × Bool × Unit)
def E178 (f : T178) : FEnt := ⟨f178_ins, f178_outs, f⟩
def K178 (f122 : T122) : Calls' := fun f => Ae.lookA f [(122, E122 f122)]
theorem kok178 : KOk Tryz.prog (K178 C122) := (kok_cons ok122 (kok_nil _))
def F178_l0 (f122 : T122) : LpF (List (Int) × Int × Int × LqS × Unit) ((LqS × Unit) ⊕ (LqS × Bool × Unit)) := fun (x0, x1, x2, x3, _) =>
 bif decide (x2 < x1) then
 bif decide (0 ≤ x2) && decide (x2 < (↑x0.length : Int)) then
 (f122 (x0.getD x2.toNat 0, ())).bind fun v =>
 bif v.1 == 0 then some (Sum.inr (Sum.inr ([], false, ())))
 else
 bif v.1 == 1 then
 bif
 decide
 (x3.length + [UInt8.ofNat (IntKind.u8.wrap (x0.getD x2.toNat 0)).toNat].length ≤
 140737488355328 / 1) then
 some
 (Sum.inl
 (x0, x1, IntKind.i64.wrap (x2 + 1),
 x3 ++ [UInt8.ofNat (IntKind.u8.wrap (x0.getD x2.toNat 0)).toNat], ()))
 else none
 else
 bif v.1 == 2 then
 bif
 decide
 (x3.length +
 [UInt8.ofNat
 (intBits BinOp.or IntKind.u8 192
 (IntKind.u8.wrap
 (Int.fdiv (x0.getD x2.toNat 0)
 (2 ^ min 6 IntKind.i32.bits)))).toNat,
 UInt8.ofNat
 (intBits BinOp.or IntKind.u8 128
 (IntKind.u8.wrap
 (intBits BinOp.and IntKind.i32 (x0.getD x2.toNat 0)
 63))).toNat].length ≤
 140737488355328 / 1) then
 some
 (Sum.inl
 (x0, x1, IntKind.i64.wrap (x2 + 1),
 x3 ++
 [UInt8.ofNat
 (intBits BinOp.or IntKind.u8 192
 (IntKind.u8.wrap
 (Int.fdiv (x0.getD x2.toNat 0)
 (2 ^ min 6 IntKind.i32.bits)))).toNat,
 UInt8.ofNat
 (intBits BinOp.or IntKind.u8 128
 (IntKind.u8.wrap
 (intBits BinOp.and IntKind.i32 (x0.getD x2.toNat 0)
 63))).toNat],
 ()))
 else none
 else
 bif v.1 == 3 then
 bif
 decide
 (x3.length +
 [UInt8.ofNat
 (intBits BinOp.or IntKind.u8 224
 (IntKind.u8.wrap
 (Int.fdiv (x0.getD x2.toNat 0)
 (2 ^ min 12 IntKind.i32.bits)))).toNat,
 UInt8.ofNat
 (intBits BinOp.or IntKind.u8 128
 (IntKind.u8.wrap
 (intBits BinOp.and IntKind.i32
 (Int.fdiv (x0.getD x2.toNat 0)
 (2 ^ min 6 IntKind.i32.bits))
 63))).toNat,
 UInt8.ofNat
 (intBits BinOp.or IntKind.u8 128
 (IntKind.u8.wrap
 (intBits BinOp.and IntKind.i32 (x0.getD x2.toNat 0)
 63))).toNat].length ≤
 140737488355328 / 1) then
 some
 (Sum.inl
 (x0, x1, IntKind.i64.wrap (x2 + 1),
 x3 ++
 [UInt8.ofNat
 (intBits BinOp.or IntKind.u8 224
 (IntKind.u8.wrap
 (Int.fdiv (x0.getD x2.toNat 0)
 (2 ^ min 12 IntKind.i32.bits)))).toNat,
 UInt8.ofNat
 (intBits BinOp.or IntKind.u8 128
 (IntKind.u8.wrap
 (intBits BinOp.and IntKind.i32
 (Int.fdiv (x0.getD x2.toNat 0)
 (2 ^ min 6 IntKind.i32.bits))
 63))).toNat,
 UInt8.ofNat
 (intBits BinOp.or IntKind.u8 128
 (IntKind.u8.wrap
 (intBits BinOp.and IntKind.i32 (x0.getD x2.toNat 0)
 63))).toNat],
 ()))
 else none
 else
 bif v.1 == 4 then
 bif
 decide
 (x3.length +
 [UInt8.ofNat
 (intBits BinOp.or IntKind.u8 240
 (IntKind.u8.wrap
 (Int.fdiv (x0.getD x2.toNat 0)
 (2 ^ min 18 IntKind.i32.bits)))).toNat,
 UInt8.ofNat
 (intBits BinOp.or IntKind.u8 128
 (IntKind.u8.wrap
 (intBits BinOp.and IntKind.i32
 (Int.fdiv (x0.getD x2.toNat 0)
 (2 ^ min 12 IntKind.i32.bits))
 63))).toNat,
 UInt8.ofNat
 (intBits BinOp.or IntKind.u8 128
 (IntKind.u8.wrap
 (intBits BinOp.and IntKind.i32
 (Int.fdiv (x0.getD x2.toNat 0)
 (2 ^ min 6 IntKind.i32.bits))
 63))).toNat,
 UInt8.ofNat
 (intBits BinOp.or IntKind.u8 128
 (IntKind.u8.wrap
 (intBits BinOp.and IntKind.i32 (x0.getD x2.toNat 0)
 63))).toNat].length ≤
 140737488355328 / 1) then
 some
 (Sum.inl
 (x0, x1, IntKind.i64.wrap (x2 + 1),
 x3 ++
 [UInt8.ofNat
 (intBits BinOp.or IntKind.u8 240
 (IntKind.u8.wrap
 (Int.fdiv (x0.getD x2.toNat 0)
 (2 ^ min 18 IntKind.i32.bits)))).toNat,
 UInt8.ofNat
 (intBits BinOp.or IntKind.u8 128
 (IntKind.u8.wrap
 (intBits BinOp.and IntKind.i32
 (Int.fdiv (x0.getD x2.toNat 0)
 (2 ^ min 12 IntKind.i32.bits))
 63))).toNat,
 UInt8.ofNat
 (intBits BinOp.or IntKind.u8 128
 (IntKind.u8.wrap
 (intBits BinOp.and IntKind.i32
 (Int.fdiv (x0.getD x2.toNat 0)
 (2 ^ min 6 IntKind.i32.bits))
 63))).toNat,
 UInt8.ofNat
 (intBits BinOp.or IntKind.u8 128
 (IntKind.u8.wrap
 (intBits BinOp.and IntKind.i32 (x0.getD x2.toNat 0)
 63))).toNat],
 ()))
 else none
 else some (Sum.inl (x0, x1, IntKind.i64.wrap (x2 + 1), x3, ()))
 else none
 else some (Sum.inr (Sum.inl (x3, ())))
theorem h178_l0 (f122 : T122) : AqL (K178 f122) 0 (subc (code Tryz.f178) [1, 1, 0, 1, 0, 0]) .nil f178_l0_ins f178_l0_outs (F178_l0 f122) := fun v => by kernel_rfl
def C178_l0 : T178_l0 := loopN (F178_l0 C122) big
theorem k178_l0 : FragOk Tryz.prog 0 (fun Q a w => (Code.loop (subc (code Tryz.f178) [1, 1, 0, 1, 0, 0])).wp Tryz.prog Q a w) (E178_l0 C178_l0) :=
 frag_big (ins := f178_l0_ins) (os := f178_l0_outs) (C := C178_l0) (frag_loop (ins := f178_l0_ins) (os := f178_l0_outs) (n := .nil) (F := F178_l0 C122) hm hΓ kok178 (fun _ => big) (ann_nil _) (h178_l0 C122)) rfl
def N178 (f178_l0 : T178_l0) : Ann := (.seq .nil (.seq .nil (.seq (.seq .nil (.blk (.loop (E178_l0 f178_l0)))) .nil)))
def F178 (f122 : T122) (f178_l0 : T178_l0) : T178 := fun (x0, _) =>
 (f178_l0 (x0, (↑x0.length : Int), 0, [], ())).bind fun v =>
 Sum.elim (fun v => some (v.1, true, ())) (fun v => some (v.1, v.2.1, ())) v
theorem h178 (f122 : T122) (f178_l0 : T178_l0) : AqF (K178 f122) 0 Tryz.f178 (N178 f178_l0) f178_ins f178_outs (F178 f122 f178_l0) := fun v => by kernel_rfl
def C178 : T178 := F178 C122 C178_l0
theorem ok178 : FnOk Tryz.prog 178 (E178 C178) :=
 fnx (n := (N178 C178_l0)) kok178 Tryz.func178 (by kernel_rfl) (by kernel_rfl) (ann_obs (And.intro k178_l0 trivial) (by kernel_rfl)) (fun v => by kernel_rfl) (h178 C122 C178_l0)
abbrev T238 := Int × Int × Int × Int × Unit → Option (Bool × Int × Unit)
def E238 (f : T238) : FEnt := ⟨f238_ins, f238_outs, f⟩
def K238 : Calls' := fun f => Ae.lookA f []
theorem kok238 : KOk Tryz.prog (K238) := (kok_nil _)
def F238 : T238 := fun (x0, x1, x2, x3, _) =>
 bif decide (x0 ≤ x3) then some (decide (x3 ≤ x1), x3, ()) else some (false, x3, ())
theorem h238 : AqF (K238) 1 Tryz.f238 .nil f238_ins f238_outs (F238) := fun v => by kernel_rfl
def C238 : T238 := F238
theorem ok238 : FnOk Tryz.prog 238 (E238 C238) :=
 fnx (n := .nil) kok238 Tryz.func238 (by kernel_rfl) (by kernel_rfl) (ann_nil _) (fun v => by kernel_rfl) (h238)
abbrev T237_l0 := LqC × Int × Int × Int × Unit → Option ((Int × Unit) ⊕ (Int × Int × Unit))
def E237_l0 (f : T237_l0) : LEnt := ⟨f237_l0_ins, f237_l0_outs, f⟩
abbrev T237 := LqC × Int × Unit → Option (Int × Int × Unit)
def E237 (f : T237) : FEnt := ⟨f237_ins, f237_outs, f⟩
def K237 (f238 : T238) : Calls' := fun f => Ae.lookA f [(238, E238 f238)]
theorem kok237 : KOk Tryz.prog (K237 C238) := (kok_cons ok238 (kok_nil _))
def F237_l0 (f238 : T238) : LpF (LqC × Int × Int × Int × Unit) ((Int × Unit) ⊕ (Int × Int × Unit)) := fun (x0, x1, x2, x3, _) =>
 bif decide (x2 < x1) then
 bif decide (0 ≤ x2) && decide (x2 < (↑x0.length : Int)) then
 (f238
 ((x0.getD x2.toNat (0, (0, 0))).1,
 (x0.getD x2.toNat
 (0, (0, 0))).2.1,
 (x0.getD x2.toNat
 (0, (0, 0))).2.2,
 x3, ())).bind
 fun v =>
 bif v.1 then some (Sum.inr (Sum.inr (x2, v.2.1, ())))
 else some (Sum.inl (x0, x1, IntKind.i64.wrap (x2 + 1), v.2.1, ()))
 else none
 else some (Sum.inr (Sum.inl (x3, ())))
theorem h237_l0 (f238 : T238) : AqL (K237 f238) 1 (subc (code Tryz.f237) [1, 0, 1, 0, 0]) .nil f237_l0_ins f237_l0_outs (F237_l0 f238) := fun v => by kernel_rfl
def C237_l0 : T237_l0 := loopN (F237_l0 C238) big
theorem k237_l0 : FragOk Tryz.prog 1 (fun Q a w => (Code.loop (subc (code Tryz.f237) [1, 0, 1, 0, 0])).wp Tryz.prog Q a w) (E237_l0 C237_l0) :=
 frag_big (ins := f237_l0_ins) (os := f237_l0_outs) (C := C237_l0) (frag_loop (ins := f237_l0_ins) (os := f237_l0_outs) (n := .nil) (F := F237_l0 C238) hm hΓ kok237 (fun _ => big) (ann_nil _) (h237_l0 C238)) rfl
def N237 (f237_l0 : T237_l0) : Ann := (.seq .nil (.seq (.seq .nil (.blk (.loop (E237_l0 f237_l0)))) .nil))
def F237 (f238 : T238) (f237_l0 : T237_l0) : T237 := fun (x0, x1, _) =>
 (f237_l0 (x0, (↑x0.length : Int), 0, x1, ())).bind fun v =>
 Sum.elim (fun v => some (-1, v.1, ())) (fun v => some (v.1, v.2.1, ())) v
theorem h237 (f238 : T238) (f237_l0 : T237_l0) : AqF (K237 f238) 1 Tryz.f237 (N237 f237_l0) f237_ins f237_outs (F237 f238 f237_l0) := fun v => by kernel_rfl
def C237 : T237 := F237 C238 C237_l0
theorem ok237 : FnOk Tryz.prog 237 (E237 C237) :=
 fnx (n := (N237 C237_l0)) kok237 Tryz.func237 (by kernel_rfl) (by kernel_rfl) (ann_obs (And.intro k237_l0 trivial) (by kernel_rfl)) (fun v => by kernel_rfl) (h237 C238 C237_l0)
abbrev T211 := LqA × LqB × LqC × Int × Unit → Option (Int × Unit)
def E211 (f : T211) : FEnt := ⟨f211_ins, f211_outs, f⟩
def K211 (f237 : T237) : Calls' := fun f => Ae.lookA f [(237, E237 f237)]
theorem kok211 : KOk Tryz.prog (K211 C237) := (kok_cons ok237 (kok_nil _))
def F211 (f237 : T237) : T211 := fun (x0, x1, x2, x3, _) =>
 (f237 (x2, x3, ())).bind fun v =>
 bif decide (v.1 < 0) then some (v.2.1, ())
 else
 bif decide (0 ≤ v.1) && decide (v.1 < (↑x2.length : Int)) then
 some
 (IntKind.i32.wrap
 (v.2.1 +
 (x2.getD (Int.toNat v.1)
 (0, (0, 0))).2.2),
 ())
 else none
theorem h211 (f237 : T237) : AqF (K211 f237) 0 Tryz.f211 .nil f211_ins f211_outs (F211 f237) := fun v => by kernel_rfl
def C211 : T211 := F211 C237
theorem ok211 : FnOk Tryz.prog 211 (E211 C211) :=
 fnx (n := .nil) kok211 Tryz.func211 (by kernel_rfl) (by kernel_rfl) (ann_nil _) (fun v => by kernel_rfl) (h211 C237)
abbrev T210v1_l0 := LqA × LqB × LqC × List (Int) × Int × Int × List (Int) × Unit → Option (List (Int) × Unit)
def E210v1_l0 (f : T210v1_l0) : LEnt := ⟨f210v1_l0_ins, f210v1_l0_outs, f⟩
abbrev T210v1 := List (Int) × LqA × LqB × LqC × Unit → Option (List (Int) × Unit)
def E210v1 (f : T210v1) : FEnt := ⟨f210v1_ins, f210v1_outs, f⟩
def K210v1 (f211 : T211) : Calls' := fun f => Ae.lookA f [(211, E211 f211)]
theorem kok210v1 : KOk Tryz.prog (K210v1 C211) := (kok_cons ok211 (kok_nil _))
def F210v1_l0 (f211 : T211) : LpF (LqA × LqB × LqC × List (Int) × Int × Int × List (Int) × Unit) (List (Int) × Unit) := fun (x0, x1, x2, x3, x4, x5, x6, _) =>
 bif decide (x5 < x4) then
 bif decide (0 ≤ x5) && decide (x5 < (↑x3.length : Int)) then
 (f211 (x0, x1, x2, x3.getD x5.toNat 0, ())).bind fun v =>
 bif decide (x6.length + [v.1].length ≤ 140737488355328 / 4) then
 some (Sum.inl (x0, x1, x2, x3, x4, IntKind.i64.wrap (x5 + 1), x6 ++ [v.1], ()))
 else none
 else none
 else some (Sum.inr (x6, ()))
theorem h210v1_l0 (f211 : T211) : AqL (K210v1 f211) 0 (subc (code Tryz.f210) [1, 1, 0, 1, 0, 0]) .nil f210v1_l0_ins f210v1_l0_outs (F210v1_l0 f211) := fun v => by kernel_rfl
def C210v1_l0 : T210v1_l0 := loopN (F210v1_l0 C211) big
theorem k210v1_l0 : FragOk Tryz.prog 0 (fun Q a w => (Code.loop (subc (code Tryz.f210) [1, 1, 0, 1, 0, 0])).wp Tryz.prog Q a w) (E210v1_l0 C210v1_l0) :=
 frag_big (ins := f210v1_l0_ins) (os := f210v1_l0_outs) (C := C210v1_l0) (frag_loop (ins := f210v1_l0_ins) (os := f210v1_l0_outs) (n := .nil) (F := F210v1_l0 C211) hm hΓ kok210v1 (fun _ => big) (ann_nil _) (h210v1_l0 C211)) rfl
def N210v1 (f210v1_l0 : T210v1_l0) : Ann := (.seq .nil (.seq .nil (.seq (.seq .nil (.blk (.loop (E210v1_l0 f210v1_l0)))) .nil)))
def F210v1 (f211 : T211) (f210v1_l0 : T210v1_l0) : T210v1 := fun (x0, x1, x2, x3, _) =>
 (f210v1_l0 (x1, x2, x3, x0, (↑x0.length : Int), 0, [], ())).bind fun v => some (v.1, ())
theorem h210v1 (f211 : T211) (f210v1_l0 : T210v1_l0) : AqF (K210v1 f211) 0 Tryz.f210 (N210v1 f210v1_l0) f210v1_ins f210v1_outs (F210v1 f211 f210v1_l0) := fun v => by kernel_rfl
def C210v1 : T210v1 := F210v1 C211 C210v1_l0
theorem ok210v1 : FnOk Tryz.prog 210 (E210v1 C210v1) :=
 fnx (n := (N210v1 C210v1_l0)) kok210v1 Tryz.func210 (by kernel_rfl) (by kernel_rfl) (ann_obs (And.intro k210v1_l0 trivial) (by kernel_rfl)) (fun v => by kernel_rfl) (h210v1 C211 C210v1_l0)
abbrev T179 := LqA × LqB × LqC × List (Int) × Unit → Option (List (Int) × Unit)
def E179 (f : T179) : FEnt := ⟨f179_ins, f179_outs, f⟩
def K179 (f210v1 : T210v1) : Calls' := fun f => Ae.lookA f [(210, E210v1 f210v1)]
theorem kok179 : KOk Tryz.prog (K179 C210v1) := (kok_cons ok210v1 (kok_nil _))
def F179 (f210v1 : T210v1) : T179 := fun (x0, x1, x2, x3, _) =>
 (f210v1 (x3, x0, x1, x2, ())).bind fun v => some (v.1, ())
theorem h179 (f210v1 : T210v1) : AqF (K179 f210v1) 0 Tryz.f179 .nil f179_ins f179_outs (F179 f210v1) := fun v => by kernel_rfl
def C179 : T179 := F179 C210v1
theorem ok179 : FnOk Tryz.prog 179 (E179 C179) :=
 fnx (n := .nil) kok179 Tryz.func179 (by kernel_rfl) (by kernel_rfl) (ann_nil _) (fun v => by kernel_rfl) (h179 C210v1)
abbrev T212 := LqA × LqB × LqC × Int × Unit → Option (Int × Unit)
def E212 (f : T212) : FEnt := ⟨f212_ins, f212_outs, f⟩
def K212 (f216 : T216) : Calls' := fun f => Ae.lookA f [(216, E216 f216)]
theorem kok212 : KOk Tryz.prog (K212 C216) := (kok_cons ok216 (kok_nil _))
def F212 (f216 : T216) : T212 := fun (x0, x1, x2, x3, _) =>
 bif decide (x3 < 65281) then some (x3, ())
 else
 bif decide (x3 > 65374) then some (x3, ())
 else (f216 (x0, x1, x2, x3, ())).bind fun v => some (v.2.1, ())
theorem h212 (f216 : T216) : AqF (K212 f216) 0 Tryz.f212 .nil f212_ins f212_outs (F212 f216) := fun v => by kernel_rfl
def C212 : T212 := F212 C216
theorem ok212 : FnOk Tryz.prog 212 (E212 C212) :=
 fnx (n := .nil) kok212 Tryz.func212 (by kernel_rfl) (by kernel_rfl) (ann_nil _) (fun v => by kernel_rfl) (h212 C216)
abbrev T210_l0 := LqA × LqB × LqC × List (Int) × Int × Int × List (Int) × Unit → Option (List (Int) × Unit)
def E210_l0 (f : T210_l0) : LEnt := ⟨f210_l0_ins, f210_l0_outs, f⟩
abbrev T210 := List (Int) × LqA × LqB × LqC × Unit → Option (List (Int) × Unit)
def E210 (f : T210) : FEnt := ⟨f210_ins, f210_outs, f⟩
def K210 (f212 : T212) : Calls' := fun f => Ae.lookA f [(212, E212 f212)]
theorem kok210 : KOk Tryz.prog (K210 C212) := (kok_cons ok212 (kok_nil _))
def F210_l0 (f212 : T212) : LpF (LqA × LqB × LqC × List (Int) × Int × Int × List (Int) × Unit) (List (Int) × Unit) := fun (x0, x1, x2, x3, x4, x5, x6, _) =>
 bif decide (x5 < x4) then
 bif decide (0 ≤ x5) && decide (x5 < (↑x3.length : Int)) then
 (f212 (x0, x1, x2, x3.getD x5.toNat 0, ())).bind fun v =>
 bif decide (x6.length + [v.1].length ≤ 140737488355328 / 4) then
 some (Sum.inl (x0, x1, x2, x3, x4, IntKind.i64.wrap (x5 + 1), x6 ++ [v.1], ()))
 else none
 else none
 else some (Sum.inr (x6, ()))
theorem h210_l0 (f212 : T212) : AqL (K210 f212) 0 (subc (code Tryz.f210) [1, 1, 0, 1, 0, 0]) .nil f210_l0_ins f210_l0_outs (F210_l0 f212) := fun v => by kernel_rfl
def C210_l0 : T210_l0 := loopN (F210_l0 C212) big
theorem k210_l0 : FragOk Tryz.prog 0 (fun Q a w => (Code.loop (subc (code Tryz.f210) [1, 1, 0, 1, 0, 0])).wp Tryz.prog Q a w) (E210_l0 C210_l0) :=
 frag_big (ins := f210_l0_ins) (os := f210_l0_outs) (C := C210_l0) (frag_loop (ins := f210_l0_ins) (os := f210_l0_outs) (n := .nil) (F := F210_l0 C212) hm hΓ kok210 (fun _ => big) (ann_nil _) (h210_l0 C212)) rfl
def N210 (f210_l0 : T210_l0) : Ann := (.seq .nil (.seq .nil (.seq (.seq .nil (.blk (.loop (E210_l0 f210_l0)))) .nil)))
def F210 (f212 : T212) (f210_l0 : T210_l0) : T210 := fun (x0, x1, x2, x3, _) =>
 (f210_l0 (x1, x2, x3, x0, (↑x0.length : Int), 0, [], ())).bind fun v => some (v.1, ())
theorem h210 (f212 : T212) (f210_l0 : T210_l0) : AqF (K210 f212) 0 Tryz.f210 (N210 f210_l0) f210_ins f210_outs (F210 f212 f210_l0) := fun v => by kernel_rfl
def C210 : T210 := F210 C212 C210_l0
theorem ok210 : FnOk Tryz.prog 210 (E210 C210) :=
 fnx (n := (N210 C210_l0)) kok210 Tryz.func210 (by kernel_rfl) (by kernel_rfl) (ann_obs (And.intro k210_l0 trivial) (by kernel_rfl)) (fun v => by kernel_rfl) (h210 C212 C210_l0)
abbrev T180 := LqA × LqB × LqC × List (Int) × Unit → Option (List (Int) × Unit)
def E180 (f : T180) : FEnt := ⟨f180_ins, f180_outs, f⟩
def K180 (f210 : T210) : Calls' := fun f => Ae.lookA f [(210, E210 f210)]
theorem kok180 : KOk Tryz.prog (K180 C210) := (kok_cons ok210 (kok_nil _))
def F180 (f210 : T210) : T180 := fun (x0, x1, x2, x3, _) =>
 (f210 (x3, x0, x1, x2, ())).bind fun v => some (v.1, ())
theorem h180 (f210 : T210) : AqF (K180 f210) 0 Tryz.f180 .nil f180_ins f180_outs (F180 f210) := fun v => by kernel_rfl
def C180 : T180 := F180 C210
theorem ok180 : FnOk Tryz.prog 180 (E180 C180) :=
 fnx (n := .nil) kok180 Tryz.func180 (by kernel_rfl) (by kernel_rfl) (ann_nil _) (fun v => by kernel_rfl) (h180 C210)
abbrev T298 := Int × Int × Int × Int × Int × Unit → Option (Bool × Int × Unit)
def E298 (f : T298) : FEnt := ⟨f298_ins, f298_outs, f⟩
def K298 : Calls' := fun f => Ae.lookA f []
theorem kok298 : KOk Tryz.prog (K298) := (kok_nil _)
def F298 : T298 := fun (x0, x1, x2, x3, x4, _) =>
 bif decide (x0 ≤ x4) then some (decide (x4 ≤ x1), x4, ()) else some (false, x4, ())
theorem h298 : AqF (K298) 1 Tryz.f298 .nil f298_ins f298_outs (F298) := fun v => by kernel_rfl
def C298 : T298 := F298
theorem ok298 : FnOk Tryz.prog 298 (E298 C298) :=
 fnx (n := .nil) kok298 Tryz.func298 (by kernel_rfl) (by kernel_rfl) (ann_nil _) (fun v => by kernel_rfl) (h298)
abbrev T297_l0 := LqB × Int × Int × Int × Unit → Option ((Int × Unit) ⊕ (Int × Int × Unit))
def E297_l0 (f : T297_l0) : LEnt := ⟨f297_l0_ins, f297_l0_outs, f⟩
abbrev T297 := LqB × Int × Unit → Option (Int × Int × Unit)
def E297 (f : T297) : FEnt := ⟨f297_ins, f297_outs, f⟩
def K297 (f298 : T298) : Calls' := fun f => Ae.lookA f [(298, E298 f298)]
theorem kok297 : KOk Tryz.prog (K297 C298) := (kok_cons ok298 (kok_nil _))
def F297_l0 (f298 : T298) : LpF (LqB × Int × Int × Int × Unit) ((Int × Unit) ⊕ (Int × Int × Unit)) := fun (x0, x1, x2, x3, _) =>
 bif decide (x2 < x1) then
 bif decide (0 ≤ x2) && decide (x2 < (↑x0.length : Int)) then
 (f298
 ((x0.getD x2.toNat
 (0, (0, (0, 0)))).1,
 (x0.getD x2.toNat
 (0, (0, (0, 0)))).2.1,
 (x0.getD x2.toNat
 (0, (0, (0, 0)))).2.2.1,
 (x0.getD x2.toNat
 (0, (0, (0, 0)))).2.2.2,
 x3, ())).bind
 fun v =>
 bif v.1 then some (Sum.inr (Sum.inr (x2, v.2.1, ())))
 else some (Sum.inl (x0, x1, IntKind.i64.wrap (x2 + 1), v.2.1, ()))
 else none
 else some (Sum.inr (Sum.inl (x3, ())))
theorem h297_l0 (f298 : T298) : AqL (K297 f298) 1 (subc (code Tryz.f297) [1, 0, 1, 0, 0]) .nil f297_l0_ins f297_l0_outs (F297_l0 f298) := fun v => by kernel_rfl
def C297_l0 : T297_l0 := loopN (F297_l0 C298) big
theorem k297_l0 : FragOk Tryz.prog 1 (fun Q a w => (Code.loop (subc (code Tryz.f297) [1, 0, 1, 0, 0])).wp Tryz.prog Q a w) (E297_l0 C297_l0) :=
 frag_big (ins := f297_l0_ins) (os := f297_l0_outs) (C := C297_l0) (frag_loop (ins := f297_l0_ins) (os := f297_l0_outs) (n := .nil) (F := F297_l0 C298) hm hΓ kok297 (fun _ => big) (ann_nil _) (h297_l0 C298)) rfl
def N297 (f297_l0 : T297_l0) : Ann := (.seq .nil (.seq (.seq .nil (.blk (.loop (E297_l0 f297_l0)))) .nil))
def F297 (f298 : T298) (f297_l0 : T297_l0) : T297 := fun (x0, x1, _) =>
 (f297_l0 (x0, (↑x0.length : Int), 0, x1, ())).bind fun v =>
 Sum.elim (fun v => some (-1, v.1, ())) (fun v => some (v.1, v.2.1, ())) v
theorem h297 (f298 : T298) (f297_l0 : T297_l0) : AqF (K297 f298) 1 Tryz.f297 (N297 f297_l0) f297_ins f297_outs (F297 f298 f297_l0) := fun v => by kernel_rfl
def C297 : T297 := F297 C298 C297_l0
theorem ok297 : FnOk Tryz.prog 297 (E297 C297) :=
 fnx (n := (N297 C297_l0)) kok297 Tryz.func297 (by kernel_rfl) (by kernel_rfl) (ann_obs (And.intro k297_l0 trivial) (by kernel_rfl)) (fun v => by kernel_rfl) (h297 C298 C297_l0)
abbrev T276 := LqA × LqB × LqC × Int × Unit → Option (Int × Unit)
def E276 (f : T276) : FEnt := ⟨f276_ins, f276_outs, f⟩
def K276 (f297 : T297) : Calls' := fun f => Ae.lookA f [(297, E297 f297)]
theorem kok276 : KOk Tryz.prog (K276 C297) := (kok_cons ok297 (kok_nil _))
def F276 (f297 : T297) : T276 := fun (x0, x1, x2, x3, _) =>
 (f297 (x1, x3, ())).bind fun v =>
 bif decide (v.1 < 0) then some (0, ())
 else
 bif decide (0 ≤ v.1) && decide (v.1 < (↑x1.length : Int)) then
 some
 (IntKind.i64.wrap
 ((x1.getD (Int.toNat v.1)
 (0, (0, (0, 0)))).2.2.1 +
 IntKind.i64.wrap
 ((x1.getD (Int.toNat v.1)
 (0, (0, (0, 0)))).2.2.2 *
 IntKind.i64.wrap
 (IntKind.i32.wrap
 (v.2.1 -
 (x1.getD (Int.toNat v.1)
 (0, (0, (0, 0)))).1)))),
 ())
 else none
theorem h276 (f297 : T297) : AqF (K276 f297) 0 Tryz.f276 .nil f276_ins f276_outs (F276 f297) := fun v => by kernel_rfl
def C276 : T276 := F276 C297
theorem ok276 : FnOk Tryz.prog 276 (E276 C276) :=
 fnx (n := .nil) kok276 Tryz.func276 (by kernel_rfl) (by kernel_rfl) (ann_nil _) (fun v => by kernel_rfl) (h276 C297)
abbrev T278 := Int × Int × LqA × LqB × LqC × Unit → Option (Int × LqA × LqB × LqC × Unit)
def E278 (f : T278) : FEnt := ⟨f278_ins, f278_outs, f⟩
def K278 (f276 : T276) : Calls' := fun f => Ae.lookA f [(276, E276 f276)]
theorem kok278 : KOk Tryz.prog (K278 C276) := (kok_cons ok276 (kok_nil _))
def F278 (f276 : T276) : T278 := fun (x0, x1, x2, x3, x4, _) =>
 (f276 (x2, x3, x4, x0, ())).bind fun v =>
 (f276 (x2, x3, x4, x1, ())).bind fun v1 => some (IntKind.i64.wrap (v.1 - v1.1), x2, x3, x4, ())
theorem h278 (f276 : T276) : AqF (K278 f276) 1 Tryz.f278 .nil f278_ins f278_outs (F278 f276) := fun v => by kernel_rfl
def C278 : T278 := F278 C276
theorem ok278 : FnOk Tryz.prog 278 (E278 C278) :=
 fnx (n := .nil) kok278 Tryz.func278 (by kernel_rfl) (by kernel_rfl) (ann_nil _) (fun v => by kernel_rfl) (h278 C276)
abbrev T310_c0 := (Int × Int) × Int × Int × Int × Int × List (Int) × LqA × LqB × LqC × Unit → Option ((Int × Int) × Int × Int × Int × Int × List (Int) × LqA × LqB × LqC × Unit)
def E310_c0 (f : T310_c0) : LEnt := ⟨f310_c0_ins, f310_c0_outs, f⟩
abbrev T310_l0 := (Int × Int) × Int × Int × Int × Int × List (Int) × LqA × LqB × LqC × Unit → Option ((Int × Int) × Int × Int × Int × List (Int) × LqA × LqB × LqC × Unit)
def E310_l0 (f : T310_l0) : LEnt := ⟨f310_l0_ins, f310_l0_outs, f⟩
abbrev T310_l1 := (Int × Int) × Int × Int × Int × List (Int) × LqA × LqB × LqC × Unit → Option (List (Int) × LqA × LqB × LqC × Unit)
def E310_l1 (f : T310_l1) : LEnt := ⟨f310_l1_ins, f310_l1_outs, f⟩
abbrev T310 := (Int × Int) × Int × Int × List (Int) × LqA × LqB × LqC × Unit → Option (List (Int) × LqA × LqB × LqC × Unit)
def E310 (f : T310) : FEnt := ⟨f310_ins, f310_outs, f⟩
def K310 (f278 : T278) : Calls' := fun f => Ae.lookA f [(278, E278 f278)]
theorem kok310 : KOk Tryz.prog (K310 C278) := (kok_cons ok278 (kok_nil _))
def F310_c0 (f278 : T278) : T310_c0 := fun (x0, x1, x2, x3, x4, x5, x6, x7, x8, _) =>
 bif decide (0 ≤ IntKind.i64.wrap (x4 - 1)) && decide (IntKind.i64.wrap (x4 - 1) < (↑(Int.toNat x0.2) : Int)) then
 bif decide (0 ≤ x4) && decide (x4 < (↑(Int.toNat x0.2) : Int)) then
 bif decide (0 ≤ x4) && decide (x4 < (↑(Int.toNat x0.2) : Int)) then
 bif
 decide (0 ≤ IntKind.i64.wrap (x4 - 1)) &&
 decide (IntKind.i64.wrap (x4 - 1) < (↑(Int.toNat x0.2) : Int)) then
 some
 (((↑(Int.toNat x0.1) : Int), (↑(Int.toNat x0.2) : Int)), x1, x2, x3, IntKind.i64.wrap (x4 - 1),
 (x5.set (Int.toNat x0.1 + x4.toNat)
 (x5.getD (Int.toNat x0.1 + (IntKind.i64.wrap (x4 - 1)).toNat) 0)).set
 (Int.toNat x0.1 + (IntKind.i64.wrap (x4 - 1)).toNat)
 (x5.getD (Int.toNat x0.1 + x4.toNat) 0),
 x6, x7, x8, ())
 else none
 else none
 else none
 else none
theorem h310_c0 (f278 : T278) : AqC (K310 f278) 2 (subc (code Tryz.f310) [1, 0, 0, 1, 0, 0, 1, 0, 0, 1]) .nil f310_c0_ins f310_c0_outs (F310_c0 f278) := fun v => by kernel_rfl
def C310_c0 : T310_c0 := F310_c0 C278
theorem k310_c0 : FragOk Tryz.prog 2 (fun Q a w => (subc (code Tryz.f310) [1, 0, 0, 1, 0, 0, 1, 0, 0, 1]).wp Tryz.prog Q a w) (E310_c0 C310_c0) :=
 frag_code (ins := f310_c0_ins) (os := f310_c0_outs) (n := .nil) (F := C310_c0) hm hΓ kok310 (ann_nil _) (h310_c0 C278)
def N310_l0 (f310_c0 : T310_c0) : Ann := (.cut .nil (E310_c0 f310_c0))
def F310_l0 (f278 : T278) (f310_c0 : T310_c0) : LpF ((Int × Int) × Int × Int × Int × Int × List (Int) × LqA × LqB × LqC × Unit) ((Int × Int) × Int × Int × Int × List (Int) × LqA × LqB × LqC × Unit) := fun (x0, x1, x2, x3, x4, x5, x6, x7, x8, _) =>
 bif decide (x4 > x1) then
 bif decide (0 ≤ x4) && decide (x4 < (↑(Int.toNat x0.2) : Int)) then
 bif decide (0 ≤ IntKind.i64.wrap (x4 - 1)) && decide (IntKind.i64.wrap (x4 - 1) < (↑(Int.toNat x0.2) : Int)) then
 (f278
 (x5.getD (Int.toNat x0.1 + x4.toNat) 0,
 x5.getD (Int.toNat x0.1 + (IntKind.i64.wrap (x4 - 1)).toNat) 0, x6, x7, x8,
 ())).bind
 fun v =>
 bif decide (v.1 < 0) then
 (f310_c0
 (((↑(Int.toNat x0.1) : Int), (↑(Int.toNat x0.2) : Int)), x1, x2, x3, x4, x5, v.2.1,
 v.2.2.1, v.2.2.2.1, ())).bind
 fun v =>
 some
 (Sum.inl
 (((↑(Int.toNat v.1.1) : Int), (↑(Int.toNat v.1.2) : Int)), v.2.1, v.2.2.1,
 v.2.2.2.1, v.2.2.2.2.1, v.2.2.2.2.2.1,
 v.2.2.2.2.2.2.1, v.2.2.2.2.2.2.2.1,
 v.2.2.2.2.2.2.2.2.1, ()))
 else
 some
 (Sum.inr
 (((↑(Int.toNat x0.1) : Int), (↑(Int.toNat x0.2) : Int)), x1, x2, x3, x5, v.2.1, v.2.2.1,
 v.2.2.2.1, ()))
 else none
 else none
 else some (Sum.inr (((↑(Int.toNat x0.1) : Int), (↑(Int.toNat x0.2) : Int)), x1, x2, x3, x5, x6, x7, x8, ()))
theorem h310_l0 (f278 : T278) (f310_c0 : T310_c0) : AqL (K310 f278) 2 (subc (code Tryz.f310) [1, 0, 0, 1, 0, 0, 1, 0, 0]) (N310_l0 f310_c0) f310_l0_ins f310_l0_outs (F310_l0 f278 f310_c0) := fun v => by kernel_rfl
def C310_l0 : T310_l0 := loopN (F310_l0 C278 C310_c0) big
theorem k310_l0 : FragOk Tryz.prog 2 (fun Q a w => (Code.loop (subc (code Tryz.f310) [1, 0, 0, 1, 0, 0, 1, 0, 0])).wp Tryz.prog Q a w) (E310_l0 C310_l0) :=
 frag_big (ins := f310_l0_ins) (os := f310_l0_outs) (C := C310_l0) (frag_loop (ins := f310_l0_ins) (os := f310_l0_outs) (n := (N310_l0 C310_c0)) (F := F310_l0 C278 C310_c0) hm hΓ kok310 (fun _ => big) (ann_obs (And.intro k310_c0 trivial) (by kernel_rfl)) (h310_l0 C278 C310_c0)) rfl
def N310_l1 (f310_l0 : T310_l0) : Ann := (.seq .nil (.seq (.blk (.seq .nil (.blk (.loop (E310_l0 f310_l0))))) .nil))
def F310_l1 (f278 : T278) (f310_l0 : T310_l0) : LpF ((Int × Int) × Int × Int × Int × List (Int) × LqA × LqB × LqC × Unit) (List (Int) × LqA × LqB × LqC × Unit) := fun (x0, x1, x2, x3, x4, x5, x6, x7, _) =>
 bif decide (x3 < x2) then
 (f310_l0 (((↑(Int.toNat x0.1) : Int), (↑(Int.toNat x0.2) : Int)), x1, x2, x3, x3, x4, x5, x6, x7, ())).bind
 fun v =>
 some
 (Sum.inl
 (((↑(Int.toNat v.1.1) : Int), (↑(Int.toNat v.1.2) : Int)), v.2.1, v.2.2.1,
 IntKind.i64.wrap (v.2.2.2.1 + 1), v.2.2.2.2.1, v.2.2.2.2.2.1,
 v.2.2.2.2.2.2.1, v.2.2.2.2.2.2.2.1, ()))
 else some (Sum.inr (x4, x5, x6, x7, ()))
theorem h310_l1 (f278 : T278) (f310_l0 : T310_l0) : AqL (K310 f278) 2 (subc (code Tryz.f310) [1, 0, 0]) (N310_l1 f310_l0) f310_l1_ins f310_l1_outs (F310_l1 f278 f310_l0) := fun v => by kernel_rfl
def C310_l1 : T310_l1 := loopN (F310_l1 C278 C310_l0) big
theorem k310_l1 : FragOk Tryz.prog 2 (fun Q a w => (Code.loop (subc (code Tryz.f310) [1, 0, 0])).wp Tryz.prog Q a w) (E310_l1 C310_l1) :=
 frag_big (ins := f310_l1_ins) (os := f310_l1_outs) (C := C310_l1) (frag_loop (ins := f310_l1_ins) (os := f310_l1_outs) (n := (N310_l1 C310_l0)) (F := F310_l1 C278 C310_l0) hm hΓ kok310 (fun _ => big) (ann_obs (And.intro k310_l0 trivial) (by kernel_rfl)) (h310_l1 C278 C310_l0)) rfl
def N310 (f310_l1 : T310_l1) : Ann := (.seq .nil (.blk (.loop (E310_l1 f310_l1))))
def F310 (f278 : T278) (f310_l1 : T310_l1) : T310 := fun (x0, x1, x2, x3, x4, x5, x6, _) =>
 (f310_l1
 (((↑(Int.toNat x0.1) : Int), (↑(Int.toNat x0.2) : Int)), x1, x2, IntKind.i64.wrap (x1 + 1), x3, x4, x5, x6,
 ())).bind
 fun v => some (v.1, v.2.1, v.2.2.1, v.2.2.2.1, ())
theorem h310 (f278 : T278) (f310_l1 : T310_l1) : AqF (K310 f278) 2 Tryz.f310 (N310 f310_l1) f310_ins f310_outs (F310 f278 f310_l1) := fun v => by kernel_rfl
def C310 : T310 := F310 C278 C310_l1
theorem ok310 : FnOk Tryz.prog 310 (E310 C310) :=
 fnx (n := (N310 C310_l1)) kok310 Tryz.func310 (by kernel_rfl) (by kernel_rfl) (ann_obs (And.intro k310_l1 trivial) (by kernel_rfl)) (fun v => by kernel_rfl) (h310 C278 C310_l1)
abbrev T316_l0 := (Int × Int) × Int × Int × Int × Int × List (Int) × LqA × LqB × LqC × Unit → Option (List (Int) × LqA × LqB × LqC × Unit)
def E316_l0 (f : T316_l0) : LEnt := ⟨f316_l0_ins, f316_l0_outs, f⟩
abbrev T316 := (Int × Int) × Int × Int × Int × List (Int) × LqA × LqB × LqC × Unit → Option (List (Int) × LqA × LqB × LqC × Unit)
def E316 (f : T316) : FEnt := ⟨f316_ins, f316_outs, f⟩
def K316 : Calls' := fun f => Ae.lookA f []
theorem kok316 : KOk Tryz.prog (K316) := (kok_nil _)
def F316_l0 : LpF ((Int × Int) × Int × Int × Int × Int × List (Int) × LqA × LqB × LqC × Unit) (List (Int) × LqA × LqB × LqC × Unit) := fun (x0, x1, x2, x3, x4, x5, x6, x7, x8, _) =>
 bif decide (x4 < x3) then
 bif decide (0 ≤ IntKind.i64.wrap (x2 + x4)) && decide (IntKind.i64.wrap (x2 + x4) < (↑(Int.toNat x0.2) : Int)) then
 bif
 decide (0 ≤ IntKind.i64.wrap (x1 + x4)) &&
 decide (IntKind.i64.wrap (x1 + x4) < (↑(Int.toNat x0.2) : Int)) then
 bif
 decide (0 ≤ IntKind.i64.wrap (x1 + x4)) &&
 decide (IntKind.i64.wrap (x1 + x4) < (↑(Int.toNat x0.2) : Int)) then
 bif
 decide (0 ≤ IntKind.i64.wrap (x2 + x4)) &&
 decide (IntKind.i64.wrap (x2 + x4) < (↑(Int.toNat x0.2) : Int)) then
 some
 (Sum.inl
 (((↑(Int.toNat x0.1) : Int), (↑(Int.toNat x0.2) : Int)), x1, x2, x3, IntKind.i64.wrap (x4 + 1),
 (x5.set (Int.toNat x0.1 + (IntKind.i64.wrap (x1 + x4)).toNat)
 (x5.getD (Int.toNat x0.1 + (IntKind.i64.wrap (x2 + x4)).toNat) 0)).set
 (Int.toNat x0.1 + (IntKind.i64.wrap (x2 + x4)).toNat)
 (x5.getD (Int.toNat x0.1 + (IntKind.i64.wrap (x1 + x4)).toNat) 0),
 x6, x7, x8, ()))
 else none
 else none
 else none
 else none
 else some (Sum.inr (x5, x6, x7, x8, ()))
theorem h316_l0 : AqL (K316) 2 (subc (code Tryz.f316) [1, 0, 0]) .nil f316_l0_ins f316_l0_outs (F316_l0) := fun v => by kernel_rfl
def C316_l0 : T316_l0 := loopN (F316_l0) big
theorem k316_l0 : FragOk Tryz.prog 2 (fun Q a w => (Code.loop (subc (code Tryz.f316) [1, 0, 0])).wp Tryz.prog Q a w) (E316_l0 C316_l0) :=
 frag_big (ins := f316_l0_ins) (os := f316_l0_outs) (C := C316_l0) (frag_loop (ins := f316_l0_ins) (os := f316_l0_outs) (n := .nil) (F := F316_l0) hm hΓ kok316 (fun _ => big) (ann_nil _) (h316_l0)) rfl
def N316 (f316_l0 : T316_l0) : Ann := (.seq .nil (.blk (.loop (E316_l0 f316_l0))))
def F316 (f316_l0 : T316_l0) : T316 := fun (x0, x1, x2, x3, x4, x5, x6, x7, _) =>
 (f316_l0 (((↑(Int.toNat x0.1) : Int), (↑(Int.toNat x0.2) : Int)), x1, x2, x3, 0, x4, x5, x6, x7, ())).bind
 fun v => some (v.1, v.2.1, v.2.2.1, v.2.2.2.1, ())
theorem h316 (f316_l0 : T316_l0) : AqF (K316) 2 Tryz.f316 (N316 f316_l0) f316_ins f316_outs (F316 f316_l0) := fun v => by kernel_rfl
def C316 : T316 := F316 C316_l0
theorem ok316 : FnOk Tryz.prog 316 (E316 C316) :=
 fnx (n := (N316 C316_l0)) kok316 Tryz.func316 (by kernel_rfl) (by kernel_rfl) (ann_obs (And.intro k316_l0 trivial) (by kernel_rfl)) (fun v => by kernel_rfl) (h316 C316_l0)
end Go.Proofs.YtiacnhhmkdkpmaaGreatDoorC.W
set_option maxRecDepth 100000
set_option linter.unusedVariables false
namespace Go.Proofs.YtiacnhhmkdkpmaaGreatDoorC.W
open Go Go.Ae
abbrev T315_l0 := (Int × Int) × Int × Int × Int × List (Int) × LqA × LqB × LqC × Unit → Option ((Int × Int) × Int × Int × List (Int) × LqA × LqB × LqC × Unit)
def E315_l0 (f : T315_l0) : LEnt := ⟨f315_l0_ins, f315_l0_outs, f⟩
abbrev T315 := (Int × Int) × Int × Int × Int × List (Int) × LqA × LqB × LqC × Unit → Option (List (Int) × LqA × LqB × LqC × Unit)
def E315 (f : T315) : FEnt := ⟨f315_ins, f315_outs, f⟩
def K315 (f316 : T316) : Calls' := fun f => Ae.lookA f [(316, E316 f316)]
theorem kok315 : KOk Tryz.prog (K315 C316) := (kok_cons ok316 (kok_nil _))
def F315_l0 (f316 : T316) : LpF ((Int × Int) × Int × Int × Int × List (Int) × LqA × LqB × LqC × Unit) ((Int × Int) × Int × Int × List (Int) × LqA × LqB × LqC × Unit) := fun (x0, x1, x2, x3, x4, x5, x6, x7, _) =>
 bif x2 != x3 then
 bif decide (x2 > x3) then
 (f316
 (((↑(Int.toNat x0.1) : Int), (↑(Int.toNat x0.2) : Int)), IntKind.i64.wrap (x1 - x2), x1, x3, x4, x5, x6,
 x7, ())).bind
 fun v =>
 some
 (Sum.inl
 (((↑(Int.toNat x0.1) : Int), (↑(Int.toNat x0.2) : Int)), x1, IntKind.i64.wrap (x2 - x3), x3, v.1,
 v.2.1, v.2.2.1, v.2.2.2.1, ()))
 else
 (f316
 (((↑(Int.toNat x0.1) : Int), (↑(Int.toNat x0.2) : Int)), IntKind.i64.wrap (x1 - x2),
 IntKind.i64.wrap (IntKind.i64.wrap (x1 + x3) - x2), x2, x4, x5, x6, x7, ())).bind
 fun v =>
 some
 (Sum.inl
 (((↑(Int.toNat x0.1) : Int), (↑(Int.toNat x0.2) : Int)), x1, x2, IntKind.i64.wrap (x3 - x2), v.1,
 v.2.1, v.2.2.1, v.2.2.2.1, ()))
 else some (Sum.inr (((↑(Int.toNat x0.1) : Int), (↑(Int.toNat x0.2) : Int)), x1, x2, x4, x5, x6, x7, ()))
theorem h315_l0 (f316 : T316) : AqL (K315 f316) 2 (subc (code Tryz.f315) [1, 1, 0, 0, 0]) .nil f315_l0_ins f315_l0_outs (F315_l0 f316) := fun v => by kernel_rfl
def C315_l0 : T315_l0 := loopN (F315_l0 C316) big
theorem k315_l0 : FragOk Tryz.prog 2 (fun Q a w => (Code.loop (subc (code Tryz.f315) [1, 1, 0, 0, 0])).wp Tryz.prog Q a w) (E315_l0 C315_l0) :=
 frag_big (ins := f315_l0_ins) (os := f315_l0_outs) (C := C315_l0) (frag_loop (ins := f315_l0_ins) (os := f315_l0_outs) (n := .nil) (F := F315_l0 C316) hm hΓ kok315 (fun _ => big) (ann_nil _) (h315_l0 C316)) rfl
def N315 (f315_l0 : T315_l0) : Ann := (.seq .nil (.seq .nil (.seq (.blk (.loop (E315_l0 f315_l0))) .nil)))
def F315 (f316 : T316) (f315_l0 : T315_l0) : T315 := fun (x0, x1, x2, x3, x4, x5, x6, x7, _) =>
 (f315_l0
 (((↑(Int.toNat x0.1) : Int), (↑(Int.toNat x0.2) : Int)), x2, IntKind.i64.wrap (x2 - x1),
 IntKind.i64.wrap (x3 - x2), x4, x5, x6, x7, ())).bind
 fun v =>
 (f316
 (((↑(Int.toNat v.1.1) : Int), (↑(Int.toNat v.1.2) : Int)),
 IntKind.i64.wrap (v.2.1 - v.2.2.1), v.2.1, v.2.2.1, v.2.2.2.1,
 v.2.2.2.2.1, v.2.2.2.2.2.1, v.2.2.2.2.2.2.1, ())).bind
 fun v => some (v.1, v.2.1, v.2.2.1, v.2.2.2.1, ())
theorem h315 (f316 : T316) (f315_l0 : T315_l0) : AqF (K315 f316) 2 Tryz.f315 (N315 f315_l0) f315_ins f315_outs (F315 f316 f315_l0) := fun v => by kernel_rfl
def C315 : T315 := F315 C316 C315_l0
theorem ok315 : FnOk Tryz.prog 315 (E315 C315) :=
 fnx (n := (N315 C315_l0)) kok315 Tryz.func315 (by kernel_rfl) (by kernel_rfl) (ann_obs (And.intro k315_l0 trivial) (by kernel_rfl)) (fun v => by kernel_rfl) (h315 C316 C315_l0)
abbrev T311_l0 := (Int × Int) × Int × Int × Int × List (Int) × LqA × LqB × LqC × Unit → Option ((Int × Int) × Int × Int × List (Int) × LqA × LqB × LqC × Unit)
def E311_l0 (f : T311_l0) : LEnt := ⟨f311_l0_ins, f311_l0_outs, f⟩
abbrev T311_l1 := (Int × Int) × Int × Int × List (Int) × LqA × LqB × LqC × Unit → Option (List (Int) × LqA × LqB × LqC × Unit)
def E311_l1 (f : T311_l1) : LEnt := ⟨f311_l1_ins, f311_l1_outs, f⟩
abbrev T311_l2 := (Int × Int) × Int × Int × Int × List (Int) × LqA × LqB × LqC × Unit → Option ((Int × Int) × Int × Int × List (Int) × LqA × LqB × LqC × Unit)
def E311_l2 (f : T311_l2) : LEnt := ⟨f311_l2_ins, f311_l2_outs, f⟩
abbrev T311_l3 := (Int × Int) × Int × Int × List (Int) × LqA × LqB × LqC × Unit → Option (List (Int) × LqA × LqB × LqC × Unit)
def E311_l3 (f : T311_l3) : LEnt := ⟨f311_l3_ins, f311_l3_outs, f⟩
abbrev T311_l4 := (Int × Int) × Int × Int × Int × Int × Int × Int × Int × Int × List (Int) × LqA × LqB × LqC × Unit → Option ((Int × Int) × Int × Int × Int × Int × Int × Int × List (Int) × LqA × LqB × LqC × Unit)
def E311_l4 (f : T311_l4) : LEnt := ⟨f311_l4_ins, f311_l4_outs, f⟩
abbrev T311_c0 := (Int × Int) × Int × Int × Int × List (Int) × LqA × LqB × LqC × Unit → Option (List (Int) × LqA × LqB × LqC × Unit)
def E311_c0 (f : T311_c0) : LEnt := ⟨f311_c0_ins, f311_c0_outs, f⟩
abbrev T311_c1 := (Int × Int) × Int × Int × Int × Int × Int × List (Int) × LqA × LqB × LqC × Unit → Option (List (Int) × LqA × LqB × LqC × Unit)
def E311_c1 (f : T311_c1) : LEnt := ⟨f311_c1_ins, f311_c1_outs, f⟩
abbrev T311_c2 := (Int × Int) × Int × Int × Int × Int × Int × Int × Int × List (Int) × LqA × LqB × LqC × Unit → Option (List (Int) × LqA × LqB × LqC × Unit)
def E311_c2 (f : T311_c2) : LEnt := ⟨f311_c2_ins, f311_c2_outs, f⟩
abbrev T311 := (Int × Int) × Int × Int × Int × List (Int) × LqA × LqB × LqC × Unit → Option (List (Int) × LqA × LqB × LqC × Unit)
def E311 (f : T311) : FEnt := ⟨f311_ins, f311_outs, f⟩
def K311 (f278 : T278) (f311 : T311) (f315 : T315) : Calls' := fun f => Ae.lookA f [(278, E278 f278), (311, E311 f311), (315, E315 f315)]
theorem kok311 (G : T311) (hG : FnOk Tryz.prog 311 (E311 G)) : KOk Tryz.prog (K311 C278 G C315) := (kok_cons ok278 (kok_cons hG (kok_cons ok315 (kok_nil _))))
def F311_l0 (f278 : T278) (f311 : T311) (f315 : T315) : LpF ((Int × Int) × Int × Int × Int × List (Int) × LqA × LqB × LqC × Unit) ((Int × Int) × Int × Int × List (Int) × LqA × LqB × LqC × Unit) := fun (x0, x1, x2, x3, x4, x5, x6, x7, _) =>
 bif decide (x2 < x3) then
 bif
 decide
 (0 ≤
 IntKind.i64.wrap
 ((IntKind.u64.wrap (IntKind.i64.wrap (x2 + x3))).fdiv (2 ^ min 1 IntKind.u64.bits))) &&
 decide
 (IntKind.i64.wrap
 ((IntKind.u64.wrap (IntKind.i64.wrap (x2 + x3))).fdiv (2 ^ min 1 IntKind.u64.bits)) <
 (↑(Int.toNat x0.2) : Int)) then
 bif decide (0 ≤ x1) && decide (x1 < (↑(Int.toNat x0.2) : Int)) then
 (f278
 (x4.getD
 (Int.toNat x0.1 +
 (IntKind.i64.wrap
 ((IntKind.u64.wrap (IntKind.i64.wrap (x2 + x3))).fdiv
 (2 ^ min 1 IntKind.u64.bits))).toNat)
 0,
 x4.getD (Int.toNat x0.1 + x1.toNat) 0, x5, x6, x7, ())).bind
 fun v =>
 bif decide (v.1 < 0) then
 some
 (Sum.inl
 (((↑(Int.toNat x0.1) : Int), (↑(Int.toNat x0.2) : Int)), x1,
 IntKind.i64.wrap
 (IntKind.i64.wrap
 ((IntKind.u64.wrap (IntKind.i64.wrap (x2 + x3))).fdiv (2 ^ min 1 IntKind.u64.bits)) +
 1),
 x3, x4, v.2.1, v.2.2.1, v.2.2.2.1, ()))
 else
 some
 (Sum.inl
 (((↑(Int.toNat x0.1) : Int), (↑(Int.toNat x0.2) : Int)), x1, x2,
 IntKind.i64.wrap
 ((IntKind.u64.wrap (IntKind.i64.wrap (x2 + x3))).fdiv (2 ^ min 1 IntKind.u64.bits)),
 x4, v.2.1, v.2.2.1, v.2.2.2.1, ()))
 else none
 else none
 else some (Sum.inr (((↑(Int.toNat x0.1) : Int), (↑(Int.toNat x0.2) : Int)), x1, x2, x4, x5, x6, x7, ()))
theorem h311_l0 (f278 : T278) (f311 : T311) (f315 : T315) : AqL (K311 f278 f311 f315) 2 (subc (code Tryz.f311) [0, 1, 0, 1, 1, 0, 0, 0]) .nil f311_l0_ins f311_l0_outs (F311_l0 f278 f311 f315) := fun v => by kernel_rfl
def C311_l0 (G : T311) : T311_l0 := loopN (F311_l0 C278 G C315) big
theorem k311_l0 (G : T311) (hG : FnOk Tryz.prog 311 (E311 G)) : FragOk Tryz.prog 2 (fun Q a w => (Code.loop (subc (code Tryz.f311) [0, 1, 0, 1, 1, 0, 0, 0])).wp Tryz.prog Q a w) (E311_l0 (C311_l0 G)) :=
 frag_big (ins := f311_l0_ins) (os := f311_l0_outs) (C := (C311_l0 G)) (frag_loop (ins := f311_l0_ins) (os := f311_l0_outs) (n := .nil) (F := F311_l0 C278 G C315) hm hΓ (kok311 G hG) (fun _ => big) (ann_nil _) (h311_l0 C278 G C315)) rfl
def F311_l1 (f278 : T278) (f311 : T311) (f315 : T315) : LpF ((Int × Int) × Int × Int × List (Int) × LqA × LqB × LqC × Unit) (List (Int) × LqA × LqB × LqC × Unit) := fun (x0, x1, x2, x3, x4, x5, x6, _) =>
 bif decide (x2 < IntKind.i64.wrap (x1 - 1)) then
 bif decide (0 ≤ IntKind.i64.wrap (x2 + 1)) && decide (IntKind.i64.wrap (x2 + 1) < (↑(Int.toNat x0.2) : Int)) then
 bif decide (0 ≤ x2) && decide (x2 < (↑(Int.toNat x0.2) : Int)) then
 bif decide (0 ≤ x2) && decide (x2 < (↑(Int.toNat x0.2) : Int)) then
 bif
 decide (0 ≤ IntKind.i64.wrap (x2 + 1)) &&
 decide (IntKind.i64.wrap (x2 + 1) < (↑(Int.toNat x0.2) : Int)) then
 some
 (Sum.inl
 (((↑(Int.toNat x0.1) : Int), (↑(Int.toNat x0.2) : Int)), x1, IntKind.i64.wrap (x2 + 1),
 (x3.set (Int.toNat x0.1 + x2.toNat)
 (x3.getD (Int.toNat x0.1 + (IntKind.i64.wrap (x2 + 1)).toNat) 0)).set
 (Int.toNat x0.1 + (IntKind.i64.wrap (x2 + 1)).toNat)
 (x3.getD (Int.toNat x0.1 + x2.toNat) 0),
 x4, x5, x6, ()))
 else none
 else none
 else none
 else none
 else some (Sum.inr (x3, x4, x5, x6, ()))
theorem h311_l1 (f278 : T278) (f311 : T311) (f315 : T315) : AqL (K311 f278 f311 f315) 2 (subc (code Tryz.f311) [0, 1, 0, 1, 1, 1, 0, 1, 0, 0]) .nil f311_l1_ins f311_l1_outs (F311_l1 f278 f311 f315) := fun v => by kernel_rfl
def C311_l1 (G : T311) : T311_l1 := loopN (F311_l1 C278 G C315) big
theorem k311_l1 (G : T311) (hG : FnOk Tryz.prog 311 (E311 G)) : FragOk Tryz.prog 2 (fun Q a w => (Code.loop (subc (code Tryz.f311) [0, 1, 0, 1, 1, 1, 0, 1, 0, 0])).wp Tryz.prog Q a w) (E311_l1 (C311_l1 G)) :=
 frag_big (ins := f311_l1_ins) (os := f311_l1_outs) (C := (C311_l1 G)) (frag_loop (ins := f311_l1_ins) (os := f311_l1_outs) (n := .nil) (F := F311_l1 C278 G C315) hm hΓ (kok311 G hG) (fun _ => big) (ann_nil _) (h311_l1 C278 G C315)) rfl
def F311_l2 (f278 : T278) (f311 : T311) (f315 : T315) : LpF ((Int × Int) × Int × Int × Int × List (Int) × LqA × LqB × LqC × Unit) ((Int × Int) × Int × Int × List (Int) × LqA × LqB × LqC × Unit) := fun (x0, x1, x2, x3, x4, x5, x6, x7, _) =>
 bif decide (x2 < x3) then
 bif decide (0 ≤ x1) && decide (x1 < (↑(Int.toNat x0.2) : Int)) then
 bif
 decide
 (0 ≤
 IntKind.i64.wrap
 ((IntKind.u64.wrap (IntKind.i64.wrap (x2 + x3))).fdiv (2 ^ min 1 IntKind.u64.bits))) &&
 decide
 (IntKind.i64.wrap
 ((IntKind.u64.wrap (IntKind.i64.wrap (x2 + x3))).fdiv (2 ^ min 1 IntKind.u64.bits)) <
 (↑(Int.toNat x0.2) : Int)) then
 (f278
 (x4.getD (Int.toNat x0.1 + x1.toNat) 0,
 x4.getD
 (Int.toNat x0.1 +
 (IntKind.i64.wrap
 ((IntKind.u64.wrap (IntKind.i64.wrap (x2 + x3))).fdiv
 (2 ^ min 1 IntKind.u64.bits))).toNat)
 0,
 x5, x6, x7, ())).bind
 fun v =>
 bif !decide (v.1 < 0) then
 some
 (Sum.inl
 (((↑(Int.toNat x0.1) : Int), (↑(Int.toNat x0.2) : Int)), x1,
 IntKind.i64.wrap
 (IntKind.i64.wrap
 ((IntKind.u64.wrap (IntKind.i64.wrap (x2 + x3))).fdiv (2 ^ min 1 IntKind.u64.bits)) +
 1),
 x3, x4, v.2.1, v.2.2.1, v.2.2.2.1, ()))
 else
 some
 (Sum.inl
 (((↑(Int.toNat x0.1) : Int), (↑(Int.toNat x0.2) : Int)), x1, x2,
 IntKind.i64.wrap
 ((IntKind.u64.wrap (IntKind.i64.wrap (x2 + x3))).fdiv (2 ^ min 1 IntKind.u64.bits)),
 x4, v.2.1, v.2.2.1, v.2.2.2.1, ()))
 else none
 else none
 else some (Sum.inr (((↑(Int.toNat x0.1) : Int), (↑(Int.toNat x0.2) : Int)), x1, x2, x4, x5, x6, x7, ()))
theorem h311_l2 (f278 : T278) (f311 : T311) (f315 : T315) : AqL (K311 f278 f311 f315) 2 (subc (code Tryz.f311) [1, 0, 1, 0, 1, 1, 0, 0, 0]) .nil f311_l2_ins f311_l2_outs (F311_l2 f278 f311 f315) := fun v => by kernel_rfl
def C311_l2 (G : T311) : T311_l2 := loopN (F311_l2 C278 G C315) big
theorem k311_l2 (G : T311) (hG : FnOk Tryz.prog 311 (E311 G)) : FragOk Tryz.prog 2 (fun Q a w => (Code.loop (subc (code Tryz.f311) [1, 0, 1, 0, 1, 1, 0, 0, 0])).wp Tryz.prog Q a w) (E311_l2 (C311_l2 G)) :=
 frag_big (ins := f311_l2_ins) (os := f311_l2_outs) (C := (C311_l2 G)) (frag_loop (ins := f311_l2_ins) (os := f311_l2_outs) (n := .nil) (F := F311_l2 C278 G C315) hm hΓ (kok311 G hG) (fun _ => big) (ann_nil _) (h311_l2 C278 G C315)) rfl
def F311_l3 (f278 : T278) (f311 : T311) (f315 : T315) : LpF ((Int × Int) × Int × Int × List (Int) × LqA × LqB × LqC × Unit) (List (Int) × LqA × LqB × LqC × Unit) := fun (x0, x1, x2, x3, x4, x5, x6, _) =>
 bif decide (x2 > x1) then
 bif decide (0 ≤ IntKind.i64.wrap (x2 - 1)) && decide (IntKind.i64.wrap (x2 - 1) < (↑(Int.toNat x0.2) : Int)) then
 bif decide (0 ≤ x2) && decide (x2 < (↑(Int.toNat x0.2) : Int)) then
 bif decide (0 ≤ x2) && decide (x2 < (↑(Int.toNat x0.2) : Int)) then
 bif
 decide (0 ≤ IntKind.i64.wrap (x2 - 1)) &&
 decide (IntKind.i64.wrap (x2 - 1) < (↑(Int.toNat x0.2) : Int)) then
 some
 (Sum.inl
 (((↑(Int.toNat x0.1) : Int), (↑(Int.toNat x0.2) : Int)), x1, IntKind.i64.wrap (x2 - 1),
 (x3.set (Int.toNat x0.1 + x2.toNat)
 (x3.getD (Int.toNat x0.1 + (IntKind.i64.wrap (x2 - 1)).toNat) 0)).set
 (Int.toNat x0.1 + (IntKind.i64.wrap (x2 - 1)).toNat)
 (x3.getD (Int.toNat x0.1 + x2.toNat) 0),
 x4, x5, x6, ()))
 else none
 else none
 else none
 else none
 else some (Sum.inr (x3, x4, x5, x6, ()))
theorem h311_l3 (f278 : T278) (f311 : T311) (f315 : T315) : AqL (K311 f278 f311 f315) 2 (subc (code Tryz.f311) [1, 0, 1, 0, 1, 1, 1, 0, 1, 0, 0]) .nil f311_l3_ins f311_l3_outs (F311_l3 f278 f311 f315) := fun v => by kernel_rfl
def C311_l3 (G : T311) : T311_l3 := loopN (F311_l3 C278 G C315) big
theorem k311_l3 (G : T311) (hG : FnOk Tryz.prog 311 (E311 G)) : FragOk Tryz.prog 2 (fun Q a w => (Code.loop (subc (code Tryz.f311) [1, 0, 1, 0, 1, 1, 1, 0, 1, 0, 0])).wp Tryz.prog Q a w) (E311_l3 (C311_l3 G)) :=
 frag_big (ins := f311_l3_ins) (os := f311_l3_outs) (C := (C311_l3 G)) (frag_loop (ins := f311_l3_ins) (os := f311_l3_outs) (n := .nil) (F := F311_l3 C278 G C315) hm hΓ (kok311 G hG) (fun _ => big) (ann_nil _) (h311_l3 C278 G C315)) rfl
def F311_l4 (f278 : T278) (f311 : T311) (f315 : T315) : LpF ((Int × Int) × Int × Int × Int × Int × Int × Int × Int × Int × List (Int) × LqA × LqB × LqC × Unit) ((Int × Int) × Int × Int × Int × Int × Int × Int × List (Int) × LqA × LqB × LqC × Unit) := fun (x0, x1, x2, x3, x4, x5, x6, x7, x8, x9, x10, x11, x12, _) =>
 bif decide (x6 < x7) then
 bif
 decide
 (0 ≤
 IntKind.i64.wrap
 (x8 -
 IntKind.i64.wrap
 ((IntKind.u64.wrap (IntKind.i64.wrap (x6 + x7))).fdiv (2 ^ min 1 IntKind.u64.bits)))) &&
 decide
 (IntKind.i64.wrap
 (x8 -
 IntKind.i64.wrap
 ((IntKind.u64.wrap (IntKind.i64.wrap (x6 + x7))).fdiv (2 ^ min 1 IntKind.u64.bits))) <
 (↑(Int.toNat x0.2) : Int)) then
 bif
 decide
 (0 ≤
 IntKind.i64.wrap
 ((IntKind.u64.wrap (IntKind.i64.wrap (x6 + x7))).fdiv (2 ^ min 1 IntKind.u64.bits))) &&
 decide
 (IntKind.i64.wrap
 ((IntKind.u64.wrap (IntKind.i64.wrap (x6 + x7))).fdiv (2 ^ min 1 IntKind.u64.bits)) <
 (↑(Int.toNat x0.2) : Int)) then
 (f278
 (x9.getD
 (Int.toNat x0.1 +
 (IntKind.i64.wrap
 (x8 -
 IntKind.i64.wrap
 ((IntKind.u64.wrap (IntKind.i64.wrap (x6 + x7))).fdiv
 (2 ^ min 1 IntKind.u64.bits)))).toNat)
 0,
 x9.getD
 (Int.toNat x0.1 +
 (IntKind.i64.wrap
 ((IntKind.u64.wrap (IntKind.i64.wrap (x6 + x7))).fdiv
 (2 ^ min 1 IntKind.u64.bits))).toNat)
 0,
 x10, x11, x12, ())).bind
 fun v =>
 bif !decide (v.1 < 0) then
 some
 (Sum.inl
 (((↑(Int.toNat x0.1) : Int), (↑(Int.toNat x0.2) : Int)), x1, x2, x3, x4, x5,
 IntKind.i64.wrap
 (IntKind.i64.wrap
 ((IntKind.u64.wrap (IntKind.i64.wrap (x6 + x7))).fdiv (2 ^ min 1 IntKind.u64.bits)) +
 1),
 x7, x8, x9, v.2.1, v.2.2.1, v.2.2.2.1, ()))
 else
 some
 (Sum.inl
 (((↑(Int.toNat x0.1) : Int), (↑(Int.toNat x0.2) : Int)), x1, x2, x3, x4, x5, x6,
 IntKind.i64.wrap
 ((IntKind.u64.wrap (IntKind.i64.wrap (x6 + x7))).fdiv (2 ^ min 1 IntKind.u64.bits)),
 x8, x9, v.2.1, v.2.2.1, v.2.2.2.1, ()))
 else none
 else none
 else
 some
 (Sum.inr
 (((↑(Int.toNat x0.1) : Int), (↑(Int.toNat x0.2) : Int)), x1, x2, x3, x4, x5, x6, x9, x10, x11, x12,
 ()))
theorem h311_l4 (f278 : T278) (f311 : T311) (f315 : T315) : AqL (K311 f278 f311 f315) 2 (subc (code Tryz.f311) [1, 1, 1, 1, 1, 1, 1, 0, 0, 0]) .nil f311_l4_ins f311_l4_outs (F311_l4 f278 f311 f315) := fun v => by kernel_rfl
def C311_l4 (G : T311) : T311_l4 := loopN (F311_l4 C278 G C315) big
theorem k311_l4 (G : T311) (hG : FnOk Tryz.prog 311 (E311 G)) : FragOk Tryz.prog 2 (fun Q a w => (Code.loop (subc (code Tryz.f311) [1, 1, 1, 1, 1, 1, 1, 0, 0, 0])).wp Tryz.prog Q a w) (E311_l4 (C311_l4 G)) :=
 frag_big (ins := f311_l4_ins) (os := f311_l4_outs) (C := (C311_l4 G)) (frag_loop (ins := f311_l4_ins) (os := f311_l4_outs) (n := .nil) (F := F311_l4 C278 G C315) hm hΓ (kok311 G hG) (fun _ => big) (ann_nil _) (h311_l4 C278 G C315)) rfl
def F311_c0 (f278 : T278) (f311 : T311) (f315 : T315) : T311_c0 := fun (x0, x1, x2, x3, x4, x5, x6, x7, _) =>
 bif decide (x2 < x3) then
 bif decide (x3 < x1) then
 (f311 (((↑(Int.toNat x0.1) : Int), (↑(Int.toNat x0.2) : Int)), x2, x3, x1, x4, x5, x6, x7, ())).bind fun v =>
 some (v.1, v.2.1, v.2.2.1, v.2.2.2.1, ())
 else some (x4, x5, x6, x7, ())
 else some (x4, x5, x6, x7, ())
theorem h311_c0 (f278 : T278) (f311 : T311) (f315 : T315) : AqC (K311 f278 f311 f315) 2 (subc (code Tryz.f311) [1, 1, 1, 1, 1, 1, 1, 1, 1, 1, 1]) .nil f311_c0_ins f311_c0_outs (F311_c0 f278 f311 f315) := fun v => by kernel_rfl
def C311_c0 (G : T311) : T311_c0 := F311_c0 C278 G C315
theorem k311_c0 (G : T311) (hG : FnOk Tryz.prog 311 (E311 G)) : FragOk Tryz.prog 2 (fun Q a w => (subc (code Tryz.f311) [1, 1, 1, 1, 1, 1, 1, 1, 1, 1, 1]).wp Tryz.prog Q a w) (E311_c0 (C311_c0 G)) :=
 frag_code (ins := f311_c0_ins) (os := f311_c0_outs) (n := .nil) (F := (C311_c0 G)) hm hΓ (kok311 G hG) (ann_nil _) (h311_c0 C278 G C315)
def N311_c1 (f311_c0 : T311_c0) : Ann := (.cut .nil (E311_c0 f311_c0))
def F311_c1 (f278 : T278) (f311 : T311) (f315 : T315) (f311_c0 : T311_c0) : T311_c1 := fun (x0, x1, x2, x3, x4, x5, x6, x7, x8, x9, _) =>
 bif decide (x1 < x4) then
 bif decide (x4 < x3) then
 (f311 (((↑(Int.toNat x0.1) : Int), (↑(Int.toNat x0.2) : Int)), x1, x4, x3, x6, x7, x8, x9, ())).bind fun v =>
 (f311_c0
 (((↑(Int.toNat x0.1) : Int), (↑(Int.toNat x0.2) : Int)), x2, x3, x5, v.1, v.2.1,
 v.2.2.1, v.2.2.2.1, ())).bind
 fun v => some (v.1, v.2.1, v.2.2.1, v.2.2.2.1, ())
 else
 (f311_c0 (((↑(Int.toNat x0.1) : Int), (↑(Int.toNat x0.2) : Int)), x2, x3, x5, x6, x7, x8, x9, ())).bind
 fun v => some (v.1, v.2.1, v.2.2.1, v.2.2.2.1, ())
 else
 (f311_c0 (((↑(Int.toNat x0.1) : Int), (↑(Int.toNat x0.2) : Int)), x2, x3, x5, x6, x7, x8, x9, ())).bind fun v =>
 some (v.1, v.2.1, v.2.2.1, v.2.2.2.1, ())
theorem h311_c1 (f278 : T278) (f311 : T311) (f315 : T315) (f311_c0 : T311_c0) : AqC (K311 f278 f311 f315) 2 (subc (code Tryz.f311) [1, 1, 1, 1, 1, 1, 1, 1, 1, 1]) (N311_c1 f311_c0) f311_c1_ins f311_c1_outs (F311_c1 f278 f311 f315 f311_c0) := fun v => by kernel_rfl
def C311_c1 (G : T311) : T311_c1 := F311_c1 C278 G C315 (C311_c0 G)
theorem k311_c1 (G : T311) (hG : FnOk Tryz.prog 311 (E311 G)) : FragOk Tryz.prog 2 (fun Q a w => (subc (code Tryz.f311) [1, 1, 1, 1, 1, 1, 1, 1, 1, 1]).wp Tryz.prog Q a w) (E311_c1 (C311_c1 G)) :=
 frag_code (ins := f311_c1_ins) (os := f311_c1_outs) (n := (N311_c1 (C311_c0 G))) (F := (C311_c1 G)) hm hΓ (kok311 G hG) (ann_obs (And.intro (k311_c0 G hG) trivial) (by kernel_rfl)) (h311_c1 C278 G C315 (C311_c0 G))
def N311_c2 (f311_c1 : T311_c1) (f311_l4 : T311_l4) : Ann := (.seq .nil (.seq (.blk (.loop (E311_l4 f311_l4))) (.seq .nil (.cut .nil (E311_c1 f311_c1)))))
def F311_c2 (f278 : T278) (f311 : T311) (f315 : T315) (f311_c1 : T311_c1) (f311_l4 : T311_l4) : T311_c2 := fun (x0, x1, x2, x3, x4, x5, x6, x7, x8, x9, x10, x11, _) =>
 (f311_l4
 (((↑(Int.toNat x0.1) : Int), (↑(Int.toNat x0.2) : Int)), x1, x2, x3, x4, x5, x6, x7,
 IntKind.i64.wrap (x5 - 1), x8, x9, x10, x11, ())).bind
 fun v =>
 bif decide (v.2.2.2.2.2.2.1 < v.2.2.1) then
 bif decide (v.2.2.1 < IntKind.i64.wrap (v.2.2.2.2.2.1 - v.2.2.2.2.2.2.1)) then
 (f315
 (((↑(Int.toNat v.1.1) : Int), (↑(Int.toNat v.1.2) : Int)), v.2.2.2.2.2.2.1,
 v.2.2.1, IntKind.i64.wrap (v.2.2.2.2.2.1 - v.2.2.2.2.2.2.1),
 v.2.2.2.2.2.2.2.1, v.2.2.2.2.2.2.2.2.1,
 v.2.2.2.2.2.2.2.2.2.1, v.2.2.2.2.2.2.2.2.2.2.1, ())).bind
 fun v1 =>
 (f311_c1
 (((↑(Int.toNat v.1.1) : Int), (↑(Int.toNat v.1.2) : Int)), v.2.1, v.2.2.2.1,
 v.2.2.2.2.1, v.2.2.2.2.2.2.1,
 IntKind.i64.wrap (v.2.2.2.2.2.1 - v.2.2.2.2.2.2.1), v1.1,
 v1.2.1, v1.2.2.1, v1.2.2.2.1, ())).bind
 fun v => some (v.1, v.2.1, v.2.2.1, v.2.2.2.1, ())
 else
 (f311_c1
 (((↑(Int.toNat v.1.1) : Int), (↑(Int.toNat v.1.2) : Int)), v.2.1, v.2.2.2.1,
 v.2.2.2.2.1, v.2.2.2.2.2.2.1,
 IntKind.i64.wrap (v.2.2.2.2.2.1 - v.2.2.2.2.2.2.1),
 v.2.2.2.2.2.2.2.1, v.2.2.2.2.2.2.2.2.1,
 v.2.2.2.2.2.2.2.2.2.1, v.2.2.2.2.2.2.2.2.2.2.1, ())).bind
 fun v => some (v.1, v.2.1, v.2.2.1, v.2.2.2.1, ())
 else
 (f311_c1
 (((↑(Int.toNat v.1.1) : Int), (↑(Int.toNat v.1.2) : Int)), v.2.1, v.2.2.2.1,
 v.2.2.2.2.1, v.2.2.2.2.2.2.1,
 IntKind.i64.wrap (v.2.2.2.2.2.1 - v.2.2.2.2.2.2.1),
 v.2.2.2.2.2.2.2.1, v.2.2.2.2.2.2.2.2.1,
 v.2.2.2.2.2.2.2.2.2.1, v.2.2.2.2.2.2.2.2.2.2.1, ())).bind
 fun v => some (v.1, v.2.1, v.2.2.1, v.2.2.2.1, ())
theorem h311_c2 (f278 : T278) (f311 : T311) (f315 : T315) (f311_c1 : T311_c1) (f311_l4 : T311_l4) : AqC (K311 f278 f311 f315) 2 (subc (code Tryz.f311) [1, 1, 1, 1, 1, 1]) (N311_c2 f311_c1 f311_l4) f311_c2_ins f311_c2_outs (F311_c2 f278 f311 f315 f311_c1 f311_l4) := fun v => by kernel_rfl
def C311_c2 (G : T311) : T311_c2 := F311_c2 C278 G C315 (C311_c1 G) (C311_l4 G)
theorem k311_c2 (G : T311) (hG : FnOk Tryz.prog 311 (E311 G)) : FragOk Tryz.prog 2 (fun Q a w => (subc (code Tryz.f311) [1, 1, 1, 1, 1, 1]).wp Tryz.prog Q a w) (E311_c2 (C311_c2 G)) :=
 frag_code (ins := f311_c2_ins) (os := f311_c2_outs) (n := (N311_c2 (C311_c1 G) (C311_l4 G))) (F := (C311_c2 G)) hm hΓ (kok311 G hG) (ann_obs (And.intro (k311_l4 G hG) (And.intro (k311_c1 G hG) trivial)) (by kernel_rfl)) (h311_c2 C278 G C315 (C311_c1 G) (C311_l4 G))
def N311 (f311_c2 : T311_c2) (f311_l0 : T311_l0) (f311_l1 : T311_l1) (f311_l2 : T311_l2) (f311_l3 : T311_l3) : Ann := (.seq (.seq .nil (.cond (.seq .nil (.seq .nil (.seq (.blk (.loop (E311_l0 f311_l0))) (.seq (.seq .nil (.blk (.loop (E311_l1 f311_l1)))) .nil)))) .nil)) (.seq (.seq .nil (.cond (.seq .nil (.seq .nil (.seq (.blk (.loop (E311_l2 f311_l2))) (.seq (.seq .nil (.blk (.loop (E311_l3 f311_l3)))) .nil)))) .nil)) (.seq .nil (.seq .nil (.seq .nil (.cut .nil (E311_c2 f311_c2)))))))
def F311 (f278 : T278) (f311 : T311) (f315 : T315) (f311_c2 : T311_c2) (f311_l0 : T311_l0) (f311_l1 : T311_l1) (f311_l2 : T311_l2) (f311_l3 : T311_l3) : T311 := fun (x0, x1, x2, x3, x4, x5, x6, x7, _) =>
 bif IntKind.i64.wrap (x2 - x1) == 1 then
 (f311_l0 (((↑(Int.toNat x0.1) : Int), (↑(Int.toNat x0.2) : Int)), x1, x2, x3, x4, x5, x6, x7, ())).bind fun v =>
 (f311_l1
 (((↑(Int.toNat v.1.1) : Int), (↑(Int.toNat v.1.2) : Int)), v.2.2.1, v.2.1,
 v.2.2.2.1, v.2.2.2.2.1, v.2.2.2.2.2.1, v.2.2.2.2.2.2.1,
 ())).bind
 fun v => some (v.1, v.2.1, v.2.2.1, v.2.2.2.1, ())
 else
 bif IntKind.i64.wrap (x3 - x2) == 1 then
 (f311_l2 (((↑(Int.toNat x0.1) : Int), (↑(Int.toNat x0.2) : Int)), x2, x1, x2, x4, x5, x6, x7, ())).bind
 fun v =>
 (f311_l3
 (((↑(Int.toNat v.1.1) : Int), (↑(Int.toNat v.1.2) : Int)), v.2.2.1, v.2.1,
 v.2.2.2.1, v.2.2.2.2.1, v.2.2.2.2.2.1,
 v.2.2.2.2.2.2.1, ())).bind
 fun v => some (v.1, v.2.1, v.2.2.1, v.2.2.2.1, ())
 else
 bif
 decide
 (x2 >
 IntKind.i64.wrap
 ((IntKind.u64.wrap (IntKind.i64.wrap (x1 + x3))).fdiv (2 ^ min 1 IntKind.u64.bits))) then
 (f311_c2
 (((↑(Int.toNat x0.1) : Int), (↑(Int.toNat x0.2) : Int)), x1, x2, x3,
 IntKind.i64.wrap
 ((IntKind.u64.wrap (IntKind.i64.wrap (x1 + x3))).fdiv (2 ^ min 1 IntKind.u64.bits)),
 IntKind.i64.wrap
 (IntKind.i64.wrap
 ((IntKind.u64.wrap (IntKind.i64.wrap (x1 + x3))).fdiv (2 ^ min 1 IntKind.u64.bits)) +
 x2),
 IntKind.i64.wrap
 (IntKind.i64.wrap
 (IntKind.i64.wrap
 ((IntKind.u64.wrap (IntKind.i64.wrap (x1 + x3))).fdiv
 (2 ^ min 1 IntKind.u64.bits)) +
 x2) -
 x3),
 IntKind.i64.wrap
 ((IntKind.u64.wrap (IntKind.i64.wrap (x1 + x3))).fdiv (2 ^ min 1 IntKind.u64.bits)),
 x4, x5, x6, x7, ())).bind
 fun v => some (v.1, v.2.1, v.2.2.1, v.2.2.2.1, ())
 else
 (f311_c2
 (((↑(Int.toNat x0.1) : Int), (↑(Int.toNat x0.2) : Int)), x1, x2, x3,
 IntKind.i64.wrap
 ((IntKind.u64.wrap (IntKind.i64.wrap (x1 + x3))).fdiv (2 ^ min 1 IntKind.u64.bits)),
 IntKind.i64.wrap
 (IntKind.i64.wrap
 ((IntKind.u64.wrap (IntKind.i64.wrap (x1 + x3))).fdiv (2 ^ min 1 IntKind.u64.bits)) +
 x2),
 x1, x2, x4, x5, x6, x7, ())).bind
 fun v => some (v.1, v.2.1, v.2.2.1, v.2.2.2.1, ())
theorem h311 (f278 : T278) (f311 : T311) (f315 : T315) (f311_c2 : T311_c2) (f311_l0 : T311_l0) (f311_l1 : T311_l1) (f311_l2 : T311_l2) (f311_l3 : T311_l3) : AqF (K311 f278 f311 f315) 2 Tryz.f311 (N311 f311_c2 f311_l0 f311_l1 f311_l2 f311_l3) f311_ins f311_outs (F311 f278 f311 f315 f311_c2 f311_l0 f311_l1 f311_l2 f311_l3) := fun v => by kernel_rfl
def C311 : T311 := recN (fun G => F311 C278 G C315 (C311_c2 G) (C311_l0 G) (C311_l1 G) (C311_l2 G) (C311_l3 G)) big
theorem ok311 : FnOk Tryz.prog 311 (E311 C311) :=
 fn_rec (ins := f311_ins) (os := f311_outs) (F := fun G => F311 C278 G C315 (C311_c2 G) (C311_l0 G) (C311_l1 G) (C311_l2 G) (C311_l3 G)) (fun G hG => fnx (n := (N311 (C311_c2 G) (C311_l0 G) (C311_l1 G) (C311_l2 G) (C311_l3 G))) (kok311 G hG) Tryz.func311 (by kernel_rfl) (by kernel_rfl) (ann_obs (And.intro (k311_l0 G hG) (And.intro (k311_l1 G hG) (And.intro (k311_l2 G hG) (And.intro (k311_l3 G hG) (And.intro (k311_c2 G hG) trivial))))) (by kernel_rfl)) (fun v => by kernel_rfl) (h311 C278 G C315 (C311_c2 G) (C311_l0 G) (C311_l1 G) (C311_l2 G) (C311_l3 G))) big
abbrev T299_l0 := (Int × Int) × Int × Int × Int × Int × List (Int) × LqA × LqB × LqC × Unit → Option ((Int × Int) × Int × Int × Int × List (Int) × LqA × LqB × LqC × Unit)
def E299_l0 (f : T299_l0) : LEnt := ⟨f299_l0_ins, f299_l0_outs, f⟩
abbrev T299_l1 := (Int × Int) × Int × Int × Int × Int × List (Int) × LqA × LqB × LqC × Unit → Option ((Int × Int) × Int × Int × Int × List (Int) × LqA × LqB × LqC × Unit)
def E299_l1 (f : T299_l1) : LEnt := ⟨f299_l1_ins, f299_l1_outs, f⟩
abbrev T299_l2 := (Int × Int) × Int × Int × List (Int) × LqA × LqB × LqC × Unit → Option (List (Int) × LqA × LqB × LqC × Unit)
def E299_l2 (f : T299_l2) : LEnt := ⟨f299_l2_ins, f299_l2_outs, f⟩
abbrev T299 := (Int × Int) × Int × List (Int) × LqA × LqB × LqC × Unit → Option (List (Int) × LqA × LqB × LqC × Unit)
def E299 (f : T299) : FEnt := ⟨f299_ins, f299_outs, f⟩
def K299 (f310 : T310) (f311 : T311) : Calls' := fun f => Ae.lookA f [(310, E310 f310), (311, E311 f311)]
theorem kok299 : KOk Tryz.prog (K299 C310 C311) := (kok_cons ok310 (kok_cons ok311 (kok_nil _)))
def F299_l0 (f310 : T310) (f311 : T311) : LpF ((Int × Int) × Int × Int × Int × Int × List (Int) × LqA × LqB × LqC × Unit) ((Int × Int) × Int × Int × Int × List (Int) × LqA × LqB × LqC × Unit) := fun (x0, x1, x2, x3, x4, x5, x6, x7, x8, _) =>
 bif decide (x4 ≤ x1) then
 (f310 (((↑(Int.toNat x0.1) : Int), (↑(Int.toNat x0.2) : Int)), x3, x4, x5, x6, x7, x8, ())).bind fun v =>
 some
 (Sum.inl
 (((↑(Int.toNat x0.1) : Int), (↑(Int.toNat x0.2) : Int)), x1, x2, x4, IntKind.i64.wrap (x4 + x2), v.1,
 v.2.1, v.2.2.1, v.2.2.2.1, ()))
 else some (Sum.inr (((↑(Int.toNat x0.1) : Int), (↑(Int.toNat x0.2) : Int)), x1, x2, x3, x5, x6, x7, x8, ()))
theorem h299_l0 (f310 : T310) (f311 : T311) : AqL (K299 f310 f311) 2 (subc (code Tryz.f299) [1, 1, 0, 0, 0]) .nil f299_l0_ins f299_l0_outs (F299_l0 f310 f311) := fun v => by kernel_rfl
def C299_l0 : T299_l0 := loopN (F299_l0 C310 C311) big
theorem k299_l0 : FragOk Tryz.prog 2 (fun Q a w => (Code.loop (subc (code Tryz.f299) [1, 1, 0, 0, 0])).wp Tryz.prog Q a w) (E299_l0 C299_l0) :=
 frag_big (ins := f299_l0_ins) (os := f299_l0_outs) (C := C299_l0) (frag_loop (ins := f299_l0_ins) (os := f299_l0_outs) (n := .nil) (F := F299_l0 C310 C311) hm hΓ kok299 (fun _ => big) (ann_nil _) (h299_l0 C310 C311)) rfl
def F299_l1 (f310 : T310) (f311 : T311) : LpF ((Int × Int) × Int × Int × Int × Int × List (Int) × LqA × LqB × LqC × Unit) ((Int × Int) × Int × Int × Int × List (Int) × LqA × LqB × LqC × Unit) := fun (x0, x1, x2, x3, x4, x5, x6, x7, x8, _) =>
 bif decide (x4 ≤ x1) then
 (f311
 (((↑(Int.toNat x0.1) : Int), (↑(Int.toNat x0.2) : Int)), x3, IntKind.i64.wrap (x3 + x2), x4, x5, x6, x7, x8,
 ())).bind
 fun v =>
 some
 (Sum.inl
 (((↑(Int.toNat x0.1) : Int), (↑(Int.toNat x0.2) : Int)), x1, x2, x4,
 IntKind.i64.wrap (x4 + IntKind.i64.wrap (2 * x2)), v.1, v.2.1, v.2.2.1, v.2.2.2.1,
 ()))
 else some (Sum.inr (((↑(Int.toNat x0.1) : Int), (↑(Int.toNat x0.2) : Int)), x1, x2, x3, x5, x6, x7, x8, ()))
theorem h299_l1 (f310 : T310) (f311 : T311) : AqL (K299 f310 f311) 2 (subc (code Tryz.f299) [1, 1, 1, 1, 0, 0, 1, 0, 1, 0, 0, 0]) .nil f299_l1_ins f299_l1_outs (F299_l1 f310 f311) := fun v => by kernel_rfl
def C299_l1 : T299_l1 := loopN (F299_l1 C310 C311) big
theorem k299_l1 : FragOk Tryz.prog 2 (fun Q a w => (Code.loop (subc (code Tryz.f299) [1, 1, 1, 1, 0, 0, 1, 0, 1, 0, 0, 0])).wp Tryz.prog Q a w) (E299_l1 C299_l1) :=
 frag_big (ins := f299_l1_ins) (os := f299_l1_outs) (C := C299_l1) (frag_loop (ins := f299_l1_ins) (os := f299_l1_outs) (n := .nil) (F := F299_l1 C310 C311) hm hΓ kok299 (fun _ => big) (ann_nil _) (h299_l1 C310 C311)) rfl
def N299_l2 (f299_l1 : T299_l1) : Ann := (.seq .nil (.blk (.seq .nil (.seq (.blk (.loop (E299_l1 f299_l1))) .nil))))
def F299_l2 (f310 : T310) (f311 : T311) (f299_l1 : T299_l1) : LpF ((Int × Int) × Int × Int × List (Int) × LqA × LqB × LqC × Unit) (List (Int) × LqA × LqB × LqC × Unit) := fun (x0, x1, x2, x3, x4, x5, x6, _) =>
 bif decide (x2 < x1) then
 (f299_l1
 (((↑(Int.toNat x0.1) : Int), (↑(Int.toNat x0.2) : Int)), x1, x2, 0, IntKind.i64.wrap (2 * x2), x3, x4, x5,
 x6, ())).bind
 fun v =>
 bif decide (IntKind.i64.wrap (v.2.2.2.1 + v.2.2.1) < v.2.1) then
 (f311
 (((↑(Int.toNat v.1.1) : Int), (↑(Int.toNat v.1.2) : Int)), v.2.2.2.1,
 IntKind.i64.wrap (v.2.2.2.1 + v.2.2.1), v.2.1, v.2.2.2.2.1,
 v.2.2.2.2.2.1, v.2.2.2.2.2.2.1, v.2.2.2.2.2.2.2.1,
 ())).bind
 fun v1 =>
 some
 (Sum.inl
 (((↑(Int.toNat v.1.1) : Int), (↑(Int.toNat v.1.2) : Int)), v.2.1,
 IntKind.i64.wrap (v.2.2.1 * 2), v1.1, v1.2.1, v1.2.2.1,
 v1.2.2.2.1, ()))
 else
 some
 (Sum.inl
 (((↑(Int.toNat v.1.1) : Int), (↑(Int.toNat v.1.2) : Int)), v.2.1,
 IntKind.i64.wrap (v.2.2.1 * 2), v.2.2.2.2.1, v.2.2.2.2.2.1,
 v.2.2.2.2.2.2.1, v.2.2.2.2.2.2.2.1, ()))
 else some (Sum.inr (x3, x4, x5, x6, ()))
theorem h299_l2 (f310 : T310) (f311 : T311) (f299_l1 : T299_l1) : AqL (K299 f310 f311) 2 (subc (code Tryz.f299) [1, 1, 1, 1, 0, 0]) (N299_l2 f299_l1) f299_l2_ins f299_l2_outs (F299_l2 f310 f311 f299_l1) := fun v => by kernel_rfl
def C299_l2 : T299_l2 := loopN (F299_l2 C310 C311 C299_l1) big
theorem k299_l2 : FragOk Tryz.prog 2 (fun Q a w => (Code.loop (subc (code Tryz.f299) [1, 1, 1, 1, 0, 0])).wp Tryz.prog Q a w) (E299_l2 C299_l2) :=
 frag_big (ins := f299_l2_ins) (os := f299_l2_outs) (C := C299_l2) (frag_loop (ins := f299_l2_ins) (os := f299_l2_outs) (n := (N299_l2 C299_l1)) (F := F299_l2 C310 C311 C299_l1) hm hΓ kok299 (fun _ => big) (ann_obs (And.intro k299_l1 trivial) (by kernel_rfl)) (h299_l2 C310 C311 C299_l1)) rfl
def N299 (f299_l0 : T299_l0) (f299_l2 : T299_l2) : Ann := (.seq .nil (.seq .nil (.seq (.blk (.loop (E299_l0 f299_l0))) (.seq .nil (.blk (.loop (E299_l2 f299_l2)))))))
def F299 (f310 : T310) (f311 : T311) (f299_l0 : T299_l0) (f299_l2 : T299_l2) : T299 := fun (x0, x1, x2, x3, x4, x5, _) =>
 (f299_l0 (((↑(Int.toNat x0.1) : Int), (↑(Int.toNat x0.2) : Int)), x1, 20, 0, 20, x2, x3, x4, x5, ())).bind
 fun v =>
 (f310
 (((↑(Int.toNat v.1.1) : Int), (↑(Int.toNat v.1.2) : Int)), v.2.2.2.1, v.2.1,
 v.2.2.2.2.1, v.2.2.2.2.2.1, v.2.2.2.2.2.2.1,
 v.2.2.2.2.2.2.2.1, ())).bind
 fun v1 =>
 (f299_l2
 (((↑(Int.toNat v.1.1) : Int), (↑(Int.toNat v.1.2) : Int)), v.2.1, v.2.2.1,
 v1.1, v1.2.1, v1.2.2.1, v1.2.2.2.1, ())).bind
 fun v => some (v.1, v.2.1, v.2.2.1, v.2.2.2.1, ())
theorem h299 (f310 : T310) (f311 : T311) (f299_l0 : T299_l0) (f299_l2 : T299_l2) : AqF (K299 f310 f311) 2 Tryz.f299 (N299 f299_l0 f299_l2) f299_ins f299_outs (F299 f310 f311 f299_l0 f299_l2) := fun v => by kernel_rfl
def C299 : T299 := F299 C310 C311 C299_l0 C299_l2
theorem ok299 : FnOk Tryz.prog 299 (E299 C299) :=
 fnx (n := (N299 C299_l0 C299_l2)) kok299 Tryz.func299 (by kernel_rfl) (by kernel_rfl) (ann_obs (And.intro k299_l0 (And.intro k299_l2 trivial)) (by kernel_rfl)) (fun v => by kernel_rfl) (h299 C310 C311 C299_l0 C299_l2)
abbrev T277 := (Int × Int) × List (Int) × LqA × LqB × LqC × Unit → Option (List (Int) × LqA × LqB × LqC × Unit)
def E277 (f : T277) : FEnt := ⟨f277_ins, f277_outs, f⟩
def K277 (f299 : T299) : Calls' := fun f => Ae.lookA f [(299, E299 f299)]
theorem kok277 : KOk Tryz.prog (K277 C299) := (kok_cons ok299 (kok_nil _))
def F277 (f299 : T299) : T277 := fun (x0, x1, x2, x3, x4, _) =>
 (f299
 (((↑(Int.toNat x0.1) : Int), (↑(Int.toNat x0.2) : Int)), (↑(Int.toNat x0.2) : Int), x1, x2, x3, x4,
 ())).bind
 fun v => some (v.1, v.2.1, v.2.2.1, v.2.2.2.1, ())
theorem h277 (f299 : T299) : AqF (K277 f299) 2 Tryz.f277 .nil f277_ins f277_outs (F277 f299) := fun v => by kernel_rfl
def C277 : T277 := F277 C299
theorem ok277 : FnOk Tryz.prog 277 (E277 C277) :=
 fnx (n := .nil) kok277 Tryz.func277 (by kernel_rfl) (by kernel_rfl) (ann_nil _) (fun v => by kernel_rfl) (h277 C299)
abbrev T239_c0 := Int × Int × LqA × LqB × LqC × List (Int) × Unit → Option (Int × Int × LqA × LqB × LqC × List (Int) × Unit)
def E239_c0 (f : T239_c0) : LEnt := ⟨f239_c0_ins, f239_c0_outs, f⟩
abbrev T239_l0 := Int × Int × LqA × LqB × LqC × List (Int) × Unit → Option (List (Int) × Unit)
def E239_l0 (f : T239_l0) : LEnt := ⟨f239_l0_ins, f239_l0_outs, f⟩
abbrev T239 := LqA × LqB × LqC × List (Int) × Unit → Option (List (Int) × Unit)
def E239 (f : T239) : FEnt := ⟨f239_ins, f239_outs, f⟩
def K239 (f275 : T275) (f276 : T276) (f277 : T277) : Calls' := fun f => Ae.lookA f [(275, E275 f275), (276, E276 f276), (277, E277 f277)]
theorem kok239 : KOk Tryz.prog (K239 C275 C276 C277) := (kok_cons ok275 (kok_cons ok276 (kok_cons ok277 (kok_nil _))))
def F239_c0 (f275 : T275) (f276 : T276) (f277 : T277) : T239_c0 := fun (x0, x1, x2, x3, x4, x5, _) =>
 bif decide (0 ≤ x1) && decide (x1 ≤ (↑x5.length : Int)) then
 bif decide (0 ≤ x0) && decide (x0 ≤ x1) then
 (f277 (((↑x0.toNat : Int), (↑(x1.toNat - x0.toNat) : Int)), x5, x2, x3, x4, ())).bind fun v =>
 some (IntKind.i64.wrap (x1 + 1), x1, v.2.1, v.2.2.1, v.2.2.2.1, v.1, ())
 else none
 else none
theorem h239_c0 (f275 : T275) (f276 : T276) (f277 : T277) : AqC (K239 f275 f276 f277) 0 (subc (code Tryz.f239) [1, 1, 1, 0, 1, 0, 0, 1, 0, 0, 1]) .nil f239_c0_ins f239_c0_outs (F239_c0 f275 f276 f277) := fun v => by kernel_rfl
def C239_c0 : T239_c0 := F239_c0 C275 C276 C277
theorem k239_c0 : FragOk Tryz.prog 0 (fun Q a w => (subc (code Tryz.f239) [1, 1, 1, 0, 1, 0, 0, 1, 0, 0, 1]).wp Tryz.prog Q a w) (E239_c0 C239_c0) :=
 frag_code (ins := f239_c0_ins) (os := f239_c0_outs) (n := .nil) (F := C239_c0) hm hΓ kok239 (ann_nil _) (h239_c0 C275 C276 C277)
def N239_l0 (f239_c0 : T239_c0) : Ann := (.seq .nil (.seq (.blk (.cut .nil (E239_c0 f239_c0))) .nil))
def F239_l0 (f275 : T275) (f276 : T276) (f277 : T277) (f239_c0 : T239_c0) : LpF (Int × Int × LqA × LqB × LqC × List (Int) × Unit) (List (Int) × Unit) := fun (x0, x1, x2, x3, x4, x5, _) =>
 bif decide (x1 ≤ (↑x5.length : Int)) then
 bif decide (x1 < (↑x5.length : Int)) then
 bif decide (0 ≤ x1) && decide (x1 < (↑x5.length : Int)) then
 (f276 (x2, x3, x4, x5.getD x1.toNat 0, ())).bind fun v =>
 bif decide (v.1 > 0) then some (Sum.inl (x0, IntKind.i64.wrap (x1 + 1), x2, x3, x4, x5, ()))
 else
 (f239_c0 (x0, x1, x2, x3, x4, x5, ())).bind fun v =>
 some
 (Sum.inl
 (v.1, IntKind.i64.wrap (v.2.1 + 1), v.2.2.1, v.2.2.2.1,
 v.2.2.2.2.1, v.2.2.2.2.2.1, ()))
 else none
 else
 (f239_c0 (x0, x1, x2, x3, x4, x5, ())).bind fun v =>
 some
 (Sum.inl
 (v.1, IntKind.i64.wrap (v.2.1 + 1), v.2.2.1, v.2.2.2.1, v.2.2.2.2.1,
 v.2.2.2.2.2.1, ()))
 else some (Sum.inr (x5, ()))
theorem h239_l0 (f275 : T275) (f276 : T276) (f277 : T277) (f239_c0 : T239_c0) : AqL (K239 f275 f276 f277) 0 (subc (code Tryz.f239) [1, 1, 1, 0, 1, 0, 0]) (N239_l0 f239_c0) f239_l0_ins f239_l0_outs (F239_l0 f275 f276 f277 f239_c0) := fun v => by kernel_rfl
def C239_l0 : T239_l0 := loopN (F239_l0 C275 C276 C277 C239_c0) big
theorem k239_l0 : FragOk Tryz.prog 0 (fun Q a w => (Code.loop (subc (code Tryz.f239) [1, 1, 1, 0, 1, 0, 0])).wp Tryz.prog Q a w) (E239_l0 C239_l0) :=
 frag_big (ins := f239_l0_ins) (os := f239_l0_outs) (C := C239_l0) (frag_loop (ins := f239_l0_ins) (os := f239_l0_outs) (n := (N239_l0 C239_c0)) (F := F239_l0 C275 C276 C277 C239_c0) hm hΓ kok239 (fun _ => big) (ann_obs (And.intro k239_c0 trivial) (by kernel_rfl)) (h239_l0 C275 C276 C277 C239_c0)) rfl
def N239 (f239_l0 : T239_l0) : Ann := (.seq .nil (.seq .nil (.seq .nil (.seq (.seq .nil (.blk (.loop (E239_l0 f239_l0)))) .nil))))
def F239 (f275 : T275) (f276 : T276) (f277 : T277) (f239_l0 : T239_l0) : T239 := fun (x0, x1, x2, x3, _) =>
 (f275 (x3, ())).bind fun v => (f239_l0 (0, 0, x0, x1, x2, v.1, ())).bind fun v => some (v.1, ())
theorem h239 (f275 : T275) (f276 : T276) (f277 : T277) (f239_l0 : T239_l0) : AqF (K239 f275 f276 f277) 0 Tryz.f239 (N239 f239_l0) f239_ins f239_outs (F239 f275 f276 f277 f239_l0) := fun v => by kernel_rfl
def C239 : T239 := F239 C275 C276 C277 C239_l0
theorem ok239 : FnOk Tryz.prog 239 (E239 C239) :=
 fnx (n := (N239 C239_l0)) kok239 Tryz.func239 (by kernel_rfl) (by kernel_rfl) (ann_obs (And.intro k239_l0 trivial) (by kernel_rfl)) (fun v => by kernel_rfl) (h239 C275 C276 C277 C239_l0)
abbrev T300 := Int × Int × Int × Unit → Option (Bool × Unit)
def E300 (f : T300) : FEnt := ⟨f300_ins, f300_outs, f⟩
def K300 : Calls' := fun f => Ae.lookA f []
theorem kok300 : KOk Tryz.prog (K300) := (kok_nil _)
def F300 : T300 := fun (x0, x1, x2, _) =>
 bif decide (x0 ≥ x1) then some (decide (x0 < IntKind.i32.wrap (x1 + IntKind.i32.wrap x2)), ())
 else some (false, ())
theorem h300 : AqF (K300) 0 Tryz.f300 .nil f300_ins f300_outs (F300) := fun v => by kernel_rfl
def C300 : T300 := F300
theorem ok300 : FnOk Tryz.prog 300 (E300 C300) :=
 fnx (n := .nil) kok300 Tryz.func300 (by kernel_rfl) (by kernel_rfl) (ann_nil _) (fun v => by kernel_rfl) (h300)
abbrev T301 := Int × Unit → Option (List (Int) × Unit)
def E301 (f : T301) : FEnt := ⟨f301_ins, f301_outs, f⟩
def K301 : Calls' := fun f => Ae.lookA f []
theorem kok301 : KOk Tryz.prog (K301) := (kok_nil _)
def F301 : T301 := fun (x0, _) =>
 bif decide ((IntKind.i32.wrap (x0 - 44032)).tmod 28 > 0) then
 some
 ([IntKind.i32.wrap (4352 + IntKind.i32.wrap ((IntKind.i32.wrap (x0 - 44032)).tdiv 588)),
 IntKind.i32.wrap (4449 + (IntKind.i32.wrap ((IntKind.i32.wrap (x0 - 44032)).tdiv 28)).tmod 21)] ++
 [IntKind.i32.wrap (4519 + (IntKind.i32.wrap (x0 - 44032)).tmod 28)],
 ())
 else
 some
 ([IntKind.i32.wrap (4352 + IntKind.i32.wrap ((IntKind.i32.wrap (x0 - 44032)).tdiv 588)),
 IntKind.i32.wrap (4449 + (IntKind.i32.wrap ((IntKind.i32.wrap (x0 - 44032)).tdiv 28)).tmod 21)],
 ())
theorem h301 : AqF (K301) 0 Tryz.f301 .nil f301_ins f301_outs (F301) := fun v => by kernel_rfl
def C301 : T301 := F301
theorem ok301 : FnOk Tryz.prog 301 (E301 C301) :=
 fnx (n := .nil) kok301 Tryz.func301 (by kernel_rfl) (by kernel_rfl) (ann_nil _) (fun v => by kernel_rfl) (h301)
abbrev T302_l0 := List (List (Int)) × Int × List (List (Int)) × Int × Int × Unit → Option (List (List (Int)) × Int × Unit)
def E302_l0 (f : T302_l0) : LEnt := ⟨f302_l0_ins, f302_l0_outs, f⟩
abbrev T302_l1 := List (List (Int)) × Int × Int × List (Int) × Unit → Option (List (Int) × Unit)
def E302_l1 (f : T302_l1) : LEnt := ⟨f302_l1_ins, f302_l1_outs, f⟩
abbrev T302 := List (List (Int)) × Unit → Option (List (Int) × Unit)
def E302 (f : T302) : FEnt := ⟨f302_ins, f302_outs, f⟩
def K302 (f312 : T312) : Calls' := fun f => Ae.lookA f [(312, E312 f312)]
theorem kok302 : KOk Tryz.prog (K302 C312) := (kok_cons ok312 (kok_nil _))
def F302_l0 (f312 : T312) : LpF (List (List (Int)) × Int × List (List (Int)) × Int × Int × Unit) (List (List (Int)) × Int × Unit) := fun (x0, x1, x2, x3, x4, _) =>
 bif decide (x4 < x3) then
 bif decide (0 ≤ x4) && decide (x4 < (↑x2.length : Int)) then
 bif
 decide
 (IntKind.i64.wrap (x1 + (↑(List.length (x2.getD x4.toNat [])) : Int)) < 0) then
 none
 else
 some
 (Sum.inl
 (x0, IntKind.i64.wrap (x1 + (↑(List.length (x2.getD x4.toNat [])) : Int)), x2, x3,
 IntKind.i64.wrap (x4 + 1), ()))
 else none
 else some (Sum.inr (x0, x1, ()))
theorem h302_l0 (f312 : T312) : AqL (K302 f312) 0 (subc (code Tryz.f302) [1, 1, 0, 1, 0, 0]) .nil f302_l0_ins f302_l0_outs (F302_l0 f312) := fun v => by kernel_rfl
def C302_l0 : T302_l0 := loopN (F302_l0 C312) big
theorem k302_l0 : FragOk Tryz.prog 0 (fun Q a w => (Code.loop (subc (code Tryz.f302) [1, 1, 0, 1, 0, 0])).wp Tryz.prog Q a w) (E302_l0 C302_l0) :=
 frag_big (ins := f302_l0_ins) (os := f302_l0_outs) (C := C302_l0) (frag_loop (ins := f302_l0_ins) (os := f302_l0_outs) (n := .nil) (F := F302_l0 C312) hm hΓ kok302 (fun _ => big) (ann_nil _) (h302_l0 C312)) rfl
def F302_l1 (f312 : T312) : LpF (List (List (Int)) × Int × Int × List (Int) × Unit) (List (Int) × Unit) := fun (x0, x1, x2, x3, _) =>
 bif decide (x2 < x1) then
 bif decide (0 ≤ x2) && decide (x2 < (↑x0.length : Int)) then
 bif decide (x3.length + List.length (x0.getD x2.toNat []) ≤ 140737488355328 / 4) then
 some
 (Sum.inl (x0, x1, IntKind.i64.wrap (x2 + 1), x3 ++ x0.getD x2.toNat [], ()))
 else none
 else none
 else some (Sum.inr (x3, ()))
theorem h302_l1 (f312 : T312) : AqL (K302 f312) 0 (subc (code Tryz.f302) [1, 1, 1, 1, 0, 1, 0, 0]) .nil f302_l1_ins f302_l1_outs (F302_l1 f312) := fun v => by kernel_rfl
def C302_l1 : T302_l1 := loopN (F302_l1 C312) big
theorem k302_l1 : FragOk Tryz.prog 0 (fun Q a w => (Code.loop (subc (code Tryz.f302) [1, 1, 1, 1, 0, 1, 0, 0])).wp Tryz.prog Q a w) (E302_l1 C302_l1) :=
 frag_big (ins := f302_l1_ins) (os := f302_l1_outs) (C := C302_l1) (frag_loop (ins := f302_l1_ins) (os := f302_l1_outs) (n := .nil) (F := F302_l1 C312) hm hΓ kok302 (fun _ => big) (ann_nil _) (h302_l1 C312)) rfl
def N302 (f302_l0 : T302_l0) (f302_l1 : T302_l1) : Ann := (.seq .nil (.seq .nil (.seq (.seq .nil (.blk (.loop (E302_l0 f302_l0)))) (.seq .nil (.seq (.seq .nil (.blk (.loop (E302_l1 f302_l1)))) .nil)))))
def F302 (f312 : T312) (f302_l0 : T302_l0) (f302_l1 : T302_l1) : T302 := fun (x0, _) =>
 (f302_l0 (x0, 0, x0, (↑x0.length : Int), 0, ())).bind fun v =>
 (f312 (v.2.1, ())).bind fun v1 =>
 (f302_l1 (v.1, (↑(List.length v.1) : Int), 0, v1.1, ())).bind fun v => some (v.1, ())
theorem h302 (f312 : T312) (f302_l0 : T302_l0) (f302_l1 : T302_l1) : AqF (K302 f312) 0 Tryz.f302 (N302 f302_l0 f302_l1) f302_ins f302_outs (F302 f312 f302_l0 f302_l1) := fun v => by kernel_rfl
def C302 : T302 := F302 C312 C302_l0 C302_l1
theorem ok302 : FnOk Tryz.prog 302 (E302 C302) :=
 fnx (n := (N302 C302_l0 C302_l1)) kok302 Tryz.func302 (by kernel_rfl) (by kernel_rfl) (ann_obs (And.intro k302_l0 (And.intro k302_l1 trivial)) (by kernel_rfl)) (fun v => by kernel_rfl) (h302 C312 C302_l0 C302_l1)
abbrev T279_c0 := Int × Bool × Bool × LqA × LqB × LqC × Int × Int × Int × Bool × Bool × Unit → Option ((List (Int) × Unit) ⊕ (Bool × LqA × LqB × LqC × Int × Int × Int × Bool × Bool × Unit))
def E279_c0 (f : T279_c0) : LEnt := ⟨f279_c0_ins, f279_c0_outs, f⟩
abbrev T279 := LqA × LqB × LqC × Int × Bool × Unit → Option (List (Int) × Unit)
def E279 (f : T279) : FEnt := ⟨f279_ins, f279_outs, f⟩
def K279 (f216 : T216) (f279 : T279) (f300 : T300) (f301 : T301) (f302 : T302) : Calls' := fun f => Ae.lookA f [(216, E216 f216), (279, E279 f279), (300, E300 f300), (301, E301 f301), (302, E302 f302)]
theorem kok279 (G : T279) (hG : FnOk Tryz.prog 279 (E279 G)) : KOk Tryz.prog (K279 C216 G C300 C301 C302) := (kok_cons ok216 (kok_cons hG (kok_cons ok300 (kok_cons ok301 (kok_cons ok302 (kok_nil _))))))
def F279_c0 (f216 : T216) (f279 : T279) (f300 : T300) (f301 : T301) (f302 : T302) : T279_c0 := fun (x0, x1, x2, x3, x4, x5, x6, x7, x8, x9, x10, _) =>
 bif x2 then some (Sum.inl ([x0], ()))
 else
 bif x8 == 0 then (f279 (x3, x4, x5, x7, x1, ())).bind fun v => some (Sum.inl (v.1, ()))
 else some (Sum.inr (x1, x3, x4, x5, x6, x7, x8, x9, x10, ()))
theorem h279_c0 (f216 : T216) (f279 : T279) (f300 : T300) (f301 : T301) (f302 : T302) : AqC (K279 f216 f279 f300 f301 f302) 0 (subc (code Tryz.f279) [1, 1, 0, 0, 1, 1, 1]) .nil f279_c0_ins f279_c0_outs (F279_c0 f216 f279 f300 f301 f302) := fun v => by kernel_rfl
def C279_c0 (G : T279) : T279_c0 := F279_c0 C216 G C300 C301 C302
theorem k279_c0 (G : T279) (hG : FnOk Tryz.prog 279 (E279 G)) : FragOk Tryz.prog 0 (fun Q a w => (subc (code Tryz.f279) [1, 1, 0, 0, 1, 1, 1]).wp Tryz.prog Q a w) (E279_c0 (C279_c0 G)) :=
 frag_code (ins := f279_c0_ins) (os := f279_c0_outs) (n := .nil) (F := (C279_c0 G)) hm hΓ (kok279 G hG) (ann_nil _) (h279_c0 C216 G C300 C301 C302)
def N279 (f279_c0 : T279_c0) : Ann := (.seq .nil (.seq .nil (.seq (.blk (.seq .nil (.cond .nil (.cut .nil (E279_c0 f279_c0))))) .nil)))
def F279 (f216 : T216) (f279 : T279) (f300 : T300) (f301 : T301) (f302 : T302) (f279_c0 : T279_c0) : T279 := fun (x0, x1, x2, x3, x4, _) =>
 (f216 (x0, x1, x2, x3, ())).bind fun v =>
 (f300 (x3, 44032, 11172, ())).bind fun v1 =>
 bif v1.1 then (f301 (x3, ())).bind fun v => some (v.1, ())
 else
 bif !v.2.2.2.2.2.1 then
 (f279_c0
 (x3, x4, true, x0, x1, x2, v.1, v.2.1, v.2.2.1, v.2.2.2.1,
 v.2.2.2.2.1, ())).bind
 fun v =>
 Sum.elim (fun v => some (v.1, ()))
 (fun v =>
 (f279 (v.2.1, v.2.2.1, v.2.2.2.1, v.2.2.2.2.2.1, v.1, ())).bind
 fun v2 =>
 (f279
 (v.2.1, v.2.2.1, v.2.2.2.1, v.2.2.2.2.2.2.1, v.1,
 ())).bind
 fun v => (f302 ([v2.1, v.1], ())).bind fun v => some (v.1, ()))
 v
 else
 bif v.2.2.2.1 then
 (f279_c0
 (x3, x4, !x4, x0, x1, x2, v.1, v.2.1, v.2.2.1, v.2.2.2.1,
 v.2.2.2.2.1, ())).bind
 fun v =>
 Sum.elim (fun v => some (v.1, ()))
 (fun v =>
 (f279
 (v.2.1, v.2.2.1, v.2.2.2.1, v.2.2.2.2.2.1, v.1,
 ())).bind
 fun v2 =>
 (f279
 (v.2.1, v.2.2.1, v.2.2.2.1, v.2.2.2.2.2.2.1, v.1,
 ())).bind
 fun v => (f302 ([v2.1, v.1], ())).bind fun v => some (v.1, ()))
 v
 else
 (f279_c0
 (x3, x4, false, x0, x1, x2, v.1, v.2.1, v.2.2.1, v.2.2.2.1,
 v.2.2.2.2.1, ())).bind
 fun v =>
 Sum.elim (fun v => some (v.1, ()))
 (fun v =>
 (f279
 (v.2.1, v.2.2.1, v.2.2.2.1, v.2.2.2.2.2.1, v.1,
 ())).bind
 fun v2 =>
 (f279
 (v.2.1, v.2.2.1, v.2.2.2.1, v.2.2.2.2.2.2.1, v.1,
 ())).bind
 fun v => (f302 ([v2.1, v.1], ())).bind fun v => some (v.1, ()))
 v
theorem h279 (f216 : T216) (f279 : T279) (f300 : T300) (f301 : T301) (f302 : T302) (f279_c0 : T279_c0) : AqF (K279 f216 f279 f300 f301 f302) 0 Tryz.f279 (N279 f279_c0) f279_ins f279_outs (F279 f216 f279 f300 f301 f302 f279_c0) := fun v => by kernel_rfl
def C279 : T279 := recN (fun G => F279 C216 G C300 C301 C302 (C279_c0 G)) big
theorem ok279 : FnOk Tryz.prog 279 (E279 C279) :=
 fn_rec (ins := f279_ins) (os := f279_outs) (F := fun G => F279 C216 G C300 C301 C302 (C279_c0 G)) (fun G hG => fnx (n := (N279 (C279_c0 G))) (kok279 G hG) Tryz.func279 (by kernel_rfl) (by kernel_rfl) (ann_obs (And.intro (k279_c0 G hG) trivial) (by kernel_rfl)) (fun v => by kernel_rfl) (h279 C216 G C300 C301 C302 (C279_c0 G))) big
abbrev T240_l0 := Bool × List (Int) × Int × Int × LqA × LqB × LqC × List (Int) × Unit → Option (List (Int) × Unit)
def E240_l0 (f : T240_l0) : LEnt := ⟨f240_l0_ins, f240_l0_outs, f⟩
abbrev T240 := LqA × LqB × LqC × List (Int) × Bool × Unit → Option (List (Int) × Unit)
def E240 (f : T240) : FEnt := ⟨f240_ins, f240_outs, f⟩
def K240 (f279 : T279) : Calls' := fun f => Ae.lookA f [(279, E279 f279)]
theorem kok240 : KOk Tryz.prog (K240 C279) := (kok_cons ok279 (kok_nil _))
def F240_l0 (f279 : T279) : LpF (Bool × List (Int) × Int × Int × LqA × LqB × LqC × List (Int) × Unit) (List (Int) × Unit) := fun (x0, x1, x2, x3, x4, x5, x6, x7, _) =>
 bif decide (x3 < x2) then
 bif decide (0 ≤ x3) && decide (x3 < (↑x1.length : Int)) then
 (f279 (x4, x5, x6, x1.getD x3.toNat 0, x0, ())).bind fun v =>
 bif decide (x7.length + List.length v.1 ≤ 140737488355328 / 4) then
 some (Sum.inl (x0, x1, x2, IntKind.i64.wrap (x3 + 1), x4, x5, x6, x7 ++ v.1, ()))
 else none
 else none
 else some (Sum.inr (x7, ()))
theorem h240_l0 (f279 : T279) : AqL (K240 f279) 0 (subc (code Tryz.f240) [1, 1, 0, 1, 0, 0]) .nil f240_l0_ins f240_l0_outs (F240_l0 f279) := fun v => by kernel_rfl
def C240_l0 : T240_l0 := loopN (F240_l0 C279) big
theorem k240_l0 : FragOk Tryz.prog 0 (fun Q a w => (Code.loop (subc (code Tryz.f240) [1, 1, 0, 1, 0, 0])).wp Tryz.prog Q a w) (E240_l0 C240_l0) :=
 frag_big (ins := f240_l0_ins) (os := f240_l0_outs) (C := C240_l0) (frag_loop (ins := f240_l0_ins) (os := f240_l0_outs) (n := .nil) (F := F240_l0 C279) hm hΓ kok240 (fun _ => big) (ann_nil _) (h240_l0 C279)) rfl
def N240 (f240_l0 : T240_l0) : Ann := (.seq .nil (.seq .nil (.seq (.seq .nil (.blk (.loop (E240_l0 f240_l0)))) .nil)))
def F240 (f279 : T279) (f240_l0 : T240_l0) : T240 := fun (x0, x1, x2, x3, x4, _) =>
 (f240_l0 (x4, x3, (↑x3.length : Int), 0, x0, x1, x2, [], ())).bind fun v => some (v.1, ())
theorem h240 (f279 : T279) (f240_l0 : T240_l0) : AqF (K240 f279) 0 Tryz.f240 (N240 f240_l0) f240_ins f240_outs (F240 f279 f240_l0) := fun v => by kernel_rfl
def C240 : T240 := F240 C279 C240_l0
theorem ok240 : FnOk Tryz.prog 240 (E240 C240) :=
 fnx (n := (N240 C240_l0)) kok240 Tryz.func240 (by kernel_rfl) (by kernel_rfl) (ann_obs (And.intro k240_l0 trivial) (by kernel_rfl)) (fun v => by kernel_rfl) (h240 C279 C240_l0)
end Go.Proofs.YtiacnhhmkdkpmaaGreatDoorC.W
set_option maxRecDepth 100000
set_option linter.unusedVariables false
namespace Go.Proofs.YtiacnhhmkdkpmaaGreatDoorC.W
open Go Go.Ae
abbrev T280_c0 := Int × Int × Bool × LqA × LqB × LqC × Unit → Option ((Int × Bool × Unit) ⊕ (Int × Int × LqA × LqB × LqC × Unit))
def E280_c0 (f : T280_c0) : LEnt := ⟨f280_c0_ins, f280_c0_outs, f⟩
abbrev T280 := LqA × LqB × LqC × Int × Int × Unit → Option (Int × Bool × Unit)
def E280 (f : T280) : FEnt := ⟨f280_ins, f280_outs, f⟩
def K280 (f300 : T300) (f303 : T303) : Calls' := fun f => Ae.lookA f [(300, E300 f300), (303, E303 f303)]
theorem kok280 : KOk Tryz.prog (K280 C300 C303) := (kok_cons ok300 (kok_cons ok303 (kok_nil _)))
def F280_c0 (f300 : T300) (f303 : T303) : T280_c0 := fun (x0, x1, x2, x3, x4, x5, _) =>
 bif x2 then
 some
 (Sum.inl
 (IntKind.i32.wrap
 (44032 +
 IntKind.i32.wrap
 (IntKind.i32.wrap (IntKind.i32.wrap (IntKind.i32.wrap (IntKind.i32.wrap (x0 - 4352) * 21) + x1) - 4449) *
 28)),
 true, ()))
 else
 (f300 (x0, 44032, 11172, ())).bind fun v =>
 bif v.1 then
 bif (IntKind.i32.wrap (x0 - 44032)).tmod 28 == 0 then
 (f300 (x1, 4520, 27, ())).bind fun v =>
 bif v.1 then some (Sum.inl (IntKind.i32.wrap (IntKind.i32.wrap (x0 + x1) - 4519), true, ()))
 else some (Sum.inr (x0, x1, x3, x4, x5, ()))
 else some (Sum.inr (x0, x1, x3, x4, x5, ()))
 else some (Sum.inr (x0, x1, x3, x4, x5, ()))
theorem h280_c0 (f300 : T300) (f303 : T303) : AqC (K280 f300 f303) 0 (subc (code Tryz.f280) [1, 0, 0, 1]) .nil f280_c0_ins f280_c0_outs (F280_c0 f300 f303) := fun v => by kernel_rfl
def C280_c0 : T280_c0 := F280_c0 C300 C303
theorem k280_c0 : FragOk Tryz.prog 0 (fun Q a w => (subc (code Tryz.f280) [1, 0, 0, 1]).wp Tryz.prog Q a w) (E280_c0 C280_c0) :=
 frag_code (ins := f280_c0_ins) (os := f280_c0_outs) (n := .nil) (F := C280_c0) hm hΓ kok280 (ann_nil _) (h280_c0 C300 C303)
def N280 (f280_c0 : T280_c0) : Ann := (.seq .nil (.seq (.blk (.cut .nil (E280_c0 f280_c0))) .nil))
def F280 (f300 : T300) (f303 : T303) (f280_c0 : T280_c0) : T280 := fun (x0, x1, x2, x3, x4, _) =>
 (f300 (x3, 4352, 19, ())).bind fun v =>
 bif v.1 then
 (f300 (x4, 4449, 21, ())).bind fun v =>
 (f280_c0 (x3, x4, v.1, x0, x1, x2, ())).bind fun v =>
 Sum.elim (fun v => some (v.1, v.2.1, ()))
 (fun v =>
 (f303 (v.2.2.1, v.2.2.2.1, v.2.2.2.2.1, v.1, v.2.1, ())).bind
 fun v => some (v.1, v.2.1, ()))
 v
 else
 (f280_c0 (x3, x4, false, x0, x1, x2, ())).bind fun v =>
 Sum.elim (fun v => some (v.1, v.2.1, ()))
 (fun v =>
 (f303 (v.2.2.1, v.2.2.2.1, v.2.2.2.2.1, v.1, v.2.1, ())).bind
 fun v => some (v.1, v.2.1, ()))
 v
theorem h280 (f300 : T300) (f303 : T303) (f280_c0 : T280_c0) : AqF (K280 f300 f303) 0 Tryz.f280 (N280 f280_c0) f280_ins f280_outs (F280 f300 f303 f280_c0) := fun v => by kernel_rfl
def C280 : T280 := F280 C300 C303 C280_c0
theorem ok280 : FnOk Tryz.prog 280 (E280 C280) :=
 fnx (n := (N280 C280_c0)) kok280 Tryz.func280 (by kernel_rfl) (by kernel_rfl) (ann_obs (And.intro k280_c0 trivial) (by kernel_rfl)) (fun v => by kernel_rfl) (h280 C300 C303 C280_c0)
abbrev T241_c0 := Int × Int × Int × Int × List (Int) × Int × Int × Bool × LqA × LqB × LqC × List (Int) × Unit → Option ((Int × Int × List (Int) × Int × Int × LqA × LqB × LqC × List (Int) × Unit) ⊕ (Int × Int × Int × Int × List (Int) × Int × Int × LqA × LqB × LqC × List (Int) × Unit))
def E241_c0 (f : T241_c0) : LEnt := ⟨f241_c0_ins, f241_c0_outs, f⟩
abbrev T241_l0 := Int × Int × List (Int) × Int × Int × LqA × LqB × LqC × List (Int) × Unit → Option (List (Int) × Unit)
def E241_l0 (f : T241_l0) : LEnt := ⟨f241_l0_ins, f241_l0_outs, f⟩
abbrev T241 := LqA × LqB × LqC × List (Int) × Unit → Option (List (Int) × Unit)
def E241 (f : T241) : FEnt := ⟨f241_ins, f241_outs, f⟩
def K241 (f276 : T276) (f280 : T280) : Calls' := fun f => Ae.lookA f [(276, E276 f276), (280, E280 f280)]
theorem kok241 : KOk Tryz.prog (K241 C276 C280) := (kok_cons ok276 (kok_cons ok280 (kok_nil _)))
def F241_c0 (f276 : T276) (f280 : T280) : T241_c0 := fun (x0, x1, x2, x3, x4, x5, x6, x7, x8, x9, x10, x11, _) =>
 bif x7 then
 bif decide (0 ≤ x0) && decide (x0 < (↑x11.length : Int)) then
 (f280 (x8, x9, x10, x11.getD x0.toNat 0, x2, ())).bind fun v =>
 bif v.2.1 then
 bif decide (0 ≤ x0) && decide (x0 < (↑x11.length : Int)) then
 some (Sum.inl (x0, x1, x4, x5, x6, x8, x9, x10, x11.set x0.toNat v.1, ()))
 else none
 else some (Sum.inr (x0, x1, x2, x3, x4, x5, x6, x8, x9, x10, x11, ()))
 else none
 else some (Sum.inr (x0, x1, x2, x3, x4, x5, x6, x8, x9, x10, x11, ()))
theorem h241_c0 (f276 : T276) (f280 : T280) : AqC (K241 f276 f280) 0 (subc (code Tryz.f241) [1, 1, 1, 0, 1, 0, 0, 1, 1, 0, 0, 1, 1, 0, 1]) .nil f241_c0_ins f241_c0_outs (F241_c0 f276 f280) := fun v => by kernel_rfl
def C241_c0 : T241_c0 := F241_c0 C276 C280
theorem k241_c0 : FragOk Tryz.prog 0 (fun Q a w => (subc (code Tryz.f241) [1, 1, 1, 0, 1, 0, 0, 1, 1, 0, 0, 1, 1, 0, 1]).wp Tryz.prog Q a w) (E241_c0 C241_c0) :=
 frag_code (ins := f241_c0_ins) (os := f241_c0_outs) (n := .nil) (F := C241_c0) hm hΓ kok241 (ann_nil _) (h241_c0 C276 C280)
def N241_l0 (f241_c0 : T241_c0) : Ann := (.seq .nil (.seq .nil (.seq (.blk (.seq .nil (.seq .nil (.seq (.cut .nil (E241_c0 f241_c0)) .nil)))) .nil)))
def F241_l0 (f276 : T276) (f280 : T280) (f241_c0 : T241_c0) : LpF (Int × Int × List (Int) × Int × Int × LqA × LqB × LqC × List (Int) × Unit) (List (Int) × Unit) := fun (x0, x1, x2, x3, x4, x5, x6, x7, x8, _) =>
 bif decide (x4 < x3) then
 bif decide (0 ≤ x4) && decide (x4 < (↑x2.length : Int)) then
 (f276 (x5, x6, x7, x2.getD x4.toNat 0, ())).bind fun v =>
 bif decide (x0 ≥ 0) then
 bif decide (x1 < v.1) then
 (f241_c0
 (x0, x1, x2.getD x4.toNat 0, v.1, x2, x3, x4, true, x5, x6, x7, x8,
 ())).bind
 fun v =>
 Sum.elim
 (fun v =>
 some
 (Sum.inl
 (v.1, v.2.1, v.2.2.1, v.2.2.2.1,
 IntKind.i64.wrap (v.2.2.2.2.1 + 1), v.2.2.2.2.2.1,
 v.2.2.2.2.2.2.1, v.2.2.2.2.2.2.2.1,
 v.2.2.2.2.2.2.2.2.1, ())))
 (fun v =>
 bif
 decide
 (List.length v.2.2.2.2.2.2.2.2.2.2.1 + [v.2.2.1].length ≤
 140737488355328 / 4) then
 bif v.2.2.2.1 == 0 then
 some
 (Sum.inl
 (IntKind.i64.wrap
 ((↑(v.2.2.2.2.2.2.2.2.2.2.1 ++ [v.2.2.1]).length : Int) -
 1),
 0, v.2.2.2.2.1, v.2.2.2.2.2.1,
 IntKind.i64.wrap (v.2.2.2.2.2.2.1 + 1), v.2.2.2.2.2.2.2.1,
 v.2.2.2.2.2.2.2.2.1, v.2.2.2.2.2.2.2.2.2.1,
 v.2.2.2.2.2.2.2.2.2.2.1 ++ [v.2.2.1], ()))
 else
 some
 (Sum.inl
 (v.1, if v.2.2.2.1 > v.2.1 then v.2.2.2.1 else v.2.1,
 v.2.2.2.2.1, v.2.2.2.2.2.1,
 IntKind.i64.wrap (v.2.2.2.2.2.2.1 + 1), v.2.2.2.2.2.2.2.1,
 v.2.2.2.2.2.2.2.2.1, v.2.2.2.2.2.2.2.2.2.1,
 v.2.2.2.2.2.2.2.2.2.2.1 ++ [v.2.2.1], ()))
 else none)
 v
 else
 (f241_c0
 (x0, x1, x2.getD x4.toNat 0, v.1, x2, x3, x4,
 x0 == IntKind.i64.wrap ((↑x8.length : Int) - 1), x5, x6, x7, x8, ())).bind
 fun v =>
 Sum.elim
 (fun v =>
 some
 (Sum.inl
 (v.1, v.2.1, v.2.2.1, v.2.2.2.1,
 IntKind.i64.wrap (v.2.2.2.2.1 + 1), v.2.2.2.2.2.1,
 v.2.2.2.2.2.2.1, v.2.2.2.2.2.2.2.1,
 v.2.2.2.2.2.2.2.2.1, ())))
 (fun v =>
 bif
 decide
 (List.length v.2.2.2.2.2.2.2.2.2.2.1 + [v.2.2.1].length ≤
 140737488355328 / 4) then
 bif v.2.2.2.1 == 0 then
 some
 (Sum.inl
 (IntKind.i64.wrap
 ((↑(v.2.2.2.2.2.2.2.2.2.2.1 ++ [v.2.2.1]).length : Int) -
 1),
 0, v.2.2.2.2.1, v.2.2.2.2.2.1,
 IntKind.i64.wrap (v.2.2.2.2.2.2.1 + 1), v.2.2.2.2.2.2.2.1,
 v.2.2.2.2.2.2.2.2.1, v.2.2.2.2.2.2.2.2.2.1,
 v.2.2.2.2.2.2.2.2.2.2.1 ++ [v.2.2.1], ()))
 else
 some
 (Sum.inl
 (v.1, if v.2.2.2.1 > v.2.1 then v.2.2.2.1 else v.2.1,
 v.2.2.2.2.1, v.2.2.2.2.2.1,
 IntKind.i64.wrap (v.2.2.2.2.2.2.1 + 1), v.2.2.2.2.2.2.2.1,
 v.2.2.2.2.2.2.2.2.1, v.2.2.2.2.2.2.2.2.2.1,
 v.2.2.2.2.2.2.2.2.2.2.1 ++ [v.2.2.1], ()))
 else none)
 v
 else
 (f241_c0
 (x0, x1, x2.getD x4.toNat 0, v.1, x2, x3, x4, false, x5, x6, x7, x8, ())).bind
 fun v =>
 Sum.elim
 (fun v =>
 some
 (Sum.inl
 (v.1, v.2.1, v.2.2.1, v.2.2.2.1,
 IntKind.i64.wrap (v.2.2.2.2.1 + 1), v.2.2.2.2.2.1,
 v.2.2.2.2.2.2.1, v.2.2.2.2.2.2.2.1,
 v.2.2.2.2.2.2.2.2.1, ())))
 (fun v =>
 bif
 decide
 (List.length v.2.2.2.2.2.2.2.2.2.2.1 + [v.2.2.1].length ≤
 140737488355328 / 4) then
 bif v.2.2.2.1 == 0 then
 some
 (Sum.inl
 (IntKind.i64.wrap
 ((↑(v.2.2.2.2.2.2.2.2.2.2.1 ++ [v.2.2.1]).length : Int) - 1),
 0, v.2.2.2.2.1, v.2.2.2.2.2.1,
 IntKind.i64.wrap (v.2.2.2.2.2.2.1 + 1), v.2.2.2.2.2.2.2.1,
 v.2.2.2.2.2.2.2.2.1, v.2.2.2.2.2.2.2.2.2.1,
 v.2.2.2.2.2.2.2.2.2.2.1 ++ [v.2.2.1], ()))
 else
 some
 (Sum.inl
 (v.1, if v.2.2.2.1 > v.2.1 then v.2.2.2.1 else v.2.1,
 v.2.2.2.2.1, v.2.2.2.2.2.1,
 IntKind.i64.wrap (v.2.2.2.2.2.2.1 + 1), v.2.2.2.2.2.2.2.1,
 v.2.2.2.2.2.2.2.2.1, v.2.2.2.2.2.2.2.2.2.1,
 v.2.2.2.2.2.2.2.2.2.2.1 ++ [v.2.2.1], ()))
 else none)
 v
 else none
 else some (Sum.inr (x8, ()))
theorem h241_l0 (f276 : T276) (f280 : T280) (f241_c0 : T241_c0) : AqL (K241 f276 f280) 0 (subc (code Tryz.f241) [1, 1, 1, 0, 1, 0, 0]) (N241_l0 f241_c0) f241_l0_ins f241_l0_outs (F241_l0 f276 f280 f241_c0) := fun v => by kernel_rfl
def C241_l0 : T241_l0 := loopN (F241_l0 C276 C280 C241_c0) big
theorem k241_l0 : FragOk Tryz.prog 0 (fun Q a w => (Code.loop (subc (code Tryz.f241) [1, 1, 1, 0, 1, 0, 0])).wp Tryz.prog Q a w) (E241_l0 C241_l0) :=
 frag_big (ins := f241_l0_ins) (os := f241_l0_outs) (C := C241_l0) (frag_loop (ins := f241_l0_ins) (os := f241_l0_outs) (n := (N241_l0 C241_c0)) (F := F241_l0 C276 C280 C241_c0) hm hΓ kok241 (fun _ => big) (ann_obs (And.intro k241_c0 trivial) (by kernel_rfl)) (h241_l0 C276 C280 C241_c0)) rfl
def N241 (f241_l0 : T241_l0) : Ann := (.seq .nil (.seq .nil (.seq .nil (.seq (.seq .nil (.blk (.loop (E241_l0 f241_l0)))) .nil))))
def F241 (f276 : T276) (f280 : T280) (f241_l0 : T241_l0) : T241 := fun (x0, x1, x2, x3, _) =>
 (f241_l0 (-1, 0, x3, (↑x3.length : Int), 0, x0, x1, x2, [], ())).bind fun v => some (v.1, ())
theorem h241 (f276 : T276) (f280 : T280) (f241_l0 : T241_l0) : AqF (K241 f276 f280) 0 Tryz.f241 (N241 f241_l0) f241_ins f241_outs (F241 f276 f280 f241_l0) := fun v => by kernel_rfl
def C241 : T241 := F241 C276 C280 C241_l0
theorem ok241 : FnOk Tryz.prog 241 (E241 C241) :=
 fnx (n := (N241 C241_l0)) kok241 Tryz.func241 (by kernel_rfl) (by kernel_rfl) (ann_obs (And.intro k241_l0 trivial) (by kernel_rfl)) (fun v => by kernel_rfl) (h241 C276 C280 C241_l0)
abbrev T121_c0 := Int × Bool × Unit → Option ((Int × Int × Unit) ⊕ Unit)
def E121_c0 (f : T121_c0) : LEnt := ⟨f121_c0_ins, f121_c0_outs, f⟩
abbrev T121_c1 := Int × Bool × Unit → Option ((Int × Int × Unit) ⊕ Unit)
def E121_c1 (f : T121_c1) : LEnt := ⟨f121_c1_ins, f121_c1_outs, f⟩
abbrev T121 := Int × Unit → Option (Int × Int × Unit)
def E121 (f : T121) : FEnt := ⟨f121_ins, f121_outs, f⟩
def K121 : Calls' := fun f => Ae.lookA f []
theorem kok121 : KOk Tryz.prog (K121) := (kok_nil _)
def F121_c0 : T121_c0 := fun (x0, x1, _) =>
 bif x1 then some (Sum.inl (2, IntKind.i32.wrap (intBits BinOp.and IntKind.u8 x0 15), ()))
 else
 bif decide (x0 ≥ 240) then
 bif decide (x0 < 245) then some (Sum.inl (3, IntKind.i32.wrap (intBits BinOp.and IntKind.u8 x0 7), ()))
 else some (Sum.inr ())
 else some (Sum.inr ())
theorem h121_c0 : AqC (K121) 0 (subc (code Tryz.f121) [1, 0, 0, 1, 1, 1, 1, 1]) .nil f121_c0_ins f121_c0_outs (F121_c0) := fun v => by kernel_rfl
def C121_c0 : T121_c0 := F121_c0
theorem k121_c0 : FragOk Tryz.prog 0 (fun Q a w => (subc (code Tryz.f121) [1, 0, 0, 1, 1, 1, 1, 1]).wp Tryz.prog Q a w) (E121_c0 C121_c0) :=
 frag_code (ins := f121_c0_ins) (os := f121_c0_outs) (n := .nil) (F := C121_c0) hm hΓ kok121 (ann_nil _) (h121_c0)
def N121_c1 (f121_c0 : T121_c0) : Ann := (.cond .nil (.cut .nil (E121_c0 f121_c0)))
def F121_c1 (f121_c0 : T121_c0) : T121_c1 := fun (x0, x1, _) =>
 bif x1 then some (Sum.inl (1, IntKind.i32.wrap (intBits BinOp.and IntKind.u8 x0 31), ()))
 else
 bif decide (x0 ≥ 224) then
 (f121_c0 (x0, decide (x0 < 240), ())).bind fun v =>
 Sum.elim (fun v => some (Sum.inl (v.1, v.2.1, ()))) (fun v => some (Sum.inr ())) v
 else
 (f121_c0 (x0, false, ())).bind fun v =>
 Sum.elim (fun v => some (Sum.inl (v.1, v.2.1, ()))) (fun v => some (Sum.inr ())) v
theorem h121_c1 (f121_c0 : T121_c0) : AqC (K121) 0 (subc (code Tryz.f121) [1, 0, 0, 1, 1, 1]) (N121_c1 f121_c0) f121_c1_ins f121_c1_outs (F121_c1 f121_c0) := fun v => by kernel_rfl
def C121_c1 : T121_c1 := F121_c1 C121_c0
theorem k121_c1 : FragOk Tryz.prog 0 (fun Q a w => (subc (code Tryz.f121) [1, 0, 0, 1, 1, 1]).wp Tryz.prog Q a w) (E121_c1 C121_c1) :=
 frag_code (ins := f121_c1_ins) (os := f121_c1_outs) (n := (N121_c1 C121_c0)) (F := C121_c1) hm hΓ kok121 (ann_obs (And.intro k121_c0 trivial) (by kernel_rfl)) (h121_c1 C121_c0)
def N121 (f121_c1 : T121_c1) : Ann := (.seq .nil (.seq (.blk (.seq .nil (.cond .nil (.cut .nil (E121_c1 f121_c1))))) .nil))
def F121 (f121_c1 : T121_c1) : T121 := fun (x0, _) =>
 bif decide (x0 < 128) then some (0, IntKind.i32.wrap x0, ())
 else
 bif decide (x0 ≥ 194) then
 (f121_c1 (x0, decide (x0 < 224), ())).bind fun v =>
 Sum.elim (fun v => some (v.1, v.2.1, ())) (fun v => some (-1, 0, ())) v
 else
 (f121_c1 (x0, false, ())).bind fun v =>
 Sum.elim (fun v => some (v.1, v.2.1, ())) (fun v => some (-1, 0, ())) v
theorem h121 (f121_c1 : T121_c1) : AqF (K121) 0 Tryz.f121 (N121 f121_c1) f121_ins f121_outs (F121 f121_c1) := fun v => by kernel_rfl
def C121 : T121 := F121 C121_c1
theorem ok121 : FnOk Tryz.prog 121 (E121 C121) :=
 fnx (n := (N121 C121_c1)) kok121 Tryz.func121 (by kernel_rfl) (by kernel_rfl) (ann_obs (And.intro k121_c1 trivial) (by kernel_rfl)) (fun v => by kernel_rfl) (h121 C121_c1)
abbrev T83_l0 := LqS × Int × Int × Int × Int × List (Int) × Unit → Option ((LqS × Int × Int × Int × List (Int) × Unit) ⊕ (Int × List (Int) × Unit))
def E83_l0 (f : T83_l0) : LEnt := ⟨f83_l0_ins, f83_l0_outs, f⟩
abbrev T83_l1 := LqS × Int × List (Int) × Unit → Option ((List (Int) × Unit) ⊕ (Int × List (Int) × Unit))
def E83_l1 (f : T83_l1) : LEnt := ⟨f83_l1_ins, f83_l1_outs, f⟩
abbrev T83_g0 := Int × List (Int) × Unit → Option (Int × List (Int) × Unit)
def E83_g0 (f : T83_g0) : LEnt := ⟨f83_g0_ins, f83_g0_outs, f⟩
abbrev T83 := LqS × Unit → Option (List (Int) × Int × Unit)
def E83 (f : T83) : FEnt := ⟨f83_ins, f83_outs, f⟩
def K83 (f121 : T121) (f122 : T122) : Calls' := fun f => Ae.lookA f [(121, E121 f121), (122, E122 f122)]
theorem kok83 : KOk Tryz.prog (K83 C121 C122) := (kok_cons ok121 (kok_cons ok122 (kok_nil _)))
def F83_l0 (f121 : T121) (f122 : T122) : LpF (LqS × Int × Int × Int × Int × List (Int) × Unit) ((LqS × Int × Int × Int × List (Int) × Unit) ⊕ (Int × List (Int) × Unit)) := fun (x0, x1, x2, x3, x4, x5, _) =>
 bif decide (x4 ≤ IntKind.i64.wrap (x3 + x1)) then
 bif decide (0 ≤ x4) && decide (x4 < (↑x0.length : Int)) then
 bif intBits BinOp.andNot IntKind.u8 (↑(x0.getD x4.toNat 0).toNat : Int) 63 != 128 then
 some (Sum.inr (Sum.inr (x3, x5, ())))
 else
 bif decide (0 ≤ x4) && decide (x4 < (↑x0.length : Int)) then
 some
 (Sum.inl
 (x0, x1,
 intBits BinOp.or IntKind.i32 (IntKind.i32.wrap (x2 * 2 ^ min 6 IntKind.i32.bits))
 (IntKind.i32.wrap (intBits BinOp.and IntKind.u8 (↑(x0.getD x4.toNat 0).toNat : Int) 63)),
 x3, IntKind.i64.wrap (x4 + 1), x5, ()))
 else none
 else none
 else some (Sum.inr (Sum.inl (x0, x1, x2, x3, x5, ())))
theorem h83_l0 (f121 : T121) (f122 : T122) : AqL (K83 f121 f122) 0 (subc (code Tryz.f83) [1, 0, 1, 1, 1, 1, 0, 0, 0, 1, 0, 1, 1, 0, 1, 0, 0]) .nil f83_l0_ins f83_l0_outs (F83_l0 f121 f122) := fun v => by kernel_rfl
def C83_l0 : T83_l0 := loopN (F83_l0 C121 C122) big
theorem k83_l0 : FragOk Tryz.prog 0 (fun Q a w => (Code.loop (subc (code Tryz.f83) [1, 0, 1, 1, 1, 1, 0, 0, 0, 1, 0, 1, 1, 0, 1, 0, 0])).wp Tryz.prog Q a w) (E83_l0 C83_l0) :=
 frag_big (ins := f83_l0_ins) (os := f83_l0_outs) (C := C83_l0) (frag_loop (ins := f83_l0_ins) (os := f83_l0_outs) (n := .nil) (F := F83_l0 C121 C122) hm hΓ kok83 (fun _ => big) (ann_nil _) (h83_l0 C121 C122)) rfl
def N83_l1 (f83_l0 : T83_l0) : Ann := (.seq .nil (.blk (.seq .nil (.seq .nil (.seq (.seq .nil (.blk (.loop (E83_l0 f83_l0)))) .nil)))))
def F83_l1 (f121 : T121) (f122 : T122) (f83_l0 : T83_l0) : LpF (LqS × Int × List (Int) × Unit) ((List (Int) × Unit) ⊕ (Int × List (Int) × Unit)) := fun (x0, x1, x2, _) =>
 bif decide (x1 < (↑x0.length : Int)) then
 bif decide (0 ≤ x1) && decide (x1 < (↑x0.length : Int)) then
 (f121 ((↑(x0.getD x1.toNat 0).toNat : Int), ())).bind fun v =>
 bif decide (v.1 < 0) then some (Sum.inr (Sum.inr (x1, x2, ())))
 else
 bif decide (IntKind.i64.wrap ((↑x0.length : Int) - x1) ≤ v.1) then
 some (Sum.inr (Sum.inr (x1, x2, ())))
 else
 (f83_l0 (x0, v.1, v.2.1, x1, IntKind.i64.wrap (x1 + 1), x2, ())).bind fun v =>
 Sum.elim
 (fun v =>
 (f122 (v.2.2.1, ())).bind fun v1 =>
 bif v1.1 != IntKind.i64.wrap (v.2.1 + 1) then
 some (Sum.inr (Sum.inr (v.2.2.2.1, v.2.2.2.2.1, ())))
 else
 bif
 decide
 (List.length v.2.2.2.2.1 + [v.2.2.1].length ≤ 140737488355328 / 4) then
 some
 (Sum.inl
 (v.1, IntKind.i64.wrap (v.2.2.2.1 + IntKind.i64.wrap (v.2.1 + 1)),
 v.2.2.2.2.1 ++ [v.2.2.1], ()))
 else none)
 (fun v => some (Sum.inr (Sum.inr (v.1, v.2.1, ())))) v
 else none
 else some (Sum.inr (Sum.inl (x2, ())))
theorem h83_l1 (f121 : T121) (f122 : T122) (f83_l0 : T83_l0) : AqL (K83 f121 f122) 0 (subc (code Tryz.f83) [1, 0, 1, 1, 1, 1, 0, 0, 0]) (N83_l1 f83_l0) f83_l1_ins f83_l1_outs (F83_l1 f121 f122 f83_l0) := fun v => by kernel_rfl
def C83_l1 : T83_l1 := loopN (F83_l1 C121 C122 C83_l0) big
theorem k83_l1 : FragOk Tryz.prog 0 (fun Q a w => (Code.loop (subc (code Tryz.f83) [1, 0, 1, 1, 1, 1, 0, 0, 0])).wp Tryz.prog Q a w) (E83_l1 C83_l1) :=
 frag_big (ins := f83_l1_ins) (os := f83_l1_outs) (C := C83_l1) (frag_loop (ins := f83_l1_ins) (os := f83_l1_outs) (n := (N83_l1 C83_l0)) (F := F83_l1 C121 C122 C83_l0) hm hΓ kok83 (fun _ => big) (ann_obs (And.intro k83_l0 trivial) (by kernel_rfl)) (h83_l1 C121 C122 C83_l0)) rfl
def F83_g0 (f121 : T121) (f122 : T122) : LpF (Int × List (Int) × Unit) (Int × List (Int) × Unit) := fun (x0, x1, _) =>
 some (Sum.inr (x0, x1, ()))
theorem h83_g0 (f121 : T121) (f122 : T122) (v : HS f83_g0_ins) : aev Γ (K83 f121 f122) 0 ((findLabel (subc (code Tryz.f83) [1, 0]) 0).getD .skip) .nil (stof f83_g0_ins v) (aroundL 0 0 [] f83_g0_ins f83_g0_outs) = F83_g0 f121 f122 v := by kernel_rfl
def C83_g0 : T83_g0 := loopN (F83_g0 C121 C122) big
theorem k83_g0 : FragOk Tryz.prog 0 (ScopeFrom Tryz.prog (subc (code Tryz.f83) [1, 0]) 0) (E83_g0 C83_g0) :=
 frag_big (ins := f83_g0_ins) (os := f83_g0_outs) (C := C83_g0) (frag_label (ins := f83_g0_ins) (os := f83_g0_outs) (n := .nil) (ls := []) (F := F83_g0 C121 C122) (rest := ((findLabel (subc (code Tryz.f83) [1, 0]) 0).getD .skip)) hm hΓ kok83 (fun _ => big) (by kernel_rfl) (ann_nil _) find_nil (h83_g0 C121 C122)) rfl
def N83 (f83_g0 : T83_g0) (f83_l1 : T83_l1) : Ann := (.seq .nil (.scope (.seq .nil (.seq .nil (.seq .nil (.seq .nil (.seq (.blk (.loop (E83_l1 f83_l1))) .nil))))) [(0, (E83_g0 f83_g0))]))
def F83 (f121 : T121) (f122 : T122) (f83_g0 : T83_g0) (f83_l1 : T83_l1) : T83 := fun (x0, _) =>
 (f83_l1 (x0, 0, [], ())).bind fun v =>
 Sum.elim (fun v => some (v.1, -1, ()))
 (fun v => (f83_g0 (v.1, v.2.1, ())).bind fun v => some (v.2.1, v.1, ())) v
theorem h83 (f121 : T121) (f122 : T122) (f83_g0 : T83_g0) (f83_l1 : T83_l1) : AqF (K83 f121 f122) 0 Tryz.f83 (N83 f83_g0 f83_l1) f83_ins f83_outs (F83 f121 f122 f83_g0 f83_l1) := fun v => by kernel_rfl
def C83 : T83 := F83 C121 C122 C83_g0 C83_l1
theorem ok83 : FnOk Tryz.prog 83 (E83 C83) :=
 fnx (n := (N83 C83_g0 C83_l1)) kok83 Tryz.func83 (by kernel_rfl) (by kernel_rfl) (ann_obs (And.intro k83_l1 (And.intro k83_g0 trivial)) (by kernel_rfl)) (fun v => by kernel_rfl) (h83 C121 C122 C83_g0 C83_l1)
abbrev T213 := LqA × LqB × LqC × LqS × Bool × Bool × Unit → Option (LqS × Bool × Unit)
def E213 (f : T213) : FEnt := ⟨f213_ins, f213_outs, f⟩
def K213 (f178 : T178) (f239 : T239) (f240 : T240) (f241 : T241) (f83 : T83) : Calls' := fun f => Ae.lookA f [(178, E178 f178), (239, E239 f239), (240, E240 f240), (241, E241 f241), (83, E83 f83)]
theorem kok213 : KOk Tryz.prog (K213 C178 C239 C240 C241 C83) := (kok_cons ok178 (kok_cons ok239 (kok_cons ok240 (kok_cons ok241 (kok_cons ok83 (kok_nil _))))))
def F213 (f178 : T178) (f239 : T239) (f240 : T240) (f241 : T241) (f83 : T83) : T213 := fun (x0, x1, x2, x3, x4, x5, _) =>
 (f83 (x3, ())).bind fun v =>
 bif decide (v.2.1 ≥ 0) then some ([], false, ())
 else
 (f240 (x0, x1, x2, v.1, x4, ())).bind fun v =>
 (f239 (x0, x1, x2, v.1, ())).bind fun v =>
 bif x5 then
 (f241 (x0, x1, x2, v.1, ())).bind fun v =>
 (f178 (v.1, ())).bind fun v => some (v.1, v.2.1, ())
 else (f178 (v.1, ())).bind fun v => some (v.1, v.2.1, ())
theorem h213 (f178 : T178) (f239 : T239) (f240 : T240) (f241 : T241) (f83 : T83) : AqF (K213 f178 f239 f240 f241 f83) 0 Tryz.f213 .nil f213_ins f213_outs (F213 f178 f239 f240 f241 f83) := fun v => by kernel_rfl
def C213 : T213 := F213 C178 C239 C240 C241 C83
theorem ok213 : FnOk Tryz.prog 213 (E213 C213) :=
 fnx (n := .nil) kok213 Tryz.func213 (by kernel_rfl) (by kernel_rfl) (ann_nil _) (fun v => by kernel_rfl) (h213 C178 C239 C240 C241 C83)
abbrev T181 := LqA × LqB × LqC × LqS × Unit → Option (LqS × Bool × Unit)
def E181 (f : T181) : FEnt := ⟨f181_ins, f181_outs, f⟩
def K181 (f213 : T213) : Calls' := fun f => Ae.lookA f [(213, E213 f213)]
theorem kok181 : KOk Tryz.prog (K181 C213) := (kok_cons ok213 (kok_nil _))
def F181 (f213 : T213) : T181 := fun (x0, x1, x2, x3, _) =>
 (f213 (x0, x1, x2, x3, false, true, ())).bind fun v => some (v.1, v.2.1, ())
theorem h181 (f213 : T213) : AqF (K181 f213) 0 Tryz.f181 .nil f181_ins f181_outs (F181 f213) := fun v => by kernel_rfl
def C181 : T181 := F181 C213
theorem ok181 : FnOk Tryz.prog 181 (E181 C181) :=
 fnx (n := .nil) kok181 Tryz.func181 (by kernel_rfl) (by kernel_rfl) (ann_nil _) (fun v => by kernel_rfl) (h181 C213)
abbrev T151 := LqA × LqB × LqC × LqS × Unit → Option (LqS × Bool × Unit)
def E151 (f : T151) : FEnt := ⟨f151_ins, f151_outs, f⟩
def K151 (f178 : T178) (f179 : T179) (f180 : T180) (f181 : T181) (f83 : T83) : Calls' := fun f => Ae.lookA f [(178, E178 f178), (179, E179 f179), (180, E180 f180), (181, E181 f181), (83, E83 f83)]
theorem kok151 : KOk Tryz.prog (K151 C178 C179 C180 C181 C83) := (kok_cons ok178 (kok_cons ok179 (kok_cons ok180 (kok_cons ok181 (kok_cons ok83 (kok_nil _))))))
def F151 (f178 : T178) (f179 : T179) (f180 : T180) (f181 : T181) (f83 : T83) : T151 := fun (x0, x1, x2, x3, _) =>
 (f83 (x3, ())).bind fun v =>
 bif decide (v.2.1 ≥ 0) then some ([], false, ())
 else
 (f180 (x0, x1, x2, v.1, ())).bind fun v =>
 (f179 (x0, x1, x2, v.1, ())).bind fun v =>
 (f178 (v.1, ())).bind fun v =>
 (f181 (x0, x1, x2, v.1, ())).bind fun v => some (v.1, v.2.1, ())
theorem h151 (f178 : T178) (f179 : T179) (f180 : T180) (f181 : T181) (f83 : T83) : AqF (K151 f178 f179 f180 f181 f83) 0 Tryz.f151 .nil f151_ins f151_outs (F151 f178 f179 f180 f181 f83) := fun v => by kernel_rfl
def C151 : T151 := F151 C178 C179 C180 C181 C83
theorem ok151 : FnOk Tryz.prog 151 (E151 C151) :=
 fnx (n := .nil) kok151 Tryz.func151 (by kernel_rfl) (by kernel_rfl) (ann_nil _) (fun v => by kernel_rfl) (h151 C178 C179 C180 C181 C83)
abbrev T21_l0 := LqS × Int × Int × Unit → Option (Unit ⊕ (Int × Unit))
def E21_l0 (f : T21_l0) : LEnt := ⟨f21_l0_ins, f21_l0_outs, f⟩
abbrev T21 := LqS × Unit → Option (Int × Unit)
def E21 (f : T21) : FEnt := ⟨f21_ins, f21_outs, f⟩
def K21 : Calls' := fun f => Ae.lookA f []
theorem kok21 : KOk Tryz.prog (K21) := (kok_nil _)
def F21_l0 : LpF (LqS × Int × Int × Unit) (Unit ⊕ (Int × Unit)) := fun (x0, x1, x2, _) =>
 bif decide (x2 < x1) then
 bif decide (0 ≤ x2) && decide (x2 < (↑x0.length : Int)) then
 bif decide ((↑(x0.getD x2.toNat 0).toNat : Int) ≥ 128) then some (Sum.inr (Sum.inr (x2, ())))
 else some (Sum.inl (x0, x1, IntKind.i64.wrap (x2 + 1), ()))
 else none
 else some (Sum.inr (Sum.inl ()))
theorem h21_l0 : AqL (K21) 0 (subc (code Tryz.f21) [1, 0, 1, 0, 0]) .nil f21_l0_ins f21_l0_outs (F21_l0) := fun v => by kernel_rfl
def C21_l0 : T21_l0 := loopN (F21_l0) big
theorem k21_l0 : FragOk Tryz.prog 0 (fun Q a w => (Code.loop (subc (code Tryz.f21) [1, 0, 1, 0, 0])).wp Tryz.prog Q a w) (E21_l0 C21_l0) :=
 frag_big (ins := f21_l0_ins) (os := f21_l0_outs) (C := C21_l0) (frag_loop (ins := f21_l0_ins) (os := f21_l0_outs) (n := .nil) (F := F21_l0) hm hΓ kok21 (fun _ => big) (ann_nil _) (h21_l0)) rfl
def N21 (f21_l0 : T21_l0) : Ann := (.seq .nil (.seq (.seq .nil (.blk (.loop (E21_l0 f21_l0)))) .nil))
def F21 (f21_l0 : T21_l0) : T21 := fun (x0, _) =>
 (f21_l0 (x0, (↑x0.length : Int), 0, ())).bind fun v =>
 Sum.elim (fun v => some (-1, ())) (fun v => some (v.1, ())) v
theorem h21 (f21_l0 : T21_l0) : AqF (K21) 0 Tryz.f21 (N21 f21_l0) f21_ins f21_outs (F21 f21_l0) := fun v => by kernel_rfl
def C21 : T21 := F21 C21_l0
theorem ok21 : FnOk Tryz.prog 21 (E21 C21) :=
 fnx (n := (N21 C21_l0)) kok21 Tryz.func21 (by kernel_rfl) (by kernel_rfl) (ann_obs (And.intro k21_l0 trivial) (by kernel_rfl)) (fun v => by kernel_rfl) (h21 C21_l0)
abbrev T250_l0 := Int × Int × List (Int) × Int × Int × Unit → Option (Int × Unit)
def E250_l0 (f : T250_l0) : LEnt := ⟨f250_l0_ins, f250_l0_outs, f⟩
abbrev T250 := List (Int) × Int × Unit → Option (Int × Unit)
def E250 (f : T250) : FEnt := ⟨f250_ins, f250_outs, f⟩
def K250 : Calls' := fun f => Ae.lookA f []
theorem kok250 : KOk Tryz.prog (K250) := (kok_nil _)
def F250_l0 : LpF (Int × Int × List (Int) × Int × Int × Unit) (Int × Unit) := fun (x0, x1, x2, x3, x4, _) =>
 bif decide (x4 < x3) then
 bif decide (0 ≤ x4) && decide (x4 < (↑x2.length : Int)) then
 bif decide (x2.getD x4.toNat 0 ≥ x0) then
 bif decide (x1 < 0) then
 some (Sum.inl (x0, x2.getD (x4.toNat) 0, x2, x3, IntKind.i64.wrap (x4 + 1), ()))
 else
 bif decide (x2.getD x4.toNat 0 < x1) then
 some (Sum.inl (x0, x2.getD (x4.toNat) 0, x2, x3, IntKind.i64.wrap (x4 + 1), ()))
 else some (Sum.inl (x0, x1, x2, x3, IntKind.i64.wrap (x4 + 1), ()))
 else some (Sum.inl (x0, x1, x2, x3, IntKind.i64.wrap (x4 + 1), ()))
 else none
 else some (Sum.inr (x1, ()))
theorem h250_l0 : AqL (K250) 0 (subc (code Tryz.f250) [1, 1, 0, 1, 0, 0]) .nil f250_l0_ins f250_l0_outs (F250_l0) := fun v => by kernel_rfl
def C250_l0 : T250_l0 := loopN (F250_l0) big
theorem k250_l0 : FragOk Tryz.prog 0 (fun Q a w => (Code.loop (subc (code Tryz.f250) [1, 1, 0, 1, 0, 0])).wp Tryz.prog Q a w) (E250_l0 C250_l0) :=
 frag_big (ins := f250_l0_ins) (os := f250_l0_outs) (C := C250_l0) (frag_loop (ins := f250_l0_ins) (os := f250_l0_outs) (n := .nil) (F := F250_l0) hm hΓ kok250 (fun _ => big) (ann_nil _) (h250_l0)) rfl
def N250 (f250_l0 : T250_l0) : Ann := (.seq .nil (.seq .nil (.seq (.seq .nil (.blk (.loop (E250_l0 f250_l0)))) .nil)))
def F250 (f250_l0 : T250_l0) : T250 := fun (x0, x1, _) =>
 (f250_l0 (x1, -1, x0, (↑x0.length : Int), 0, ())).bind fun v => some (v.1, ())
theorem h250 (f250_l0 : T250_l0) : AqF (K250) 0 Tryz.f250 (N250 f250_l0) f250_ins f250_outs (F250 f250_l0) := fun v => by kernel_rfl
def C250 : T250 := F250 C250_l0
theorem ok250 : FnOk Tryz.prog 250 (E250 C250) :=
 fnx (n := (N250 C250_l0)) kok250 Tryz.func250 (by kernel_rfl) (by kernel_rfl) (ann_obs (And.intro k250_l0 trivial) (by kernel_rfl)) (fun v => by kernel_rfl) (h250 C250_l0)
abbrev T290 := Int × Int × Unit → Option (Int × Unit)
def E290 (f : T290) : FEnt := ⟨f290_ins, f290_outs, f⟩
def K290 : Calls' := fun f => Ae.lookA f []
theorem kok290 : KOk Tryz.prog (K290) := (kok_nil _)
def F290 : T290 := fun (x0, x1, _) =>
 some
 (if (if 26 < IntKind.i64.wrap (x0 - x1) then 26 else IntKind.i64.wrap (x0 - x1)) > 1 then
 if 26 < IntKind.i64.wrap (x0 - x1) then 26 else IntKind.i64.wrap (x0 - x1)
 else 1,
 ())
theorem h290 : AqF (K290) 0 Tryz.f290 .nil f290_ins f290_outs (F290) := fun v => by kernel_rfl
def C290 : T290 := F290
theorem ok290 : FnOk Tryz.prog 290 (E290 C290) :=
 fnx (n := .nil) kok290 Tryz.func290 (by kernel_rfl) (by kernel_rfl) (ann_nil _) (fun v => by kernel_rfl) (h290)
abbrev T291_c0 := Int × Bool × Unit → Option ((Int × Bool × Unit) ⊕ Unit)
def E291_c0 (f : T291_c0) : LEnt := ⟨f291_c0_ins, f291_c0_outs, f⟩
abbrev T291 := Int × Unit → Option (Int × Bool × Unit)
def E291 (f : T291) : FEnt := ⟨f291_ins, f291_outs, f⟩
def K291 : Calls' := fun f => Ae.lookA f []
theorem kok291 : KOk Tryz.prog (K291) := (kok_nil _)
def F291_c0 : T291_c0 := fun (x0, x1, _) =>
 bif x1 then some (Sum.inl (IntKind.u8.wrap (97 + IntKind.u8.wrap x0), true, ()))
 else
 bif decide (x0 ≥ 26) then
 bif decide (x0 < 36) then
 some (Sum.inl (IntKind.u8.wrap (48 + IntKind.u8.wrap (IntKind.i64.wrap (x0 - 26))), true, ()))
 else some (Sum.inr ())
 else some (Sum.inr ())
theorem h291_c0 : AqC (K291) 0 (subc (code Tryz.f291) [1, 0, 0, 1]) .nil f291_c0_ins f291_c0_outs (F291_c0) := fun v => by kernel_rfl
def C291_c0 : T291_c0 := F291_c0
theorem k291_c0 : FragOk Tryz.prog 0 (fun Q a w => (subc (code Tryz.f291) [1, 0, 0, 1]).wp Tryz.prog Q a w) (E291_c0 C291_c0) :=
 frag_code (ins := f291_c0_ins) (os := f291_c0_outs) (n := .nil) (F := C291_c0) hm hΓ kok291 (ann_nil _) (h291_c0)
def N291 (f291_c0 : T291_c0) : Ann := (.seq .nil (.seq (.blk (.cut .nil (E291_c0 f291_c0))) .nil))
def F291 (f291_c0 : T291_c0) : T291 := fun (x0, _) =>
 bif decide (x0 ≥ 0) then
 (f291_c0 (x0, decide (x0 < 26), ())).bind fun v =>
 Sum.elim (fun v => some (v.1, v.2.1, ())) (fun v => some (0, false, ())) v
 else
 (f291_c0 (x0, false, ())).bind fun v =>
 Sum.elim (fun v => some (v.1, v.2.1, ())) (fun v => some (0, false, ())) v
theorem h291 (f291_c0 : T291_c0) : AqF (K291) 0 Tryz.f291 (N291 f291_c0) f291_ins f291_outs (F291 f291_c0) := fun v => by kernel_rfl
def C291 : T291 := F291 C291_c0
theorem ok291 : FnOk Tryz.prog 291 (E291 C291) :=
 fnx (n := (N291 C291_c0)) kok291 Tryz.func291 (by kernel_rfl) (by kernel_rfl) (ann_obs (And.intro k291_c0 trivial) (by kernel_rfl)) (fun v => by kernel_rfl) (h291 C291_c0)
abbrev T251_l0 := Int × Int × Int × LqS × Unit → Option (LqS × Unit)
def E251_l0 (f : T251_l0) : LEnt := ⟨f251_l0_ins, f251_l0_outs, f⟩
abbrev T251 := Int × Int × LqS × Unit → Option (LqS × Unit)
def E251 (f : T251) : FEnt := ⟨f251_ins, f251_outs, f⟩
def K251 (f290 : T290) (f291 : T291) : Calls' := fun f => Ae.lookA f [(290, E290 f290), (291, E291 f291)]
theorem kok251 : KOk Tryz.prog (K251 C290 C291) := (kok_cons ok290 (kok_cons ok291 (kok_nil _)))
def F251_l0 (f290 : T290) (f291 : T291) : LpF (Int × Int × Int × LqS × Unit) (LqS × Unit) := fun (x0, x1, x2, x3, _) =>
 (f290 (x2, x1, ())).bind fun v =>
 bif decide (x0 < v.1) then
 (f291 (x0, ())).bind fun v =>
 bif decide (x3.length + [UInt8.ofNat (Int.toNat v.1)].length ≤ 140737488355328 / 1) then
 some (Sum.inr (x3 ++ [UInt8.ofNat (Int.toNat v.1)], ()))
 else none
 else
 bif IntKind.i64.wrap (36 - v.1) != 0 then
 (f291
 (IntKind.i64.wrap (v.1 + (IntKind.i64.wrap (x0 - v.1)).tmod (IntKind.i64.wrap (36 - v.1))),
 ())).bind
 fun v1 =>
 bif decide (x3.length + [UInt8.ofNat (Int.toNat v1.1)].length ≤ 140737488355328 / 1) then
 bif IntKind.i64.wrap (36 - v.1) != 0 then
 some
 (Sum.inl
 (IntKind.i64.wrap ((IntKind.i64.wrap (x0 - v.1)).tdiv (IntKind.i64.wrap (36 - v.1))), x1,
 IntKind.i64.wrap (x2 + 36), x3 ++ [UInt8.ofNat (Int.toNat v1.1)], ()))
 else none
 else none
 else none
theorem h251_l0 (f290 : T290) (f291 : T291) : AqL (K251 f290 f291) 1 (subc (code Tryz.f251) [1, 1, 0, 0]) .nil f251_l0_ins f251_l0_outs (F251_l0 f290 f291) := fun v => by kernel_rfl
def C251_l0 : T251_l0 := loopN (F251_l0 C290 C291) big
theorem k251_l0 : FragOk Tryz.prog 1 (InLoop Tryz.prog (subc (code Tryz.f251) [1, 1, 0, 0])) (E251_l0 C251_l0) :=
 frag_big (ins := f251_l0_ins) (os := f251_l0_outs) (C := C251_l0) (frag_inLoop (ins := f251_l0_ins) (os := f251_l0_outs) (n := .nil) (F := F251_l0 C290 C291) hm hΓ kok251 (fun _ => big) (ann_nil _) (h251_l0 C290 C291)) rfl
def N251 (f251_l0 : T251_l0) : Ann := (.seq .nil (.seq .nil (.blk (.peel .nil (E251_l0 f251_l0)))))
def F251 (f290 : T290) (f291 : T291) (f251_l0 : T251_l0) : T251 := fun (x0, x1, x2, _) =>
 (f290 (36, x1, ())).bind fun v =>
 bif decide (x0 < v.1) then
 (f291 (x0, ())).bind fun v =>
 bif decide (x2.length + [UInt8.ofNat (Int.toNat v.1)].length ≤ 140737488355328 / 1) then
 some (x2 ++ [UInt8.ofNat (Int.toNat v.1)], ())
 else none
 else
 bif IntKind.i64.wrap (36 - v.1) != 0 then
 (f291
 (IntKind.i64.wrap (v.1 + (IntKind.i64.wrap (x0 - v.1)).tmod (IntKind.i64.wrap (36 - v.1))),
 ())).bind
 fun v1 =>
 bif decide (x2.length + [UInt8.ofNat (Int.toNat v1.1)].length ≤ 140737488355328 / 1) then
 bif IntKind.i64.wrap (36 - v.1) != 0 then
 (f251_l0
 (IntKind.i64.wrap ((IntKind.i64.wrap (x0 - v.1)).tdiv (IntKind.i64.wrap (36 - v.1))), x1,
 IntKind.i64.wrap (36 + 36), x2 ++ [UInt8.ofNat (Int.toNat v1.1)], ())).bind
 fun v => some (v.1, ())
 else none
 else none
 else none
theorem h251 (f290 : T290) (f291 : T291) (f251_l0 : T251_l0) : AqF (K251 f290 f291) 1 Tryz.f251 (N251 f251_l0) f251_ins f251_outs (F251 f290 f291 f251_l0) := fun v => by kernel_rfl
def C251 : T251 := F251 C290 C291 C251_l0
theorem ok251 : FnOk Tryz.prog 251 (E251 C251) :=
 fnx (n := (N251 C251_l0)) kok251 Tryz.func251 (by kernel_rfl) (by kernel_rfl) (ann_obs (And.intro k251_l0 trivial) (by kernel_rfl)) (fun v => by kernel_rfl) (h251 C290 C291 C251_l0)
abbrev T252_l0 := Int × Int × Unit → Option (Int × Int × Unit)
def E252_l0 (f : T252_l0) : LEnt := ⟨f252_l0_ins, f252_l0_outs, f⟩
abbrev T252_c0 := Int × Int × Unit → Option (Int × Unit)
def E252_c0 (f : T252_c0) : LEnt := ⟨f252_c0_ins, f252_c0_outs, f⟩
abbrev T252 := Int × Int × Bool × Unit → Option (Int × Unit)
def E252 (f : T252) : FEnt := ⟨f252_ins, f252_outs, f⟩
def K252 : Calls' := fun f => Ae.lookA f []
theorem kok252 : KOk Tryz.prog (K252) := (kok_nil _)
def F252_l0 : LpF (Int × Int × Unit) (Int × Int × Unit) := fun (x0, x1, _) =>
 bif decide (x0 > 455) then some (Sum.inl (IntKind.i64.wrap (x0.tdiv 35), IntKind.i64.wrap (x1 + 36), ()))
 else some (Sum.inr (x0, x1, ()))
theorem h252_l0 : AqL (K252) 0 (subc (code Tryz.f252) [1, 1, 1, 1, 0, 0, 0]) .nil f252_l0_ins f252_l0_outs (F252_l0) := fun v => by kernel_rfl
def C252_l0 : T252_l0 := loopN (F252_l0) big
theorem k252_l0 : FragOk Tryz.prog 0 (fun Q a w => (Code.loop (subc (code Tryz.f252) [1, 1, 1, 1, 0, 0, 0])).wp Tryz.prog Q a w) (E252_l0 C252_l0) :=
 frag_big (ins := f252_l0_ins) (os := f252_l0_outs) (C := C252_l0) (frag_loop (ins := f252_l0_ins) (os := f252_l0_outs) (n := .nil) (F := F252_l0) hm hΓ kok252 (fun _ => big) (ann_nil _) (h252_l0)) rfl
def N252_c0 (f252_l0 : T252_l0) : Ann := (.seq .nil (.seq .nil (.seq (.blk (.loop (E252_l0 f252_l0))) .nil)))
def F252_c0 (f252_l0 : T252_l0) : T252_c0 := fun (x0, x1, _) =>
 bif (if x1 > 1 then x1 else 1) != 0 then
 (f252_l0 (IntKind.i64.wrap (x0 + IntKind.i64.wrap (x0.tdiv (if x1 > 1 then x1 else 1))), 0, ())).bind fun v =>
 bif IntKind.i64.wrap (v.1 + 38) != 0 then
 some
 (IntKind.i64.wrap
 (v.2.1 + IntKind.i64.wrap ((IntKind.i64.wrap (36 * v.1)).tdiv (IntKind.i64.wrap (v.1 + 38)))),
 ())
 else none
 else none
theorem h252_c0 (f252_l0 : T252_l0) : AqC (K252) 0 (subc (code Tryz.f252) [1, 1]) (N252_c0 f252_l0) f252_c0_ins f252_c0_outs (F252_c0 f252_l0) := fun v => by kernel_rfl
def C252_c0 : T252_c0 := F252_c0 C252_l0
theorem k252_c0 : FragOk Tryz.prog 0 (fun Q a w => (subc (code Tryz.f252) [1, 1]).wp Tryz.prog Q a w) (E252_c0 C252_c0) :=
 frag_code (ins := f252_c0_ins) (os := f252_c0_outs) (n := (N252_c0 C252_l0)) (F := C252_c0) hm hΓ kok252 (ann_obs (And.intro k252_l0 trivial) (by kernel_rfl)) (h252_c0 C252_l0)
def N252 (f252_c0 : T252_c0) : Ann := (.seq .nil (.cut .nil (E252_c0 f252_c0)))
def F252 (f252_c0 : T252_c0) : T252 := fun (x0, x1, x2, _) =>
 bif x2 then (f252_c0 (IntKind.i64.wrap (x0.tdiv 700), x1, ())).bind fun v => some (v.1, ())
 else (f252_c0 (IntKind.i64.wrap (x0.tdiv 2), x1, ())).bind fun v => some (v.1, ())
theorem h252 (f252_c0 : T252_c0) : AqF (K252) 0 Tryz.f252 (N252 f252_c0) f252_ins f252_outs (F252 f252_c0) := fun v => by kernel_rfl
def C252 : T252 := F252 C252_c0
theorem ok252 : FnOk Tryz.prog 252 (E252 C252) :=
 fnx (n := (N252 C252_c0)) kok252 Tryz.func252 (by kernel_rfl) (by kernel_rfl) (ann_obs (And.intro k252_c0 trivial) (by kernel_rfl)) (fun v => by kernel_rfl) (h252 C252_c0)
abbrev T223_l0 := List (Int) × List (Int) × Int × Int × LqS × Unit → Option ((List (Int) × LqS × Unit) ⊕ (LqS × Bool × Unit))
def E223_l0 (f : T223_l0) : LEnt := ⟨f223_l0_ins, f223_l0_outs, f⟩
abbrev T223_l1 := List (Int) × Int × Int × Int × Int × Int × List (Int) × Int × Int × LqS × Unit → Option (List (Int) × Int × Int × Int × Int × Int × LqS × Unit)
def E223_l1 (f : T223_l1) : LEnt := ⟨f223_l1_ins, f223_l1_outs, f⟩
abbrev T223_l2 := List (Int) × Int × Int × Int × Int × Int × LqS × Unit → Option ((LqS × Unit) ⊕ (LqS × Bool × Unit))
def E223_l2 (f : T223_l2) : LEnt := ⟨f223_l2_ins, f223_l2_outs, f⟩
abbrev T223_c0 := List (Int) × Int × LqS × Unit → Option (LqS × Bool × Unit)
def E223_c0 (f : T223_c0) : LEnt := ⟨f223_c0_ins, f223_c0_outs, f⟩
abbrev T223 := List (Int) × Unit → Option (LqS × Bool × Unit)
def E223 (f : T223) : FEnt := ⟨f223_ins, f223_outs, f⟩
def K223 (f155 : T155) (f250 : T250) (f251 : T251) (f252 : T252) : Calls' := fun f => Ae.lookA f [(155, E155 f155), (250, E250 f250), (251, E251 f251), (252, E252 f252)]
theorem kok223 : KOk Tryz.prog (K223 C155 C250 C251 C252) := (kok_cons ok155 (kok_cons ok250 (kok_cons ok251 (kok_cons ok252 (kok_nil _)))))
def F223_l0 (f155 : T155) (f250 : T250) (f251 : T251) (f252 : T252) : LpF (List (Int) × List (Int) × Int × Int × LqS × Unit) ((List (Int) × LqS × Unit) ⊕ (LqS × Bool × Unit)) := fun (x0, x1, x2, x3, x4, _) =>
 bif decide (x3 < x2) then
 bif decide (0 ≤ x3) && decide (x3 < (↑x1.length : Int)) then
 (f155 (x1.getD x3.toNat 0, ())).bind fun v =>
 bif !v.1 then some (Sum.inr (Sum.inr ([], false, ())))
 else
 bif decide (x1.getD x3.toNat 0 < 128) then
 bif
 decide
 (x4.length + [UInt8.ofNat (IntKind.u8.wrap (x1.getD x3.toNat 0)).toNat].length ≤
 140737488355328 / 1) then
 some
 (Sum.inl
 (x0, x1, x2, IntKind.i64.wrap (x3 + 1),
 x4 ++ [UInt8.ofNat (IntKind.u8.wrap (x1.getD x3.toNat 0)).toNat], ()))
 else none
 else some (Sum.inl (x0, x1, x2, IntKind.i64.wrap (x3 + 1), x4, ()))
 else none
 else some (Sum.inr (Sum.inl (x0, x4, ())))
theorem h223_l0 (f155 : T155) (f250 : T250) (f251 : T251) (f252 : T252) : AqL (K223 f155 f250 f251 f252) 0 (subc (code Tryz.f223) [1, 1, 0, 1, 0, 0]) .nil f223_l0_ins f223_l0_outs (F223_l0 f155 f250 f251 f252) := fun v => by kernel_rfl
def C223_l0 : T223_l0 := loopN (F223_l0 C155 C250 C251 C252) big
theorem k223_l0 : FragOk Tryz.prog 0 (fun Q a w => (Code.loop (subc (code Tryz.f223) [1, 1, 0, 1, 0, 0])).wp Tryz.prog Q a w) (E223_l0 C223_l0) :=
 frag_big (ins := f223_l0_ins) (os := f223_l0_outs) (C := C223_l0) (frag_loop (ins := f223_l0_ins) (os := f223_l0_outs) (n := .nil) (F := F223_l0 C155 C250 C251 C252) hm hΓ kok223 (fun _ => big) (ann_nil _) (h223_l0 C155 C250 C251 C252)) rfl
def F223_l1 (f155 : T155) (f250 : T250) (f251 : T251) (f252 : T252) : LpF (List (Int) × Int × Int × Int × Int × Int × List (Int) × Int × Int × LqS × Unit) (List (Int) × Int × Int × Int × Int × Int × LqS × Unit) := fun (x0, x1, x2, x3, x4, x5, x6, x7, x8, x9, _) =>
 bif decide (x8 < x7) then
 bif decide (0 ≤ x8) && decide (x8 < (↑x6.length : Int)) then
 bif decide (x6.getD x8.toNat 0 < x2) then
 some (Sum.inl (x0, x1, x2, IntKind.i64.wrap (x3 + 1), x4, x5, x6, x7, IntKind.i64.wrap (x8 + 1), x9, ()))
 else
 bif x6.getD x8.toNat 0 == x2 then
 (f251 (x3, x4, x9, ())).bind fun v =>
 (f252 (x3, IntKind.i64.wrap (x5 + 1), x5 == x1, ())).bind fun v1 =>
 some
 (Sum.inl
 (x0, x1, x2, 0, v1.1, IntKind.i64.wrap (x5 + 1), x6, x7, IntKind.i64.wrap (x8 + 1), v.1,
 ()))
 else some (Sum.inl (x0, x1, x2, x3, x4, x5, x6, x7, IntKind.i64.wrap (x8 + 1), x9, ()))
 else none
 else some (Sum.inr (x0, x1, x2, x3, x4, x5, x9, ()))
theorem h223_l1 (f155 : T155) (f250 : T250) (f251 : T251) (f252 : T252) : AqL (K223 f155 f250 f251 f252) 0 (subc (code Tryz.f223) [1, 1, 1, 1, 1, 1, 0, 1, 0, 0, 1, 0, 1, 1, 1, 1, 0, 1, 0, 0]) .nil f223_l1_ins f223_l1_outs (F223_l1 f155 f250 f251 f252) := fun v => by kernel_rfl
def C223_l1 : T223_l1 := loopN (F223_l1 C155 C250 C251 C252) big
theorem k223_l1 : FragOk Tryz.prog 0 (fun Q a w => (Code.loop (subc (code Tryz.f223) [1, 1, 1, 1, 1, 1, 0, 1, 0, 0, 1, 0, 1, 1, 1, 1, 0, 1, 0, 0])).wp Tryz.prog Q a w) (E223_l1 C223_l1) :=
 frag_big (ins := f223_l1_ins) (os := f223_l1_outs) (C := C223_l1) (frag_loop (ins := f223_l1_ins) (os := f223_l1_outs) (n := .nil) (F := F223_l1 C155 C250 C251 C252) hm hΓ kok223 (fun _ => big) (ann_nil _) (h223_l1 C155 C250 C251 C252)) rfl
def N223_l2 (f223_l1 : T223_l1) : Ann := (.seq .nil (.blk (.seq .nil (.seq .nil (.seq .nil (.seq .nil (.seq (.seq .nil (.blk (.loop (E223_l1 f223_l1)))) .nil)))))))
def F223_l2 (f155 : T155) (f250 : T250) (f251 : T251) (f252 : T252) (f223_l1 : T223_l1) : LpF (List (Int) × Int × Int × Int × Int × Int × LqS × Unit) ((LqS × Unit) ⊕ (LqS × Bool × Unit)) := fun (x0, x1, x2, x3, x4, x5, x6, _) =>
 bif decide (x5 < (↑x0.length : Int)) then
 (f250 (x0, x2, ())).bind fun v =>
 bif
 decide
 (IntKind.i64.wrap
 (x3 + IntKind.i64.wrap (IntKind.i64.wrap (IntKind.i32.wrap (v.1 - x2)) * IntKind.i64.wrap (x5 + 1))) >
 2147483647) then
 some (Sum.inr (Sum.inr ([], false, ())))
 else
 (f223_l1
 (x0, x1, v.1,
 IntKind.i64.wrap
 (x3 +
 IntKind.i64.wrap (IntKind.i64.wrap (IntKind.i32.wrap (v.1 - x2)) * IntKind.i64.wrap (x5 + 1))),
 x4, x5, x0, (↑x0.length : Int), 0, x6, ())).bind
 fun v =>
 some
 (Sum.inl
 (v.1, v.2.1, IntKind.i32.wrap (v.2.2.1 + 1), IntKind.i64.wrap (v.2.2.2.1 + 1),
 v.2.2.2.2.1, v.2.2.2.2.2.1, v.2.2.2.2.2.2.1, ()))
 else some (Sum.inr (Sum.inl (x6, ())))
theorem h223_l2 (f155 : T155) (f250 : T250) (f251 : T251) (f252 : T252) (f223_l1 : T223_l1) : AqL (K223 f155 f250 f251 f252) 0 (subc (code Tryz.f223) [1, 1, 1, 1, 1, 1, 0, 1, 0, 0]) (N223_l2 f223_l1) f223_l2_ins f223_l2_outs (F223_l2 f155 f250 f251 f252 f223_l1) := fun v => by kernel_rfl
def C223_l2 : T223_l2 := loopN (F223_l2 C155 C250 C251 C252 C223_l1) big
theorem k223_l2 : FragOk Tryz.prog 0 (fun Q a w => (Code.loop (subc (code Tryz.f223) [1, 1, 1, 1, 1, 1, 0, 1, 0, 0])).wp Tryz.prog Q a w) (E223_l2 C223_l2) :=
 frag_big (ins := f223_l2_ins) (os := f223_l2_outs) (C := C223_l2) (frag_loop (ins := f223_l2_ins) (os := f223_l2_outs) (n := (N223_l2 C223_l1)) (F := F223_l2 C155 C250 C251 C252 C223_l1) hm hΓ kok223 (fun _ => big) (ann_obs (And.intro k223_l1 trivial) (by kernel_rfl)) (h223_l2 C155 C250 C251 C252 C223_l1)) rfl
def N223_c0 (f223_l2 : T223_l2) : Ann := (.seq .nil (.seq (.seq .nil (.blk (.loop (E223_l2 f223_l2)))) .nil))
def F223_c0 (f155 : T155) (f250 : T250) (f251 : T251) (f252 : T252) (f223_l2 : T223_l2) : T223_c0 := fun (x0, x1, x2, _) =>
 (f223_l2 (x0, x1, 128, 0, 72, x1, x2, ())).bind fun v =>
 Sum.elim (fun v => some (v.1, true, ())) (fun v => some (v.1, v.2.1, ())) v
theorem h223_c0 (f155 : T155) (f250 : T250) (f251 : T251) (f252 : T252) (f223_l2 : T223_l2) : AqC (K223 f155 f250 f251 f252) 0 (subc (code Tryz.f223) [1, 1, 1, 1, 1]) (N223_c0 f223_l2) f223_c0_ins f223_c0_outs (F223_c0 f155 f250 f251 f252 f223_l2) := fun v => by kernel_rfl
def C223_c0 : T223_c0 := F223_c0 C155 C250 C251 C252 C223_l2
theorem k223_c0 : FragOk Tryz.prog 0 (fun Q a w => (subc (code Tryz.f223) [1, 1, 1, 1, 1]).wp Tryz.prog Q a w) (E223_c0 C223_c0) :=
 frag_code (ins := f223_c0_ins) (os := f223_c0_outs) (n := (N223_c0 C223_l2)) (F := C223_c0) hm hΓ kok223 (ann_obs (And.intro k223_l2 trivial) (by kernel_rfl)) (h223_c0 C155 C250 C251 C252 C223_l2)
def N223 (f223_c0 : T223_c0) (f223_l0 : T223_l0) : Ann := (.seq .nil (.seq .nil (.seq (.seq .nil (.blk (.loop (E223_l0 f223_l0)))) (.seq .nil (.cut .nil (E223_c0 f223_c0))))))
def F223 (f155 : T155) (f250 : T250) (f251 : T251) (f252 : T252) (f223_c0 : T223_c0) (f223_l0 : T223_l0) : T223 := fun (x0, _) =>
 (f223_l0 (x0, x0, (↑x0.length : Int), 0, [], ())).bind fun v =>
 Sum.elim
 (fun v =>
 bif decide ((↑(List.length v.2.1) : Int) > 0) then
 bif decide (List.length v.2.1 + [45].length ≤ 140737488355328 / 1) then
 (f223_c0 (v.1, (↑(List.length v.2.1) : Int), v.2.1 ++ [45], ())).bind
 fun v => some (v.1, v.2.1, ())
 else none
 else
 (f223_c0 (v.1, (↑(List.length v.2.1) : Int), v.2.1, ())).bind fun v =>
 some (v.1, v.2.1, ()))
 (fun v => some (v.1, v.2.1, ())) v
theorem h223 (f155 : T155) (f250 : T250) (f251 : T251) (f252 : T252) (f223_c0 : T223_c0) (f223_l0 : T223_l0) : AqF (K223 f155 f250 f251 f252) 0 Tryz.f223 (N223 f223_c0 f223_l0) f223_ins f223_outs (F223 f155 f250 f251 f252 f223_c0 f223_l0) := fun v => by kernel_rfl
def C223 : T223 := F223 C155 C250 C251 C252 C223_c0 C223_l0
theorem ok223 : FnOk Tryz.prog 223 (E223 C223) :=
 fnx (n := (N223 C223_c0 C223_l0)) kok223 Tryz.func223 (by kernel_rfl) (by kernel_rfl) (ann_obs (And.intro k223_l0 (And.intro k223_c0 trivial)) (by kernel_rfl)) (fun v => by kernel_rfl) (h223 C155 C250 C251 C252 C223_c0 C223_l0)
end Go.Proofs.YtiacnhhmkdkpmaaGreatDoorC.W
set_option maxRecDepth 100000
set_option linter.unusedVariables false
namespace Go.Proofs.YtiacnhhmkdkpmaaGreatDoorC.W
open Go Go.Ae
abbrev T254 := Int × Unit → Option (Bool × Int × Unit)
def E254 (f : T254) : FEnt := ⟨f254_ins, f254_outs, f⟩
def K254 : Calls' := fun f => Ae.lookA f []
theorem kok254 : KOk Tryz.prog (K254) := (kok_nil _)
def F254 : T254 := fun (x0, _) =>
 some (decide (x0 ≥ 0), x0, ())
theorem h254 : AqF (K254) 1 Tryz.f254 .nil f254_ins f254_outs (F254) := fun v => by kernel_rfl
def C254 : T254 := F254
theorem ok254 : FnOk Tryz.prog 254 (E254 C254) :=
 fnx (n := .nil) kok254 Tryz.func254 (by kernel_rfl) (by kernel_rfl) (ann_nil _) (fun v => by kernel_rfl) (h254)
abbrev T256 := LqA × LqB × LqC × LqS × Unit → Option (Bool × Unit)
def E256 (f : T256) : FEnt := ⟨f256_ins, f256_outs, f⟩
def K256 (f181 : T181) : Calls' := fun f => Ae.lookA f [(181, E181 f181)]
theorem kok256 : KOk Tryz.prog (K256 C181) := (kok_cons ok181 (kok_nil _))
def F256 (f181 : T181) : T256 := fun (x0, x1, x2, x3, _) =>
 (f181 (x0, x1, x2, x3, ())).bind fun v =>
 bif v.2.1 then some (v.1 == x3, ()) else some (false, ())
theorem h256 (f181 : T181) : AqF (K256 f181) 0 Tryz.f256 .nil f256_ins f256_outs (F256 f181) := fun v => by kernel_rfl
def C256 : T256 := F256 C181
theorem ok256 : FnOk Tryz.prog 256 (E256 C256) :=
 fnx (n := .nil) kok256 Tryz.func256 (by kernel_rfl) (by kernel_rfl) (ann_nil _) (fun v => by kernel_rfl) (h256 C181)
abbrev T255 := LqS × LqA × LqB × LqC × Unit → Option (Bool × LqS × LqA × LqB × LqC × Unit)
def E255 (f : T255) : FEnt := ⟨f255_ins, f255_outs, f⟩
def K255 (f21 : T21) (f256 : T256) : Calls' := fun f => Ae.lookA f [(21, E21 f21), (256, E256 f256)]
theorem kok255 : KOk Tryz.prog (K255 C21 C256) := (kok_cons ok21 (kok_cons ok256 (kok_nil _)))
def F255 (f21 : T21) (f256 : T256) : T255 := fun (x0, x1, x2, x3, _) =>
 (f21 (x0, ())).bind fun v =>
 bif decide (v.1 < 0) then some (true, x0, x1, x2, x3, ())
 else (f256 (x1, x2, x3, x0, ())).bind fun v => some (bif v.1 then false else true, x0, x1, x2, x3, ())
theorem h255 (f21 : T21) (f256 : T256) : AqF (K255 f21 f256) 2 Tryz.f255 .nil f255_ins f255_outs (F255 f21 f256) := fun v => by kernel_rfl
def C255 : T255 := F255 C21 C256
theorem ok255 : FnOk Tryz.prog 255 (E255 C255) :=
 fnx (n := .nil) kok255 Tryz.func255 (by kernel_rfl) (by kernel_rfl) (ann_nil _) (fun v => by kernel_rfl) (h255 C21 C256)
abbrev T308 := LqS × LqS × Unit → Option (Bool × Unit)
def E308 (f : T308) : FEnt := ⟨f308_ins, f308_outs, f⟩
def K308 : Calls' := fun f => Ae.lookA f []
theorem kok308 : KOk Tryz.prog (K308) := (kok_nil _)
def F308 : T308 := fun (x0, x1, _) =>
 bif decide ((↑x0.length : Int) ≥ (↑x1.length : Int)) then
 bif
 decide (0 ≤ IntKind.i64.wrap ((↑x0.length : Int) - (↑x1.length : Int))) &&
 decide (IntKind.i64.wrap ((↑x0.length : Int) - (↑x1.length : Int)) ≤ (↑x0.length : Int)) then
 some (List.drop (IntKind.i64.wrap ((↑x0.length : Int) - (↑x1.length : Int))).toNat x0 == x1, ())
 else none
 else some (false, ())
theorem h308 : AqF (K308) 0 Tryz.f308 .nil f308_ins f308_outs (F308) := fun v => by kernel_rfl
def C308 : T308 := F308
theorem ok308 : FnOk Tryz.prog 308 (E308 C308) :=
 fnx (n := .nil) kok308 Tryz.func308 (by kernel_rfl) (by kernel_rfl) (ann_nil _) (fun v => by kernel_rfl) (h308)
abbrev T292 := LqS × LqS × Unit → Option (Bool × Unit)
def E292 (f : T292) : FEnt := ⟨f292_ins, f292_outs, f⟩
def K292 (f308 : T308) : Calls' := fun f => Ae.lookA f [(308, E308 f308)]
theorem kok292 : KOk Tryz.prog (K292 C308) := (kok_cons ok308 (kok_nil _))
def F292 (f308 : T308) : T292 := fun (x0, x1, _) =>
 (f308 (x0, x1, ())).bind fun v => some (v.1, ())
theorem h292 (f308 : T308) : AqF (K292 f308) 0 Tryz.f292 .nil f292_ins f292_outs (F292 f308) := fun v => by kernel_rfl
def C292 : T292 := F292 C308
theorem ok292 : FnOk Tryz.prog 292 (E292 C292) :=
 fnx (n := .nil) kok292 Tryz.func292 (by kernel_rfl) (by kernel_rfl) (ann_nil _) (fun v => by kernel_rfl) (h292 C308)
abbrev T96 := LqS × LqS × Unit → Option (Bool × Unit)
def E96 (f : T96) : FEnt := ⟨f96_ins, f96_outs, f⟩
def K96 (f131 : T131) : Calls' := fun f => Ae.lookA f [(131, E131 f131)]
theorem kok96 : KOk Tryz.prog (K96 C131) := (kok_cons ok131 (kok_nil _))
def F96 (f131 : T131) : T96 := fun (x0, x1, _) =>
 (f131 (x0, x1, ())).bind fun v => some (v.1, ())
theorem h96 (f131 : T131) : AqF (K96 f131) 0 Tryz.f96 .nil f96_ins f96_outs (F96 f131) := fun v => by kernel_rfl
def C96 : T96 := F96 C131
theorem ok96 : FnOk Tryz.prog 96 (E96 C96) :=
 fnx (n := .nil) kok96 Tryz.func96 (by kernel_rfl) (by kernel_rfl) (ann_nil _) (fun v => by kernel_rfl) (h96 C131)
abbrev T258 := LqS × Unit → Option (Bool × Unit)
def E258 (f : T258) : FEnt := ⟨f258_ins, f258_outs, f⟩
def K258 (f292 : T292) (f96 : T96) : Calls' := fun f => Ae.lookA f [(292, E292 f292), (96, E96 f96)]
theorem kok258 : KOk Tryz.prog (K258 C292 C96) := (kok_cons ok292 (kok_cons ok96 (kok_nil _)))
def F258 (f292 : T292) (f96 : T96) : T258 := fun (x0, _) =>
 (f96 (x0, [45], ())).bind fun v =>
 bif v.1 then some (true, ())
 else
 (f292 (x0, [45], ())).bind fun v =>
 bif v.1 then some (true, ())
 else
 bif decide ((↑x0.length : Int) > 3) then
 bif decide (4 ≤ (↑x0.length : Int)) then
 some (List.drop 2 (List.take 4 x0) == [45, 45], ())
 else none
 else some (false, ())
theorem h258 (f292 : T292) (f96 : T96) : AqF (K258 f292 f96) 0 Tryz.f258 .nil f258_ins f258_outs (F258 f292 f96) := fun v => by kernel_rfl
def C258 : T258 := F258 C292 C96
theorem ok258 : FnOk Tryz.prog 258 (E258 C258) :=
 fnx (n := .nil) kok258 Tryz.func258 (by kernel_rfl) (by kernel_rfl) (ann_nil _) (fun v => by kernel_rfl) (h258 C292 C96)
abbrev T257 := LqS × Unit → Option (Bool × LqS × Unit)
def E257 (f : T257) : FEnt := ⟨f257_ins, f257_outs, f⟩
def K257 (f258 : T258) : Calls' := fun f => Ae.lookA f [(258, E258 f258)]
theorem kok257 : KOk Tryz.prog (K257 C258) := (kok_cons ok258 (kok_nil _))
def F257 (f258 : T258) : T257 := fun (x0, _) =>
 (f258 (x0, ())).bind fun v => some (v.1, x0, ())
theorem h257 (f258 : T258) : AqF (K257 f258) 1 Tryz.f257 .nil f257_ins f257_outs (F257 f258) := fun v => by kernel_rfl
def C257 : T257 := F257 C258
theorem ok257 : FnOk Tryz.prog 257 (E257 C257) :=
 fnx (n := .nil) kok257 Tryz.func257 (by kernel_rfl) (by kernel_rfl) (ann_nil _) (fun v => by kernel_rfl) (h257 C258)
abbrev T215 := LqA × LqB × LqC × Int × Unit → Option (Int × Unit)
def E215 (f : T215) : FEnt := ⟨f215_ins, f215_outs, f⟩
def K215 (f248 : T248) : Calls' := fun f => Ae.lookA f [(248, E248 f248)]
theorem kok215 : KOk Tryz.prog (K215 C248) := (kok_cons ok248 (kok_nil _))
def F215 (f248 : T248) : T215 := fun (x0, x1, x2, x3, _) =>
 (f248 (x0, x1, x2, x3, ())).bind fun v => some (v.2.2.1, ())
theorem h215 (f248 : T248) : AqF (K215 f248) 0 Tryz.f215 .nil f215_ins f215_outs (F215 f248) := fun v => by kernel_rfl
def C215 : T215 := F215 C248
theorem ok215 : FnOk Tryz.prog 215 (E215 C215) :=
 fnx (n := .nil) kok215 Tryz.func215 (by kernel_rfl) (by kernel_rfl) (ann_nil _) (fun v => by kernel_rfl) (h215 C248)
abbrev T259 := LqA × LqB × LqC × List (Int) × Unit → Option (Bool × LqA × LqB × LqC × List (Int) × Unit)
def E259 (f : T259) : FEnt := ⟨f259_ins, f259_outs, f⟩
def K259 (f215 : T215) : Calls' := fun f => Ae.lookA f [(215, E215 f215)]
theorem kok259 : KOk Tryz.prog (K259 C215) := (kok_cons ok215 (kok_nil _))
def F259 (f215 : T215) : T259 := fun (x0, x1, x2, x3, _) =>
 bif decide (0 < (↑x3.length : Int)) then
 (f215 (x0, x1, x2, x3.getD 0 0, ())).bind fun v =>
 some (v.1 == 4, x0, x1, x2, x3, ())
 else none
theorem h259 (f215 : T215) : AqF (K259 f215) 2 Tryz.f259 .nil f259_ins f259_outs (F259 f215) := fun v => by kernel_rfl
def C259 : T259 := F259 C215
theorem ok259 : FnOk Tryz.prog 259 (E259 C259) :=
 fnx (n := .nil) kok259 Tryz.func259 (by kernel_rfl) (by kernel_rfl) (ann_nil _) (fun v => by kernel_rfl) (h259 C215)
abbrev T242 := Int × Unit → Option (Bool × Unit)
def E242 (f : T242) : FEnt := ⟨f242_ins, f242_outs, f⟩
def K242 : Calls' := fun f => Ae.lookA f []
theorem kok242 : KOk Tryz.prog (K242) := (kok_nil _)
def F242 : T242 := fun (x0, _) =>
 bif decide (x0 ≥ 1632) then some (decide (x0 ≤ 1641), ()) else some (false, ())
theorem h242 : AqF (K242) 0 Tryz.f242 .nil f242_ins f242_outs (F242) := fun v => by kernel_rfl
def C242 : T242 := F242
theorem ok242 : FnOk Tryz.prog 242 (E242 C242) :=
 fnx (n := .nil) kok242 Tryz.func242 (by kernel_rfl) (by kernel_rfl) (ann_nil _) (fun v => by kernel_rfl) (h242)
abbrev T245 := Int × Unit → Option (Bool × Unit)
def E245 (f : T245) : FEnt := ⟨f245_ins, f245_outs, f⟩
def K245 : Calls' := fun f => Ae.lookA f []
theorem kok245 : KOk Tryz.prog (K245) := (kok_nil _)
def F245 : T245 := fun (x0, _) =>
 bif decide (x0 ≥ 1776) then some (decide (x0 ≤ 1785), ()) else some (false, ())
theorem h245 : AqF (K245) 0 Tryz.f245 .nil f245_ins f245_outs (F245) := fun v => by kernel_rfl
def C245 : T245 := F245
theorem ok245 : FnOk Tryz.prog 245 (E245 C245) :=
 fnx (n := .nil) kok245 Tryz.func245 (by kernel_rfl) (by kernel_rfl) (ann_nil _) (fun v => by kernel_rfl) (h245)
abbrev T214 := Int × Unit → Option (Unit ⊕ Unit ⊕ Unit ⊕ Unit ⊕ Unit ⊕ Unit ⊕ Unit ⊕ Unit ⊕ Unit)
def E214 (f : T214) : FEnt := ⟨f214_ins, f214_outs, f⟩
def K214 (f242 : T242) (f245 : T245) (f247 : T247) : Calls' := fun f => Ae.lookA f [(242, E242 f242), (245, E245 f245), (247, E247 f247)]
theorem kok214 : KOk Tryz.prog (K214 C242 C245 C247) := (kok_cons ok242 (kok_cons ok245 (kok_cons ok247 (kok_nil _))))
def F214 (f242 : T242) (f245 : T245) (f247 : T247) : T214 := fun (x0, _) =>
 (f242 (x0, ())).bind fun v =>
 bif v.1 then some (Sum.inl ())
 else
 (f245 (x0, ())).bind fun v =>
 bif v.1 then some (Sum.inr (Sum.inl ()))
 else
 (f247 ()).bind fun v =>
 bif decide (x0 = 8205) then some (Sum.inr (Sum.inr (Sum.inl ())))
 else
 bif decide (x0 = 8204) then some (Sum.inr (Sum.inr (Sum.inr (Sum.inl ()))))
 else
 bif decide (x0 = 183) then some (Sum.inr (Sum.inr (Sum.inr (Sum.inr (Sum.inl ())))))
 else
 bif decide (x0 = 885) then some (Sum.inr (Sum.inr (Sum.inr (Sum.inr (Sum.inr (Sum.inl ()))))))
 else
 bif decide (x0 = 1523) then
 some (Sum.inr (Sum.inr (Sum.inr (Sum.inr (Sum.inr (Sum.inr (Sum.inl ())))))))
 else
 bif decide (x0 = 1524) then
 some (Sum.inr (Sum.inr (Sum.inr (Sum.inr (Sum.inr (Sum.inr (Sum.inl ())))))))
 else
 bif decide (x0 = 12539) then
 some (Sum.inr (Sum.inr (Sum.inr (Sum.inr (Sum.inr (Sum.inr (Sum.inr (Sum.inl ()))))))))
 else
 some (Sum.inr (Sum.inr (Sum.inr (Sum.inr (Sum.inr (Sum.inr (Sum.inr (Sum.inr ()))))))))
theorem h214 (f242 : T242) (f245 : T245) (f247 : T247) : AqF (K214 f242 f245 f247) 0 Tryz.f214 .nil f214_ins f214_outs (F214 f242 f245 f247) := fun v => by kernel_rfl
def C214 : T214 := F214 C242 C245 C247
theorem ok214 : FnOk Tryz.prog 214 (E214 C214) :=
 fnx (n := .nil) kok214 Tryz.func214 (by kernel_rfl) (by kernel_rfl) (ann_nil _) (fun v => by kernel_rfl) (h214 C242 C245 C247)
abbrev T281_l0 := List (Int) × Int × Int × Unit → Option (Unit ⊕ (Int × Unit))
def E281_l0 (f : T281_l0) : LEnt := ⟨f281_l0_ins, f281_l0_outs, f⟩
abbrev T281 := List (Int) × Unit → Option (Int × Unit)
def E281 (f : T281) : FEnt := ⟨f281_ins, f281_outs, f⟩
def K281 (f245 : T245) : Calls' := fun f => Ae.lookA f [(245, E245 f245)]
theorem kok281 : KOk Tryz.prog (K281 C245) := (kok_cons ok245 (kok_nil _))
def F281_l0 (f245 : T245) : LpF (List (Int) × Int × Int × Unit) (Unit ⊕ (Int × Unit)) := fun (x0, x1, x2, _) =>
 bif decide (x2 < x1) then
 bif decide (0 ≤ x2) && decide (x2 < (↑x0.length : Int)) then
 (f245 (x0.getD x2.toNat 0, ())).bind fun v =>
 bif v.1 then some (Sum.inr (Sum.inr (x2, ())))
 else some (Sum.inl (x0, x1, IntKind.i64.wrap (x2 + 1), ()))
 else none
 else some (Sum.inr (Sum.inl ()))
theorem h281_l0 (f245 : T245) : AqL (K281 f245) 0 (subc (code Tryz.f281) [1, 0, 1, 0, 0]) .nil f281_l0_ins f281_l0_outs (F281_l0 f245) := fun v => by kernel_rfl
def C281_l0 : T281_l0 := loopN (F281_l0 C245) big
theorem k281_l0 : FragOk Tryz.prog 0 (fun Q a w => (Code.loop (subc (code Tryz.f281) [1, 0, 1, 0, 0])).wp Tryz.prog Q a w) (E281_l0 C281_l0) :=
 frag_big (ins := f281_l0_ins) (os := f281_l0_outs) (C := C281_l0) (frag_loop (ins := f281_l0_ins) (os := f281_l0_outs) (n := .nil) (F := F281_l0 C245) hm hΓ kok281 (fun _ => big) (ann_nil _) (h281_l0 C245)) rfl
def N281 (f281_l0 : T281_l0) : Ann := (.seq .nil (.seq (.seq .nil (.blk (.loop (E281_l0 f281_l0)))) .nil))
def F281 (f245 : T245) (f281_l0 : T281_l0) : T281 := fun (x0, _) =>
 (f281_l0 (x0, (↑x0.length : Int), 0, ())).bind fun v =>
 Sum.elim (fun v => some (-1, ())) (fun v => some (v.1, ())) v
theorem h281 (f245 : T245) (f281_l0 : T281_l0) : AqF (K281 f245) 0 Tryz.f281 (N281 f281_l0) f281_ins f281_outs (F281 f245 f281_l0) := fun v => by kernel_rfl
def C281 : T281 := F281 C245 C281_l0
theorem ok281 : FnOk Tryz.prog 281 (E281 C281) :=
 fnx (n := (N281 C281_l0)) kok281 Tryz.func281 (by kernel_rfl) (by kernel_rfl) (ann_obs (And.intro k281_l0 trivial) (by kernel_rfl)) (fun v => by kernel_rfl) (h281 C245 C281_l0)
abbrev T244 := List (Int) × Unit → Option (Bool × Unit)
def E244 (f : T244) : FEnt := ⟨f244_ins, f244_outs, f⟩
def K244 (f281 : T281) : Calls' := fun f => Ae.lookA f [(281, E281 f281)]
theorem kok244 : KOk Tryz.prog (K244 C281) := (kok_cons ok281 (kok_nil _))
def F244 (f281 : T281) : T244 := fun (x0, _) =>
 (f281 (x0, ())).bind fun v => some (decide (v.1 ≥ 0), ())
theorem h244 (f281 : T281) : AqF (K244 f281) 0 Tryz.f244 .nil f244_ins f244_outs (F244 f281) := fun v => by kernel_rfl
def C244 : T244 := F244 C281
theorem ok244 : FnOk Tryz.prog 244 (E244 C244) :=
 fnx (n := .nil) kok244 Tryz.func244 (by kernel_rfl) (by kernel_rfl) (ann_nil _) (fun v => by kernel_rfl) (h244 C281)
abbrev T243 := LqA × LqB × LqC × List (Int) × Int × Unit → Option (Bool × Unit)
def E243 (f : T243) : FEnt := ⟨f243_ins, f243_outs, f⟩
def K243 (f244 : T244) : Calls' := fun f => Ae.lookA f [(244, E244 f244)]
theorem kok243 : KOk Tryz.prog (K243 C244) := (kok_cons ok244 (kok_nil _))
def F243 (f244 : T244) : T243 := fun (x0, x1, x2, x3, x4, _) =>
 (f244 (x3, ())).bind fun v => some (bif v.1 then false else true, ())
theorem h243 (f244 : T244) : AqF (K243 f244) 0 Tryz.f243 .nil f243_ins f243_outs (F243 f244) := fun v => by kernel_rfl
def C243 : T243 := F243 C244
theorem ok243 : FnOk Tryz.prog 243 (E243 C243) :=
 fnx (n := .nil) kok243 Tryz.func243 (by kernel_rfl) (by kernel_rfl) (ann_nil _) (fun v => by kernel_rfl) (h243 C244)
abbrev T281v1_l0 := List (Int) × Int × Int × Unit → Option (Unit ⊕ (Int × Unit))
def E281v1_l0 (f : T281v1_l0) : LEnt := ⟨f281v1_l0_ins, f281v1_l0_outs, f⟩
abbrev T281v1 := List (Int) × Unit → Option (Int × Unit)
def E281v1 (f : T281v1) : FEnt := ⟨f281v1_ins, f281v1_outs, f⟩
def K281v1 (f242 : T242) : Calls' := fun f => Ae.lookA f [(242, E242 f242)]
theorem kok281v1 : KOk Tryz.prog (K281v1 C242) := (kok_cons ok242 (kok_nil _))
def F281v1_l0 (f242 : T242) : LpF (List (Int) × Int × Int × Unit) (Unit ⊕ (Int × Unit)) := fun (x0, x1, x2, _) =>
 bif decide (x2 < x1) then
 bif decide (0 ≤ x2) && decide (x2 < (↑x0.length : Int)) then
 (f242 (x0.getD x2.toNat 0, ())).bind fun v =>
 bif v.1 then some (Sum.inr (Sum.inr (x2, ())))
 else some (Sum.inl (x0, x1, IntKind.i64.wrap (x2 + 1), ()))
 else none
 else some (Sum.inr (Sum.inl ()))
theorem h281v1_l0 (f242 : T242) : AqL (K281v1 f242) 0 (subc (code Tryz.f281) [1, 0, 1, 0, 0]) .nil f281v1_l0_ins f281v1_l0_outs (F281v1_l0 f242) := fun v => by kernel_rfl
def C281v1_l0 : T281v1_l0 := loopN (F281v1_l0 C242) big
theorem k281v1_l0 : FragOk Tryz.prog 0 (fun Q a w => (Code.loop (subc (code Tryz.f281) [1, 0, 1, 0, 0])).wp Tryz.prog Q a w) (E281v1_l0 C281v1_l0) :=
 frag_big (ins := f281v1_l0_ins) (os := f281v1_l0_outs) (C := C281v1_l0) (frag_loop (ins := f281v1_l0_ins) (os := f281v1_l0_outs) (n := .nil) (F := F281v1_l0 C242) hm hΓ kok281v1 (fun _ => big) (ann_nil _) (h281v1_l0 C242)) rfl
def N281v1 (f281v1_l0 : T281v1_l0) : Ann := (.seq .nil (.seq (.seq .nil (.blk (.loop (E281v1_l0 f281v1_l0)))) .nil))
def F281v1 (f242 : T242) (f281v1_l0 : T281v1_l0) : T281v1 := fun (x0, _) =>
 (f281v1_l0 (x0, (↑x0.length : Int), 0, ())).bind fun v =>
 Sum.elim (fun v => some (-1, ())) (fun v => some (v.1, ())) v
theorem h281v1 (f242 : T242) (f281v1_l0 : T281v1_l0) : AqF (K281v1 f242) 0 Tryz.f281 (N281v1 f281v1_l0) f281v1_ins f281v1_outs (F281v1 f242 f281v1_l0) := fun v => by kernel_rfl
def C281v1 : T281v1 := F281v1 C242 C281v1_l0
theorem ok281v1 : FnOk Tryz.prog 281 (E281v1 C281v1) :=
 fnx (n := (N281v1 C281v1_l0)) kok281v1 Tryz.func281 (by kernel_rfl) (by kernel_rfl) (ann_obs (And.intro k281v1_l0 trivial) (by kernel_rfl)) (fun v => by kernel_rfl) (h281v1 C242 C281v1_l0)
abbrev T244v1 := List (Int) × Unit → Option (Bool × Unit)
def E244v1 (f : T244v1) : FEnt := ⟨f244v1_ins, f244v1_outs, f⟩
def K244v1 (f281v1 : T281v1) : Calls' := fun f => Ae.lookA f [(281, E281v1 f281v1)]
theorem kok244v1 : KOk Tryz.prog (K244v1 C281v1) := (kok_cons ok281v1 (kok_nil _))
def F244v1 (f281v1 : T281v1) : T244v1 := fun (x0, _) =>
 (f281v1 (x0, ())).bind fun v => some (decide (v.1 ≥ 0), ())
theorem h244v1 (f281v1 : T281v1) : AqF (K244v1 f281v1) 0 Tryz.f244 .nil f244v1_ins f244v1_outs (F244v1 f281v1) := fun v => by kernel_rfl
def C244v1 : T244v1 := F244v1 C281v1
theorem ok244v1 : FnOk Tryz.prog 244 (E244v1 C244v1) :=
 fnx (n := .nil) kok244v1 Tryz.func244 (by kernel_rfl) (by kernel_rfl) (ann_nil _) (fun v => by kernel_rfl) (h244v1 C281v1)
abbrev T246 := LqA × LqB × LqC × List (Int) × Int × Unit → Option (Bool × Unit)
def E246 (f : T246) : FEnt := ⟨f246_ins, f246_outs, f⟩
def K246 (f244v1 : T244v1) : Calls' := fun f => Ae.lookA f [(244, E244v1 f244v1)]
theorem kok246 : KOk Tryz.prog (K246 C244v1) := (kok_cons ok244v1 (kok_nil _))
def F246 (f244v1 : T244v1) : T246 := fun (x0, x1, x2, x3, x4, _) =>
 (f244v1 (x3, ())).bind fun v => some (bif v.1 then false else true, ())
theorem h246 (f244v1 : T244v1) : AqF (K246 f244v1) 0 Tryz.f246 .nil f246_ins f246_outs (F246 f244v1) := fun v => by kernel_rfl
def C246 : T246 := F246 C244v1
theorem ok246 : FnOk Tryz.prog 246 (E246 C246) :=
 fnx (n := .nil) kok246 Tryz.func246 (by kernel_rfl) (by kernel_rfl) (ann_nil _) (fun v => by kernel_rfl) (h246 C244v1)
abbrev T304 := LqA × LqB × LqC × List (Int) × Int × Int × Unit → Option (Int × Unit)
def E304 (f : T304) : FEnt := ⟨f304_ins, f304_outs, f⟩
def K304 : Calls' := fun f => Ae.lookA f []
theorem kok304 : KOk Tryz.prog (K304) := (kok_nil _)
def F304 : T304 := fun (x0, x1, x2, x3, x4, x5, _) =>
 bif decide (IntKind.i64.wrap (x4 + x5) < 0) then some (-1, ())
 else
 bif decide (IntKind.i64.wrap (x4 + x5) ≥ (↑x3.length : Int)) then some (-1, ())
 else
 bif decide (0 ≤ IntKind.i64.wrap (x4 + x5)) && decide (IntKind.i64.wrap (x4 + x5) < (↑x3.length : Int)) then
 some (x3.getD ((IntKind.i64.wrap (x4 + x5)).toNat) 0, ())
 else none
theorem h304 : AqF (K304) 0 Tryz.f304 .nil f304_ins f304_outs (F304) := fun v => by kernel_rfl
def C304 : T304 := F304
theorem ok304 : FnOk Tryz.prog 304 (E304 C304) :=
 fnx (n := .nil) kok304 Tryz.func304 (by kernel_rfl) (by kernel_rfl) (ann_nil _) (fun v => by kernel_rfl) (h304)
abbrev T282 := LqA × LqB × LqC × List (Int) × Int × Unit → Option (Bool × Unit)
def E282 (f : T282) : FEnt := ⟨f282_ins, f282_outs, f⟩
def K282 (f276 : T276) (f304 : T304) : Calls' := fun f => Ae.lookA f [(276, E276 f276), (304, E304 f304)]
theorem kok282 : KOk Tryz.prog (K282 C276 C304) := (kok_cons ok276 (kok_cons ok304 (kok_nil _)))
def F282 (f276 : T276) (f304 : T304) : T282 := fun (x0, x1, x2, x3, x4, _) =>
 (f304 (x0, x1, x2, x3, x4, -1, ())).bind fun v =>
 (f276 (x0, x1, x2, v.1, ())).bind fun v => some (v.1 == 9, ())
theorem h282 (f276 : T276) (f304 : T304) : AqF (K282 f276 f304) 0 Tryz.f282 .nil f282_ins f282_outs (F282 f276 f304) := fun v => by kernel_rfl
def C282 : T282 := F282 C276 C304
theorem ok282 : FnOk Tryz.prog 282 (E282 C282) :=
 fnx (n := .nil) kok282 Tryz.func282 (by kernel_rfl) (by kernel_rfl) (ann_nil _) (fun v => by kernel_rfl) (h282 C276 C304)
abbrev T313 := LqA × LqB × LqC × Int × Unit → Option (Int × Unit)
def E313 (f : T313) : FEnt := ⟨f313_ins, f313_outs, f⟩
def K313 (f248 : T248) : Calls' := fun f => Ae.lookA f [(248, E248 f248)]
theorem kok313 : KOk Tryz.prog (K313 C248) := (kok_cons ok248 (kok_nil _))
def F313 (f248 : T248) : T313 := fun (x0, x1, x2, x3, _) =>
 (f248 (x0, x1, x2, x3, ())).bind fun v => some (v.2.2.2.2.1, ())
theorem h313 (f248 : T248) : AqF (K313 f248) 0 Tryz.f313 .nil f313_ins f313_outs (F313 f248) := fun v => by kernel_rfl
def C313 : T313 := F313 C248
theorem ok313 : FnOk Tryz.prog 313 (E313 C313) :=
 fnx (n := .nil) kok313 Tryz.func313 (by kernel_rfl) (by kernel_rfl) (ann_nil _) (fun v => by kernel_rfl) (h313 C248)
abbrev T305_l0 := Int × Int × LqA × LqB × LqC × List (Int) × Int × Unit → Option (Unit ⊕ (Int × Unit))
def E305_l0 (f : T305_l0) : LEnt := ⟨f305_l0_ins, f305_l0_outs, f⟩
abbrev T305 := LqA × LqB × LqC × List (Int) × Int × Int × Unit → Option (Int × Unit)
def E305 (f : T305) : FEnt := ⟨f305_ins, f305_outs, f⟩
def K305 (f304 : T304) (f313 : T313) : Calls' := fun f => Ae.lookA f [(304, E304 f304), (313, E313 f313)]
theorem kok305 : KOk Tryz.prog (K305 C304 C313) := (kok_cons ok304 (kok_cons ok313 (kok_nil _)))
def F305_l0 (f304 : T304) (f313 : T313) : LpF (Int × Int × LqA × LqB × LqC × List (Int) × Int × Unit) (Unit ⊕ (Int × Unit)) := fun (x0, x1, x2, x3, x4, x5, x6, _) =>
 (f304 (x2, x3, x4, x5, x6, x1, ())).bind fun v =>
 bif decide (v.1 ≥ 0) then
 (f304 (x2, x3, x4, x5, x6, x1, ())).bind fun v =>
 (f313 (x2, x3, x4, v.1, ())).bind fun v =>
 bif v.1 != 3 then some (Sum.inr (Sum.inr (v.1, ())))
 else some (Sum.inl (x0, IntKind.i64.wrap (x1 + x0), x2, x3, x4, x5, x6, ()))
 else some (Sum.inr (Sum.inl ()))
theorem h305_l0 (f304 : T304) (f313 : T313) : AqL (K305 f304 f313) 0 (subc (code Tryz.f305) [1, 0, 1, 0, 0]) .nil f305_l0_ins f305_l0_outs (F305_l0 f304 f313) := fun v => by kernel_rfl
def C305_l0 : T305_l0 := loopN (F305_l0 C304 C313) big
theorem k305_l0 : FragOk Tryz.prog 0 (fun Q a w => (Code.loop (subc (code Tryz.f305) [1, 0, 1, 0, 0])).wp Tryz.prog Q a w) (E305_l0 C305_l0) :=
 frag_big (ins := f305_l0_ins) (os := f305_l0_outs) (C := C305_l0) (frag_loop (ins := f305_l0_ins) (os := f305_l0_outs) (n := .nil) (F := F305_l0 C304 C313) hm hΓ kok305 (fun _ => big) (ann_nil _) (h305_l0 C304 C313)) rfl
def N305 (f305_l0 : T305_l0) : Ann := (.seq .nil (.seq (.seq .nil (.blk (.loop (E305_l0 f305_l0)))) .nil))
def F305 (f304 : T304) (f313 : T313) (f305_l0 : T305_l0) : T305 := fun (x0, x1, x2, x3, x4, x5, _) =>
 (f305_l0 (x5, x5, x0, x1, x2, x3, x4, ())).bind fun v =>
 Sum.elim (fun v => some (0, ())) (fun v => some (v.1, ())) v
theorem h305 (f304 : T304) (f313 : T313) (f305_l0 : T305_l0) : AqF (K305 f304 f313) 0 Tryz.f305 (N305 f305_l0) f305_ins f305_outs (F305 f304 f313 f305_l0) := fun v => by kernel_rfl
def C305 : T305 := F305 C304 C313 C305_l0
theorem ok305 : FnOk Tryz.prog 305 (E305 C305) :=
 fnx (n := (N305 C305_l0)) kok305 Tryz.func305 (by kernel_rfl) (by kernel_rfl) (ann_obs (And.intro k305_l0 trivial) (by kernel_rfl)) (fun v => by kernel_rfl) (h305 C304 C313 C305_l0)
abbrev T283 := LqA × LqB × LqC × List (Int) × Int × Unit → Option (Bool × Unit)
def E283 (f : T283) : FEnt := ⟨f283_ins, f283_outs, f⟩
def K283 (f282 : T282) (f305 : T305) : Calls' := fun f => Ae.lookA f [(282, E282 f282), (305, E305 f305)]
theorem kok283 : KOk Tryz.prog (K283 C282 C305) := (kok_cons ok282 (kok_cons ok305 (kok_nil _)))
def F283 (f282 : T282) (f305 : T305) : T283 := fun (x0, x1, x2, x3, x4, _) =>
 (f305 (x0, x1, x2, x3, x4, 1, ())).bind fun v =>
 (f282 (x0, x1, x2, x3, x4, ())).bind fun v1 =>
 bif v1.1 then some (true, ())
 else
 (f305 (x0, x1, x2, x3, x4, -1, ())).bind fun v2 =>
 bif v2.1 == 1 then bif v.1 == 1 then some (true, ()) else some (v.1 == 2, ())
 else some (false, ())
theorem h283 (f282 : T282) (f305 : T305) : AqF (K283 f282 f305) 0 Tryz.f283 .nil f283_ins f283_outs (F283 f282 f305) := fun v => by kernel_rfl
def C283 : T283 := F283 C282 C305
theorem ok283 : FnOk Tryz.prog 283 (E283 C283) :=
 fnx (n := .nil) kok283 Tryz.func283 (by kernel_rfl) (by kernel_rfl) (ann_nil _) (fun v => by kernel_rfl) (h283 C282 C305)
abbrev T284 := LqA × LqB × LqC × List (Int) × Int × Unit → Option (Bool × Unit)
def E284 (f : T284) : FEnt := ⟨f284_ins, f284_outs, f⟩
def K284 (f304 : T304) : Calls' := fun f => Ae.lookA f [(304, E304 f304)]
theorem kok284 : KOk Tryz.prog (K284 C304) := (kok_cons ok304 (kok_nil _))
def F284 (f304 : T304) : T284 := fun (x0, x1, x2, x3, x4, _) =>
 (f304 (x0, x1, x2, x3, x4, -1, ())).bind fun v =>
 bif v.1 == 108 then (f304 (x0, x1, x2, x3, x4, 1, ())).bind fun v => some (v.1 == 108, ())
 else some (false, ())
theorem h284 (f304 : T304) : AqF (K284 f304) 0 Tryz.f284 .nil f284_ins f284_outs (F284 f304) := fun v => by kernel_rfl
def C284 : T284 := F284 C304
theorem ok284 : FnOk Tryz.prog 284 (E284 C284) :=
 fnx (n := .nil) kok284 Tryz.func284 (by kernel_rfl) (by kernel_rfl) (ann_nil _) (fun v => by kernel_rfl) (h284 C304)
end Go.Proofs.YtiacnhhmkdkpmaaGreatDoorC.W
set_option maxRecDepth 100000
set_option linter.unusedVariables false
namespace Go.Proofs.YtiacnhhmkdkpmaaGreatDoorC.W
open Go Go.Ae
abbrev T306 := LqA × LqB × LqC × Int × Unit → Option (Int × Unit)
def E306 (f : T306) : FEnt := ⟨f306_ins, f306_outs, f⟩
def K306 (f248 : T248) : Calls' := fun f => Ae.lookA f [(248, E248 f248)]
theorem kok306 : KOk Tryz.prog (K306 C248) := (kok_cons ok248 (kok_nil _))
def F306 (f248 : T248) : T306 := fun (x0, x1, x2, x3, _) =>
 (f248 (x0, x1, x2, x3, ())).bind fun v => some (v.2.2.2.2.2.1, ())
theorem h306 (f248 : T248) : AqF (K306 f248) 0 Tryz.f306 .nil f306_ins f306_outs (F306 f248) := fun v => by kernel_rfl
def C306 : T306 := F306 C248
theorem ok306 : FnOk Tryz.prog 306 (E306 C306) :=
 fnx (n := .nil) kok306 Tryz.func306 (by kernel_rfl) (by kernel_rfl) (ann_nil _) (fun v => by kernel_rfl) (h306 C248)
abbrev T285 := LqA × LqB × LqC × List (Int) × Int × Unit → Option (Bool × Unit)
def E285 (f : T285) : FEnt := ⟨f285_ins, f285_outs, f⟩
def K285 (f304 : T304) (f306 : T306) : Calls' := fun f => Ae.lookA f [(304, E304 f304), (306, E306 f306)]
theorem kok285 : KOk Tryz.prog (K285 C304 C306) := (kok_cons ok304 (kok_cons ok306 (kok_nil _)))
def F285 (f304 : T304) (f306 : T306) : T285 := fun (x0, x1, x2, x3, x4, _) =>
 (f304 (x0, x1, x2, x3, x4, 1, ())).bind fun v =>
 (f306 (x0, x1, x2, v.1, ())).bind fun v => some (v.1 == 2, ())
theorem h285 (f304 : T304) (f306 : T306) : AqF (K285 f304 f306) 0 Tryz.f285 .nil f285_ins f285_outs (F285 f304 f306) := fun v => by kernel_rfl
def C285 : T285 := F285 C304 C306
theorem ok285 : FnOk Tryz.prog 285 (E285 C285) :=
 fnx (n := .nil) kok285 Tryz.func285 (by kernel_rfl) (by kernel_rfl) (ann_nil _) (fun v => by kernel_rfl) (h285 C304 C306)
abbrev T286 := LqA × LqB × LqC × List (Int) × Int × Unit → Option (Bool × Unit)
def E286 (f : T286) : FEnt := ⟨f286_ins, f286_outs, f⟩
def K286 (f304 : T304) (f306 : T306) : Calls' := fun f => Ae.lookA f [(304, E304 f304), (306, E306 f306)]
theorem kok286 : KOk Tryz.prog (K286 C304 C306) := (kok_cons ok304 (kok_cons ok306 (kok_nil _)))
def F286 (f304 : T304) (f306 : T306) : T286 := fun (x0, x1, x2, x3, x4, _) =>
 (f304 (x0, x1, x2, x3, x4, -1, ())).bind fun v =>
 (f306 (x0, x1, x2, v.1, ())).bind fun v => some (v.1 == 4, ())
theorem h286 (f304 : T304) (f306 : T306) : AqF (K286 f304 f306) 0 Tryz.f286 .nil f286_ins f286_outs (F286 f304 f306) := fun v => by kernel_rfl
def C286 : T286 := F286 C304 C306
theorem ok286 : FnOk Tryz.prog 286 (E286 C286) :=
 fnx (n := .nil) kok286 Tryz.func286 (by kernel_rfl) (by kernel_rfl) (ann_nil _) (fun v => by kernel_rfl) (h286 C304 C306)
abbrev T307 := Int × LqA × LqB × LqC × List (Int) × Int × Unit → Option (Bool × LqA × LqB × LqC × List (Int) × Int × Unit)
def E307 (f : T307) : FEnt := ⟨f307_ins, f307_outs, f⟩
def K307 (f306 : T306) : Calls' := fun f => Ae.lookA f [(306, E306 f306)]
theorem kok307 : KOk Tryz.prog (K307 C306) := (kok_cons ok306 (kok_nil _))
def F307 (f306 : T306) : T307 := fun (x0, x1, x2, x3, x4, x5, _) =>
 (f306 (x1, x2, x3, x0, ())).bind fun v =>
 bif v.1 == 7 then some (true, x1, x2, x3, x4, x5, ())
 else some (v.1 == 8, x1, x2, x3, x4, x5, ())
theorem h307 (f306 : T306) : AqF (K307 f306) 1 Tryz.f307 .nil f307_ins f307_outs (F307 f306) := fun v => by kernel_rfl
def C307 : T307 := F307 C306
theorem ok307 : FnOk Tryz.prog 307 (E307 C307) :=
 fnx (n := .nil) kok307 Tryz.func307 (by kernel_rfl) (by kernel_rfl) (ann_nil _) (fun v => by kernel_rfl) (h307 C306)
abbrev T281v2_l0 := List (Int) × Int × Int × LqA × LqB × LqC × List (Int) × Int × Unit → Option ((LqA × LqB × LqC × List (Int) × Int × Unit) ⊕ (Int × LqA × LqB × LqC × List (Int) × Int × Unit))
def E281v2_l0 (f : T281v2_l0) : LEnt := ⟨f281v2_l0_ins, f281v2_l0_outs, f⟩
abbrev T281v2 := List (Int) × LqA × LqB × LqC × List (Int) × Int × Unit → Option (Int × LqA × LqB × LqC × List (Int) × Int × Unit)
def E281v2 (f : T281v2) : FEnt := ⟨f281v2_ins, f281v2_outs, f⟩
def K281v2 (f307 : T307) : Calls' := fun f => Ae.lookA f [(307, E307 f307)]
theorem kok281v2 : KOk Tryz.prog (K281v2 C307) := (kok_cons ok307 (kok_nil _))
def F281v2_l0 (f307 : T307) : LpF (List (Int) × Int × Int × LqA × LqB × LqC × List (Int) × Int × Unit) ((LqA × LqB × LqC × List (Int) × Int × Unit) ⊕ (Int × LqA × LqB × LqC × List (Int) × Int × Unit)) := fun (x0, x1, x2, x3, x4, x5, x6, x7, _) =>
 bif decide (x2 < x1) then
 bif decide (0 ≤ x2) && decide (x2 < (↑x0.length : Int)) then
 (f307 (x0.getD x2.toNat 0, x3, x4, x5, x6, x7, ())).bind fun v =>
 bif v.1 then
 some
 (Sum.inr
 (Sum.inr
 (x2, v.2.1, v.2.2.1, v.2.2.2.1, v.2.2.2.2.1,
 v.2.2.2.2.2.1, ())))
 else
 some
 (Sum.inl
 (x0, x1, IntKind.i64.wrap (x2 + 1), v.2.1, v.2.2.1, v.2.2.2.1,
 v.2.2.2.2.1, v.2.2.2.2.2.1, ()))
 else none
 else some (Sum.inr (Sum.inl (x3, x4, x5, x6, x7, ())))
theorem h281v2_l0 (f307 : T307) : AqL (K281v2 f307) 1 (subc (code Tryz.f281) [1, 0, 1, 0, 0]) .nil f281v2_l0_ins f281v2_l0_outs (F281v2_l0 f307) := fun v => by kernel_rfl
def C281v2_l0 : T281v2_l0 := loopN (F281v2_l0 C307) big
theorem k281v2_l0 : FragOk Tryz.prog 1 (fun Q a w => (Code.loop (subc (code Tryz.f281) [1, 0, 1, 0, 0])).wp Tryz.prog Q a w) (E281v2_l0 C281v2_l0) :=
 frag_big (ins := f281v2_l0_ins) (os := f281v2_l0_outs) (C := C281v2_l0) (frag_loop (ins := f281v2_l0_ins) (os := f281v2_l0_outs) (n := .nil) (F := F281v2_l0 C307) hm hΓ kok281v2 (fun _ => big) (ann_nil _) (h281v2_l0 C307)) rfl
def N281v2 (f281v2_l0 : T281v2_l0) : Ann := (.seq .nil (.seq (.seq .nil (.blk (.loop (E281v2_l0 f281v2_l0)))) .nil))
def F281v2 (f307 : T307) (f281v2_l0 : T281v2_l0) : T281v2 := fun (x0, x1, x2, x3, x4, x5, _) =>
 (f281v2_l0 (x0, (↑x0.length : Int), 0, x1, x2, x3, x4, x5, ())).bind fun v =>
 Sum.elim
 (fun v =>
 some (-1, v.1, v.2.1, v.2.2.1, v.2.2.2.1, v.2.2.2.2.1, ()))
 (fun v =>
 some
 (v.1, v.2.1, v.2.2.1, v.2.2.2.1, v.2.2.2.2.1,
 v.2.2.2.2.2.1, ()))
 v
theorem h281v2 (f307 : T307) (f281v2_l0 : T281v2_l0) : AqF (K281v2 f307) 1 Tryz.f281 (N281v2 f281v2_l0) f281v2_ins f281v2_outs (F281v2 f307 f281v2_l0) := fun v => by kernel_rfl
def C281v2 : T281v2 := F281v2 C307 C281v2_l0
theorem ok281v2 : FnOk Tryz.prog 281 (E281v2 C281v2) :=
 fnx (n := (N281v2 C281v2_l0)) kok281v2 Tryz.func281 (by kernel_rfl) (by kernel_rfl) (ann_obs (And.intro k281v2_l0 trivial) (by kernel_rfl)) (fun v => by kernel_rfl) (h281v2 C307 C281v2_l0)
abbrev T244v2 := List (Int) × LqA × LqB × LqC × List (Int) × Int × Unit → Option (Bool × LqA × LqB × LqC × List (Int) × Int × Unit)
def E244v2 (f : T244v2) : FEnt := ⟨f244v2_ins, f244v2_outs, f⟩
def K244v2 (f281v2 : T281v2) : Calls' := fun f => Ae.lookA f [(281, E281v2 f281v2)]
theorem kok244v2 : KOk Tryz.prog (K244v2 C281v2) := (kok_cons ok281v2 (kok_nil _))
def F244v2 (f281v2 : T281v2) : T244v2 := fun (x0, x1, x2, x3, x4, x5, _) =>
 (f281v2 (x0, x1, x2, x3, x4, x5, ())).bind fun v =>
 some
 (decide (v.1 ≥ 0), v.2.1, v.2.2.1, v.2.2.2.1, v.2.2.2.2.1,
 v.2.2.2.2.2.1, ())
theorem h244v2 (f281v2 : T281v2) : AqF (K244v2 f281v2) 1 Tryz.f244 .nil f244v2_ins f244v2_outs (F244v2 f281v2) := fun v => by kernel_rfl
def C244v2 : T244v2 := F244v2 C281v2
theorem ok244v2 : FnOk Tryz.prog 244 (E244v2 C244v2) :=
 fnx (n := .nil) kok244v2 Tryz.func244 (by kernel_rfl) (by kernel_rfl) (ann_nil _) (fun v => by kernel_rfl) (h244v2 C281v2)
abbrev T287 := LqA × LqB × LqC × List (Int) × Int × Unit → Option (Bool × Unit)
def E287 (f : T287) : FEnt := ⟨f287_ins, f287_outs, f⟩
def K287 (f244v2 : T244v2) : Calls' := fun f => Ae.lookA f [(244, E244v2 f244v2)]
theorem kok287 : KOk Tryz.prog (K287 C244v2) := (kok_cons ok244v2 (kok_nil _))
def F287 (f244v2 : T244v2) : T287 := fun (x0, x1, x2, x3, x4, _) =>
 (f244v2 (x3, x0, x1, x2, x3, x4, ())).bind fun v => some (v.1, ())
theorem h287 (f244v2 : T244v2) : AqF (K287 f244v2) 0 Tryz.f287 .nil f287_ins f287_outs (F287 f244v2) := fun v => by kernel_rfl
def C287 : T287 := F287 C244v2
theorem ok287 : FnOk Tryz.prog 287 (E287 C287) :=
 fnx (n := .nil) kok287 Tryz.func287 (by kernel_rfl) (by kernel_rfl) (ann_nil _) (fun v => by kernel_rfl) (h287 C244v2)
abbrev T183 := LqA × LqB × LqC × List (Int) × Int × Unit → Option (Int × Unit)
def E183 (f : T183) : FEnt := ⟨f183_ins, f183_outs, f⟩
def K183 (f214 : T214) (f243 : T243) (f246 : T246) (f282 : T282) (f283 : T283) (f284 : T284) (f285 : T285) (f286 : T286) (f287 : T287) : Calls' := fun f => Ae.lookA f [(214, E214 f214), (243, E243 f243), (246, E246 f246), (282, E282 f282), (283, E283 f283), (284, E284 f284), (285, E285 f285), (286, E286 f286), (287, E287 f287)]
theorem kok183 : KOk Tryz.prog (K183 C214 C243 C246 C282 C283 C284 C285 C286 C287) := (kok_cons ok214 (kok_cons ok243 (kok_cons ok246 (kok_cons ok282 (kok_cons ok283 (kok_cons ok284 (kok_cons ok285 (kok_cons ok286 (kok_cons ok287 (kok_nil _))))))))))
def F183 (f214 : T214) (f243 : T243) (f246 : T246) (f282 : T282) (f283 : T283) (f284 : T284) (f285 : T285) (f286 : T286) (f287 : T287) : T183 := fun (x0, x1, x2, x3, x4, _) =>
 bif decide (x4 < 0) then some (0, ())
 else
 bif decide (x4 ≥ (↑x3.length : Int)) then some (0, ())
 else
 bif decide (0 ≤ x4) && decide (x4 < (↑x3.length : Int)) then
 (f214 (x3.getD x4.toNat 0, ())).bind fun v =>
 Sum.elim
 (fun v =>
 (f243 (x0, x1, x2, x3, x4, ())).bind fun v =>
 bif v.1 then some (1, ()) else some (2, ()))
 (fun v =>
 Sum.elim
 (fun v =>
 (f246 (x0, x1, x2, x3, x4, ())).bind fun v =>
 bif v.1 then some (1, ()) else some (2, ()))
 (fun v =>
 Sum.elim
 (fun v =>
 (f282 (x0, x1, x2, x3, x4, ())).bind fun v =>
 bif v.1 then some (1, ()) else some (2, ()))
 (fun v =>
 Sum.elim
 (fun v =>
 (f283 (x0, x1, x2, x3, x4, ())).bind fun v =>
 bif v.1 then some (1, ()) else some (2, ()))
 (fun v =>
 Sum.elim
 (fun v =>
 (f284 (x0, x1, x2, x3, x4, ())).bind fun v =>
 bif v.1 then some (1, ()) else some (2, ()))
 (fun v =>
 Sum.elim
 (fun v =>
 (f285 (x0, x1, x2, x3, x4, ())).bind fun v =>
 bif v.1 then some (1, ()) else some (2, ()))
 (fun v =>
 Sum.elim
 (fun v =>
 (f286 (x0, x1, x2, x3, x4, ())).bind fun v =>
 bif v.1 then some (1, ()) else some (2, ()))
 (fun v =>
 Sum.elim
 (fun v =>
 (f287 (x0, x1, x2, x3, x4, ())).bind fun v =>
 bif v.1 then some (1, ()) else some (2, ()))
 (fun v => some (0, ())) v)
 v)
 v)
 v)
 v)
 v)
 v)
 v
 else none
theorem h183 (f214 : T214) (f243 : T243) (f246 : T246) (f282 : T282) (f283 : T283) (f284 : T284) (f285 : T285) (f286 : T286) (f287 : T287) : AqF (K183 f214 f243 f246 f282 f283 f284 f285 f286 f287) 0 Tryz.f183 .nil f183_ins f183_outs (F183 f214 f243 f246 f282 f283 f284 f285 f286 f287) := fun v => by kernel_rfl
def C183 : T183 := F183 C214 C243 C246 C282 C283 C284 C285 C286 C287
theorem ok183 : FnOk Tryz.prog 183 (E183 C183) :=
 fnx (n := .nil) kok183 Tryz.func183 (by kernel_rfl) (by kernel_rfl) (ann_nil _) (fun v => by kernel_rfl) (h183 C214 C243 C246 C282 C283 C284 C285 C286 C287)
abbrev T217 := LqA × LqB × LqC × Int × Unit → Option (Bool × Unit)
def E217 (f : T217) : FEnt := ⟨f217_ins, f217_outs, f⟩
def K217 (f215 : T215) (f216 : T216) : Calls' := fun f => Ae.lookA f [(215, E215 f215), (216, E216 f216)]
theorem kok217 : KOk Tryz.prog (K217 C215 C216) := (kok_cons ok215 (kok_cons ok216 (kok_nil _)))
def F217 (f215 : T215) (f216 : T216) : T217 := fun (x0, x1, x2, x3, _) =>
 (f216 (x0, x1, x2, x3, ())).bind fun v =>
 bif v.2.2.2.2.2.1 then
 bif v.2.2.2.1 then some (false, ())
 else
 bif v.2.2.2.2.1 then some (false, ())
 else
 (f215 (x0, x1, x2, x3, ())).bind fun v =>
 bif v.1 == 2 then some (true, ())
 else
 bif v.1 == 3 then some (true, ())
 else
 bif v.1 == 4 then some (true, ())
 else bif v.1 == 5 then some (true, ()) else some (x3 == 45, ())
 else
 (f215 (x0, x1, x2, x3, ())).bind fun v =>
 bif v.1 == 2 then some (true, ())
 else
 bif v.1 == 3 then some (true, ())
 else
 bif v.1 == 4 then some (true, ())
 else bif v.1 == 5 then some (true, ()) else some (x3 == 45, ())
theorem h217 (f215 : T215) (f216 : T216) : AqF (K217 f215 f216) 0 Tryz.f217 .nil f217_ins f217_outs (F217 f215 f216) := fun v => by kernel_rfl
def C217 : T217 := F217 C215 C216
theorem ok217 : FnOk Tryz.prog 217 (E217 C217) :=
 fnx (n := .nil) kok217 Tryz.func217 (by kernel_rfl) (by kernel_rfl) (ann_nil _) (fun v => by kernel_rfl) (h217 C215 C216)
abbrev T261_l0 := List (Int) × List (Int) × Int × Int × LqA × LqB × LqC × Unit → Option (Unit ⊕ (Bool × Unit))
def E261_l0 (f : T261_l0) : LEnt := ⟨f261_l0_ins, f261_l0_outs, f⟩
abbrev T261 := LqA × LqB × LqC × List (Int) × Unit → Option (Bool × Unit)
def E261 (f : T261) : FEnt := ⟨f261_ins, f261_outs, f⟩
def K261 (f183 : T183) (f217 : T217) : Calls' := fun f => Ae.lookA f [(183, E183 f183), (217, E217 f217)]
theorem kok261 : KOk Tryz.prog (K261 C183 C217) := (kok_cons ok183 (kok_cons ok217 (kok_nil _)))
def F261_l0 (f183 : T183) (f217 : T217) : LpF (List (Int) × List (Int) × Int × Int × LqA × LqB × LqC × Unit) (Unit ⊕ (Bool × Unit)) := fun (x0, x1, x2, x3, x4, x5, x6, _) =>
 bif decide (x3 < x2) then
 bif decide (0 ≤ x3) && decide (x3 < (↑x1.length : Int)) then
 (f183 (x4, x5, x6, x0, x3, ())).bind fun v =>
 bif v.1 == 2 then some (Sum.inr (Sum.inr (true, ())))
 else
 bif v.1 == 0 then
 (f217 (x4, x5, x6, x1.getD x3.toNat 0, ())).bind fun v =>
 bif !v.1 then some (Sum.inr (Sum.inr (true, ())))
 else some (Sum.inl (x0, x1, x2, IntKind.i64.wrap (x3 + 1), x4, x5, x6, ()))
 else some (Sum.inl (x0, x1, x2, IntKind.i64.wrap (x3 + 1), x4, x5, x6, ()))
 else none
 else some (Sum.inr (Sum.inl ()))
theorem h261_l0 (f183 : T183) (f217 : T217) : AqL (K261 f183 f217) 0 (subc (code Tryz.f261) [1, 0, 1, 0, 0]) .nil f261_l0_ins f261_l0_outs (F261_l0 f183 f217) := fun v => by kernel_rfl
def C261_l0 : T261_l0 := loopN (F261_l0 C183 C217) big
theorem k261_l0 : FragOk Tryz.prog 0 (fun Q a w => (Code.loop (subc (code Tryz.f261) [1, 0, 1, 0, 0])).wp Tryz.prog Q a w) (E261_l0 C261_l0) :=
 frag_big (ins := f261_l0_ins) (os := f261_l0_outs) (C := C261_l0) (frag_loop (ins := f261_l0_ins) (os := f261_l0_outs) (n := .nil) (F := F261_l0 C183 C217) hm hΓ kok261 (fun _ => big) (ann_nil _) (h261_l0 C183 C217)) rfl
def N261 (f261_l0 : T261_l0) : Ann := (.seq .nil (.seq (.seq .nil (.blk (.loop (E261_l0 f261_l0)))) .nil))
def F261 (f183 : T183) (f217 : T217) (f261_l0 : T261_l0) : T261 := fun (x0, x1, x2, x3, _) =>
 (f261_l0 (x3, x3, (↑x3.length : Int), 0, x0, x1, x2, ())).bind fun v =>
 Sum.elim (fun v => some (false, ())) (fun v => some (v.1, ())) v
theorem h261 (f183 : T183) (f217 : T217) (f261_l0 : T261_l0) : AqF (K261 f183 f217) 0 Tryz.f261 (N261 f261_l0) f261_ins f261_outs (F261 f183 f217 f261_l0) := fun v => by kernel_rfl
def C261 : T261 := F261 C183 C217 C261_l0
theorem ok261 : FnOk Tryz.prog 261 (E261 C261) :=
 fnx (n := (N261 C261_l0)) kok261 Tryz.func261 (by kernel_rfl) (by kernel_rfl) (ann_obs (And.intro k261_l0 trivial) (by kernel_rfl)) (fun v => by kernel_rfl) (h261 C183 C217 C261_l0)
abbrev T260 := LqA × LqB × LqC × List (Int) × Unit → Option (Bool × LqA × LqB × LqC × List (Int) × Unit)
def E260 (f : T260) : FEnt := ⟨f260_ins, f260_outs, f⟩
def K260 (f261 : T261) : Calls' := fun f => Ae.lookA f [(261, E261 f261)]
theorem kok260 : KOk Tryz.prog (K260 C261) := (kok_cons ok261 (kok_nil _))
def F260 (f261 : T261) : T260 := fun (x0, x1, x2, x3, _) =>
 (f261 (x0, x1, x2, x3, ())).bind fun v => some (v.1, x0, x1, x2, x3, ())
theorem h260 (f261 : T261) : AqF (K260 f261) 2 Tryz.f260 .nil f260_ins f260_outs (F260 f261) := fun v => by kernel_rfl
def C260 : T260 := F260 C261
theorem ok260 : FnOk Tryz.prog 260 (E260 C260) :=
 fnx (n := .nil) kok260 Tryz.func260 (by kernel_rfl) (by kernel_rfl) (ann_nil _) (fun v => by kernel_rfl) (h260 C261)
abbrev T185_l0 := List (Int) × Int × Int × LqA × LqB × LqC × List (Int) × List (Int) × Unit → Option (List (Int) × List (Int) × Unit)
def E185_l0 (f : T185_l0) : LEnt := ⟨f185_l0_ins, f185_l0_outs, f⟩
abbrev T185 := LqA × LqB × LqC × List (Int) × Unit → Option (Int × Int × Int × Int × Int × Int × Int × Int × Unit)
def E185 (f : T185) : FEnt := ⟨f185_ins, f185_outs, f⟩
def K185 (f218 : T218) : Calls' := fun f => Ae.lookA f [(218, E218 f218)]
theorem kok185 : KOk Tryz.prog (K185 C218) := (kok_cons ok218 (kok_nil _))
def F185_l0 (f218 : T218) : LpF (List (Int) × Int × Int × LqA × LqB × LqC × List (Int) × List (Int) × Unit) (List (Int) × List (Int) × Unit) := fun (x0, x1, x2, x3, x4, x5, x6, x7, _) =>
 bif decide (x2 < x1) then
 bif decide (0 ≤ x2) && decide (x2 < (↑x0.length : Int)) then
 (f218 (x3, x4, x5, x0.getD x2.toNat 0, ())).bind fun v =>
 bif decide (x7.length = 8) then
 bif decide (0 ≤ v.1) && decide (v.1 < (↑8 : Int)) then
 bif decide (Int.toNat v.1 < x7.length) then
 bif decide (x7.length = 8) then
 bif decide (0 ≤ v.1) && decide (v.1 < (↑8 : Int)) then
 bif decide (Int.toNat v.1 < x7.length) then
 some
 (Sum.inl
 (x0, x1, IntKind.i64.wrap (x2 + 1), x3, x4, x5, x6,
 x7.set (Int.toNat v.1)
 (IntKind.i64.wrap (x7.getD (Int.toNat v.1) 0 + 1)),
 ()))
 else none
 else none
 else none
 else none
 else none
 else none
 else none
 else some (Sum.inr (x6, x7, ()))
theorem h185_l0 (f218 : T218) : AqL (K185 f218) 0 (subc (code Tryz.f185) [1, 1, 0, 1, 0, 0]) .nil f185_l0_ins f185_l0_outs (F185_l0 f218) := fun v => by kernel_rfl
def C185_l0 : T185_l0 := loopN (F185_l0 C218) big
theorem k185_l0 : FragOk Tryz.prog 0 (fun Q a w => (Code.loop (subc (code Tryz.f185) [1, 1, 0, 1, 0, 0])).wp Tryz.prog Q a w) (E185_l0 C185_l0) :=
 frag_big (ins := f185_l0_ins) (os := f185_l0_outs) (C := C185_l0) (frag_loop (ins := f185_l0_ins) (os := f185_l0_outs) (n := .nil) (F := F185_l0 C218) hm hΓ kok185 (fun _ => big) (ann_nil _) (h185_l0 C218)) rfl
def N185 (f185_l0 : T185_l0) : Ann := (.seq .nil (.seq .nil (.seq (.seq .nil (.blk (.loop (E185_l0 f185_l0)))) .nil)))
def F185 (f218 : T218) (f185_l0 : T185_l0) : T185 := fun (x0, x1, x2, x3, _) =>
 (f185_l0 (x3, (↑x3.length : Int), 0, x0, x1, x2, [0, 0, 0, 0, 0, 0, 0, 0], [0, 0, 0, 0, 0, 0, 0, 0], ())).bind
 fun v =>
 bif decide (List.length v.2.1 = 8) then
 bif decide (List.length v.1 = 8) then
 some
 (v.2.1.getD 0 0, v.2.1.getD 1 0, v.2.1.getD 2 0,
 v.2.1.getD 3 0, v.2.1.getD 4 0, v.2.1.getD 5 0,
 v.2.1.getD 6 0, v.2.1.getD 7 0, ())
 else none
 else none
theorem h185 (f218 : T218) (f185_l0 : T185_l0) : AqF (K185 f218) 0 Tryz.f185 (N185 f185_l0) f185_ins f185_outs (F185 f218 f185_l0) := fun v => by kernel_rfl
def C185 : T185 := F185 C218 C185_l0
theorem ok185 : FnOk Tryz.prog 185 (E185 C185) :=
 fnx (n := (N185 C185_l0)) kok185 Tryz.func185 (by kernel_rfl) (by kernel_rfl) (ann_obs (And.intro k185_l0 trivial) (by kernel_rfl)) (fun v => by kernel_rfl) (h185 C218 C185_l0)
abbrev T153 := LqA × LqB × LqC × List (Int) × Unit → Option (Bool × Unit)
def E153 (f : T153) : FEnt := ⟨f153_ins, f153_outs, f⟩
def K153 (f185 : T185) : Calls' := fun f => Ae.lookA f [(185, E185 f185)]
theorem kok153 : KOk Tryz.prog (K153 C185) := (kok_cons ok185 (kok_nil _))
def F153 (f185 : T185) : T153 := fun (x0, x1, x2, x3, _) =>
 (f185 (x0, x1, x2, x3, ())).bind fun v =>
 some
 (decide
 (IntKind.i64.wrap
 (IntKind.i64.wrap
 ([v.1, v.2.1, v.2.2.1, v.2.2.2.1, v.2.2.2.2.1,
 v.2.2.2.2.2.1, v.2.2.2.2.2.2.1,
 v.2.2.2.2.2.2.2.1].getD
 2 0 +
 [v.1, v.2.1, v.2.2.1, v.2.2.2.1, v.2.2.2.2.1,
 v.2.2.2.2.2.1, v.2.2.2.2.2.2.1,
 v.2.2.2.2.2.2.2.1].getD
 3 0) +
 [v.1, v.2.1, v.2.2.1, v.2.2.2.1, v.2.2.2.2.1,
 v.2.2.2.2.2.1, v.2.2.2.2.2.2.1,
 v.2.2.2.2.2.2.2.1].getD
 5 0) >
 0),
 ())
theorem h153 (f185 : T185) : AqF (K153 f185) 0 Tryz.f153 .nil f153_ins f153_outs (F153 f185) := fun v => by kernel_rfl
def C153 : T153 := F153 C185
theorem ok153 : FnOk Tryz.prog 153 (E153 C153) :=
 fnx (n := .nil) kok153 Tryz.func153 (by kernel_rfl) (by kernel_rfl) (ann_nil _) (fun v => by kernel_rfl) (h153 C185)
abbrev T187 := LqA × LqB × LqC × List (Int) × Unit → Option (Int × Unit)
def E187 (f : T187) : FEnt := ⟨f187_ins, f187_outs, f⟩
def K187 (f218 : T218) : Calls' := fun f => Ae.lookA f [(218, E218 f218)]
theorem kok187 : KOk Tryz.prog (K187 C218) := (kok_cons ok218 (kok_nil _))
def F187 (f218 : T218) : T187 := fun (x0, x1, x2, x3, _) =>
 bif (↑x3.length : Int) == 0 then some (0, ())
 else
 bif decide (0 < (↑x3.length : Int)) then
 (f218 (x0, x1, x2, x3.getD 0 0, ())).bind fun v =>
 bif v.1 == 2 then some (2, ())
 else
 bif v.1 == 3 then some (2, ())
 else bif v.1 == 1 then some (v.1, ()) else some (0, ())
 else none
theorem h187 (f218 : T218) : AqF (K187 f218) 0 Tryz.f187 .nil f187_ins f187_outs (F187 f218) := fun v => by kernel_rfl
def C187 : T187 := F187 C218
theorem ok187 : FnOk Tryz.prog 187 (E187 C187) :=
 fnx (n := .nil) kok187 Tryz.func187 (by kernel_rfl) (by kernel_rfl) (ann_nil _) (fun v => by kernel_rfl) (h187 C218)
abbrev T154_c0 := Bool × Bool × List (Int) × Unit → Option (Bool × Unit)
def E154_c0 (f : T154_c0) : LEnt := ⟨f154_c0_ins, f154_c0_outs, f⟩
abbrev T154_c1 := Int × Bool × List (Int) × Unit → Option (Bool × Unit)
def E154_c1 (f : T154_c1) : LEnt := ⟨f154_c1_ins, f154_c1_outs, f⟩
abbrev T154 := LqA × LqB × LqC × List (Int) × Unit → Option (Bool × Unit)
def E154 (f : T154) : FEnt := ⟨f154_ins, f154_outs, f⟩
def K154 (f153 : T153) (f185 : T185) (f186 : T186) (f187 : T187) : Calls' := fun f => Ae.lookA f [(153, E153 f153), (185, E185 f185), (186, E186 f186), (187, E187 f187)]
theorem kok154 : KOk Tryz.prog (K154 C153 C185 C186 C187) := (kok_cons ok153 (kok_cons ok185 (kok_cons ok186 (kok_cons ok187 (kok_nil _)))))
def F154_c0 (f153 : T153) (f185 : T185) (f186 : T186) (f187 : T187) : T154_c0 := fun (x0, x1, x2, _) =>
 bif decide (x2.length = 8) then
 bif decide (Int.toNat 1 < x2.length) then
 bif x2.getD 1 0 == 0 then
 bif x1 then some (bif x0 then false else true, ()) else some (false, ())
 else some (false, ())
 else none
 else none
theorem h154_c0 (f153 : T153) (f185 : T185) (f186 : T186) (f187 : T187) : AqC (K154 f153 f185 f186 f187) 0 (subc (code Tryz.f154) [1, 1, 0, 1, 0, 1, 0, 1, 1]) .nil f154_c0_ins f154_c0_outs (F154_c0 f153 f185 f186 f187) := fun v => by kernel_rfl
def C154_c0 : T154_c0 := F154_c0 C153 C185 C186 C187
theorem k154_c0 : FragOk Tryz.prog 0 (fun Q a w => (subc (code Tryz.f154) [1, 1, 0, 1, 0, 1, 0, 1, 1]).wp Tryz.prog Q a w) (E154_c0 C154_c0) :=
 frag_code (ins := f154_c0_ins) (os := f154_c0_outs) (n := .nil) (F := C154_c0) hm hΓ kok154 (ann_nil _) (h154_c0 C153 C185 C186 C187)
def N154_c1 (f154_c0 : T154_c0) : Ann := (.cut .nil (E154_c0 f154_c0))
def F154_c1 (f153 : T153) (f185 : T185) (f186 : T186) (f187 : T187) (f154_c0 : T154_c0) : T154_c1 := fun (x0, x1, x2, _) =>
 bif x0 == 2 then (f154_c0 (x1, true, x2, ())).bind fun v => some (v.1, ())
 else
 bif x0 == 3 then (f154_c0 (x1, true, x2, ())).bind fun v => some (v.1, ())
 else
 bif x0 == 4 then (f154_c0 (x1, true, x2, ())).bind fun v => some (v.1, ())
 else (f154_c0 (x1, x0 == 5, x2, ())).bind fun v => some (v.1, ())
theorem h154_c1 (f153 : T153) (f185 : T185) (f186 : T186) (f187 : T187) (f154_c0 : T154_c0) : AqC (K154 f153 f185 f186 f187) 0 (subc (code Tryz.f154) [1, 1, 0, 1, 0, 1, 0, 1]) (N154_c1 f154_c0) f154_c1_ins f154_c1_outs (F154_c1 f153 f185 f186 f187 f154_c0) := fun v => by kernel_rfl
def C154_c1 : T154_c1 := F154_c1 C153 C185 C186 C187 C154_c0
theorem k154_c1 : FragOk Tryz.prog 0 (fun Q a w => (subc (code Tryz.f154) [1, 1, 0, 1, 0, 1, 0, 1]).wp Tryz.prog Q a w) (E154_c1 C154_c1) :=
 frag_code (ins := f154_c1_ins) (os := f154_c1_outs) (n := (N154_c1 C154_c0)) (F := C154_c1) hm hΓ kok154 (ann_obs (And.intro k154_c0 trivial) (by kernel_rfl)) (h154_c1 C153 C185 C186 C187 C154_c0)
def N154 (f154_c1 : T154_c1) : Ann := (.seq .nil (.seq .nil (.seq (.seq .nil (.blk (.seq .nil (.cond (.cut .nil (E154_c1 f154_c1)) .nil)))) .nil)))
def F154 (f153 : T153) (f185 : T185) (f186 : T186) (f187 : T187) (f154_c1 : T154_c1) : T154 := fun (x0, x1, x2, x3, _) =>
 (f185 (x0, x1, x2, x3, ())).bind fun v =>
 (f186 (x0, x1, x2, x3, ())).bind fun v1 =>
 (f187 (x0, x1, x2, x3, ())).bind fun v2 =>
 bif v2.1 == 2 then
 bif
 decide
 ([v.1, v.2.1, v.2.2.1, v.2.2.2.1, v.2.2.2.2.1,
 v.2.2.2.2.2.1, v.2.2.2.2.2.2.1,
 v.2.2.2.2.2.2.2.1].getD
 4 0 >
 0) then
 (f154_c1
 (v1.1,
 decide
 ([v.1, v.2.1, v.2.2.1, v.2.2.2.1, v.2.2.2.2.1,
 v.2.2.2.2.2.1, v.2.2.2.2.2.2.1,
 v.2.2.2.2.2.2.2.1].getD
 5 0 >
 0),
 [v.1, v.2.1, v.2.2.1, v.2.2.2.1, v.2.2.2.2.1,
 v.2.2.2.2.2.1, v.2.2.2.2.2.2.1, v.2.2.2.2.2.2.2.1],
 ())).bind
 fun v => some (v.1, ())
 else
 (f154_c1
 (v1.1, false,
 [v.1, v.2.1, v.2.2.1, v.2.2.2.1, v.2.2.2.2.1,
 v.2.2.2.2.2.1, v.2.2.2.2.2.2.1, v.2.2.2.2.2.2.2.1],
 ())).bind
 fun v => some (v.1, ())
 else
 bif v2.1 == 1 then
 (f153 (x0, x1, x2, x3, ())).bind fun v =>
 bif !v.1 then bif v1.1 == 1 then some (true, ()) else some (v1.1 == 4, ())
 else some (false, ())
 else some ((↑x3.length : Int) == 0, ())
theorem h154 (f153 : T153) (f185 : T185) (f186 : T186) (f187 : T187) (f154_c1 : T154_c1) : AqF (K154 f153 f185 f186 f187) 0 Tryz.f154 (N154 f154_c1) f154_ins f154_outs (F154 f153 f185 f186 f187 f154_c1) := fun v => by kernel_rfl
def C154 : T154 := F154 C153 C185 C186 C187 C154_c1
theorem ok154 : FnOk Tryz.prog 154 (E154 C154) :=
 fnx (n := (N154 C154_c1)) kok154 Tryz.func154 (by kernel_rfl) (by kernel_rfl) (ann_obs (And.intro k154_c1 trivial) (by kernel_rfl)) (fun v => by kernel_rfl) (h154 C153 C185 C186 C187 C154_c1)
abbrev T262 := LqA × LqB × LqC × List (Int) × Unit → Option (Bool × LqA × LqB × LqC × List (Int) × Unit)
def E262 (f : T262) : FEnt := ⟨f262_ins, f262_outs, f⟩
def K262 (f153 : T153) (f154 : T154) : Calls' := fun f => Ae.lookA f [(153, E153 f153), (154, E154 f154)]
theorem kok262 : KOk Tryz.prog (K262 C153 C154) := (kok_cons ok153 (kok_cons ok154 (kok_nil _)))
def F262 (f153 : T153) (f154 : T154) : T262 := fun (x0, x1, x2, x3, _) =>
 (f153 (x0, x1, x2, x3, ())).bind fun v =>
 bif v.1 then
 (f154 (x0, x1, x2, x3, ())).bind fun v => some (bif v.1 then false else true, x0, x1, x2, x3, ())
 else some (false, x0, x1, x2, x3, ())
theorem h262 (f153 : T153) (f154 : T154) : AqF (K262 f153 f154) 2 Tryz.f262 .nil f262_ins f262_outs (F262 f153 f154) := fun v => by kernel_rfl
def C262 : T262 := F262 C153 C154
theorem ok262 : FnOk Tryz.prog 262 (E262 C262) :=
 fnx (n := .nil) kok262 Tryz.func262 (by kernel_rfl) (by kernel_rfl) (ann_nil _) (fun v => by kernel_rfl) (h262 C153 C154)
abbrev T263 := List (Int) × LqS × Bool × Unit → Option (Bool × List (Int) × LqS × Bool × Unit)
def E263 (f : T263) : FEnt := ⟨f263_ins, f263_outs, f⟩
def K263 (f223 : T223) : Calls' := fun f => Ae.lookA f [(223, E223 f223)]
theorem kok263 : KOk Tryz.prog (K263 C223) := (kok_cons ok223 (kok_nil _))
def F263 (f223 : T223) : T263 := fun (x0, x1, x2, _) =>
 (f223 (x0, ())).bind fun v => some (bif v.2.1 then false else true, x0, v.1, v.2.1, ())
theorem h263 (f223 : T223) : AqF (K263 f223) 3 Tryz.f263 .nil f263_ins f263_outs (F263 f223) := fun v => by kernel_rfl
def C263 : T263 := F263 C223
theorem ok263 : FnOk Tryz.prog 263 (E263 C263) :=
 fnx (n := .nil) kok263 Tryz.func263 (by kernel_rfl) (by kernel_rfl) (ann_nil _) (fun v => by kernel_rfl) (h263 C223)
abbrev T264 := LqS × Unit → Option (Bool × LqS × Unit)
def E264 (f : T264) : FEnt := ⟨f264_ins, f264_outs, f⟩
def K264 : Calls' := fun f => Ae.lookA f []
theorem kok264 : KOk Tryz.prog (K264) := (kok_nil _)
def F264 : T264 := fun (x0, _) =>
 some (decide (IntKind.i64.wrap (4 + (↑x0.length : Int)) > 63), x0, ())
theorem h264 : AqF (K264) 1 Tryz.f264 .nil f264_ins f264_outs (F264) := fun v => by kernel_rfl
def C264 : T264 := F264
theorem ok264 : FnOk Tryz.prog 264 (E264 C264) :=
 fnx (n := .nil) kok264 Tryz.func264 (by kernel_rfl) (by kernel_rfl) (ann_nil _) (fun v => by kernel_rfl) (h264)
abbrev T253 := Int × Int × Int × Int × Int × Int × Int × Int × Int × LqS × LqA × LqB × LqC × List (Int) × LqS × Bool × Unit → Option (Int × Int × Int × Int × Int × Int × Int × Int × Int × Int × LqS × LqA × LqB × LqC × List (Int) × LqS × Bool × Unit)
def E253 (f : T253) : FEnt := ⟨f253_ins, f253_outs, f⟩
def K253 (f254 : T254) (f255 : T255) (f257 : T257) (f259 : T259) (f260 : T260) (f262 : T262) (f263 : T263) (f264 : T264) : Calls' := fun f => Ae.lookA f [(254, E254 f254), (255, E255 f255), (257, E257 f257), (259, E259 f259), (260, E260 f260), (262, E262 f262), (263, E263 f263), (264, E264 f264)]
theorem kok253 : KOk Tryz.prog (K253 C254 C255 C257 C259 C260 C262 C263 C264) := (kok_cons ok254 (kok_cons ok255 (kok_cons ok257 (kok_cons ok259 (kok_cons ok260 (kok_cons ok262 (kok_cons ok263 (kok_cons ok264 (kok_nil _)))))))))
def N253 : Ann := (.seq .nil (.seq (.seq .nil (.blk (.unroll 10 .nil))) .nil))
def F253 (f254 : T254) (f255 : T255) (f257 : T257) (f259 : T259) (f260 : T260) (f262 : T262) (f263 : T263) (f264 : T264) : T253 := fun (x0, x1, x2, x3, x4, x5, x6, x7, x8, x9, x10, x11, x12, x13, x14, x15, _) =>
 (f254 (x8, ())).bind fun v =>
 bif v.1 then some (x0, x0, x1, x2, x3, x4, x5, x6, x7, v.2.1, x9, x10, x11, x12, x13, x14, x15, ())
 else
 (f255 (x9, x10, x11, x12, ())).bind fun v1 =>
 bif v1.1 then
 some
 (x1, x0, x1, x2, x3, x4, x5, x6, x7, v.2.1, v1.2.1, v1.2.2.1, v1.2.2.2.1,
 v1.2.2.2.2.1, x13, x14, x15, ())
 else
 (f257 (v1.2.1, ())).bind fun v2 =>
 bif v2.1 then
 some
 (x2, x0, x1, x2, x3, x4, x5, x6, x7, v.2.1, v2.2.1, v1.2.2.1, v1.2.2.2.1,
 v1.2.2.2.2.1, x13, x14, x15, ())
 else
 (f259 (v1.2.2.1, v1.2.2.2.1, v1.2.2.2.2.1, x13, ())).bind fun v3 =>
 bif v3.1 then
 some
 (x3, x0, x1, x2, x3, x4, x5, x6, x7, v.2.1, v2.2.1, v3.2.1, v3.2.2.1,
 v3.2.2.2.1, v3.2.2.2.2.1, x14, x15, ())
 else
 (f260 (v3.2.1, v3.2.2.1, v3.2.2.2.1, v3.2.2.2.2.1, ())).bind
 fun v4 =>
 bif v4.1 then
 some
 (x4, x0, x1, x2, x3, x4, x5, x6, x7, v.2.1, v2.2.1, v4.2.1, v4.2.2.1,
 v4.2.2.2.1, v4.2.2.2.2.1, x14, x15, ())
 else
 (f262 (v4.2.1, v4.2.2.1, v4.2.2.2.1, v4.2.2.2.2.1, ())).bind
 fun v5 =>
 bif v5.1 then
 some
 (x5, x0, x1, x2, x3, x4, x5, x6, x7, v.2.1, v2.2.1, v5.2.1,
 v5.2.2.1, v5.2.2.2.1, v5.2.2.2.2.1, x14, x15, ())
 else
 (f263 (v5.2.2.2.2.1, x14, x15, ())).bind fun v6 =>
 bif v6.1 then
 some
 (x6, x0, x1, x2, x3, x4, x5, x6, x7, v.2.1, v2.2.1, v5.2.1,
 v5.2.2.1, v5.2.2.2.1, v6.2.1, v6.2.2.1,
 v6.2.2.2.1, ())
 else
 (f264 (v6.2.2.1, ())).bind fun v7 =>
 bif v7.1 then
 some
 (x7, x0, x1, x2, x3, x4, x5, x6, x7, v.2.1, v2.2.1, v5.2.1,
 v5.2.2.1, v5.2.2.2.1, v6.2.1, v7.2.1,
 v6.2.2.2.1, ())
 else
 some
 (0, x0, x1, x2, x3, x4, x5, x6, x7, v.2.1, v2.2.1, v5.2.1,
 v5.2.2.1, v5.2.2.2.1, v6.2.1, v7.2.1,
 v6.2.2.2.1, ())
theorem h253 (f254 : T254) (f255 : T255) (f257 : T257) (f259 : T259) (f260 : T260) (f262 : T262) (f263 : T263) (f264 : T264) : AqF (K253 f254 f255 f257 f259 f260 f262 f263 f264) 7 Tryz.f253 N253 f253_ins f253_outs (F253 f254 f255 f257 f259 f260 f262 f263 f264) := fun v => by kernel_rfl
def C253 : T253 := F253 C254 C255 C257 C259 C260 C262 C263 C264
theorem ok253 : FnOk Tryz.prog 253 (E253 C253) :=
 fnx (n := N253) kok253 Tryz.func253 (by kernel_rfl) (by kernel_rfl) (ann_obs trivial (by kernel_rfl)) (fun v => by kernel_rfl) (h253 C254 C255 C257 C259 C260 C262 C263 C264)
abbrev T224 := LqA × LqB × LqC × LqS × Unit → Option (Int × Unit)
def E224 (f : T224) : FEnt := ⟨f224_ins, f224_outs, f⟩
def K224 (f253 : T253) (f83 : T83) : Calls' := fun f => Ae.lookA f [(253, E253 f253), (83, E83 f83)]
theorem kok224 : KOk Tryz.prog (K224 C253 C83) := (kok_cons ok253 (kok_cons ok83 (kok_nil _)))
def F224 (f253 : T253) (f83 : T83) : T224 := fun (x0, x1, x2, x3, _) =>
 (f83 (x3, ())).bind fun v =>
 (f253 (7, 4, 11, 10, 8, 9, 12, 5, v.2.1, x3, x0, x1, x2, v.1, [], false, ())).bind fun v =>
 some (v.1, ())
theorem h224 (f253 : T253) (f83 : T83) : AqF (K224 f253 f83) 0 Tryz.f224 .nil f224_ins f224_outs (F224 f253 f83) := fun v => by kernel_rfl
def C224 : T224 := F224 C253 C83
theorem ok224 : FnOk Tryz.prog 224 (E224 C224) :=
 fnx (n := .nil) kok224 Tryz.func224 (by kernel_rfl) (by kernel_rfl) (ann_nil _) (fun v => by kernel_rfl) (h224 C253 C83)
abbrev T265 := LqS × Unit → Option (Bool × LqS × Unit)
def E265 (f : T265) : FEnt := ⟨f265_ins, f265_outs, f⟩
def K265 : Calls' := fun f => Ae.lookA f []
theorem kok265 : KOk Tryz.prog (K265) := (kok_nil _)
def F265 : T265 := fun (x0, _) =>
 some (x0 == [], x0, ())
theorem h265 : AqF (K265) 1 Tryz.f265 .nil f265_ins f265_outs (F265) := fun v => by kernel_rfl
def C265 : T265 := F265
theorem ok265 : FnOk Tryz.prog 265 (E265 C265) :=
 fnx (n := .nil) kok265 Tryz.func265 (by kernel_rfl) (by kernel_rfl) (ann_nil _) (fun v => by kernel_rfl) (h265)
abbrev T266 := LqS × Unit → Option (Bool × LqS × Unit)
def E266 (f : T266) : FEnt := ⟨f266_ins, f266_outs, f⟩
def K266 : Calls' := fun f => Ae.lookA f []
theorem kok266 : KOk Tryz.prog (K266) := (kok_nil _)
def F266 : T266 := fun (x0, _) =>
 some (decide ((↑x0.length : Int) > 63), x0, ())
theorem h266 : AqF (K266) 1 Tryz.f266 .nil f266_ins f266_outs (F266) := fun v => by kernel_rfl
def C266 : T266 := F266
theorem ok266 : FnOk Tryz.prog 266 (E266 C266) :=
 fnx (n := .nil) kok266 Tryz.func266 (by kernel_rfl) (by kernel_rfl) (ann_nil _) (fun v => by kernel_rfl) (h266)
abbrev T268_c0 := Int × Bool × Unit → Option (Bool × Unit)
def E268_c0 (f : T268_c0) : LEnt := ⟨f268_c0_ins, f268_c0_outs, f⟩
abbrev T268_c1 := Int × Bool × Unit → Option (Bool × Unit)
def E268_c1 (f : T268_c1) : LEnt := ⟨f268_c1_ins, f268_c1_outs, f⟩
abbrev T268 := Int × Unit → Option (Bool × Unit)
def E268 (f : T268) : FEnt := ⟨f268_ins, f268_outs, f⟩
def K268 : Calls' := fun f => Ae.lookA f []
theorem kok268 : KOk Tryz.prog (K268) := (kok_nil _)
def F268_c0 : T268_c0 := fun (x0, x1, _) =>
 bif x1 then some (true, ())
 else
 bif decide (x0 ≥ 48) then bif decide (x0 ≤ 57) then some (true, ()) else some (x0 == 45, ())
 else some (x0 == 45, ())
theorem h268_c0 : AqC (K268) 0 (subc (code Tryz.f268) [1, 0, 0, 0, 1, 1, 1]) .nil f268_c0_ins f268_c0_outs (F268_c0) := fun v => by kernel_rfl
def C268_c0 : T268_c0 := F268_c0
theorem k268_c0 : FragOk Tryz.prog 0 (fun Q a w => (subc (code Tryz.f268) [1, 0, 0, 0, 1, 1, 1]).wp Tryz.prog Q a w) (E268_c0 C268_c0) :=
 frag_code (ins := f268_c0_ins) (os := f268_c0_outs) (n := .nil) (F := C268_c0) hm hΓ kok268 (ann_nil _) (h268_c0)
def N268_c1 (f268_c0 : T268_c0) : Ann := (.cond .nil (.cut .nil (E268_c0 f268_c0)))
def F268_c1 (f268_c0 : T268_c0) : T268_c1 := fun (x0, x1, _) =>
 bif x1 then some (true, ())
 else
 bif decide (x0 ≥ 65) then (f268_c0 (x0, decide (x0 ≤ 90), ())).bind fun v => some (v.1, ())
 else (f268_c0 (x0, false, ())).bind fun v => some (v.1, ())
theorem h268_c1 (f268_c0 : T268_c0) : AqC (K268) 0 (subc (code Tryz.f268) [1, 0, 0, 0, 1]) (N268_c1 f268_c0) f268_c1_ins f268_c1_outs (F268_c1 f268_c0) := fun v => by kernel_rfl
def C268_c1 : T268_c1 := F268_c1 C268_c0
theorem k268_c1 : FragOk Tryz.prog 0 (fun Q a w => (subc (code Tryz.f268) [1, 0, 0, 0, 1]).wp Tryz.prog Q a w) (E268_c1 C268_c1) :=
 frag_code (ins := f268_c1_ins) (os := f268_c1_outs) (n := (N268_c1 C268_c0)) (F := C268_c1) hm hΓ kok268 (ann_obs (And.intro k268_c0 trivial) (by kernel_rfl)) (h268_c1 C268_c0)
def N268 (f268_c1 : T268_c1) : Ann := (.seq .nil (.seq (.blk (.seq (.cut .nil (E268_c1 f268_c1)) .nil)) .nil))
def F268 (f268_c1 : T268_c1) : T268 := fun (x0, _) =>
 bif decide (x0 ≥ 97) then
 (f268_c1 (x0, decide (x0 ≤ 122), ())).bind fun v =>
 bif v.1 then some (false, ()) else some (true, ())
 else (f268_c1 (x0, false, ())).bind fun v => bif v.1 then some (false, ()) else some (true, ())
theorem h268 (f268_c1 : T268_c1) : AqF (K268) 0 Tryz.f268 (N268 f268_c1) f268_ins f268_outs (F268 f268_c1) := fun v => by kernel_rfl
def C268 : T268 := F268 C268_c1
theorem ok268 : FnOk Tryz.prog 268 (E268 C268) :=
 fnx (n := (N268 C268_c1)) kok268 Tryz.func268 (by kernel_rfl) (by kernel_rfl) (ann_obs (And.intro k268_c1 trivial) (by kernel_rfl)) (fun v => by kernel_rfl) (h268 C268_c1)
end Go.Proofs.YtiacnhhmkdkpmaaGreatDoorC.W
set_option maxRecDepth 100000
set_option linter.unusedVariables false
namespace Go.Proofs.YtiacnhhmkdkpmaaGreatDoorC.W
open Go Go.Ae
abbrev T156_l0 := Bool × (LqS × Int) × Unit → Option ((Int × Unit) ⊕ Unit)
def E156_l0 (f : T156_l0) : LEnt := ⟨f156_l0_ins, f156_l0_outs, f⟩
abbrev T156 := LqS × Bool × Unit → Option (Int × Unit)
def E156 (f : T156) : FEnt := ⟨f156_ins, f156_outs, f⟩
def K156 (f268 : T268) : Calls' := fun f => Ae.lookA f [(268, E268 f268)]
theorem kok156 : KOk Tryz.prog (K156 C268) := (kok_cons ok268 (kok_nil _))
def F156_l0 (f268 : T268) : LpF (Bool × (LqS × Int) × Unit) ((Int × Unit) ⊕ Unit) := fun (x0, x1, _) =>
 bif decide (Int.toNat x1.2 < List.length x1.1) then
 (f268 ((↑(decR x1.1 (Int.toNat x1.2)).1 : Int), ())).bind fun v =>
 bif v.1 == x0 then some (Sum.inr (Sum.inl ((↑(Int.toNat x1.2) : Int), ())))
 else some (Sum.inl (x0, (x1.1, (↑(Int.toNat x1.2 + (decR x1.1 (Int.toNat x1.2)).2) : Int)), ()))
 else some (Sum.inr (Sum.inr ()))
theorem h156_l0 (f268 : T268) : AqL (K156 f268) 0 (subc (code Tryz.f156) [1, 0, 1, 0, 0]) .nil f156_l0_ins f156_l0_outs (F156_l0 f268) := fun v => by kernel_rfl
def C156_l0 : T156_l0 := loopN (F156_l0 C268) big
theorem k156_l0 : FragOk Tryz.prog 0 (fun Q a w => (Code.loop (subc (code Tryz.f156) [1, 0, 1, 0, 0])).wp Tryz.prog Q a w) (E156_l0 C156_l0) :=
 frag_big (ins := f156_l0_ins) (os := f156_l0_outs) (C := C156_l0) (frag_loop (ins := f156_l0_ins) (os := f156_l0_outs) (n := .nil) (F := F156_l0 C268) hm hΓ kok156 (fun _ => big) (ann_nil _) (h156_l0 C268)) rfl
def N156 (f156_l0 : T156_l0) : Ann := (.seq .nil (.seq (.seq .nil (.blk (.loop (E156_l0 f156_l0)))) .nil))
def F156 (f268 : T268) (f156_l0 : T156_l0) : T156 := fun (x0, x1, _) =>
 (f156_l0 (x1, (x0, (↑0 : Int)), ())).bind fun v =>
 Sum.elim (fun v => some (v.1, ())) (fun v => some (-1, ())) v
theorem h156 (f268 : T268) (f156_l0 : T156_l0) : AqF (K156 f268) 0 Tryz.f156 (N156 f156_l0) f156_ins f156_outs (F156 f268 f156_l0) := fun v => by kernel_rfl
def C156 : T156 := F156 C268 C156_l0
theorem ok156 : FnOk Tryz.prog 156 (E156 C156) :=
 fnx (n := (N156 C156_l0)) kok156 Tryz.func156 (by kernel_rfl) (by kernel_rfl) (ann_obs (And.intro k156_l0 trivial) (by kernel_rfl)) (fun v => by kernel_rfl) (h156 C268 C156_l0)
abbrev T123 := LqS × Unit → Option (Int × Unit)
def E123 (f : T123) : FEnt := ⟨f123_ins, f123_outs, f⟩
def K123 (f156 : T156) : Calls' := fun f => Ae.lookA f [(156, E156 f156)]
theorem kok123 : KOk Tryz.prog (K123 C156) := (kok_cons ok156 (kok_nil _))
def F123 (f156 : T156) : T123 := fun (x0, _) =>
 (f156 (x0, true, ())).bind fun v => some (v.1, ())
theorem h123 (f156 : T156) : AqF (K123 f156) 0 Tryz.f123 .nil f123_ins f123_outs (F123 f156) := fun v => by kernel_rfl
def C123 : T123 := F123 C156
theorem ok123 : FnOk Tryz.prog 123 (E123 C123) :=
 fnx (n := .nil) kok123 Tryz.func123 (by kernel_rfl) (by kernel_rfl) (ann_nil _) (fun v => by kernel_rfl) (h123 C156)
abbrev T84 := LqS × Unit → Option (Bool × Unit)
def E84 (f : T84) : FEnt := ⟨f84_ins, f84_outs, f⟩
def K84 (f123 : T123) : Calls' := fun f => Ae.lookA f [(123, E123 f123)]
theorem kok84 : KOk Tryz.prog (K84 C123) := (kok_cons ok123 (kok_nil _))
def F84 (f123 : T123) : T84 := fun (x0, _) =>
 (f123 (x0, ())).bind fun v => some (decide (v.1 ≥ 0), ())
theorem h84 (f123 : T123) : AqF (K84 f123) 0 Tryz.f84 .nil f84_ins f84_outs (F84 f123) := fun v => by kernel_rfl
def C84 : T84 := F84 C123
theorem ok84 : FnOk Tryz.prog 84 (E84 C84) :=
 fnx (n := .nil) kok84 Tryz.func84 (by kernel_rfl) (by kernel_rfl) (ann_nil _) (fun v => by kernel_rfl) (h84 C123)
abbrev T267 := LqS × Unit → Option (Bool × LqS × Unit)
def E267 (f : T267) : FEnt := ⟨f267_ins, f267_outs, f⟩
def K267 (f84 : T84) : Calls' := fun f => Ae.lookA f [(84, E84 f84)]
theorem kok267 : KOk Tryz.prog (K267 C84) := (kok_cons ok84 (kok_nil _))
def F267 (f84 : T84) : T267 := fun (x0, _) =>
 (f84 (x0, ())).bind fun v => some (v.1, x0, ())
theorem h267 (f84 : T84) : AqF (K267 f84) 1 Tryz.f267 .nil f267_ins f267_outs (F267 f84) := fun v => by kernel_rfl
def C267 : T267 := F267 C84
theorem ok267 : FnOk Tryz.prog 267 (E267 C267) :=
 fnx (n := .nil) kok267 Tryz.func267 (by kernel_rfl) (by kernel_rfl) (ann_nil _) (fun v => by kernel_rfl) (h267 C84)
abbrev T269 := LqS × Unit → Option (Bool × LqS × Unit)
def E269 (f : T269) : FEnt := ⟨f269_ins, f269_outs, f⟩
def K269 (f258 : T258) : Calls' := fun f => Ae.lookA f [(258, E258 f258)]
theorem kok269 : KOk Tryz.prog (K269 C258) := (kok_cons ok258 (kok_nil _))
def F269 (f258 : T258) : T269 := fun (x0, _) =>
 (f258 (x0, ())).bind fun v => some (v.1, x0, ())
theorem h269 (f258 : T258) : AqF (K269 f258) 1 Tryz.f269 .nil f269_ins f269_outs (F269 f258) := fun v => by kernel_rfl
def C269 : T269 := F269 C258
theorem ok269 : FnOk Tryz.prog 269 (E269 C269) :=
 fnx (n := .nil) kok269 Tryz.func269 (by kernel_rfl) (by kernel_rfl) (ann_nil _) (fun v => by kernel_rfl) (h269 C258)
abbrev T253v1 := Int × Int × Int × Int × LqS × Unit → Option (Int × Int × Int × Int × Int × LqS × Unit)
def E253v1 (f : T253v1) : FEnt := ⟨f253v1_ins, f253v1_outs, f⟩
def K253v1 (f265 : T265) (f266 : T266) (f267 : T267) (f269 : T269) : Calls' := fun f => Ae.lookA f [(265, E265 f265), (266, E266 f266), (267, E267 f267), (269, E269 f269)]
theorem kok253v1 : KOk Tryz.prog (K253v1 C265 C266 C267 C269) := (kok_cons ok265 (kok_cons ok266 (kok_cons ok267 (kok_cons ok269 (kok_nil _)))))
def N253v1 : Ann := (.seq .nil (.seq (.seq .nil (.blk (.unroll 6 .nil))) .nil))
def F253v1 (f265 : T265) (f266 : T266) (f267 : T267) (f269 : T269) : T253v1 := fun (x0, x1, x2, x3, x4, _) =>
 (f265 (x4, ())).bind fun v =>
 bif v.1 then some (x0, x0, x1, x2, x3, v.2.1, ())
 else
 (f266 (v.2.1, ())).bind fun v =>
 bif v.1 then some (x1, x0, x1, x2, x3, v.2.1, ())
 else
 (f267 (v.2.1, ())).bind fun v =>
 bif v.1 then some (x2, x0, x1, x2, x3, v.2.1, ())
 else
 (f269 (v.2.1, ())).bind fun v =>
 bif v.1 then some (x3, x0, x1, x2, x3, v.2.1, ())
 else some (0, x0, x1, x2, x3, v.2.1, ())
theorem h253v1 (f265 : T265) (f266 : T266) (f267 : T267) (f269 : T269) : AqF (K253v1 f265 f266 f267 f269) 2 Tryz.f253 N253v1 f253v1_ins f253v1_outs (F253v1 f265 f266 f267 f269) := fun v => by kernel_rfl
def C253v1 : T253v1 := F253v1 C265 C266 C267 C269
theorem ok253v1 : FnOk Tryz.prog 253 (E253v1 C253v1) :=
 fnx (n := N253v1) kok253v1 Tryz.func253 (by kernel_rfl) (by kernel_rfl) (ann_obs trivial (by kernel_rfl)) (fun v => by kernel_rfl) (h253v1 C265 C266 C267 C269)
abbrev T225 := LqS × Unit → Option (Int × Unit)
def E225 (f : T225) : FEnt := ⟨f225_ins, f225_outs, f⟩
def K225 (f253v1 : T253v1) : Calls' := fun f => Ae.lookA f [(253, E253v1 f253v1)]
theorem kok225 : KOk Tryz.prog (K225 C253v1) := (kok_cons ok253v1 (kok_nil _))
def F225 (f253v1 : T253v1) : T225 := fun (x0, _) =>
 (f253v1 (13, 5, 8, 11, x0, ())).bind fun v => some (v.1, ())
theorem h225 (f253v1 : T253v1) : AqF (K225 f253v1) 0 Tryz.f225 .nil f225_ins f225_outs (F225 f253v1) := fun v => by kernel_rfl
def C225 : T225 := F225 C253v1
theorem ok225 : FnOk Tryz.prog 225 (E225 C225) :=
 fnx (n := .nil) kok225 Tryz.func225 (by kernel_rfl) (by kernel_rfl) (ann_nil _) (fun v => by kernel_rfl) (h225 C253v1)
abbrev T293_l0 := LqS × Int × Int × Unit → Option (Unit ⊕ (Int × Unit))
def E293_l0 (f : T293_l0) : LEnt := ⟨f293_l0_ins, f293_l0_outs, f⟩
abbrev T293 := LqS × Int × Unit → Option (Int × Unit)
def E293 (f : T293) : FEnt := ⟨f293_ins, f293_outs, f⟩
def K293 : Calls' := fun f => Ae.lookA f []
theorem kok293 : KOk Tryz.prog (K293) := (kok_nil _)
def F293_l0 : LpF (LqS × Int × Int × Unit) (Unit ⊕ (Int × Unit)) := fun (x0, x1, x2, _) =>
 bif decide (x2 ≥ 0) then
 bif decide (0 ≤ x2) && decide (x2 < (↑x0.length : Int)) then
 bif (↑(x0.getD x2.toNat 0).toNat : Int) == x1 then some (Sum.inr (Sum.inr (x2, ())))
 else some (Sum.inl (x0, x1, IntKind.i64.wrap (x2 - 1), ()))
 else none
 else some (Sum.inr (Sum.inl ()))
theorem h293_l0 : AqL (K293) 0 (subc (code Tryz.f293) [1, 0, 1, 0, 0]) .nil f293_l0_ins f293_l0_outs (F293_l0) := fun v => by kernel_rfl
def C293_l0 : T293_l0 := loopN (F293_l0) big
theorem k293_l0 : FragOk Tryz.prog 0 (fun Q a w => (Code.loop (subc (code Tryz.f293) [1, 0, 1, 0, 0])).wp Tryz.prog Q a w) (E293_l0 C293_l0) :=
 frag_big (ins := f293_l0_ins) (os := f293_l0_outs) (C := C293_l0) (frag_loop (ins := f293_l0_ins) (os := f293_l0_outs) (n := .nil) (F := F293_l0) hm hΓ kok293 (fun _ => big) (ann_nil _) (h293_l0)) rfl
def N293 (f293_l0 : T293_l0) : Ann := (.seq .nil (.seq (.seq .nil (.blk (.loop (E293_l0 f293_l0)))) .nil))
def F293 (f293_l0 : T293_l0) : T293 := fun (x0, x1, _) =>
 (f293_l0 (x0, x1, IntKind.i64.wrap ((↑x0.length : Int) - 1), ())).bind fun v =>
 Sum.elim (fun v => some (-1, ())) (fun v => some (v.1, ())) v
theorem h293 (f293_l0 : T293_l0) : AqF (K293) 0 Tryz.f293 (N293 f293_l0) f293_ins f293_outs (F293 f293_l0) := fun v => by kernel_rfl
def C293 : T293 := F293 C293_l0
theorem ok293 : FnOk Tryz.prog 293 (E293 C293) :=
 fnx (n := (N293 C293_l0)) kok293 Tryz.func293 (by kernel_rfl) (by kernel_rfl) (ann_obs (And.intro k293_l0 trivial) (by kernel_rfl)) (fun v => by kernel_rfl) (h293 C293_l0)
abbrev T270 := LqS × Int × Unit → Option (Int × Unit)
def E270 (f : T270) : FEnt := ⟨f270_ins, f270_outs, f⟩
def K270 (f293 : T293) : Calls' := fun f => Ae.lookA f [(293, E293 f293)]
theorem kok270 : KOk Tryz.prog (K270 C293) := (kok_cons ok293 (kok_nil _))
def F270 (f293 : T293) : T270 := fun (x0, x1, _) =>
 (f293 (x0, x1, ())).bind fun v => some (v.1, ())
theorem h270 (f293 : T293) : AqF (K270 f293) 0 Tryz.f270 .nil f270_ins f270_outs (F270 f293) := fun v => by kernel_rfl
def C270 : T270 := F270 C293
theorem ok270 : FnOk Tryz.prog 270 (E270 C270) :=
 fnx (n := .nil) kok270 Tryz.func270 (by kernel_rfl) (by kernel_rfl) (ann_nil _) (fun v => by kernel_rfl) (h270 C293)
abbrev T294_c0 := Int × Bool × Unit → Option ((Int × Bool × Unit) ⊕ Unit)
def E294_c0 (f : T294_c0) : LEnt := ⟨f294_c0_ins, f294_c0_outs, f⟩
abbrev T294_c1 := Int × Bool × Unit → Option ((Int × Bool × Unit) ⊕ Unit)
def E294_c1 (f : T294_c1) : LEnt := ⟨f294_c1_ins, f294_c1_outs, f⟩
abbrev T294 := Int × Unit → Option (Int × Bool × Unit)
def E294 (f : T294) : FEnt := ⟨f294_ins, f294_outs, f⟩
def K294 : Calls' := fun f => Ae.lookA f []
theorem kok294 : KOk Tryz.prog (K294) := (kok_nil _)
def F294_c0 : T294_c0 := fun (x0, x1, _) =>
 bif x1 then some (Sum.inl (IntKind.i64.wrap (IntKind.u8.wrap (x0 - 65)), true, ()))
 else
 bif decide (x0 ≥ 97) then
 bif decide (x0 ≤ 122) then some (Sum.inl (IntKind.i64.wrap (IntKind.u8.wrap (x0 - 97)), true, ()))
 else some (Sum.inr ())
 else some (Sum.inr ())
theorem h294_c0 : AqC (K294) 0 (subc (code Tryz.f294) [1, 0, 0, 1, 1, 1]) .nil f294_c0_ins f294_c0_outs (F294_c0) := fun v => by kernel_rfl
def C294_c0 : T294_c0 := F294_c0
theorem k294_c0 : FragOk Tryz.prog 0 (fun Q a w => (subc (code Tryz.f294) [1, 0, 0, 1, 1, 1]).wp Tryz.prog Q a w) (E294_c0 C294_c0) :=
 frag_code (ins := f294_c0_ins) (os := f294_c0_outs) (n := .nil) (F := C294_c0) hm hΓ kok294 (ann_nil _) (h294_c0)
def N294_c1 (f294_c0 : T294_c0) : Ann := (.cond .nil (.cut .nil (E294_c0 f294_c0)))
def F294_c1 (f294_c0 : T294_c0) : T294_c1 := fun (x0, x1, _) =>
 bif x1 then some (Sum.inl (IntKind.i64.wrap (IntKind.i64.wrap (IntKind.u8.wrap (x0 - 48)) + 26), true, ()))
 else
 bif decide (x0 ≥ 65) then
 (f294_c0 (x0, decide (x0 ≤ 90), ())).bind fun v =>
 Sum.elim (fun v => some (Sum.inl (v.1, v.2.1, ()))) (fun v => some (Sum.inr ())) v
 else
 (f294_c0 (x0, false, ())).bind fun v =>
 Sum.elim (fun v => some (Sum.inl (v.1, v.2.1, ()))) (fun v => some (Sum.inr ())) v
theorem h294_c1 (f294_c0 : T294_c0) : AqC (K294) 0 (subc (code Tryz.f294) [1, 0, 0, 1]) (N294_c1 f294_c0) f294_c1_ins f294_c1_outs (F294_c1 f294_c0) := fun v => by kernel_rfl
def C294_c1 : T294_c1 := F294_c1 C294_c0
theorem k294_c1 : FragOk Tryz.prog 0 (fun Q a w => (subc (code Tryz.f294) [1, 0, 0, 1]).wp Tryz.prog Q a w) (E294_c1 C294_c1) :=
 frag_code (ins := f294_c1_ins) (os := f294_c1_outs) (n := (N294_c1 C294_c0)) (F := C294_c1) hm hΓ kok294 (ann_obs (And.intro k294_c0 trivial) (by kernel_rfl)) (h294_c1 C294_c0)
def N294 (f294_c1 : T294_c1) : Ann := (.seq .nil (.seq (.blk (.cut .nil (E294_c1 f294_c1))) .nil))
def F294 (f294_c1 : T294_c1) : T294 := fun (x0, _) =>
 bif decide (x0 ≥ 48) then
 (f294_c1 (x0, decide (x0 ≤ 57), ())).bind fun v =>
 Sum.elim (fun v => some (v.1, v.2.1, ())) (fun v => some (0, false, ())) v
 else
 (f294_c1 (x0, false, ())).bind fun v =>
 Sum.elim (fun v => some (v.1, v.2.1, ())) (fun v => some (0, false, ())) v
theorem h294 (f294_c1 : T294_c1) : AqF (K294) 0 Tryz.f294 (N294 f294_c1) f294_ins f294_outs (F294 f294_c1) := fun v => by kernel_rfl
def C294 : T294 := F294 C294_c1
theorem ok294 : FnOk Tryz.prog 294 (E294 C294) :=
 fnx (n := (N294 C294_c1)) kok294 Tryz.func294 (by kernel_rfl) (by kernel_rfl) (ann_obs (And.intro k294_c1 trivial) (by kernel_rfl)) (fun v => by kernel_rfl) (h294 C294_c1)
abbrev T271_l0 := LqS × Int × Int × Int × Int × Int × Unit → Option (Unit ⊕ Unit ⊕ (Int × LqS × Unit))
def E271_l0 (f : T271_l0) : LEnt := ⟨f271_l0_ins, f271_l0_outs, f⟩
abbrev T271_g0 := Unit → Option (Int × LqS × Unit)
def E271_g0 (f : T271_g0) : LEnt := ⟨f271_g0_ins, f271_g0_outs, f⟩
abbrev T271 := LqS × Int × Unit → Option (Int × LqS × Unit)
def E271 (f : T271) : FEnt := ⟨f271_ins, f271_outs, f⟩
def K271 (f290 : T290) (f294 : T294) : Calls' := fun f => Ae.lookA f [(290, E290 f290), (294, E294 f294)]
theorem kok271 : KOk Tryz.prog (K271 C290 C294) := (kok_cons ok290 (kok_cons ok294 (kok_nil _)))
def F271_l0 (f290 : T290) (f294 : T294) : LpF (LqS × Int × Int × Int × Int × Int × Unit) (Unit ⊕ Unit ⊕ (Int × LqS × Unit)) := fun (x0, x1, x2, x3, x4, x5, _) =>
 bif decide (x5 < x4) then
 bif decide (0 ≤ x5) && decide (x5 < (↑x0.length : Int)) then
 (f294 ((↑(x0.getD x5.toNat 0).toNat : Int), ())).bind fun v =>
 bif !v.2.1 then some (Sum.inr (Sum.inr (Sum.inl ())))
 else
 bif decide (x3 > 2147483647) then some (Sum.inr (Sum.inr (Sum.inl ())))
 else
 bif decide (IntKind.i64.wrap (x2 + IntKind.i64.wrap (v.1 * x3)) > 2147483647) then
 some (Sum.inr (Sum.inr (Sum.inl ())))
 else
 (f290 (IntKind.i64.wrap (36 * IntKind.i64.wrap (x5 + 1)), x1, ())).bind fun v1 =>
 bif decide (v.1 < v1.1) then
 bif
 decide (0 ≤ IntKind.i64.wrap (x5 + 1)) &&
 decide (IntKind.i64.wrap (x5 + 1) ≤ (↑x0.length : Int)) then
 some
 (Sum.inr
 (Sum.inr
 (Sum.inr
 (IntKind.i64.wrap (x2 + IntKind.i64.wrap (v.1 * x3)),
 List.drop (IntKind.i64.wrap (x5 + 1)).toNat x0, ()))))
 else none
 else
 some
 (Sum.inl
 (x0, x1, IntKind.i64.wrap (x2 + IntKind.i64.wrap (v.1 * x3)),
 IntKind.i64.wrap (x3 * IntKind.i64.wrap (36 - v1.1)), x4, IntKind.i64.wrap (x5 + 1),
 ()))
 else none
 else some (Sum.inr (Sum.inl ()))
theorem h271_l0 (f290 : T290) (f294 : T294) : AqL (K271 f290 f294) 0 (subc (code Tryz.f271) [1, 0, 1, 0, 1, 0, 0]) .nil f271_l0_ins f271_l0_outs (F271_l0 f290 f294) := fun v => by kernel_rfl
def C271_l0 : T271_l0 := loopN (F271_l0 C290 C294) big
theorem k271_l0 : FragOk Tryz.prog 0 (fun Q a w => (Code.loop (subc (code Tryz.f271) [1, 0, 1, 0, 1, 0, 0])).wp Tryz.prog Q a w) (E271_l0 C271_l0) :=
 frag_big (ins := f271_l0_ins) (os := f271_l0_outs) (C := C271_l0) (frag_loop (ins := f271_l0_ins) (os := f271_l0_outs) (n := .nil) (F := F271_l0 C290 C294) hm hΓ kok271 (fun _ => big) (ann_nil _) (h271_l0 C290 C294)) rfl
def F271_g0 (f290 : T290) (f294 : T294) : LpF (Unit) (Int × LqS × Unit) := fun (_) =>
 some (Sum.inr (-1, [], ()))
theorem h271_g0 (f290 : T290) (f294 : T294) (v : HS f271_g0_ins) : aev Γ (K271 f290 f294) 0 ((findLabel (subc (code Tryz.f271) [1, 0]) 0).getD .skip) .nil (stof f271_g0_ins v) (aroundL 0 0 [] f271_g0_ins f271_g0_outs) = F271_g0 f290 f294 v := by kernel_rfl
def C271_g0 : T271_g0 := loopN (F271_g0 C290 C294) big
theorem k271_g0 : FragOk Tryz.prog 0 (ScopeFrom Tryz.prog (subc (code Tryz.f271) [1, 0]) 0) (E271_g0 C271_g0) :=
 frag_big (ins := f271_g0_ins) (os := f271_g0_outs) (C := C271_g0) (frag_label (ins := f271_g0_ins) (os := f271_g0_outs) (n := .nil) (ls := []) (F := F271_g0 C290 C294) (rest := ((findLabel (subc (code Tryz.f271) [1, 0]) 0).getD .skip)) hm hΓ kok271 (fun _ => big) (by kernel_rfl) (ann_nil _) find_nil (h271_g0 C290 C294)) rfl
def N271 (f271_g0 : T271_g0) (f271_l0 : T271_l0) : Ann := (.seq .nil (.scope (.seq .nil (.seq (.seq .nil (.blk (.loop (E271_l0 f271_l0)))) .nil)) [(0, (E271_g0 f271_g0))]))
def F271 (f290 : T290) (f294 : T294) (f271_g0 : T271_g0) (f271_l0 : T271_l0) : T271 := fun (x0, x1, _) =>
 (f271_l0 (x0, x1, 0, 1, (↑x0.length : Int), 0, ())).bind fun v =>
 Sum.elim (fun v => some (-1, [], ()))
 (fun v =>
 Sum.elim (fun v => (f271_g0 ()).bind fun v => some (v.1, v.2.1, ()))
 (fun v => some (v.1, v.2.1, ())) v)
 v
theorem h271 (f290 : T290) (f294 : T294) (f271_g0 : T271_g0) (f271_l0 : T271_l0) : AqF (K271 f290 f294) 0 Tryz.f271 (N271 f271_g0 f271_l0) f271_ins f271_outs (F271 f290 f294 f271_g0 f271_l0) := fun v => by kernel_rfl
def C271 : T271 := F271 C290 C294 C271_g0 C271_l0
theorem ok271 : FnOk Tryz.prog 271 (E271 C271) :=
 fnx (n := (N271 C271_g0 C271_l0)) kok271 Tryz.func271 (by kernel_rfl) (by kernel_rfl) (ann_obs (And.intro k271_l0 (And.intro k271_g0 trivial)) (by kernel_rfl)) (fun v => by kernel_rfl) (h271 C290 C294 C271_g0 C271_l0)
abbrev T226_l0 := LqS × Int × Int × Int × Bool × List (Int) × Unit → Option ((List (Int) × Unit) ⊕ (Bool × Unit))
def E226_l0 (f : T226_l0) : LEnt := ⟨f226_l0_ins, f226_l0_outs, f⟩
abbrev T226_c0 := LqS × List (Int) × Unit → Option (Bool × List (Int) × Unit)
def E226_c0 (f : T226_c0) : LEnt := ⟨f226_c0_ins, f226_c0_outs, f⟩
abbrev T226 := LqS × Unit → Option (List (Int) × Bool × Unit)
def E226 (f : T226) : FEnt := ⟨f226_ins, f226_outs, f⟩
def K226 (f155 : T155) (f21 : T21) (f252 : T252) (f270 : T270) (f271 : T271) (f272 : T272) : Calls' := fun f => Ae.lookA f [(155, E155 f155), (21, E21 f21), (252, E252 f252), (270, E270 f270), (271, E271 f271), (272, E272 f272)]
theorem kok226 : KOk Tryz.prog (K226 C155 C21 C252 C270 C271 C272) := (kok_cons ok155 (kok_cons ok21 (kok_cons ok252 (kok_cons ok270 (kok_cons ok271 (kok_cons ok272 (kok_nil _)))))))
def F226_l0 (f155 : T155) (f21 : T21) (f252 : T252) (f270 : T270) (f271 : T271) (f272 : T272) : LpF (LqS × Int × Int × Int × Bool × List (Int) × Unit) ((List (Int) × Unit) ⊕ (Bool × Unit)) := fun (x0, x1, x2, x3, x4, x5, _) =>
 bif !x0 == [] then
 (f271 (x0, x3, ())).bind fun v =>
 bif decide (v.1 < 0) then some (Sum.inr (Sum.inr (false, ())))
 else
 bif decide (IntKind.i64.wrap (x2 + v.1) > 2147483647) then some (Sum.inr (Sum.inr (false, ())))
 else
 (f252 (v.1, IntKind.i64.wrap ((↑x5.length : Int) + 1), x4, ())).bind fun v1 =>
 bif IntKind.i64.wrap ((↑x5.length : Int) + 1) != 0 then
 bif
 decide
 (IntKind.i64.wrap
 (x1 +
 IntKind.i64.wrap
 ((IntKind.i64.wrap (x2 + v.1)).tdiv (IntKind.i64.wrap ((↑x5.length : Int) + 1)))) >
 1114111) then
 some (Sum.inr (Sum.inr (false, ())))
 else
 (f155
 (IntKind.i32.wrap
 (IntKind.i64.wrap
 (x1 +
 IntKind.i64.wrap
 ((IntKind.i64.wrap (x2 + v.1)).tdiv (IntKind.i64.wrap ((↑x5.length : Int) + 1))))),
 ())).bind
 fun v2 =>
 bif !v2.1 then some (Sum.inr (Sum.inr (false, ())))
 else
 bif IntKind.i64.wrap ((↑x5.length : Int) + 1) != 0 then
 (f272
 ((IntKind.i64.wrap (x2 + v.1)).tmod (IntKind.i64.wrap ((↑x5.length : Int) + 1)), x5,
 [IntKind.i32.wrap
 (IntKind.i64.wrap
 (x1 +
 IntKind.i64.wrap
 ((IntKind.i64.wrap (x2 + v.1)).tdiv
 (IntKind.i64.wrap ((↑x5.length : Int) + 1)))))],
 ())).bind
 fun v3 =>
 some
 (Sum.inl
 (v.2.1,
 IntKind.i64.wrap
 (x1 +
 IntKind.i64.wrap
 ((IntKind.i64.wrap (x2 + v.1)).tdiv (IntKind.i64.wrap ((↑x5.length : Int) + 1)))),
 IntKind.i64.wrap
 ((IntKind.i64.wrap (x2 + v.1)).tmod (IntKind.i64.wrap ((↑x5.length : Int) + 1)) + 1),
 v1.1, false, v3.1, ()))
 else none
 else none
 else some (Sum.inr (Sum.inl (x5, ())))
theorem h226_l0 (f155 : T155) (f21 : T21) (f252 : T252) (f270 : T270) (f271 : T271) (f272 : T272) : AqL (K226 f155 f21 f252 f270 f271 f272) 0 (subc (code Tryz.f226) [1, 1, 1, 1, 1, 0, 1, 0, 0]) .nil f226_l0_ins f226_l0_outs (F226_l0 f155 f21 f252 f270 f271 f272) := fun v => by kernel_rfl
def C226_l0 : T226_l0 := loopN (F226_l0 C155 C21 C252 C270 C271 C272) big
theorem k226_l0 : FragOk Tryz.prog 0 (fun Q a w => (Code.loop (subc (code Tryz.f226) [1, 1, 1, 1, 1, 0, 1, 0, 0])).wp Tryz.prog Q a w) (E226_l0 C226_l0) :=
 frag_big (ins := f226_l0_ins) (os := f226_l0_outs) (C := C226_l0) (frag_loop (ins := f226_l0_ins) (os := f226_l0_outs) (n := .nil) (F := F226_l0 C155 C21 C252 C270 C271 C272) hm hΓ kok226 (fun _ => big) (ann_nil _) (h226_l0 C155 C21 C252 C270 C271 C272)) rfl
def N226_c0 (f226_l0 : T226_l0) : Ann := (.seq .nil (.seq (.seq .nil (.blk (.loop (E226_l0 f226_l0)))) .nil))
def F226_c0 (f155 : T155) (f21 : T21) (f252 : T252) (f270 : T270) (f271 : T271) (f272 : T272) (f226_l0 : T226_l0) : T226_c0 := fun (x0, x1, _) =>
 (f226_l0 (x0, 128, 0, 72, true, x1, ())).bind fun v =>
 Sum.elim (fun v => some (true, v.1, ())) (fun v => some (v.1, [], ())) v
theorem h226_c0 (f155 : T155) (f21 : T21) (f252 : T252) (f270 : T270) (f271 : T271) (f272 : T272) (f226_l0 : T226_l0) : AqC (K226 f155 f21 f252 f270 f271 f272) 0 (subc (code Tryz.f226) [1, 1, 1, 1]) (N226_c0 f226_l0) f226_c0_ins f226_c0_outs (F226_c0 f155 f21 f252 f270 f271 f272 f226_l0) := fun v => by kernel_rfl
def C226_c0 : T226_c0 := F226_c0 C155 C21 C252 C270 C271 C272 C226_l0
theorem k226_c0 : FragOk Tryz.prog 0 (fun Q a w => (subc (code Tryz.f226) [1, 1, 1, 1]).wp Tryz.prog Q a w) (E226_c0 C226_c0) :=
 frag_code (ins := f226_c0_ins) (os := f226_c0_outs) (n := (N226_c0 C226_l0)) (F := C226_c0) hm hΓ kok226 (ann_obs (And.intro k226_l0 trivial) (by kernel_rfl)) (h226_c0 C155 C21 C252 C270 C271 C272 C226_l0)
def N226 (f226_c0 : T226_c0) : Ann := (.seq .nil (.seq .nil (.seq .nil (.cut .nil (E226_c0 f226_c0)))))
def F226 (f155 : T155) (f21 : T21) (f252 : T252) (f270 : T270) (f271 : T271) (f272 : T272) (f226_c0 : T226_c0) : T226 := fun (x0, _) =>
 (f21 (x0, ())).bind fun v =>
 bif decide (v.1 ≥ 0) then some ([], false, ())
 else
 (f270 (x0, 45, ())).bind fun v =>
 bif decide (v.1 > 0) then
 bif decide (0 ≤ v.1) && decide (v.1 ≤ (↑x0.length : Int)) then
 bif
 decide ((List.take (Int.toNat v.1) x0).length ≤ 70368744177664) &&
 (List.take (Int.toNat v.1) x0).all fun b => decide (b.toNat < 128) then
 bif
 decide (0 ≤ IntKind.i64.wrap (v.1 + 1)) &&
 decide (IntKind.i64.wrap (v.1 + 1) ≤ (↑x0.length : Int)) then
 (f226_c0
 (List.drop (IntKind.i64.wrap (v.1 + 1)).toNat x0,
 List.map (fun b => (↑b.toNat : Int)) (List.take (Int.toNat v.1) x0), ())).bind
 fun v => some (v.2.1, v.1, ())
 else none
 else none
 else none
 else (f226_c0 (x0, [], ())).bind fun v => some (v.2.1, v.1, ())
theorem h226 (f155 : T155) (f21 : T21) (f252 : T252) (f270 : T270) (f271 : T271) (f272 : T272) (f226_c0 : T226_c0) : AqF (K226 f155 f21 f252 f270 f271 f272) 0 Tryz.f226 (N226 f226_c0) f226_ins f226_outs (F226 f155 f21 f252 f270 f271 f272 f226_c0) := fun v => by kernel_rfl
def C226 : T226 := F226 C155 C21 C252 C270 C271 C272 C226_c0
theorem ok226 : FnOk Tryz.prog 226 (E226 C226) :=
 fnx (n := (N226 C226_c0)) kok226 Tryz.func226 (by kernel_rfl) (by kernel_rfl) (ann_obs (And.intro k226_c0 trivial) (by kernel_rfl)) (fun v => by kernel_rfl) (h226 C155 C21 C252 C270 C271 C272 C226_c0)
abbrev T192 := LqA × LqB × LqC × LqS × Unit → Option (LqS × LqS × Int × Unit)
def E192 (f : T192) : FEnt := ⟨f192_ins, f192_outs, f⟩
def K192 (f132 : T132) (f151 : T151) (f178 : T178) (f21 : T21) (f223 : T223) (f224 : T224) (f225 : T225) (f226 : T226) (f83 : T83) : Calls' := fun f => Ae.lookA f [(132, E132 f132), (151, E151 f151), (178, E178 f178), (21, E21 f21), (223, E223 f223), (224, E224 f224), (225, E225 f225), (226, E226 f226), (83, E83 f83)]
theorem kok192 : KOk Tryz.prog (K192 C132 C151 C178 C21 C223 C224 C225 C226 C83) := (kok_cons ok132 (kok_cons ok151 (kok_cons ok178 (kok_cons ok21 (kok_cons ok223 (kok_cons ok224 (kok_cons ok225 (kok_cons ok226 (kok_cons ok83 (kok_nil _))))))))))
def F192 (f132 : T132) (f151 : T151) (f178 : T178) (f21 : T21) (f223 : T223) (f224 : T224) (f225 : T225) (f226 : T226) (f83 : T83) : T192 := fun (x0, x1, x2, x3, _) =>
 (f151 (x0, x1, x2, x3, ())).bind fun v =>
 (f132 (v.1, [120, 110, 45, 45], ())).bind fun v1 =>
 bif !v.2.1 then some ([], [], 7, ())
 else
 (f21 (v.1, ())).bind fun v2 =>
 bif decide (v2.1 ≥ 0) then
 (f83 (v.1, ())).bind fun v3 =>
 (f223 (v3.1, ())).bind fun v4 =>
 bif decide ([120, 110, 45, 45].length + List.length v4.1 ≤ 9223372036854775807) then
 (f224 (x0, x1, x2, v.1, ())).bind fun v5 =>
 some ([120, 110, 45, 45] ++ v4.1, v.1, v5.1, ())
 else none
 else
 bif !v1.2.1 then (f225 (v.1, ())).bind fun v3 => some (v.1, v.1, v3.1, ())
 else
 (f226 (v1.1, ())).bind fun v3 =>
 bif !v3.2.1 then some ([], [], 12, ())
 else
 bif decide ((↑(List.length v.1) : Int) > 63) then some ([], [], 5, ())
 else
 (f178 (v3.1, ())).bind fun v4 =>
 (f224 (x0, x1, x2, v4.1, ())).bind fun v5 =>
 bif v5.1 != 0 then some ([], [], v5.1, ())
 else
 (f223 (v3.1, ())).bind fun v6 =>
 bif !v6.1 == v1.1 then some ([], [], 12, ())
 else some (v.1, v4.1, 0, ())
theorem h192 (f132 : T132) (f151 : T151) (f178 : T178) (f21 : T21) (f223 : T223) (f224 : T224) (f225 : T225) (f226 : T226) (f83 : T83) : AqF (K192 f132 f151 f178 f21 f223 f224 f225 f226 f83) 0 Tryz.f192 .nil f192_ins f192_outs (F192 f132 f151 f178 f21 f223 f224 f225 f226 f83) := fun v => by kernel_rfl
def C192 : T192 := F192 C132 C151 C178 C21 C223 C224 C225 C226 C83
theorem ok192 : FnOk Tryz.prog 192 (E192 C192) :=
 fnx (n := .nil) kok192 Tryz.func192 (by kernel_rfl) (by kernel_rfl) (ann_nil _) (fun v => by kernel_rfl) (h192 C132 C151 C178 C21 C223 C224 C225 C226 C83)
abbrev T159 := LqA × LqB × LqC × LqS × Unit → Option (LqS × Int × Unit)
def E159 (f : T159) : FEnt := ⟨f159_ins, f159_outs, f⟩
def K159 (f192 : T192) : Calls' := fun f => Ae.lookA f [(192, E192 f192)]
theorem kok159 : KOk Tryz.prog (K159 C192) := (kok_cons ok192 (kok_nil _))
def F159 (f192 : T192) : T159 := fun (x0, x1, x2, x3, _) =>
 (f192 (x0, x1, x2, x3, ())).bind fun v =>
 bif v.2.2.1 != 0 then some ([], v.2.2.1, ()) else some (v.1, 0, ())
theorem h159 (f192 : T192) : AqF (K159 f192) 0 Tryz.f159 .nil f159_ins f159_outs (F159 f192) := fun v => by kernel_rfl
def C159 : T159 := F159 C192
theorem ok159 : FnOk Tryz.prog 159 (E159 C159) :=
 fnx (n := .nil) kok159 Tryz.func159 (by kernel_rfl) (by kernel_rfl) (ann_nil _) (fun v => by kernel_rfl) (h159 C192)
abbrev T160 := LqA × LqB × LqC × LqS × Unit → Option (LqS × Int × Unit)
def E160 (f : T160) : FEnt := ⟨f160_ins, f160_outs, f⟩
def K160 (f192 : T192) : Calls' := fun f => Ae.lookA f [(192, E192 f192)]
theorem kok160 : KOk Tryz.prog (K160 C192) := (kok_cons ok192 (kok_nil _))
def F160 (f192 : T192) : T160 := fun (x0, x1, x2, x3, _) =>
 (f192 (x0, x1, x2, x3, ())).bind fun v =>
 bif v.2.2.1 != 0 then some ([], v.2.2.1, ()) else some (v.2.1, 0, ())
theorem h160 (f192 : T192) : AqF (K160 f192) 0 Tryz.f160 .nil f160_ins f160_outs (F160 f192) := fun v => by kernel_rfl
def C160 : T160 := F160 C192
theorem ok160 : FnOk Tryz.prog 160 (E160 C160) :=
 fnx (n := .nil) kok160 Tryz.func160 (by kernel_rfl) (by kernel_rfl) (ann_nil _) (fun v => by kernel_rfl) (h160 C192)
abbrev T162 := LqS × Int × Unit → Option (Int × Unit)
def E162 (f : T162) : FEnt := ⟨f162_ins, f162_outs, f⟩
def K162 (f196 : T196) : Calls' := fun f => Ae.lookA f [(196, E196 f196)]
theorem kok162 : KOk Tryz.prog (K162 C196) := (kok_cons ok196 (kok_nil _))
def F162 (f196 : T196) : T162 := fun (x0, x1, _) =>
 (f196 (x0, x1, ())).bind fun v => some (v.1, ())
theorem h162 (f196 : T196) : AqF (K162 f196) 0 Tryz.f162 .nil f162_ins f162_outs (F162 f196) := fun v => by kernel_rfl
def C162 : T162 := F162 C196
theorem ok162 : FnOk Tryz.prog 162 (E162 C162) :=
 fnx (n := .nil) kok162 Tryz.func162 (by kernel_rfl) (by kernel_rfl) (ann_nil _) (fun v => by kernel_rfl) (h162 C196)
abbrev T197_c0 := LqS × LqS × Int × Bool × Unit → Option (Int × Unit)
def E197_c0 (f : T197_c0) : LEnt := ⟨f197_c0_ins, f197_c0_outs, f⟩
abbrev T197 := LqS × LqS × Unit → Option (Int × Unit)
def E197 (f : T197) : FEnt := ⟨f197_ins, f197_outs, f⟩
def K197 (f162 : T162) : Calls' := fun f => Ae.lookA f [(162, E162 f162)]
theorem kok197 : KOk Tryz.prog (K197 C162) := (kok_cons ok162 (kok_nil _))
def F197_c0 (f162 : T162) : T197_c0 := fun (x0, x1, x2, x3, _) =>
 bif x3 then some (0, ())
 else
 bif x2 == 1 then
 bif decide (0 < (↑x1.length : Int)) then
 (f162 (x0, (↑(x1.getD 0 0).toNat : Int), ())).bind fun v => some (v.1, ())
 else none
 else bif decide (x2 ≥ (↑x0.length : Int)) then some (-1, ()) else none
theorem h197_c0 (f162 : T162) : AqC (K197 f162) 0 (subc (code Tryz.f197) [1, 1, 0, 0, 1]) .nil f197_c0_ins f197_c0_outs (F197_c0 f162) := fun v => by kernel_rfl
def C197_c0 : T197_c0 := F197_c0 C162
theorem k197_c0 : FragOk Tryz.prog 0 (fun Q a w => (subc (code Tryz.f197) [1, 1, 0, 0, 1]).wp Tryz.prog Q a w) (E197_c0 C197_c0) :=
 frag_code (ins := f197_c0_ins) (os := f197_c0_outs) (n := .nil) (F := C197_c0) hm hΓ kok197 (ann_nil _) (h197_c0 C162)
def N197 (f197_c0 : T197_c0) : Ann := (.seq .nil (.seq .nil (.seq (.blk (.cut .nil (E197_c0 f197_c0))) .nil)))
def F197 (f162 : T162) (f197_c0 : T197_c0) : T197 := fun (x0, x1, _) =>
 bif (↑x1.length : Int) == 0 then
 (f197_c0 (x0, x1, (↑x1.length : Int), true, ())).bind fun v => some (v.1, ())
 else (f197_c0 (x0, x1, (↑x1.length : Int), x1 == x0, ())).bind fun v => some (v.1, ())
theorem h197 (f162 : T162) (f197_c0 : T197_c0) : AqF (K197 f162) 0 Tryz.f197 (N197 f197_c0) f197_ins f197_outs (F197 f162 f197_c0) := fun v => by kernel_rfl
def C197 : T197 := F197 C162 C197_c0
theorem ok197 : FnOk Tryz.prog 197 (E197 C197) :=
 fnx (n := (N197 C197_c0)) kok197 Tryz.func197 (by kernel_rfl) (by kernel_rfl) (ann_obs (And.intro k197_c0 trivial) (by kernel_rfl)) (fun v => by kernel_rfl) (h197 C162 C197_c0)
abbrev T163 := LqS × LqS × Unit → Option (LqS × LqS × Bool × Unit)
def E163 (f : T163) : FEnt := ⟨f163_ins, f163_outs, f⟩
def K163 (f197 : T197) : Calls' := fun f => Ae.lookA f [(197, E197 f197)]
theorem kok163 : KOk Tryz.prog (K163 C197) := (kok_cons ok197 (kok_nil _))
def F163 (f197 : T197) : T163 := fun (x0, x1, _) =>
 (f197 (x0, x1, ())).bind fun v =>
 bif decide (v.1 ≥ 0) then
 bif decide (0 ≤ v.1) && decide (v.1 ≤ (↑x0.length : Int)) then
 bif
 decide (0 ≤ IntKind.i64.wrap (v.1 + (↑x1.length : Int))) &&
 decide (IntKind.i64.wrap (v.1 + (↑x1.length : Int)) ≤ (↑x0.length : Int)) then
 some
 (List.take (Int.toNat v.1) x0, List.drop (IntKind.i64.wrap (v.1 + (↑x1.length : Int))).toNat x0, true,
 ())
 else none
 else none
 else some (x0, [], false, ())
theorem h163 (f197 : T197) : AqF (K163 f197) 0 Tryz.f163 .nil f163_ins f163_outs (F163 f197) := fun v => by kernel_rfl
def C163 : T163 := F163 C197
theorem ok163 : FnOk Tryz.prog 163 (E163 C163) :=
 fnx (n := .nil) kok163 Tryz.func163 (by kernel_rfl) (by kernel_rfl) (ann_nil _) (fun v => by kernel_rfl) (h163 C197)
abbrev T129 := LqS × LqS × Unit → Option (LqS × LqS × Bool × Unit)
def E129 (f : T129) : FEnt := ⟨f129_ins, f129_outs, f⟩
def K129 (f163 : T163) : Calls' := fun f => Ae.lookA f [(163, E163 f163)]
theorem kok129 : KOk Tryz.prog (K129 C163) := (kok_cons ok163 (kok_nil _))
def F129 (f163 : T163) : T129 := fun (x0, x1, _) =>
 (f163 (x0, x1, ())).bind fun v => some (v.1, v.2.1, v.2.2.1, ())
theorem h129 (f163 : T163) : AqF (K129 f163) 0 Tryz.f129 .nil f129_ins f129_outs (F129 f163) := fun v => by kernel_rfl
def C129 : T129 := F129 C163
theorem ok129 : FnOk Tryz.prog 129 (E129 C129) :=
 fnx (n := .nil) kok129 Tryz.func129 (by kernel_rfl) (by kernel_rfl) (ann_nil _) (fun v => by kernel_rfl) (h129 C163)
end Go.Proofs.YtiacnhhmkdkpmaaGreatDoorC.W
