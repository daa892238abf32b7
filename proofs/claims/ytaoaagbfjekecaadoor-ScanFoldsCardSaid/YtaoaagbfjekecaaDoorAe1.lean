/- The evaluator: Go code over abstract values. Definitions alone. -/
import Derived.WalkKit
import Derived.Orders
set_option linter.unusedVariables false
namespace Go.Ae
/-! The universe of plain data. -/
inductive Ty where
  | int (k : IntKind) | byte | bool | str | lst (t : Ty) | pair (a b : Ty) | unit
  deriving DecidableEq
def Ty.den : Ty → Type
  | .int _ => Int | .byte => UInt8 | .bool => Bool | .str => List UInt8 | .lst t => List t.den | .pair a b => a.den × b.den | .unit => Unit
def Ty.dflt : (T : Ty) → T.den
  | .int _ => (0 : Int) | .byte => (0 : UInt8) | .bool => false | .str => ([] : List UInt8) | .lst t => ([] : List t.den) | .pair a b => (a.dflt, b.dflt) | .unit => ()
def Ty.size : Ty → Nat
  | .pair a b => a.size + b.size | .unit => 0 | _ => 1
def castT (T T' : Ty) (x : T.den) : Option T'.den := if h : T = T' then some (h ▸ x) else none
def castL (T T' : Ty) (x : List T.den) : Option (List T'.den) := if h : T = T' then some (h ▸ x) else none

/-- What the evaluator knows of a value. -/
inductive AV where
  | top
  | int (k : IntKind) (n : Int) | bool (b : Bool) | str (s : List UInt8)
  | lst (T : Ty) (l : List T.den)      -- a slice that nobody writes
  | row (o : Nat)                      -- a slice of the store
  | rowc (e : TypeId) (T : Ty) (l : List T.den)     -- what such a slice holds (the one cell of its object): it may be appended to
  | frow (T : Ty) (l : List T.den)     -- it may not
  | siter (s : List UInt8) (p : Nat)   -- what a range over a string has come to
  | nils
  | ptr (o off : Nat) | nilp
  | elt (T : Ty) (x : T.den) (off : Nat)
  | rel (o sz i off : Nat)
  | func (fn : Fn) (first captured : List AV) | nilf
  | iface (t : TypeId) (v : AV) | nili
  | agg (cs : List AV) | tuple (vs : List AV)

def Ty.leaves : (T : Ty) → T.den → List AV
  | .int k, n => [.int k n] | .byte, c => [.int .u8 ((c : UInt8).toNat : Int)] | .bool, b => [.bool b] | .str, s => [.str s] | .lst t, l => [.lst t l]
  | .pair a b, x => a.leaves (x : a.den × b.den).1 ++ b.leaves (x : a.den × b.den).2 | .unit, _ => []
def Ty.parse : (T : Ty) → List AV → Option (T.den × List AV)
  | .int k, .int k' n :: r => if k = k' then some ((n : Int), r) else none
  | .byte, .int .u8 n :: r => some (UInt8.ofNat n.toNat, r)
  | .bool, .bool b :: r => some ((b : Bool), r)
  | .str, .str s :: r => some ((s : List UInt8), r)
  | .lst t, .lst t' l :: r => (castL t' t l).map fun x => (x, r)
  | .lst t, .nils :: r => some (([] : List t.den), r)
  | .pair a b, vs => match a.parse vs with
    | some (x, r) => match b.parse r with
      | some (y, r) => some ((x, y), r)
      | none => none
    | none => none
  | .unit, r => some ((), r)
  | _, _ => none

abbrev Store := List (List AV)
/-- The character at a place, and how many bytes it has, as a range over a string reads it. -/
def decR (s : List UInt8) (p : Nat) : Nat × Nat := Utf8.decode ⟨⟨s⟩⟩ p

inductive TD where
  | int (k : IntKind) | bool | str | slice (e : TypeId) | struct (fs : List (Nat × TypeId)) | array (n : Nat) (e : TypeId) | ptr (e : TypeId) | map (k e : TypeId) | func | iface | other
structure TI where
  d : TD
  size : Nat
  bytes : Nat
  ty : Option Ty
  zero : List AV
  cmp : Bool := false
abbrev Tys := TypeId → Option TI

inductive Wr where
  | obj (o : Nat) (cs : List AV)     -- object o holds now cs
  | new (cs : List AV)               -- a new object

section
variable {R : Type}
def chk (b : Bool) (x : Option R) : Option R := cond b x none
def AV.cells : AV → List AV
  | .agg cs => cs
  | v => [v]

def TI.isAgg (t : TI) : Bool := match t.d with | .struct _ | .array _ _ => true | _ => false
/-- Leaves to a value of a type. -/
def part (t : TI) (cs : List AV) (off : Nat) : Option AV :=
  let l := (cs.drop off).take t.size
  if l.length = t.size then (if t.isAgg then some (.agg l) else match l with | [v] => some v | _ => none) else none
def put (cs : List AV) (off : Nat) (vs : List AV) : Option (List AV) :=
  if off + vs.length ≤ cs.length then some (cs.take off ++ vs ++ cs.drop (off + vs.length)) else none

/-- A leaf as data, what lies in the store read; the objects that nobody may write any more. -/
def view (ob : Store) : AV → AV
  | .row o => match ob[o]? with | some [.rowc _ T l] => .lst T l | some [.frow T l] => .lst T l | _ => .top
  | v => v
def frees (ob : Store) : List AV → List Wr
  | .row o :: r => match ob[o]? with | some [.rowc _ T l] => .obj o [.frow T l] :: frees ob r | _ => frees ob r
  | _ :: r => frees ob r
  | [] => []

def inR (k : IntKind) (n : Int) : Bool := match k with
  | .u8 => decide (0 ≤ n) && decide (n ≤ 255)
  | _ => true
def AV.leaf : AV → Bool
  | .top | .rowc _ _ _ | .frow _ _ | .siter _ _ | .agg _ | .tuple _ => false
  | _ => true
def AV.cell : AV → Bool
  | .rowc _ _ _ | .frow _ _ | .siter _ _ => false
  | _ => true
def AV.isRow (o : Nat) : AV → Bool
  | .row o' => Nat.beq o o'
  | _ => false
def ofConst : Value → AV
  | .int k n => (match inR k n with | true => .int k n | false => .top) | .bool b => .bool b | .string s => .str s.data.toList
  | .slice none 0 0 => .nils | .pointer none => .nilp | .nilFunc => .nilf | .nilIface => .nili
  | .tuple ⟨[]⟩ => .tuple []
  | _ => .top

def tdOf (Γ : Tys) (t : TypeId) : TD := match Γ t with | some ti => ti.d | none => .other
def eqFs (part : TI → List AV → Nat → Option AV) (rec : TypeId → AV → AV → Option Bool) (Γ : Tys) (xs ys : List AV) : List (Nat × TypeId) → Option Bool
  | [] => some true
  | f :: fs => match Γ f.2 with
    | some ti => match part ti xs f.1, part ti ys f.1 with
      | some x, some y => match rec f.2 x y, eqFs part rec Γ xs ys fs with
        | some a, some b => some (a && b)
        | _, _ => none
      | _, _ => none
    | none => none
def eqT (Γ : Tys) : Nat → TypeId → AV → AV → Option Bool
  | 0, _, _, _ => none
  | n + 1, t, x, y => match Γ t with
    | some ti => match ti.d, x, y with
      | .int _, .int k a, .int k' b => if k = k' then some (a == b) else none
      | .bool, .bool a, .bool b => some (a == b)
      | .str, .str a, .str b => some (a == b)
      | .struct fs, .agg xs, .agg ys => if ti.cmp then eqFs part (eqT Γ n) Γ xs ys fs else none
      | _, _, _ => none
    | none => none

def leB : List UInt8 → List UInt8 → Bool := fun a b => Op.bytesLess a b || a == b

def intBits (op : BinOp) (k : IntKind) (x y : Int) : Int :=
  let a := BitVec.ofInt k.bits x
  let b := BitVec.ofInt k.bits y
  k.wrap ((match op with | .and => a &&& b | .or => a ||| b | .xor => a ^^^ b | _ => a &&& ~~~b).toNat)

def binF (Γ : Tys) (op : BinOp) (t : TypeId) (x y : AV) (κ : AV → Option R) : Option R :=
  match x, y with
  | .int k a, .int k' b =>
    match op with
    | .shl => chk (decide (0 ≤ b)) (κ (.int k (k.wrap (a * 2 ^ (min b.toNat k.bits)))))
    | .shr => chk (decide (0 ≤ b)) (κ (.int k (a.fdiv (2 ^ (min b.toNat k.bits)))))
    | _ => if k = k' then match op with
      | .add => κ (.int k (k.wrap (a + b))) | .sub => κ (.int k (k.wrap (a - b))) | .mul => κ (.int k (k.wrap (a * b)))
      | .quo => chk (b != 0) (κ (.int k (k.wrap (a.tdiv b)))) | .rem => chk (b != 0) (κ (.int k (a.tmod b)))
      | .eql => κ (.bool (a == b)) | .neq => κ (.bool (a != b))
      | .lss => κ (.bool (decide (a < b))) | .leq => κ (.bool (decide (a ≤ b))) | .gtr => κ (.bool (decide (a > b))) | .geq => κ (.bool (decide (a ≥ b)))
      | .and => κ (.int k (intBits .and k a b)) | .or => κ (.int k (intBits .or k a b)) | .xor => κ (.int k (intBits .xor k a b)) | .andNot => κ (.int k (intBits .andNot k a b))
      | _ => none
      else none
  | .bool a, .bool b => match tdOf Γ t with
    | .bool => (match op with | .eql => κ (.bool (a == b)) | .neq => κ (.bool (!(a == b))) | _ => none)
    | _ => none
  | .str a, .str b => match op with
    | .add => chk (decide (a.length + b.length ≤ 9223372036854775807)) (κ (.str (a ++ b)))
    | .eql => κ (.bool (a == b)) | .neq => κ (.bool (!(a == b)))
    | .lss => κ (.bool (Op.bytesLess a b)) | .leq => κ (.bool (leB a b)) | .gtr => κ (.bool (!(leB a b))) | .geq => κ (.bool (!(Op.bytesLess a b)))
    | _ => none
  | .agg xs, .agg ys => match eqT Γ 9 t (.agg xs) (.agg ys) with
    | some b => (match op with | .eql => κ (.bool b) | .neq => κ (.bool (!b)) | _ => none)
    | none => none
  | _, _ => none

def litO : Operand → Bool
  | .const _ => true
  | _ => false
/-- A comparison with nil. -/
def nilEq (Γ : Tys) (t : TypeId) (x y : Operand) (ax ay : AV) : Option Bool := match tdOf Γ t with
  | .iface => (match ax, ay with
    | .iface _ _, .nili => some false | .nili, .iface _ _ => some false
    | .nili, .nili => (match litO x || litO y with | true => some true | false => none)
    | _, _ => none)
  | .ptr _ => (match ax, ay with
    | .nilp, .nilp => some true
    | .ptr _ _, .nilp => some false | .nilp, .ptr _ _ => some false
    | .elt _ _ _, .nilp => some false | .rel _ _ _ _, .nilp => some false
    | _, _ => none)
  | .func => (match ax, ay with
    | .nilf, .nilf => some true
    | .func _ _ _, .nilf => some false | .nilf, .func _ _ _ => some false
    | _, _ => none)
  | _ => none

def asRow (ob : Store) : AV → Option ((T : Ty) × List T.den)
  | .lst T l => some ⟨T, l⟩
  | .row o => match ob[o]? with | some [.rowc _ T l] => some ⟨T, l⟩ | some [.frow T l] => some ⟨T, l⟩ | _ => none
  | _ => none

/-- Elements out of cells. -/
def parseN (T : Ty) : Nat → List AV → Option (List T.den)
  | 0, [] => some []
  | n + 1, vs => match T.parse vs with
    | some (x, r) => match parseN T n r with | some l => some (x :: l) | none => none
    | none => none
  | _, _ => none

def cut {α : Type} (l : List α) (lo hi : Option Int) (κ : List α → Option R) : Option R :=
  match hi, lo with
  | none, none => κ l
  | none, some a => chk (decide (0 ≤ a) && decide (a ≤ (l.length : Int))) (κ (l.drop a.toNat))
  | some b, none => chk (decide (0 ≤ b) && decide (b ≤ (l.length : Int))) (κ (l.take b.toNat))
  | some b, some a => chk (decide (0 ≤ b) && decide (b ≤ (l.length : Int))) (chk (decide (0 ≤ a) && decide (a ≤ b)) (κ ((l.take b.toNat).drop a.toNat)))

def ofInt : AV → Option Int
  | .int _ n => some n
  | _ => none
def ofIntO : Option AV → Option (Option Int)
  | none => some none
  | some (.int _ n) => some (some n)
  | _ => none
end
end Go.Ae
namespace Go.Ae
/-! Shapes: what is known of a state at its head; the data in it are variables. -/
inductive Sh where
  | top | int (k : IntKind) | bool | str | lst (T : Ty)
  | row (i : Nat) | ptr (i off : Nat) | nilp | nils | nilf | nili
  | agg (n : Nat) | tuple (n : Nat) | func (fn : Fn) (nf nc : Nat) | iface (t : TypeId)
  | cint (k : IntKind) (n : Int) | cbool (b : Bool)
  | obox (n : Nat)      -- the next object: a box of the next n cells
  | orow (e : TypeId) (T : Ty)       -- the next object: a slice of the store
  | oiter               -- the next object: what a range over a string has come to
  | odead               -- the next object: nothing is known
def Sh.ty : Sh → Option Ty
  | .int k => some (.int k) | .bool => some .bool | .str => some .str | .lst T => some (.lst T) | .orow _ T => some (.lst T) | .oiter => some (.pair .str (.int .i64)) | _ => none
def HS : List Sh → Type
  | [] => Unit
  | s :: r => match s.ty with | some t => t.den × HS r | none => HS r

/-- While a state is matched: which object is which ('none': a slice that is nil), and which are told as slices that nobody writes. -/
structure MS where
  m : List (Option Nat)
  fz : List Nat := []

def see (ms : MS) (i : Nat) (o : Option Nat) : Option MS :=
  if i < ms.m.length then (match ms.m[i]?, o with
    | some (some a), some b => if a = b then some ms else none
    | _, _ => none)
  else if i = ms.m.length then (match o with
    | some _ => if ms.m.contains o then none else some ⟨ms.m ++ [o], ms.fz⟩
    | none => some ⟨ms.m ++ [none], ms.fz⟩)
  else none
def froze (ob : Store) (a : AV) (ms : MS) : MS := match a with
  | .row o => match ob[o]? with | some [.rowc _ _ _] => ⟨ms.m, o :: ms.fz⟩ | _ => ms
  | _ => ms

/-- Match a state: leaves 'avs' to be matched now, 'i' objects done. -/
def mt (ob : Store) : (l : List Sh) → List AV → Nat → MS → Option (HS l × MS)
  | [], avs, i, ms => match avs with
    | [] => if i = ms.m.length ∧ ms.fz.all (fun o => !ms.m.contains (some o)) then some ((), ms) else none
    | _ => none
  | .top :: r, avs, i, ms => match avs with
    | _ :: avs => mt ob r avs i ms
    | _ => none
  | .int k :: r, avs, i, ms => match avs with
    | .int k' n :: avs => if k = k' then (mt ob r avs i ms).map fun x => ((n, x.1), x.2) else none
    | _ => none
  | .cint k c :: r, avs, i, ms => match avs with
    | .int k' n :: avs => if k = k' ∧ c = n then mt ob r avs i ms else none
    | _ => none
  | .bool :: r, avs, i, ms => match avs with
    | .bool b :: avs => (mt ob r avs i ms).map fun x => ((b, x.1), x.2)
    | _ => none
  | .cbool c :: r, avs, i, ms => match avs with
    | .bool b :: avs => if c = b then mt ob r avs i ms else none
    | _ => none
  | .str :: r, avs, i, ms => match avs with
    | .str s :: avs => (mt ob r avs i ms).map fun x => ((s, x.1), x.2)
    | _ => none
  | .lst T :: r, avs, i, ms => match avs with
    | .nils :: avs => (mt ob r avs i ms).map fun x => ((([] : List T.den), x.1), x.2)
    | a :: avs => match asRow ob a with
      | some ⟨T', l⟩ => match castL T' T l with
        | some y => (mt ob r avs i (froze ob a ms)).map fun x => ((y, x.1), x.2)
        | none => none
      | none => none
    | [] => none
  | .row j :: r, avs, i, ms => match avs with
    | .row o :: avs => match see ms j (some o) with | some ms => mt ob r avs i ms | none => none
    | .nils :: avs => match see ms j none with | some ms => mt ob r avs i ms | none => none
    | _ => none
  | .ptr j off :: r, avs, i, ms => match avs with
    | .ptr o off' :: avs => if off = off' then (match see ms j (some o) with | some ms => mt ob r avs i ms | none => none) else none
    | _ => none
  | .nilp :: r, avs, i, ms => match avs with | .nilp :: avs => mt ob r avs i ms | _ => none
  | .nils :: r, avs, i, ms => match avs with | .nils :: avs => mt ob r avs i ms | _ => none
  | .nilf :: r, avs, i, ms => match avs with | .nilf :: avs => mt ob r avs i ms | _ => none
  | .nili :: r, avs, i, ms => match avs with | .nili :: avs => mt ob r avs i ms | _ => none
  | .agg n :: r, avs, i, ms => match avs with
    | .agg cs :: avs => if cs.length = n then mt ob r (cs ++ avs) i ms else none
    | _ => none
  | .tuple n :: r, avs, i, ms => match avs with
    | .tuple cs :: avs => if cs.length = n then mt ob r (cs ++ avs) i ms else none
    | _ => none
  | .func fn nf nc :: r, avs, i, ms => match avs with
    | .func fn' f c :: avs => if fn = fn' ∧ f.length = nf ∧ c.length = nc then mt ob r (f ++ (c ++ avs)) i ms else none
    | _ => none
  | .iface t :: r, avs, i, ms => match avs with
    | .iface t' v :: avs => if t = t' then mt ob r (v :: avs) i ms else none
    | _ => none
  | .obox n :: r, avs, i, ms => match avs, ms.m[i]? with
    | [], some (some o) => match ob[o]? with
      | some cs => if cs.length = n ∧ n ≠ 0 ∧ cs.all AV.cell then mt ob r cs (i + 1) ms else none
      | none => none
    | _, _ => none
  | .orow e T :: r, avs, i, ms => match avs, ms.m[i]? with
    | [], some (some o) => match ob[o]? with
      | some [.rowc e' T' l] => if e' ≠ e then none else match castL T' T l with
        | some y => (mt ob r [] (i + 1) ms).map fun x => ((y, x.1), x.2)
        | none => none
      | _ => none
    | [], some none => (mt ob r [] (i + 1) ms).map fun x => ((([] : List T.den), x.1), x.2)
    | _, _ => none
  | .oiter :: r, avs, i, ms => match avs, ms.m[i]? with
    | [], some (some o) => match ob[o]? with
      | some [.siter s p] => (mt ob r [] (i + 1) ms).map fun x => (((s, (p : Int)), x.1), x.2)
      | _ => none
    | _, _ => none
  | .odead :: r, avs, i, ms => match avs with
    | [] => if i < ms.m.length then mt ob r [] (i + 1) ms else none
    | _ => none

/-- The state of a shape: what stands ahead of the first object, and the objects. -/
def em (ρ : Nat → Nat) : (l : List Sh) → HS l → List AV × Store
  | [], _ => ([], [])
  | .top :: r, v => let x := em ρ r v; (.top :: x.1, x.2)
  | .int k :: r, v => let x := em ρ r (v : Int × HS r).2; (.int k (v : Int × HS r).1 :: x.1, x.2)
  | .cint k n :: r, v => let x := em ρ r v; (.int k n :: x.1, x.2)
  | .bool :: r, v => let x := em ρ r (v : Bool × HS r).2; (.bool (v : Bool × HS r).1 :: x.1, x.2)
  | .cbool b :: r, v => let x := em ρ r v; (.bool b :: x.1, x.2)
  | .str :: r, v => let x := em ρ r (v : List UInt8 × HS r).2; (.str (v : List UInt8 × HS r).1 :: x.1, x.2)
  | .lst T :: r, v => let x := em ρ r (v : List T.den × HS r).2; (.lst T (v : List T.den × HS r).1 :: x.1, x.2)
  | .row i :: r, v => let x := em ρ r v; (.row (ρ i) :: x.1, x.2)
  | .ptr i off :: r, v => let x := em ρ r v; (.ptr (ρ i) off :: x.1, x.2)
  | .nilp :: r, v => let x := em ρ r v; (.nilp :: x.1, x.2)
  | .nils :: r, v => let x := em ρ r v; (.nils :: x.1, x.2)
  | .nilf :: r, v => let x := em ρ r v; (.nilf :: x.1, x.2)
  | .nili :: r, v => let x := em ρ r v; (.nili :: x.1, x.2)
  | .agg n :: r, v => let x := em ρ r v; (.agg (x.1.take n) :: x.1.drop n, x.2)
  | .tuple n :: r, v => let x := em ρ r v; (.tuple (x.1.take n) :: x.1.drop n, x.2)
  | .func fn nf nc :: r, v => let x := em ρ r v; (.func fn (x.1.take nf) ((x.1.drop nf).take nc) :: x.1.drop (nf + nc), x.2)
  | .iface t :: r, v => let x := em ρ r v; (match x.1 with | a :: q => (.iface t a :: q) | [] => [], x.2)
  | .obox _ :: r, v => let x := em ρ r v; ([], x.1 :: x.2)
  | .orow e T :: r, v => let x := em ρ r (v : List T.den × HS r).2; ([], [.rowc e T (v : List T.den × HS r).1] :: x.2)
  | .oiter :: r, v => let x := em ρ r (v : (List UInt8 × Int) × HS r).2; ([], [.siter (v : (List UInt8 × Int) × HS r).1.1 (v : (List UInt8 × Int) × HS r).1.2.toNat] :: x.2)
  | .odead :: r, v => let x := em ρ r v; ([], [] :: x.2)

inductive AX where
  | normal | exit (id : Nat) | goto (l : Nat) | ret
  deriving DecidableEq
/-- One of some shapes. -/
abbrev Outs := List (AX × List Sh)
def OTy : Outs → Type
  | [] => Empty
  | [l] => HS l.2
  | l :: l' :: r => HS l.2 ⊕ OTy (l' :: r)
def ocase {R : Type} : (os : Outs) → OTy os → (AX → (l : List Sh) → HS l → Option R) → Option R
  | [], _, _ => none
  | [l], y, k => k l.1 l.2 y
  | l :: l' :: r, y, k => Sum.elim (k l.1 l.2) (fun z => ocase (l' :: r) z k) (y : HS l.2 ⊕ OTy (l' :: r))
/-- What is known of a function: its arguments and objects, its result and objects. -/
structure FEnt where
  ins : List Sh
  outs : Outs
  fn : HS ins → Option (OTy outs)
def Ty.hasLst : Ty → Bool | .lst _ => true | .pair a b => a.hasLst || b.hasLst | _ => false
def Sh.isLst : Sh → Bool | .lst _ => true | .orow _ T => T.hasLst | _ => false
def nobj (l : List Sh) : Nat := (l.filter fun s => match s with | .obox _ | .orow _ _ | .oiter | .odead => true | _ => false).length
abbrev Calls' := FuncId → List FEnt

/-- Back in the caller's store: the objects that were handed over, then the new ones. -/
def merge : List (Option Nat) → Store → List Wr
  | some o :: m, cs :: st => .obj o cs :: merge m st
  | [], cs :: st => .new cs :: merge [] st
  | _, _ => []
def back (m : List (Option Nat)) (base : Nat) (i : Nat) : Nat :=
  match m[i]? with
  | some (some o) => o
  | _ => base + (i - m.length)

def inside (n : Nat) : Option Nat → Bool
  | some o => Nat.blt o n
  | none => false
section
variable {R : Type}
def callF (e : FEnt) (ob : Store) (args : List AV) (κ : AV → List Wr → Option R) : Option R :=
  match mt ob e.ins args 0 ⟨[], []⟩ with
  | some (v, ms) => if ms.m.all (inside ob.length) = true then (e.fn v).bind fun y => ocase e.outs y fun _ l u =>
      match (em (back ms.m ob.length) l u).1 with
      | [a] => if ms.m.length ≤ (em (back ms.m ob.length) l u).2.length then
          κ a ((if l.any Sh.isLst then frees ob (ms.fz.map AV.row) else []) ++ merge ms.m (em (back ms.m ob.length) l u).2) else none
      | _ => none
    else none
  | none => none

/-- Which of a function's entries fits. -/
def fitE (e : FEnt) (ob : Store) (args : List AV) : Bool := match mt ob e.ins args 0 ⟨[], []⟩ with | some _ => true | none => false
def pickE (ob : Store) (args : List AV) : List FEnt → Option FEnt
  | [] => none
  | [e] => some e
  | e :: e' :: es => match fitE e ob args with | true => some e | false => pickE ob args (e' :: es)
def elemId (Γ : Tys) (t : TypeId) : Option TypeId :=
  match Γ t with
  | some ti => match ti.d with | .slice e => some e | .array _ e => some e | _ => none
  | none => none
def elemTI (Γ : Tys) (t : TypeId) : Option TI := match elemId Γ t with | some e => Γ e | none => none

def placesF (Γ : Tys) : List (Nat × TypeId) → Option (List (Nat × Nat))
  | [] => some []
  | f :: fs => match Γ f.2, placesF Γ fs with
    | some ti, some l => some ((f.1, ti.size) :: l)
    | _, _ => none
def fillF (place : Nat → Option (Nat × Nat)) (cs : List AV) : List (Nat × AV) → Option (List AV)
  | [] => some cs
  | p :: rest => match place p.1 with
    | some (off, size) => if p.2.cells.length = size ∧ p.2.cells.all AV.leaf then (match put cs off p.2.cells with
      | some cs => fillF place cs rest
      | none => none) else none
    | none => none
def isMut (ob : Store) : AV → Bool
  | .row o => match ob[o]? with | some [.rowc _ _ _] => true | _ => false
  | _ => false
def appendG (Γ : Tys) (ob : Store) (slot : Nat) (t u e : TypeId) (ei : TI) (T : Ty) (x : AV) (l : List T.den) (kill : List Wr) (κ : AV → List Wr → Option R) : Option R :=
  match x with
  | .str c => match tdOf Γ u, ei.d, ei.zero with
    | .str, .int .u8, [.int .u8 z] => if z = 0 ∧ ei.size = 1 ∧ ei.bytes = 1 then (match castL .byte T c with
      | some m => chk (decide (l.length + m.length ≤ 140737488355328 / ei.bytes)) (κ (.row slot) (kill ++ [.new [.rowc e T (l ++ m)]]))
      | none => none) else none
    | _, _, _ => none
  | .nils => if u = t then chk (decide (l.length + 0 ≤ 140737488355328 / ei.bytes)) (κ (.row slot) (kill ++ [.new [.rowc e T (l ++ [])]])) else none
  | x => if u = t ∧ (T.hasLst && isMut ob x) = false then (match asRow ob x with
    | some ⟨T', m⟩ => match castL T' T m with
      | some m => chk (decide (l.length + m.length ≤ 140737488355328 / ei.bytes)) (κ (.row slot) (kill ++ [.new [.rowc e T (l ++ m)]]))
      | none => none
    | none => none) else none
def appendF (Γ : Tys) (ob : Store) (slot : Nat) (t u : TypeId) (s x : AV) (κ : AV → List Wr → Option R) : Option R :=
  match tdOf Γ t with
  | .slice e => match Γ e with
    | some ei => match ei.ty with
      | some T =>
        if ei.size ≠ T.size ∨ T.size = 0 ∨ ei.zero.length ≠ T.size then none else
        match s with
        | .nils => appendG Γ ob slot t u e ei T x [] [] κ
        | .row o => match ob[o]? with
          | some [.rowc e' T' l] => if e' = e then (match castL T' T l with | some l => appendG Γ ob slot t u e ei T x l [.obj o []] κ | none => none) else none
          | _ => none
        | _ => none
      | none => none
    | none => none
  | _ => none

def builtinF (Γ : Tys) (ob : Store) (slot : Nat) (b : Builtin) (ts : List TypeId) (args : List AV) (κ : AV → List Wr → Option R) : Option R :=
  match b, args, ts with
  | .len, [x], [t] => match tdOf Γ t, x with
    | .str, .str s => κ (.int .i64 (s.length : Int)) []
    | .slice _, .nils => κ (.int .i64 0) []
    | .slice _, x => match asRow ob x with | some ⟨_, l⟩ => κ (.int .i64 (l.length : Int)) [] | none => none
    | _, _ => none
  | .append, [s, x], [t, u] => appendF Γ ob slot t u s x κ
  | .max, [.int k x, .int k' y], _ => if k = k' then κ (.int k (if y > x then y else x)) [] else none
  | .min, [.int k x, .int k' y], _ => if k = k' then κ (.int k (if y < x then y else x)) [] else none
  | _, _, _ => none

/-- One operation: its value, and what it writes; a new object is number 'slot'. -/
def opF (Γ : Tys) (K : Calls') (ρ : Operand → AV) (ob : Store) (slot : Nat) (op : Op) (κ : AV → List Wr → Option R) : Option R :=
  match op with
  | .move x | .assign x => κ (ρ x) []
  | .pick c a b => match ρ c with | .bool c => cond c (κ (ρ a) []) (κ (ρ b) []) | _ => none
  | .alloc t => match Γ t with | some ti => cond (ti.zero.all AV.leaf) (κ (.ptr slot 0) [.new ti.zero]) none | none => none
  | .box _ x => cond ((ρ x).cells.all AV.leaf) (κ (.ptr slot 0) [.new (ρ x).cells]) none
  | .build t ps => match Γ t with
    | some ti => match ti.d with
      | .struct fs => match placesF Γ fs with
        | some pl => match fillF (fun i => pl[i]?) ti.zero (ps.toList.map fun p => (p.1, ρ p.2)) with
          | some cs => κ (.agg cs) []
          | none => none
        | none => none
      | _ => none
    | none => none
  | .range t x => match tdOf Γ t, ρ x with
    | .str, .str s => κ (.ptr slot 0) [.new [.siter s 0]]
    | _, _ => none
  | .next x isStr => match isStr, ρ x with
    | true, .ptr o 0 => match ob[o]? with
      | some [.siter s p] => cond (decide (p < s.length)) (κ (.tuple [.bool true, .int .i64 (p : Int), .int .i32 ((decR s p).1 : Int)]) [.obj o [.siter s (p + (decR s p).2)]]) (κ (.tuple [.bool false]) [])
      | _ => none
    | _, _ => none
  | .makeSlice t x y => match tdOf Γ t with
    | .slice e => match Γ e with
      | some ei => match ei.ty with
        | some T => match parseN T 1 ei.zero with
          | some (z :: _) => match ρ x, ρ y with
            | .int _ n, .int _ n' =>
              if ei.size ≠ T.size ∨ T.size = 0 ∨ ei.zero.length ≠ T.size then none else
              chk (decide (0 ≤ n) && (decide (n = n') && (decide ((ei.bytes : Int) * n ≤ 281474976710656) && decide (n ≤ 140737488355328)))) (κ (.row slot) [.new [.rowc e T (List.replicate n.toNat z)]])
            | _, _ => none
          | _ => none
        | none => none
      | none => none
    | _ => none
  | .buildSlice t n ps => match tdOf Γ t with
    | .slice e => match Γ e with
      | some ei => match ei.ty with
        | some T =>
          if ei.size ≠ T.size ∨ T.size = 0 ∨ 65536 < n * T.size ∨ ei.zero.length ≠ T.size then none else
          match fillF (fun i => some (i * T.size, T.size)) (List.replicate n ei.zero).flatten (ps.toList.map fun p => (p.1, ρ p.2)) with
          | some cs => match parseN T n (cs.map (view ob)) with
            | some l => κ (.row slot) (frees ob cs ++ [.new [.rowc e T l]])
            | none => none
          | none => none
        | none => none
      | none => none
    | _ => none
  | .load t a => match Γ t with
    | some ti => match ρ a with
      | .ptr o off => match ob[o]? with
        | some [.siter _ _] => none
        | some cs => match part ti cs off with | some v => κ v [] | none => none
        | none => none
      | .elt T x off => match part ti (T.leaves x) off with | some v => κ v [] | none => none
      | .rel o sz i off => match ob[o]? with
        | some [.rowc e T l] => if sz ≠ T.size then none else match part ti (T.leaves (l.getD i T.dflt)) off with | some v => κ v [] | none => none
        | _ => none
      | _ => none
    | none => none
  | .store t a x => match Γ t with
    | some ti => if (ρ x).cells.length = ti.size ∧ (ρ x).cells.all AV.leaf then match ρ a with
      | .ptr o off => match ob[o]? with
        | some [.rowc _ _ _] => none
        | some [.frow _ _] => none
        | some [.siter _ _] => none
        | some cs => match put cs off (ρ x).cells with | some cs => κ (.tuple []) [.obj o cs] | none => none
        | none => none
      | .rel o sz i off => match ob[o]? with
        | some [.rowc e T l] => if sz ≠ T.size ∨ (ρ x).cells.any (AV.isRow o) then none else match put (T.leaves (l.getD i T.dflt)) off ((ρ x).cells.map (view ob)) with
          | some vs => match T.parse vs with
            | some (y, []) => κ (.tuple []) (frees ob (ρ x).cells ++ [.obj o [.rowc e T (l.set i y)]])
            | _ => none
          | none => none
        | _ => none
      | _ => none
      else none
    | none => none
  | .nilCheck x => match ρ x with
    | .ptr o off => κ (.ptr o off) [] | .elt T x off => κ (.elt T x off) [] | .rel o sz i off => κ (.rel o sz i off) []
    | .func fn f c => match fn with | .func _ => κ (.func fn f c) [] | _ => none
    | _ => none
  | .binOp op t x y _ => match nilEq Γ t x y (ρ x) (ρ y) with
    | some b => (match op with | .eql => κ (.bool b) [] | .neq => κ (.bool (!b)) [] | _ => none)
    | none => binF Γ op t (ρ x) (ρ y) fun v => κ v []
  | .unOp op _ x => match op, ρ x with
    | .not, .bool b => κ (.bool (!b)) []
    | .neg, .int k n => κ (.int k (k.wrap (0 - n))) []
    | _, _ => none
  | .convert s d x => match tdOf Γ s, tdOf Γ d, ρ x with
    | .int _, .int k, .int _ n => κ (.int k (k.wrap n)) []
    | .str, .str, .str s => κ (.str s) []
    | .str, .slice e, .str c => match tdOf Γ e with
      | .int .u8 => chk (decide (c.length ≤ 9223372036854775807)) (κ (.lst .byte c) [])
      | _ => none
    | .slice e, .str, x => match tdOf Γ e with
      | .int .u8 => match x with
        | .nils => κ (.str []) []
        | x => match asRow ob x with
          | some ⟨T, l⟩ => match castL T .byte l with | some c => κ (.str c) [] | none => none
          | none => none
      | _ => none
    | _, _, _ => none
  | .makeFunc fn f c => κ (.func fn (f.toList.map ρ) (c.toList.map ρ)) []
  | .makeInterface t x => cond (match tdOf Γ t with | .iface | .other => false | _ => true) (κ (.iface t (ρ x)) []) none
  | .slice t x lo hi mx => match mx, ofIntO (lo.map ρ), ofIntO (hi.map ρ) with
    | none, some lo, some hi => match tdOf Γ t with
      | .str => match ρ x with
        | .str s => cut s lo hi fun s => κ (.str s) []
        | _ => none
      | .slice e => match ρ x with
        | .nils => match Γ e with
          | some _ => cut ([] : List Nat) lo hi fun _ => κ .nils []
          | none => none
        | x => match Γ e, asRow ob x with
          | some ei, some ⟨T, l⟩ => if T.size = ei.size then cut l lo hi fun l => κ (.lst T l) (frees ob [x]) else none
          | _, _ => none
      | _ => none
    | _, _, _ => none
  | .fieldAddr s x f => match tdOf Γ s with
    | .struct fs => match fs[f]? with
      | some (fo, ft) => if ((Γ ft).map (·.size)).getD 0 = 0 then none else match ρ x with
        | .ptr o off => κ (.ptr o (off + fo)) [] | .elt T x off => κ (.elt T x (off + fo)) [] | .rel o sz i off => κ (.rel o sz i (off + fo)) []
        | _ => none
      | none => none
    | _ => none
  | .field s x f => match tdOf Γ s, ρ x with
    | .struct fs, .agg cs => match fs[f]? with
      | some (fo, ft) => match Γ ft with
        | some ti => match part ti cs fo with | some v => κ v [] | none => none
        | none => none
      | none => none
    | _, _ => none
  | .indexAddr t x i => match tdOf Γ t with
   | .slice e => match ofInt (ρ i), Γ e with
    | some i, some ei => match ρ x with
      | .lst T l => if T.size = ei.size then chk (decide (0 ≤ i) && decide (i < (l.length : Int))) (κ (.elt T (l.getD i.toNat T.dflt) 0) []) else none
      | .row o => match ob[o]? with
        | some [.rowc e T l] => if T.size = ei.size then chk (decide (0 ≤ i) && decide (i < (l.length : Int))) (κ (.rel o T.size i.toNat 0) []) else none
        | some [.frow T l] => if T.size = ei.size then chk (decide (0 ≤ i) && decide (i < (l.length : Int))) (κ (.elt T (l.getD i.toNat T.dflt) 0) []) else none
        | _ => none
      | _ => none
    | _, _ => none
   | _ => none
  | .index t x i => match tdOf Γ t, ofInt (ρ i), ρ x with
    | .str, some i, .str s => chk (decide (0 ≤ i) && decide (i < (s.length : Int))) (κ (.int .u8 ((s.getD i.toNat 0).toNat : Int)) [])
    | _, _, _ => none
  | .extract x i => match ρ x with
    | .tuple vs => match vs[i]? with | some v => κ v [] | none => none
    | _ => none
  | .call c => match c.callee with
    | .builtin b => builtinF Γ ob slot b c.argTypes.toList (c.args.toList.map ρ) κ
    | .value f => match ρ f with
      | .func (.func id) first captured => match pickE ob (first ++ c.args.toList.map ρ ++ captured) (K id) with
        | some e => callF e ob (first ++ c.args.toList.map ρ ++ captured) κ
        | none => none
      | _ => none
    | _ => none
  | _ => none
end

structure St where
  t : List AV
  o : Store
def St.ev (st : St) : Operand → AV
  | .tmp t => st.t.getD t .top
  | .const v => ofConst v
  | .func f => .func (.func f) [] []
  | .global _ => .top
def wr (ob : Store) : List Wr → Store
  | [] => ob
  | .obj o cs :: r => wr (ob.set o cs) r
  | .new cs :: r => wr (ob ++ [cs]) r
def St.put (st : St) (d : Option Tmp) (v : AV) : List AV := match d with | some d => st.t.set d v | none => st.t

section
variable {R : Type}
def aops (Γ : Tys) (K : Calls') (ops : Array Oper) : List Oper → St → (St → Option R) → Option R
  | [], st, κ => κ st
  | o :: rest, st, κ =>
    let run (st : St) : Option R := opF Γ K st.ev st.o st.o.length o.op fun v ws => aops Γ K ops rest ⟨st.put o.dst v, wr st.o ws⟩ κ
    let skip (st : St) : Option R := aops Γ K ops rest ⟨st.put o.dst (.tuple []), st.o⟩ κ
    match o.guard with
    | none => run st
    | some (j, want) => match (ops[j]?).bind (·.dst) with
      | some d => match st.t[d]? with
        | some (.bool b) =>
          cond b (match want with | true => run ⟨st.t.set d (.bool true), st.o⟩ | false => skip ⟨st.t.set d (.bool true), st.o⟩)
                 (match want with | true => skip ⟨st.t.set d (.bool false), st.o⟩ | false => run ⟨st.t.set d (.bool false), st.o⟩)
        | some (.tuple []) => skip st
        | _ => none
      | none => none

/-! Regions that draw their order: each operation sees the objects of its footprint alone, and names its new objects by its own numbers; so the order is the same for all that is not ordered, if footprints are apart. -/
def memN (n : Nat) : List Nat → Bool
  | [] => false
  | x :: r => match Nat.beq x n with | true => true | false => memN n r
mutual
def AV.ren (ρ : Nat → Nat) : AV → AV
  | .row o => .row (ρ o) | .ptr o off => .ptr (ρ o) off | .rel o sz i off => .rel (ρ o) sz i off
  | .func fn f c => .func fn (renL ρ f) (renL ρ c) | .iface t v => .iface t (v.ren ρ)
  | .agg cs => .agg (renL ρ cs) | .tuple vs => .tuple (renL ρ vs)
  | .top => .top | .int k n => .int k n | .bool b => .bool b | .str s => .str s | .lst T l => .lst T l | .rowc e T l => .rowc e T l | .frow T l => .frow T l | .siter s p => .siter s p
  | .nils => .nils | .nilp => .nilp | .elt T x off => .elt T x off | .nilf => .nilf | .nili => .nili
def renL (ρ : Nat → Nat) : List AV → List AV
  | [] => []
  | a :: as => a.ren ρ :: renL ρ as
end
def AV.objs : Nat → AV → List Nat
  | _, .row o => [o] | _, .ptr o _ => [o] | _, .rel o _ _ _ => [o]
  | n + 1, .func _ f c => f.flatMap (AV.objs n) ++ c.flatMap (AV.objs n) | n + 1, .iface _ v => v.objs n
  | n + 1, .agg cs => cs.flatMap (AV.objs n) | n + 1, .tuple vs => vs.flatMap (AV.objs n)
  | _, _ => []
def addN : List Nat → List Nat → List Nat
  | [], l => l
  | x :: r, l => addN r (match memN x l with | true => l | false => x :: l)
def closeO (ob : Store) : Nat → List Nat → List Nat
  | 0, l => l
  | n + 1, l => closeO ob n (addN (l.flatMap fun o => (ob.getD o []).flatMap (AV.objs 4)) l)
def maskF (fp : List Nat) : Nat → Store → Store
  | _, [] => []
  | i, cs :: r => (match memN i fp with | true => cs | false => []) :: maskF fp (i + 1) r
def tmF (us : List Nat) (t : List AV) (i : Nat) : AV := match memN i us with | true => t.getD i .top | false => .top
def evF (t : Nat → AV) : Operand → AV
  | .tmp i => t i
  | .const v => ofConst v
  | .func f => .func (.func f) [] []
  | .global _ => .top
def slotF (L b i : Nat) : Nat := match Nat.blt i L with | true => i | false => b + (i - L)
/-- What an operation writes, its new objects named. -/
def newsF (ρ : Nat → Nat) : Nat → List Wr → List (Nat × List AV)
  | _, [] => []
  | b, .obj o cs :: r => (o, renL ρ cs) :: newsF ρ b r
  | b, .new cs :: r => (b, renL ρ cs) :: newsF ρ (b + 1) r
def setAll (ob : Store) : List (Nat × List AV) → Store
  | [] => ob
  | p :: r => setAll (ob.set p.1 p.2) r
def wrsOf : List Wr → List Nat
  | [] => []
  | .obj o _ :: r => addN [o] (wrsOf r)
  | .new _ :: r => wrsOf r
def newsN : List Wr → Nat
  | [] => 0
  | .obj _ _ :: r => newsN r
  | .new _ :: r => newsN r + 1
def allN (f : Nat → Bool) : List Nat → Bool
  | [] => true
  | x :: r => match f x with | true => allN f r | false => false
structure Inf where
  k : Nat
  us : List Nat
  fp : List Nat
  wrs : List Nat
  b : Nat
  n : Nat
def okW (x : Inf) (ws : List Wr) : Bool := (Nat.ble (newsN ws) x.n && allN (fun o => memN o x.wrs) (wrsOf ws)) && (allN (fun o => memN o x.fp) x.wrs && allN (fun o => Nat.blt o x.b) x.fp)
def nslots (K : Calls') : Op → Nat
  | .alloc _ | .box _ _ | .buildSlice _ _ _ | .makeSlice _ _ _ | .range _ _ => 1
  | .call c => match c.callee with
    | .builtin .append => 1
    | .value (.func id) => (K id).foldl (fun n e => Nat.max n (e.outs.foldl (fun n l => Nat.max n (nobj l.2)) 0)) 0
    | .value _ => 4
    | _ => 0
  | _ => 0
def apartN (xs ys : List Nat) : Bool := allN (fun o => !memN o ys) xs
def Inf.ws (x : Inf) : List Nat := x.wrs ++ List.range' x.b x.n
def indepD (ops : Array Oper) (x y : Inf) : Bool :=
  let dx := (ops[x.k]?).bind (·.dst)
  let dy := (ops[y.k]?).bind (·.dst)
  ((match dx with | some d => !memN d y.us && (match dy with | some d' => !Nat.beq d d' | none => true) | none => true) && (match dy with | some d => !memN d x.us | none => true)) &&
  (apartN x.ws y.fp && apartN y.ws x.fp && apartN x.ws y.ws)
def reachD (ops : Array Oper) : Nat → Nat → Nat → Bool
  | 0, _, _ => false
  | n + 1, k, j => match ops[j]? with
    | some o => o.after.toList.any fun e => Region.binds .any e && (Nat.beq e.on k || reachD ops n k e.on)
    | none => false
def indepAll (ops : Array Oper) (l : List Inf) : Bool := l.all fun x => l.all fun y => !Nat.blt x.k y.k || (indepD ops x y || (reachD ops 1 x.k y.k || reachD ops 3 x.k y.k))

section
variable {R : Type}
def dops (Γ : Tys) (K : Calls') (L : Nat) (ops : Array Oper) : List Oper → Nat → Nat → List Inf → St → (St → Option R) → Option R
  | [], _, _, acc, st, κ => cond (indepAll ops acc) (κ st) none
  | o :: rest, k, b, acc, st, κ =>
    let us := o.looksAt ops
    let n := nslots K o.op
    let fp := closeO st.o 3 (addN (o.op.operands.toList.flatMap fun x => (evF (tmF us st.t) x).objs 4) [])
    let run (st : St) : Option R := opF Γ K (evF (tmF us st.t)) (maskF fp 0 st.o) L o.op fun av ws =>
      cond (okW ⟨k, us, fp, wrsOf ws, b, n⟩ ws) (dops Γ K L ops rest (k + 1) (b + n) (⟨k, us, fp, wrsOf ws, b, n⟩ :: acc) ⟨st.put o.dst (av.ren (slotF L b)), setAll st.o (newsF (slotF L b) b ws)⟩ κ) none
    let skip (st : St) : Option R := dops Γ K L ops rest (k + 1) (b + n) (⟨k, us, fp, [], b, n⟩ :: acc) ⟨st.put o.dst (.tuple []), st.o⟩ κ
    cond (o.after.toList.all fun e => !Region.binds .any e || Nat.blt e.on k) (match o.guard with
    | none => run st
    | some (j, want) => match (ops[j]?).bind (·.dst) with
      | some d => match memN d us with
        | true => match st.t[d]? with
          | some (.bool b) =>
            cond b (match want with | true => run ⟨st.t.set d (.bool true), st.o⟩ | false => skip ⟨st.t.set d (.bool true), st.o⟩)
                   (match want with | true => skip ⟨st.t.set d (.bool false), st.o⟩ | false => run ⟨st.t.set d (.bool false), st.o⟩)
          | some (.tuple []) => skip st
          | _ => none
        | false => none
      | none => none) none
def slotsAll (K : Calls') : List Oper → Nat
  | [] => 0
  | o :: r => nslots K o.op + slotsAll K r
def dregion (Γ : Tys) (K : Calls') (ops : Array Oper) (st : St) (κ : St → Option R) : Option R :=
  dops Γ K (st.o.length + slotsAll K ops.toList) ops ops.toList 0 st.o.length [] ⟨st.t, st.o ++ List.replicate (slotsAll K ops.toList) []⟩ κ
end

/-- What is known of a piece of code: its state's shape, the shapes that it may leave, by which way. -/
structure LEnt where
  ins : List Sh
  outs : Outs
  fn : HS ins → Option (OTy outs)
inductive Ann where
  | nil
  | seq (a b : Ann) | cond (a b : Ann) | blk (a : Ann)
  | cut (a : Ann) (e : LEnt)      -- what stands behind 'a' is told by an entry
  | loop (e : LEnt)
  | scope (a : Ann) (l : List (Nat × LEnt))
def Ann.l : Ann → Ann | .seq a _ => a | .cut a _ => a | .cond a _ => a | .blk a => a | .scope a _ => a | _ => .nil
def Ann.r : Ann → Ann | .seq _ b => b | .cond _ b => b | _ => .nil
def Ann.find (l : Nat) : List (Nat × LEnt) → Option LEnt
  | [] => none
  | p :: r => match Nat.beq p.1 l with | true => some p.2 | false => Ann.find l r
def Ann.cuts : Ann → Option LEnt | .cut _ e => some e | _ => none
def Ann.labels : Ann → List (Nat × LEnt) | .scope _ l => l | _ => []

/-- The first 'np' objects are the function's own: they keep their places. -/
def ms0 (np : Nat) : MS := ⟨(List.range np).map some, []⟩
def runL (np : Nat) (e : LEnt) (st : St) (κ : AX → St → Option R) : Option R :=
  match mt st.o e.ins st.t 0 (ms0 np) with
  | some (v, _) => (e.fn v).bind fun y => ocase e.outs y fun ax l u => κ ax ⟨(em id l u).1, (em id l u).2⟩
  | none => none

def aev (Γ : Tys) (K : Calls') (np : Nat) : Code → Ann → St → (AX → St → Option R) → Option R
  | .skip, _, st, κ => κ .normal st
  | .label _, _, st, κ => κ .normal st
  | .region _ ops d, _, st, κ => cond d (dregion Γ K ops st (κ .normal)) (aops Γ K ops ops.toList st (κ .normal))
  | .seq a b, n, st, κ => aev Γ K np a n.l st fun e st' => match e with
    | .normal => match n.cuts with
      | some e => runL np e st' κ
      | none => aev Γ K np b n.r st' κ
    | e => κ e st'
  | .cond c x y, n, st, κ => match c with
    | .tmp t => match st.t[t]? with
      | some (.bool b) => cond b (aev Γ K np x n.l ⟨st.t.set t (.bool true), st.o⟩ κ) (aev Γ K np y n.r ⟨st.t.set t (.bool false), st.o⟩ κ)
      | _ => none
    | .const (.bool b) => cond b (aev Γ K np x n.l st κ) (aev Γ K np y n.r st κ)
    | _ => none
  | .block id c, n, st, κ => aev Γ K np c n.l st fun e st' => match e with
    | .exit id' => if id' = id then κ .normal st' else κ (.exit id') st'
    | e => κ e st'
  | .loop _, n, st, κ => match n with
    | .loop e => runL np e st κ
    | _ => none
  | .exit id, _, st, κ => κ (.exit id) st
  | .goto l, _, st, κ => κ (.goto l) st
  | .ret, _, st, κ => κ .ret st
  | .scope c, n, st, κ => aev Γ K np c n.l st fun e st' => match e with
    | .goto l => match Ann.find l n.labels with
      | some e => runL np e st' κ
      | none => none
    | e => κ e st'
  | _, _, _, _ => none

def aresult (Γ : Tys) (st : St) : ResultVar → Option AV
  | .tmp t => st.t[t]?
  | .cell a t => match st.t[a]?, Γ t with
    | some (.ptr o off), some ti => match st.o[o]? with
      | some [.siter _ _] => none
      | some cs => part ti cs off
      | none => none
    | _, _ => none
def aresults (Γ : Tys) (st : St) (rs : List ResultVar) : Option AV :=
  match rs with
  | [r] => aresult Γ st r
  | rs => (rs.mapM (aresult Γ st)).map .tuple

/-- A function's body: from its arguments to its result. -/
def afun (Γ : Tys) (K : Calls') (np nt : Nat) (rs : List ResultVar) (body : Code) (n : Ann) (args : List AV) (ob : Store) (κ : AV → Store → Option R) : Option R :=
  aev Γ K np body n ⟨args ++ List.replicate (nt - args.length) (.tuple []), ob⟩ fun e st => match e with
    | .normal | .ret => match aresults Γ st rs with | some v => κ v st.o | none => none
    | _ => none
/-- The end of a function, of a piece: which of the shapes it is. -/
def ofin (np : Nat) : (os : Outs) → AV → Store → Option (OTy os)
  | [], _, _ => none
  | [l], v, ob => match mt ob l.2 [v] 0 (ms0 np) with
    | some (x, _) => some x
    | none => none
  | l :: l' :: r, v, ob => match mt ob l.2 [v] 0 (ms0 np) with
    | some (x, _) => some (.inl x)
    | none => match ofin np (l' :: r) v ob with
      | some z => some (.inr z)
      | none => none
def oout (np : Nat) : (os : Outs) → AX → St → Option (OTy os)
  | [], _, _ => none
  | [l], e, st => if l.1 = e then (match mt st.o l.2 st.t 0 (ms0 np) with
    | some (x, _) => some x
    | none => none) else none
  | l :: l' :: r, e, st => match (if l.1 = e then mt st.o l.2 st.t 0 (ms0 np) else none) with
    | some (x, _) => some (.inl x)
    | none => match oout np (l' :: r) e st with
      | some z => some (.inr z)
      | none => none
/-- A round of a loop: over again, or out. -/
def around (np : Nat) (ins : List Sh) (os : Outs) (e : AX) (st : St) : Option (HS ins ⊕ OTy os) := match e with
  | .normal => match mt st.o ins st.t 0 (ms0 np) with
    | some (x, _) => some (.inl x)
    | none => none
  | e => match oout np os e st with
    | some y => some (.inr y)
    | none => none
def loopN {α β : Type} (F : α → Option (α ⊕ β)) : Nat → α → Option β
  | 0, _ => none
  | n + 1, v => (F v).bind (Sum.elim (loopN F n) some)
end
end Go.Ae
