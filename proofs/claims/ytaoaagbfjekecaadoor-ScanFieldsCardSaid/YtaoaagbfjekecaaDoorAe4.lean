/- Each operation's value and writes, as the evaluator tells them, are those of the machine. -/
import Derived.Test.YtaoaagbfjekecaaDoorAe3
import Derived.Laws.OwnMore
import Derived.Laws.StructEq
import Derived.Laws.BytesString
set_option linter.unusedVariables false
set_option linter.unusedSimpArgs false
namespace Go.Ae
open Go.RowKit

def DOk (desc : TypeDesc) : TD → Prop
  | .int k => desc = .int k | .bool => desc = .bool | .str => desc = .string | .slice e => desc = .slice e
  | .struct fs => ∃ fields, desc = .struct fields ∧ fields.toList.map (fun f => (f.offset, f.type)) = fs
  | .array n e => desc = .array n e | .ptr e => desc = .pointer e | .map k e => desc = .map k e
  | .func => ∃ a b c, desc = .func a b c | .iface => ∃ ms, desc = .interface ms
  | .other => (match desc with | .struct _ | .array _ _ => False | _ => True)
structure TOk (P : Program) (t : TypeId) (ti : TI) : Prop where
  i : ∃ info desc z, P.info? t = some info ∧ P.underlying t = some desc ∧ info.size = ti.size ∧ info.bytes = ti.bytes ∧ info.zero = some z ∧ DOk desc ti.d ∧
    (∀ w m g, RepL w m g ti.zero z.cells.toList) ∧ (ti.isAgg = false → ∀ cs, z ≠ .agg cs)
  cmp : ti.cmp = true → P.stoodInHeld t = false ∧ P.eqGuardType P.depth t = false ∧ ∀ fs, P.underlying t = some (.struct fs) → ∀ f ∈ fs.toList, f.name ≠ "_"
def GOk (P : Program) (Γ : Tys) : Prop := ∀ t ti, Γ t = some ti → TOk P t ti

variable {P : Program} {Γ : Tys}
theorem GOk.info (hΓ : GOk P Γ) {t : TypeId} {ti : TI} (h : Γ t = some ti) : ∃ info z, P.info? t = some info ∧ info.size = ti.size ∧ info.bytes = ti.bytes ∧ info.zero = some z ∧ ∀ w m g, RepL w m g ti.zero z.cells.toList := by
  obtain ⟨info, desc, z, h1, _, h3, h4, h5, _, h7, _⟩ := (hΓ t ti h).i
  exact ⟨info, z, h1, h3, h4, h5, h7⟩
theorem GOk.und (hΓ : GOk P Γ) {t : TypeId} {ti : TI} (h : Γ t = some ti) : ∃ desc, P.underlying t = some desc ∧ DOk desc ti.d := by
  obtain ⟨info, desc, z, _, h2, _, _, _, h6, _⟩ := (hΓ t ti h).i
  exact ⟨desc, h2, h6⟩
theorem GOk.td (hΓ : GOk P Γ) {t : TypeId} {d : TD} (h : tdOf Γ t = d) (hd : d ≠ .other) : ∃ desc, P.underlying t = some desc ∧ DOk desc d := by
  unfold tdOf at h
  split at h
  · rename_i ti hti; obtain ⟨desc, h1, h2⟩ := hΓ.und hti; exact ⟨desc, h1, h ▸ h2⟩
  · exact absurd h.symm hd
theorem GOk.slice (hΓ : GOk P Γ) {t e : TypeId} (h : tdOf Γ t = .slice e) : P.underlying t = some (.slice e) := by
  obtain ⟨desc, h1, h2⟩ := hΓ.td h (by simp); rw [h1, show desc = _ from h2]
theorem GOk.intT (hΓ : GOk P Γ) {t : TypeId} {k : IntKind} (h : tdOf Γ t = .int k) : P.underlying t = some (.int k) := by
  obtain ⟨desc, h1, h2⟩ := hΓ.td h (by simp); rw [h1, show desc = _ from h2]
theorem GOk.boolT (hΓ : GOk P Γ) {t : TypeId} (h : tdOf Γ t = .bool) : P.underlying t = some .bool := by
  obtain ⟨desc, h1, h2⟩ := hΓ.td h (by simp); rw [h1, show desc = _ from h2]
theorem GOk.strT (hΓ : GOk P Γ) {t : TypeId} (h : tdOf Γ t = .str) : P.underlying t = some .string := by
  obtain ⟨desc, h1, h2⟩ := hΓ.td h (by simp); rw [h1, show desc = _ from h2]
theorem GOk.structT (hΓ : GOk P Γ) {t : TypeId} {fs : List (Nat × TypeId)} (h : tdOf Γ t = .struct fs) : ∃ fields, P.underlying t = some (.struct fields) ∧ fields.toList.map (fun f => (f.offset, f.type)) = fs := by
  obtain ⟨desc, h1, fields, rfl, h2⟩ := hΓ.td h (by simp); exact ⟨fields, h1, h2⟩
theorem tdOf_some {t : TypeId} {ti : TI} (h : Γ t = some ti) : tdOf Γ t = ti.d := by simp [tdOf, h]

theorem run_info {t : TypeId} {info : TypeInfo} (h : P.info? t = some info) (w : World) : (typeInfo t).run P w = .ok info w := by simp [typeInfo, h]
theorem run_size {t : TypeId} {info : TypeInfo} (h : P.info? t = some info) (w : World) : (sizeOf t).run P w = .ok info.size w := by simp [sizeOf, run_info h]
theorem run_isAgg (hΓ : GOk P Γ) {t : TypeId} {ti : TI} (h : Γ t = some ti) (w : World) : (isAgg t).run P w = .ok ti.isAgg w := by
  obtain ⟨desc, h1, h2⟩ := hΓ.und h
  unfold TI.isAgg
  simp only [isAgg, Sem.run_bind, run_underlying h1, Result.andThen_ok]
  cases hd : ti.d <;> rw [hd] at h2 <;> simp only [DOk] at h2
  case struct => obtain ⟨f, rfl, _⟩ := h2; rfl
  case func => obtain ⟨a, b, c, rfl⟩ := h2; rfl
  case iface => obtain ⟨a, rfl⟩ := h2; rfl
  case other => cases desc <;> first | rfl | exact h2.elim
  all_goals (subst h2; rfl)

theorem leaf_one {w : World} {m : Md} {g : List Value} {a : AV} {v : Value} (h : RepV w m g a v) (hl : a.leaf = true) : v.oneCell' = true := by
  cases a <;> simp [AV.leaf] at hl <;> simp only [RepV] at h
  case int => rw [h.1]; rfl
  case bool => rw [h]; rfl
  case str => rw [h]; rfl
  case lst => obtain ⟨ao, cap, he, _⟩ := h; cases he; rfl
  case row => obtain ⟨_, ao, n, c, rfl⟩ := h; rfl
  case nils => rw [h]; rfl
  case ptr => obtain ⟨b, _, rfl⟩ := h; rfl
  case nilp => rw [h]; rfl
  case elt => obtain ⟨b, o, us, rfl, _⟩ := h; rfl
  case rel => obtain ⟨b, n, c, _, _, rfl⟩ := h; rfl
  case func => obtain ⟨b, n, rfl, _⟩ := h; rfl
  case nilf => rw [h]; rfl
  case iface => obtain ⟨u, rfl, _⟩ := h; rfl
  case nili => rw [h]; rfl
theorem leafL_one {w : World} {m : Md} {g : List Value} : ∀ {as : List AV} {vs : List Value}, RepL w m g as vs → as.all AV.leaf = true → ∀ v ∈ vs, v.oneCell' = true
  | [], _, h, _, v, hv => by rw [show _ = [] from h] at hv; cases hv
  | a :: as, _, ⟨u, r, rfl, h2, h3⟩, hl, v, hv => by
    simp only [List.all_cons, Bool.and_eq_true] at hl
    rcases List.mem_cons.1 hv with rfl | hv
    · exact leaf_one h2 hl.1
    · exact leafL_one h3 hl.2 v hv
theorem cells_rep {w : World} {m : Md} {g : List Value} {a : AV} {v : Value} (h : RepV w m g a v) (hl : a.cells.all AV.leaf = true) : RepL w m g a.cells v.cells.toList := by
  by_cases ha : ∃ cs, a = .agg cs
  · obtain ⟨cs, rfl⟩ := ha
    obtain ⟨arr, rfl, h2⟩ := h
    exact h2
  · have e : a.cells = [a] := by cases a <;> first | rfl | exact absurd ⟨_, rfl⟩ ha
    rw [e] at hl ⊢
    have h1 := leaf_one h (by simpa using hl)
    have e2 : v.cells = #[v] := by cases v <;> first | rfl | (simp [Value.oneCell'] at h1)
    rw [e2]
    exact .cons h .nil

theorem ofConst_rep {w : World} {m : Md} {g : List Value} (v : Value) : RepV w m g (ofConst v) v := by
  unfold ofConst
  split
  · rename_i k n
    split
    · rename_i h; exact ⟨rfl, inR_iff k n h⟩
    · trivial
  · rfl
  · rename_i s; cases s; rfl
  · rfl
  · rfl
  · rfl
  · rfl
  · exact ⟨_, rfl, rfl⟩
  · trivial

/-- What an operation comes to. -/
def Post (P : Program) (o : Oper) (a : Act) (w : World) (m : Md) (g : List Value) (ob : Store) (Z : AV → List Wr → Prop) : Prop :=
  ∀ (next : Act → World → Prop) (Q : Exit → Act → World → Prop),
    (∀ v w' m' g' av ws, Z av ws → RepV w' m' g' av v → RepOb w' m' g' (wr ob ws) → (∀ (o : Nat) v, g[o]? = some v → g'[o]? = some v) → Stp w m w' m' → next (a.put o.dst v) w') →
    o.wp P a w next Q

variable {o : Oper} {a : Act} {w : World} {m : Md} {g : List Value} {ob : Store} {Z : AV → List Wr → Prop}
theorem Post.val {v : Value} {w' : World} {m' : Md} {g' : List Value} {av : AV} {ws : List Wr} (hr : (execOp a.eval o).run P w = .ok (.value v) w') (hZ : Z av ws) (h1 : RepV w' m' g' av v) (h2 : RepOb w' m' g' (wr ob ws))
    (h3 : ∀ (o : Nat) v, g[o]? = some v → g'[o]? = some v) (h4 : Stp w m w' m') : Post P o a w m g ob Z := by
  intro next Q K
  unfold Oper.wp
  rw [hr]
  exact K v w' m' g' av ws hZ h1 h2 h3 h4
theorem Post.skip {w' : World} {m' : Md} {g' : List Value} {ws : List Wr} (hr : (execOp a.eval o).run P w = .ok .skip w') (hZ : Z (.tuple []) ws) (h2 : RepOb w' m' g' (wr ob ws))
    (h3 : ∀ (o : Nat) v, g[o]? = some v → g'[o]? = some v) (h4 : Stp w m w' m') : Post P o a w m g ob Z := by
  intro next Q K
  unfold Oper.wp
  rw [hr]
  exact K undef w' m' g' _ ws hZ ⟨#[], rfl, rfl⟩ h2 h3 h4
theorem Post.quiet (hob : RepOb w m g ob) {v : Value} {av : AV} (hr : (execOp a.eval o).run P w = .ok (.value v) w) (hZ : Z av []) (h1 : RepV w m g av v) : Post P o a w m g ob Z :=
  Post.val hr hZ h1 hob (fun _ _ h => h) (Stp.refl _ hob.nm)
theorem Post.mono {Z' : AV → List Wr → Prop} (h : Post P o a w m g ob Z) (hz : ∀ av ws, Z av ws → Z' av ws) : Post P o a w m g ob Z' :=
  fun next Q K => h next Q fun v w' m' g' av ws hZ => K v w' m' g' av ws (hz _ _ hZ)

/-- A new box. -/
theorem Post.alloc (hob : RepOb w m g ob) {cells : Array Value} {ty : TypeId} {cs : List AV}
    (hr : (execOp a.eval o).run P w = .ok (.value (.pointer (some ⟨w.heap.size, 0, none⟩))) (w.alloc (.cells cells ty)))
    (hc : RepL w m g cs cells.toList) (hl : cs.all AV.leaf = true) (hZ : Z (.ptr ob.length 0) [.new cs]) : Post P o a w m g ob Z := by
  have hnb : ∀ b, blk (.pointer (some ⟨w.heap.size, 0, none⟩)) cs = some b → b = w.heap.size := by
    intro b hb
    unfold blk at hb
    split at hb
    · cases hb
    · cases hb
    · cases hb
    · simpa using hb.symm
  obtain ⟨r1, r2, r3⟩ := hob.add (w' := w.alloc (.cells cells ty)) (.pointer (some ⟨w.heap.size, 0, none⟩)) cs rfl rfl rfl (by simp) (fun b hb _ => Below.heap_alloc _ _ _ hb) (fun b hb hlt => by have := hnb b hb; omega)
    (fun hs => ⟨fun e T l he => by subst he; exact (not_rowc hc).elim, fun T l he => by subst he; exact (not_frow hc).elim, fun hb => ⟨w.heap.size, ty, cells, rfl, heap_alloc_new _ _, hc.mono hs (fun o v h => by rw [List.getElem?_append_left (List.getElem?_eq_some_iff.1 h).1]; exact h)⟩, fun s p he => by subst he; exact (not_siter hc).elim⟩)
  refine Post.val (av := .ptr ob.length 0) (ws := [.new cs]) hr hZ ⟨w.heap.size, ?_, rfl⟩ r1 r3 r2
  rw [← hob.len]; simp

/-! ### Moves -/
theorem op_move {x : Operand} (hob : RepOb w m g ob) {av : AV} (hop : o.op = .move x ∨ o.op = .assign x) (h : RepV w m g av (a.eval x)) (hZ : Z av []) : Post P o a w m g ob Z := by
  refine Post.quiet hob ?_ hZ h
  rcases hop with hop | hop <;> simp [execOp, hop]
theorem op_pick {c x y : Operand} (hob : RepOb w m g ob) {b : Bool} {av : AV} (hop : o.op = .pick c x y) (hc : a.eval c = .bool b) (h : RepV w m g av (if b then a.eval x else a.eval y)) (hZ : Z av []) : Post P o a w m g ob Z := by
  refine Post.quiet hob ?_ hZ h
  simp [execOp, hop, hc, asBool]
theorem op_alloc (hΓ : GOk P Γ) (hob : RepOb w m g ob) {t : TypeId} {ti : TI} (hop : o.op = .alloc t) (ht : Γ t = some ti) (hl : ti.zero.all AV.leaf = true) (hZ : Z (.ptr ob.length 0) [.new ti.zero]) : Post P o a w m g ob Z := by
  obtain ⟨info, z, h1, h2, h3, h4, h5⟩ := hΓ.info ht
  exact Post.alloc hob (cells := z.cells) (ty := t) (by simp [execOp, hop, Instr.alloc, zeroValue, run_info h1, h4, newVar, newRow]) (h5 w m g) hl hZ
theorem op_box (hob : RepOb w m g ob) {t : TypeId} {x : Operand} {av : AV} (hop : o.op = .box t x) (h : RepV w m g av (a.eval x)) (hl : av.cells.all AV.leaf = true) (hZ : Z (.ptr ob.length 0) [.new av.cells]) : Post P o a w m g ob Z :=
  Post.alloc hob (cells := (a.eval x).cells) (ty := t) (by simp [execOp, hop, Instr.box, newVar, newRow]) (cells_rep h hl) hl hZ
theorem op_func (hob : RepOb w m g ob) {fn : Fn} {f c : Array Operand} {ρ : Operand → AV} (hop : o.op = .makeFunc fn f c) (hρ : ∀ x, RepV w m g (ρ x) (a.eval x)) (hZ : Z (.func fn (f.toList.map ρ) (c.toList.map ρ)) []) : Post P o a w m g ob Z := by
  have hL : ∀ l : List Operand, RepL w m g (l.map ρ) (l.map a.eval) := by
    intro l; induction l with
    | nil => exact .nil
    | cons x l ih => exact .cons (hρ x) ih
  refine Post.quiet hob (v := .func fn (f.map a.eval) (c.map a.eval)) ?_ hZ ⟨_, _, rfl, ?_, ?_⟩
  · simp [execOp, hop, Instr.makeFunc]
  · simpa using hL f.toList
  · simpa using hL c.toList
theorem op_iface (hΓ : GOk P Γ) (hob : RepOb w m g ob) {t : TypeId} {x : Operand} {av : AV} (hop : o.op = .makeInterface t x) (ht : (match tdOf Γ t with | .iface | .other => false | _ => true) = true) (h : RepV w m g av (a.eval x)) (hZ : Z (.iface t av) []) : Post P o a w m g ob Z := by
  refine Post.quiet hob (v := .iface t (a.eval x)) ?_ hZ ⟨_, rfl, h⟩
  obtain ⟨desc, h1, h2⟩ := hΓ.td (t := t) rfl (by intro e; rw [e] at ht; simp at ht)
  cases hd : tdOf Γ t <;> rw [hd] at h2 ht <;> (try (simp at ht; done)) <;> simp only [DOk] at h2
  case func => obtain ⟨a1, b1, c1, rfl⟩ := h2; simp [execOp, hop, Instr.makeInterface, run_underlying h1]
  case struct => obtain ⟨a1, rfl, _⟩ := h2; simp [execOp, hop, Instr.makeInterface, run_underlying h1]
  all_goals (subst h2; simp [execOp, hop, Instr.makeInterface, run_underlying h1])
theorem op_extract (hob : RepOb w m g ob) {x : Operand} {i : Nat} {vs : List AV} {av : AV} (hop : o.op = .extract x i) (h : RepV w m g (.tuple vs) (a.eval x)) (hi : vs[i]? = some av) (hZ : Z av []) : Post P o a w m g ob Z := by
  obtain ⟨arr, h1, h2⟩ := h
  obtain ⟨v, h3, h4⟩ := h2.get i av hi
  refine Post.quiet hob (v := v) ?_ hZ h4
  have : arr[i]? = some v := by simpa using h3
  simp [execOp, hop, h1, Instr.extract, this]
theorem op_nilCheck (hob : RepOb w m g ob) {x : Operand} {av : AV} (hop : o.op = .nilCheck x) (h : RepV w m g av (a.eval x)) (hav : (match av with | .ptr _ _ | .elt _ _ _ | .rel _ _ _ _ | .func (.func _) _ _ => true | _ => false) = true) (hZ : Z av []) : Post P o a w m g ob Z := by
  refine Post.quiet hob (v := a.eval x) ?_ hZ h
  have h' := h
  cases av <;> (try (simp at hav; done)) <;> simp only [RepV] at h'
  case ptr => obtain ⟨b, _, h2⟩ := h'; simp [execOp, hop, h2]
  case elt => obtain ⟨b, o1, us, h2, _⟩ := h'; simp [execOp, hop, h2]
  case rel => obtain ⟨b, n, c, _, _, h2⟩ := h'; simp [execOp, hop, h2]
  case func fn f c =>
    obtain ⟨b, n, h2, _⟩ := h'
    cases fn <;> simp at hav
    simp [execOp, hop, h2]
theorem op_not (hob : RepOb w m g ob) {x : Operand} {t : TypeId} {b : Bool} (hop : o.op = .unOp .not t x) (h : RepV w m g (.bool b) (a.eval x)) (hZ : Z (.bool (!b)) []) : Post P o a w m g ob Z :=
  Post.quiet hob (v := .bool (!b)) (by simp [execOp, hop, show a.eval x = .bool b from h, Op.unary]) hZ rfl
theorem op_neg (hob : RepOb w m g ob) {x : Operand} {t : TypeId} {k : IntKind} {n : Int} (hop : o.op = .unOp .neg t x) (h : RepV w m g (.int k n) (a.eval x)) (hZ : Z (.int k (k.wrap (0 - n))) []) : Post P o a w m g ob Z :=
  Post.quiet hob (v := .int k (k.wrap (0 - n))) (by simp [execOp, hop, h.1, Op.unary, Op.intArith]) hZ ⟨rfl, Rng.wrap _ _⟩
end Go.Ae
