/- Tables of types and functions. -/
import Derived.Test.YtaoaagbfjekecaaDoorAe24
set_option linter.unusedVariables false
namespace Go.Ae
open Go.RowKit
def dOf : TypeDesc → TD
  | .int k => .int k | .bool => .bool | .string => .str | .slice e => .slice e
  | .struct fs => .struct (fs.toList.map fun f => (f.offset, f.type)) | .array n e => .array n e | .pointer e => .ptr e | .map k e => .map k e
  | .func _ _ _ => .func | .interface _ => .iface
  | _ => .other
def aggV : Value → Bool
  | .agg _ => true
  | _ => false
def cmpOk (P : Program) (t : TypeId) (desc : TypeDesc) : Bool := (!P.stoodInHeld t && !P.eqGuardType P.depth t) && (match desc with | .struct fs => fs.toList.all fun f => decide (f.name ≠ "_") | _ => true)
def mkTI (P : Program) (ty : Option Ty) (cmp : Bool) (t : TypeId) : Option TI :=
  match P.info? t, P.underlying t with
  | some info, some desc => match info.zero with
    | some z => chk ((!aggV z || (⟨dOf desc, info.size, info.bytes, ty, z.cells.toList.map ofConst, cmp⟩ : TI).isAgg) && (!cmp || cmpOk P t desc)) (some ⟨dOf desc, info.size, info.bytes, ty, z.cells.toList.map ofConst, cmp⟩)
    | none => none
  | _, _ => none
theorem mkTI_ok {P : Program} {ty : Option Ty} {cmp : Bool} {t : TypeId} {ti : TI} (h : mkTI P ty cmp t = some ti) : TOk P t ti := by
  unfold mkTI at h
  split at h <;> try (cases h; done)
  rename_i info desc hi hu
  split at h <;> try (cases h; done)
  rename_i z hz
  have key : ∀ (hA : aggV z = true → (⟨dOf desc, info.size, info.bytes, ty, z.cells.toList.map ofConst, cmp⟩ : TI).isAgg = true) (hC : cmp = true → cmpOk P t desc = true), TOk P t ⟨dOf desc, info.size, info.bytes, ty, z.cells.toList.map ofConst, cmp⟩ := by
    intro hA hC
    refine ⟨⟨info, desc, z, hi, hu, rfl, rfl, hz, ?_, fun w m g => ?_, fun hf cs he => ?_⟩, fun hc => ?_⟩
    · cases desc <;> simp only [dOf, DOk] <;> first | rfl | trivial | exact ⟨_, rfl, rfl⟩ | exact ⟨_, _, _, rfl⟩ | exact ⟨_, rfl⟩
    · show RepL w m g (z.cells.toList.map ofConst) z.cells.toList
      generalize z.cells.toList = l
      induction l with
      | nil => exact .nil
      | cons v l ih => exact .cons (ofConst_rep v) ih
    · rw [hA (by rw [he]; rfl)] at hf; cases hf
    · have h1 := hC hc
      simp only [cmpOk, Bool.and_eq_true, Bool.not_eq_true'] at h1
      refine ⟨h1.1.1, h1.1.2, fun fs hfs f hf => ?_⟩
      rw [hu] at hfs
      cases hfs
      have h2 := h1.2
      simp only at h2
      simpa using List.all_eq_true.1 h2 f hf
  obtain ⟨hc, h⟩ := chk_some h
  cases h
  simp only [Bool.and_eq_true, Bool.or_eq_true, Bool.not_eq_true'] at hc
  exact key (fun h => hc.1.resolve_left (by rw [h]; simp)) fun h => hc.2.resolve_left (by rw [h]; simp)

def look {α : Type} (t : Nat) : List (Nat × α) → Option α
  | [] => none
  | p :: r => match Nat.beq p.1 t with | true => some p.2 | false => look t r
theorem look_some {α : Type} {t : Nat} {x : α} : ∀ {l : List (Nat × α)}, look t l = some x → (t, x) ∈ l
  | [], h => by cases h
  | p :: r, h => by
    simp only [look] at h
    split at h
    · rename_i hb
      have := Nat.eq_of_beq_eq_true hb
      cases h
      rw [← this]; simp
    · exact List.mem_cons_of_mem _ (look_some h)
theorem gok_of {P : Program} {l : List (Nat × TI)} (h : l.map (fun p => mkTI P p.2.ty p.2.cmp p.1) = l.map (fun p => some p.2)) : GOk P fun t => look t l := by
  intro t ti ht
  have hm := look_some ht
  have : ∀ (l : List (Nat × TI)), l.map (fun p => mkTI P p.2.ty p.2.cmp p.1) = l.map (fun p => some p.2) → (t, ti) ∈ l → mkTI P ti.ty ti.cmp t = some ti := by
    intro l
    induction l with
    | nil => intro _ h; cases h
    | cons p l ih =>
      intro he hm
      simp only [List.map_cons, List.cons.injEq] at he
      rcases List.mem_cons.1 hm with rfl | hm
      · exact he.1
      · exact ih he.2 hm
  exact mkTI_ok (this l h hm)
def lookA (t : Nat) : List (Nat × FEnt) → List FEnt
  | [] => []
  | p :: r => match Nat.beq p.1 t with | true => p.2 :: lookA t r | false => lookA t r
theorem kok_nil (P : Program) : KOk P fun f => lookA f [] := fun f e h => by cases h
theorem kok_cons {P : Program} {f : FuncId} {e : FEnt} {l : List (Nat × FEnt)} (h : FnOk P f e) (hl : KOk P fun f => lookA f l) : KOk P fun f' => lookA f' ((f, e) :: l) := by
  intro f' e' h'
  simp only [lookA] at h'
  split at h'
  · rename_i hb
    have hff : f = f' := Nat.eq_of_beq_eq_true hb
    rcases List.mem_cons.1 h' with rfl | h'
    · rw [← hff]; exact h
    · exact hl f' e' h'
  · exact hl f' e' h'
def subc : Code → List Nat → Code
  | c, [] => c
  | .seq a _, 0 :: p => subc a p
  | .seq _ b, 1 :: p => subc b p
  | .cond _ a _, 0 :: p => subc a p
  | .cond _ _ b, 1 :: p => subc b p
  | .block _ a, _ :: p => subc a p
  | .loop a, _ :: p => subc a p
  | .scope a, _ :: p => subc a p
  | c, _ => c
def code (f : Func) : Code := f.body.getD .skip
def stof (l : List Sh) (v : HS l) : St := ⟨(em id l v).1, (em id l v).2⟩
end Go.Ae
