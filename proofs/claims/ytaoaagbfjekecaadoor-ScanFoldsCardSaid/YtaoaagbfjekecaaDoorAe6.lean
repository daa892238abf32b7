/- Operations on addresses, indexes, fields, strings, numbers. -/
import Derived.Test.YtaoaagbfjekecaaDoorAe5
set_option linter.unusedVariables false
set_option linter.unusedSimpArgs false
namespace Go.Ae
open Go.RowKit
variable {P : Program} {Γ : Tys} {o : Oper} {a : Act} {w : World} {m : Md} {g : List Value} {ob : Store} {Z : AV → List Wr → Prop}

theorem fields_get {fields : Array Field} {fs : List (Nat × TypeId)} (h : fields.toList.map (fun f => (f.offset, f.type)) = fs) {f : Nat} {fo : Nat} {ft : TypeId} (hf : fs[f]? = some (fo, ft)) :
    ∃ fld, fields[f]? = some fld ∧ fld.offset = fo ∧ fld.type = ft := by
  subst h
  rw [List.getElem?_map] at hf
  obtain ⟨fld, h1, h2⟩ := Option.map_eq_some_iff.1 hf
  exact ⟨fld, by simpa using h1, by simpa using congrArg Prod.fst h2, by simpa using congrArg Prod.snd h2⟩

theorem op_fieldAddr (hΓ : GOk P Γ) (hob : RepOb w m g ob) {s : TypeId} {x : Operand} {f : Nat} {fs : List (Nat × TypeId)} {fo : Nat} {ft : TypeId} {av av' : AV} (hop : o.op = .fieldAddr s x f) (hs : tdOf Γ s = .struct fs) (hf : fs[f]? = some (fo, ft))
    (hz : ((Γ ft).map (·.size)).getD 0 ≠ 0) (h : RepV w m g av (a.eval x))
    (hav : (match av with | .ptr i off => av' = .ptr i (off + fo) | .elt T y off => av' = .elt T y (off + fo) | .rel i sz j off => av' = .rel i sz j (off + fo) | _ => False)) (hZ : Z av' []) : Post P o a w m g ob Z := by
  obtain ⟨fields, h1, h2⟩ := hΓ.structT hs
  obtain ⟨fld, h3, h4, h5⟩ := fields_get h2 hf
  cases hti : Γ ft with
  | none => simp [hti] at hz
  | some ti =>
    obtain ⟨info, z, k1, k2, _⟩ := hΓ.info hti
    have hsz : info.size ≠ 0 := by rw [k2]; simpa [hti] using hz
    have run : ∀ b q, a.eval x = .pointer (some ⟨b, q, none⟩) → (execOp a.eval o).run P w = .ok (.value (.pointer (some ⟨b, q + fo, none⟩))) w := by
      intro b q he
      simp [execOp, hop, he, Instr.fieldAt, run_underlying h1, h3, Instr.sureAddr, fieldPlace, h5, run_size k1, hsz, h4, lit_add]
    cases av <;> simp only at hav
    case ptr => subst hav; obtain ⟨b, k3, k4⟩ := h; exact Post.quiet hob (run b _ k4) hZ ⟨b, k3, rfl⟩
    case elt => subst hav; obtain ⟨b, q, us, k3, k4⟩ := h; exact Post.quiet hob (run b _ k3) hZ ⟨b, q, us, by rw [Nat.add_assoc], k4⟩
    case rel => subst hav; obtain ⟨b, n, c, k3, k4, k5⟩ := h; exact Post.quiet hob (run b _ k5) hZ ⟨b, n, c, k3, k4, by rw [Nat.add_assoc]⟩

theorem run_part (hΓ : GOk P Γ) {t : TypeId} {ti : TI} (ht : Γ t = some ti) {cs : List AV} {off : Nat} {v : AV} (hp : part ti cs off = some v) {arr : Array Value} (hr : RepL w m g cs arr.toList) :
    ∃ u, (Go.part t arr off).run P w = .ok u w ∧ RepV w m g v u := by
  obtain ⟨hl, hv⟩ := part_some hp
  have hr2 := (hr.drop off).take ti.size
  obtain ⟨info, z, h1, h2, _⟩ := hΓ.info ht
  rcases hv with ⟨hi, rfl⟩ | ⟨hi, hs⟩
  · refine ⟨.agg (arr.extract off (off + ti.size)), ?_, _, rfl, ?_⟩
    · simp [Go.part, run_isAgg hΓ ht, hi, run_size h1, h2]
    · have : (arr.extract off (off + ti.size)).toList = (arr.toList.drop off).take ti.size := by simp
      rw [this]; exact hr2
  · rw [hs] at hr2
    obtain ⟨u, r, h3, h4, h5⟩ := hr2
    refine ⟨u, ?_, h4⟩
    have : arr[off]? = some u := by
      have h0 : ((arr.toList.drop off).take ti.size)[0]? = some u := by rw [h3]; rfl
      rw [List.getElem?_take] at h0
      split at h0
      · rw [List.getElem?_drop] at h0; simpa using h0
      · cases h0
    simp [Go.part, run_isAgg hΓ ht, hi, this]

theorem op_field (hΓ : GOk P Γ) (hob : RepOb w m g ob) {s : TypeId} {x : Operand} {f : Nat} {fs : List (Nat × TypeId)} {fo : Nat} {ft : TypeId} {ti : TI} {cs : List AV} {v : AV} (hop : o.op = .field s x f) (hs : tdOf Γ s = .struct fs) (hf : fs[f]? = some (fo, ft))
    (ht : Γ ft = some ti) (h : RepV w m g (.agg cs) (a.eval x)) (hp : part ti cs fo = some v) (hZ : Z v []) : Post P o a w m g ob Z := by
  obtain ⟨fields, h1, h2⟩ := hΓ.structT hs
  obtain ⟨fld, h3, h4, h5⟩ := fields_get h2 hf
  obtain ⟨arr, h6, h7⟩ := h
  obtain ⟨u, h8, h9⟩ := run_part hΓ ht hp h7
  refine Post.quiet hob (v := u) ?_ hZ h9
  simp [execOp, hop, h6, Instr.field, run_underlying h1, h3, h4, h5, asAgg, h8]

theorem chk_some {R : Type} {b : Bool} {x : Option R} {r : R} (h : chk b x = some r) : b = true ∧ x = some r := by
  unfold chk at h; cases b <;> simp_all
theorem bnd {i : Int} {n : Nat} (h : (decide (0 ≤ i) && decide (i < (n : Int))) = true) : 0 ≤ i ∧ i < n ∧ i.toNat < n := by
  simp only [Bool.and_eq_true, decide_eq_true_eq] at h; omega

theorem op_indexStr (hob : RepOb w m g ob) {t : TypeId} {x y : Operand} {k : IntKind} {i : Int} {s : List UInt8} (hop : o.op = .index t x y) (ht : P.underlying t = some .string) (hi : RepV w m g (.int k i) (a.eval y)) (h : RepV w m g (.str s) (a.eval x))
    (hb : (decide (0 ≤ i) && decide (i < (s.length : Int))) = true) (hZ : Z (.int .u8 ((s.getD i.toNat 0).toNat : Int)) []) : Post P o a w m g ob Z := by
  obtain ⟨h0, h1, h2⟩ := bnd hb
  have e1 : (⟨⟨s⟩⟩ : ByteArray)[i.toNat]? = some (s.getD i.toNat 0) := by
    rw [List.getD_eq_getElem?_getD, List.getElem?_eq_getElem h2, Option.getD_some]
    rw [getElem?_pos (⟨⟨s⟩⟩ : ByteArray) i.toNat (by show i.toNat < (⟨s⟩ : Array UInt8).size; simpa using h2)]
    rfl
  refine Post.quiet hob (v := .int .u8 ((s.getD i.toNat 0).toNat : Int)) ?_ hZ ⟨rfl, Rng.byte _⟩
  simp [execOp, hop, hi.1, show a.eval x = _ from h, Instr.index, asIntOf, run_underlying ht, h0, e1]

theorem elemTI_some {t : TypeId} {ei : TI} (h : elemTI Γ t = some ei) : ∃ e, elemId Γ t = some e ∧ Γ e = some ei := by
  unfold elemTI at h; split at h
  · rename_i e he; exact ⟨e, he, h⟩
  · cases h
theorem elemTI_slice (hΓ : GOk P Γ) {t e : TypeId} (hs : tdOf Γ t = .slice e) : elemId Γ t = some e := by
  unfold tdOf at hs; unfold elemId
  split at hs
  · rename_i ti hti; simp [hs]
  · cases hs

theorem op_indexAddr_elt (hΓ : GOk P Γ) (hob : RepOb w m g ob) {t e : TypeId} {ei : TI} {x y : Operand} {k : IntKind} {i : Int} {T : Ty} {l : List T.den} {ao : Option Addr} (hop : o.op = .indexAddr t x y) (ht : tdOf Γ t = .slice e) (he : Γ e = some ei) (hsz : T.size = ei.size)
    (hi : RepV w m g (.int k i) (a.eval y)) (h : RepT w m (.lst T) l [a.eval x]) (hb : (decide (0 ≤ i) && decide (i < (l.length : Int))) = true) (hZ : Z (.elt T (l.getD i.toNat T.dflt) 0) []) : Post P o a w m g ob Z := by
  obtain ⟨h0, h1, h2⟩ := bnd hb
  obtain ⟨ao, cap, h3, h4, h5, _, h6⟩ := h
  have hx : a.eval x = .slice ao l.length cap := by simpa [asL] using h3
  have hgd : l[i.toNat]? = some (l.getD i.toNat T.dflt) := by rw [List.getD_eq_getElem?_getD, List.getElem?_eq_getElem h2]; rfl
  obtain ⟨b, q, us, rfl, h7, h8, h9, h10, h11⟩ := h6 i.toNat _ hgd
  obtain ⟨info, z, k1, k2, _⟩ := hΓ.info he
  refine Post.quiet hob (v := .pointer (some ⟨b, q + i.toNat * T.size, none⟩)) ?_ hZ ⟨b, _, us, rfl, h7, h9, h10, h11⟩
  simp [execOp, hop, hi.1, hx, Instr.indexAt, asIntOf, run_underlying (hΓ.slice ht), h0, h1, run_size k1, k2, ← hsz, lit_add]

theorem op_indexAddr_row (hΓ : GOk P Γ) (hob : RepOb w m g ob) {t e : TypeId} {ei : TI} {x y : Operand} {k : IntKind} {i : Int} {q : Nat} {e' : TypeId} {T : Ty} {l : List T.den} (hop : o.op = .indexAddr t x y) (ht : tdOf Γ t = .slice e) (he : Γ e = some ei) (hsz : T.size = ei.size)
    (hi : RepV w m g (.int k i) (a.eval y)) (h : RepV w m g (.row q) (a.eval x)) (ho : ob[q]? = some [.rowc e' T l]) (hb : (decide (0 ≤ i) && decide (i < (l.length : Int))) = true) (hZ : Z (.rel q T.size i.toNat 0) []) : Post P o a w m g ob Z := by
  obtain ⟨h0, h1, h2⟩ := bnd hb
  obtain ⟨h3, _⟩ := h
  obtain ⟨xs, h4, _⟩ := (hob.obj q _ _ h3 ho).rowc e' T l rfl
  obtain ⟨ao, cap, h5, _, _, _, h6, _⟩ := own_cells h4
  obtain ⟨b, rfl, _⟩ := h6 (by omega)
  obtain ⟨info, z, k1, k2, _⟩ := hΓ.info he
  rw [h5] at h3
  refine Post.quiet hob (v := .pointer (some ⟨b, i.toNat * T.size, none⟩)) ?_ hZ ⟨b, _, _, h3, h2, rfl⟩
  simp [execOp, hop, hi.1, h5, Instr.indexAt, asIntOf, run_underlying (hΓ.slice ht), h0, h1, run_size k1, k2, ← hsz, lit_add]

/-! ### Lengths, parts of strings and slices -/
theorem asRow_rep (hob : RepOb w m g ob) {x : AV} {v : Value} {T : Ty} {l : List T.den} (h : RepV w m g x v) (hx : asRow ob x = some ⟨T, l⟩) :
    ∃ ao cap, v = .slice ao l.length cap ∧ l.length ≤ cap ∧ cap ≤ 9223372036854775807 := by
  unfold asRow at hx
  split at hx
  · cases hx; obtain ⟨ao, cap, h1, h2, h3, _⟩ := h; exact ⟨ao, cap, by simpa [asL] using h1, h2, h3⟩
  · rename_i q
    split at hx
    · rename_i e T' l' ho; cases hx
      obtain ⟨xs, h4, _⟩ := (hob.obj q _ _ h.1 ho).rowc _ _ _ rfl
      obtain ⟨ao, cap, h5, h6, h7, _⟩ := own_cells h4
      exact ⟨ao, cap, h5, h6, h7⟩
    · rename_i T' l' ho; cases hx
      obtain ⟨ao, cap, h1, h2, h3, _⟩ := (hob.obj q _ _ h.1 ho).frow _ _ rfl
      exact ⟨ao, cap, by simpa [asL] using h1, h2, h3⟩
    · cases hx
  · cases hx

theorem op_len_slice (hob : RepOb w m g ob) {t e : TypeId} {x : Operand} {v : Value} {ao : Option Addr} {n cap : Nat} (hop : o.op = .call { callee := .builtin .len, args := #[x], argTypes := #[t] }) (ht : P.underlying t = some (.slice e))
    (hx : a.eval x = .slice ao n cap) (hZ : Z (.int .i64 n) []) : Post P o a w m g ob Z :=
  Post.quiet hob (v := .int .i64 n) (by simp [execOp, hop, hx, resolve, invoke, builtin, Builtin.len_, run_underlying ht, goInt]) hZ ⟨rfl, Rng.of_ne (by simp)⟩
theorem op_len_str (hob : RepOb w m g ob) {t : TypeId} {x : Operand} {s : List UInt8} (hop : o.op = .call { callee := .builtin .len, args := #[x], argTypes := #[t] }) (ht : P.underlying t = some .string)
    (hx : RepV w m g (.str s) (a.eval x)) (hZ : Z (.int .i64 s.length) []) : Post P o a w m g ob Z :=
  Post.quiet hob (v := .int .i64 s.length) (by
    have : (⟨⟨s⟩⟩ : ByteArray).size = s.length := rfl
    simp [execOp, hop, show a.eval x = _ from hx, resolve, invoke, builtin, Builtin.len_, run_underlying ht, goInt, this]) hZ ⟨rfl, Rng.of_ne (by simp)⟩
end Go.Ae
