/- Matching a state against a shape forgets, and tells nothing false. -/
import Derived.Test.YtaoaagbfjekecaaDoorAe9
set_option linter.unusedVariables false
set_option linter.unusedSimpArgs false
namespace Go.Ae
open Go.RowKit
variable {w : World} {m : Md} {g : List Value} {ob : Store}

def gOf (g : List Value) (ms : MS) : List Value := ms.m.map fun x => match x with | some o => g.getD o (.slice none 0 0) | none => .slice none 0 0
def Ext (ms msf : MS) : Prop := (∃ e, msf.m = ms.m ++ e) ∧ ∀ o ∈ ms.fz, o ∈ msf.fz
theorem Ext.refl (ms : MS) : Ext ms ms := ⟨⟨[], by simp⟩, fun _ h => h⟩
theorem Ext.trans {a b c : MS} (h : Ext a b) (k : Ext b c) : Ext a c := by
  obtain ⟨⟨e1, h1⟩, h2⟩ := h
  obtain ⟨⟨e2, k1⟩, k2⟩ := k
  exact ⟨⟨e1 ++ e2, by rw [k1, h1, List.append_assoc]⟩, fun o ho => k2 o (h2 o ho)⟩
theorem Ext.get {a b : MS} (h : Ext a b) {i : Nat} {x : Option Nat} (hi : a.m[i]? = some x) : b.m[i]? = some x := by
  obtain ⟨⟨e, h1⟩, _⟩ := h
  rw [h1, List.getElem?_append_left (List.getElem?_eq_some_iff.1 hi).1]; exact hi
theorem see_spec {ms ms' : MS} {i : Nat} {o : Option Nat} (h : see ms i o = some ms') : Ext ms ms' ∧ ms'.m[i]? = some o := by
  unfold see at h
  split at h
  · split at h
    · rename_i a b hm
      split at h
      · rename_i e; cases h; subst e
        exact ⟨Ext.refl _, hm⟩
      · cases h
    · cases h
  · split at h
    · rename_i hi
      have key : ∀ q : MS, q = ⟨ms.m ++ [o], ms.fz⟩ → Ext ms q ∧ q.m[i]? = some o := by
        rintro q rfl
        exact ⟨⟨⟨[o], rfl⟩, fun _ h => h⟩, by rw [hi]; simp⟩
      split at h
      · split at h
        · cases h
        · cases h; exact key _ rfl
      · cases h; exact key _ rfl
    · cases h
theorem froze_ext (a : AV) (ms : MS) : Ext ms (froze ob a ms) := by
  unfold froze
  split
  · split
    · exact ⟨⟨[], by simp⟩, fun o h => List.mem_cons_of_mem _ h⟩
    · exact Ext.refl _
  · exact Ext.refl _
theorem gOf_some {ms : MS} {i o : Nat} {v : Value} (h : ms.m[i]? = some (some o)) (hg : g[o]? = some v) : (gOf g ms)[i]? = some v := by
  unfold gOf
  rw [List.getElem?_map, h]
  simp [List.getD_eq_getElem?_getD, hg]
theorem gOf_none {ms : MS} {i : Nat} (h : ms.m[i]? = some none) : (gOf g ms)[i]? = some (.slice none 0 0) := by
  unfold gOf
  rw [List.getElem?_map, h]; rfl

theorem hs_cons {l : List Sh} {α : Type} {x : Option (HS l × MS)} {f : HS l × MS → α} {y : α} (h : x.map f = some y) : ∃ v msf, x = some (v, msf) ∧ f (v, msf) = y := by
  obtain ⟨⟨v, msf⟩, h1, h2⟩ := Option.map_eq_some_iff.1 h
  exact ⟨v, msf, h1, h2⟩

/-- The claim of the induction. -/
def MtOk (w : World) (m m1 : Md) (g : List Value) (avs : List AV) (i : Nat) (ms msf : MS) (x : List AV × Store) : Prop :=
  Ext ms msf ∧ i + x.2.length = msf.m.length ∧ (∀ o ∈ msf.fz, some o ∉ msf.m) ∧
  ((∀ o ∈ msf.fz, ∀ v b, g[o]? = some v → v.ownBlock = some b → ¬ m1 b) →
    (∀ vs, RepL w m g avs vs → RepL w m1 (gOf g msf) x.1 vs) ∧
    ∀ (j : Nat) gi cs, (gOf g msf)[i + j]? = some gi → x.2[j]? = some cs → RepO w m1 (gOf g msf) gi cs)

theorem MtOk.leaf {m1 : Md} {avs : List AV} {i : Nat} {ms ms1 msf : MS} {x : List AV × Store} {a b : AV} (h : MtOk w m m1 g avs i ms1 msf x) (he : Ext ms ms1)
    (hab : (∀ o ∈ msf.fz, ∀ v b, g[o]? = some v → v.ownBlock = some b → ¬ m1 b) → ∀ v, RepV w m g a v → RepV w m1 (gOf g msf) b v) : MtOk w m m1 g (a :: avs) i ms msf (b :: x.1, x.2) := by
  obtain ⟨h1, h2, h3, h4⟩ := h
  refine ⟨he.trans h1, h2, h3, fun hz => ⟨?_, (h4 hz).2⟩⟩
  rintro vs ⟨v, r, rfl, k1, k2⟩
  exact ⟨v, r, rfl, hab hz v k1, (h4 hz).1 r k2⟩

section
variable (ob : Store) (r : List Sh) (avs : List AV) (i : Nat) (ms : MS)
theorem mt_nil  : mt ob ([]) avs i ms = (match avs with
    | [] => if i = ms.m.length ∧ ms.fz.all (fun o => !ms.m.contains (some o)) then some ((), ms) else none
    | _ => none) := rfl
theorem mt_top  {v : HS r} {msf : MS} : mt ob (.top :: r) avs i ms = some (v, msf) → (match avs with
    | _ :: avs => mt ob r avs i ms
    | _ => none : Option (HS r × MS)) = some (v, msf) := fun h => h
theorem mt_int (k : IntKind) : mt ob (.int k :: r) avs i ms = (match avs with
    | .int k' n :: avs => if k = k' then (mt ob r avs i ms).map fun x => ((n, x.1), x.2) else none
    | _ => none) := rfl
theorem mt_cint (k : IntKind) (c : Int) {v : HS r} {msf : MS} : mt ob (.cint k c :: r) avs i ms = some (v, msf) → (match avs with
    | .int k' n :: avs => if k = k' ∧ c = n then mt ob r avs i ms else none
    | _ => none : Option (HS r × MS)) = some (v, msf) := fun h => h
theorem mt_bool  : mt ob (.bool :: r) avs i ms = (match avs with
    | .bool b :: avs => (mt ob r avs i ms).map fun x => ((b, x.1), x.2)
    | _ => none) := rfl
theorem mt_cbool (c : Bool) {v : HS r} {msf : MS} : mt ob (.cbool c :: r) avs i ms = some (v, msf) → (match avs with
    | .bool b :: avs => if c = b then mt ob r avs i ms else none
    | _ => none : Option (HS r × MS)) = some (v, msf) := fun h => h
theorem mt_str  : mt ob (.str :: r) avs i ms = (match avs with
    | .str s :: avs => (mt ob r avs i ms).map fun x => ((s, x.1), x.2)
    | _ => none) := rfl
theorem mt_lst (T : Ty) : mt ob (.lst T :: r) avs i ms = (match avs with
    | .nils :: avs => (mt ob r avs i ms).map fun x => ((([] : List T.den), x.1), x.2)
    | a :: avs => match asRow ob a with
      | some ⟨T', l⟩ => match castL T' T l with
        | some y => (mt ob r avs i (froze ob a ms)).map fun x => ((y, x.1), x.2)
        | none => none
      | none => none
    | [] => none) := rfl
theorem mt_row (j : Nat) {v : HS r} {msf : MS} : mt ob (.row j :: r) avs i ms = some (v, msf) → (match avs with
    | .row o :: avs => match see ms j (some o) with | some ms => mt ob r avs i ms | none => none
    | .nils :: avs => match see ms j none with | some ms => mt ob r avs i ms | none => none
    | _ => none : Option (HS r × MS)) = some (v, msf) := fun h => h
theorem mt_ptr (j : Nat) (off : Nat) {v : HS r} {msf : MS} : mt ob (.ptr j off :: r) avs i ms = some (v, msf) → (match avs with
    | .ptr o off' :: avs => if off = off' then (match see ms j (some o) with | some ms => mt ob r avs i ms | none => none) else none
    | _ => none : Option (HS r × MS)) = some (v, msf) := fun h => h
theorem mt_nilp  {v : HS r} {msf : MS} : mt ob (.nilp :: r) avs i ms = some (v, msf) → (match avs with | .nilp :: avs => mt ob r avs i ms | _ => none : Option (HS r × MS)) = some (v, msf) := fun h => h
theorem mt_nils  {v : HS r} {msf : MS} : mt ob (.nils :: r) avs i ms = some (v, msf) → (match avs with | .nils :: avs => mt ob r avs i ms | _ => none : Option (HS r × MS)) = some (v, msf) := fun h => h
theorem mt_nilf  {v : HS r} {msf : MS} : mt ob (.nilf :: r) avs i ms = some (v, msf) → (match avs with | .nilf :: avs => mt ob r avs i ms | _ => none : Option (HS r × MS)) = some (v, msf) := fun h => h
theorem mt_nili  {v : HS r} {msf : MS} : mt ob (.nili :: r) avs i ms = some (v, msf) → (match avs with | .nili :: avs => mt ob r avs i ms | _ => none : Option (HS r × MS)) = some (v, msf) := fun h => h
theorem mt_agg (n : Nat) {v : HS r} {msf : MS} : mt ob (.agg n :: r) avs i ms = some (v, msf) → (match avs with
    | .agg cs :: avs => if cs.length = n then mt ob r (cs ++ avs) i ms else none
    | _ => none : Option (HS r × MS)) = some (v, msf) := fun h => h
theorem mt_tuple (n : Nat) {v : HS r} {msf : MS} : mt ob (.tuple n :: r) avs i ms = some (v, msf) → (match avs with
    | .tuple cs :: avs => if cs.length = n then mt ob r (cs ++ avs) i ms else none
    | _ => none : Option (HS r × MS)) = some (v, msf) := fun h => h
theorem mt_func (fn : Fn) (nf : Nat) (nc : Nat) {v : HS r} {msf : MS} : mt ob (.func fn nf nc :: r) avs i ms = some (v, msf) → (match avs with
    | .func fn' f c :: avs => if fn = fn' ∧ f.length = nf ∧ c.length = nc then mt ob r (f ++ (c ++ avs)) i ms else none
    | _ => none : Option (HS r × MS)) = some (v, msf) := fun h => h
theorem mt_iface (t : TypeId) {v : HS r} {msf : MS} : mt ob (.iface t :: r) avs i ms = some (v, msf) → (match avs with
    | .iface t' v :: avs => if t = t' then mt ob r (v :: avs) i ms else none
    | _ => none : Option (HS r × MS)) = some (v, msf) := fun h => h
theorem mt_obox (n : Nat) {v : HS r} {msf : MS} : mt ob (.obox n :: r) avs i ms = some (v, msf) → (match avs, ms.m[i]? with
    | [], some (some o) => match ob[o]? with
      | some cs => if cs.length = n ∧ n ≠ 0 ∧ cs.all AV.cell then mt ob r cs (i + 1) ms else none
      | none => none
    | _, _ => none : Option (HS r × MS)) = some (v, msf) := fun h => h
theorem mt_orow (e : TypeId) (T : Ty) : mt ob (.orow e T :: r) avs i ms = (match avs, ms.m[i]? with
    | [], some (some o) => match ob[o]? with
      | some [.rowc e' T' l] => if e' ≠ e then none else match castL T' T l with
        | some y => (mt ob r [] (i + 1) ms).map fun x => ((y, x.1), x.2)
        | none => none
      | _ => none
    | [], some none => (mt ob r [] (i + 1) ms).map fun x => ((([] : List T.den), x.1), x.2)
    | _, _ => none) := rfl
theorem mt_oiter : mt ob (.oiter :: r) avs i ms = (match avs, ms.m[i]? with
    | [], some (some o) => match ob[o]? with
      | some [.siter s p] => (mt ob r [] (i + 1) ms).map fun x => (((s, (p : Int)), x.1), x.2)
      | _ => none
    | _, _ => none) := rfl
theorem mt_odead  {v : HS r} {msf : MS} : mt ob (.odead :: r) avs i ms = some (v, msf) → (match avs with
    | [] => if i < ms.m.length then mt ob r [] (i + 1) ms else none
    | _ => none : Option (HS r × MS)) = some (v, msf) := fun h => h
end
set_option maxHeartbeats 4000000 in
theorem mt_sound (hob : RepOb w m g ob) {m1 : Md} (hs : Stp w m w m1) : ∀ (l : List Sh) (avs : List AV) (i : Nat) (ms : MS) (v : HS l) (msf : MS), mt ob l avs i ms = some (v, msf) → MtOk w m m1 g avs i ms msf (em id l v) := by
  intro l
  induction l with
  | nil =>
    intro avs i ms v msf h
    rw [mt_nil] at h
    split at h
    · split at h
      · rename_i hi
        simp only [Option.some.injEq, Prod.mk.injEq] at h
        obtain ⟨_, rfl⟩ := h
        refine ⟨Ext.refl _, by simpa [em] using hi.1, fun o ho hm => ?_, fun _ => ⟨fun vs h => h, fun j gi cs _ h => by simp [em] at h⟩⟩
        have := List.all_eq_true.1 hi.2 o ho
        simp at this; exact this hm
      · cases h
    · cases h
  | cons s r ih =>
    intro avs i ms v msf h
    cases s with
    | top =>
      change HS r at v
      replace h := mt_top _ _ _ _ _ h
      split at h
      · rename_i a avs
        exact (ih _ _ _ _ _ h).leaf (Ext.refl _) fun _ _ _ => trivial
      · cases h
    | int k =>
      rw [mt_int] at h
      split at h
      · rename_i k' n avs
        split at h
        · rename_i e; subst e
          obtain ⟨v', ms', h1, h2⟩ := hs_cons h
          cases h2
          exact (ih _ _ _ _ _ h1).leaf (Ext.refl _) fun _ v hv => hv
        · cases h
      · cases h
    | cint k c =>
      change HS r at v
      replace h := mt_cint _ _ _ _ _ _ _ h
      split at h
      · rename_i k' n avs
        split at h
        · rename_i e; obtain ⟨rfl, rfl⟩ := e
          exact (ih _ _ _ _ _ h).leaf (Ext.refl _) fun _ v hv => hv
        · cases h
      · cases h
    | bool =>
      rw [mt_bool] at h
      split at h
      · rename_i b avs
        obtain ⟨v', ms', h1, h2⟩ := hs_cons h
        cases h2
        exact (ih _ _ _ _ _ h1).leaf (Ext.refl _) fun _ v hv => hv
      · cases h
    | cbool c =>
      change HS r at v
      replace h := mt_cbool _ _ _ _ _ _ h
      split at h
      · rename_i b avs
        split at h
        · rename_i e; subst e
          exact (ih _ _ _ _ _ h).leaf (Ext.refl _) fun _ v hv => hv
        · cases h
      · cases h
    | str =>
      rw [mt_str] at h
      split at h
      · rename_i q avs
        obtain ⟨v', ms', h1, h2⟩ := hs_cons h
        cases h2
        exact (ih _ _ _ _ _ h1).leaf (Ext.refl _) fun _ v hv => hv
      · cases h
    | lst T =>
      rw [mt_lst] at h
      split at h
      · obtain ⟨v', ms', h1, h2⟩ := hs_cons h
        cases h2
        refine (ih _ _ _ _ _ h1).leaf (Ext.refl _) fun _ v hv => ?_
        rw [show v = _ from hv]
        exact ⟨none, 0, rfl, Nat.le_refl _, by omega, fun _ => rfl, fun j x hx => absurd (show ([] : List T.den)[j]? = some x from hx) (by simp)⟩
      · rename_i a avs _
        split at h
        · rename_i T' l' hrow
          split at h
          · rename_i y hy
            obtain ⟨rfl, rfl⟩ := castL_some hy
            obtain ⟨v', ms', h1, h2⟩ := hs_cons h
            cases h2
            have hk := ih _ _ _ _ _ h1
            refine hk.leaf (froze_ext a ms) fun hz v hv => ?_
            have hext := hk.1
            unfold asRow at hrow
            split at hrow
            · cases hrow; exact RepT.mono (T := .lst _) hs hv
            · rename_i o _
              split at hrow
              · rename_i e T' l' ho
                cases hrow
                obtain ⟨xs, k1, k2⟩ := (hob.obj o v _ hv.1 ho).rowc _ _ _ rfl
                refine own_repT k1 (k2.mono hs) fun b hb => hz o (hext.2 o ?_) v b hv.1 hb
                simp [froze, ho]
              · rename_i T' l' ho
                cases hrow
                exact ((hob.obj o v _ hv.1 ho).frow _ _ rfl).mono hs
              · cases hrow
            · cases hrow
          · cases h
        · cases h
      · cases h
    | row j =>
      change HS r at v
      replace h := mt_row _ _ _ _ _ _ h
      split at h
      · rename_i o avs
        split at h
        · rename_i ms' hsee
          obtain ⟨e1, e2⟩ := see_spec hsee
          have hk := ih _ _ _ _ _ h
          exact hk.leaf e1 fun _ v hv => ⟨gOf_some (hk.1.get e2) hv.1, hv.2⟩
        · cases h
      · rename_i avs
        split at h
        · rename_i ms' hsee
          obtain ⟨e1, e2⟩ := see_spec hsee
          have hk := ih _ _ _ _ _ h
          exact hk.leaf e1 fun _ v hv => by rw [show v = _ from hv]; exact ⟨gOf_none (hk.1.get e2), _, _, _, rfl⟩
        · cases h
      · cases h
    | ptr j off =>
      change HS r at v
      replace h := mt_ptr _ _ _ _ _ _ _ h
      split at h
      · rename_i o off' avs
        split at h
        · rename_i e; subst e
          split at h
          · rename_i ms' hsee
            obtain ⟨e1, e2⟩ := see_spec hsee
            have hk := ih _ _ _ _ _ h
            exact hk.leaf e1 fun _ v ⟨b, k1, k2⟩ => ⟨b, gOf_some (hk.1.get e2) k1, k2⟩
          · cases h
        · cases h
      · cases h
    | nilp =>
      change HS r at v
      replace h := mt_nilp _ _ _ _ _ h
      split at h
      · rename_i avs
        exact (ih _ _ _ _ _ h).leaf (Ext.refl _) fun _ v hv => hv
      · cases h
    | nils =>
      change HS r at v
      replace h := mt_nils _ _ _ _ _ h
      split at h
      · rename_i avs
        exact (ih _ _ _ _ _ h).leaf (Ext.refl _) fun _ v hv => hv
      · cases h
    | nilf =>
      change HS r at v
      replace h := mt_nilf _ _ _ _ _ h
      split at h
      · rename_i avs
        exact (ih _ _ _ _ _ h).leaf (Ext.refl _) fun _ v hv => hv
      · cases h
    | nili =>
      change HS r at v
      replace h := mt_nili _ _ _ _ _ h
      split at h
      · rename_i avs
        exact (ih _ _ _ _ _ h).leaf (Ext.refl _) fun _ v hv => hv
      · cases h
    | agg n =>
      change HS r at v
      replace h := mt_agg _ _ _ _ _ _ h
      split at h
      · rename_i cs avs
        split at h
        · rename_i e; subst e
          obtain ⟨h1, h2, h3, h4⟩ := ih _ _ _ _ _ h
          refine ⟨h1, h2, h3, fun hz => ⟨?_, (h4 hz).2⟩⟩
          rintro vs ⟨u, us, rfl, ⟨arr, rfl, k1⟩, k2⟩
          have hk := (h4 hz).1 _ (k1.append k2)
          have hl : arr.toList.length = cs.length := k1.length
          have t1 := hk.take cs.length
          have t2 := hk.drop cs.length
          rw [← hl, List.take_left] at t1
          rw [← hl, List.drop_left] at t2
          exact ⟨_, us, rfl, ⟨arr, rfl, by rw [← hl]; exact t1⟩, by rw [← hl]; exact t2⟩
        · cases h
      · cases h
    | tuple n =>
      change HS r at v
      replace h := mt_tuple _ _ _ _ _ _ h
      split at h
      · rename_i cs avs
        split at h
        · rename_i e; subst e
          obtain ⟨h1, h2, h3, h4⟩ := ih _ _ _ _ _ h
          refine ⟨h1, h2, h3, fun hz => ⟨?_, (h4 hz).2⟩⟩
          rintro vs ⟨u, us, rfl, ⟨arr, rfl, k1⟩, k2⟩
          have hk := (h4 hz).1 _ (k1.append k2)
          have hl : arr.toList.length = cs.length := k1.length
          have t1 := hk.take cs.length
          have t2 := hk.drop cs.length
          rw [← hl, List.take_left] at t1
          rw [← hl, List.drop_left] at t2
          exact ⟨_, us, rfl, ⟨arr, rfl, by rw [← hl]; exact t1⟩, by rw [← hl]; exact t2⟩
        · cases h
      · cases h
    | func fn nf nc =>
      change HS r at v
      replace h := mt_func _ _ _ _ _ _ _ _ h
      split at h
      · rename_i fn' f c avs
        split at h
        · rename_i e; obtain ⟨rfl, rfl, rfl⟩ := e
          obtain ⟨h1, h2, h3, h4⟩ := ih _ _ _ _ _ h
          refine ⟨h1, h2, h3, fun hz => ⟨?_, (h4 hz).2⟩⟩
          rintro vs ⟨u, us, rfl, ⟨fs, cs, rfl, k1, k1'⟩, k2⟩
          have hk := (h4 hz).1 _ (k1.append (k1'.append k2))
          have hl : fs.toList.length = f.length := k1.length
          have hl' : cs.toList.length = c.length := k1'.length
          have t1 := hk.take f.length
          have t2 := (hk.drop f.length).take c.length
          have t3 := (hk.drop f.length).drop c.length
          have e1 : (fs.toList ++ (cs.toList ++ us)).take f.length = fs.toList := by rw [← hl, List.take_left]
          have e2 : (fs.toList ++ (cs.toList ++ us)).drop f.length = cs.toList ++ us := by rw [← hl, List.drop_left]
          rw [e1] at t1
          rw [e2, ← hl', List.take_left, hl'] at t2
          rw [e2, ← hl', List.drop_left, hl', List.drop_drop] at t3
          exact ⟨_, us, rfl, ⟨fs, cs, rfl, t1, t2⟩, t3⟩
        · cases h
      · cases h
    | iface t =>
      change HS r at v
      replace h := mt_iface _ _ _ _ _ _ h
      split at h
      · rename_i t' q0 avs
        split at h
        · rename_i e; subst e
          obtain ⟨h1, h2, h3, h4⟩ := ih _ _ _ _ _ h
          refine ⟨h1, h2, h3, fun hz => ⟨?_, (h4 hz).2⟩⟩
          rintro vs ⟨u, us, rfl, ⟨q, rfl, k1⟩, k2⟩
          obtain ⟨a', as', e1, e2, e3⟩ : ∃ a' as', (em id r v).1 = a' :: as' ∧ RepV w m1 (gOf g msf) a' q ∧ RepL w m1 (gOf g msf) as' us := by
            have hk := (h4 hz).1 _ (RepL.cons k1 k2)
            cases hq : (em id r v).1 with
            | nil => rw [hq] at hk; cases hk
            | cons a' as' =>
              rw [hq] at hk
              obtain ⟨v', r', e, k3, k4⟩ := hk
              cases e
              exact ⟨a', as', rfl, k3, k4⟩
          simp only [em, e1]
          exact ⟨_, us, rfl, ⟨q, rfl, e2⟩, e3⟩
        · cases h
      · cases h
    | obox n =>
      change HS r at v
      replace h := mt_obox _ _ _ _ _ _ h
      split at h
      · rename_i o hm
        split at h
        · rename_i cs ho
          split at h
          · rename_i hcond
            obtain ⟨hl, hn0, hcell⟩ := hcond
            obtain ⟨h1, h2, h3, h4⟩ := ih _ _ _ _ _ h
            refine ⟨h1, by simp only [em, List.length_cons]; omega, h3, fun hz => ⟨fun vs hv => hv, fun j gi cs' k1 k2 => ?_⟩⟩
            cases j with
            | succ j => exact (h4 hz).2 j gi cs' (by rwa [Nat.add_right_comm, Nat.add_assoc]) (by simpa [em] using k2)
            | zero =>
              simp only [em, List.getElem?_cons_zero, Option.some.injEq] at k2
              subst k2
              have hlt : o < g.length := by rw [hob.len]; exact (List.getElem?_eq_some_iff.1 ho).1
              have hgo : g[o]? = some g[o] := List.getElem?_eq_getElem hlt
              have hgi := gOf_some (h1.get hm) hgo
              rw [Nat.add_zero, hgi] at k1
              cases k1
              have hro := hob.obj o _ cs hgo ho
              have hbx : isBox cs = true := by
                by_cases hx : isBox cs = true
                · exact hx
                · exfalso
                  unfold isBox at hx
                  split at hx
                  · simp [AV.cell] at hcell
                  · simp [AV.cell] at hcell
                  · simp [AV.cell] at hcell
                  · simp at hl; omega
                  · exact hx rfl
              obtain ⟨b, ty, arr, q1, q2, q3⟩ := hro.box hbx
              have hrep := (h4 hz).1 _ q3
              have hne : (em id r v).1 ≠ [] := by
                intro e0
                have := hrep.length
                rw [e0, q3.length] at this
                simp at this; subst this; simp at hl; omega
              exact ⟨(fun e T l he => by rw [he] at hrep; exact (not_rowc hrep).elim), (fun T l he => by rw [he] at hrep; exact (not_frow hrep).elim), (fun _ => ⟨b, ty, arr, q1, q2, hrep⟩), fun s p he => by rw [he] at hrep; exact (not_siter hrep).elim⟩
          · cases h
        · cases h
      · cases h
    | orow e T =>
      rw [mt_orow] at h
      split at h
      · rename_i o hm
        split at h
        · rename_i e' T' l' ho
          split at h
          · cases h
          · rename_i hee
            have hee' : e' = e := by simpa using hee
            subst hee'
            split at h
            · rename_i y hy
              obtain ⟨rfl, rfl⟩ := castL_some hy
              obtain ⟨v', ms', q1, q2⟩ := hs_cons h
              cases q2
              obtain ⟨h1, h2, h3, h4⟩ := ih _ _ _ _ _ q1
              refine ⟨h1, by simp only [em, List.length_cons]; omega, h3, fun hz => ⟨fun vs hv => hv, fun j gi cs' k1 k2 => ?_⟩⟩
              cases j with
              | succ j => exact (h4 hz).2 j gi cs' (by rwa [Nat.add_right_comm, Nat.add_assoc]) (by simpa [em] using k2)
              | zero =>
                simp only [em, List.getElem?_cons_zero, Option.some.injEq] at k2
                subst k2
                have hlt : o < g.length := by rw [hob.len]; exact (List.getElem?_eq_some_iff.1 ho).1
                have hgo : g[o]? = some g[o] := List.getElem?_eq_getElem hlt
                have hgi := gOf_some (h1.get hm) hgo
                rw [Nat.add_zero, hgi] at k1
                cases k1
                refine ⟨fun e T l he => ?_, (fun T l he => by cases he), (fun hb => by simp [isBox] at hb), (fun _ _ he => by cases he)⟩
                cases he
                obtain ⟨xs, p1, p2⟩ := (hob.obj o _ _ hgo ho).rowc _ _ _ rfl
                exact ⟨xs, p1, p2.mono hs⟩
            · cases h
        · cases h
      · rename_i hm
        obtain ⟨v', ms', q1, q2⟩ := hs_cons h
        cases q2
        obtain ⟨h1, h2, h3, h4⟩ := ih _ _ _ _ _ q1
        refine ⟨h1, by simp only [em, List.length_cons]; omega, h3, fun hz => ⟨fun vs hv => hv, fun j gi cs' k1 k2 => ?_⟩⟩
        cases j with
        | succ j => exact (h4 hz).2 j gi cs' (by rwa [Nat.add_right_comm, Nat.add_assoc]) (by simpa [em] using k2)
        | zero =>
          simp only [em, List.getElem?_cons_zero, Option.some.injEq] at k2
          subst k2
          have hgi := gOf_none (g := g) (h1.get hm)
          rw [Nat.add_zero, hgi] at k1
          cases k1
          refine ⟨fun e T l he => ?_, (fun T l he => by cases he), (fun hb => by simp [isBox] at hb), (fun _ _ he => by cases he)⟩
          cases he
          exact ⟨[], ⟨by simp, .inl ⟨rfl, rfl⟩⟩, fun j x hx => by simp at hx⟩
      · cases h
    | oiter =>
      rw [mt_oiter] at h
      split at h
      · rename_i o hm
        split at h
        · rename_i s p ho
          obtain ⟨v', ms', q1, q2⟩ := hs_cons h
          cases q2
          obtain ⟨h1, h2, h3, h4⟩ := ih _ _ _ _ _ q1
          refine ⟨h1, by simp only [em, List.length_cons]; omega, h3, fun hz => ⟨fun vs hv => hv, fun j gi cs' k1 k2 => ?_⟩⟩
          cases j with
          | succ j => exact (h4 hz).2 j gi cs' (by rwa [Nat.add_right_comm, Nat.add_assoc]) (by simpa [em] using k2)
          | zero =>
            simp only [em, List.getElem?_cons_zero, Option.some.injEq, Int.toNat_natCast] at k2
            subst k2
            have hlt : o < g.length := by rw [hob.len]; exact (List.getElem?_eq_some_iff.1 ho).1
            have hgo : g[o]? = some g[o] := List.getElem?_eq_getElem hlt
            have hgi := gOf_some (h1.get hm) hgo
            rw [Nat.add_zero, hgi] at k1
            cases k1
            refine ⟨(fun _ _ _ he => by cases he), (fun _ _ he => by cases he), (fun hb => by simp [isBox] at hb), fun s' p' he => ?_⟩
            cases he
            exact (hob.obj o _ _ hgo ho).iter _ _ rfl
        · cases h
      · cases h
    | odead =>
      change HS r at v
      replace h := mt_odead _ _ _ _ _ h
      split at h
      · skip
        split at h
        · obtain ⟨h1, h2, h3, h4⟩ := ih _ _ _ _ _ h
          refine ⟨h1, by simp only [em, List.length_cons]; omega, h3, fun hz => ⟨fun vs hv => hv, fun j gi cs' k1 k2 => ?_⟩⟩
          cases j with
          | succ j => exact (h4 hz).2 j gi cs' (by rwa [Nat.add_right_comm, Nat.add_assoc]) (by simpa [em] using k2)
          | zero =>
            simp only [em, List.getElem?_cons_zero, Option.some.injEq] at k2
            subst k2
            exact RepO.dead ..
        · cases h
      · cases h
end Go.Ae
