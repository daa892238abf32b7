/- A law, called: from what is read of its arguments to its end. -/
import Derived.Test.YtaoaagbfjekecaaDoorAe27
import Derived.WideShapes
set_option linter.unusedVariables false
set_option linter.unusedSimpArgs false
namespace Go.Ae
open Go.RowKit Go.Deep Go.WideShapes
variable {P : Program} {H : Type} {enc : TypeId × Value → H} {w : World} {sp : Nat → Bool} {held : Bool}
def isStruct (P : Program) (t : TypeId) : Bool := match P.underlying t with | some (.struct _) => true | _ => false
theorem cells_one {n : Nat} {t : TypeId} {T : Ty} {base : Nat} {v : Value} (hf : fits P n t T = true) (hs : isStruct P t = false) (h : Value.okWide P w .any base t v) : v.cells = #[v] := by
  cases n with
  | zero => simp [fits] at hf
  | succ n =>
    unfold fits at hf
    split at hf
    · rename_i k k' hu; obtain ⟨_, rfl⟩ := okWide_int hu h; rfl
    · rename_i k hu; obtain ⟨_, rfl⟩ := okWide_int hu h; rfl
    · rename_i hu; obtain ⟨_, rfl⟩ := okWide_bool hu h; rfl
    · rename_i hu; obtain ⟨_, rfl⟩ := okWide_string hu h; rfl
    · rename_i e T hu; obtain ⟨_, _, _, rfl⟩ := okWide_slice hu h; rfl
    · rename_i fs hu; simp [isStruct, hu] at hs
    · cases hf
/-- An argument that is no structure; one that is. -/
theorem open_one {n : Nat} {t : TypeId} {T : Ty} {base : Nat} {v : Value} {d : DataW H} {ps : List MemPlace} (hf : fits P n t T = true) (hs : isStruct P t = false) (h : Value.okWide P w .any base t v) (ht : DataW.Trod enc P w 0 sp held t v d ps)
    (hw : ∀ k ∈ d.weights P t, k ≤ reachBytes) : ∃ x : T.den, RepL w m0 [] (T.leaves x) [v] ∧ Bd T x := by
  obtain ⟨fuel, ht⟩ := ht
  rw [cells_one hf hs h] at ht
  obtain ⟨x, h1, h2⟩ := open_fit n t T hf fuel _ _ ht hw
  exact ⟨x, repT_leaves h1, h2⟩
theorem open_agg {n : Nat} {t : TypeId} {T : Ty} {base : Nat} {v : Value} {d : DataW H} {ps : List MemPlace} (hf : fits P n t T = true) (hs : isStruct P t = true) (h : Value.okWide P w .any base t v) (ht : DataW.Trod enc P w 0 sp held t v d ps)
    (hw : ∀ k ∈ d.weights P t, k ≤ reachBytes) : ∃ x : T.den, RepL w m0 [] [.agg (T.leaves x)] [v] ∧ Bd T x := by
  obtain ⟨fuel, ht⟩ := ht
  have hu : ∃ fs, P.underlying t = some (.struct fs) := by
    unfold isStruct at hs; split at hs
    · exact ⟨_, by assumption⟩
    · cases hs
  obtain ⟨fs, hu⟩ := hu
  obtain ⟨cs, rfl, _⟩ := okWide_struct hu h
  obtain ⟨x, h1, h2⟩ := open_fit n t T hf fuel _ _ ht hw
  exact ⟨x, ⟨_, [], rfl, ⟨cs, rfl, repT_leaves h1⟩, rfl⟩, h2⟩
theorem arg_weights {ts : List TypeId} {ds : List (DataW H)} (h : (DataW.weightsEach P ts ds).all (· ≤ reachBytes) = true) (j : Nat) {t : TypeId} {d : DataW H} (ht : ts[j]? = some t) (hd : ds[j]? = some d) : ∀ k ∈ d.weights P t, k ≤ reachBytes := fun k hk => by
  simpa using List.all_eq_true.1 h k (DataW.weights_mem_each ht hd k hk)
/-- A law that comes to 'true'. -/
theorem law_walk {f : FuncId} {fn : Func} {ins : List Sh} {F : HS ins → Option (Bool × Unit)} (hok : FnOk P f ⟨ins, [(.ret, [.bool])], F⟩) (hf : P.funcs[f]? = some fn) (hb : fn.body.isSome = true) (hname : (fn.name == "runtime.NumGoroutine") = false)
    {args : Array Value} {v : HS ins} {avs : List AV} (he : (em id ins v).1 = avs) (he2 : (em id ins v).2 = []) (hr : RepL w m0 [] avs args.toList) (hF : F v = some (true, ())) :
    Calls P f args w fun e w' => e = .returned (.bool true) ∧ Below w.heap.size w w' := by
  subst he
  have hob : RepOb w m0 [] (em id ins v).2 := by
    rw [he2]
    exact ⟨rfl, fun b ⟨i, gi, cs, h, _⟩ => by simp at h, fun b h => h, fun b h => h.elim, fun i gi cs h => by simp at h, fun i j gi gj ci cj b _ h => by simp at h⟩
  have hfin : ∀ (r : Value) (w' : World), (∃ ax l u m' g', OSel [(AX.ret, [Sh.bool])] ((true, ()) : OTy [(AX.ret, [Sh.bool])]) ax l u ∧ Stp w m0 w' m' ∧ RepOb w' m' g' (em id l u).2 ∧ (∀ (o : Nat) v, ([] : List Value)[o]? = some v → g'[o]? = some v) ∧ RepL w' m' g' (em id l u).1 [r]) →
      r = .bool true ∧ Below w.heap.size w w' := by
    rintro r w' ⟨ax, l, u, m', g', ⟨hm, hsel⟩, hst, hob', hg, hr'⟩
    refine ⟨?_, ⟨hst.os, hst.tape, hst.output, hst.size, fun k hk => hst.keep k hk fun h => h⟩⟩
    simp only [List.mem_singleton, Prod.mk.injEq] at hm
    obtain ⟨rfl, rfl⟩ := hm
    have hu : u = (true, ()) := by
      have := hsel (List Sh × Bool) fun _ l u => some (l, match l, u with | [.bool], u => (show Bool × Unit from u).1 | _, _ => false)
      have h2 : ((show Bool × Unit from u).1) = true := by
        have := congrArg (Option.map Prod.snd) this
        simpa [ocase] using this.symm
      exact Prod.ext h2 rfl
    subst hu
    obtain ⟨v1, r1, e1, e2, e3⟩ := hr'
    cases e1
    exact e2
  rcases hok w m0 [] v args (true, ()) hob hr hF with ⟨r, w', hrun, _⟩ | ⟨_, hc⟩
  · exfalso
    obtain ⟨c, hc⟩ := Option.isSome_iff_exists.1 hb
    have : fn.name ≠ "runtime.NumGoroutine" := by simpa using hname
    simp [callFunc, hf, hc, this] at hrun
  · refine hc.mono fun e w' ⟨r, he, h⟩ => ?_
    obtain ⟨h1, h2⟩ := hfin r w' h
    subst h1
    exact ⟨he, h2⟩
end Go.Ae
