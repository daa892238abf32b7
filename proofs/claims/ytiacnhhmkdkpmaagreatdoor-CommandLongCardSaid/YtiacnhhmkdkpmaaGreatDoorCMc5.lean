/- The texts of the proof, one behind the other: XDom, W9, W10, W11, W12, W13, W14, LaidC, Ae32, XItoa. -/
import Derived.Test.YtiacnhhmkdkpmaaGreatDoorCMc4
import Derived.Test.YtiacnhhmkdkpmaaGreatDoorCMc3
import Derived.RangeFuncBox
import Derived.OwnWalkIn
import Derived.TacticsInMore
import Derived.LoopNIn
import Derived.LoopIn
import Derived.Sort.LoopGhostIn
import Derived.Maps.AppendAt
import Derived.Shelf.LaysM
import Derived.Shelf.Strconv.Itoa3
import Derived.Test.YtiacnhhmkdkpmaaGreatDoorProg
set_option linter.unusedVariables false
set_option maxRecDepth 100000
namespace Go.Proofs.YtiacnhhmkdkpmaaGreatDoorC.W
open Go Go.Ae Go.RowKit
attribute [local go_sem] Oper.semAt_some
theorem cut_call {s sep l r : List UInt8} {ok : Bool} (h : C129 (s, sep, ()) = some (l, r, ok, ())) {w : World} (hg : GI w m0) :
    Calls Tryz.prog 129 #[.string ⟨⟨s⟩⟩, .string ⟨⟨sep⟩⟩] w fun e w' => e = .returned (.tuple #[.string ⟨⟨l⟩⟩, .string ⟨⟨r⟩⟩, .bool ok]) ∧ Below w.heap.size w w' := by
  refine (FnOk.call0 (v := (s, sep, ())) (y := (l, r, ok, ())) ok129 Tryz.func129 (by kernel_rfl) (by kernel_rfl) hg (fun _ h => h.elim) rfl ⟨_, _, rfl, rfl, _, _, rfl, rfl, rfl⟩ rfl h ?_).mono fun e w' ⟨rv, h1, h2, ax, l', u, h3, h4⟩ => ?_
  · intro ax l' u h3
    cases osel_one_inv h3
    rfl
  · cases osel_one_inv h3
    obtain ⟨v, r', e1, ⟨a, e2, e3⟩, e4⟩ := h4
    have e4' : r' = [] := e4
    subst e4'
    cases e1
    subst h1 e2
    refine ⟨?_, h2⟩
    obtain ⟨v1, q1, f1, rfl, v2, q2, f2, rfl, v3, q3, f3, rfl, f4⟩ := e3
    have f4' : q3 = [] := f4
    subst f4' f3 f2
    cases a
    cases f1
    rfl
def partsC : Nat → List UInt8 → Option (List (List UInt8))
  | 0, _ => none
  | n + 1, s => (C129 (s, [46], ())).bind fun a => bif a.2.2.1 then (partsC n a.2.1).map (a.1 :: ·) else some [a.1]
theorem box_of_block {W W' : World} {b : Nat} {t : TypeId} {v : Value} (h : Boxed W b t v) (hk : W'.heap[b]? = W.heap[b]?) : Boxed W' b t v := hk.trans h
set_option maxHeartbeats 4000000 in
theorem parts_seq (n : Nat) (hn : 1 ≤ n) (Bs : Nat) (s : List UInt8) (xs : List (List UInt8)) (N : Nat) (hxs : partsC N s = some xs) (w : World) (hb : Boxed w Bs 9 (.string ⟨⟨s⟩⟩)) (hg : GI w m0) (hnb : ∀ b ∈ GlobB, b ≠ Bs) :
    SeqD Fence.wide n Tryz.prog 222 #[.pointer (some ⟨Bs, 0, none⟩)] (fun x : List UInt8 => #[.string ⟨⟨x⟩⟩]) (fun b => b = Bs ∨ b ∈ GlobB) Bs xs w := by
  intro l J Jx W hW hJ hJx hY h0
  have hb' : Boxed W Bs 9 (.string ⟨⟨s⟩⟩) := (hW.block Bs hb.lt).trans hb
  have hg' : GI W m0 := gi_below hg hW
  refine callsIn_of_wp Tryz.func222 rfl trivial ?_ rfl
  simp only [Tryz.ntmps222, List.size_toArray, List.length_cons, List.length_nil, Nat.reduceAdd, Nat.reduceSub, Array.replicate_succ, Array.replicate_zero, List.push_toArray, List.append_toArray, List.nil_append, List.cons_append]
  gi_wp2
  gi_loopg [] N (fun k wr => ∃ (pre t : List (List UInt8)) (rest : List UInt8), xs = pre ++ t ∧ partsC k rest = some t ∧ J pre wr ∧ Boxed wr Bs 9 (.string ⟨⟨rest⟩⟩) ∧ GI wr m0)
  case atStart => exact ⟨[], xs, s, rfl, hxs, h0, hb', hg'⟩
  case round =>
    rename_i JJ KK hJJ hKK
    obtain ⟨pre, t, rest, hx, hp, hJs, hbx, hgr⟩ := hrel
    cases gk with
    | zero => cases hp
    | succ k =>
      simp only [partsC] at hp
      obtain ⟨⟨lf, rt, ok, u⟩, hc, hp2⟩ := Option.bind_eq_some_iff.1 hp
      simp only at hp2
      have hcell := hbx.cell
      have hpre : pre ++ [lf] <+: xs := by
        rw [hx]
        cases ok with
        | true =>
          obtain ⟨t', h1, rfl⟩ := Option.map_eq_some_iff.1 hp2
          exact ⟨t', by simp⟩
        | false =>
          have : t = [lf] := (Option.some.inj hp2).symm
          exact ⟨[], by simp [this]⟩
      gi_wp2_with (refine ⟨trivial, ?_⟩; gi_at_call 129; refine (callsIn_wide.2 (cut_call hc hgr)).mono ?_; rintro e w' ⟨rfl, hbel⟩; obtain ⟨fn, tmps, assign, body, hy, hR⟩ := hY pre lf w' hpre (hJ _ _ _ hJs (Oth.of_below hbel)))
      refine hR.mono ?_
      rintro e W3 (⟨rfl, hJ3, hs3, hk3⟩ | ⟨rfl, hJx3⟩)
      · have hbx3 : Boxed W3 Bs 9 (.string ⟨⟨rest⟩⟩) := (hk3 Bs (.inl rfl)).trans ((hbel.block Bs hbx.lt).trans hbx)
        have hg3 : GI W3 m0 := gi_keep (gi_below hgr hbel) hs3 fun b hb => hk3 b (.inr hb)
        have hc3 := hbx3.cell
        have hf3 := hbx3.frozen
        cases ok with
        | true =>
          obtain ⟨t', h1, rfl⟩ := Option.map_eq_some_iff.1 hp2
          gi_wp2
          gi_roundg k
          case rel => exact ⟨pre ++ [lf], t', rt, by simp [hx], h1, hJ _ _ _ hJ3 (Oth.set Bs 0 W3 _), Boxed.set _ hbx3, gi_keep hg3 (by simp) fun b hb => Below.heap_setCell _ _ _ _ (hnb b hb)⟩
          case measure => omega
        | false =>
          have ht : t = [lf] := (Option.some.inj hp2).symm
          subst ht
          gi_wp2
          refine bodyPost_ret (results_none rfl _ _ _) rfl ?_
          exact ⟨⟨_, rfl⟩, .inl (hx ▸ hJ3)⟩
      · gi_wp2
        refine bodyPost_ret (results_none rfl _ _ _) rfl ?_
        exact ⟨⟨_, rfl⟩, .inr ⟨_, hpre, hJx3⟩⟩
def encS (x : List UInt8) : Value := .string ⟨⟨x⟩⟩
theorem ownsRow_oth {N Bs base : Nat} {A B : World} {e : TypeId} {size k : Nat} {v : Value} {xs : List Value} (hBs : Bs < base) (h : A.ownsRow base e size v k xs) (ho : OthR N Bs A B) : B.ownsRow base e size v k xs := by
  refine ⟨h.1, ?_⟩
  rcases h.2 with h | ⟨g, cap, cur, e1, h2, h3, h4⟩
  · exact .inl h
  · exact .inr ⟨g, cap, cur, e1, h2, ho.keep g _ h3 (by omega) (.inr rfl), h4⟩
theorem oth_othR {N Bs : Nat} {W0 A B : World} (hN : W0.heap.size ≤ N) (h : Oth Bs W0 A) (ho : OthR N Bs A B) : Oth Bs W0 B :=
  ⟨ho.os.trans h.os, ho.tape.trans h.tape, ho.output.trans h.output, Nat.le_trans h.size ho.size, fun b hb hne => by
    have h1 := h.keep b hb hne
    obtain ⟨o, h2⟩ : ∃ o, W0.heap[b]? = some o := ⟨_, Array.getElem?_eq_getElem hb⟩
    rw [h2] at h1 ⊢
    exact ho.keep b o h1 hne (.inl (by omega))⟩
theorem info_string : (Tryz.prog.info? 9).map (fun i => (i.zero, i.size, i.bytes)) = some (some (.string ⟨#[]⟩), 1, 16) := by kernel_rfl
set_option maxHeartbeats 4000000 in
theorem gather_walk (gf : Nat) (hgf : ∀ args w, (callFunc gf args).run Tryz.prog w = .ok (.enter gf args) w) (Bs : Nat) (xs : List (List UInt8)) (w : World) (hBs : Bs < w.heap.size) (hg : GI w m0) (hlen : xs.length ≤ 1000000000000)
    (hseq : ∀ W, Below w.heap.size w W → SeqD Fence.wide 2 Tryz.prog gf #[.pointer (some ⟨Bs, 0, none⟩)] (fun x : List UInt8 => #[Value.string ⟨⟨x⟩⟩]) (fun b => b = Bs ∨ b ∈ GlobB) Bs xs W) :
    CallsIn Fence.wide 3 Tryz.prog 221 #[.slice none 0 0, .func (.func gf) #[] #[.pointer (some ⟨Bs, 0, none⟩)]] w fun e W' =>
      ∃ v, e = .returned v ∧ W'.ownsRow w.heap.size 9 1 v xs.length (xs.map encS) ∧ Oth Bs w W' := by
  obtain ⟨i0, hi, hz0, hz1, hz2⟩ := info_parts info_string
  refine callsIn_of_wp_marks Tryz.func221 rfl trivial ?_ rfl
  simp only [Tryz.ntmps221, List.size_toArray, List.length_cons, List.length_nil, Nat.reduceAdd, Nat.reduceSub, Array.replicate_succ, Array.replicate_zero, List.push_toArray, List.append_toArray, List.nil_append, List.cons_append]
  gi_wp2
  have hB0 : Below w.heap.size w (w.alloc (.cells #[.slice none 0 0] 89)) := (Below.refl _ w).alloc (Nat.le_refl _) _
  refine wpIn_rangeFunc_dir (F := Fence.wide) rfl (by omega) (gf := gf) (lb := #[.pointer (some ⟨Bs, 0, none⟩)]) rfl trivial hgf (hseq _ hB0)
    (by rintro b (rfl | hb); · (rw [World.size_alloc]; omega)
        · (have := (hg.b b hb).1; rw [World.size_alloc]; omega)) (by rw [World.size_alloc]; omega) (fun _ => rfl)
    (fun pre W => (∃ v, Boxed W w.heap.size 89 v ∧ W.ownsRow w.heap.size 9 1 v pre.length (pre.map encS)) ∧ Oth Bs w W)
    (fun _ _ _ => False)
    (fun s A B hs ho => by
      obtain ⟨⟨v, h1, h2⟩, h3⟩ := hs
      exact ⟨⟨v, boxed_oth h1 (by omega) ho, ownsRow_oth hBs h2 ho⟩, oth_othR (by rw [World.size_alloc]; omega) h3 ho⟩)
    (fun _ _ _ _ hs _ => hs)
    ⟨⟨_, Boxed.new _ _ _, World.ownsRow_nil _ _ _ _⟩, Oth.of_below hB0⟩
    (fun x => { tmps := #[.slice none 0 0, .func (.func gf) #[] #[.pointer (some ⟨Bs, 0, none⟩)], .pointer (some ⟨w.heap.size, 0, none⟩), undef, .slice none 0 0, .string ⟨⟨x⟩⟩, .func (.func gf) #[] #[.pointer (some ⟨Bs, 0, none⟩)], .string ⟨⟨x⟩⟩, undef, undef, undef, undef, undef], defers := [] }) ?assign ?body ?done ?stop
  case assign =>
    intro l x W K hK
    gi_wp2
    exact hK
  case body =>
    rintro l pre x W hsz hpre ⟨⟨v, hv, hrow⟩, hoth⟩
    have hc := hv.cell
    have hpl : pre.length < xs.length := by have := hpre.length_le; simp at this; omega
    have hsz2 := hoth.size
    gi_wp2_with (gi_at_builtin; refine wpListIn_append_own _ rfl _ _ 89 rfl w.heap.size 9 i0 (.string ⟨#[]⟩) 1 16 Tryz.underlying89 hi hz0 hz1 hz2 rfl (by decide) _ _ _ rfl (hrow.alloc _) ⟨W.heap.size, 0, none⟩ 1 1 [.string ⟨⟨x⟩⟩] rfl rfl (cell_one_new _ _ _) (by simp [Value.oneCell']) (by simp only [maxLen]; omega) (by omega) (by simp; omega) ?_; intro v' w1 hown' hgrow _; obtain ⟨g', cap', rfl⟩ := ownsRow_succ hown'; obtain ⟨hv1, hv2, hr2, hk2, hb2⟩ := hv.appended (by decide) hrow hsz2 (Nat.le_refl _) hown' hgrow; have hc1 := hv1.cell; have hf1 := hv1.frozen)
    exact ⟨hk2.from _, fun b hb => hb2.block b (by
        rcases hb with rfl | hb
        · exact hBs
        · exact (hg.b b hb).1), ⟨_, hv2, by simpa [encS] using hr2⟩, hb2.os.trans hoth.os, hb2.tape.trans hoth.tape, hb2.output.trans hoth.output, Nat.le_trans hoth.size hb2.size, fun b hb hne => (hb2.block b hb).trans (hoth.keep b hb hne)⟩
  case done =>
    rintro D W hD ⟨⟨v, hv, hrow⟩, hoth⟩ hK
    have hc := hv.cell
    gi_wp2
    refine ⟨by simp, .inl ⟨_, _, rfl, run_takeDeferred hK, ?_⟩⟩
    have hD' : w.heap.size + 1 ≤ D := by rw [World.size_alloc] at hD; exact hD
    exact ⟨_, results_tmp rfl _ _ _, v, rfl, ownsRow_putObj hrow _ hK rfl, hoth.os, hoth.tape, hoth.output, by simpa [World.putObj] using hoth.size, fun b hb hne => (World.putObj_heap_other (by omega)).trans (hoth.keep b hb hne)⟩
  case stop =>
    rintro D c pre W _ _ h _
    exact h.elim
set_option maxHeartbeats 4000000 in
theorem parts_mk (s : List UInt8) (w : World) : Calls Tryz.prog 190 #[.string ⟨⟨s⟩⟩] w fun e w' => e = .returned (.func (.func 222) #[] #[.pointer (some ⟨w.heap.size, 0, none⟩)]) ∧ w' = w.alloc (.cells #[.string ⟨⟨s⟩⟩] 9) := by
  go_enter Tryz.func190, Tryz.ntmps190
  go_wp2
  go_returns
  exact ⟨rfl, rfl⟩
theorem collect_call (gf Bs : Nat) (hgf : ∀ args w, (callFunc gf args).run Tryz.prog w = .ok (.enter gf args) w) (xs : List (List UInt8)) (w : World) (hBs : Bs < w.heap.size) (hg : GI w m0) (hlen : xs.length ≤ 1000000000000)
    (hseq : ∀ W, Below w.heap.size w W → SeqD Fence.wide 2 Tryz.prog gf #[.pointer (some ⟨Bs, 0, none⟩)] (fun x : List UInt8 => #[Value.string ⟨⟨x⟩⟩]) (fun b => b = Bs ∨ b ∈ GlobB) Bs xs W) :
    Calls Tryz.prog 189 #[.func (.func gf) #[] #[.pointer (some ⟨Bs, 0, none⟩)]] w fun e W' =>
      ∃ v, e = .returned v ∧ W'.ownsRow w.heap.size 9 1 v xs.length (xs.map encS) ∧ Oth Bs w W' := by
  go_enter Tryz.func189, Tryz.ntmps189
  go_wp2_with (go_at_call 221; refine (callsIn_wide.1 (gather_walk gf hgf Bs xs w hBs hg hlen hseq)).mono ?_; rintro e W' ⟨v, rfl, h1, h2⟩)
  go_returns
  exact ⟨v, rfl, h1, h2⟩
def labelsF (f : List UInt8) (ok : Bool) : Option (List (List UInt8) × Int) :=
  bif !ok then some ([], 7) else bif f.isEmpty then some ([], 13) else
  bif decide (f.length ≤ 1000000000) then
    (partsC (f.length + 2) (Lib.replaceAll f [227, 128, 130] [46])).bind fun ps => bif decide (ps.length ≤ 1000000000000) then (bif decide (32 < ps.length) then some ([], 2) else some (ps, 0)) else none
  else none
theorem max_len {w : World} (hg : GI w m0) : ∃ m, w.cell? ⟨2, 0, none⟩ = some (.int .i64 m) := by first | exact hg.i | exact hg.i.1
theorem replace_call (f : List UInt8) (hf : f.length ≤ 1000000000) (w : World) (hg : GI w m0) :
    Calls Tryz.prog 188 #[.string ⟨⟨f⟩⟩, .string ⟨#[227, 128, 130]⟩, .string ⟨#[46]⟩] w fun e w' => e = .returned (.string ⟨⟨Lib.replaceAll f [227, 128, 130] [46]⟩⟩) ∧ Below w.heap.size w w' := by
  obtain ⟨m, hm⟩ := max_len hg
  have hcnt := Lib.count_le f [227, 128, 130]
  refine (Go.Proofs.Any.strings_ReplaceAll Tryz.lays155 Tryz.Builder_Extra_155 ⟨⟨f⟩⟩ ⟨#[227, 128, 130]⟩ ⟨#[46]⟩ m w ?_ hm ?_ ?_).mono ?_
  · show f.length < _
    omega
  · decide
  · show f.length + Lib.count f [227, 128, 130] * 1 ≤ _
    omega
  · rintro e w' ⟨h1, h2⟩
    exact ⟨h1, h2⟩
theorem below_oth {Bs B : Nat} {A W W' : World} (h : Below B A W) (hB : B ≤ W.heap.size) (hBs : B ≤ Bs) (ho : Oth Bs W W') : Below B A W' :=
  h.trans ⟨ho.os, ho.tape, ho.output, ho.size, fun k hk => ho.keep k (by omega) (by omega)⟩
theorem row_slice {W : World} {base : Nat} {e : TypeId} {v : Value} {n : Nat} {xs : List Value} (h : W.ownsRow base e 1 v n xs) : ∃ a cap, v = .slice a n cap := by
  rcases h.2 with ⟨h1, h2⟩ | ⟨g, cap, cur, h1, _⟩
  · subst h2; exact ⟨_, _, h1⟩
  · exact ⟨_, _, h1⟩
set_option maxHeartbeats 4000000 in
theorem labels_walk (v0 v1 v2 v3 v4 : Value) (s f : List UInt8) (ok : Bool) (ls : List (List UInt8)) (c : Int) (w : World) (hg : GI w m0) (hC : labelsF f ok = some (ls, c))
    (hfold : ∀ W, Below w.heap.size w W → Calls Tryz.prog 151 #[.agg #[v0, v1, v2, v3, v4], .string ⟨⟨s⟩⟩] W fun e W' => e = .returned (.tuple #[.string ⟨⟨f⟩⟩, .bool ok]) ∧ Below W.heap.size W W') :
    Calls Tryz.prog 157 #[.agg #[v0, v1, v2, v3, v4], .string ⟨⟨s⟩⟩] w fun e w' => ∃ v, e = .returned (.tuple #[v, .int .i64 c]) ∧ Below w.heap.size w w' ∧ w'.ownsRow w.heap.size 9 1 v ls.length (ls.map encS) := by
  have hW0 : Below w.heap.size w (w.alloc (.cells #[v0, v1, v2, v3, v4] 39)) := (Below.refl _ w).alloc (Nat.le_refl _) _
  have hF := hfold _ hW0
  clear hfold
  cases ok with
  | false =>
    have hC' : (([] : List (List UInt8)), (7 : Int)) = (ls, c) := Option.some.inj hC
    cases hC'
    go_enter Tryz.func157, Tryz.ntmps157
    go_wp2_with (go_at_call 151; refine hF.mono ?_; rintro e w1 ⟨rfl, hb1⟩)
    go_returns
    exact ⟨_, rfl, hW0.trans (hb1.mono hW0.size), World.ownsRow_nil _ _ _ _⟩
  | true =>
    cases f with
    | nil =>
      have hC' : (([] : List (List UInt8)), (13 : Int)) = (ls, c) := Option.some.inj hC
      cases hC'
      go_enter Tryz.func157, Tryz.ntmps157
      go_wp2_with (go_at_call 151; refine hF.mono ?_; rintro e w1 ⟨rfl, hb1⟩)
      go_returns
      exact ⟨_, rfl, hW0.trans (hb1.mono hW0.size), World.ownsRow_nil _ _ _ _⟩
    | cons f0 f1 =>
      have hC1 : (bif decide ((f0 :: f1).length ≤ 1000000000) then
          (partsC ((f0 :: f1).length + 2) (Lib.replaceAll (f0 :: f1) [227, 128, 130] [46])).bind fun ps => bif decide (ps.length ≤ 1000000000000) then (bif decide (32 < ps.length) then some (([] : List (List UInt8)), (2 : Int)) else some (ps, 0)) else none
        else none) = some (ls, c) := hC
      rcases cond_some hC1 with ⟨hlen, hC2⟩ | ⟨_, hC2⟩
      case inr => cases hC2
      have hlen' := of_decide_eq_true hlen
      obtain ⟨ps, hps, hC3⟩ := Option.bind_eq_some_iff.1 hC2
      rcases cond_some hC3 with ⟨hl2, hC4⟩ | ⟨_, hC4⟩
      case inr => cases hC4
      have hl2' := of_decide_eq_true hl2
      have hcc : ∀ W : World, GI W m0 → Calls Tryz.prog 189 #[.func (.func 222) #[] #[.pointer (some ⟨W.heap.size, 0, none⟩)]] (W.alloc (.cells #[.string ⟨⟨Lib.replaceAll (f0 :: f1) [227, 128, 130] [46]⟩⟩] 9)) fun e W' =>
          ∃ v, e = .returned v ∧ W'.ownsRow (W.alloc (.cells #[.string ⟨⟨Lib.replaceAll (f0 :: f1) [227, 128, 130] [46]⟩⟩] 9)).heap.size 9 1 v ps.length (ps.map encS) ∧ Oth W.heap.size (W.alloc (.cells #[.string ⟨⟨Lib.replaceAll (f0 :: f1) [227, 128, 130] [46]⟩⟩] 9)) W' := fun W hgW => by
        have hbW : Below W.heap.size W (W.alloc (.cells #[.string ⟨⟨Lib.replaceAll (f0 :: f1) [227, 128, 130] [46]⟩⟩] 9)) := (Below.refl _ W).alloc (Nat.le_refl _) _
        have hgW' := gi_below hgW hbW
        refine collect_call 222 W.heap.size (enters_of Tryz.func222 (by kernel_rfl) rfl) ps _ (by rw [World.size_alloc]; omega) hgW' hl2' fun W2 hb2 => ?_
        exact parts_seq 2 (by omega) W.heap.size _ ps _ hps W2 (box_of_block (Boxed.new _ _ _) (hb2.block _ (by rw [World.size_alloc]; omega))) (gi_below hgW' hb2) fun b hb => by have := (hgW.b b hb).1; omega
      have hg1 := fun W hb => replace_call (f0 :: f1) hlen' W (gi_below hg hb)
      generalize Lib.replaceAll (f0 :: f1) [227, 128, 130] [46] = r at hps hcc hg1
      have fin : ∀ {w1 w2 w4 : World} {v : Value}, Below (w.alloc (.cells #[v0, v1, v2, v3, v4] 39)).heap.size (w.alloc (.cells #[v0, v1, v2, v3, v4] 39)) w1 → Below w1.heap.size w1 w2 → w4.ownsRow (w2.alloc (.cells #[.string ⟨⟨r⟩⟩] 9)).heap.size 9 1 v ps.length (ps.map encS) → Oth w2.heap.size (w2.alloc (.cells #[.string ⟨⟨r⟩⟩] 9)) w4 → Below w.heap.size w w4 ∧ w4.ownsRow w.heap.size 9 1 v ps.length (ps.map encS) := by
        intro w1 w2 w4 v h1 h2 h3 h4
        have b2 : Below w.heap.size w w2 := (hW0.trans (h1.mono hW0.size)).trans (h2.mono (by have := hW0.size; have := h1.size; omega))
        have b3 : Below w.heap.size w (w2.alloc (.cells #[.string ⟨⟨r⟩⟩] 9)) := b2.alloc b2.size _
        refine ⟨below_oth b3 b3.size b2.size h4, h3.1, ?_⟩
        rcases h3.2 with h | ⟨g, cap, cur, e1, e2, e3⟩
        · exact .inl h
        · exact .inr ⟨g, cap, cur, e1, Nat.le_trans b3.size e2, e3⟩
      have Fin : Hid _ := @fin
      clear fin
      by_cases h32 : 32 < ps.length
      · rw [decide_eq_true h32, cond_true] at hC4
        have hC' : (([] : List (List UInt8)), (2 : Int)) = (ls, c) := Option.some.inj hC4
        cases hC'
        clear hC hC1 hC2 hC3 hC4
        go_enter Tryz.func157, Tryz.ntmps157
        go_wp2_with (first
          | (go_at_call 151; refine hF.mono ?_; rintro e w1 ⟨rfl, hb1⟩)
          | (go_at_call 188; refine (hg1 _ (hW0.trans (hb1.mono hW0.size))).mono ?_; rintro e w2 ⟨rfl, hb2⟩)
          | (go_at_call 190; refine (parts_mk r _).mono ?_; rintro e w3 ⟨rfl, rfl⟩)
          | (go_at_call 189; have hgw2 : GI w2 m0 := gi_below (gi_below (gi_below hg hW0) hb1) hb2; refine (hcc _ hgw2).mono ?_; rintro e w4 ⟨v, rfl, hrow, hoth⟩; obtain ⟨sa, sc, rfl⟩ := row_slice hrow)
          | go_in)
        go_returns
        exact ⟨_, rfl, (Fin.out hb1 hb2 hrow hoth).1, World.ownsRow_nil _ _ _ _⟩
      · rw [decide_eq_false h32, cond_false] at hC4
        have hC' : (ps, (0 : Int)) = (ls, c) := Option.some.inj hC4
        cases hC'
        clear hC hC1 hC2 hC3 hC4
        go_enter Tryz.func157, Tryz.ntmps157
        go_wp2_with (first
          | (go_at_call 151; refine hF.mono ?_; rintro e w1 ⟨rfl, hb1⟩)
          | (go_at_call 188; refine (hg1 _ (hW0.trans (hb1.mono hW0.size))).mono ?_; rintro e w2 ⟨rfl, hb2⟩)
          | (go_at_call 190; refine (parts_mk r _).mono ?_; rintro e w3 ⟨rfl, rfl⟩)
          | (go_at_call 189; have hgw2 : GI w2 m0 := gi_below (gi_below (gi_below hg hW0) hb1) hb2; refine (hcc _ hgw2).mono ?_; rintro e w4 ⟨v, rfl, hrow, hoth⟩; obtain ⟨sa, sc, rfl⟩ := row_slice hrow)
          | go_in)
        go_returns
        exact ⟨_, rfl, (Fin.out hb1 hb2 hrow hoth).1, (Fin.out hb1 hb2 hrow hoth).2⟩
set_option maxHeartbeats 4000000 in
theorem values_seq (n : Nat) (hn : 1 ≤ n) (Bs base : Nat) (v : Value) (xs : List (List UInt8)) (K : Nat → Prop) (w : World) (hb : Boxed w Bs 89 v) (hrow : w.ownsRow base 9 1 v xs.length (xs.map encS)) (hlen : xs.length ≤ 1000000000000) (hKb : K Bs) (hKv : ∀ b, v.ownBlock = some b → K b) (Bd : Nat) :
    SeqD Fence.wide n Tryz.prog 191 #[.pointer (some ⟨Bs, 0, none⟩)] (fun x : List UInt8 => #[Value.string ⟨⟨x⟩⟩]) K Bd xs w := by
  intro l J Jx W hW hJ hJx hY h0
  have hb' : Boxed W Bs 89 v := (hW.block Bs hb.lt).trans hb
  have hc := hb'.cell
  rcases hrow.2 with ⟨rfl, hn0⟩ | ⟨g, cap, cur, rfl, hg1, hg2, hg3, hg4, hg5, hg6⟩
  · have hx : xs = [] := List.eq_nil_of_length_eq_zero hn0
    subst hx
    refine callsIn_of_wp Tryz.func191 rfl trivial ?_ rfl
    simp only [Tryz.ntmps191, List.size_toArray, List.length_cons, List.length_nil, Nat.reduceAdd, Nat.reduceSub, Array.replicate_succ, Array.replicate_zero, List.push_toArray, List.append_toArray, List.nil_append, List.cons_append]
    gi_wp2
    gi_loopw [7] (fun i wr => i = .int .i64 0 ∧ J [] wr) (fun _ _ => 0)
    case atStart => exact ⟨rfl, h0⟩
    case round =>
      obtain ⟨rfl, hJs⟩ := hrel
      gi_wp2
      go_end0
      exact ⟨⟨_, rfl⟩, .inl hJs⟩
  · have hKg : K g := hKv g rfl
    have hgW : W.heap[g]? = some (.cells cur 9 (0, 0)) := (hW.block g (lt_of_some hg2)).trans hg2
    have hcur : ∀ (k : Nat) x, xs[k]? = some x → cur[k]? = some (.string ⟨⟨x⟩⟩) := fun k x hk => by
      have hlt : k < xs.length := (List.getElem?_eq_some_iff.1 hk).1
      have h1 : (cur.toList.take (xs.length * 1))[k]? = some (encS x) := by rw [hg6, List.getElem?_map, hk]; rfl
      rw [List.getElem?_take_of_lt (by omega), Array.getElem?_toList] at h1
      exact h1
    refine callsIn_of_wp Tryz.func191 rfl trivial ?_ rfl
    simp only [Tryz.ntmps191, List.size_toArray, List.length_cons, List.length_nil, Nat.reduceAdd, Nat.reduceSub, Array.replicate_succ, Array.replicate_zero, List.push_toArray, List.append_toArray, List.nil_append, List.cons_append]
    generalize hN : xs.length = N at *
    gi_wp2
    gi_loopw [7] (fun i wr => ∃ k : Nat, i = .int .i64 k ∧ k ≤ N ∧ Hid (J (xs.take k) wr) ∧ Hid (wr.heap[g]? = some (.cells cur 9 (0, 0)))) (fun i _ => N - (intOf i).toNat)
    case atStart => exact ⟨0, rfl, Nat.zero_le _, h0, hgW⟩
    case round =>
      obtain ⟨k, rfl, hk, hJs, hgr⟩ := hrel
      by_cases hlt : k < N
      · obtain ⟨x, hx⟩ : ∃ x, xs[k]? = some x := ⟨_, List.getElem?_eq_getElem (by omega)⟩
        have htk : xs.take (k + 1) = xs.take k ++ [x] := by rw [List.take_add_one, hx]; rfl
        have hpre : xs.take k ++ [x] <+: xs := htk ▸ List.take_prefix _ _
        have hcx : wr.cell? ⟨g, k, none⟩ = some (.string ⟨⟨x⟩⟩) := by simp only [World.cell?, hgr.out]; exact hcur k x hx
        obtain ⟨fn, tmps, assign, body, hy, hR⟩ := hY _ x wr hpre hJs.out
        clear hcur
        gi_wp2
        refine hR.mono ?_
        rintro e W3 (⟨rfl, hJ3, hs3, hk3⟩ | ⟨rfl, hJx3⟩)
        · have hg3 : Hid (W3.heap[g]? = some (.cells cur 9 (0, 0))) := (hk3 g hKg).trans hgr.out
          have hJ4 : Hid (J (xs.take (k + 1)) W3) := by rw [htk]; exact hJ3
          gi_wp2
          go_roundw
          case rel => exact ⟨k + 1, by simp, by omega, hJ4, hg3⟩
          case measure => simp [intOf]; omega
        · gi_wp2
          refine bodyPost_ret (results_none rfl _ _ _) rfl ?_
          exact ⟨⟨_, rfl⟩, .inr ⟨_, hpre, hJx3⟩⟩
      · obtain rfl : k = N := by omega
        gi_wp2
        go_end0
        exact ⟨⟨_, rfl⟩, .inl (by have := hJs.out; rwa [List.take_of_length_le (by omega)] at this)⟩
set_option maxHeartbeats 4000000 in
theorem values_mk (a : Option Addr) (n cap : Nat) (w : World) : Calls Tryz.prog 158 #[.slice a n cap] w fun e w' => e = .returned (.func (.func 191) #[] #[.pointer (some ⟨w.heap.size, 0, none⟩)]) ∧ w' = w.alloc (.cells #[.slice a n cap] 89) := by
  go_enter Tryz.func158, Tryz.ntmps158
  go_wp2
  go_returns
  exact ⟨rfl, rfl⟩
def K0 : Calls' := fun f => Ae.lookA f []
theorem kok0 : KOk Tryz.prog K0 := kok_nil _
noncomputable def body124 : Code := match subc (code Tryz.f124) [1, 1, 1, 1, 0, 1, 0] with | .rangeFunc _ _ _ b => b | c => c
noncomputable def ops11 : Array Oper := match subc body124 [0, 1, 1, 1] with | .region _ ops _ => ops | _ => #[]
def t11 (x y : List UInt8) : List AV := [.top, .top, .top, .top, .top, .top, .top, .top, .top, .ptr 2 0, .ptr 3 0, .top, .str x, .top, .str y] ++ List.replicate 45 .top
def o11 (ps qs : List (List UInt8)) : Store := [[.rowc 9 .str ps], [.rowc 9 .str qs], [.row 0], [.row 1]]
def o11' (ps qs : List (List UInt8)) (x y : List UInt8) : Store := [[], [], [.row 5], [.row 7], [.rowc 9 .str [x]], [.rowc 9 .str (ps ++ [x])], [.rowc 9 .str [y]], [.rowc 9 .str (qs ++ [y])]]
theorem r11 (ps qs : List (List UInt8)) (x y : List UInt8) : dregion Γ K0 ops11 ⟨t11 x y, o11 ps qs⟩ (fun s => some s.o) =
    bif decide (ps.length + 1 ≤ 140737488355328 / 16) then (bif decide (qs.length + 1 ≤ 140737488355328 / 16) then some (o11' ps qs x y) else none) else none := by kernel_rfl
theorem nd11 : ∀ (i : Nat) o, ops11[i]? = some o → ∀ c, o.op ≠ .defer c := by
  have h : (ops11.toList.all fun o => match o.op with | .defer _ => false | _ => true) = true := by kernel_rfl
  intro i o ho c hc
  have := List.all_eq_true.1 h o (Array.mem_toList_iff.2 (Array.mem_of_getElem? ho))
  rw [hc] at this
  cases this
theorem repL_of {w : World} {m : Md} {g : List Value} : ∀ (av : List AV) (vs : List Value), av.length = vs.length → (∀ (i : Nat) v, vs[i]? = some v → RepV w m g (av.getD i .top) v) → RepL w m g av vs
  | [], [], _, _ => rfl
  | a :: av, v :: vs, hl, h => ⟨v, vs, rfl, h 0 v rfl, repL_of av vs (by simpa using hl) fun i u hu => h (i + 1) u hu⟩
structure Two (base A9 A10 : Nat) (W : World) (ps qs : List (List UInt8)) : Prop where
  ex : ∃ va vu t9 t10, Boxed W A9 t9 va ∧ Boxed W A10 t10 vu ∧ W.ownsRow base 9 1 va ps.length (ps.map encS) ∧ W.ownsRow base 9 1 vu qs.length (qs.map encS) ∧
    (∀ b, va.ownBlock = some b → b ≠ A9 ∧ b ≠ A10 ∧ vu.ownBlock ≠ some b) ∧ ∀ b, vu.ownBlock = some b → b ≠ A9 ∧ b ≠ A10
def TwoB (A9 A10 : Nat) (va vu : Value) (b : Nat) : Prop := b = A9 ∨ b = A10 ∨ va.ownBlock = some b ∨ vu.ownBlock = some b
theorem repE_enc {w : World} {m : Md} {l : List (List UInt8)} {xs : List Value} (h : RepE w m .str l xs) (hl : xs.length = l.length * 1) : xs = l.map encS := by
  apply List.ext_getElem?
  intro j
  rw [List.getElem?_map]
  by_cases hj : j < l.length
  · have h1 : ((xs.drop (j * 1)).take 1) = [.string ⟨⟨l[j]⟩⟩] := h j l[j] (List.getElem?_eq_getElem hj)
    have h2 : ((xs.drop (j * 1)).take 1)[0]? = some (.string ⟨⟨l[j]⟩⟩) := by rw [h1]; rfl
    rw [List.getElem?_take_of_lt (by omega), List.getElem?_drop] at h2
    simp only [Nat.mul_one, Nat.add_zero] at h2
    rw [h2, List.getElem?_eq_getElem hj]
    rfl
  · rw [List.getElem?_eq_none (by omega), List.getElem?_eq_none (by omega)]
    rfl
theorem enc_repE {w : World} {m : Md} (l : List (List UInt8)) : RepE w m .str l (l.map encS) := by
  intro j x hj
  change List UInt8 at x
  change l[j]? = some x at hj
  show ((l.map encS).drop (j * 1)).take 1 = [.string ⟨⟨x⟩⟩]
  have hlt := (List.getElem?_eq_some_iff.1 hj).1
  have : ((l.map encS).drop j) = encS x :: (l.map encS).drop (j + 1) := by
    rw [← List.map_drop, List.drop_eq_getElem_cons hlt, List.map_cons, List.map_drop]
    rw [(List.getElem?_eq_some_iff.1 hj).2]
  rw [Nat.mul_one, this]
  rfl
theorem row_zero {W : World} {base : Nat} {e : TypeId} {size n : Nat} {v : Value} {xs : List Value} (h : W.ownsRow base e size v n xs) : W.ownsRow 0 e size v n xs := by
  refine ⟨h.1, ?_⟩
  rcases h.2 with h | ⟨g, cap, cur, e1, h2, h3⟩
  · exact .inl h
  · exact .inr ⟨g, cap, cur, e1, Nat.zero_le _, h3⟩
theorem row_ge {W : World} {base : Nat} {e : TypeId} {size n : Nat} {v : Value} {xs : List Value} (h : W.ownsRow base e size v n xs) : ∀ b, v.ownBlock = some b → base ≤ b ∧ b < W.heap.size ∧ ∃ o, W.heap[b]? = some o ∧ o.isCells = true := by
  rcases h.2 with ⟨rfl, _⟩ | ⟨g, cap, cur, rfl, h2, h3, _⟩
  · intro b hb; cases hb
  · intro b hb; cases hb; exact ⟨h2, lt_of_some h3, _, h3, rfl⟩
theorem box_repO {w : World} {m : Md} {g : List Value} {A : Nat} {t : TypeId} {v : Value} {i : Nat} (h : Boxed w A t v) (hi : g[i]? = some v) (hv : ∃ ao n c, v = .slice ao n c) : RepO w m g (.pointer (some ⟨A, 0, none⟩)) [.row i] :=
  ⟨fun _ _ _ e => (by cases e), fun _ _ e => (by cases e), fun _ => ⟨A, t, _, rfl, h, v, [], rfl, ⟨hi, hv⟩, rfl⟩, fun _ _ e => (by cases e), trivial⟩
theorem row_repO {w : World} {m : Md} {g : List Value} {base : Nat} {v : Value} {l : List (List UInt8)} (h : w.ownsRow base 9 1 v l.length (l.map encS)) : RepO w m g v [.rowc 9 .str l] :=
  ⟨fun _ _ _ e => (by cases e; exact ⟨_, row_zero h, enc_repE l⟩), fun _ _ e => (by cases e), fun e => (by cases e), fun _ _ e => (by cases e), trivial⟩
theorem region11 (l n0 : Nat) (ps qs : List (List UInt8)) (x y : List UInt8) (hp : ps.length ≤ 1000000000000) (hq : qs.length ≤ 1000000000000) (tm : List Value) (base R A9 A10 : Nat) (hR : base ≤ R) (W : World) (hg : GI W m0) (hgb : ∀ b ∈ GlobB, b < base)
    (hne : A9 ≠ A10) (h9 : base ≤ A9) (h10 : base ≤ A10) (h : Two R A9 A10 W ps qs) (hlen : tm.length = 60) (hbase : R ≤ W.heap.size)
    (e9 : tm[9]? = some (.pointer (some ⟨A9, 0, none⟩))) (e10 : tm[10]? = some (.pointer (some ⟨A10, 0, none⟩))) (e12 : tm[12]? = some (.string ⟨⟨x⟩⟩)) (e14 : tm[14]? = some (.string ⟨⟨y⟩⟩)) :
    (Code.region 11 ops11 true).wpIn (Fence.wide.inRound l) n0 Tryz.prog (fun e a' w' => e = .normal ∧ Two R A9 A10 w' (ps ++ [x]) (qs ++ [y]) ∧ w'.os = W.os ∧ w'.tape = W.tape ∧ w'.output = W.output ∧ W.heap.size ≤ w'.heap.size ∧
      (∀ b, b < R → b ≠ A9 → b ≠ A10 → w'.heap[b]? = W.heap[b]?) ∧ ∀ (b : Nat) (o : Obj), W.heap[b]? = some o → o.isCells = false → w'.heap[b]? = some o) { tmps := tm.toArray, defers := [] } W := by
  obtain ⟨va, vu, t9, t10, b9, b10, r9, r10, s1, s2⟩ := h.ex
  have g1 := row_ge r9
  have g2 := row_ge r10
  obtain ⟨sa1, sc1, es1⟩ := row_slice r9
  obtain ⟨sa2, sc2, es2⟩ := row_slice r10
  have hmu : ∀ b, TwoB A9 A10 va vu b → base ≤ b ∧ b < W.heap.size ∧ ∃ o, W.heap[b]? = some o ∧ o.isCells = true := by
    rintro b (rfl | rfl | hb | hb)
    · exact ⟨h9, b9.lt, _, b9, rfl⟩
    · exact ⟨h10, b10.lt, _, b10, rfl⟩
    · have := g1 b hb; exact ⟨by omega, this.2⟩
    · have := g2 b hb; exact ⟨by omega, this.2⟩
  have hrep : Rep W ⟨TwoB A9 A10 va vu, TwoB A9 A10 va vu⟩ [va, vu, .pointer (some ⟨A9, 0, none⟩), .pointer (some ⟨A10, 0, none⟩)] ⟨t11 x y, o11 ps qs⟩ { tmps := tm.toArray, defers := [] } := by
    refine ⟨?_, rfl, ?_⟩
    · refine repL_of _ _ (by simp [t11, hlen]) fun i v hv => ?_
      have hv' : tm[i]? = some v := hv
      have hi : i < 60 := hlen ▸ (List.getElem?_eq_some_iff.1 hv').1
      by_cases i9 : i = 9
      · subst i9; rw [e9] at hv'; cases hv'; exact ⟨A9, rfl, rfl⟩
      by_cases i10 : i = 10
      · subst i10; rw [e10] at hv'; cases hv'; exact ⟨A10, rfl, rfl⟩
      by_cases i12 : i = 12
      · subst i12; rw [e12] at hv'; cases hv'; rfl
      by_cases i14 : i = 14
      · subst i14; rw [e14] at hv'; cases hv'; rfl
      have ht : (t11 x y).getD i .top = .top := by
        have hc : i = 0 ∨ i = 1 ∨ i = 2 ∨ i = 3 ∨ i = 4 ∨ i = 5 ∨ i = 6 ∨ i = 7 ∨ i = 8 ∨ i = 11 ∨ i = 13 ∨ 15 ≤ i := by omega
        rcases hc with rfl | rfl | rfl | rfl | rfl | rfl | rfl | rfl | rfl | rfl | rfl | hc
        iterate 11 rfl
        unfold t11
        rw [List.getD_eq_getElem?_getD, List.getElem?_append_right (by simpa using hc), List.getElem?_replicate]
        split <;> rfl
      rw [ht]
      trivial
    · refine ⟨⟨hg.i, fun b hb => ⟨(hg.b b hb).1, fun hc => ?_⟩⟩, rfl, ?_, fun _ h => h, fun b hb => (hmu b hb).2.1, ?_, ?_⟩
      · have := (hmu b hc).1; have := hgb b hb; omega
      · rintro b ⟨i, gi, cs, k1, k2, k3⟩
        match i with
        | 0 => cases k1; cases k2; exact .inr (.inr (.inl k3))
        | 1 => cases k1; cases k2; exact .inr (.inr (.inr k3))
        | 2 => cases k1; cases k2; cases k3; exact .inl rfl
        | 3 => cases k1; cases k2; cases k3; exact .inr (.inl rfl)
        | i + 4 => cases k1
      · intro i gi cs k1 k2
        match i with
        | 0 => cases k1; cases k2; exact row_repO r9
        | 1 => cases k1; cases k2; exact row_repO r10
        | 2 => cases k1; cases k2; exact box_repO b9 rfl ⟨_, _, _, es1⟩
        | 3 => cases k1; cases k2; exact box_repO b10 rfl ⟨_, _, _, es2⟩
        | i + 4 => cases k1
      · intro i j gi gj ci cj b hij k1 k2 k3 k4 k5 k6
        match i, j with
        | 0, 0 | 1, 1 | 2, 2 | 3, 3 => exact hij rfl
        | 0, 1 => cases k1; cases k2; cases k3; cases k4; exact (s1 b k5).2.2 k6
        | 1, 0 => cases k1; cases k2; cases k3; cases k4; exact (s1 b k6).2.2 k5
        | 0, 2 => cases k1; cases k2; cases k3; cases k4; cases k6; exact (s1 _ k5).1 rfl
        | 0, 3 => cases k1; cases k2; cases k3; cases k4; cases k6; exact (s1 _ k5).2.1 rfl
        | 1, 2 => cases k1; cases k2; cases k3; cases k4; cases k6; exact (s2 _ k5).1 rfl
        | 1, 3 => cases k1; cases k2; cases k3; cases k4; cases k6; exact (s2 _ k5).2 rfl
        | 2, 0 => cases k1; cases k2; cases k3; cases k4; cases k5; exact (s1 _ k6).1 rfl
        | 3, 0 => cases k1; cases k2; cases k3; cases k4; cases k5; exact (s1 _ k6).2.1 rfl
        | 2, 1 => cases k1; cases k2; cases k3; cases k4; cases k5; exact (s2 _ k6).1 rfl
        | 3, 1 => cases k1; cases k2; cases k3; cases k4; cases k5; exact (s2 _ k6).2 rfl
        | 2, 3 => cases k1; cases k2; cases k3; cases k4; cases k5; cases k6; exact hne rfl
        | 3, 2 => cases k1; cases k2; cases k3; cases k4; cases k5; cases k6; exact hne rfl
        | i + 4, _ => cases k1
        | _, j + 4 => cases k3
  have hlim : (140737488355328 : Nat) / 16 = 8796093022208 := rfl
  have hrun : dregion Γ K0 ops11 ⟨t11 x y, o11 ps qs⟩ (fun s => some s.o) = some (o11' ps qs x y) := by
    rw [r11, hlim, decide_eq_true (show ps.length + 1 ≤ 8796093022208 by omega), decide_eq_true (show qs.length + 1 ≤ 8796093022208 by omega)]
    rfl
  refine wpIn_mono (dregion_in l n0 nd11 hm hΓ kok0 hrep hrun (Q := fun a' w' => Two R A9 A10 w' (ps ++ [x]) (qs ++ [y]) ∧ w'.os = W.os ∧ w'.tape = W.tape ∧ w'.output = W.output ∧ W.heap.size ≤ w'.heap.size ∧
      (∀ b, b < R → b ≠ A9 → b ≠ A10 → w'.heap[b]? = W.heap[b]?) ∧ ∀ (b : Nat) (o : Obj), W.heap[b]? = some o → o.isCells = false → w'.heap[b]? = some o) ?_) fun e a' w' h => h
  intro st' a' w' m' g' k1 k2 k3 k4
  have ho : st'.o = o11' ps qs x y := Option.some.inj k1
  have hob := k2.obj
  rw [ho] at hob
  have q2 : g'[2]? = some (.pointer (some ⟨A9, 0, none⟩)) := k4 2 _ rfl
  have q3 : g'[3]? = some (.pointer (some ⟨A10, 0, none⟩)) := k4 3 _ rfl
  have hlen8 : g'.length = 8 := hob.len
  obtain ⟨v5, q5⟩ : ∃ v, g'[5]? = some v := ⟨_, List.getElem?_eq_getElem (by omega)⟩
  obtain ⟨v7, q7⟩ : ∃ v, g'[7]? = some v := ⟨_, List.getElem?_eq_getElem (by omega)⟩
  obtain ⟨b2, ty2, arr2, z1, z2, z3⟩ := (hob.obj 2 _ [.row 5] q2 rfl).box rfl
  obtain ⟨b3, ty3, arr3, y1, y2, y3⟩ := (hob.obj 3 _ [.row 7] q3 rfl).box rfl
  cases z1
  cases y1
  obtain ⟨u5, r5, z4, ⟨z5, z6⟩, z7⟩ := z3
  obtain ⟨u7, r7, y4, ⟨y5, y6⟩, y7⟩ := y3
  rw [q5] at z5
  rw [q7] at y5
  cases z5
  cases y5
  have z7' : r5 = [] := z7
  have y7' : r7 = [] := y7
  subst z7' y7'
  obtain ⟨xs5, o5, p5⟩ := (hob.obj 5 _ [.rowc 9 .str (ps ++ [x])] q5 rfl).rowc _ _ _ rfl
  obtain ⟨xs7, o7, p7⟩ := (hob.obj 7 _ [.rowc 9 .str (qs ++ [y])] q7 rfl).rowc _ _ _ rfl
  have hx5 := repE_enc p5 o5.1
  have hx7 := repE_enc p7 o7.1
  subst hx5 hx7
  have hge : ∀ (i : Nat) gi cs b, i ≠ 2 → i ≠ 3 → g'[i]? = some gi → (o11' ps qs x y)[i]? = some cs → blk gi cs = some b → R ≤ b := fun i gi cs b n2 n3 c1 c2 c3 => by
    by_cases hlt : b < W.heap.size
    · rcases k3.mutb b hlt (hob.nm b (hob.sub b ⟨i, gi, cs, c1, c2, c3⟩)) with h | h | h | h
      · exact (hob.sep i 2 _ _ _ _ _ n2 c1 c2 q2 rfl c3 (by rw [h]; rfl)).elim
      · exact (hob.sep i 3 _ _ _ _ _ n3 c1 c2 q3 rfl c3 (by rw [h]; rfl)).elim
      · exact (g1 b h).1
      · exact (g2 b h).1
    · omega
  have hkeep : ∀ (b : Nat) (o : Obj), W.heap[b]? = some o → ¬ TwoB A9 A10 va vu b → w'.heap[b]? = some o := fun b o hb hn => (k3.keep b (lt_of_some hb) hn).trans hb
  refine ⟨⟨v5, v7, ty2, ty3, ?_, ?_, ?_, ?_, ?_, ?_⟩, k3.os, k3.tape, k3.output, k3.size, ?_, ?_⟩
  · have : arr2 = #[v5] := by cases arr2; simpa using z4
    subst this; exact z2
  · have : arr3 = #[v7] := by cases arr3; simpa using y4
    subst this; exact y2
  · exact own_base o5 fun b hb => hge 5 _ _ b (by decide) (by decide) q5 rfl hb
  · exact own_base o7 fun b hb => hge 7 _ _ b (by decide) (by decide) q7 rfl hb
  · intro b hb
    refine ⟨?_, ?_, fun hc => ?_⟩
    · rintro rfl; exact hob.sep 5 2 _ _ _ _ _ (by decide) q5 rfl q2 rfl hb rfl
    · rintro rfl; exact hob.sep 5 3 _ _ _ _ _ (by decide) q5 rfl q3 rfl hb rfl
    · exact hob.sep 5 7 _ _ _ _ _ (by decide) q5 rfl q7 rfl hb hc
  · intro b hb
    refine ⟨?_, ?_⟩
    · rintro rfl; exact hob.sep 7 2 _ _ _ _ _ (by decide) q7 rfl q2 rfl hb rfl
    · rintro rfl; exact hob.sep 7 3 _ _ _ _ _ (by decide) q7 rfl q3 rfl hb rfl
  · intro b hb hn9 hn10
    refine k3.keep b (by omega) fun hc => ?_
    rcases hc with h | h | h | h
    · exact hn9 h
    · exact hn10 h
    · have := (g1 b h).1; omega
    · have := (g2 b h).1; omega
  · intro b o hb hc
    refine hkeep b o hb fun hcc => ?_
    obtain ⟨_, _, o', e1, e2⟩ := hmu b hcc
    rw [hb] at e1
    cases e1
    rw [hc] at e2
    cases e2
def bothF (A U : List UInt8 → Option (List UInt8 × Int)) : List (List UInt8) → List (List UInt8) → List (List UInt8) → Option (Int × List (List UInt8) × List (List UInt8))
  | [], ps, qs => some (0, ps, qs)
  | x :: xs, ps, qs => (A x).bind fun a => bif a.2 != 0 then some (a.2, [], []) else (U x).bind fun u => bothF A U xs (ps ++ [a.1]) (qs ++ [u.1])
theorem two_othR {N Bs R A9 A10 : Nat} {W W' : World} {ps qs : List (List UInt8)} (h : Two R A9 A10 W ps qs) (h9 : A9 ≠ Bs) (h10 : A10 ≠ Bs) (hR : Bs < R) (ho : OthR N Bs W W') : Two R A9 A10 W' ps qs := by
  obtain ⟨va, vu, t9, t10, b9, b10, r9, r10, s1, s2⟩ := h.ex
  exact ⟨va, vu, t9, t10, boxed_oth b9 h9 ho, boxed_oth b10 h10 ho, ownsRow_oth hR r9 ho, ownsRow_oth hR r10 ho, s1, s2⟩
theorem row_repT {W : World} {base : Nat} {v : Value} {l : List (List UInt8)} (h : W.ownsRow base 9 1 v l.length (l.map encS)) : RepT W m0 (.lst .str) l [v] := by
  rcases h.2 with ⟨rfl, h0⟩ | ⟨g, cap, cur, rfl, h2, h3, h4, h5, h6, h7⟩
  · have hl : l = [] := List.eq_nil_of_length_eq_zero h0
    subst hl
    exact ⟨none, 0, rfl, Nat.le_refl _, by omega, fun _ => rfl, fun j x hj => by
      have hj' : ([] : List (List UInt8))[j]? = some x := hj
      simp at hj'⟩
  · refine ⟨_, cap, rfl, h4, by simp only [maxLen] at h5; omega, fun e => (by cases e), fun j x hj => ?_⟩
    change List UInt8 at x
    change l[j]? = some x at hj
    refine ⟨g, 0, [.string ⟨⟨x⟩⟩], rfl, rfl, rfl, lt_of_some h3, fun hm => hm, fun i u hu => ?_⟩
    have hlt := (List.getElem?_eq_some_iff.1 hj).1
    match i with
    | i + 1 => cases hu
    | 0 =>
      cases hu
      have h1 : (cur.toList.take (l.length * 1))[j]? = some (encS x) := by rw [h7, List.getElem?_map, hj]; rfl
      rw [List.getElem?_take_of_lt (by omega), Array.getElem?_toList] at h1
      simp only [World.cell?, h3]
      show cur[0 + j * 1 + 0]? = _
      rw [show 0 + j * 1 + 0 = j by omega]
      exact h1
theorem join_call {W : World} {base : Nat} {v : Value} {l : List (List UInt8)} {r : List UInt8} (h : W.ownsRow base 9 1 v l.length (l.map encS)) (hj : joinF (l, [46], ()) = some (r, ())) (hg : GI W m0) :
    Calls Tryz.prog 73 #[v, .string ⟨#[46]⟩] W fun e W' => e = .returned (.string ⟨⟨r⟩⟩) ∧ Below W.heap.size W W' := by
  have hj' : C73 (l, [46], ()) = some (r, ()) := hj
  refine (FnOk.call0 (v := (l, [46], ())) (y := (r, ())) ok73 Tryz.func73 (by kernel_rfl) (by kernel_rfl) hg (fun _ h => h.elim) rfl ⟨v, _, rfl, row_repT h, _, _, rfl, rfl, rfl⟩ rfl hj' ?_).mono fun e w' ⟨rv, h1, h2, ax, l', u, h3, h4⟩ => ?_
  · intro ax l' u h3
    cases osel_one_inv h3
    rfl
  · cases osel_one_inv h3
    obtain ⟨v, r', e1, e2, e4⟩ := h4
    have e4' : r' = [] := e4
    subst e4'
    cases e1
    subst h1 e2
    exact ⟨rfl, h2⟩
def outF (res : Int × List (List UInt8) × List (List UInt8)) : Option (List UInt8 × List UInt8 × Int) :=
  bif res.1 != 0 then some ([], [], res.1) else (joinF (res.2.1, [46], ())).bind fun ja => bif decide (253 < ja.1.length) then some ([], [], 5) else (joinF (res.2.2, [46], ())).bind fun ju => some (ja.1, ju.1, 0)
set_option maxHeartbeats 4000000 in
theorem both_walk (v0 v1 v2 v3 v4 : Value) (s : List UInt8) (ls : List (List UInt8)) (A U : List UInt8 → Option (List UInt8 × Int)) (res : Int × List (List UInt8) × List (List UInt8)) (w : World) (hg : GI w m0) (hll : ls.length ≤ 32)
    (hres : bothF A U ls [] [] = some res) (oa ou : List UInt8) (oc : Int) (hout : outF res = some (oa, ou, oc))
    (hlab : ∀ W, Below w.heap.size w W → Calls Tryz.prog 157 #[.agg #[v0, v1, v2, v3, v4], .string ⟨⟨s⟩⟩] W fun e w' => ∃ v, e = .returned (.tuple #[v, .int .i64 0]) ∧ Below W.heap.size W w' ∧ w'.ownsRow W.heap.size 9 1 v ls.length (ls.map encS))
    (hA : ∀ x r, A x = some r → ∀ W, Below w.heap.size w W → Calls Tryz.prog 159 #[.agg #[v0, v1, v2, v3, v4], .string ⟨⟨x⟩⟩] W fun e W' => e = .returned (.tuple #[.string ⟨⟨r.1⟩⟩, .int .i64 r.2]) ∧ Below W.heap.size W W')
    (hU : ∀ x r, U x = some r → ∀ W, Below w.heap.size w W → Calls Tryz.prog 160 #[.agg #[v0, v1, v2, v3, v4], .string ⟨⟨x⟩⟩] W fun e W' => e = .returned (.tuple #[.string ⟨⟨r.1⟩⟩, .int .i64 r.2]) ∧ Below W.heap.size W W') :
    Calls Tryz.prog 124 #[.agg #[v0, v1, v2, v3, v4], .string ⟨⟨s⟩⟩] w fun e w' => e = .returned (.tuple #[.string ⟨⟨oa⟩⟩, .string ⟨⟨ou⟩⟩, .int .i64 oc]) ∧ Below w.heap.size w w' := by
  refine (callsIn_wide (n := 3)).1 ?_
  refine callsIn_of_wp_marks Tryz.func124 rfl trivial ?_ rfl
  simp only [Tryz.ntmps124, List.size_toArray, List.length_cons, List.length_nil, Nat.reduceAdd, Nat.reduceSub, Array.replicate_succ, Array.replicate_zero, List.push_toArray, List.append_toArray, List.nil_append, List.cons_append]
  have hW0 : Below w.heap.size w ((((w.alloc (.cells #[v0, v1, v2, v3, v4] 39)).alloc (.cells #[.string ⟨#[]⟩] 9)).alloc (.cells #[.string ⟨#[]⟩] 9)).alloc (.cells #[.int .i64 0] 44)) :=
    ((((Below.refl _ w).alloc (Nat.le_refl _) _).alloc (by simp) _).alloc (by simp <;> omega) _).alloc (by simp <;> omega) _
  gi_wp2_with (first
    | (refine ⟨trivial, ?_⟩; gi_at_call 157; refine (callsIn_wide.2 (hlab _ hW0)).mono ?_; rintro e w1 ⟨lv, rfl, hb1, hrow⟩; obtain ⟨la, lc, rfl⟩ := row_slice hrow)
    | (refine ⟨trivial, ?_⟩; gi_at_call 158; refine (callsIn_wide.2 (values_mk _ _ _ _)).mono ?_; rintro e w2 ⟨rfl, rfl⟩))
  have hb0 : Below w.heap.size w w1 := hW0.trans (hb1.mono hW0.size)
  have hsz1 : w.heap.size + 4 ≤ w1.heap.size := by have := hb1.size; simp at this; omega
  have hT : ∀ X, Below w1.heap.size w1 X → X.cell? ⟨w.heap.size, 0, none⟩ = some v0 ∧ X.cell? ⟨w.heap.size, 1, none⟩ = some v1 ∧ X.cell? ⟨w.heap.size, 2, none⟩ = some v2 ∧ X.cell? ⟨w.heap.size, 3, none⟩ = some v3 ∧ X.cell? ⟨w.heap.size, 4, none⟩ = some v4 := fun X hX => by
    have h1 : X.heap[w.heap.size]? = some (.cells #[v0, v1, v2, v3, v4] 39) := by
      rw [hX.block _ (by omega), hb1.block _ (by simp <;> omega), Below.heap_alloc _ _ _ (by simp <;> omega), Below.heap_alloc _ _ _ (by simp <;> omega), Below.heap_alloc _ _ _ (by simp), heap_alloc_new]
    exact ⟨by rw [cell_of_cells h1]; rfl, by rw [cell_of_cells h1]; rfl, by rw [cell_of_cells h1]; rfl, by rw [cell_of_cells h1]; rfl, by rw [cell_of_cells h1]; rfl⟩
  have hR : ∀ X, Below w1.heap.size w1 X → Boxed X (w.heap.size + 1) 9 (.string ⟨#[]⟩) ∧ Boxed X (w.heap.size + 1 + 1) 9 (.string ⟨#[]⟩) ∧ Boxed X (w.heap.size + 1 + 1 + 1) 44 (.int .i64 0) := fun X hX => by
    refine ⟨?_, ?_, ?_⟩
    · show X.heap[_]? = _
      rw [hX.block _ (by omega), hb1.block _ (by simp <;> omega), Below.heap_alloc _ _ _ (by simp <;> omega), Below.heap_alloc _ _ _ (by simp)]
      have := heap_alloc_new (w.alloc (.cells #[v0, v1, v2, v3, v4] 39)) (.cells #[.string ⟨#[]⟩] 9)
      rwa [World.size_alloc] at this
    · show X.heap[_]? = _
      rw [hX.block _ (by omega), hb1.block _ (by simp <;> omega), Below.heap_alloc _ _ _ (by simp)]
      have := heap_alloc_new ((w.alloc (.cells #[v0, v1, v2, v3, v4] 39)).alloc (.cells #[.string ⟨#[]⟩] 9)) (.cells #[.string ⟨#[]⟩] 9)
      rwa [World.size_alloc, World.size_alloc] at this
    · show X.heap[_]? = _
      rw [hX.block _ (by omega), hb1.block _ (by simp)]
      have := heap_alloc_new (((w.alloc (.cells #[v0, v1, v2, v3, v4] 39)).alloc (.cells #[.string ⟨#[]⟩] 9)).alloc (.cells #[.string ⟨#[]⟩] 9)) (.cells #[.int .i64 0] 44)
      rwa [World.size_alloc, World.size_alloc, World.size_alloc] at this
  have hg1 : GI w1 m0 := gi_below hg hb0
  have hW2 : Below w1.heap.size w1 (((w1.alloc (.cells #[.slice none 0 0] 89)).alloc (.cells #[.slice none 0 0] 89)).alloc (.cells #[.slice la ls.length lc] 89)) :=
    (((Below.refl _ w1).alloc (Nat.le_refl _) _).alloc (by simp) _).alloc (by simp <;> omega) _
  have hszN : (((w1.alloc (.cells #[.slice none 0 0] 89)).alloc (.cells #[.slice none 0 0] 89)).alloc (.cells #[.slice la ls.length lc] 89)).heap.size = w1.heap.size + 3 := by simp
  have hbv : Boxed (((w1.alloc (.cells #[.slice none 0 0] 89)).alloc (.cells #[.slice none 0 0] 89)).alloc (.cells #[.slice la ls.length lc] 89)) (w1.heap.size + 1 + 1) 89 (.slice la ls.length lc) := by
    have := Boxed.new ((w1.alloc (.cells #[.slice none 0 0] 89)).alloc (.cells #[.slice none 0 0] 89)) 89 (.slice la ls.length lc)
    rwa [World.size_alloc, World.size_alloc] at this
  have hb9 : Boxed (((w1.alloc (.cells #[.slice none 0 0] 89)).alloc (.cells #[.slice none 0 0] 89)).alloc (.cells #[.slice la ls.length lc] 89)) w1.heap.size 89 (.slice none 0 0) :=
    ((Boxed.new w1 89 (.slice none 0 0)).alloc _).alloc _
  have hb10 : Boxed (((w1.alloc (.cells #[.slice none 0 0] 89)).alloc (.cells #[.slice none 0 0] 89)).alloc (.cells #[.slice la ls.length lc] 89)) (w1.heap.size + 1) 89 (.slice none 0 0) := by
    have := (Boxed.new (w1.alloc (.cells #[.slice none 0 0] 89)) 89 (.slice none 0 0)).alloc (.cells #[.slice la ls.length lc] 89)
    rwa [World.size_alloc] at this
  have hrow2 : (((w1.alloc (.cells #[.slice none 0 0] 89)).alloc (.cells #[.slice none 0 0] 89)).alloc (.cells #[.slice la ls.length lc] 89)).ownsRow 0 9 1 (.slice la ls.length lc) ls.length (ls.map encS) := by
    have := row_zero hrow
    exact ((this.alloc _).alloc _).alloc _
  have hown : ∀ b, (Value.slice la ls.length lc).ownBlock = some b → b < w1.heap.size := fun b hb => ((row_ge hrow) b hb).2.1
  clear hlab
  refine wpIn_rangeFunc_dir (F := Fence.wide) (n := 3) rfl (by omega) (gf := 191) (lb := #[.pointer (some ⟨w1.heap.size + 1 + 1, 0, none⟩)]) rfl trivial (enters_of Tryz.func191 (by kernel_rfl) rfl)
    (K := fun b => b = w1.heap.size + 1 + 1 ∨ (Value.slice la ls.length lc).ownBlock = some b)
    (values_seq 2 (by omega) (w1.heap.size + 1 + 1) 0 _ ls _ _ hbv hrow2 (by omega) (.inl rfl) (fun b hb => .inr hb) (w1.heap.size + 1 + 1))
    (by rintro b (rfl | hb)
        · rw [hszN]; omega
        · have := hown b hb; rw [hszN]; omega) (by rw [hszN]; omega) (fun _ => rfl)
    (fun pre W => ∃ ps qs rest, ls = pre ++ rest ∧ bothF A U rest ps qs = some res ∧ ps.length = pre.length ∧ qs.length = pre.length ∧ Two (w1.heap.size + 3) w1.heap.size (w1.heap.size + 1) W ps qs ∧ Below w1.heap.size w1 W)
    (fun c pre W => c = .ret ∧ res.1 ≠ 0 ∧ Boxed W (w.heap.size + 1) 9 (.string ⟨#[]⟩) ∧ Boxed W (w.heap.size + 1 + 1) 9 (.string ⟨#[]⟩) ∧ Boxed W (w.heap.size + 1 + 1 + 1) 44 (.int .i64 res.1) ∧ Below w.heap.size w W)
    (fun pre X Y hs ho => by
      obtain ⟨ps, qs, rest, h1, h2, h3, h4, h5, h6⟩ := hs
      exact ⟨ps, qs, rest, h1, h2, h3, h4, two_othR h5 (by omega) (by omega) (by omega) ho, below_othR h6 (Nat.le_refl _) (by rw [hszN]; omega) (by omega) ho⟩)
    (fun c pre X Y hs ho => by
      obtain ⟨h1, h2, h3, h4, h5, h6⟩ := hs
      exact ⟨h1, h2, boxed_oth h3 (by omega) ho, boxed_oth h4 (by omega) ho, boxed_oth h5 (by omega) ho, below_othR h6 (Nat.le_refl _) (by rw [hszN]; omega) (by omega) ho⟩)
    ⟨[], [], ls, rfl, hres, rfl, rfl, ⟨_, _, _, _, hb9, hb10, World.ownsRow_nil _ _ _ _, World.ownsRow_nil _ _ _ _, fun b hb => (by cases hb), fun b hb => (by cases hb)⟩, hW2⟩
    (fun x => { tmps := #[.agg #[v0, v1, v2, v3, v4], .string ⟨⟨s⟩⟩, .pointer (some ⟨w.heap.size, 0, none⟩), undef, .pointer (some ⟨w.heap.size + 1, 0, none⟩), .pointer (some ⟨w.heap.size + 1 + 1, 0, none⟩), .pointer (some ⟨w.heap.size + 1 + 1 + 1, 0, none⟩), .slice la ls.length lc, .int .i64 0,
      .pointer (some ⟨w1.heap.size, 0, none⟩), .pointer (some ⟨w1.heap.size + 1, 0, none⟩), .string ⟨⟨x⟩⟩, undef, undef, undef, undef, undef, .tuple #[.slice la ls.length lc, .int .i64 0], .agg #[v0, v1, v2, v3, v4], .string ⟨⟨s⟩⟩, .tuple #[.slice la ls.length lc, .int .i64 0], .slice la ls.length lc, .int .i64 0, .int .i64 0, .bool false, undef, .slice la ls.length lc,
      .func (.func 191) #[] #[.pointer (some ⟨w1.heap.size + 1 + 1, 0, none⟩)], .string ⟨⟨x⟩⟩, undef, undef, undef, undef, undef, undef, undef, undef, undef, undef, undef, undef, undef, undef, undef, undef, undef, undef, undef, undef, undef, undef, undef, undef, undef, undef, undef, undef, undef, undef, undef], defers := [] }) ?assign ?body ?done ?stop
  case assign =>
    intro l x W K hK
    gi_wp2
    exact hK
  case body =>
    rintro l pre x W hsz hpre ⟨ps, qs, rest, hls, hbf, hlp, hlq, hTwo, hbel⟩
    obtain ⟨rest', rfl⟩ : ∃ r, rest = x :: r := by
      obtain ⟨t, ht⟩ := hpre
      rw [hls, List.append_assoc] at ht
      have := List.append_cancel_left ht
      exact ⟨t, by simpa using this.symm⟩
    simp only [bothF] at hbf
    obtain ⟨⟨a1, a2⟩, ha, hbf2⟩ := Option.bind_eq_some_iff.1 hbf
    simp only at hbf2
    rw [hszN] at hsz
    have hWw : Below w.heap.size w W := hb0.trans (hbel.mono (by omega))
    have hcA := hA x _ ha W hWw
    obtain ⟨t0, t1, t2, t3, t4⟩ := hT W hbel
    by_cases hz : a2 = 0
    · subst hz
      have hbf3 : ((U x).bind fun u => bothF A U rest' (ps ++ [a1]) (qs ++ [u.1])) = some res := hbf2
      obtain ⟨⟨u1, u2⟩, hu, hbf4⟩ := Option.bind_eq_some_iff.1 hbf3
      simp only at hbf4
      have hcU := hU x _ hu
      gi_wp2_with (first
        | (refine ⟨trivial, ?_⟩; gi_at_call 159; refine (CallsIn.inRound l (callsIn_wide.2 hcA)).mono ?_; rintro e W3 ⟨rfl, hb3⟩; have hbel3 : Below w1.heap.size w1 W3 := hbel.trans (hb3.mono (by omega)); obtain ⟨t5, t6, t7, t8, t9⟩ := hT W3 hbel3)
        | (refine ⟨trivial, ?_⟩; gi_at_call 160; refine (CallsIn.inRound l (callsIn_wide.2 (hcU W3 (hb0.trans (hbel3.mono (by omega)))))).mono ?_; rintro e W4 ⟨rfl, hb4⟩))
      have hb34 : Below W.heap.size W W4 := hb3.trans (hb4.mono hb3.size)
      have hTwo4 : Two (w1.heap.size + 3) w1.heap.size (w1.heap.size + 1) W4 ps qs := two_othR (N := 0) (Bs := w1.heap.size + 1 + 1) hTwo (by omega) (by omega) (by omega) (Oth.of_below hb34).toR
      have hll2 : pre.length ≤ 32 := by have := hpre.length_le; simp at this; omega
      refine wpIn_mono (c := Code.region 11 ops11 true) (region11 l _ ps qs a1 u1 (by omega) (by omega) _ w1.heap.size (w1.heap.size + 3) w1.heap.size (w1.heap.size + 1) (by omega) W4 (gi_below hg1 (hbel3.trans (hb4.mono (by have := hbel3.size; omega)))) (fun b hb => (hg1.b b hb).1) (by omega) (Nat.le_refl _) (by omega) hTwo4 rfl (by have := hb34.size; omega) rfl rfl rfl rfl) ?_
      rintro e a' w' ⟨rfl, hTwo', o1, o2, o3, o4, o5, o6⟩
      refine ⟨⟨Nat.le_trans hb34.size o4, fun k o _ hk hc => o6 k o ((hb34.block k (lt_of_some hk)).trans hk) hc⟩, ?_, ps ++ [a1], qs ++ [u1], rest', by simp [hls], hbf4, by simp; omega, by simp; omega, hTwo', ?_⟩
      · rintro b (rfl | hb)
        · rw [o5 _ (by omega) (by omega) (by omega), hb34.block _ (by omega)]
        · have := hown b hb
          rw [o5 _ (by omega) (by omega) (by omega), hb34.block _ (by omega)]
      · exact (hbel.trans (hb34.mono (by omega))).trans ⟨o1, o2, o3, o4, fun k hk => o5 k (by omega) (by omega) (by omega)⟩
    · have hbf3 : some (a2, ([] : List (List UInt8)), ([] : List (List UInt8))) = some res := by
        rw [← hbf2, show (a2 != 0) = true by simpa using hz]; rfl
      cases hbf3
      gi_wp2_with (refine ⟨trivial, ?_⟩; gi_at_call 159; refine (CallsIn.inRound l (callsIn_wide.2 hcA)).mono ?_; rintro e W3 ⟨rfl, hb3⟩; have hbel3 : Below w1.heap.size w1 W3 := hbel.trans (hb3.mono (by omega)); obtain ⟨q1, q2, q3⟩ := hR W3 hbel3; have q4 := q1.cell; have q5 := q1.frozen; have q6 := q2.cell; have q7 := q2.frozen; have q8 := q3.cell; have q9 := q3.frozen)
      refine ⟨KeepsFrom.trans ⟨hb3.size, fun k o _ h _ => (hb3.block k (lt_of_some h)).trans h⟩ ((((KeepsOthers.setCell _ _ _).trans (KeepsOthers.setCell _ _ _)).trans (KeepsOthers.setCell _ _ _)).from _), rfl, ?_, ?_, ?_, ?_⟩
      · exact setBox (setBox (Boxed.set _ q1) (by omega)) (by omega)
      · exact setBox (Boxed.set _ (setBox q2 (by omega))) (by omega)
      · exact Boxed.set _ (setBox (setBox q3 (by omega)) (by omega))
      · exact (((hb0.trans (hbel3.mono (by omega))).setCell (p := ⟨w.heap.size + 1, 0, none⟩) (show w.heap.size ≤ w.heap.size + 1 by omega) _).setCell (p := ⟨w.heap.size + 1 + 1, 0, none⟩) (show w.heap.size ≤ w.heap.size + 1 + 1 by omega) _).setCell (p := ⟨w.heap.size + 1 + 1 + 1, 0, none⟩) (show w.heap.size ≤ w.heap.size + 1 + 1 + 1 by omega) _
  case done =>
    rintro D W hD ⟨ps, qs, rest, hls, hbf, hlp, hlq, hTwo, hbel⟩ hK
    have hrest : rest = [] := by
      have := congrArg List.length hls
      simp at this
      exact this
    subst hrest
    have hres' : (0, ps, qs) = res := Option.some.inj hbf
    subst hres'
    have ho : ((joinF (ps, [46], ())).bind fun ja => bif decide (253 < ja.1.length) then some (([] : List UInt8), ([] : List UInt8), (5 : Int)) else (joinF (qs, [46], ())).bind fun ju => some (ja.1, ju.1, 0)) = some (oa, ou, oc) := hout
    obtain ⟨⟨ja, ju0⟩, hja, ho2⟩ := Option.bind_eq_some_iff.1 ho
    obtain ⟨va, vu, ta, tu, bx9, bx10, rw9, rw10, _, _⟩ := hTwo.ex
    have hcj := join_call rw9 hja (gi_below hg1 hbel)
    have c9 := bx9.cell
    have c10 := bx10.cell
    have hDW : D < W.heap.size := lt_of_some hK
    rw [hszN] at hD
    have hs8 : w1.heap.size ≤ W.heap.size := hbel.size
    clear hls hbf hout ho hres hll hlp hlq
    by_cases h253 : 253 < ja.length
    · have ho3 : some (([] : List UInt8), ([] : List UInt8), (5 : Int)) = some (oa, ou, oc) := by rw [← ho2]; simp only; rw [decide_eq_true h253]; rfl
      cases ho3
      gi_wp2_with (refine ⟨trivial, ?_⟩; gi_at_call 73; refine (callsIn_wide.2 hcj).mono ?_; rintro e W5 ⟨rfl, hb5⟩; have hbel5 : Below w1.heap.size w1 W5 := hbel.trans (hb5.mono (by have := hbel.size; omega)); obtain ⟨q1, q2, q3⟩ := hR W5 hbel5; have q4 := q1.cell; have q5 := q1.frozen; have q6 := q2.cell; have q7 := q2.frozen; have q8 := q3.cell; have q9 := q3.frozen)
      have hKX : ((((W5.setCell ⟨w.heap.size + 1, 0, none⟩ (.string ⟨#[]⟩)).setCell ⟨w.heap.size + 1 + 1, 0, none⟩ (.string ⟨#[]⟩)).setCell ⟨w.heap.size + 1 + 1 + 1, 0, none⟩ (.int .i64 5))).heap[D]? = some (.deferred (some [])) := by
        rw [Below.heap_setCell _ _ _ _ (show D ≠ w.heap.size + 1 + 1 + 1 by omega), Below.heap_setCell _ _ _ _ (show D ≠ w.heap.size + 1 + 1 by omega), Below.heap_setCell _ _ _ _ (show D ≠ w.heap.size + 1 by omega)]
        exact (hb5.block D hDW).trans hK
      refine ⟨by simp, .inl ⟨_, _, rfl, run_takeDeferred hKX, ?_⟩⟩
      have e1 := setBox (b' := w.heap.size + 1 + 1 + 1) (u := (.int .i64 5)) (setBox (b' := w.heap.size + 1 + 1) (u := (.string ⟨#[]⟩)) (Boxed.set (.string ⟨#[]⟩) q1) (by omega)) (by omega)
      have e2 := setBox (b' := w.heap.size + 1 + 1 + 1) (u := (.int .i64 5)) (Boxed.set (.string ⟨#[]⟩) (setBox (b' := w.heap.size + 1) (u := (.string ⟨#[]⟩)) q2 (by omega))) (by omega)
      have e3 := Boxed.set (.int .i64 5) (setBox (b' := w.heap.size + 1 + 1) (u := (.string ⟨#[]⟩)) (setBox (b' := w.heap.size + 1) (u := (.string ⟨#[]⟩)) q3 (by omega)) (by omega))
      have hc1 := cell_kept e1.cell (grownBy_putObj' _ D (.deferred none)) (fun r e => by cases e; exact ⟨_, hKX, rfl⟩)
      have hc2 := cell_kept e2.cell (grownBy_putObj' _ D (.deferred none)) (fun r e => by cases e; exact ⟨_, hKX, rfl⟩)
      have hc3 := cell_kept e3.cell (grownBy_putObj' _ D (.deferred none)) (fun r e => by cases e; exact ⟨_, hKX, rfl⟩)
      have hbX := (((hb0.trans (hbel5.mono (show w.heap.size ≤ w1.heap.size by omega))).setCell (p := ⟨w.heap.size + 1, 0, none⟩) (show w.heap.size ≤ w.heap.size + 1 by omega) (.string ⟨#[]⟩)).setCell (p := ⟨w.heap.size + 1 + 1, 0, none⟩) (show w.heap.size ≤ w.heap.size + 1 + 1 by omega) (.string ⟨#[]⟩)).setCell (p := ⟨w.heap.size + 1 + 1 + 1, 0, none⟩) (show w.heap.size ≤ w.heap.size + 1 + 1 + 1 by omega) (.int .i64 5)
      refine ⟨.tuple #[(.string ⟨#[]⟩), (.string ⟨#[]⟩), (.int .i64 5)], ?_, rfl, hbX.trans (belowK_b (w := w) (Nat.le_refl _) _ D _ _ (by omega) hKX rfl rfl)⟩
      simp [results, Tryz.f124, go_sem, hc1, hc2, hc3]
    · have ho3 : ((joinF (qs, [46], ())).bind fun ju => some (ja, ju.1, (0 : Int))) = some (oa, ou, oc) := by rw [← ho2]; simp only; rw [decide_eq_false h253]; rfl
      obtain ⟨⟨ju, ju1⟩, hju, ho4⟩ := Option.bind_eq_some_iff.1 ho3
      cases ho4
      gi_wp2_with (first
        | (refine ⟨trivial, ?_⟩; gi_at_call 73; refine (callsIn_wide.2 hcj).mono ?_; clear hcj; rintro e W5 ⟨rfl, hb5⟩; have hbel5 : Below w1.heap.size w1 W5 := hbel.trans (hb5.mono (by have := hbel.size; omega)); have c11 : W5.cell? ⟨w1.heap.size + 1, 0, none⟩ = some vu := (hb5.cell (p := ⟨w1.heap.size + 1, 0, none⟩) bx10.lt).trans c10; have hcj2 := join_call (ownsRow_oth (N := 0) (Bs := w1.heap.size + 1 + 1) (by omega) rw10 (Oth.of_below hb5).toR) hju (gi_below hg1 hbel5))
        | (refine ⟨trivial, ?_⟩; gi_at_call 73; refine (callsIn_wide.2 hcj2).mono ?_; clear hcj2; rintro e W6 ⟨rfl, hb6⟩; have hbel6 : Below w1.heap.size w1 W6 := hbel5.trans (hb6.mono (by have := hbel5.size; omega)); obtain ⟨q1, q2, q3⟩ := hR W6 hbel6; have q4 := q1.cell; have q5 := q1.frozen; have q6 := q2.cell; have q7 := q2.frozen; have q8 := q3.cell; have q9 := q3.frozen))
      have hKX : ((((W6.setCell ⟨w.heap.size + 1, 0, none⟩ (.string ⟨⟨oa⟩⟩)).setCell ⟨w.heap.size + 1 + 1, 0, none⟩ (.string ⟨⟨ju⟩⟩)).setCell ⟨w.heap.size + 1 + 1 + 1, 0, none⟩ (.int .i64 0))).heap[D]? = some (.deferred (some [])) := by
        rw [Below.heap_setCell _ _ _ _ (show D ≠ w.heap.size + 1 + 1 + 1 by omega), Below.heap_setCell _ _ _ _ (show D ≠ w.heap.size + 1 + 1 by omega), Below.heap_setCell _ _ _ _ (show D ≠ w.heap.size + 1 by omega)]
        exact (hb6.block D (Nat.lt_of_lt_of_le hDW hb5.size)).trans ((hb5.block D hDW).trans hK)
      refine ⟨by simp, .inl ⟨_, _, rfl, run_takeDeferred hKX, ?_⟩⟩
      have e1 := setBox (b' := w.heap.size + 1 + 1 + 1) (u := (.int .i64 0)) (setBox (b' := w.heap.size + 1 + 1) (u := (.string ⟨⟨ju⟩⟩)) (Boxed.set (.string ⟨⟨oa⟩⟩) q1) (by omega)) (by omega)
      have e2 := setBox (b' := w.heap.size + 1 + 1 + 1) (u := (.int .i64 0)) (Boxed.set (.string ⟨⟨ju⟩⟩) (setBox (b' := w.heap.size + 1) (u := (.string ⟨⟨oa⟩⟩)) q2 (by omega))) (by omega)
      have e3 := Boxed.set (.int .i64 0) (setBox (b' := w.heap.size + 1 + 1) (u := (.string ⟨⟨ju⟩⟩)) (setBox (b' := w.heap.size + 1) (u := (.string ⟨⟨oa⟩⟩)) q3 (by omega)) (by omega))
      have hc1 := cell_kept e1.cell (grownBy_putObj' _ D (.deferred none)) (fun r e => by cases e; exact ⟨_, hKX, rfl⟩)
      have hc2 := cell_kept e2.cell (grownBy_putObj' _ D (.deferred none)) (fun r e => by cases e; exact ⟨_, hKX, rfl⟩)
      have hc3 := cell_kept e3.cell (grownBy_putObj' _ D (.deferred none)) (fun r e => by cases e; exact ⟨_, hKX, rfl⟩)
      have hbX := (((hb0.trans (hbel6.mono (show w.heap.size ≤ w1.heap.size by omega))).setCell (p := ⟨w.heap.size + 1, 0, none⟩) (show w.heap.size ≤ w.heap.size + 1 by omega) (.string ⟨⟨oa⟩⟩)).setCell (p := ⟨w.heap.size + 1 + 1, 0, none⟩) (show w.heap.size ≤ w.heap.size + 1 + 1 by omega) (.string ⟨⟨ju⟩⟩)).setCell (p := ⟨w.heap.size + 1 + 1 + 1, 0, none⟩) (show w.heap.size ≤ w.heap.size + 1 + 1 + 1 by omega) (.int .i64 0)
      refine ⟨.tuple #[(.string ⟨⟨oa⟩⟩), (.string ⟨⟨ju⟩⟩), (.int .i64 0)], ?_, rfl, hbX.trans (belowK_b (w := w) (Nat.le_refl _) _ D _ _ (by omega) hKX rfl rfl)⟩
      simp [results, Tryz.f124, go_sem, hc1, hc2, hc3]
  case stop =>
    rintro D c pre W hD hpre ⟨rfl, hne, h1, h2, h3, hbel⟩ hK
    have ho : some (([] : List UInt8), ([] : List UInt8), res.1) = some (oa, ou, oc) := by
      rw [← hout]
      unfold outF
      rw [show (res.1 != 0) = true by simpa using hne]; rfl
    cases ho
    gi_wp2
    refine ⟨by simp, .inl ⟨_, _, rfl, run_takeDeferred hK, ?_⟩⟩
    have hc1 := cell_kept h1.cell (grownBy_putObj' _ D (.deferred none)) (fun r e => by cases e; exact ⟨_, hK, rfl⟩)
    have hc2 := cell_kept h2.cell (grownBy_putObj' _ D (.deferred none)) (fun r e => by cases e; exact ⟨_, hK, rfl⟩)
    have hc3 := cell_kept h3.cell (grownBy_putObj' _ D (.deferred none)) (fun r e => by cases e; exact ⟨_, hK, rfl⟩)
    rw [hszN] at hD
    refine ⟨.tuple #[.string ⟨#[]⟩, .string ⟨#[]⟩, .int .i64 res.1], ?_, rfl, hbel.trans (belowK_b (w := w) (Nat.le_refl _) W D _ _ (by omega) hK rfl rfl)⟩
    simp [results, Tryz.f124, go_sem, hc1, hc2, hc3]
set_option maxHeartbeats 4000000 in
theorem both_err (v0 v1 v2 v3 v4 : Value) (s : List UInt8) (c : Int) (hc : c ≠ 0) (w : World)
    (hlab : ∀ W, Below w.heap.size w W → Calls Tryz.prog 157 #[.agg #[v0, v1, v2, v3, v4], .string ⟨⟨s⟩⟩] W fun e w' => ∃ v, e = .returned (.tuple #[v, .int .i64 c]) ∧ Below W.heap.size W w') :
    Calls Tryz.prog 124 #[.agg #[v0, v1, v2, v3, v4], .string ⟨⟨s⟩⟩] w fun e w' => e = .returned (.tuple #[.string ⟨#[]⟩, .string ⟨#[]⟩, .int .i64 c]) ∧ Below w.heap.size w w' := by
  have hW0 : Below w.heap.size w ((((w.alloc (.cells #[v0, v1, v2, v3, v4] 39)).alloc (.cells #[.string ⟨#[]⟩] 9)).alloc (.cells #[.string ⟨#[]⟩] 9)).alloc (.cells #[.int .i64 0] 44)) :=
    ((((Below.refl _ w).alloc (Nat.le_refl _) _).alloc (by simp) _).alloc (by simp <;> omega) _).alloc (by simp <;> omega) _
  have hR : ∀ X, Below (w.heap.size + 4) ((((w.alloc (.cells #[v0, v1, v2, v3, v4] 39)).alloc (.cells #[.string ⟨#[]⟩] 9)).alloc (.cells #[.string ⟨#[]⟩] 9)).alloc (.cells #[.int .i64 0] 44)) X → Boxed X (w.heap.size + 1) 9 (.string ⟨#[]⟩) ∧ Boxed X (w.heap.size + 1 + 1) 9 (.string ⟨#[]⟩) ∧ Boxed X (w.heap.size + 1 + 1 + 1) 44 (.int .i64 0) := fun X hX => by
    refine ⟨?_, ?_, ?_⟩
    · show X.heap[_]? = _
      rw [hX.block _ (by omega), Below.heap_alloc _ _ _ (by simp <;> omega), Below.heap_alloc _ _ _ (by simp)]
      have := heap_alloc_new (w.alloc (.cells #[v0, v1, v2, v3, v4] 39)) (.cells #[.string ⟨#[]⟩] 9)
      rwa [World.size_alloc] at this
    · show X.heap[_]? = _
      rw [hX.block _ (by omega), Below.heap_alloc _ _ _ (by simp)]
      have := heap_alloc_new ((w.alloc (.cells #[v0, v1, v2, v3, v4] 39)).alloc (.cells #[.string ⟨#[]⟩] 9)) (.cells #[.string ⟨#[]⟩] 9)
      rwa [World.size_alloc, World.size_alloc] at this
    · show X.heap[_]? = _
      rw [hX.block _ (by omega)]
      have := heap_alloc_new (((w.alloc (.cells #[v0, v1, v2, v3, v4] 39)).alloc (.cells #[.string ⟨#[]⟩] 9)).alloc (.cells #[.string ⟨#[]⟩] 9)) (.cells #[.int .i64 0] 44)
      rwa [World.size_alloc, World.size_alloc, World.size_alloc] at this
  have hl := hlab _ hW0
  clear hlab
  go_enter Tryz.func124, Tryz.ntmps124
  go_wp2_with (go_at_call 157; refine hl.mono ?_; rintro e w1 ⟨lv, rfl, hb1⟩; obtain ⟨q1, q2, q3⟩ := hR w1 (hb1.mono (by simp)); have q4 := q1.cell; have q5 := q1.frozen; have q6 := q2.cell; have q7 := q2.frozen; have q8 := q3.cell; have q9 := q3.frozen)
  have e1 := setBox (b' := w.heap.size + 1 + 1 + 1) (u := (.int .i64 c)) (setBox (b' := w.heap.size + 1 + 1) (u := (.string ⟨#[]⟩)) (Boxed.set (.string ⟨#[]⟩) q1) (by omega)) (by omega)
  have e2 := setBox (b' := w.heap.size + 1 + 1 + 1) (u := (.int .i64 c)) (Boxed.set (.string ⟨#[]⟩) (setBox (b' := w.heap.size + 1) (u := (.string ⟨#[]⟩)) q2 (by omega))) (by omega)
  have e3 := Boxed.set (.int .i64 c) (setBox (b' := w.heap.size + 1 + 1) (u := (.string ⟨#[]⟩)) (setBox (b' := w.heap.size + 1) (u := (.string ⟨#[]⟩)) q3 (by omega)) (by omega))
  have hc1 := e1.cell
  have hc2 := e2.cell
  have hc3 := e3.cell
  have hbX := (((hW0.trans (hb1.mono (by simp <;> omega))).setCell (p := ⟨w.heap.size + 1, 0, none⟩) (show w.heap.size ≤ w.heap.size + 1 by omega) (.string ⟨#[]⟩)).setCell (p := ⟨w.heap.size + 1 + 1, 0, none⟩) (show w.heap.size ≤ w.heap.size + 1 + 1 by omega) (.string ⟨#[]⟩)).setCell (p := ⟨w.heap.size + 1 + 1 + 1, 0, none⟩) (show w.heap.size ≤ w.heap.size + 1 + 1 + 1 by omega) (.int .i64 c)
  (try simp only [Exit.inBlock, Exit.then])
  refine bodyPost_ret (by simp [results, Tryz.results124, go_sem, hc1, hc2, hc3]; try rfl) rfl ?_
  exact ⟨rfl, hbX⟩
theorem tbl_int {f : FuncId} {fn : Func} {F : T159} (h : FnOk Tryz.prog f ⟨f159_ins, f159_outs, F⟩) (hf : Tryz.prog.funcs[f]? = some fn) (hb : fn.body.isSome = true) (hname : (fn.name == "runtime.NumGoroutine") = false) {t0 t1 t2} {x r : List UInt8} {c : Int} (hF : F (t0, t1, t2, x, ()) = some (r, c, ()))
    {w : World} {m : Md} (gi : GI w m) (hlt : ∀ b, m.a b → b < w.heap.size) {a : Array Value} (ht : RepL w m [] (tabA t0 t1 t2) a.toList) :
    Calls Tryz.prog f #[.agg a, .string ⟨⟨x⟩⟩] w fun e w' => e = .returned (.tuple #[.string ⟨⟨r⟩⟩, .int .i64 c]) ∧ Below w.heap.size w w' := by
  refine (FnOk.call0 (v := (t0, t1, t2, x, ())) (y := (r, c, ())) h hf hb hname gi hlt rfl ⟨_, _, rfl, ⟨a, rfl, ht⟩, _, _, rfl, rfl, rfl⟩ rfl hF ?_).mono fun e w' ⟨rv, h1, h2, ax, l', u, h3, h4⟩ => ?_
  · intro ax l' u h3
    cases osel_one_inv h3
    rfl
  · cases osel_one_inv h3
    obtain ⟨v, r', e1, ⟨b, e2, e3⟩, e4⟩ := h4
    have e4' : r' = [] := e4
    subst e4'
    cases e1
    subst h1 e2
    refine ⟨?_, h2⟩
    obtain ⟨v1, q1, f1, rfl, v2, q2, f2, ⟨rfl, _⟩, f4⟩ := e3
    have f4' : q2 = [] := f4
    subst f4' f2
    cases b
    cases f1
    rfl
theorem tbl_bool {f : FuncId} {fn : Func} {F : T151} (h : FnOk Tryz.prog f ⟨f151_ins, f151_outs, F⟩) (hf : Tryz.prog.funcs[f]? = some fn) (hb : fn.body.isSome = true) (hname : (fn.name == "runtime.NumGoroutine") = false) {t0 t1 t2} {x r : List UInt8} {c : Bool} (hF : F (t0, t1, t2, x, ()) = some (r, c, ()))
    {w : World} {m : Md} (gi : GI w m) (hlt : ∀ b, m.a b → b < w.heap.size) {a : Array Value} (ht : RepL w m [] (tabA t0 t1 t2) a.toList) :
    Calls Tryz.prog f #[.agg a, .string ⟨⟨x⟩⟩] w fun e w' => e = .returned (.tuple #[.string ⟨⟨r⟩⟩, .bool c]) ∧ Below w.heap.size w w' := by
  refine (FnOk.call0 (v := (t0, t1, t2, x, ())) (y := (r, c, ())) h hf hb hname gi hlt rfl ⟨_, _, rfl, ⟨a, rfl, ht⟩, _, _, rfl, rfl, rfl⟩ rfl hF ?_).mono fun e w' ⟨rv, h1, h2, ax, l', u, h3, h4⟩ => ?_
  · intro ax l' u h3
    cases osel_one_inv h3
    rfl
  · cases osel_one_inv h3
    obtain ⟨v, r', e1, ⟨b, e2, e3⟩, e4⟩ := h4
    have e4' : r' = [] := e4
    subst e4'
    cases e1
    subst h1 e2
    refine ⟨?_, h2⟩
    obtain ⟨v1, q1, f1, rfl, v2, q2, f2, rfl, f4⟩ := e3
    have f4' : q2 = [] := f4
    subst f4' f2
    cases b
    cases f1
    rfl
def C124 : T124 := fun (t0, t1, t2, s, _) =>
  (C151 (t0, t1, t2, s, ())).bind fun f => (labelsF f.1 f.2.1).bind fun lc =>
    bif lc.2 != 0 then some ([], [], lc.2, ()) else
    bif decide (lc.1.length ≤ 32) then
      (bothF (fun x => (C159 (t0, t1, t2, x, ())).map fun r => (r.1, r.2.1)) (fun x => (C160 (t0, t1, t2, x, ())).map fun r => (r.1, r.2.1)) lc.1 [] []).bind fun res => (outF res).map fun o => (o.1, o.2.1, o.2.2, ())
    else none
theorem ok124 : FnOk Tryz.prog 124 (E124 C124) := by
  refine hand Tryz.func124 (by kernel_rfl) (by kernel_rfl) (fun _ => rfl) (fun _ => rfl) ?_
  rintro ⟨t0, t1, t2, s, u⟩ y hy w m args gi hn hlt hargs
  obtain ⟨va, r1, e1, ⟨a, rfl, ht⟩, vs, r2, e2, e3, e4⟩ := hargs
  have e4' : r2 = [] := e4
  have e3' : vs = .string ⟨⟨s⟩⟩ := e3
  subst e4' e3' e2
  have ha : args = #[.agg a, .string ⟨⟨s⟩⟩] := by cases args; simpa using e1
  subst ha
  have ht0 : RepL w m [] (tabA t0 t1 t2) a.toList := ht
  have hst : ∀ W, Below w.heap.size w W → Stp w m W m := fun W hb => stp_below hb fun b hb => (hn b hb).elim
  have htW : ∀ W, Below w.heap.size w W → RepL W m [] (tabA t0 t1 t2) a.toList := fun W hb => RepL.mono (hst W hb) (fun _ _ h => h) _ _ ht0
  have hltW : ∀ W, Below w.heap.size w W → ∀ b, m.a b → b < W.heap.size := fun W hb b h => Nat.lt_of_lt_of_le (hlt b h) hb.size
  have g0 : GI w m0 := ⟨gi.i, fun b hb => ⟨(gi.b b hb).1, fun h => h⟩⟩
  obtain ⟨v0, v1, v2, v3, v4, rfl⟩ : ∃ v0 v1 v2 v3 v4, a = #[v0, v1, v2, v3, v4] := by
    obtain ⟨w0, q0, f0, _, w1, q1, f1, _, w2, q2, f2, _, w3, q3, f3, _, w4, q4, f4, _, f5⟩ := ht0
    have f5' : q4 = [] := f5
    subst f5' f4 f3 f2 f1
    exact ⟨w0, w1, w2, w3, w4, by cases a; simpa using f0⟩
  have hy1 : ((C151 (t0, t1, t2, s, ())).bind fun f => (labelsF f.1 f.2.1).bind fun lc =>
    bif lc.2 != 0 then some ([], [], lc.2, ()) else
    bif decide (lc.1.length ≤ 32) then
      (bothF (fun x => (C159 (t0, t1, t2, x, ())).map fun r => (r.1, r.2.1)) (fun x => (C160 (t0, t1, t2, x, ())).map fun r => (r.1, r.2.1)) lc.1 [] []).bind fun res => (outF res).map fun o => (o.1, o.2.1, o.2.2, ())
    else none) = some y := hy
  obtain ⟨⟨f, ok, u0⟩, hf, hy2⟩ := Option.bind_eq_some_iff.1 hy1
  obtain ⟨⟨ls, c⟩, hls, hy3⟩ := Option.bind_eq_some_iff.1 hy2
  simp only at hls hy3
  have hfold : ∀ W, Below w.heap.size w W → Calls Tryz.prog 151 #[.agg #[v0, v1, v2, v3, v4], .string ⟨⟨s⟩⟩] W fun e W' => e = .returned (.tuple #[.string ⟨⟨f⟩⟩, .bool ok]) ∧ Below W.heap.size W W' :=
    fun W hb => tbl_bool ok151 Tryz.func151 (by kernel_rfl) (by kernel_rfl) hf (gi.mono (hst W hb)) (hltW W hb) (htW W hb)
  have hlab : ∀ W, Below w.heap.size w W → Calls Tryz.prog 157 #[.agg #[v0, v1, v2, v3, v4], .string ⟨⟨s⟩⟩] W fun e w' => ∃ v, e = .returned (.tuple #[v, .int .i64 c]) ∧ Below W.heap.size W w' ∧ w'.ownsRow W.heap.size 9 1 v ls.length (ls.map encS) :=
    fun W hb => labels_walk v0 v1 v2 v3 v4 s f ok ls c W (gi_below g0 hb) hls fun W2 hb2 => hfold W2 (hb.trans (hb2.mono hb.size))
  suffices hmain : ∃ oa ou oc, y = (oa, ou, oc, ()) ∧ Calls Tryz.prog 124 #[.agg #[v0, v1, v2, v3, v4], .string ⟨⟨s⟩⟩] w fun e w' => e = .returned (.tuple #[.string ⟨⟨oa⟩⟩, .string ⟨⟨ou⟩⟩, .int .i64 oc]) ∧ Below w.heap.size w w' by
    obtain ⟨oa, ou, oc, rfl, hc⟩ := hmain
    refine hc.mono fun e w' ⟨k1, k2⟩ => ⟨_, k1, k2, .ret, [.tuple 3, .str, .str, .int .i64], (oa, ou, oc, ()), osel_one [.tuple 3, .str, .str, .int .i64] (oa, ou, oc, ()), rfl, rfl, ?_⟩
    exact ⟨_, [], rfl, ⟨_, rfl, _, _, rfl, rfl, _, _, rfl, rfl, _, _, rfl, ⟨rfl, fun h => (by cases h)⟩, rfl⟩, rfl⟩
  by_cases hc : c = 0
  · subst hc
    have hy4 : (bif decide (ls.length ≤ 32) then
      (bothF (fun x => (C159 (t0, t1, t2, x, ())).map fun r => (r.1, r.2.1)) (fun x => (C160 (t0, t1, t2, x, ())).map fun r => (r.1, r.2.1)) ls [] []).bind fun res => (outF res).map fun o => (o.1, o.2.1, o.2.2, ())
      else none) = some y := hy3
    rcases cond_some hy4 with ⟨h32, hy5⟩ | ⟨_, hy5⟩
    case inr => cases hy5
    obtain ⟨res, hres, hy6⟩ := Option.bind_eq_some_iff.1 hy5
    obtain ⟨⟨oa, ou, oc⟩, hout, hy7⟩ := Option.map_eq_some_iff.1 hy6
    refine ⟨oa, ou, oc, hy7.symm, ?_⟩
    refine both_walk v0 v1 v2 v3 v4 s ls _ _ res w g0 (of_decide_eq_true h32) hres oa ou oc hout (fun W hb => hlab W hb) ?_ ?_
    · intro x r hr W hb
      obtain ⟨⟨r1, r2, r3⟩, hq, rfl⟩ := Option.map_eq_some_iff.1 hr
      exact tbl_int ok159 Tryz.func159 (by kernel_rfl) (by kernel_rfl) hq (gi.mono (hst W hb)) (hltW W hb) (htW W hb)
    · intro x r hr W hb
      obtain ⟨⟨r1, r2, r3⟩, hq, rfl⟩ := Option.map_eq_some_iff.1 hr
      exact tbl_int ok160 Tryz.func160 (by kernel_rfl) (by kernel_rfl) hq (gi.mono (hst W hb)) (hltW W hb) (htW W hb)
  · rcases cond_some hy3 with ⟨_, hy4⟩ | ⟨h0, _⟩
    case inr => exact (hc (by simpa using h0)).elim
    cases hy4
    exact ⟨[], [], c, rfl, both_err v0 v1 v2 v3 v4 s c hc w fun W hb => (hlab W hb).mono fun e w' ⟨v, k1, k2, _⟩ => ⟨v, k1, k2⟩⟩
end Go.Proofs.YtiacnhhmkdkpmaaGreatDoorC.W
set_option maxRecDepth 100000
set_option linter.unusedVariables false
namespace Go.Proofs.YtiacnhhmkdkpmaaGreatDoorC.W
open Go Go.Ae
abbrev T127 := LqS × Int × Unit → Option (Int × Unit)
def E127 (f : T127) : FEnt := ⟨f127_ins, f127_outs, f⟩
def K127 (f162 : T162) : Calls' := fun f => Ae.lookA f [(162, E162 f162)]
theorem kok127 : KOk Tryz.prog (K127 C162) := (kok_cons ok162 (kok_nil _))
def F127 (f162 : T162) : T127 := fun (x0, x1, _) =>
 (f162 (x0, x1, ())).bind fun v => some (v.1, ())
theorem h127 (f162 : T162) : AqF (K127 f162) 0 Tryz.f127 .nil f127_ins f127_outs (F127 f162) := fun v => by kernel_rfl
def C127 : T127 := F127 C162
theorem ok127 : FnOk Tryz.prog 127 (E127 C127) :=
 fnx (n := .nil) kok127 Tryz.func127 (by kernel_rfl) (by kernel_rfl) (ann_nil _) (fun v => by kernel_rfl) (h127 C162)
abbrev T90_c0 := Int × Bool × Unit → Option (Int × Bool × Unit)
def E90_c0 (f : T90_c0) : LEnt := ⟨f90_c0_ins, f90_c0_outs, f⟩
abbrev T90_c1 := Int × Bool × Unit → Option (Int × Bool × Unit)
def E90_c1 (f : T90_c1) : LEnt := ⟨f90_c1_ins, f90_c1_outs, f⟩
abbrev T90 := Int × Unit → Option (Bool × Unit)
def E90 (f : T90) : FEnt := ⟨f90_ins, f90_outs, f⟩
def K90 (f127 : T127) : Calls' := fun f => Ae.lookA f [(127, E127 f127)]
theorem kok90 : KOk Tryz.prog (K90 C127) := (kok_cons ok127 (kok_nil _))
def F90_c0 (f127 : T127) : T90_c0 := fun (x0, x1, _) =>
 bif x1 then some (x0, true, ())
 else
 bif decide (x0 ≥ 48) then
 bif decide (x0 ≤ 57) then some (x0, true, ()) else some (x0, decide (x0 ≥ 128), ())
 else some (x0, decide (x0 ≥ 128), ())
theorem h90_c0 (f127 : T127) : AqC (K90 f127) 0 (subc (code Tryz.f90) [1, 0, 0, 0, 1, 1, 1]) .nil f90_c0_ins f90_c0_outs (F90_c0 f127) := fun v => by kernel_rfl
def C90_c0 : T90_c0 := F90_c0 C127
theorem k90_c0 : FragOk Tryz.prog 0 (fun Q a w => (subc (code Tryz.f90) [1, 0, 0, 0, 1, 1, 1]).wp Tryz.prog Q a w) (E90_c0 C90_c0) :=
 frag_code (ins := f90_c0_ins) (os := f90_c0_outs) (n := .nil) (F := C90_c0) hm hΓ kok90 (ann_nil _) (h90_c0 C127)
def N90_c1 (f90_c0 : T90_c0) : Ann := (.cond .nil (.cut .nil (E90_c0 f90_c0)))
def F90_c1 (f127 : T127) (f90_c0 : T90_c0) : T90_c1 := fun (x0, x1, _) =>
 bif x1 then some (x0, true, ())
 else
 bif decide (x0 ≥ 65) then (f90_c0 (x0, decide (x0 ≤ 90), ())).bind fun v => some (v.1, v.2.1, ())
 else (f90_c0 (x0, false, ())).bind fun v => some (v.1, v.2.1, ())
theorem h90_c1 (f127 : T127) (f90_c0 : T90_c0) : AqC (K90 f127) 0 (subc (code Tryz.f90) [1, 0, 0, 0, 1]) (N90_c1 f90_c0) f90_c1_ins f90_c1_outs (F90_c1 f127 f90_c0) := fun v => by kernel_rfl
def C90_c1 : T90_c1 := F90_c1 C127 C90_c0
theorem k90_c1 : FragOk Tryz.prog 0 (fun Q a w => (subc (code Tryz.f90) [1, 0, 0, 0, 1]).wp Tryz.prog Q a w) (E90_c1 C90_c1) :=
 frag_code (ins := f90_c1_ins) (os := f90_c1_outs) (n := (N90_c1 C90_c0)) (F := C90_c1) hm hΓ kok90 (ann_obs (And.intro k90_c0 trivial) (by kernel_rfl)) (h90_c1 C127 C90_c0)
def N90 (f90_c1 : T90_c1) : Ann := (.seq .nil (.seq (.blk (.seq (.cut .nil (E90_c1 f90_c1)) .nil)) .nil))
def F90 (f127 : T127) (f90_c1 : T90_c1) : T90 := fun (x0, _) =>
 bif decide (x0 ≥ 97) then
 (f90_c1 (x0, decide (x0 ≤ 122), ())).bind fun v =>
 bif v.2.1 then some (true, ())
 else
 (f127
 ([33, 35, 36, 37, 38, 39, 42, 43, 45, 47, 61, 63, 94, 95, 96, 123, 124, 125, 126], v.1,
 ())).bind
 fun v => some (decide (v.1 ≥ 0), ())
 else
 (f90_c1 (x0, false, ())).bind fun v =>
 bif v.2.1 then some (true, ())
 else
 (f127
 ([33, 35, 36, 37, 38, 39, 42, 43, 45, 47, 61, 63, 94, 95, 96, 123, 124, 125, 126], v.1,
 ())).bind
 fun v => some (decide (v.1 ≥ 0), ())
theorem h90 (f127 : T127) (f90_c1 : T90_c1) : AqF (K90 f127) 0 Tryz.f90 (N90 f90_c1) f90_ins f90_outs (F90 f127 f90_c1) := fun v => by kernel_rfl
def C90 : T90 := F90 C127 C90_c1
theorem ok90 : FnOk Tryz.prog 90 (E90 C90) :=
 fnx (n := (N90 C90_c1)) kok90 Tryz.func90 (by kernel_rfl) (by kernel_rfl) (ann_obs (And.intro k90_c1 trivial) (by kernel_rfl)) (fun v => by kernel_rfl) (h90 C127 C90_c1)
abbrev T136_c0 := Int × LqS × Int × Int × Int × Unit → Option (Int × LqS × Int × Int × Int × Unit)
def E136_c0 (f : T136_c0) : LEnt := ⟨f136_c0_ins, f136_c0_outs, f⟩
abbrev T136_l0 := Int × LqS × Int × Int × Int × Unit → Option (Int × LqS × Int × Int × Int × Unit)
def E136_l0 (f : T136_l0) : LEnt := ⟨f136_l0_ins, f136_l0_outs, f⟩
abbrev T136 := LqS × Int × Int × Int × Unit → Option (LqS × LqS × Int × Int × Int × Unit)
def E136 (f : T136) : FEnt := ⟨f136_ins, f136_outs, f⟩
def K136 (f90 : T90) : Calls' := fun f => Ae.lookA f [(90, E90 f90)]
theorem kok136 : KOk Tryz.prog (K136 C90) := (kok_cons ok90 (kok_nil _))
def F136_c0 (f90 : T90) : T136_c0 := fun (x0, x1, x2, x3, x4, _) =>
 some (x0, x1, IntKind.i64.wrap (x2 + 1), x3, x4, ())
theorem h136_c0 (f90 : T90) : AqC (K136 f90) 1 (subc (code Tryz.f136) [1, 1, 0, 0, 0, 1]) .nil f136_c0_ins f136_c0_outs (F136_c0 f90) := fun v => by kernel_rfl
def C136_c0 : T136_c0 := F136_c0 C90
theorem k136_c0 : FragOk Tryz.prog 1 (fun Q a w => (subc (code Tryz.f136) [1, 1, 0, 0, 0, 1]).wp Tryz.prog Q a w) (E136_c0 C136_c0) :=
 frag_code (ins := f136_c0_ins) (os := f136_c0_outs) (n := .nil) (F := C136_c0) hm hΓ kok136 (ann_nil _) (h136_c0 C90)
def N136_l0 (f136_c0 : T136_c0) : Ann := (.cut .nil (E136_c0 f136_c0))
def F136_l0 (f90 : T90) (f136_c0 : T136_c0) : LpF (Int × LqS × Int × Int × Int × Unit) (Int × LqS × Int × Int × Int × Unit) := fun (x0, x1, x2, x3, x4, _) =>
 bif decide (x2 < (↑x1.length : Int)) then
 bif decide (0 ≤ x2) && decide (x2 < (↑x1.length : Int)) then
 (f90 ((↑(x1.getD x2.toNat 0).toNat : Int), ())).bind fun v =>
 bif v.1 then
 (f136_c0 (x0, x1, x2, x3, x4, ())).bind fun v =>
 some
 (Sum.inl (v.1, v.2.1, v.2.2.1, v.2.2.2.1, v.2.2.2.2.1, ()))
 else some (Sum.inr (x0, x1, x2, x3, x4, ()))
 else none
 else some (Sum.inr (x0, x1, x2, x3, x4, ()))
theorem h136_l0 (f90 : T90) (f136_c0 : T136_c0) : AqL (K136 f90) 1 (subc (code Tryz.f136) [1, 1, 0, 0, 0]) (N136_l0 f136_c0) f136_l0_ins f136_l0_outs (F136_l0 f90 f136_c0) := fun v => by kernel_rfl
def C136_l0 : T136_l0 := loopN (F136_l0 C90 C136_c0) big
theorem k136_l0 : FragOk Tryz.prog 1 (fun Q a w => (Code.loop (subc (code Tryz.f136) [1, 1, 0, 0, 0])).wp Tryz.prog Q a w) (E136_l0 C136_l0) :=
 frag_big (ins := f136_l0_ins) (os := f136_l0_outs) (C := C136_l0) (frag_loop (ins := f136_l0_ins) (os := f136_l0_outs) (n := (N136_l0 C136_c0)) (F := F136_l0 C90 C136_c0) hm hΓ kok136 (fun _ => big) (ann_obs (And.intro k136_c0 trivial) (by kernel_rfl)) (h136_l0 C90 C136_c0)) rfl
def N136 (f136_l0 : T136_l0) : Ann := (.seq .nil (.seq .nil (.seq (.blk (.loop (E136_l0 f136_l0))) .nil)))
def F136 (f90 : T90) (f136_l0 : T136_l0) : T136 := fun (x0, x1, x2, x3, _) =>
 (f136_l0 (x1, x0, x1, x2, x3, ())).bind fun v =>
 bif decide (0 ≤ v.2.2.1) && decide (v.2.2.1 ≤ (↑(List.length v.2.1) : Int)) then
 bif decide (0 ≤ v.1) && decide (v.1 ≤ v.2.2.1) then
 some
 (List.drop (Int.toNat v.1) (List.take (Int.toNat v.2.2.1) v.2.1), v.2.1,
 v.2.2.1, v.2.2.2.1, v.2.2.2.2.1, ())
 else none
 else none
theorem h136 (f90 : T90) (f136_l0 : T136_l0) : AqF (K136 f90) 1 Tryz.f136 (N136 f136_l0) f136_ins f136_outs (F136 f90 f136_l0) := fun v => by kernel_rfl
def C136 : T136 := F136 C90 C136_l0
theorem ok136 : FnOk Tryz.prog 136 (E136 C136) :=
 fnx (n := (N136 C136_l0)) kok136 Tryz.func136 (by kernel_rfl) (by kernel_rfl) (ann_obs (And.intro k136_l0 trivial) (by kernel_rfl)) (fun v => by kernel_rfl) (h136 C90 C136_l0)
abbrev T174 := Int × Unit → Option (Bool × Unit)
def E174 (f : T174) : FEnt := ⟨f174_ins, f174_outs, f⟩
def K174 (f127 : T127) : Calls' := fun f => Ae.lookA f [(127, E127 f127)]
theorem kok174 : KOk Tryz.prog (K174 C127) := (kok_cons ok127 (kok_nil _))
def F174 (f127 : T127) : T174 := fun (x0, _) =>
 (f127 ([32, 9], x0, ())).bind fun v => some (decide (v.1 ≥ 0), ())
theorem h174 (f127 : T127) : AqF (K174 f127) 0 Tryz.f174 .nil f174_ins f174_outs (F174 f127) := fun v => by kernel_rfl
def C174 : T174 := F174 C127
theorem ok174 : FnOk Tryz.prog 174 (E174 C174) :=
 fnx (n := .nil) kok174 Tryz.func174 (by kernel_rfl) (by kernel_rfl) (ann_nil _) (fun v => by kernel_rfl) (h174 C127)
abbrev T173 := Int × Unit → Option (Bool × Unit)
def E173 (f : T173) : FEnt := ⟨f173_ins, f173_outs, f⟩
def K173 (f174 : T174) : Calls' := fun f => Ae.lookA f [(174, E174 f174)]
theorem kok173 : KOk Tryz.prog (K173 C174) := (kok_cons ok174 (kok_nil _))
def F173 (f174 : T174) : T173 := fun (x0, _) =>
 (f174 (x0, ())).bind fun v =>
 bif v.1 then some (true, ())
 else bif decide (x0 > 32) then some (bif x0 == 127 then false else true, ()) else some (false, ())
theorem h173 (f174 : T174) : AqF (K173 f174) 0 Tryz.f173 .nil f173_ins f173_outs (F173 f174) := fun v => by kernel_rfl
def C173 : T173 := F173 C174
theorem ok173 : FnOk Tryz.prog 173 (E173 C173) :=
 fnx (n := .nil) kok173 Tryz.func173 (by kernel_rfl) (by kernel_rfl) (ann_nil _) (fun v => by kernel_rfl) (h173 C174)
abbrev T141 := Int × Int × LqS × Int × Int × Int × Unit → Option (LqS × Int × Int × Int × Unit)
def E141 (f : T141) : FEnt := ⟨f141_ins, f141_outs, f⟩
def K141 : Calls' := fun f => Ae.lookA f []
theorem kok141 : KOk Tryz.prog (K141) := (kok_nil _)
def F141 : T141 := fun (x0, x1, x2, x3, x4, x5, _) =>
 some (x2, x3, x0, x1, ())
theorem h141 : AqF (K141) 1 Tryz.f141 .nil f141_ins f141_outs (F141) := fun v => by kernel_rfl
def C141 : T141 := F141
theorem ok141 : FnOk Tryz.prog 141 (E141 C141) :=
 fnx (n := .nil) kok141 Tryz.func141 (by kernel_rfl) (by kernel_rfl) (ann_nil _) (fun v => by kernel_rfl) (h141)
abbrev T137_c0 := Int × LqS × Int × Int × Int × LqS × Unit → Option ((LqS × LqS × Int × Int × Int × Unit) ⊕ (Int × LqS × Int × Int × Int × LqS × Unit))
def E137_c0 (f : T137_c0) : LEnt := ⟨f137_c0_ins, f137_c0_outs, f⟩
abbrev T137_l0 := Int × LqS × Int × Int × Int × LqS × Unit → Option ((LqS × Int × Int × Int × Unit) ⊕ (LqS × LqS × Int × Int × Int × Unit))
def E137_l0 (f : T137_l0) : LEnt := ⟨f137_l0_ins, f137_l0_outs, f⟩
abbrev T137 := LqS × Int × Int × Int × Unit → Option (LqS × LqS × Int × Int × Int × Unit)
def E137 (f : T137) : FEnt := ⟨f137_ins, f137_outs, f⟩
def K137 (f141 : T141) (f173 : T173) : Calls' := fun f => Ae.lookA f [(141, E141 f141), (173, E173 f173)]
theorem kok137 : KOk Tryz.prog (K137 C141 C173) := (kok_cons ok141 (kok_cons ok173 (kok_nil _)))
def F137_c0 (f141 : T141) (f173 : T173) : T137_c0 := fun (x0, x1, x2, x3, x4, x5, _) =>
 bif decide (0 ≤ x0) && decide (x0 < (↑x1.length : Int)) then
 (f173 ((↑(x1.getD x0.toNat 0).toNat : Int), ())).bind fun v =>
 bif !v.1 then
 (f141 (x0, 4, x1, x2, x3, x4, ())).bind fun v =>
 some (Sum.inl ([], v.1, v.2.1, v.2.2.1, v.2.2.2.1, ()))
 else
 bif decide (0 ≤ x0) && decide (x0 < (↑x1.length : Int)) then
 bif
 decide
 (x5.length + [UInt8.ofNat (↑(x1.getD x0.toNat 0).toNat : Int).toNat].length ≤ 140737488355328 / 1) then
 some (Sum.inr (x0, x1, x2, x3, x4, x5 ++ [UInt8.ofNat (↑(x1.getD x0.toNat 0).toNat : Int).toNat], ()))
 else none
 else none
 else none
theorem h137_c0 (f141 : T141) (f173 : T173) : AqC (K137 f141 f173) 1 (subc (code Tryz.f137) [1, 1, 0, 1, 0, 0, 1, 0, 0, 1, 1, 1]) .nil f137_c0_ins f137_c0_outs (F137_c0 f141 f173) := fun v => by kernel_rfl
def C137_c0 : T137_c0 := F137_c0 C141 C173
theorem k137_c0 : FragOk Tryz.prog 1 (fun Q a w => (subc (code Tryz.f137) [1, 1, 0, 1, 0, 0, 1, 0, 0, 1, 1, 1]).wp Tryz.prog Q a w) (E137_c0 C137_c0) :=
 frag_code (ins := f137_c0_ins) (os := f137_c0_outs) (n := .nil) (F := C137_c0) hm hΓ kok137 (ann_nil _) (h137_c0 C141 C173)
def N137_l0 (f137_c0 : T137_c0) : Ann := (.seq .nil (.seq (.blk (.seq .nil (.seq .nil (.cut .nil (E137_c0 f137_c0))))) .nil))
def F137_l0 (f141 : T141) (f173 : T173) (f137_c0 : T137_c0) : LpF (Int × LqS × Int × Int × Int × LqS × Unit) ((LqS × Int × Int × Int × Unit) ⊕ (LqS × LqS × Int × Int × Int × Unit)) := fun (x0, x1, x2, x3, x4, x5, _) =>
 bif decide (x0 < (↑x1.length : Int)) then
 bif decide (0 ≤ x0) && decide (x0 < (↑x1.length : Int)) then
 bif (↑(x1.getD x0.toNat 0).toNat : Int) == 34 then
 some (Sum.inr (Sum.inr (x5, x1, IntKind.i64.wrap (x0 + 1), x3, x4, ())))
 else
 bif (↑(x1.getD x0.toNat 0).toNat : Int) == 92 then
 bif IntKind.i64.wrap (x0 + 1) == (↑x1.length : Int) then some (Sum.inr (Sum.inl (x1, x2, x3, x4, ())))
 else
 (f137_c0 (IntKind.i64.wrap (x0 + 1), x1, x2, x3, x4, x5, ())).bind fun v =>
 Sum.elim
 (fun v =>
 some
 (Sum.inr
 (Sum.inr
 (v.1, v.2.1, v.2.2.1, v.2.2.2.1, v.2.2.2.2.1,
 ()))))
 (fun v =>
 some
 (Sum.inl
 (IntKind.i64.wrap (v.1 + 1), v.2.1, v.2.2.1, v.2.2.2.1,
 v.2.2.2.2.1, v.2.2.2.2.2.1, ())))
 v
 else
 (f137_c0 (x0, x1, x2, x3, x4, x5, ())).bind fun v =>
 Sum.elim
 (fun v =>
 some
 (Sum.inr
 (Sum.inr
 (v.1, v.2.1, v.2.2.1, v.2.2.2.1, v.2.2.2.2.1, ()))))
 (fun v =>
 some
 (Sum.inl
 (IntKind.i64.wrap (v.1 + 1), v.2.1, v.2.2.1, v.2.2.2.1,
 v.2.2.2.2.1, v.2.2.2.2.2.1, ())))
 v
 else none
 else some (Sum.inr (Sum.inl (x1, x2, x3, x4, ())))
theorem h137_l0 (f141 : T141) (f173 : T173) (f137_c0 : T137_c0) : AqL (K137 f141 f173) 1 (subc (code Tryz.f137) [1, 1, 0, 1, 0, 0]) (N137_l0 f137_c0) f137_l0_ins f137_l0_outs (F137_l0 f141 f173 f137_c0) := fun v => by kernel_rfl
def C137_l0 : T137_l0 := loopN (F137_l0 C141 C173 C137_c0) big
theorem k137_l0 : FragOk Tryz.prog 1 (fun Q a w => (Code.loop (subc (code Tryz.f137) [1, 1, 0, 1, 0, 0])).wp Tryz.prog Q a w) (E137_l0 C137_l0) :=
 frag_big (ins := f137_l0_ins) (os := f137_l0_outs) (C := C137_l0) (frag_loop (ins := f137_l0_ins) (os := f137_l0_outs) (n := (N137_l0 C137_c0)) (F := F137_l0 C141 C173 C137_c0) hm hΓ kok137 (fun _ => big) (ann_obs (And.intro k137_c0 trivial) (by kernel_rfl)) (h137_l0 C141 C173 C137_c0)) rfl
def N137 (f137_l0 : T137_l0) : Ann := (.seq .nil (.seq .nil (.seq (.seq .nil (.blk (.loop (E137_l0 f137_l0)))) .nil)))
def F137 (f141 : T141) (f173 : T173) (f137_l0 : T137_l0) : T137 := fun (x0, x1, x2, x3, _) =>
 (f137_l0 (IntKind.i64.wrap (x1 + 1), x0, x1, x2, x3, [], ())).bind fun v =>
 Sum.elim
 (fun v =>
 (f141 (v.2.1, 4, v.1, v.2.1, v.2.2.1, v.2.2.2.1, ())).bind fun v =>
 some ([], v.1, v.2.1, v.2.2.1, v.2.2.2.1, ()))
 (fun v => some (v.1, v.2.1, v.2.2.1, v.2.2.2.1, v.2.2.2.2.1, ()))
 v
theorem h137 (f141 : T141) (f173 : T173) (f137_l0 : T137_l0) : AqF (K137 f141 f173) 1 Tryz.f137 (N137 f137_l0) f137_ins f137_outs (F137 f141 f173 f137_l0) := fun v => by kernel_rfl
def C137 : T137 := F137 C141 C173 C137_l0
theorem ok137 : FnOk Tryz.prog 137 (E137 C137) :=
 fnx (n := (N137 C137_l0)) kok137 Tryz.func137 (by kernel_rfl) (by kernel_rfl) (ann_obs (And.intro k137_l0 trivial) (by kernel_rfl)) (fun v => by kernel_rfl) (h137 C141 C173 C137_l0)
abbrev T138_c0 := Int × LqS × LqS × Int × Int × Int × Unit → Option (LqS × LqS × Int × Int × Int × Unit)
def E138_c0 (f : T138_c0) : LEnt := ⟨f138_c0_ins, f138_c0_outs, f⟩
abbrev T138_l0 := Int × LqS × Int × Int × Int × Unit → Option ((LqS × Int × Int × Int × Unit) ⊕ (LqS × LqS × Int × Int × Int × Unit))
def E138_l0 (f : T138_l0) : LEnt := ⟨f138_l0_ins, f138_l0_outs, f⟩
abbrev T138 := LqS × Int × Int × Int × Unit → Option (LqS × LqS × Int × Int × Int × Unit)
def E138 (f : T138) : FEnt := ⟨f138_ins, f138_outs, f⟩
def K138 (f141 : T141) (f173 : T173) (f174 : T174) : Calls' := fun f => Ae.lookA f [(141, E141 f141), (173, E173 f173), (174, E174 f174)]
theorem kok138 : KOk Tryz.prog (K138 C141 C173 C174) := (kok_cons ok141 (kok_cons ok173 (kok_cons ok174 (kok_nil _))))
def F138_c0 (f141 : T141) (f173 : T173) (f174 : T174) : T138_c0 := fun (x0, x1, x2, x3, x4, x5, _) =>
 some (x1, x2, IntKind.i64.wrap (x0 + 1), x4, x5, ())
theorem h138_c0 (f141 : T141) (f173 : T173) (f174 : T174) : AqC (K138 f141 f173 f174) 1 (subc (code Tryz.f138) [1, 0, 1, 0, 0, 1, 0, 0, 1, 0, 1, 0, 1]) .nil f138_c0_ins f138_c0_outs (F138_c0 f141 f173 f174) := fun v => by kernel_rfl
def C138_c0 : T138_c0 := F138_c0 C141 C173 C174
theorem k138_c0 : FragOk Tryz.prog 1 (fun Q a w => (subc (code Tryz.f138) [1, 0, 1, 0, 0, 1, 0, 0, 1, 0, 1, 0, 1]).wp Tryz.prog Q a w) (E138_c0 C138_c0) :=
 frag_code (ins := f138_c0_ins) (os := f138_c0_outs) (n := .nil) (F := C138_c0) hm hΓ kok138 (ann_nil _) (h138_c0 C141 C173 C174)
def N138_l0 (f138_c0 : T138_c0) : Ann := (.seq .nil (.seq (.blk (.seq .nil (.blk (.seq .nil (.cond (.cut .nil (E138_c0 f138_c0)) .nil))))) .nil))
def F138_l0 (f141 : T141) (f173 : T173) (f174 : T174) (f138_c0 : T138_c0) : LpF (Int × LqS × Int × Int × Int × Unit) ((LqS × Int × Int × Int × Unit) ⊕ (LqS × LqS × Int × Int × Int × Unit)) := fun (x0, x1, x2, x3, x4, _) =>
 bif decide (x0 < (↑x1.length : Int)) then
 bif decide (0 ≤ x0) && decide (x0 < (↑x1.length : Int)) then
 bif (↑(x1.getD x0.toNat 0).toNat : Int) == 93 then
 bif decide (0 ≤ x0) && decide (x0 ≤ (↑x1.length : Int)) then
 bif decide (0 ≤ IntKind.i64.wrap (x2 + 1)) && decide (IntKind.i64.wrap (x2 + 1) ≤ x0) then
 (f138_c0 (x0, List.drop (IntKind.i64.wrap (x2 + 1)).toNat (List.take x0.toNat x1), x1, x2, x3, x4, ())).bind
 fun v =>
 some
 (Sum.inr
 (Sum.inr
 (v.1, v.2.1, v.2.2.1, v.2.2.2.1, v.2.2.2.2.1, ())))
 else none
 else none
 else
 bif (↑(x1.getD x0.toNat 0).toNat : Int) == 91 then
 (f141 (x0, 4, x1, x2, x3, x4, ())).bind fun v =>
 some (Sum.inr (Sum.inr ([], v.1, v.2.1, v.2.2.1, v.2.2.2.1, ())))
 else
 bif (↑(x1.getD x0.toNat 0).toNat : Int) == 92 then
 (f141 (x0, 4, x1, x2, x3, x4, ())).bind fun v =>
 some
 (Sum.inr (Sum.inr ([], v.1, v.2.1, v.2.2.1, v.2.2.2.1, ())))
 else
 (f174 ((↑(x1.getD x0.toNat 0).toNat : Int), ())).bind fun v =>
 bif v.1 then
 (f141 (x0, 4, x1, x2, x3, x4, ())).bind fun v =>
 some
 (Sum.inr
 (Sum.inr ([], v.1, v.2.1, v.2.2.1, v.2.2.2.1, ())))
 else
 (f173 ((↑(x1.getD x0.toNat 0).toNat : Int), ())).bind fun v =>
 bif !v.1 then
 (f141 (x0, 4, x1, x2, x3, x4, ())).bind fun v =>
 some
 (Sum.inr
 (Sum.inr ([], v.1, v.2.1, v.2.2.1, v.2.2.2.1, ())))
 else some (Sum.inl (IntKind.i64.wrap (x0 + 1), x1, x2, x3, x4, ()))
 else none
 else some (Sum.inr (Sum.inl (x1, x2, x3, x4, ())))
theorem h138_l0 (f141 : T141) (f173 : T173) (f174 : T174) (f138_c0 : T138_c0) : AqL (K138 f141 f173 f174) 1 (subc (code Tryz.f138) [1, 0, 1, 0, 0]) (N138_l0 f138_c0) f138_l0_ins f138_l0_outs (F138_l0 f141 f173 f174 f138_c0) := fun v => by kernel_rfl
def C138_l0 : T138_l0 := loopN (F138_l0 C141 C173 C174 C138_c0) big
theorem k138_l0 : FragOk Tryz.prog 1 (fun Q a w => (Code.loop (subc (code Tryz.f138) [1, 0, 1, 0, 0])).wp Tryz.prog Q a w) (E138_l0 C138_l0) :=
 frag_big (ins := f138_l0_ins) (os := f138_l0_outs) (C := C138_l0) (frag_loop (ins := f138_l0_ins) (os := f138_l0_outs) (n := (N138_l0 C138_c0)) (F := F138_l0 C141 C173 C174 C138_c0) hm hΓ kok138 (fun _ => big) (ann_obs (And.intro k138_c0 trivial) (by kernel_rfl)) (h138_l0 C141 C173 C174 C138_c0)) rfl
def N138 (f138_l0 : T138_l0) : Ann := (.seq .nil (.seq (.seq .nil (.blk (.loop (E138_l0 f138_l0)))) .nil))
def F138 (f141 : T141) (f173 : T173) (f174 : T174) (f138_l0 : T138_l0) : T138 := fun (x0, x1, x2, x3, _) =>
 (f138_l0 (IntKind.i64.wrap (x1 + 1), x0, x1, x2, x3, ())).bind fun v =>
 Sum.elim
 (fun v =>
 (f141 (v.2.1, 4, v.1, v.2.1, v.2.2.1, v.2.2.2.1, ())).bind fun v =>
 some ([], v.1, v.2.1, v.2.2.1, v.2.2.2.1, ()))
 (fun v => some (v.1, v.2.1, v.2.2.1, v.2.2.2.1, v.2.2.2.2.1, ()))
 v
theorem h138 (f141 : T141) (f173 : T173) (f174 : T174) (f138_l0 : T138_l0) : AqF (K138 f141 f173 f174) 1 Tryz.f138 (N138 f138_l0) f138_ins f138_outs (F138 f141 f173 f174 f138_l0) := fun v => by kernel_rfl
def C138 : T138 := F138 C141 C173 C174 C138_l0
theorem ok138 : FnOk Tryz.prog 138 (E138 C138) :=
 fnx (n := (N138 C138_l0)) kok138 Tryz.func138 (by kernel_rfl) (by kernel_rfl) (ann_obs (And.intro k138_l0 trivial) (by kernel_rfl)) (fun v => by kernel_rfl) (h138 C141 C173 C174 C138_l0)
abbrev T139_l0 := Int × Int × Int × Int × LqS × Int × Int × Int × Unit → Option ((Int × Int × LqS × Int × Int × Int × Unit) ⊕ (Int × Int × LqS × Int × Int × Int × Unit) ⊕ (LqS × LqS × Int × Int × Int × Unit))
def E139_l0 (f : T139_l0) : LEnt := ⟨f139_l0_ins, f139_l0_outs, f⟩
abbrev T139_g0 := Int × Int × LqS × Int × Int × Int × Unit → Option (LqS × LqS × Int × Int × Int × Unit)
def E139_g0 (f : T139_g0) : LEnt := ⟨f139_g0_ins, f139_g0_outs, f⟩
abbrev T139 := LqS × Int × Int × Int × Unit → Option (LqS × LqS × Int × Int × Int × Unit)
def E139 (f : T139) : FEnt := ⟨f139_ins, f139_outs, f⟩
def K139 (f141 : T141) (f173 : T173) : Calls' := fun f => Ae.lookA f [(141, E141 f141), (173, E173 f173)]
theorem kok139 : KOk Tryz.prog (K139 C141 C173) := (kok_cons ok141 (kok_cons ok173 (kok_nil _)))
def F139_l0 (f141 : T141) (f173 : T173) : LpF (Int × Int × Int × Int × LqS × Int × Int × Int × Unit) ((Int × Int × LqS × Int × Int × Int × Unit) ⊕ (Int × Int × LqS × Int × Int × Int × Unit) ⊕ (LqS × LqS × Int × Int × Int × Unit)) := fun (x0, x1, x2, x3, x4, x5, x6, x7, _) =>
 bif decide (x3 < (↑x4.length : Int)) then
 bif decide (0 ≤ x3) && decide (x3 < (↑x4.length : Int)) then
 bif (↑(x4.getD x3.toNat 0).toNat : Int) == 40 then
 bif decide (IntKind.i64.wrap (x1 + 1) > 32) then
 some (Sum.inr (Sum.inr (Sum.inl (6, x3, x4, x5, x6, x7, ()))))
 else some (Sum.inl (x0, IntKind.i64.wrap (x1 + 1), x2, IntKind.i64.wrap (x3 + 1), x4, x5, x6, x7, ()))
 else
 bif (↑(x4.getD x3.toNat 0).toNat : Int) == 41 then
 bif IntKind.i64.wrap (x1 - 1) == 0 then
 bif decide (0 ≤ x3) && decide (x3 ≤ (↑x4.length : Int)) then
 bif decide (0 ≤ IntKind.i64.wrap (x0 + 1)) && decide (IntKind.i64.wrap (x0 + 1) ≤ x3) then
 some
 (Sum.inr
 (Sum.inr
 (Sum.inr
 (List.drop (IntKind.i64.wrap (x0 + 1)).toNat (List.take x3.toNat x4), x4,
 IntKind.i64.wrap (x3 + 1), x6, x7, ()))))
 else none
 else none
 else some (Sum.inl (x0, IntKind.i64.wrap (x1 - 1), x2, IntKind.i64.wrap (x3 + 1), x4, x5, x6, x7, ()))
 else
 bif (↑(x4.getD x3.toNat 0).toNat : Int) == 92 then
 bif IntKind.i64.wrap (x3 + 1) == (↑x4.length : Int) then
 some (Sum.inl (x0, x1, x2, IntKind.i64.wrap (IntKind.i64.wrap (x3 + 1) + 1), x4, x5, x6, x7, ()))
 else
 bif decide (0 ≤ IntKind.i64.wrap (x3 + 1)) && decide (IntKind.i64.wrap (x3 + 1) < (↑x4.length : Int)) then
 (f173 ((↑(x4.getD (IntKind.i64.wrap (x3 + 1)).toNat 0).toNat : Int), ())).bind fun v =>
 bif !v.1 then
 some (Sum.inr (Sum.inr (Sum.inl (x2, IntKind.i64.wrap (x3 + 1), x4, x5, x6, x7, ()))))
 else
 some
 (Sum.inl (x0, x1, x2, IntKind.i64.wrap (IntKind.i64.wrap (x3 + 1) + 1), x4, x5, x6, x7, ()))
 else none
 else
 (f173 ((↑(x4.getD x3.toNat 0).toNat : Int), ())).bind fun v =>
 bif !v.1 then some (Sum.inr (Sum.inr (Sum.inl (x2, x3, x4, x5, x6, x7, ()))))
 else some (Sum.inl (x0, x1, x2, IntKind.i64.wrap (x3 + 1), x4, x5, x6, x7, ()))
 else none
 else some (Sum.inr (Sum.inl (x0, x2, x4, x5, x6, x7, ())))
theorem h139_l0 (f141 : T141) (f173 : T173) : AqL (K139 f141 f173) 1 (subc (code Tryz.f139) [1, 0, 1, 1, 0, 1, 0, 0]) .nil f139_l0_ins f139_l0_outs (F139_l0 f141 f173) := fun v => by kernel_rfl
def C139_l0 : T139_l0 := loopN (F139_l0 C141 C173) big
theorem k139_l0 : FragOk Tryz.prog 1 (fun Q a w => (Code.loop (subc (code Tryz.f139) [1, 0, 1, 1, 0, 1, 0, 0])).wp Tryz.prog Q a w) (E139_l0 C139_l0) :=
 frag_big (ins := f139_l0_ins) (os := f139_l0_outs) (C := C139_l0) (frag_loop (ins := f139_l0_ins) (os := f139_l0_outs) (n := .nil) (F := F139_l0 C141 C173) hm hΓ kok139 (fun _ => big) (ann_nil _) (h139_l0 C141 C173)) rfl
def F139_g0 (f141 : T141) (f173 : T173) : LpF (Int × Int × LqS × Int × Int × Int × Unit) (LqS × LqS × Int × Int × Int × Unit) := fun (x0, x1, x2, x3, x4, x5, _) =>
 (f141 (x1, x0, x2, x3, x4, x5, ())).bind fun v =>
 some (Sum.inr ([], v.1, v.2.1, v.2.2.1, v.2.2.2.1, ()))
theorem h139_g0 (f141 : T141) (f173 : T173) (v : HS f139_g0_ins) : aev Γ (K139 f141 f173) 1 ((findLabel (subc (code Tryz.f139) [1, 0]) 0).getD .skip) .nil (stof f139_g0_ins v) (aroundL 1 0 [] f139_g0_ins f139_g0_outs) = F139_g0 f141 f173 v := by kernel_rfl
def C139_g0 : T139_g0 := loopN (F139_g0 C141 C173) big
theorem k139_g0 : FragOk Tryz.prog 1 (ScopeFrom Tryz.prog (subc (code Tryz.f139) [1, 0]) 0) (E139_g0 C139_g0) :=
 frag_big (ins := f139_g0_ins) (os := f139_g0_outs) (C := C139_g0) (frag_label (ins := f139_g0_ins) (os := f139_g0_outs) (n := .nil) (ls := []) (F := F139_g0 C141 C173) (rest := ((findLabel (subc (code Tryz.f139) [1, 0]) 0).getD .skip)) hm hΓ kok139 (fun _ => big) (by kernel_rfl) (ann_nil _) find_nil (h139_g0 C141 C173)) rfl
def N139 (f139_g0 : T139_g0) (f139_l0 : T139_l0) : Ann := (.seq .nil (.scope (.seq .nil (.seq .nil (.seq (.seq .nil (.blk (.loop (E139_l0 f139_l0)))) .nil))) [(0, (E139_g0 f139_g0))]))
def F139 (f141 : T141) (f173 : T173) (f139_g0 : T139_g0) (f139_l0 : T139_l0) : T139 := fun (x0, x1, x2, x3, _) =>
 (f139_l0 (x1, 0, 4, x1, x0, x1, x2, x3, ())).bind fun v =>
 Sum.elim
 (fun v =>
 (f141
 (v.1, v.2.1, v.2.2.1, v.2.2.2.1, v.2.2.2.2.1,
 v.2.2.2.2.2.1, ())).bind
 fun v => some ([], v.1, v.2.1, v.2.2.1, v.2.2.2.1, ()))
 (fun v =>
 Sum.elim
 (fun v =>
 (f139_g0
 (v.1, v.2.1, v.2.2.1, v.2.2.2.1, v.2.2.2.2.1,
 v.2.2.2.2.2.1, ())).bind
 fun v =>
 some (v.1, v.2.1, v.2.2.1, v.2.2.2.1, v.2.2.2.2.1, ()))
 (fun v =>
 some (v.1, v.2.1, v.2.2.1, v.2.2.2.1, v.2.2.2.2.1, ()))
 v)
 v
theorem h139 (f141 : T141) (f173 : T173) (f139_g0 : T139_g0) (f139_l0 : T139_l0) : AqF (K139 f141 f173) 1 Tryz.f139 (N139 f139_g0 f139_l0) f139_ins f139_outs (F139 f141 f173 f139_g0 f139_l0) := fun v => by kernel_rfl
def C139 : T139 := F139 C141 C173 C139_g0 C139_l0
theorem ok139 : FnOk Tryz.prog 139 (E139 C139) :=
 fnx (n := (N139 C139_g0 C139_l0)) kok139 Tryz.func139 (by kernel_rfl) (by kernel_rfl) (ann_obs (And.intro k139_l0 (And.intro k139_g0 trivial)) (by kernel_rfl)) (fun v => by kernel_rfl) (h139 C141 C173 C139_g0 C139_l0)
abbrev T140_c0 := Int × Bool × LqS × Int × Int × Int × Unit → Option ((Int × LqS × Int × Int × Int × Unit) ⊕ (LqS × LqS × Int × Int × Int × Unit))
def E140_c0 (f : T140_c0) : LEnt := ⟨f140_c0_ins, f140_c0_outs, f⟩
abbrev T140_l0 := Int × LqS × Int × Int × Int × Unit → Option ((Int × LqS × Int × Int × Int × Unit) ⊕ (LqS × LqS × Int × Int × Int × Unit))
def E140_l0 (f : T140_l0) : LEnt := ⟨f140_l0_ins, f140_l0_outs, f⟩
abbrev T140 := LqS × Int × Int × Int × Unit → Option (LqS × LqS × Int × Int × Int × Unit)
def E140 (f : T140) : FEnt := ⟨f140_ins, f140_outs, f⟩
def K140 (f174 : T174) : Calls' := fun f => Ae.lookA f [(174, E174 f174)]
theorem kok140 : KOk Tryz.prog (K140 C174) := (kok_cons ok174 (kok_nil _))
def F140_c0 (f174 : T174) : T140_c0 := fun (x0, x1, x2, x3, x4, x5, _) =>
 bif x1 then some (Sum.inl (x0, x2, IntKind.i64.wrap (x3 + 3), x4, x5, ()))
 else
 bif decide (0 ≤ x3) && decide (x3 ≤ (↑x2.length : Int)) then
 bif decide (0 ≤ x0) && decide (x0 ≤ x3) then
 some (Sum.inr (List.drop x0.toNat (List.take x3.toNat x2), x2, x3, x4, x5, ()))
 else none
 else none
theorem h140_c0 (f174 : T174) : AqC (K140 f174) 1 (subc (code Tryz.f140) [1, 1, 0, 0, 0, 1, 0, 1, 0, 1, 1, 1]) .nil f140_c0_ins f140_c0_outs (F140_c0 f174) := fun v => by kernel_rfl
def C140_c0 : T140_c0 := F140_c0 C174
theorem k140_c0 : FragOk Tryz.prog 1 (fun Q a w => (subc (code Tryz.f140) [1, 1, 0, 0, 0, 1, 0, 1, 0, 1, 1, 1]).wp Tryz.prog Q a w) (E140_c0 C140_c0) :=
 frag_code (ins := f140_c0_ins) (os := f140_c0_outs) (n := .nil) (F := C140_c0) hm hΓ kok140 (ann_nil _) (h140_c0 C174)
def N140_l0 (f140_c0 : T140_c0) : Ann := (.seq .nil (.blk (.seq .nil (.blk (.seq .nil (.cond .nil (.cut .nil (E140_c0 f140_c0))))))))
def F140_l0 (f174 : T174) (f140_c0 : T140_c0) : LpF (Int × LqS × Int × Int × Int × Unit) ((Int × LqS × Int × Int × Int × Unit) ⊕ (LqS × LqS × Int × Int × Int × Unit)) := fun (x0, x1, x2, x3, x4, _) =>
 bif decide (x2 < (↑x1.length : Int)) then
 bif decide (0 ≤ x2) && decide (x2 ≤ (↑x1.length : Int)) then
 bif decide (0 < (↑(List.drop x2.toNat x1).length : Int)) then
 (f174 ((↑((List.drop x2.toNat x1).getD 0 0).toNat : Int), ())).bind fun v =>
 bif v.1 then some (Sum.inl (x0, x1, IntKind.i64.wrap (x2 + 1), x3, x4, ()))
 else
 bif decide ((↑(List.drop x2.toNat x1).length : Int) > 2) then
 bif decide (2 ≤ (↑(List.drop x2.toNat x1).length : Int)) then
 bif List.take 2 (List.drop x2.toNat x1) == [13, 10] then
 bif decide (2 < (↑(List.drop x2.toNat x1).length : Int)) then
 (f174 ((↑((List.drop x2.toNat x1).getD 2 0).toNat : Int), ())).bind fun v =>
 (f140_c0 (x0, v.1, x1, x2, x3, x4, ())).bind fun v =>
 Sum.elim
 (fun v =>
 some
 (Sum.inl
 (v.1, v.2.1, v.2.2.1, v.2.2.2.1, v.2.2.2.2.1,
 ())))
 (fun v =>
 some
 (Sum.inr
 (Sum.inr
 (v.1, v.2.1, v.2.2.1, v.2.2.2.1, v.2.2.2.2.1,
 ()))))
 v
 else none
 else
 (f140_c0 (x0, false, x1, x2, x3, x4, ())).bind fun v =>
 Sum.elim
 (fun v =>
 some
 (Sum.inl
 (v.1, v.2.1, v.2.2.1, v.2.2.2.1, v.2.2.2.2.1,
 ())))
 (fun v =>
 some
 (Sum.inr
 (Sum.inr
 (v.1, v.2.1, v.2.2.1, v.2.2.2.1, v.2.2.2.2.1,
 ()))))
 v
 else none
 else
 (f140_c0 (x0, false, x1, x2, x3, x4, ())).bind fun v =>
 Sum.elim
 (fun v =>
 some
 (Sum.inl
 (v.1, v.2.1, v.2.2.1, v.2.2.2.1, v.2.2.2.2.1,
 ())))
 (fun v =>
 some
 (Sum.inr
 (Sum.inr
 (v.1, v.2.1, v.2.2.1, v.2.2.2.1, v.2.2.2.2.1,
 ()))))
 v
 else none
 else none
 else some (Sum.inr (Sum.inl (x0, x1, x2, x3, x4, ())))
theorem h140_l0 (f174 : T174) (f140_c0 : T140_c0) : AqL (K140 f174) 1 (subc (code Tryz.f140) [1, 1, 0, 0, 0]) (N140_l0 f140_c0) f140_l0_ins f140_l0_outs (F140_l0 f174 f140_c0) := fun v => by kernel_rfl
def C140_l0 : T140_l0 := loopN (F140_l0 C174 C140_c0) big
theorem k140_l0 : FragOk Tryz.prog 1 (fun Q a w => (Code.loop (subc (code Tryz.f140) [1, 1, 0, 0, 0])).wp Tryz.prog Q a w) (E140_l0 C140_l0) :=
 frag_big (ins := f140_l0_ins) (os := f140_l0_outs) (C := C140_l0) (frag_loop (ins := f140_l0_ins) (os := f140_l0_outs) (n := (N140_l0 C140_c0)) (F := F140_l0 C174 C140_c0) hm hΓ kok140 (fun _ => big) (ann_obs (And.intro k140_c0 trivial) (by kernel_rfl)) (h140_l0 C174 C140_c0)) rfl
def N140 (f140_l0 : T140_l0) : Ann := (.seq .nil (.seq .nil (.seq (.blk (.loop (E140_l0 f140_l0))) .nil)))
def F140 (f174 : T174) (f140_l0 : T140_l0) : T140 := fun (x0, x1, x2, x3, _) =>
 (f140_l0 (x1, x0, x1, x2, x3, ())).bind fun v =>
 Sum.elim
 (fun v =>
 bif decide (0 ≤ v.2.2.1) && decide (v.2.2.1 ≤ (↑(List.length v.2.1) : Int)) then
 bif decide (0 ≤ v.1) && decide (v.1 ≤ v.2.2.1) then
 some
 (List.drop (Int.toNat v.1) (List.take (Int.toNat v.2.2.1) v.2.1), v.2.1,
 v.2.2.1, v.2.2.2.1, v.2.2.2.2.1, ())
 else none
 else none)
 (fun v => some (v.1, v.2.1, v.2.2.1, v.2.2.2.1, v.2.2.2.2.1, ()))
 v
theorem h140 (f174 : T174) (f140_l0 : T140_l0) : AqF (K140 f174) 1 Tryz.f140 (N140 f140_l0) f140_ins f140_outs (F140 f174 f140_l0) := fun v => by kernel_rfl
def C140 : T140 := F140 C174 C140_l0
theorem ok140 : FnOk Tryz.prog 140 (E140 C140) :=
 fnx (n := (N140 C140_l0)) kok140 Tryz.func140 (by kernel_rfl) (by kernel_rfl) (ann_obs (And.intro k140_l0 trivial) (by kernel_rfl)) (fun v => by kernel_rfl) (h140 C174 C140_l0)
abbrev T105_c0 := Int × Int × LqS × Int × Int × Int × Int × LqS × Int × Unit → Option (LqS × Int × Int × Int × Int × LqS × Int × Unit)
def E105_c0 (f : T105_c0) : LEnt := ⟨f105_c0_ins, f105_c0_outs, f⟩
abbrev T105 := LqS × Int × Int × Int × Unit → Option (Int × LqS × Int × LqS × Int × Int × Int × Unit)
def E105 (f : T105) : FEnt := ⟨f105_ins, f105_outs, f⟩
def K105 (f127 : T127) (f136 : T136) (f137 : T137) (f138 : T138) (f139 : T139) (f140 : T140) (f141 : T141) (f90 : T90) : Calls' := fun f => Ae.lookA f [(127, E127 f127), (136, E136 f136), (137, E137 f137), (138, E138 f138), (139, E139 f139), (140, E140 f140), (141, E141 f141), (90, E90 f90)]
theorem kok105 : KOk Tryz.prog (K105 C127 C136 C137 C138 C139 C140 C141 C90) := (kok_cons ok127 (kok_cons ok136 (kok_cons ok137 (kok_cons ok138 (kok_cons ok139 (kok_cons ok140 (kok_cons ok141 (kok_cons ok90 (kok_nil _)))))))))
def F105_c0 (f127 : T127) (f136 : T136) (f137 : T137) (f138 : T138) (f139 : T139) (f140 : T140) (f141 : T141) (f90 : T90) : T105_c0 := fun (x0, x1, x2, x3, x4, x5, x6, x7, x8, _) =>
 (f90 (x1, ())).bind fun v =>
 bif v.1 then
 (f136 (x2, x3, x4, x5, ())).bind fun v =>
 some (v.2.1, v.2.2.1, v.2.2.2.1, v.2.2.2.2.1, 0, v.1, x0, ())
 else
 (f127 ([60, 62, 58, 59, 64, 44, 46], x1, ())).bind fun v =>
 bif decide (v.1 ≥ 0) then
 bif decide (0 ≤ IntKind.i64.wrap (x3 + 1)) && decide (IntKind.i64.wrap (x3 + 1) ≤ (↑x2.length : Int)) then
 bif decide (0 ≤ x0) && decide (x0 ≤ IntKind.i64.wrap (x3 + 1)) then
 some
 (x2, IntKind.i64.wrap (x3 + 1), x4, x5, 2,
 List.drop x0.toNat (List.take (IntKind.i64.wrap (x3 + 1)).toNat x2), x0, ())
 else none
 else none
 else
 bif x1 == 34 then
 (f137 (x2, x3, x4, x5, ())).bind fun v =>
 some
 (v.2.1, v.2.2.1, v.2.2.2.1, v.2.2.2.2.1, 1, v.1, x0, ())
 else
 bif x1 == 91 then
 (f138 (x2, x3, x4, x5, ())).bind fun v =>
 some
 (v.2.1, v.2.2.1, v.2.2.2.1, v.2.2.2.2.1, 5, v.1, x0, ())
 else
 bif x1 == 40 then
 (f139 (x2, x3, x4, x5, ())).bind fun v =>
 some
 (v.2.1, v.2.2.1, v.2.2.2.1, v.2.2.2.2.1, 3, v.1, x0,
 ())
 else
 (f140 (x2, x3, x4, x5, ())).bind fun v =>
 bif v.1 == [] then
 (f141 (x0, 4, v.2.1, v.2.2.1, v.2.2.2.1, v.2.2.2.2.1, ())).bind
 fun v1 =>
 some
 (v1.1, v1.2.1, v1.2.2.1, v1.2.2.2.1, 4, v.1, x0, ())
 else
 some
 (v.2.1, v.2.2.1, v.2.2.2.1, v.2.2.2.2.1, 4, v.1, x0,
 ())
theorem h105_c0 (f127 : T127) (f136 : T136) (f137 : T137) (f138 : T138) (f139 : T139) (f140 : T140) (f141 : T141) (f90 : T90) : AqC (K105 f127 f136 f137 f138 f139 f140 f141 f90) 1 (subc (code Tryz.f105) [1, 1]) .nil f105_c0_ins f105_c0_outs (F105_c0 f127 f136 f137 f138 f139 f140 f141 f90) := fun v => by kernel_rfl
def C105_c0 : T105_c0 := F105_c0 C127 C136 C137 C138 C139 C140 C141 C90
theorem k105_c0 : FragOk Tryz.prog 1 (fun Q a w => (subc (code Tryz.f105) [1, 1]).wp Tryz.prog Q a w) (E105_c0 C105_c0) :=
 frag_code (ins := f105_c0_ins) (os := f105_c0_outs) (n := .nil) (F := C105_c0) hm hΓ kok105 (ann_nil _) (h105_c0 C127 C136 C137 C138 C139 C140 C141 C90)
def N105 (f105_c0 : T105_c0) : Ann := (.seq .nil (.cut .nil (E105_c0 f105_c0)))
def F105 (f127 : T127) (f136 : T136) (f137 : T137) (f138 : T138) (f139 : T139) (f140 : T140) (f141 : T141) (f90 : T90) (f105_c0 : T105_c0) : T105 := fun (x0, x1, x2, x3, _) =>
 bif decide (0 ≤ x1) && decide (x1 < (↑x0.length : Int)) then
 (f105_c0 (x1, (↑(x0.getD x1.toNat 0).toNat : Int), x0, x1, x2, x3, 0, [], 0, ())).bind fun v =>
 some
 (v.2.2.2.2.1, v.2.2.2.2.2.1, v.2.2.2.2.2.2.1, v.1, v.2.1,
 v.2.2.1, v.2.2.2.1, ())
 else none
theorem h105 (f127 : T127) (f136 : T136) (f137 : T137) (f138 : T138) (f139 : T139) (f140 : T140) (f141 : T141) (f90 : T90) (f105_c0 : T105_c0) : AqF (K105 f127 f136 f137 f138 f139 f140 f141 f90) 1 Tryz.f105 (N105 f105_c0) f105_ins f105_outs (F105 f127 f136 f137 f138 f139 f140 f141 f90 f105_c0) := fun v => by kernel_rfl
def C105 : T105 := F105 C127 C136 C137 C138 C139 C140 C141 C90 C105_c0
theorem ok105 : FnOk Tryz.prog 105 (E105 C105) :=
 fnx (n := (N105 C105_c0)) kok105 Tryz.func105 (by kernel_rfl) (by kernel_rfl) (ann_obs (And.intro k105_c0 trivial) (by kernel_rfl)) (fun v => by kernel_rfl) (h105 C127 C136 C137 C138 C139 C140 C141 C90 C105_c0)
abbrev T67_l0 := LqS × LqD × LqS × Int × Int × Int × Unit → Option ((LqD × Unit) ⊕ (Int × Int × Unit))
def E67_l0 (f : T67_l0) : LEnt := ⟨f67_l0_ins, f67_l0_outs, f⟩
abbrev T67 := LqS × Unit → Option (LqD × Int × Int × Unit)
def E67 (f : T67) : FEnt := ⟨f67_ins, f67_outs, f⟩
def K67 (f105 : T105) (f83 : T83) : Calls' := fun f => Ae.lookA f [(105, E105 f105), (83, E83 f83)]
theorem kok67 : KOk Tryz.prog (K67 C105 C83) := (kok_cons ok105 (kok_cons ok83 (kok_nil _)))
def F67_l0 (f105 : T105) (f83 : T83) : LpF (LqS × LqD × LqS × Int × Int × Int × Unit) ((LqD × Unit) ⊕ (Int × Int × Unit)) := fun (x0, x1, x2, x3, x4, x5, _) =>
 bif decide (x3 < (↑x0.length : Int)) then
 (f105 (x2, x3, x4, x5, ())).bind fun v =>
 bif decide (x1.length + [(v.1, v.2.1, v.2.2.1)].length ≤ 140737488355328 / 32) then
 bif v.2.2.2.2.2.2.1 != 0 then
 some (Sum.inr (Sum.inr (v.2.2.2.2.2.1, v.2.2.2.2.2.2.1, ())))
 else
 some
 (Sum.inl
 (x0, x1 ++ [(v.1, v.2.1, v.2.2.1)], v.2.2.2.1, v.2.2.2.2.1,
 v.2.2.2.2.2.1, v.2.2.2.2.2.2.1, ()))
 else none
 else some (Sum.inr (Sum.inl (x1, ())))
theorem h67_l0 (f105 : T105) (f83 : T83) : AqL (K67 f105 f83) 0 (subc (code Tryz.f67) [1, 1, 1, 1, 1, 0, 0, 0]) .nil f67_l0_ins f67_l0_outs (F67_l0 f105 f83) := fun v => by kernel_rfl
def C67_l0 : T67_l0 := loopN (F67_l0 C105 C83) big
theorem k67_l0 : FragOk Tryz.prog 0 (fun Q a w => (Code.loop (subc (code Tryz.f67) [1, 1, 1, 1, 1, 0, 0, 0])).wp Tryz.prog Q a w) (E67_l0 C67_l0) :=
 frag_big (ins := f67_l0_ins) (os := f67_l0_outs) (C := C67_l0) (frag_loop (ins := f67_l0_ins) (os := f67_l0_outs) (n := .nil) (F := F67_l0 C105 C83) hm hΓ kok67 (fun _ => big) (ann_nil _) (h67_l0 C105 C83)) rfl
def N67 (f67_l0 : T67_l0) : Ann := (.seq .nil (.seq .nil (.seq .nil (.seq .nil (.seq .nil (.seq (.blk (.loop (E67_l0 f67_l0))) .nil))))))
def F67 (f105 : T105) (f83 : T83) (f67_l0 : T67_l0) : T67 := fun (x0, _) =>
 bif decide ((↑x0.length : Int) > 2000) then some ([], 0, 5, ())
 else
 (f83 (x0, ())).bind fun v =>
 bif decide (v.2.1 ≥ 0) then some ([], v.2.1, 7, ())
 else
 (f67_l0 (x0, [], x0, 0, 0, 0, ())).bind fun v =>
 Sum.elim (fun v => some (v.1, 0, 0, ())) (fun v => some ([], v.1, v.2.1, ()))
 v
theorem h67 (f105 : T105) (f83 : T83) (f67_l0 : T67_l0) : AqF (K67 f105 f83) 0 Tryz.f67 (N67 f67_l0) f67_ins f67_outs (F67 f105 f83 f67_l0) := fun v => by kernel_rfl
def C67 : T67 := F67 C105 C83 C67_l0
theorem ok67 : FnOk Tryz.prog 67 (E67 C67) :=
 fnx (n := (N67 C67_l0)) kok67 Tryz.func67 (by kernel_rfl) (by kernel_rfl) (ann_obs (And.intro k67_l0 trivial) (by kernel_rfl)) (fun v => by kernel_rfl) (h67 C105 C83 C67_l0)
abbrev T146_c0 := Int × LqD × Int × LqS × LqS × Unit → Option (Int × LqD × Int × LqS × LqS × Unit)
def E146_c0 (f : T146_c0) : LEnt := ⟨f146_c0_ins, f146_c0_outs, f⟩
abbrev T146 := Int × LqD × Int × LqS × LqS × Unit → Option (Int × LqD × Int × LqS × LqS × Unit)
def E146 (f : T146) : FEnt := ⟨f146_ins, f146_outs, f⟩
def K146 : Calls' := fun f => Ae.lookA f []
theorem kok146 : KOk Tryz.prog (K146) := (kok_nil _)
def F146_c0 : T146_c0 := fun (x0, x1, x2, x3, x4, _) =>
 bif decide (0 ≤ IntKind.i64.wrap (x2 + x0)) && decide (IntKind.i64.wrap (x2 + x0) < (↑x1.length : Int)) then
 some
 ((x1.getD (IntKind.i64.wrap (x2 + x0)).toNat
 (0, ([], 0))).1,
 x1, x2, x3, x4, ())
 else none
theorem h146_c0 : AqC (K146) 1 (subc (code Tryz.f146) [1, 1]) .nil f146_c0_ins f146_c0_outs (F146_c0) := fun v => by kernel_rfl
def C146_c0 : T146_c0 := F146_c0
theorem k146_c0 : FragOk Tryz.prog 1 (fun Q a w => (subc (code Tryz.f146) [1, 1]).wp Tryz.prog Q a w) (E146_c0 C146_c0) :=
 frag_code (ins := f146_c0_ins) (os := f146_c0_outs) (n := .nil) (F := C146_c0) hm hΓ kok146 (ann_nil _) (h146_c0)
def N146 (f146_c0 : T146_c0) : Ann := (.seq .nil (.cut .nil (E146_c0 f146_c0)))
def F146 (f146_c0 : T146_c0) : T146 := fun (x0, x1, x2, x3, x4, _) =>
 bif decide (IntKind.i64.wrap (x2 + x0) ≥ (↑x1.length : Int)) then some (-1, x1, x2, x3, x4, ())
 else
 (f146_c0 (x0, x1, x2, x3, x4, ())).bind fun v =>
 some (v.1, v.2.1, v.2.2.1, v.2.2.2.1, v.2.2.2.2.1, ())
theorem h146 (f146_c0 : T146_c0) : AqF (K146) 1 Tryz.f146 (N146 f146_c0) f146_ins f146_outs (F146 f146_c0) := fun v => by kernel_rfl
def C146 : T146 := F146 C146_c0
theorem ok146 : FnOk Tryz.prog 146 (E146 C146) :=
 fnx (n := (N146 C146_c0)) kok146 Tryz.func146 (by kernel_rfl) (by kernel_rfl) (ann_obs (And.intro k146_c0 trivial) (by kernel_rfl)) (fun v => by kernel_rfl) (h146 C146_c0)
end Go.Proofs.YtiacnhhmkdkpmaaGreatDoorC.W
set_option maxRecDepth 100000
set_option linter.unusedVariables false
namespace Go.Proofs.YtiacnhhmkdkpmaaGreatDoorC.W
open Go Go.Ae
abbrev T109_l0 := LqD × Int × LqS × LqS × Unit → Option (LqD × Int × LqS × LqS × Unit)
def E109_l0 (f : T109_l0) : LEnt := ⟨f109_l0_ins, f109_l0_outs, f⟩
abbrev T109 := LqD × Int × LqS × LqS × Unit → Option (Bool × LqD × Int × LqS × LqS × Unit)
def E109 (f : T109) : FEnt := ⟨f109_ins, f109_outs, f⟩
def K109 (f146 : T146) : Calls' := fun f => Ae.lookA f [(146, E146 f146)]
theorem kok109 : KOk Tryz.prog (K109 C146) := (kok_cons ok146 (kok_nil _))
def F109_l0 (f146 : T146) : LpF (LqD × Int × LqS × LqS × Unit) (LqD × Int × LqS × LqS × Unit) := fun (x0, x1, x2, x3, _) =>
 (f146 (0, x0, x1, x2, x3, ())).bind fun v =>
 bif v.1 == 4 then
 some
 (Sum.inl
 (v.2.1, IntKind.i64.wrap (v.2.2.1 + 1), v.2.2.2.1, v.2.2.2.2.1, ()))
 else
 (f146 (0, v.2.1, v.2.2.1, v.2.2.2.1, v.2.2.2.2.1, ())).bind fun v =>
 bif v.1 == 3 then
 some
 (Sum.inl
 (v.2.1, IntKind.i64.wrap (v.2.2.1 + 1), v.2.2.2.1, v.2.2.2.2.1,
 ()))
 else some (Sum.inr (v.2.1, v.2.2.1, v.2.2.2.1, v.2.2.2.2.1, ()))
theorem h109_l0 (f146 : T146) : AqL (K109 f146) 1 (subc (code Tryz.f109) [1, 0, 0, 0]) .nil f109_l0_ins f109_l0_outs (F109_l0 f146) := fun v => by kernel_rfl
def C109_l0 : T109_l0 := loopN (F109_l0 C146) big
theorem k109_l0 : FragOk Tryz.prog 1 (fun Q a w => (Code.loop (subc (code Tryz.f109) [1, 0, 0, 0])).wp Tryz.prog Q a w) (E109_l0 C109_l0) :=
 frag_big (ins := f109_l0_ins) (os := f109_l0_outs) (C := C109_l0) (frag_loop (ins := f109_l0_ins) (os := f109_l0_outs) (n := .nil) (F := F109_l0 C146) hm hΓ kok109 (fun _ => big) (ann_nil _) (h109_l0 C146)) rfl
def N109 (f109_l0 : T109_l0) : Ann := (.seq .nil (.seq (.blk (.loop (E109_l0 f109_l0))) .nil))
def F109 (f146 : T146) (f109_l0 : T109_l0) : T109 := fun (x0, x1, x2, x3, _) =>
 (f109_l0 (x0, x1, x2, x3, ())).bind fun v =>
 some (true, v.1, v.2.1, v.2.2.1, v.2.2.2.1, ())
theorem h109 (f146 : T146) (f109_l0 : T109_l0) : AqF (K109 f146) 1 Tryz.f109 (N109 f109_l0) f109_ins f109_outs (F109 f146 f109_l0) := fun v => by kernel_rfl
def C109 : T109 := F109 C146 C109_l0
theorem ok109 : FnOk Tryz.prog 109 (E109 C109) :=
 fnx (n := (N109 C109_l0)) kok109 Tryz.func109 (by kernel_rfl) (by kernel_rfl) (ann_obs (And.intro k109_l0 trivial) (by kernel_rfl)) (fun v => by kernel_rfl) (h109 C146 C109_l0)
abbrev T148 := LqS × LqD × Int × LqS × LqS × Unit → Option (Bool × LqD × Int × LqS × LqS × Unit)
def E148 (f : T148) : FEnt := ⟨f148_ins, f148_outs, f⟩
def K148 (f146 : T146) : Calls' := fun f => Ae.lookA f [(146, E146 f146)]
theorem kok148 : KOk Tryz.prog (K148 C146) := (kok_cons ok146 (kok_nil _))
def F148 (f146 : T146) : T148 := fun (x0, x1, x2, x3, x4, _) =>
 (f146 (0, x1, x2, x3, x4, ())).bind fun v =>
 bif v.1 == 2 then
 bif decide (0 ≤ v.2.2.1) && decide (v.2.2.1 < (↑(List.length v.2.1) : Int)) then
 some
 ((List.getD v.2.1 (Int.toNat v.2.2.1)
 (0, ([], 0))).2.1 ==
 x0,
 v.2.1, v.2.2.1, v.2.2.2.1, v.2.2.2.2.1, ())
 else none
 else some (false, v.2.1, v.2.2.1, v.2.2.2.1, v.2.2.2.2.1, ())
theorem h148 (f146 : T146) : AqF (K148 f146) 1 Tryz.f148 .nil f148_ins f148_outs (F148 f146) := fun v => by kernel_rfl
def C148 : T148 := F148 C146
theorem ok148 : FnOk Tryz.prog 148 (E148 C148) :=
 fnx (n := .nil) kok148 Tryz.func148 (by kernel_rfl) (by kernel_rfl) (ann_nil _) (fun v => by kernel_rfl) (h148 C146)
abbrev T147_l0 := LqS × LqD × Int × LqS × LqS × Unit → Option (LqS × LqD × Int × LqS × LqS × Unit)
def E147_l0 (f : T147_l0) : LEnt := ⟨f147_l0_ins, f147_l0_outs, f⟩
abbrev T147_c0 := LqS × LqD × Int × LqS × LqS × Unit → Option (LqS × Bool × LqD × Int × LqS × LqS × Unit)
def E147_c0 (f : T147_c0) : LEnt := ⟨f147_c0_ins, f147_c0_outs, f⟩
abbrev T147 := LqD × Int × LqS × LqS × Unit → Option (LqS × Bool × LqD × Int × LqS × LqS × Unit)
def E147 (f : T147) : FEnt := ⟨f147_ins, f147_outs, f⟩
def K147 (f146 : T146) (f148 : T148) : Calls' := fun f => Ae.lookA f [(146, E146 f146), (148, E148 f148)]
theorem kok147 : KOk Tryz.prog (K147 C146 C148) := (kok_cons ok146 (kok_cons ok148 (kok_nil _)))
def F147_l0 (f146 : T146) (f148 : T148) : LpF (LqS × LqD × Int × LqS × LqS × Unit) (LqS × LqD × Int × LqS × LqS × Unit) := fun (x0, x1, x2, x3, x4, _) =>
 (f148 ([46], x1, x2, x3, x4, ())).bind fun v =>
 bif v.1 then
 (f146 (1, v.2.1, v.2.2.1, v.2.2.2.1, v.2.2.2.2.1, ())).bind fun v =>
 bif v.1 == 0 then
 bif
 decide (0 ≤ IntKind.i64.wrap (v.2.2.1 + 1)) &&
 decide (IntKind.i64.wrap (v.2.2.1 + 1) < (↑(List.length v.2.1) : Int)) then
 bif
 decide
 ([46].length +
 List.length
 (List.getD v.2.1 (IntKind.i64.wrap (v.2.2.1 + 1)).toNat
 (0, ([], 0))).2.1 ≤
 9223372036854775807) then
 bif
 decide
 (x0.length +
 ([46] ++
 (List.getD v.2.1 (IntKind.i64.wrap (v.2.2.1 + 1)).toNat
 (0, ([], 0))).2.1).length ≤
 9223372036854775807) then
 some
 (Sum.inl
 (x0 ++
 ([46] ++
 (List.getD v.2.1 (IntKind.i64.wrap (v.2.2.1 + 1)).toNat
 (0, ([], 0))).2.1),
 v.2.1, IntKind.i64.wrap (v.2.2.1 + 2), v.2.2.2.1, v.2.2.2.2.1,
 ()))
 else none
 else none
 else none
 else some (Sum.inr (x0, v.2.1, v.2.2.1, v.2.2.2.1, v.2.2.2.2.1, ()))
 else some (Sum.inr (x0, v.2.1, v.2.2.1, v.2.2.2.1, v.2.2.2.2.1, ()))
theorem h147_l0 (f146 : T146) (f148 : T148) : AqL (K147 f146 f148) 1 (subc (code Tryz.f147) [1, 1, 1, 0, 1, 0, 0]) .nil f147_l0_ins f147_l0_outs (F147_l0 f146 f148) := fun v => by kernel_rfl
def C147_l0 : T147_l0 := loopN (F147_l0 C146 C148) big
theorem k147_l0 : FragOk Tryz.prog 1 (fun Q a w => (Code.loop (subc (code Tryz.f147) [1, 1, 1, 0, 1, 0, 0])).wp Tryz.prog Q a w) (E147_l0 C147_l0) :=
 frag_big (ins := f147_l0_ins) (os := f147_l0_outs) (C := C147_l0) (frag_loop (ins := f147_l0_ins) (os := f147_l0_outs) (n := .nil) (F := F147_l0 C146 C148) hm hΓ kok147 (fun _ => big) (ann_nil _) (h147_l0 C146 C148)) rfl
def N147_c0 (f147_l0 : T147_l0) : Ann := (.seq (.seq .nil (.blk (.loop (E147_l0 f147_l0)))) .nil)
def F147_c0 (f146 : T146) (f148 : T148) (f147_l0 : T147_l0) : T147_c0 := fun (x0, x1, x2, x3, x4, _) =>
 (f147_l0 (x0, x1, IntKind.i64.wrap (x2 + 1), x3, x4, ())).bind fun v =>
 some (v.1, true, v.2.1, v.2.2.1, v.2.2.2.1, v.2.2.2.2.1, ())
theorem h147_c0 (f146 : T146) (f148 : T148) (f147_l0 : T147_l0) : AqC (K147 f146 f148) 1 (subc (code Tryz.f147) [1, 1, 1]) (N147_c0 f147_l0) f147_c0_ins f147_c0_outs (F147_c0 f146 f148 f147_l0) := fun v => by kernel_rfl
def C147_c0 : T147_c0 := F147_c0 C146 C148 C147_l0
theorem k147_c0 : FragOk Tryz.prog 1 (fun Q a w => (subc (code Tryz.f147) [1, 1, 1]).wp Tryz.prog Q a w) (E147_c0 C147_c0) :=
 frag_code (ins := f147_c0_ins) (os := f147_c0_outs) (n := (N147_c0 C147_l0)) (F := C147_c0) hm hΓ kok147 (ann_obs (And.intro k147_l0 trivial) (by kernel_rfl)) (h147_c0 C146 C148 C147_l0)
def N147 (f147_c0 : T147_c0) : Ann := (.seq .nil (.seq .nil (.cut .nil (E147_c0 f147_c0))))
def F147 (f146 : T146) (f148 : T148) (f147_c0 : T147_c0) : T147 := fun (x0, x1, x2, x3, _) =>
 (f146 (0, x0, x1, x2, x3, ())).bind fun v =>
 bif v.1 != 0 then
 some ([], false, v.2.1, v.2.2.1, v.2.2.2.1, v.2.2.2.2.1, ())
 else
 bif decide (0 ≤ v.2.2.1) && decide (v.2.2.1 < (↑(List.length v.2.1) : Int)) then
 (f147_c0
 ((List.getD v.2.1 (Int.toNat v.2.2.1)
 (0, ([], 0))).2.1,
 v.2.1, v.2.2.1, v.2.2.2.1, v.2.2.2.2.1, ())).bind
 fun v =>
 some
 (v.1, v.2.1, v.2.2.1, v.2.2.2.1, v.2.2.2.2.1,
 v.2.2.2.2.2.1, ())
 else none
theorem h147 (f146 : T146) (f148 : T148) (f147_c0 : T147_c0) : AqF (K147 f146 f148) 1 Tryz.f147 (N147 f147_c0) f147_ins f147_outs (F147 f146 f148 f147_c0) := fun v => by kernel_rfl
def C147 : T147 := F147 C146 C148 C147_c0
theorem ok147 : FnOk Tryz.prog 147 (E147 C147) :=
 fnx (n := (N147 C147_c0)) kok147 Tryz.func147 (by kernel_rfl) (by kernel_rfl) (ann_obs (And.intro k147_c0 trivial) (by kernel_rfl)) (fun v => by kernel_rfl) (h147 C146 C148 C147_c0)
abbrev T110_c0 := LqD × Int × LqS × LqS × Unit → Option (Bool × LqD × Int × LqS × LqS × Unit)
def E110_c0 (f : T110_c0) : LEnt := ⟨f110_c0_ins, f110_c0_outs, f⟩
abbrev T110 := LqD × Int × LqS × LqS × Unit → Option (Bool × LqD × Int × LqS × LqS × Unit)
def E110 (f : T110) : FEnt := ⟨f110_ins, f110_outs, f⟩
def K110 (f146 : T146) (f147 : T147) : Calls' := fun f => Ae.lookA f [(146, E146 f146), (147, E147 f147)]
theorem kok110 : KOk Tryz.prog (K110 C146 C147) := (kok_cons ok146 (kok_cons ok147 (kok_nil _)))
def F110_c0 (f146 : T146) (f147 : T147) : T110_c0 := fun (x0, x1, x2, x3, _) =>
 some (true, x0, IntKind.i64.wrap (x1 + 1), x2, x3, ())
theorem h110_c0 (f146 : T146) (f147 : T147) : AqC (K110 f146 f147) 1 (subc (code Tryz.f110) [1, 0, 1, 0, 1]) .nil f110_c0_ins f110_c0_outs (F110_c0 f146 f147) := fun v => by kernel_rfl
def C110_c0 : T110_c0 := F110_c0 C146 C147
theorem k110_c0 : FragOk Tryz.prog 1 (fun Q a w => (subc (code Tryz.f110) [1, 0, 1, 0, 1]).wp Tryz.prog Q a w) (E110_c0 C110_c0) :=
 frag_code (ins := f110_c0_ins) (os := f110_c0_outs) (n := .nil) (F := C110_c0) hm hΓ kok110 (ann_nil _) (h110_c0 C146 C147)
def N110 (f110_c0 : T110_c0) : Ann := (.seq .nil (.seq (.seq .nil (.cond (.cut .nil (E110_c0 f110_c0)) .nil)) .nil))
def F110 (f146 : T146) (f147 : T147) (f110_c0 : T110_c0) : T110 := fun (x0, x1, x2, x3, _) =>
 (f146 (0, x0, x1, x2, x3, ())).bind fun v =>
 bif v.1 == 1 then
 bif decide (0 ≤ v.2.2.1) && decide (v.2.2.1 < (↑(List.length v.2.1) : Int)) then
 (f110_c0
 (v.2.1, v.2.2.1,
 (List.getD v.2.1 (Int.toNat v.2.2.1)
 (0, ([], 0))).2.1,
 v.2.2.2.2.1, ())).bind
 fun v =>
 some (v.1, v.2.1, v.2.2.1, v.2.2.2.1, v.2.2.2.2.1, ())
 else none
 else
 (f147 (v.2.1, v.2.2.1, v.2.2.2.1, v.2.2.2.2.1, ())).bind fun v =>
 some (v.2.1, v.2.2.1, v.2.2.2.1, v.1, v.2.2.2.2.2.1, ())
theorem h110 (f146 : T146) (f147 : T147) (f110_c0 : T110_c0) : AqF (K110 f146 f147) 1 Tryz.f110 (N110 f110_c0) f110_ins f110_outs (F110 f146 f147 f110_c0) := fun v => by kernel_rfl
def C110 : T110 := F110 C146 C147 C110_c0
theorem ok110 : FnOk Tryz.prog 110 (E110 C110) :=
 fnx (n := (N110 C110_c0)) kok110 Tryz.func110 (by kernel_rfl) (by kernel_rfl) (ann_obs (And.intro k110_c0 trivial) (by kernel_rfl)) (fun v => by kernel_rfl) (h110 C146 C147 C110_c0)
abbrev T111 := LqD × Int × LqS × LqS × Unit → Option (Bool × LqD × Int × LqS × LqS × Unit)
def E111 (f : T111) : FEnt := ⟨f111_ins, f111_outs, f⟩
def K111 (f148 : T148) : Calls' := fun f => Ae.lookA f [(148, E148 f148)]
theorem kok111 : KOk Tryz.prog (K111 C148) := (kok_cons ok148 (kok_nil _))
def F111 (f148 : T148) : T111 := fun (x0, x1, x2, x3, _) =>
 (f148 ([64], x0, x1, x2, x3, ())).bind fun v =>
 some
 (v.1, v.2.1, IntKind.i64.wrap (v.2.2.1 + 1), v.2.2.2.1, v.2.2.2.2.1,
 ())
theorem h111 (f148 : T148) : AqF (K111 f148) 1 Tryz.f111 .nil f111_ins f111_outs (F111 f148) := fun v => by kernel_rfl
def C111 : T111 := F111 C148
theorem ok111 : FnOk Tryz.prog 111 (E111 C111) :=
 fnx (n := .nil) kok111 Tryz.func111 (by kernel_rfl) (by kernel_rfl) (ann_nil _) (fun v => by kernel_rfl) (h111 C148)
abbrev T126_l0 := LqS × Int × Int × LqS × Unit → Option (LqS × Unit)
def E126_l0 (f : T126_l0) : LEnt := ⟨f126_l0_ins, f126_l0_outs, f⟩
abbrev T126 := LqS × Unit → Option (LqS × Unit)
def E126 (f : T126) : FEnt := ⟨f126_ins, f126_outs, f⟩
def K126 : Calls' := fun f => Ae.lookA f []
theorem kok126 : KOk Tryz.prog (K126) := (kok_nil _)
def F126_l0 : LpF (LqS × Int × Int × LqS × Unit) (LqS × Unit) := fun (x0, x1, x2, x3, _) =>
 bif decide (x2 < x1) then
 bif decide (0 ≤ x2) && decide (x2 < (↑x0.length : Int)) then
 bif (↑(x0.getD x2.toNat 0).toNat : Int) == 34 then
 bif decide (x3.length + [92].length ≤ 140737488355328 / 1) then
 bif decide (0 ≤ x2) && decide (x2 < (↑x0.length : Int)) then
 bif
 decide
 ((x3 ++ [92]).length +
 [UInt8.ofNat (↑(x0.getD x2.toNat 0).toNat : Int).toNat].length ≤
 140737488355328 / 1) then
 some
 (Sum.inl
 (x0, x1, IntKind.i64.wrap (x2 + 1),
 x3 ++ [92] ++ [UInt8.ofNat (↑(x0.getD x2.toNat 0).toNat : Int).toNat],
 ()))
 else none
 else none
 else none
 else
 bif decide (0 ≤ x2) && decide (x2 < (↑x0.length : Int)) then
 bif (↑(x0.getD x2.toNat 0).toNat : Int) == 92 then
 bif decide (x3.length + [92].length ≤ 140737488355328 / 1) then
 bif decide (0 ≤ x2) && decide (x2 < (↑x0.length : Int)) then
 bif
 decide
 ((x3 ++ [92]).length +
 [UInt8.ofNat (↑(x0.getD x2.toNat 0).toNat : Int).toNat].length ≤
 140737488355328 / 1) then
 some
 (Sum.inl
 (x0, x1, IntKind.i64.wrap (x2 + 1),
 x3 ++ [92] ++ [UInt8.ofNat (↑(x0.getD x2.toNat 0).toNat : Int).toNat],
 ()))
 else none
 else none
 else none
 else
 bif decide (0 ≤ x2) && decide (x2 < (↑x0.length : Int)) then
 bif
 decide
 (x3.length + [UInt8.ofNat (↑(x0.getD x2.toNat 0).toNat : Int).toNat].length ≤
 140737488355328 / 1) then
 some
 (Sum.inl
 (x0, x1, IntKind.i64.wrap (x2 + 1), x3 ++ [UInt8.ofNat (↑(x0.getD x2.toNat 0).toNat : Int).toNat],
 ()))
 else none
 else none
 else none
 else none
 else some (Sum.inr (x3, ()))
theorem h126_l0 : AqL (K126) 0 (subc (code Tryz.f126) [1, 1, 0, 1, 0, 0]) .nil f126_l0_ins f126_l0_outs (F126_l0) := fun v => by kernel_rfl
def C126_l0 : T126_l0 := loopN (F126_l0) big
theorem k126_l0 : FragOk Tryz.prog 0 (fun Q a w => (Code.loop (subc (code Tryz.f126) [1, 1, 0, 1, 0, 0])).wp Tryz.prog Q a w) (E126_l0 C126_l0) :=
 frag_big (ins := f126_l0_ins) (os := f126_l0_outs) (C := C126_l0) (frag_loop (ins := f126_l0_ins) (os := f126_l0_outs) (n := .nil) (F := F126_l0) hm hΓ kok126 (fun _ => big) (ann_nil _) (h126_l0)) rfl
def N126 (f126_l0 : T126_l0) : Ann := (.seq .nil (.seq .nil (.seq (.seq .nil (.blk (.loop (E126_l0 f126_l0)))) .nil)))
def F126 (f126_l0 : T126_l0) : T126 := fun (x0, _) =>
 (f126_l0 (x0, (↑x0.length : Int), 0, [], ())).bind fun v => some (v.1, ())
theorem h126 (f126_l0 : T126_l0) : AqF (K126) 0 Tryz.f126 (N126 f126_l0) f126_ins f126_outs (F126 f126_l0) := fun v => by kernel_rfl
def C126 : T126 := F126 C126_l0
theorem ok126 : FnOk Tryz.prog 126 (E126 C126) :=
 fnx (n := (N126 C126_l0)) kok126 Tryz.func126 (by kernel_rfl) (by kernel_rfl) (ann_obs (And.intro k126_l0 trivial) (by kernel_rfl)) (fun v => by kernel_rfl) (h126 C126_l0)
abbrev T89 := Int × LqS × Int × Unit → Option (LqS × Unit)
def E89 (f : T89) : FEnt := ⟨f89_ins, f89_outs, f⟩
def K89 (f126 : T126) : Calls' := fun f => Ae.lookA f [(126, E126 f126)]
theorem kok89 : KOk Tryz.prog (K89 C126) := (kok_cons ok126 (kok_nil _))
def F89 (f126 : T126) : T89 := fun (x0, x1, x2, _) =>
 bif x0 == 1 then
 (f126 (x1, ())).bind fun v =>
 bif decide ([34].length + List.length v.1 ≤ 9223372036854775807) then
 bif decide (([34] ++ v.1).length + [34].length ≤ 9223372036854775807) then
 some ([34] ++ v.1 ++ [34], ())
 else none
 else none
 else
 bif x0 == 3 then
 bif decide ([40].length + x1.length ≤ 9223372036854775807) then
 bif decide (([40] ++ x1).length + [41].length ≤ 9223372036854775807) then
 some ([40] ++ x1 ++ [41], ())
 else none
 else none
 else
 bif x0 == 5 then
 bif decide ([91].length + x1.length ≤ 9223372036854775807) then
 bif decide (([91] ++ x1).length + [93].length ≤ 9223372036854775807) then
 some ([91] ++ x1 ++ [93], ())
 else none
 else none
 else some (x1, ())
theorem h89 (f126 : T126) : AqF (K89 f126) 0 Tryz.f89 .nil f89_ins f89_outs (F89 f126) := fun v => by kernel_rfl
def C89 : T89 := F89 C126
theorem ok89 : FnOk Tryz.prog 89 (E89 C89) :=
 fnx (n := .nil) kok89 Tryz.func89 (by kernel_rfl) (by kernel_rfl) (ann_nil _) (fun v => by kernel_rfl) (h89 C126)
abbrev T112_c0 := LqD × Int × LqS × LqS × Unit → Option (Bool × LqD × Int × LqS × LqS × Unit)
def E112_c0 (f : T112_c0) : LEnt := ⟨f112_c0_ins, f112_c0_outs, f⟩
abbrev T112 := LqD × Int × LqS × LqS × Unit → Option (Bool × LqD × Int × LqS × LqS × Unit)
def E112 (f : T112) : FEnt := ⟨f112_ins, f112_outs, f⟩
def K112 (f146 : T146) (f147 : T147) (f89 : T89) : Calls' := fun f => Ae.lookA f [(146, E146 f146), (147, E147 f147), (89, E89 f89)]
theorem kok112 : KOk Tryz.prog (K112 C146 C147 C89) := (kok_cons ok146 (kok_cons ok147 (kok_cons ok89 (kok_nil _))))
def F112_c0 (f146 : T146) (f147 : T147) (f89 : T89) : T112_c0 := fun (x0, x1, x2, x3, _) =>
 some (true, x0, IntKind.i64.wrap (x1 + 1), x2, x3, ())
theorem h112_c0 (f146 : T146) (f147 : T147) (f89 : T89) : AqC (K112 f146 f147 f89) 1 (subc (code Tryz.f112) [1, 0, 1, 0, 1]) .nil f112_c0_ins f112_c0_outs (F112_c0 f146 f147 f89) := fun v => by kernel_rfl
def C112_c0 : T112_c0 := F112_c0 C146 C147 C89
theorem k112_c0 : FragOk Tryz.prog 1 (fun Q a w => (subc (code Tryz.f112) [1, 0, 1, 0, 1]).wp Tryz.prog Q a w) (E112_c0 C112_c0) :=
 frag_code (ins := f112_c0_ins) (os := f112_c0_outs) (n := .nil) (F := C112_c0) hm hΓ kok112 (ann_nil _) (h112_c0 C146 C147 C89)
def N112 (f112_c0 : T112_c0) : Ann := (.seq .nil (.seq (.seq .nil (.cond (.cut .nil (E112_c0 f112_c0)) .nil)) .nil))
def F112 (f146 : T146) (f147 : T147) (f89 : T89) (f112_c0 : T112_c0) : T112 := fun (x0, x1, x2, x3, _) =>
 (f146 (0, x0, x1, x2, x3, ())).bind fun v =>
 bif v.1 == 5 then
 bif decide (0 ≤ v.2.2.1) && decide (v.2.2.1 < (↑(List.length v.2.1) : Int)) then
 (f89
 ((List.getD v.2.1 (Int.toNat v.2.2.1)
 (0, ([], 0))).1,
 (List.getD v.2.1 (Int.toNat v.2.2.1)
 (0, ([], 0))).2.1,
 (List.getD v.2.1 (Int.toNat v.2.2.1)
 (0, ([], 0))).2.2,
 ())).bind
 fun v1 =>
 (f112_c0 (v.2.1, v.2.2.1, v.2.2.2.1, v1.1, ())).bind fun v =>
 some (v.1, v.2.1, v.2.2.1, v.2.2.2.1, v.2.2.2.2.1, ())
 else none
 else
 (f147 (v.2.1, v.2.2.1, v.2.2.2.1, v.2.2.2.2.1, ())).bind fun v =>
 some (v.2.1, v.2.2.1, v.2.2.2.1, v.2.2.2.2.1, v.1, ())
theorem h112 (f146 : T146) (f147 : T147) (f89 : T89) (f112_c0 : T112_c0) : AqF (K112 f146 f147 f89) 1 Tryz.f112 (N112 f112_c0) f112_ins f112_outs (F112 f146 f147 f89 f112_c0) := fun v => by kernel_rfl
def C112 : T112 := F112 C146 C147 C89 C112_c0
theorem ok112 : FnOk Tryz.prog 112 (E112 C112) :=
 fnx (n := (N112 C112_c0)) kok112 Tryz.func112 (by kernel_rfl) (by kernel_rfl) (ann_obs (And.intro k112_c0 trivial) (by kernel_rfl)) (fun v => by kernel_rfl) (h112 C146 C147 C89 C112_c0)
abbrev T71 := LqD × Unit → Option (LqS × LqS × Int × Bool × Unit)
def E71 (f : T71) : FEnt := ⟨f71_ins, f71_outs, f⟩
def K71 (f109 : T109) (f110 : T110) (f111 : T111) (f112 : T112) : Calls' := fun f => Ae.lookA f [(109, E109 f109), (110, E110 f110), (111, E111 f111), (112, E112 f112)]
theorem kok71 : KOk Tryz.prog (K71 C109 C110 C111 C112) := (kok_cons ok109 (kok_cons ok110 (kok_cons ok111 (kok_cons ok112 (kok_nil _)))))
def N71 : Ann := (.seq .nil (.seq .nil (.seq (.seq .nil (.blk (.unroll 9 .nil))) .nil)))
def F71 (f109 : T109) (f110 : T110) (f111 : T111) (f112 : T112) : T71 := fun (x0, _) =>
 (f109 (x0, 0, [], [], ())).bind fun v =>
 bif !v.1 then some ([], [], 0, false, ())
 else
 (f110 (v.2.1, v.2.2.1, v.2.2.2.1, v.2.2.2.2.1, ())).bind fun v =>
 bif !v.1 then some ([], [], 0, false, ())
 else
 (f109 (v.2.1, v.2.2.1, v.2.2.2.1, v.2.2.2.2.1, ())).bind fun v =>
 bif !v.1 then some ([], [], 0, false, ())
 else
 (f111 (v.2.1, v.2.2.1, v.2.2.2.1, v.2.2.2.2.1, ())).bind fun v =>
 bif !v.1 then some ([], [], 0, false, ())
 else
 (f109 (v.2.1, v.2.2.1, v.2.2.2.1, v.2.2.2.2.1, ())).bind fun v =>
 bif !v.1 then some ([], [], 0, false, ())
 else
 (f112 (v.2.1, v.2.2.1, v.2.2.2.1, v.2.2.2.2.1, ())).bind
 fun v =>
 bif !v.1 then some ([], [], 0, false, ())
 else
 (f109 (v.2.1, v.2.2.1, v.2.2.2.1, v.2.2.2.2.1, ())).bind
 fun v =>
 bif !v.1 then some ([], [], 0, false, ())
 else some (v.2.2.2.1, v.2.2.2.2.1, v.2.2.1, true, ())
theorem h71 (f109 : T109) (f110 : T110) (f111 : T111) (f112 : T112) : AqF (K71 f109 f110 f111 f112) 0 Tryz.f71 N71 f71_ins f71_outs (F71 f109 f110 f111 f112) := fun v => by kernel_rfl
def C71 : T71 := F71 C109 C110 C111 C112
theorem ok71 : FnOk Tryz.prog 71 (E71 C71) :=
 fnx (n := N71) kok71 Tryz.func71 (by kernel_rfl) (by kernel_rfl) (ann_obs trivial (by kernel_rfl)) (fun v => by kernel_rfl) (h71 C109 C110 C111 C112)
end Go.Proofs.YtiacnhhmkdkpmaaGreatDoorC.W
set_option maxRecDepth 100000
set_option linter.unusedVariables false
namespace Go.Proofs.YtiacnhhmkdkpmaaGreatDoorC.W
open Go Go.Ae
abbrev T31 := List ((LqS × (Bool × List ((LqS × LqS))))) × Unit → Option (List ((LqS × LqS)) × Unit)
def E31 (f : T31) : FEnt := ⟨f31_ins, f31_outs, f⟩
abbrev T85 := Int × Unit → Option (Bool × Unit)
def E85 (f : T85) : FEnt := ⟨f85_ins, f85_outs, f⟩
def K85 : Calls' := fun f => Ae.lookA f []
theorem kok85 : KOk Tryz.prog (K85) := (kok_nil _)
def F85 : T85 := fun (x0, _) =>
 bif x0 != 9 then bif decide (x0 < 32) then some (true, ()) else some (x0 == 127, ())
 else some (false, ())
theorem h85 : AqF (K85) 0 Tryz.f85 .nil f85_ins f85_outs (F85) := fun v => by kernel_rfl
def C85 : T85 := F85
theorem ok85 : FnOk Tryz.prog 85 (E85 C85) :=
 fnx (n := .nil) kok85 Tryz.func85 (by kernel_rfl) (by kernel_rfl) (ann_nil _) (fun v => by kernel_rfl) (h85)
abbrev T156v1_l0 := Bool × (LqS × Int) × Unit → Option ((Int × Unit) ⊕ Unit)
def E156v1_l0 (f : T156v1_l0) : LEnt := ⟨f156v1_l0_ins, f156v1_l0_outs, f⟩
abbrev T156v1 := LqS × Bool × Unit → Option (Int × Unit)
def E156v1 (f : T156v1) : FEnt := ⟨f156v1_ins, f156v1_outs, f⟩
def K156v1 (f85 : T85) : Calls' := fun f => Ae.lookA f [(85, E85 f85)]
theorem kok156v1 : KOk Tryz.prog (K156v1 C85) := (kok_cons ok85 (kok_nil _))
def F156v1_l0 (f85 : T85) : LpF (Bool × (LqS × Int) × Unit) ((Int × Unit) ⊕ Unit) := fun (x0, x1, _) =>
 bif decide (Int.toNat x1.2 < List.length x1.1) then
 (f85 ((↑(decR x1.1 (Int.toNat x1.2)).1 : Int), ())).bind fun v =>
 bif v.1 == x0 then some (Sum.inr (Sum.inl ((↑(Int.toNat x1.2) : Int), ())))
 else some (Sum.inl (x0, (x1.1, (↑(Int.toNat x1.2 + (decR x1.1 (Int.toNat x1.2)).2) : Int)), ()))
 else some (Sum.inr (Sum.inr ()))
theorem h156v1_l0 (f85 : T85) : AqL (K156v1 f85) 0 (subc (code Tryz.f156) [1, 0, 1, 0, 0]) .nil f156v1_l0_ins f156v1_l0_outs (F156v1_l0 f85) := fun v => by kernel_rfl
def C156v1_l0 : T156v1_l0 := loopN (F156v1_l0 C85) big
theorem k156v1_l0 : FragOk Tryz.prog 0 (fun Q a w => (Code.loop (subc (code Tryz.f156) [1, 0, 1, 0, 0])).wp Tryz.prog Q a w) (E156v1_l0 C156v1_l0) :=
 frag_big (ins := f156v1_l0_ins) (os := f156v1_l0_outs) (C := C156v1_l0) (frag_loop (ins := f156v1_l0_ins) (os := f156v1_l0_outs) (n := .nil) (F := F156v1_l0 C85) hm hΓ kok156v1 (fun _ => big) (ann_nil _) (h156v1_l0 C85)) rfl
def N156v1 (f156v1_l0 : T156v1_l0) : Ann := (.seq .nil (.seq (.seq .nil (.blk (.loop (E156v1_l0 f156v1_l0)))) .nil))
def F156v1 (f85 : T85) (f156v1_l0 : T156v1_l0) : T156v1 := fun (x0, x1, _) =>
 (f156v1_l0 (x1, (x0, (↑0 : Int)), ())).bind fun v =>
 Sum.elim (fun v => some (v.1, ())) (fun v => some (-1, ())) v
theorem h156v1 (f85 : T85) (f156v1_l0 : T156v1_l0) : AqF (K156v1 f85) 0 Tryz.f156 (N156v1 f156v1_l0) f156v1_ins f156v1_outs (F156v1 f85 f156v1_l0) := fun v => by kernel_rfl
def C156v1 : T156v1 := F156v1 C85 C156v1_l0
theorem ok156v1 : FnOk Tryz.prog 156 (E156v1 C156v1) :=
 fnx (n := (N156v1 C156v1_l0)) kok156v1 Tryz.func156 (by kernel_rfl) (by kernel_rfl) (ann_obs (And.intro k156v1_l0 trivial) (by kernel_rfl)) (fun v => by kernel_rfl) (h156v1 C85 C156v1_l0)
abbrev T123v1 := LqS × Unit → Option (Int × Unit)
def E123v1 (f : T123v1) : FEnt := ⟨f123v1_ins, f123v1_outs, f⟩
def K123v1 (f156v1 : T156v1) : Calls' := fun f => Ae.lookA f [(156, E156v1 f156v1)]
theorem kok123v1 : KOk Tryz.prog (K123v1 C156v1) := (kok_cons ok156v1 (kok_nil _))
def F123v1 (f156v1 : T156v1) : T123v1 := fun (x0, _) =>
 (f156v1 (x0, true, ())).bind fun v => some (v.1, ())
theorem h123v1 (f156v1 : T156v1) : AqF (K123v1 f156v1) 0 Tryz.f123 .nil f123v1_ins f123v1_outs (F123v1 f156v1) := fun v => by kernel_rfl
def C123v1 : T123v1 := F123v1 C156v1
theorem ok123v1 : FnOk Tryz.prog 123 (E123v1 C123v1) :=
 fnx (n := .nil) kok123v1 Tryz.func123 (by kernel_rfl) (by kernel_rfl) (ann_nil _) (fun v => by kernel_rfl) (h123v1 C156v1)
abbrev T84v1 := LqS × Unit → Option (Bool × Unit)
def E84v1 (f : T84v1) : FEnt := ⟨f84v1_ins, f84v1_outs, f⟩
def K84v1 (f123v1 : T123v1) : Calls' := fun f => Ae.lookA f [(123, E123v1 f123v1)]
theorem kok84v1 : KOk Tryz.prog (K84v1 C123v1) := (kok_cons ok123v1 (kok_nil _))
def F84v1 (f123v1 : T123v1) : T84v1 := fun (x0, _) =>
 (f123v1 (x0, ())).bind fun v => some (decide (v.1 ≥ 0), ())
theorem h84v1 (f123v1 : T123v1) : AqF (K84v1 f123v1) 0 Tryz.f84 .nil f84v1_ins f84v1_outs (F84v1 f123v1) := fun v => by kernel_rfl
def C84v1 : T84v1 := F84v1 C123v1
theorem ok84v1 : FnOk Tryz.prog 84 (E84v1 C84v1) :=
 fnx (n := .nil) kok84v1 Tryz.func84 (by kernel_rfl) (by kernel_rfl) (ann_nil _) (fun v => by kernel_rfl) (h84v1 C123v1)
abbrev T86 := LqS × Unit → Option (Bool × Unit)
def E86 (f : T86) : FEnt := ⟨f86_ins, f86_outs, f⟩
def K86 (f96 : T96) : Calls' := fun f => Ae.lookA f [(96, E96 f96)]
theorem kok86 : KOk Tryz.prog (K86 C96) := (kok_cons ok96 (kok_nil _))
def F86 (f96 : T96) : T86 := fun (x0, _) =>
 (f96 (x0, [91], ())).bind fun v => some (v.1, ())
theorem h86 (f96 : T96) : AqF (K86 f96) 0 Tryz.f86 .nil f86_ins f86_outs (F86 f96) := fun v => by kernel_rfl
def C86 : T86 := F86 C96
theorem ok86 : FnOk Tryz.prog 86 (E86 C86) :=
 fnx (n := .nil) kok86 Tryz.func86 (by kernel_rfl) (by kernel_rfl) (ann_nil _) (fun v => by kernel_rfl) (h86 C96)
abbrev T87 := LqA × LqB × LqC × LqS × Unit → Option (LqS × Int × Unit)
def E87 (f : T87) : FEnt := ⟨f87_ins, f87_outs, f⟩
def K87 (f124 : T124) : Calls' := fun f => Ae.lookA f [(124, E124 f124)]
theorem kok87 : KOk Tryz.prog (K87 C124) := (kok_cons ok124 (kok_nil _))
def F87 (f124 : T124) : T87 := fun (x0, x1, x2, x3, _) =>
 (f124 (x0, x1, x2, x3, ())).bind fun v => some (v.1, v.2.2.1, ())
theorem h87 (f124 : T124) : AqF (K87 f124) 0 Tryz.f87 .nil f87_ins f87_outs (F87 f124) := fun v => by kernel_rfl
def C87 : T87 := F87 C124
theorem ok87 : FnOk Tryz.prog 87 (E87 C87) :=
 fnx (n := .nil) kok87 Tryz.func87 (by kernel_rfl) (by kernel_rfl) (ann_nil _) (fun v => by kernel_rfl) (h87 C124)
abbrev T44 := LqA × LqB × LqC × LqS × LqS × Unit → Option (Int × Unit)
def E44 (f : T44) : FEnt := ⟨f44_ins, f44_outs, f⟩
def K44 (f67 : T67) (f83 : T83) (f84v1 : T84v1) (f86 : T86) (f87 : T87) : Calls' := fun f => Ae.lookA f [(67, E67 f67), (83, E83 f83), (84, E84v1 f84v1), (86, E86 f86), (87, E87 f87)]
theorem kok44 : KOk Tryz.prog (K44 C67 C83 C84v1 C86 C87) := (kok_cons ok67 (kok_cons ok83 (kok_cons ok84v1 (kok_cons ok86 (kok_cons ok87 (kok_nil _))))))
def F44 (f67 : T67) (f83 : T83) (f84v1 : T84v1) (f86 : T86) (f87 : T87) : T44 := fun (x0, x1, x2, x3, x4, _) =>
 (f83 (x3, ())).bind fun v =>
 bif x3 == [] then some (13, ())
 else
 bif decide ((↑x3.length : Int) > 64) then some (5, ())
 else
 bif decide (v.2.1 ≥ 0) then some (7, ())
 else
 (f84v1 (x3, ())).bind fun v =>
 bif v.1 then some (8, ())
 else
 (f86 (x4, ())).bind fun v =>
 bif v.1 then
 (f67 (x4, ())).bind fun v =>
 bif v.2.2.1 != 0 then some (4, ())
 else
 bif (↑(List.length v.1) : Int) != 1 then some (4, ())
 else
 bif decide (0 < (↑(List.length v.1) : Int)) then
 bif
 (List.getD v.1 0
 (0, ([], 0))).1 !=
 5 then
 some (4, ())
 else some (0, ())
 else none
 else (f87 (x0, x1, x2, x4, ())).bind fun v => some (v.2.1, ())
theorem h44 (f67 : T67) (f83 : T83) (f84v1 : T84v1) (f86 : T86) (f87 : T87) : AqF (K44 f67 f83 f84v1 f86 f87) 0 Tryz.f44 .nil f44_ins f44_outs (F44 f67 f83 f84v1 f86 f87) := fun v => by kernel_rfl
def C44 : T44 := F44 C67 C83 C84v1 C86 C87
theorem ok44 : FnOk Tryz.prog 44 (E44 C44) :=
 fnx (n := .nil) kok44 Tryz.func44 (by kernel_rfl) (by kernel_rfl) (ann_nil _) (fun v => by kernel_rfl) (h44 C67 C83 C84v1 C86 C87)
abbrev T30 := LqA × LqB × LqC × LqS × Unit → Option (List ((LqS × (Bool × List ((LqS × LqS))))) × Int × Unit)
def E30 (f : T30) : FEnt := ⟨f30_ins, f30_outs, f⟩
abbrev T227_l0 := Int × (LqS × Int) × Unit → Option (Int × Unit)
def E227_l0 (f : T227_l0) : LEnt := ⟨f227_l0_ins, f227_l0_outs, f⟩
abbrev T227 := LqS × Unit → Option (Int × Unit)
def E227 (f : T227) : FEnt := ⟨f227_ins, f227_outs, f⟩
def K227 : Calls' := fun f => Ae.lookA f []
theorem kok227 : KOk Tryz.prog (K227) := (kok_nil _)
def F227_l0 : LpF (Int × (LqS × Int) × Unit) (Int × Unit) := fun (x0, x1, _) =>
 bif decide (Int.toNat x1.2 < List.length x1.1) then
 some
 (Sum.inl
 (IntKind.i64.wrap (x0 + 1), (x1.1, (↑(Int.toNat x1.2 + (decR x1.1 (Int.toNat x1.2)).2) : Int)),
 ()))
 else some (Sum.inr (x0, ()))
theorem h227_l0 : AqL (K227) 0 (subc (code Tryz.f227) [1, 0, 1, 0, 0]) .nil f227_l0_ins f227_l0_outs (F227_l0) := fun v => by kernel_rfl
def C227_l0 : T227_l0 := loopN (F227_l0) big
theorem k227_l0 : FragOk Tryz.prog 0 (fun Q a w => (Code.loop (subc (code Tryz.f227) [1, 0, 1, 0, 0])).wp Tryz.prog Q a w) (E227_l0 C227_l0) :=
 frag_big (ins := f227_l0_ins) (os := f227_l0_outs) (C := C227_l0) (frag_loop (ins := f227_l0_ins) (os := f227_l0_outs) (n := .nil) (F := F227_l0) hm hΓ kok227 (fun _ => big) (ann_nil _) (h227_l0)) rfl
def N227 (f227_l0 : T227_l0) : Ann := (.seq .nil (.seq (.seq .nil (.blk (.loop (E227_l0 f227_l0)))) .nil))
def F227 (f227_l0 : T227_l0) : T227 := fun (x0, _) =>
 (f227_l0 (0, (x0, (↑0 : Int)), ())).bind fun v => some (v.1, ())
theorem h227 (f227_l0 : T227_l0) : AqF (K227) 0 Tryz.f227 (N227 f227_l0) f227_ins f227_outs (F227 f227_l0) := fun v => by kernel_rfl
def C227 : T227 := F227 C227_l0
theorem ok227 : FnOk Tryz.prog 227 (E227 C227) :=
 fnx (n := (N227 C227_l0)) kok227 Tryz.func227 (by kernel_rfl) (by kernel_rfl) (ann_obs (And.intro k227_l0 trivial) (by kernel_rfl)) (fun v => by kernel_rfl) (h227 C227_l0)
abbrev T273 := LqS × Unit → Option (Int × Int × Unit)
def E273 (f : T273) : FEnt := ⟨f273_ins, f273_outs, f⟩
def K273 : Calls' := fun f => Ae.lookA f []
theorem kok273 : KOk Tryz.prog (K273) := (kok_nil _)
def F273 : T273 := fun (x0, _) =>
 bif decide ((↑x0.length : Int) < 1) then some (65533, 0, ())
 else bif decide (0 < (↑x0.length : Int)) then none else none
theorem h273 : AqF (K273) 0 Tryz.f273 .nil f273_ins f273_outs (F273) := fun v => by kernel_rfl
def C273 : T273 := F273
theorem ok273 : FnOk Tryz.prog 273 (E273 C273) :=
 fnx (n := .nil) kok273 Tryz.func273 (by kernel_rfl) (by kernel_rfl) (ann_nil _) (fun v => by kernel_rfl) (h273)
abbrev T228_c0 := LqS × Bool × Unit → Option ((Int × Int × Unit) ⊕ (Int × Int × Unit))
def E228_c0 (f : T228_c0) : LEnt := ⟨f228_c0_ins, f228_c0_outs, f⟩
abbrev T228 := LqS × Unit → Option (Int × Int × Unit)
def E228 (f : T228) : FEnt := ⟨f228_ins, f228_outs, f⟩
def K228 (f273 : T273) : Calls' := fun f => Ae.lookA f [(273, E273 f273)]
theorem kok228 : KOk Tryz.prog (K228 C273) := (kok_cons ok273 (kok_nil _))
def F228_c0 (f273 : T273) : T228_c0 := fun (x0, x1, _) =>
 bif x1 then
 bif decide (0 < (↑x0.length : Int)) then
 some (Sum.inl (IntKind.i32.wrap (↑(x0.getD 0 0).toNat : Int), 1, ()))
 else none
 else (f273 (x0, ())).bind fun v => some (Sum.inr (v.1, v.2.1, ()))
theorem h228_c0 (f273 : T273) : AqC (K228 f273) 0 (subc (code Tryz.f228) [1, 0, 1]) .nil f228_c0_ins f228_c0_outs (F228_c0 f273) := fun v => by kernel_rfl
def C228_c0 : T228_c0 := F228_c0 C273
theorem k228_c0 : FragOk Tryz.prog 0 (fun Q a w => (subc (code Tryz.f228) [1, 0, 1]).wp Tryz.prog Q a w) (E228_c0 C228_c0) :=
 frag_code (ins := f228_c0_ins) (os := f228_c0_outs) (n := .nil) (F := C228_c0) hm hΓ kok228 (ann_nil _) (h228_c0 C273)
def N228 (f228_c0 : T228_c0) : Ann := (.seq .nil (.seq (.cut .nil (E228_c0 f228_c0)) .nil))
def F228 (f273 : T273) (f228_c0 : T228_c0) : T228 := fun (x0, _) =>
 bif !x0 == [] then
 bif decide (0 < (↑x0.length : Int)) then
 (f228_c0 (x0, decide ((↑(x0.getD 0 0).toNat : Int) < 128), ())).bind fun v =>
 Sum.elim (fun v => some (v.1, v.2.1, ())) (fun v => some (v.1, v.2.1, ()))
 v
 else none
 else
 (f228_c0 (x0, false, ())).bind fun v =>
 Sum.elim (fun v => some (v.1, v.2.1, ())) (fun v => some (v.1, v.2.1, ()))
 v
theorem h228 (f273 : T273) (f228_c0 : T228_c0) : AqF (K228 f273) 0 Tryz.f228 (N228 f228_c0) f228_ins f228_outs (F228 f273 f228_c0) := fun v => by kernel_rfl
def C228 : T228 := F228 C273 C228_c0
theorem ok228 : FnOk Tryz.prog 228 (E228 C228) :=
 fnx (n := (N228 C228_c0)) kok228 Tryz.func228 (by kernel_rfl) (by kernel_rfl) (ann_obs (And.intro k228_c0 trivial) (by kernel_rfl)) (fun v => by kernel_rfl) (h228 C273 C228_c0)
abbrev T193_l0 := LqS × Int × Int × List (LqS) × Unit → Option (LqS × Int × List (LqS) × Unit)
def E193_l0 (f : T193_l0) : LEnt := ⟨f193_l0_ins, f193_l0_outs, f⟩
abbrev T193_c0 := LqS × Int × Unit → Option (List (LqS) × Unit)
def E193_c0 (f : T193_c0) : LEnt := ⟨f193_c0_ins, f193_c0_outs, f⟩
abbrev T193 := LqS × Int × Unit → Option (List (LqS) × Unit)
def E193 (f : T193) : FEnt := ⟨f193_ins, f193_outs, f⟩
def K193 (f227 : T227) (f228 : T228) : Calls' := fun f => Ae.lookA f [(227, E227 f227), (228, E228 f228)]
theorem kok193 : KOk Tryz.prog (K193 C227 C228) := (kok_cons ok227 (kok_cons ok228 (kok_nil _)))
def F193_l0 (f227 : T227) (f228 : T228) : LpF (LqS × Int × Int × List (LqS) × Unit) (LqS × Int × List (LqS) × Unit) := fun (x0, x1, x2, x3, _) =>
 bif decide (x2 < IntKind.i64.wrap (x1 - 1)) then
 (f228 (x0, ())).bind fun v =>
 bif decide (0 ≤ v.2.1) && decide (v.2.1 ≤ (↑x0.length : Int)) then
 bif decide (0 ≤ x2) && decide (x2 < (↑x3.length : Int)) then
 bif decide (0 ≤ v.2.1) && decide (v.2.1 ≤ (↑x0.length : Int)) then
 some
 (Sum.inl
 (List.drop (Int.toNat v.2.1) x0, x1, IntKind.i64.wrap (x2 + 1),
 x3.set x2.toNat (List.take (Int.toNat v.2.1) x0), ()))
 else none
 else none
 else none
 else some (Sum.inr (x0, x1, x3, ()))
theorem h193_l0 (f227 : T227) (f228 : T228) : AqL (K193 f227 f228) 0 (subc (code Tryz.f193) [1, 1, 1, 1, 0, 1, 0, 0]) .nil f193_l0_ins f193_l0_outs (F193_l0 f227 f228) := fun v => by kernel_rfl
def C193_l0 : T193_l0 := loopN (F193_l0 C227 C228) big
theorem k193_l0 : FragOk Tryz.prog 0 (fun Q a w => (Code.loop (subc (code Tryz.f193) [1, 1, 1, 1, 0, 1, 0, 0])).wp Tryz.prog Q a w) (E193_l0 C193_l0) :=
 frag_big (ins := f193_l0_ins) (os := f193_l0_outs) (C := C193_l0) (frag_loop (ins := f193_l0_ins) (os := f193_l0_outs) (n := .nil) (F := F193_l0 C227 C228) hm hΓ kok193 (fun _ => big) (ann_nil _) (h193_l0 C227 C228)) rfl
def N193_c0 (f193_l0 : T193_l0) : Ann := (.seq .nil (.seq (.seq .nil (.blk (.loop (E193_l0 f193_l0)))) .nil))
def F193_c0 (f227 : T227) (f228 : T228) (f193_l0 : T193_l0) : T193_c0 := fun (x0, x1, _) =>
 bif
 decide (0 ≤ x1) &&
 (decide (x1 = x1) && (decide ((↑16 : Int) * x1 ≤ 281474976710656) && decide (x1 ≤ 140737488355328))) then
 (f193_l0 (x0, x1, 0, List.replicate x1.toNat [], ())).bind fun v =>
 bif decide (v.2.1 > 0) then
 bif
 decide (0 ≤ IntKind.i64.wrap (v.2.1 - 1)) &&
 decide (IntKind.i64.wrap (v.2.1 - 1) < (↑(List.length v.2.2.1) : Int)) then
 some (List.set v.2.2.1 (IntKind.i64.wrap (v.2.1 - 1)).toNat v.1, ())
 else none
 else some (v.2.2.1, ())
 else none
theorem h193_c0 (f227 : T227) (f228 : T228) (f193_l0 : T193_l0) : AqC (K193 f227 f228) 0 (subc (code Tryz.f193) [1, 1, 1]) (N193_c0 f193_l0) f193_c0_ins f193_c0_outs (F193_c0 f227 f228 f193_l0) := fun v => by kernel_rfl
def C193_c0 : T193_c0 := F193_c0 C227 C228 C193_l0
theorem k193_c0 : FragOk Tryz.prog 0 (fun Q a w => (subc (code Tryz.f193) [1, 1, 1]).wp Tryz.prog Q a w) (E193_c0 C193_c0) :=
 frag_code (ins := f193_c0_ins) (os := f193_c0_outs) (n := (N193_c0 C193_l0)) (F := C193_c0) hm hΓ kok193 (ann_obs (And.intro k193_l0 trivial) (by kernel_rfl)) (h193_c0 C227 C228 C193_l0)
def N193 (f193_c0 : T193_c0) : Ann := (.seq .nil (.seq .nil (.cut .nil (E193_c0 f193_c0))))
def F193 (f227 : T227) (f228 : T228) (f193_c0 : T193_c0) : T193 := fun (x0, x1, _) =>
 (f227 (x0, ())).bind fun v =>
 bif decide (x1 < 0) then (f193_c0 (x0, v.1, ())).bind fun v => some (v.1, ())
 else
 bif decide (x1 > v.1) then (f193_c0 (x0, v.1, ())).bind fun v => some (v.1, ())
 else (f193_c0 (x0, x1, ())).bind fun v => some (v.1, ())
theorem h193 (f227 : T227) (f228 : T228) (f193_c0 : T193_c0) : AqF (K193 f227 f228) 0 Tryz.f193 (N193 f193_c0) f193_ins f193_outs (F193 f227 f228 f193_c0) := fun v => by kernel_rfl
def C193 : T193 := F193 C227 C228 C193_c0
theorem ok193 : FnOk Tryz.prog 193 (E193 C193) :=
 fnx (n := (N193 C193_c0)) kok193 Tryz.func193 (by kernel_rfl) (by kernel_rfl) (ann_obs (And.intro k193_c0 trivial) (by kernel_rfl)) (fun v => by kernel_rfl) (h193 C227 C228 C193_c0)
abbrev T195 := LqS × LqS × Unit → Option (Int × Unit)
def E195 (f : T195) : FEnt := ⟨f195_ins, f195_outs, f⟩
def K195 (f197 : T197) : Calls' := fun f => Ae.lookA f [(197, E197 f197)]
theorem kok195 : KOk Tryz.prog (K195 C197) := (kok_cons ok197 (kok_nil _))
def F195 (f197 : T197) : T195 := fun (x0, x1, _) =>
 (f197 (x0, x1, ())).bind fun v => some (v.1, ())
theorem h195 (f197 : T197) : AqF (K195 f197) 0 Tryz.f195 .nil f195_ins f195_outs (F195 f197) := fun v => by kernel_rfl
def C195 : T195 := F195 C197
theorem ok195 : FnOk Tryz.prog 195 (E195 C195) :=
 fnx (n := .nil) kok195 Tryz.func195 (by kernel_rfl) (by kernel_rfl) (ann_nil _) (fun v => by kernel_rfl) (h195 C197)
end Go.Proofs.YtiacnhhmkdkpmaaGreatDoorC.W
set_option maxRecDepth 100000
set_option linter.unusedVariables false
namespace Go.Proofs.YtiacnhhmkdkpmaaGreatDoorC.W
open Go Go.Ae
abbrev T194_l0 := LqS × LqS × Int × Unit → Option (Int × Unit)
def E194_l0 (f : T194_l0) : LEnt := ⟨f194_l0_ins, f194_l0_outs, f⟩
abbrev T194 := LqS × LqS × Unit → Option (Int × Unit)
def E194 (f : T194) : FEnt := ⟨f194_ins, f194_outs, f⟩
def K194 (f195 : T195) (f227 : T227) (f229 : T229) : Calls' := fun f => Ae.lookA f [(195, E195 f195), (227, E227 f227), (229, E229 f229)]
theorem kok194 : KOk Tryz.prog (K194 C195 C227 C229) := (kok_cons ok195 (kok_cons ok227 (kok_cons ok229 (kok_nil _))))
def F194_l0 (f195 : T195) (f227 : T227) (f229 : T229) : LpF (LqS × LqS × Int × Unit) (Int × Unit) := fun (x0, x1, x2, _) =>
 (f195 (x0, x1, ())).bind fun v =>
 bif v.1 == -1 then some (Sum.inr (x2, ()))
 else
 bif
 decide (0 ≤ IntKind.i64.wrap (v.1 + (↑x1.length : Int))) &&
 decide (IntKind.i64.wrap (v.1 + (↑x1.length : Int)) ≤ (↑x0.length : Int)) then
 some
 (Sum.inl
 (List.drop (IntKind.i64.wrap (v.1 + (↑x1.length : Int))).toNat x0, x1, IntKind.i64.wrap (x2 + 1),
 ()))
 else none
theorem h194_l0 (f195 : T195) (f227 : T227) (f229 : T229) : AqL (K194 f195 f227 f229) 0 (subc (code Tryz.f194) [1, 1, 1, 1, 0, 0]) .nil f194_l0_ins f194_l0_outs (F194_l0 f195 f227 f229) := fun v => by kernel_rfl
def C194_l0 : T194_l0 := loopN (F194_l0 C195 C227 C229) big
theorem k194_l0 : FragOk Tryz.prog 0 (fun Q a w => (Code.loop (subc (code Tryz.f194) [1, 1, 1, 1, 0, 0])).wp Tryz.prog Q a w) (E194_l0 C194_l0) :=
 frag_big (ins := f194_l0_ins) (os := f194_l0_outs) (C := C194_l0) (frag_loop (ins := f194_l0_ins) (os := f194_l0_outs) (n := .nil) (F := F194_l0 C195 C227 C229) hm hΓ kok194 (fun _ => big) (ann_nil _) (h194_l0 C195 C227 C229)) rfl
def N194 (f194_l0 : T194_l0) : Ann := (.seq .nil (.seq .nil (.seq .nil (.seq .nil (.blk (.loop (E194_l0 f194_l0)))))))
def F194 (f195 : T195) (f227 : T227) (f229 : T229) (f194_l0 : T194_l0) : T194 := fun (x0, x1, _) =>
 bif (↑x1.length : Int) == 0 then (f227 (x0, ())).bind fun v => some (IntKind.i64.wrap (v.1 + 1), ())
 else
 bif (↑x1.length : Int) == 1 then
 bif decide (0 < (↑x1.length : Int)) then
 (f229 (x0, (↑(x1.getD 0 0).toNat : Int), ())).bind fun v => some (v.1, ())
 else none
 else (f194_l0 (x0, x1, 0, ())).bind fun v => some (v.1, ())
theorem h194 (f195 : T195) (f227 : T227) (f229 : T229) (f194_l0 : T194_l0) : AqF (K194 f195 f227 f229) 0 Tryz.f194 (N194 f194_l0) f194_ins f194_outs (F194 f195 f227 f229 f194_l0) := fun v => by kernel_rfl
def C194 : T194 := F194 C195 C227 C229 C194_l0
theorem ok194 : FnOk Tryz.prog 194 (E194 C194) :=
 fnx (n := (N194 C194_l0)) kok194 Tryz.func194 (by kernel_rfl) (by kernel_rfl) (ann_obs (And.intro k194_l0 trivial) (by kernel_rfl)) (fun v => by kernel_rfl) (h194 C195 C227 C229 C194_l0)
abbrev T161_l0 := LqS × LqS × Int × Int × Int × List (LqS) × Unit → Option (LqS × Int × List (LqS) × Unit)
def E161_l0 (f : T161_l0) : LEnt := ⟨f161_l0_ins, f161_l0_outs, f⟩
abbrev T161_c0 := LqS × LqS × Int × Int × Unit → Option (List (LqS) × Unit)
def E161_c0 (f : T161_c0) : LEnt := ⟨f161_c0_ins, f161_c0_outs, f⟩
abbrev T161 := LqS × LqS × Int × Int × Unit → Option (List (LqS) × Unit)
def E161 (f : T161) : FEnt := ⟨f161_ins, f161_outs, f⟩
def K161 (f193 : T193) (f194 : T194) (f195 : T195) : Calls' := fun f => Ae.lookA f [(193, E193 f193), (194, E194 f194), (195, E195 f195)]
theorem kok161 : KOk Tryz.prog (K161 C193 C194 C195) := (kok_cons ok193 (kok_cons ok194 (kok_cons ok195 (kok_nil _))))
def F161_l0 (f193 : T193) (f194 : T194) (f195 : T195) : LpF (LqS × LqS × Int × Int × Int × List (LqS) × Unit) (LqS × Int × List (LqS) × Unit) := fun (x0, x1, x2, x3, x4, x5, _) =>
 bif decide (x4 < x3) then
 (f195 (x0, x1, ())).bind fun v =>
 bif decide (v.1 < 0) then some (Sum.inr (x0, x4, x5, ()))
 else
 bif
 decide (0 ≤ IntKind.i64.wrap (v.1 + x2)) &&
 decide (IntKind.i64.wrap (v.1 + x2) ≤ (↑x0.length : Int)) then
 bif decide (0 ≤ x4) && decide (x4 < (↑x5.length : Int)) then
 bif
 decide (0 ≤ IntKind.i64.wrap (v.1 + (↑x1.length : Int))) &&
 decide (IntKind.i64.wrap (v.1 + (↑x1.length : Int)) ≤ (↑x0.length : Int)) then
 some
 (Sum.inl
 (List.drop (IntKind.i64.wrap (v.1 + (↑x1.length : Int))).toNat x0, x1, x2, x3,
 IntKind.i64.wrap (x4 + 1), x5.set x4.toNat (List.take (IntKind.i64.wrap (v.1 + x2)).toNat x0),
 ()))
 else none
 else none
 else none
 else some (Sum.inr (x0, x4, x5, ()))
theorem h161_l0 (f193 : T193) (f194 : T194) (f195 : T195) : AqL (K161 f193 f194 f195) 0 (subc (code Tryz.f161) [1, 1, 1, 1, 1, 1, 1, 1, 0, 0, 0]) .nil f161_l0_ins f161_l0_outs (F161_l0 f193 f194 f195) := fun v => by kernel_rfl
def C161_l0 : T161_l0 := loopN (F161_l0 C193 C194 C195) big
theorem k161_l0 : FragOk Tryz.prog 0 (fun Q a w => (Code.loop (subc (code Tryz.f161) [1, 1, 1, 1, 1, 1, 1, 1, 0, 0, 0])).wp Tryz.prog Q a w) (E161_l0 C161_l0) :=
 frag_big (ins := f161_l0_ins) (os := f161_l0_outs) (C := C161_l0) (frag_loop (ins := f161_l0_ins) (os := f161_l0_outs) (n := .nil) (F := F161_l0 C193 C194 C195) hm hΓ kok161 (fun _ => big) (ann_nil _) (h161_l0 C193 C194 C195)) rfl
def N161_c0 (f161_l0 : T161_l0) : Ann := (.seq .nil (.seq .nil (.seq .nil (.seq .nil (.seq (.blk (.loop (E161_l0 f161_l0))) .nil)))))
def F161_c0 (f193 : T193) (f194 : T194) (f195 : T195) (f161_l0 : T161_l0) : T161_c0 := fun (x0, x1, x2, x3, _) =>
 bif
 decide
 (0 ≤
 if IntKind.i64.wrap ((↑x0.length : Int) + 1) < x3 then IntKind.i64.wrap ((↑x0.length : Int) + 1) else x3) &&
 (decide
 ((if IntKind.i64.wrap ((↑x0.length : Int) + 1) < x3 then IntKind.i64.wrap ((↑x0.length : Int) + 1) else x3) =
 if IntKind.i64.wrap ((↑x0.length : Int) + 1) < x3 then IntKind.i64.wrap ((↑x0.length : Int) + 1) else x3) &&
 (decide
 (((↑16 : Int) *
 if IntKind.i64.wrap ((↑x0.length : Int) + 1) < x3 then IntKind.i64.wrap ((↑x0.length : Int) + 1)
 else x3) ≤
 281474976710656) &&
 decide
 ((if IntKind.i64.wrap ((↑x0.length : Int) + 1) < x3 then IntKind.i64.wrap ((↑x0.length : Int) + 1)
 else x3) ≤
 140737488355328))) then
 (f161_l0
 (x0, x1, x2,
 IntKind.i64.wrap
 ((if IntKind.i64.wrap ((↑x0.length : Int) + 1) < x3 then IntKind.i64.wrap ((↑x0.length : Int) + 1)
 else x3) -
 1),
 0,
 List.replicate
 (if IntKind.i64.wrap ((↑x0.length : Int) + 1) < x3 then IntKind.i64.wrap ((↑x0.length : Int) + 1)
 else x3).toNat
 [],
 ())).bind
 fun v =>
 bif decide (0 ≤ v.2.1) && decide (v.2.1 < (↑(List.length v.2.2.1) : Int)) then
 bif
 decide (0 ≤ IntKind.i64.wrap (v.2.1 + 1)) &&
 decide
 (IntKind.i64.wrap (v.2.1 + 1) ≤
 (↑(List.set v.2.2.1 (Int.toNat v.2.1) v.1).length : Int)) then
 some
 (List.take (IntKind.i64.wrap (v.2.1 + 1)).toNat
 (List.set v.2.2.1 (Int.toNat v.2.1) v.1),
 ())
 else none
 else none
 else none
theorem h161_c0 (f193 : T193) (f194 : T194) (f195 : T195) (f161_l0 : T161_l0) : AqC (K161 f193 f194 f195) 0 (subc (code Tryz.f161) [1, 1, 1, 1]) (N161_c0 f161_l0) f161_c0_ins f161_c0_outs (F161_c0 f193 f194 f195 f161_l0) := fun v => by kernel_rfl
def C161_c0 : T161_c0 := F161_c0 C193 C194 C195 C161_l0
theorem k161_c0 : FragOk Tryz.prog 0 (fun Q a w => (subc (code Tryz.f161) [1, 1, 1, 1]).wp Tryz.prog Q a w) (E161_c0 C161_c0) :=
 frag_code (ins := f161_c0_ins) (os := f161_c0_outs) (n := (N161_c0 C161_l0)) (F := C161_c0) hm hΓ kok161 (ann_obs (And.intro k161_l0 trivial) (by kernel_rfl)) (h161_c0 C193 C194 C195 C161_l0)
def N161 (f161_c0 : T161_c0) : Ann := (.seq .nil (.seq .nil (.seq .nil (.cut .nil (E161_c0 f161_c0)))))
def F161 (f193 : T193) (f194 : T194) (f195 : T195) (f161_c0 : T161_c0) : T161 := fun (x0, x1, x2, x3, _) =>
 bif x3 == 0 then some ([], ())
 else
 bif x1 == [] then (f193 (x0, x3, ())).bind fun v => some (v.1, ())
 else
 bif decide (x3 < 0) then
 (f194 (x0, x1, ())).bind fun v =>
 (f161_c0 (x0, x1, x2, IntKind.i64.wrap (v.1 + 1), ())).bind fun v => some (v.1, ())
 else (f161_c0 (x0, x1, x2, x3, ())).bind fun v => some (v.1, ())
theorem h161 (f193 : T193) (f194 : T194) (f195 : T195) (f161_c0 : T161_c0) : AqF (K161 f193 f194 f195) 0 Tryz.f161 (N161 f161_c0) f161_ins f161_outs (F161 f193 f194 f195 f161_c0) := fun v => by kernel_rfl
def C161 : T161 := F161 C193 C194 C195 C161_c0
theorem ok161 : FnOk Tryz.prog 161 (E161 C161) :=
 fnx (n := (N161 C161_c0)) kok161 Tryz.func161 (by kernel_rfl) (by kernel_rfl) (ann_obs (And.intro k161_c0 trivial) (by kernel_rfl)) (fun v => by kernel_rfl) (h161 C193 C194 C195 C161_c0)
abbrev T125 := LqS × LqS × Unit → Option (List (LqS) × Unit)
def E125 (f : T125) : FEnt := ⟨f125_ins, f125_outs, f⟩
def K125 (f161 : T161) : Calls' := fun f => Ae.lookA f [(161, E161 f161)]
theorem kok125 : KOk Tryz.prog (K125 C161) := (kok_cons ok161 (kok_nil _))
def F125 (f161 : T161) : T125 := fun (x0, x1, _) =>
 (f161 (x0, x1, 0, -1, ())).bind fun v => some (v.1, ())
theorem h125 (f161 : T161) : AqF (K125 f161) 0 Tryz.f125 .nil f125_ins f125_outs (F125 f161) := fun v => by kernel_rfl
def C125 : T125 := F125 C161
theorem ok125 : FnOk Tryz.prog 125 (E125 C125) :=
 fnx (n := .nil) kok125 Tryz.func125 (by kernel_rfl) (by kernel_rfl) (ann_nil _) (fun v => by kernel_rfl) (h125 C161)
abbrev T47_l0 := LqS × Int × Int × Unit → Option ((LqS × Unit) ⊕ (Bool × Unit))
def E47_l0 (f : T47_l0) : LEnt := ⟨f47_l0_ins, f47_l0_outs, f⟩
abbrev T47 := LqS × Unit → Option (Bool × Unit)
def E47 (f : T47) : FEnt := ⟨f47_ins, f47_outs, f⟩
def K47 (f90 : T90) : Calls' := fun f => Ae.lookA f [(90, E90 f90)]
theorem kok47 : KOk Tryz.prog (K47 C90) := (kok_cons ok90 (kok_nil _))
def F47_l0 (f90 : T90) : LpF (LqS × Int × Int × Unit) ((LqS × Unit) ⊕ (Bool × Unit)) := fun (x0, x1, x2, _) =>
 bif decide (x2 < x1) then
 bif decide (0 ≤ x2) && decide (x2 < (↑x0.length : Int)) then
 (f90 ((↑(x0.getD x2.toNat 0).toNat : Int), ())).bind fun v =>
 bif !v.1 then some (Sum.inr (Sum.inr (false, ())))
 else some (Sum.inl (x0, x1, IntKind.i64.wrap (x2 + 1), ()))
 else none
 else some (Sum.inr (Sum.inl (x0, ())))
theorem h47_l0 (f90 : T90) : AqL (K47 f90) 0 (subc (code Tryz.f47) [1, 0, 1, 0, 0]) .nil f47_l0_ins f47_l0_outs (F47_l0 f90) := fun v => by kernel_rfl
def C47_l0 : T47_l0 := loopN (F47_l0 C90) big
theorem k47_l0 : FragOk Tryz.prog 0 (fun Q a w => (Code.loop (subc (code Tryz.f47) [1, 0, 1, 0, 0])).wp Tryz.prog Q a w) (E47_l0 C47_l0) :=
 frag_big (ins := f47_l0_ins) (os := f47_l0_outs) (C := C47_l0) (frag_loop (ins := f47_l0_ins) (os := f47_l0_outs) (n := .nil) (F := F47_l0 C90) hm hΓ kok47 (fun _ => big) (ann_nil _) (h47_l0 C90)) rfl
def N47 (f47_l0 : T47_l0) : Ann := (.seq .nil (.seq (.seq .nil (.blk (.loop (E47_l0 f47_l0)))) .nil))
def F47 (f90 : T90) (f47_l0 : T47_l0) : T47 := fun (x0, _) =>
 (f47_l0 (x0, (↑x0.length : Int), 0, ())).bind fun v =>
 Sum.elim (fun v => some (bif v.1 == [] then false else true, ()))
 (fun v => some (v.1, ())) v
theorem h47 (f90 : T90) (f47_l0 : T47_l0) : AqF (K47 f90) 0 Tryz.f47 (N47 f47_l0) f47_ins f47_outs (F47 f90 f47_l0) := fun v => by kernel_rfl
def C47 : T47 := F47 C90 C47_l0
theorem ok47 : FnOk Tryz.prog 47 (E47 C47) :=
 fnx (n := (N47 C47_l0)) kok47 Tryz.func47 (by kernel_rfl) (by kernel_rfl) (ann_obs (And.intro k47_l0 trivial) (by kernel_rfl)) (fun v => by kernel_rfl) (h47 C90 C47_l0)
abbrev T88_l0 := List (LqS) × Int × Int × Unit → Option (Unit ⊕ (Bool × Unit))
def E88_l0 (f : T88_l0) : LEnt := ⟨f88_l0_ins, f88_l0_outs, f⟩
abbrev T88 := LqS × Unit → Option (Bool × Unit)
def E88 (f : T88) : FEnt := ⟨f88_ins, f88_outs, f⟩
def K88 (f125 : T125) (f47 : T47) : Calls' := fun f => Ae.lookA f [(125, E125 f125), (47, E47 f47)]
theorem kok88 : KOk Tryz.prog (K88 C125 C47) := (kok_cons ok125 (kok_cons ok47 (kok_nil _)))
def F88_l0 (f125 : T125) (f47 : T47) : LpF (List (LqS) × Int × Int × Unit) (Unit ⊕ (Bool × Unit)) := fun (x0, x1, x2, _) =>
 bif decide (x2 < x1) then
 bif decide (0 ≤ x2) && decide (x2 < (↑x0.length : Int)) then
 (f47 (x0.getD x2.toNat [], ())).bind fun v =>
 bif !v.1 then some (Sum.inr (Sum.inr (false, ())))
 else some (Sum.inl (x0, x1, IntKind.i64.wrap (x2 + 1), ()))
 else none
 else some (Sum.inr (Sum.inl ()))
theorem h88_l0 (f125 : T125) (f47 : T47) : AqL (K88 f125 f47) 0 (subc (code Tryz.f88) [1, 0, 1, 0, 0]) .nil f88_l0_ins f88_l0_outs (F88_l0 f125 f47) := fun v => by kernel_rfl
def C88_l0 : T88_l0 := loopN (F88_l0 C125 C47) big
theorem k88_l0 : FragOk Tryz.prog 0 (fun Q a w => (Code.loop (subc (code Tryz.f88) [1, 0, 1, 0, 0])).wp Tryz.prog Q a w) (E88_l0 C88_l0) :=
 frag_big (ins := f88_l0_ins) (os := f88_l0_outs) (C := C88_l0) (frag_loop (ins := f88_l0_ins) (os := f88_l0_outs) (n := .nil) (F := F88_l0 C125 C47) hm hΓ kok88 (fun _ => big) (ann_nil _) (h88_l0 C125 C47)) rfl
def N88 (f88_l0 : T88_l0) : Ann := (.seq .nil (.seq (.seq .nil (.blk (.loop (E88_l0 f88_l0)))) .nil))
def F88 (f125 : T125) (f47 : T47) (f88_l0 : T88_l0) : T88 := fun (x0, _) =>
 (f125 (x0, [46], ())).bind fun v =>
 (f88_l0 (v.1, (↑(List.length v.1) : Int), 0, ())).bind fun v =>
 Sum.elim (fun v => some (true, ())) (fun v => some (v.1, ())) v
theorem h88 (f125 : T125) (f47 : T47) (f88_l0 : T88_l0) : AqF (K88 f125 f47) 0 Tryz.f88 (N88 f88_l0) f88_ins f88_outs (F88 f125 f47 f88_l0) := fun v => by kernel_rfl
def C88 : T88 := F88 C125 C47 C88_l0
theorem ok88 : FnOk Tryz.prog 88 (E88 C88) :=
 fnx (n := (N88 C88_l0)) kok88 Tryz.func88 (by kernel_rfl) (by kernel_rfl) (ann_obs (And.intro k88_l0 trivial) (by kernel_rfl)) (fun v => by kernel_rfl) (h88 C125 C47 C88_l0)
abbrev T45 := LqS × LqS × Unit → Option (LqS × Unit)
def E45 (f : T45) : FEnt := ⟨f45_ins, f45_outs, f⟩
def K45 (f88 : T88) (f89 : T89) : Calls' := fun f => Ae.lookA f [(88, E88 f88), (89, E89 f89)]
theorem kok45 : KOk Tryz.prog (K45 C88 C89) := (kok_cons ok88 (kok_cons ok89 (kok_nil _)))
def F45 (f88 : T88) (f89 : T89) : T45 := fun (x0, x1, _) =>
 (f88 (x0, ())).bind fun v =>
 bif !v.1 then
 (f89 (1, x0, 0, ())).bind fun v =>
 bif decide (List.length v.1 + [64].length ≤ 9223372036854775807) then
 bif decide ((v.1 ++ [64]).length + x1.length ≤ 9223372036854775807) then
 some (v.1 ++ [64] ++ x1, ())
 else none
 else none
 else
 bif decide (x0.length + [64].length ≤ 9223372036854775807) then
 bif decide ((x0 ++ [64]).length + x1.length ≤ 9223372036854775807) then
 some (x0 ++ [64] ++ x1, ())
 else none
 else none
theorem h45 (f88 : T88) (f89 : T89) : AqF (K45 f88 f89) 0 Tryz.f45 .nil f45_ins f45_outs (F45 f88 f89) := fun v => by kernel_rfl
def C45 : T45 := F45 C88 C89
theorem ok45 : FnOk Tryz.prog 45 (E45 C45) :=
 fnx (n := .nil) kok45 Tryz.func45 (by kernel_rfl) (by kernel_rfl) (ann_nil _) (fun v => by kernel_rfl) (h45 C88 C89)
abbrev T34 := List ((LqS × (Bool × List ((LqS × LqS))))) × Unit → Option (LqS × Unit)
def E34 (f : T34) : FEnt := ⟨f34_ins, f34_outs, f⟩
end Go.Proofs.YtiacnhhmkdkpmaaGreatDoorC.W
set_option maxRecDepth 100000
set_option linter.unusedVariables false
namespace Go.Proofs.YtiacnhhmkdkpmaaGreatDoorC.W
open Go Go.Ae
abbrev T35 := LqA × LqB × LqC × List ((LqS × (Bool × List ((LqS × LqS))))) × Unit → Option (Int × Unit)
def E35 (f : T35) : FEnt := ⟨f35_ins, f35_outs, f⟩
abbrev T29 := Unit → Option (Bool × Unit)
def E29 (f : T29) : FEnt := ⟨f29_ins, f29_outs, f⟩
abbrev T8_l0 := Int × Bool × Bool × LqS × Int × Unit → Option (Int × Bool × Bool × LqS × Unit)
def E8_l0 (f : T8_l0) : LEnt := ⟨f8_l0_ins, f8_l0_outs, f⟩
abbrev T8_c0 := Int × Bool × Bool × LqS × Unit → Option (Bool × Unit)
def E8_c0 (f : T8_c0) : LEnt := ⟨f8_c0_ins, f8_c0_outs, f⟩
def K8 (f18 : T18) (f29 : T29) (f30 : T30) (f31 : T31) : Calls' := fun f => Ae.lookA f [(18, E18 f18), (29, E29 f29), (30, E30 f30), (31, E31 f31)]
def N8 (f8_c0 : T8_c0) (f8_l0 : T8_l0) : Ann := (.seq .nil (.seq .nil (.seq .nil (.seq .nil (.seq (.seq .nil (.blk (.loop (E8_l0 f8_l0)))) (.cut .nil (E8_c0 f8_c0)))))))
def F8 (f18 : T18) (f29 : T29) (f30 : T30) (f31 : T31) (f8_c0 : T8_c0) (f8_l0 : T8_l0) : Int × Bool × Unit → Option (Bool × Unit) := fun (x0, x1, _) =>
 (f29 ()).bind fun v =>
 bif decide (x0 < 1) then some (v.1, ())
 else
 bif decide (x0 > 130) then some (v.1, ())
 else
 (f8_l0 (x0, x1, v.1, [], 0, ())).bind fun v =>
 bif v.2.1 then
 bif decide ([103, 58].length + List.length v.2.2.2.1 ≤ 9223372036854775807) then
 bif
 decide
 (([103, 58] ++ v.2.2.2.1).length + [59].length ≤ 9223372036854775807) then
 (f8_c0
 (v.1, v.2.1, v.2.2.1, [103, 58] ++ v.2.2.2.1 ++ [59],
 ())).bind
 fun v => some (v.1, ())
 else none
 else none
 else
 (f8_c0 (v.1, v.2.1, v.2.2.1, v.2.2.2.1, ())).bind fun v =>
 some (v.1, ())
theorem h8 (f18 : T18) (f29 : T29) (f30 : T30) (f31 : T31) (f8_c0 : T8_c0) (f8_l0 : T8_l0) : AqF (K8 f18 f29 f30 f31) 0 Tryz.f8 (N8 f8_c0 f8_l0) f8_ins f8_outs (F8 f18 f29 f30 f31 f8_c0 f8_l0) := fun v => by kernel_rfl
abbrev T32 := LqA × LqB × LqC × LqS × Unit → Option (LqS × LqS × Int × Unit)
def E32 (f : T32) : FEnt := ⟨f32_ins, f32_outs, f⟩
def K32 (f44 : T44) (f67 : T67) (f71 : T71) : Calls' := fun f => Ae.lookA f [(44, E44 f44), (67, E67 f67), (71, E71 f71)]
def F32 (f44 : T44) (f67 : T67) (f71 : T71) : T32 := fun (x0, x1, x2, x3, _) =>
 (f67 (x3, ())).bind fun v =>
 bif v.2.2.1 != 0 then some ([], [], v.2.2.1, ())
 else
 (f71 (v.1, ())).bind fun v1 =>
 bif !v1.2.2.2.1 then some ([], [], 4, ())
 else
 bif v1.2.2.1 != (↑(List.length v.1) : Int) then some ([], [], 4, ())
 else
 (f44 (x0, x1, x2, v1.1, v1.2.1, ())).bind fun v =>
 bif v.1 != 0 then some ([], [], v.1, ()) else some (v1.1, v1.2.1, 0, ())
theorem h32 (f44 : T44) (f67 : T67) (f71 : T71) : AqF (K32 f44 f67 f71) 0 Tryz.f32 .nil f32_ins f32_outs (F32 f44 f67 f71) := fun v => by kernel_rfl
abbrev T9_c0 := Bool × List ((LqS × (Bool × List ((LqS × LqS))))) × Int × LqS × LqS × Unit → Option (Bool × Unit)
def E9_c0 (f : T9_c0) : LEnt := ⟨f9_c0_ins, f9_c0_outs, f⟩
def K9 (f18 : T18) (f29 : T29) (f30 : T30) (f32 : T32) : Calls' := fun f => Ae.lookA f [(18, E18 f18), (29, E29 f29), (30, E30 f30), (32, E32 f32)]
def N9 (f9_c0 : T9_c0) : Ann := (.seq .nil (.seq .nil (.seq .nil (.seq .nil (.seq .nil (.seq .nil (.cut .nil (E9_c0 f9_c0))))))))
def F9 (f18 : T18) (f29 : T29) (f30 : T30) (f32 : T32) (f9_c0 : T9_c0) : LqS × Unit → Option (Bool × Unit) := fun (x0, _) =>
 (f29 ()).bind fun v =>
 bif decide ((↑x0.length : Int) > 300) then some (v.1, ())
 else
 (f18 ()).bind fun v1 =>
 (f32 (v1.1, v1.2.1, v1.2.2.1, x0, ())).bind fun v2 =>
 (f30 (v1.1, v1.2.1, v1.2.2.1, x0, ())).bind fun v3 =>
 bif v2.2.2.1 != 0 then
 bif v.1 then
 bif v2.2.2.1 == 4 then some (true, ())
 else some (v3.2.1 == v2.2.2.1, ())
 else some (false, ())
 else
 (f9_c0 (v.1, v3.1, v3.2.1, v2.1, v2.2.1, ())).bind fun v =>
 some (v.1, ())
theorem h9 (f18 : T18) (f29 : T29) (f30 : T30) (f32 : T32) (f9_c0 : T9_c0) : AqF (K9 f18 f29 f30 f32) 0 Tryz.f9 (N9 f9_c0) f9_ins f9_outs (F9 f18 f29 f30 f32 f9_c0) := fun v => by kernel_rfl
abbrev T33 := List ((LqS × (Bool × List ((LqS × LqS))))) × Unit → Option (Bool × Unit)
def E33 (f : T33) : FEnt := ⟨f33_ins, f33_outs, f⟩
abbrev T36 := List ((LqS × (Bool × List ((LqS × LqS))))) × List ((LqS × (Bool × List ((LqS × LqS))))) × Unit → Option (Bool × Unit)
def E36 (f : T36) : FEnt := ⟨f36_ins, f36_outs, f⟩
abbrev T10_c0 := LqS × Bool × LqA × LqB × LqC × Unit → Option (Bool × Unit)
def E10_c0 (f : T10_c0) : LEnt := ⟨f10_c0_ins, f10_c0_outs, f⟩
def K10 (f18 : T18) (f29 : T29) (f30 : T30) (f33 : T33) (f34 : T34) (f35 : T35) (f36 : T36) : Calls' := fun f => Ae.lookA f [(18, E18 f18), (29, E29 f29), (30, E30 f30), (33, E33 f33), (34, E34 f34), (35, E35 f35), (36, E36 f36)]
def N10 (f10_c0 : T10_c0) : Ann := (.seq .nil (.seq .nil (.seq .nil (.seq .nil (.seq .nil (.seq .nil (.cut .nil (E10_c0 f10_c0))))))))
def F10 (f18 : T18) (f29 : T29) (f30 : T30) (f33 : T33) (f34 : T34) (f35 : T35) (f36 : T36) (f10_c0 : T10_c0) : List ((LqS × (Bool × List ((LqS × LqS))))) × LqS × Unit → Option (Bool × Unit) := fun (x0, x1, _) =>
 (f29 ()).bind fun v =>
 (f33 (x0, ())).bind fun v1 =>
 bif !v1.1 then some (v.1, ())
 else
 bif decide ((↑x1.length : Int) > 400) then some (v.1, ())
 else
 (f18 ()).bind fun v2 =>
 (f34 (x0, ())).bind fun v3 =>
 (f35 (v2.1, v2.2.1, v2.2.2.1, x0, ())).bind fun v4 =>
 bif v4.1 == 0 then
 (f30 (v2.1, v2.2.1, v2.2.2.1, v3.1, ())).bind fun v5 =>
 bif decide ((↑(List.length v3.1) : Int) > 2000) then
 bif v5.2.1 != 5 then some (false, ())
 else
 bif decide ((↑(List.length v3.1) : Int) ≤ 2000) then
 bif v5.2.1 != 0 then some (false, ())
 else
 (f36 (v5.1, x0, ())).bind fun v6 =>
 bif !v6.1 then some (false, ())
 else
 (f10_c0 (x1, v.1, v2.1, v2.2.1, v2.2.2.1, ())).bind fun v =>
 some (v.1, ())
 else
 (f10_c0 (x1, v.1, v2.1, v2.2.1, v2.2.2.1, ())).bind fun v =>
 some (v.1, ())
 else
 bif decide ((↑(List.length v3.1) : Int) ≤ 2000) then
 bif v5.2.1 != 0 then some (false, ())
 else
 (f36 (v5.1, x0, ())).bind fun v6 =>
 bif !v6.1 then some (false, ())
 else
 (f10_c0 (x1, v.1, v2.1, v2.2.1, v2.2.2.1, ())).bind fun v =>
 some (v.1, ())
 else
 (f10_c0 (x1, v.1, v2.1, v2.2.1, v2.2.2.1, ())).bind fun v =>
 some (v.1, ())
 else
 (f10_c0 (x1, v.1, v2.1, v2.2.1, v2.2.2.1, ())).bind fun v =>
 some (v.1, ())
theorem h10 (f18 : T18) (f29 : T29) (f30 : T30) (f33 : T33) (f34 : T34) (f35 : T35) (f36 : T36) (f10_c0 : T10_c0) : AqF (K10 f18 f29 f30 f33 f34 f35 f36) 0 Tryz.f10 (N10 f10_c0) f10_ins f10_outs (F10 f18 f29 f30 f33 f34 f35 f36 f10_c0) := fun v => by kernel_rfl
abbrev T79 := Int × LqS × Int × LqS × Unit → Option (Bool × Unit)
def E79 (f : T79) : FEnt := ⟨f79_ins, f79_outs, f⟩
def K79 : Calls' := fun f => Ae.lookA f []
theorem kok79 : KOk Tryz.prog (K79) := (kok_nil _)
def F79 : T79 := fun (x0, x1, x2, x3, _) =>
 bif x0 == 2 then some (x1 == x3, ()) else some (false, ())
theorem h79 : AqF (K79) 0 Tryz.f79 .nil f79_ins f79_outs (F79) := fun v => by kernel_rfl
def C79 : T79 := F79
theorem ok79 : FnOk Tryz.prog 79 (E79 C79) :=
 fnx (n := .nil) kok79 Tryz.func79 (by kernel_rfl) (by kernel_rfl) (ann_nil _) (fun v => by kernel_rfl) (h79)
abbrev T81 := Int × LqS × Int × Unit → Option (Bool × Unit)
def E81 (f : T81) : FEnt := ⟨f81_ins, f81_outs, f⟩
def K81 : Calls' := fun f => Ae.lookA f []
theorem kok81 : KOk Tryz.prog (K81) := (kok_nil _)
def F81 : T81 := fun (x0, x1, x2, _) =>
 bif x0 == 4 then some (true, ()) else some (x0 == 3, ())
theorem h81 : AqF (K81) 0 Tryz.f81 .nil f81_ins f81_outs (F81) := fun v => by kernel_rfl
def C81 : T81 := F81
theorem ok81 : FnOk Tryz.prog 81 (E81 C81) :=
 fnx (n := .nil) kok81 Tryz.func81 (by kernel_rfl) (by kernel_rfl) (ann_nil _) (fun v => by kernel_rfl) (h81)
abbrev T119_l0 := LqD × Int × Int × Unit → Option (Unit ⊕ (Int × Unit))
def E119_l0 (f : T119_l0) : LEnt := ⟨f119_l0_ins, f119_l0_outs, f⟩
abbrev T119 := LqD × Unit → Option (Int × Unit)
def E119 (f : T119) : FEnt := ⟨f119_ins, f119_outs, f⟩
def K119 (f81 : T81) : Calls' := fun f => Ae.lookA f [(81, E81 f81)]
theorem kok119 : KOk Tryz.prog (K119 C81) := (kok_cons ok81 (kok_nil _))
def F119_l0 (f81 : T81) : LpF (LqD × Int × Int × Unit) (Unit ⊕ (Int × Unit)) := fun (x0, x1, x2, _) =>
 bif decide (x2 < x1) then
 bif decide (0 ≤ x2) && decide (x2 < (↑x0.length : Int)) then
 (f81
 ((x0.getD x2.toNat (0, ([], 0))).1,
 (x0.getD x2.toNat (0, ([], 0))).2.1,
 (x0.getD x2.toNat (0, ([], 0))).2.2, ())).bind
 fun v =>
 bif v.1 then some (Sum.inr (Sum.inr (x2, ())))
 else some (Sum.inl (x0, x1, IntKind.i64.wrap (x2 + 1), ()))
 else none
 else some (Sum.inr (Sum.inl ()))
theorem h119_l0 (f81 : T81) : AqL (K119 f81) 0 (subc (code Tryz.f119) [1, 0, 1, 0, 0]) .nil f119_l0_ins f119_l0_outs (F119_l0 f81) := fun v => by kernel_rfl
def C119_l0 : T119_l0 := loopN (F119_l0 C81) big
theorem k119_l0 : FragOk Tryz.prog 0 (fun Q a w => (Code.loop (subc (code Tryz.f119) [1, 0, 1, 0, 0])).wp Tryz.prog Q a w) (E119_l0 C119_l0) :=
 frag_big (ins := f119_l0_ins) (os := f119_l0_outs) (C := C119_l0) (frag_loop (ins := f119_l0_ins) (os := f119_l0_outs) (n := .nil) (F := F119_l0 C81) hm hΓ kok119 (fun _ => big) (ann_nil _) (h119_l0 C81)) rfl
def N119 (f119_l0 : T119_l0) : Ann := (.seq .nil (.seq (.seq .nil (.blk (.loop (E119_l0 f119_l0)))) .nil))
def F119 (f81 : T81) (f119_l0 : T119_l0) : T119 := fun (x0, _) =>
 (f119_l0 (x0, (↑x0.length : Int), 0, ())).bind fun v =>
 Sum.elim (fun v => some (-1, ())) (fun v => some (v.1, ())) v
theorem h119 (f81 : T81) (f119_l0 : T119_l0) : AqF (K119 f81) 0 Tryz.f119 (N119 f119_l0) f119_ins f119_outs (F119 f81 f119_l0) := fun v => by kernel_rfl
def C119 : T119 := F119 C81 C119_l0
theorem ok119 : FnOk Tryz.prog 119 (E119 C119) :=
 fnx (n := (N119 C119_l0)) kok119 Tryz.func119 (by kernel_rfl) (by kernel_rfl) (ann_obs (And.intro k119_l0 trivial) (by kernel_rfl)) (fun v => by kernel_rfl) (h119 C81 C119_l0)
abbrev T80 := LqD × Unit → Option (Bool × Unit)
def E80 (f : T80) : FEnt := ⟨f80_ins, f80_outs, f⟩
def K80 (f119 : T119) : Calls' := fun f => Ae.lookA f [(119, E119 f119)]
theorem kok80 : KOk Tryz.prog (K80 C119) := (kok_cons ok119 (kok_nil _))
def F80 (f119 : T119) : T80 := fun (x0, _) =>
 (f119 (x0, ())).bind fun v => some (decide (v.1 ≥ 0), ())
theorem h80 (f119 : T119) : AqF (K80 f119) 0 Tryz.f80 .nil f80_ins f80_outs (F80 f119) := fun v => by kernel_rfl
def C80 : T80 := F80 C119
theorem ok80 : FnOk Tryz.prog 80 (E80 C80) :=
 fnx (n := .nil) kok80 Tryz.func80 (by kernel_rfl) (by kernel_rfl) (ann_nil _) (fun v => by kernel_rfl) (h80 C119)
end Go.Proofs.YtiacnhhmkdkpmaaGreatDoorC.W
set_option maxRecDepth 100000
set_option linter.unusedVariables false
namespace Go.Proofs.YtiacnhhmkdkpmaaGreatDoorC.W
open Go Go.Ae
abbrev T64 := Int × Unit → Option (Int × Unit)
def E64 (f : T64) : FEnt := ⟨f64_ins, f64_outs, f⟩
def K64 : Calls' := fun f => Ae.lookA f []
theorem kok64 : KOk Tryz.prog (K64) := (kok_nil _)
def F64 : T64 := fun (x0, _) =>
 bif decide (x0 ≥ 65) then
 bif decide (x0 ≤ 90) then some (IntKind.u8.wrap (IntKind.u8.wrap (x0 - 65) + 97), ())
 else some (x0, ())
 else some (x0, ())
theorem h64 : AqF (K64) 0 Tryz.f64 .nil f64_ins f64_outs (F64) := fun v => by kernel_rfl
def C64 : T64 := F64
theorem ok64 : FnOk Tryz.prog 64 (E64 C64) :=
 fnx (n := .nil) kok64 Tryz.func64 (by kernel_rfl) (by kernel_rfl) (ann_nil _) (fun v => by kernel_rfl) (h64)
abbrev T63_l0 := LqS × Int × Int × LqS × Unit → Option (LqS × Unit)
def E63_l0 (f : T63_l0) : LEnt := ⟨f63_l0_ins, f63_l0_outs, f⟩
abbrev T63 := LqS × Unit → Option (LqS × Unit)
def E63 (f : T63) : FEnt := ⟨f63_ins, f63_outs, f⟩
def K63 (f64 : T64) : Calls' := fun f => Ae.lookA f [(64, E64 f64)]
theorem kok63 : KOk Tryz.prog (K63 C64) := (kok_cons ok64 (kok_nil _))
def F63_l0 (f64 : T64) : LpF (LqS × Int × Int × LqS × Unit) (LqS × Unit) := fun (x0, x1, x2, x3, _) =>
 bif decide (x2 < x1) then
 bif decide (0 ≤ x2) && decide (x2 < (↑x0.length : Int)) then
 (f64 ((↑(UInt8.toNat (x0.getD x2.toNat 0)) : Int), ())).bind fun v =>
 bif decide (x3.length + [UInt8.ofNat (Int.toNat v.1)].length ≤ 140737488355328 / 1) then
 some (Sum.inl (x0, x1, IntKind.i64.wrap (x2 + 1), x3 ++ [UInt8.ofNat (Int.toNat v.1)], ()))
 else none
 else none
 else some (Sum.inr (x3, ()))
theorem h63_l0 (f64 : T64) : AqL (K63 f64) 0 (subc (code Tryz.f63) [1, 1, 0, 1, 0, 0]) .nil f63_l0_ins f63_l0_outs (F63_l0 f64) := fun v => by kernel_rfl
def C63_l0 : T63_l0 := loopN (F63_l0 C64) big
theorem k63_l0 : FragOk Tryz.prog 0 (fun Q a w => (Code.loop (subc (code Tryz.f63) [1, 1, 0, 1, 0, 0])).wp Tryz.prog Q a w) (E63_l0 C63_l0) :=
 frag_big (ins := f63_l0_ins) (os := f63_l0_outs) (C := C63_l0) (frag_loop (ins := f63_l0_ins) (os := f63_l0_outs) (n := .nil) (F := F63_l0 C64) hm hΓ kok63 (fun _ => big) (ann_nil _) (h63_l0 C64)) rfl
def N63 (f63_l0 : T63_l0) : Ann := (.seq .nil (.seq .nil (.seq (.seq .nil (.blk (.loop (E63_l0 f63_l0)))) .nil)))
def F63 (f64 : T64) (f63_l0 : T63_l0) : T63 := fun (x0, _) =>
 (f63_l0 (x0, (↑x0.length : Int), 0, [], ())).bind fun v => some (v.1, ())
theorem h63 (f64 : T64) (f63_l0 : T63_l0) : AqF (K63 f64) 0 Tryz.f63 (N63 f63_l0) f63_ins f63_outs (F63 f64 f63_l0) := fun v => by kernel_rfl
def C63 : T63 := F63 C64 C63_l0
theorem ok63 : FnOk Tryz.prog 63 (E63 C63) :=
 fnx (n := (N63 C63_l0)) kok63 Tryz.func63 (by kernel_rfl) (by kernel_rfl) (ann_obs (And.intro k63_l0 trivial) (by kernel_rfl)) (fun v => by kernel_rfl) (h63 C64 C63_l0)
abbrev T25 := LqS × Unit → Option (LqS × Unit)
def E25 (f : T25) : FEnt := ⟨f25_ins, f25_outs, f⟩
def K25 (f63 : T63) : Calls' := fun f => Ae.lookA f [(63, E63 f63)]
theorem kok25 : KOk Tryz.prog (K25 C63) := (kok_cons ok63 (kok_nil _))
def F25 (f63 : T63) : T25 := fun (x0, _) =>
 bif decide (x0.length ≤ 9223372036854775807) then (f63 (x0, ())).bind fun v => some (v.1, ()) else none
theorem h25 (f63 : T63) : AqF (K25 f63) 0 Tryz.f25 .nil f25_ins f25_outs (F25 f63) := fun v => by kernel_rfl
def C25 : T25 := F25 C63
theorem ok25 : FnOk Tryz.prog 25 (E25 C25) :=
 fnx (n := .nil) kok25 Tryz.func25 (by kernel_rfl) (by kernel_rfl) (ann_nil _) (fun v => by kernel_rfl) (h25 C63)
abbrev T59 := Bool × LqS × LqS × Unit → Option (Bool × Unit)
def E59 (f : T59) : FEnt := ⟨f59_ins, f59_outs, f⟩
def K59 (f25 : T25) : Calls' := fun f => Ae.lookA f [(25, E25 f25)]
theorem kok59 : KOk Tryz.prog (K59 C25) := (kok_cons ok25 (kok_nil _))
def F59 (f25 : T25) : T59 := fun (x0, x1, x2, _) =>
 bif !x0 then
 bif x2 == [] then
 (f25 (x1, ())).bind fun v =>
 some (v.1 == [112, 111, 115, 116, 109, 97, 115, 116, 101, 114], ())
 else some (false, ())
 else some (false, ())
theorem h59 (f25 : T25) : AqF (K59 f25) 0 Tryz.f59 .nil f59_ins f59_outs (F59 f25) := fun v => by kernel_rfl
def C59 : T59 := F59 C25
theorem ok59 : FnOk Tryz.prog 59 (E59 C59) :=
 fnx (n := .nil) kok59 Tryz.func59 (by kernel_rfl) (by kernel_rfl) (ann_nil _) (fun v => by kernel_rfl) (h59 C25)
abbrev T40_c0 := LqA × LqB × LqC × Bool × LqS × LqS × Bool × LqS × LqS × Unit → Option (Int × Bool × LqS × LqS × Unit)
def E40_c0 (f : T40_c0) : LEnt := ⟨f40_c0_ins, f40_c0_outs, f⟩
abbrev T40_c1 := Int × LqD × Int × LqA × LqB × LqC × Bool × LqS × LqS × Bool × LqS × LqS × Unit → Option ((Int × Bool × LqS × LqS × Unit) ⊕ (Int × Bool × LqS × LqS × Unit))
def E40_c1 (f : T40_c1) : LEnt := ⟨f40_c1_ins, f40_c1_outs, f⟩
abbrev T40_c2 := Int × LqD × Int × LqA × LqB × LqC × Bool × LqS × LqS × Bool × LqS × LqS × Unit → Option ((Int × Bool × LqS × LqS × Unit) ⊕ (Int × Bool × LqS × LqS × Unit))
def E40_c2 (f : T40_c2) : LEnt := ⟨f40_c2_ins, f40_c2_outs, f⟩
abbrev T40_g0 := Int × Bool × LqS × LqS × Unit → Option (Int × Bool × LqS × LqS × Unit)
def E40_g0 (f : T40_g0) : LEnt := ⟨f40_g0_ins, f40_g0_outs, f⟩
abbrev T40 := LqA × LqB × LqC × LqS × Unit → Option (Bool × LqS × LqS × Int × Unit)
def E40 (f : T40) : FEnt := ⟨f40_ins, f40_outs, f⟩
def K40 (f44 : T44) (f59 : T59) (f67 : T67) (f71 : T71) (f79 : T79) (f80 : T80) : Calls' := fun f => Ae.lookA f [(44, E44 f44), (59, E59 f59), (67, E67 f67), (71, E71 f71), (79, E79 f79), (80, E80 f80)]
theorem kok40 : KOk Tryz.prog (K40 C44 C59 C67 C71 C79 C80) := (kok_cons ok44 (kok_cons ok59 (kok_cons ok67 (kok_cons ok71 (kok_cons ok79 (kok_cons ok80 (kok_nil _)))))))
def F40_c0 (f44 : T44) (f59 : T59) (f67 : T67) (f71 : T71) (f79 : T79) (f80 : T80) : T40_c0 := fun (x0, x1, x2, x3, x4, x5, x6, x7, x8, _) =>
 (f44 (x0, x1, x2, x7, x8, ())).bind fun v =>
 bif v.1 == 0 then some (0, x6, x7, x8, ()) else some (v.1, false, [], [], ())
theorem h40_c0 (f44 : T44) (f59 : T59) (f67 : T67) (f71 : T71) (f79 : T79) (f80 : T80) : AqC (K40 f44 f59 f67 f71 f79 f80) 0 (subc (code Tryz.f40) [1, 0, 1, 1, 1, 1, 1, 1, 1, 1, 1, 1, 1]) .nil f40_c0_ins f40_c0_outs (F40_c0 f44 f59 f67 f71 f79 f80) := fun v => by kernel_rfl
def C40_c0 : T40_c0 := F40_c0 C44 C59 C67 C71 C79 C80
theorem k40_c0 : FragOk Tryz.prog 0 (fun Q a w => (subc (code Tryz.f40) [1, 0, 1, 1, 1, 1, 1, 1, 1, 1, 1, 1, 1]).wp Tryz.prog Q a w) (E40_c0 C40_c0) :=
 frag_code (ins := f40_c0_ins) (os := f40_c0_outs) (n := .nil) (F := C40_c0) hm hΓ kok40 (ann_nil _) (h40_c0 C44 C59 C67 C71 C79 C80)
def N40_c1 (f40_c0 : T40_c0) : Ann := (.cut .nil (E40_c0 f40_c0))
def F40_c1 (f44 : T44) (f59 : T59) (f67 : T67) (f71 : T71) (f79 : T79) (f80 : T80) (f40_c0 : T40_c0) : T40_c1 := fun (x0, x1, x2, x3, x4, x5, x6, x7, x8, x9, x10, x11, _) =>
 bif decide (0 ≤ x0) && decide (x0 ≤ (↑x1.length : Int)) then
 bif decide (1 ≤ x0) then
 (f71 (List.drop 1 (List.take x0.toNat x1), ())).bind fun v =>
 bif !v.2.2.2.1 then some (Sum.inl (x2, x6, x7, x8, ()))
 else
 bif v.2.2.1 != IntKind.i64.wrap (x0 - 1) then some (Sum.inl (x2, x6, x7, x8, ()))
 else
 (f40_c0 (x3, x4, x5, x6, x7, x8, x9, v.1, v.2.1, ())).bind fun v =>
 some (Sum.inr (v.1, v.2.1, v.2.2.1, v.2.2.2.1, ()))
 else none
 else none
theorem h40_c1 (f44 : T44) (f59 : T59) (f67 : T67) (f71 : T71) (f79 : T79) (f80 : T80) (f40_c0 : T40_c0) : AqC (K40 f44 f59 f67 f71 f79 f80) 0 (subc (code Tryz.f40) [1, 0, 1, 1, 1, 1, 1, 1, 1, 1, 1, 1]) (N40_c1 f40_c0) f40_c1_ins f40_c1_outs (F40_c1 f44 f59 f67 f71 f79 f80 f40_c0) := fun v => by kernel_rfl
def C40_c1 : T40_c1 := F40_c1 C44 C59 C67 C71 C79 C80 C40_c0
theorem k40_c1 : FragOk Tryz.prog 0 (fun Q a w => (subc (code Tryz.f40) [1, 0, 1, 1, 1, 1, 1, 1, 1, 1, 1, 1]).wp Tryz.prog Q a w) (E40_c1 C40_c1) :=
 frag_code (ins := f40_c1_ins) (os := f40_c1_outs) (n := (N40_c1 C40_c0)) (F := C40_c1) hm hΓ kok40 (ann_obs (And.intro k40_c0 trivial) (by kernel_rfl)) (h40_c1 C44 C59 C67 C71 C79 C80 C40_c0)
def N40_c2 (f40_c1 : T40_c1) : Ann := (.seq .nil (.seq .nil (.cut .nil (E40_c1 f40_c1))))
def F40_c2 (f44 : T44) (f59 : T59) (f67 : T67) (f71 : T71) (f79 : T79) (f80 : T80) (f40_c1 : T40_c1) : T40_c2 := fun (x0, x1, x2, x3, x4, x5, x6, x7, x8, x9, x10, x11, _) =>
 bif x0 == 1 then some (Sum.inl (0, true, [], [], ()))
 else
 bif decide (1 < (↑x1.length : Int)) then
 bif x0 == 2 then
 bif decide (1 < (↑x1.length : Int)) then
 bif (x1.getD 1 (0, ([], 0))).1 == 0 then
 (f59
 (x9,
 (x1.getD 1 (0, ([], 0))).2.1,
 x11, ())).bind
 fun v =>
 bif v.1 then
 some
 (Sum.inl
 (0, x9,
 (x1.getD 1 (0, ([], 0))).2.1,
 x11, ()))
 else
 (f40_c1
 (x0, x1, x2, x3, x4, x5, x6, x7, x8, x9,
 (x1.getD 1
 (0, ([], 0))).2.1,
 x11, ())).bind
 fun v =>
 Sum.elim
 (fun v => some (Sum.inr (v.1, v.2.1, v.2.2.1, v.2.2.2.1, ())))
 (fun v => some (Sum.inl (v.1, v.2.1, v.2.2.1, v.2.2.2.1, ())))
 v
 else
 (f40_c1
 (x0, x1, x2, x3, x4, x5, x6, x7, x8, x9,
 (x1.getD 1 (0, ([], 0))).2.1,
 x11, ())).bind
 fun v =>
 Sum.elim
 (fun v => some (Sum.inr (v.1, v.2.1, v.2.2.1, v.2.2.2.1, ())))
 (fun v => some (Sum.inl (v.1, v.2.1, v.2.2.1, v.2.2.2.1, ()))) v
 else none
 else
 (f40_c1
 (x0, x1, x2, x3, x4, x5, x6, x7, x8, x9,
 (x1.getD 1 (0, ([], 0))).2.1, x11,
 ())).bind
 fun v =>
 Sum.elim (fun v => some (Sum.inr (v.1, v.2.1, v.2.2.1, v.2.2.2.1, ())))
 (fun v => some (Sum.inl (v.1, v.2.1, v.2.2.1, v.2.2.2.1, ()))) v
 else none
theorem h40_c2 (f44 : T44) (f59 : T59) (f67 : T67) (f71 : T71) (f79 : T79) (f80 : T80) (f40_c1 : T40_c1) : AqC (K40 f44 f59 f67 f71 f79 f80) 0 (subc (code Tryz.f40) [1, 0, 1, 1, 1, 1, 1, 1, 1]) (N40_c2 f40_c1) f40_c2_ins f40_c2_outs (F40_c2 f44 f59 f67 f71 f79 f80 f40_c1) := fun v => by kernel_rfl
def C40_c2 : T40_c2 := F40_c2 C44 C59 C67 C71 C79 C80 C40_c1
theorem k40_c2 : FragOk Tryz.prog 0 (fun Q a w => (subc (code Tryz.f40) [1, 0, 1, 1, 1, 1, 1, 1, 1]).wp Tryz.prog Q a w) (E40_c2 C40_c2) :=
 frag_code (ins := f40_c2_ins) (os := f40_c2_outs) (n := (N40_c2 C40_c1)) (F := C40_c2) hm hΓ kok40 (ann_obs (And.intro k40_c1 trivial) (by kernel_rfl)) (h40_c2 C44 C59 C67 C71 C79 C80 C40_c1)
def F40_g0 (f44 : T44) (f59 : T59) (f67 : T67) (f71 : T71) (f79 : T79) (f80 : T80) : LpF (Int × Bool × LqS × LqS × Unit) (Int × Bool × LqS × LqS × Unit) := fun (x0, x1, x2, x3, _) =>
 some (Sum.inr (x0, false, [], [], ()))
theorem h40_g0 (f44 : T44) (f59 : T59) (f67 : T67) (f71 : T71) (f79 : T79) (f80 : T80) (v : HS f40_g0_ins) : aev Γ (K40 f44 f59 f67 f71 f79 f80) 0 ((findLabel (subc (code Tryz.f40) [1, 0]) 0).getD .skip) .nil (stof f40_g0_ins v) (aroundL 0 0 [] f40_g0_ins f40_g0_outs) = F40_g0 f44 f59 f67 f71 f79 f80 v := by kernel_rfl
def C40_g0 : T40_g0 := loopN (F40_g0 C44 C59 C67 C71 C79 C80) big
theorem k40_g0 : FragOk Tryz.prog 0 (ScopeFrom Tryz.prog (subc (code Tryz.f40) [1, 0]) 0) (E40_g0 C40_g0) :=
 frag_big (ins := f40_g0_ins) (os := f40_g0_outs) (C := C40_g0) (frag_label (ins := f40_g0_ins) (os := f40_g0_outs) (n := .nil) (ls := []) (F := F40_g0 C44 C59 C67 C71 C79 C80) (rest := ((findLabel (subc (code Tryz.f40) [1, 0]) 0).getD .skip)) hm hΓ kok40 (fun _ => big) (by kernel_rfl) (ann_nil _) find_nil (h40_g0 C44 C59 C67 C71 C79 C80)) rfl
def N40 (f40_c2 : T40_c2) (f40_g0 : T40_g0) : Ann := (.seq .nil (.scope (.seq .nil (.seq .nil (.seq .nil (.seq .nil (.seq .nil (.seq .nil (.cut .nil (E40_c2 f40_c2)))))))) [(0, (E40_g0 f40_g0))]))
def F40 (f44 : T44) (f59 : T59) (f67 : T67) (f71 : T71) (f79 : T79) (f80 : T80) (f40_c2 : T40_c2) (f40_g0 : T40_g0) : T40 := fun (x0, x1, x2, x3, _) =>
 (f67 (x3, ())).bind fun v =>
 bif v.2.2.1 != 0 then
 (f40_g0 (v.2.2.1, false, [], [], ())).bind fun v =>
 some (v.2.1, v.2.2.1, v.2.2.2.1, v.1, ())
 else
 bif decide (IntKind.i64.wrap ((↑(List.length v.1) : Int) - 1) < 1) then
 (f40_g0 (4, false, [], [], ())).bind fun v =>
 some (v.2.1, v.2.2.1, v.2.2.2.1, v.1, ())
 else
 bif decide (0 < (↑(List.length v.1) : Int)) then
 (f79
 ((List.getD v.1 0
 (0, ([], 0))).1,
 (List.getD v.1 0
 (0, ([], 0))).2.1,
 (List.getD v.1 0
 (0, ([], 0))).2.2,
 [60], ())).bind
 fun v1 =>
 bif !v1.1 then
 (f40_g0 (4, false, [], [], ())).bind fun v =>
 some (v.2.1, v.2.2.1, v.2.2.2.1, v.1, ())
 else
 bif
 decide (0 ≤ IntKind.i64.wrap ((↑(List.length v.1) : Int) - 1)) &&
 decide (IntKind.i64.wrap ((↑(List.length v.1) : Int) - 1) < (↑(List.length v.1) : Int)) then
 (f79
 ((List.getD v.1 (IntKind.i64.wrap ((↑(List.length v.1) : Int) - 1)).toNat
 (0, ([], 0))).1,
 (List.getD v.1 (IntKind.i64.wrap ((↑(List.length v.1) : Int) - 1)).toNat
 (0, ([], 0))).2.1,
 (List.getD v.1 (IntKind.i64.wrap ((↑(List.length v.1) : Int) - 1)).toNat
 (0, ([], 0))).2.2,
 [62], ())).bind
 fun v2 =>
 bif !v2.1 then
 (f40_g0 (4, false, [], [], ())).bind fun v =>
 some (v.2.1, v.2.2.1, v.2.2.2.1, v.1, ())
 else
 bif
 decide (0 ≤ IntKind.i64.wrap ((↑(List.length v.1) : Int) - 1)) &&
 decide
 (IntKind.i64.wrap ((↑(List.length v.1) : Int) - 1) ≤ (↑(List.length v.1) : Int)) then
 bif decide (1 ≤ IntKind.i64.wrap ((↑(List.length v.1) : Int) - 1)) then
 (f80
 (List.drop 1
 (List.take (IntKind.i64.wrap ((↑(List.length v.1) : Int) - 1)).toNat v.1),
 ())).bind
 fun v3 =>
 bif v3.1 then
 (f40_g0 (4, false, [], [], ())).bind fun v =>
 some (v.2.1, v.2.2.1, v.2.2.2.1, v.1, ())
 else
 (f40_c2
 (IntKind.i64.wrap ((↑(List.length v.1) : Int) - 1), v.1, 4, x0, x1, x2, false,
 [], [], false, [], [], ())).bind
 fun v =>
 Sum.elim
 (fun v => some (v.2.1, v.2.2.1, v.2.2.2.1, v.1, ()))
 (fun v =>
 (f40_g0 (v.1, v.2.1, v.2.2.1, v.2.2.2.1, ())).bind
 fun v =>
 some (v.2.1, v.2.2.1, v.2.2.2.1, v.1, ()))
 v
 else none
 else none
 else none
 else none
theorem h40 (f44 : T44) (f59 : T59) (f67 : T67) (f71 : T71) (f79 : T79) (f80 : T80) (f40_c2 : T40_c2) (f40_g0 : T40_g0) : AqF (K40 f44 f59 f67 f71 f79 f80) 0 Tryz.f40 (N40 f40_c2 f40_g0) f40_ins f40_outs (F40 f44 f59 f67 f71 f79 f80 f40_c2 f40_g0) := fun v => by kernel_rfl
def C40 : T40 := F40 C44 C59 C67 C71 C79 C80 C40_c2 C40_g0
theorem ok40 : FnOk Tryz.prog 40 (E40 C40) :=
 fnx (n := (N40 C40_c2 C40_g0)) kok40 Tryz.func40 (by kernel_rfl) (by kernel_rfl) (ann_obs (And.intro k40_c2 (And.intro k40_g0 trivial)) (by kernel_rfl)) (fun v => by kernel_rfl) (h40 C44 C59 C67 C71 C79 C80 C40_c2 C40_g0)
abbrev T22 := Bool × LqS × LqS × Unit → Option (LqS × Unit)
def E22 (f : T22) : FEnt := ⟨f22_ins, f22_outs, f⟩
def K22 (f45 : T45) (f59 : T59) : Calls' := fun f => Ae.lookA f [(45, E45 f45), (59, E59 f59)]
theorem kok22 : KOk Tryz.prog (K22 C45 C59) := (kok_cons ok45 (kok_cons ok59 (kok_nil _)))
def F22 (f45 : T45) (f59 : T59) : T22 := fun (x0, x1, x2, _) =>
 bif x0 then some ([60, 62], ())
 else
 (f59 (x0, x1, x2, ())).bind fun v =>
 bif v.1 then
 bif decide ([60].length + x1.length ≤ 9223372036854775807) then
 bif decide (([60] ++ x1).length + [62].length ≤ 9223372036854775807) then
 some ([60] ++ x1 ++ [62], ())
 else none
 else none
 else
 (f45 (x1, x2, ())).bind fun v =>
 bif decide ([60].length + List.length v.1 ≤ 9223372036854775807) then
 bif decide (([60] ++ v.1).length + [62].length ≤ 9223372036854775807) then
 some ([60] ++ v.1 ++ [62], ())
 else none
 else none
theorem h22 (f45 : T45) (f59 : T59) : AqF (K22 f45 f59) 0 Tryz.f22 .nil f22_ins f22_outs (F22 f45 f59) := fun v => by kernel_rfl
def C22 : T22 := F22 C45 C59
theorem ok22 : FnOk Tryz.prog 22 (E22 C22) :=
 fnx (n := .nil) kok22 Tryz.func22 (by kernel_rfl) (by kernel_rfl) (ann_nil _) (fun v => by kernel_rfl) (h22 C45 C59)
abbrev T20_c0 := Bool × LqA × LqB × LqC × Bool × LqS × LqS × Unit → Option ((Int × Unit) ⊕ (LqA × LqB × LqC × Bool × LqS × LqS × Unit))
def E20_c0 (f : T20_c0) : LEnt := ⟨f20_c0_ins, f20_c0_outs, f⟩
abbrev T20 := LqA × LqB × LqC × Bool × LqS × LqS × Unit → Option (Int × Unit)
def E20 (f : T20) : FEnt := ⟨f20_ins, f20_outs, f⟩
def K20 (f44 : T44) (f59 : T59) : Calls' := fun f => Ae.lookA f [(44, E44 f44), (59, E59 f59)]
theorem kok20 : KOk Tryz.prog (K20 C44 C59) := (kok_cons ok44 (kok_cons ok59 (kok_nil _)))
def F20_c0 (f44 : T44) (f59 : T59) : T20_c0 := fun (x0, x1, x2, x3, x4, x5, x6, _) =>
 bif x0 then some (Sum.inl (1, ()))
 else
 bif x4 then some (Sum.inl (0, ()))
 else
 (f59 (x4, x5, x6, ())).bind fun v =>
 bif v.1 then some (Sum.inl (0, ())) else some (Sum.inr (x1, x2, x3, x4, x5, x6, ()))
theorem h20_c0 (f44 : T44) (f59 : T59) : AqC (K20 f44 f59) 0 (subc (code Tryz.f20) [1, 0, 0, 1]) .nil f20_c0_ins f20_c0_outs (F20_c0 f44 f59) := fun v => by kernel_rfl
def C20_c0 : T20_c0 := F20_c0 C44 C59
theorem k20_c0 : FragOk Tryz.prog 0 (fun Q a w => (subc (code Tryz.f20) [1, 0, 0, 1]).wp Tryz.prog Q a w) (E20_c0 C20_c0) :=
 frag_code (ins := f20_c0_ins) (os := f20_c0_outs) (n := .nil) (F := C20_c0) hm hΓ kok20 (ann_nil _) (h20_c0 C44 C59)
def N20 (f20_c0 : T20_c0) : Ann := (.seq .nil (.seq (.blk (.cut .nil (E20_c0 f20_c0))) .nil))
def F20 (f44 : T44) (f59 : T59) (f20_c0 : T20_c0) : T20 := fun (x0, x1, x2, x3, x4, x5, _) =>
 bif x3 then
 (f20_c0 (!(x4 == [] && (x5 == [] && true)), x0, x1, x2, x3, x4, x5, ())).bind fun v =>
 Sum.elim (fun v => some (v.1, ()))
 (fun v =>
 (f44 (v.1, v.2.1, v.2.2.1, v.2.2.2.2.1, v.2.2.2.2.2.1, ())).bind
 fun v => some (v.1, ()))
 v
 else
 (f20_c0 (false, x0, x1, x2, x3, x4, x5, ())).bind fun v =>
 Sum.elim (fun v => some (v.1, ()))
 (fun v =>
 (f44 (v.1, v.2.1, v.2.2.1, v.2.2.2.2.1, v.2.2.2.2.2.1, ())).bind
 fun v => some (v.1, ()))
 v
theorem h20 (f44 : T44) (f59 : T59) (f20_c0 : T20_c0) : AqF (K20 f44 f59) 0 Tryz.f20 (N20 f20_c0) f20_ins f20_outs (F20 f44 f59 f20_c0) := fun v => by kernel_rfl
def C20 : T20 := F20 C44 C59 C20_c0
theorem ok20 : FnOk Tryz.prog 20 (E20 C20) :=
 fnx (n := (N20 C20_c0)) kok20 Tryz.func20 (by kernel_rfl) (by kernel_rfl) (ann_obs (And.intro k20_c0 trivial) (by kernel_rfl)) (fun v => by kernel_rfl) (h20 C44 C59 C20_c0)
end Go.Proofs.YtiacnhhmkdkpmaaGreatDoorC.W
namespace Go.Proofs
open Go.Shelf
def Tryz.laysM171_ren : Go.Shelf.Ren := ⟨fun | 171 => 65 | 243 => 103 | 246 => 135 | 283 => 169 | 284 => 170 | 285 => 171 | 286 => 172 | 129 => 206 | 317 => 205 | 318 => 207 | 319 => 208 | 320 => 209 | 337 => 235 | 338 => 236 | n => n, fun | 3 => 3 | 9 => 9 | 2 => 2 | 4 => 4 | 171 => 216 | 0 => 0 | 53 => 189 | 37 => 49 | 5 => 5 | 173 => 219 | 212 => 245 | 51 => 246 | 20 => 20 | 213 => 247 | 46 => 179 | 232 => 297 | 233 => 298 | n => n, fun | 17 => 1 | 18 => 5 | 19 => 6 | n => n⟩
theorem Tryz.laysM171 : Go.Proofs.LaysM.n171 Tryz.prog Tryz.laysM171_ren := {
  mixed := by kernel_rfl
  f129 := Tryz.func206.trans (congrArg some (by kernel_rfl))
  f171 := Tryz.func65.trans (congrArg some (by kernel_rfl))
  f243 := Tryz.func103.trans (congrArg some (by kernel_rfl))
  f246 := Tryz.func135.trans (congrArg some (by kernel_rfl))
  f283 := Tryz.func169.trans (congrArg some (by kernel_rfl))
  f284 := Tryz.func170.trans (congrArg some (by kernel_rfl))
  f285 := Tryz.func171.trans (congrArg some (by kernel_rfl))
  f286 := Tryz.func172.trans (congrArg some (by kernel_rfl))
  f317 := Tryz.func205.trans (congrArg some (by kernel_rfl))
  f318 := Tryz.func207.trans (congrArg some (by kernel_rfl))
  f319 := Tryz.func208.trans (congrArg some (by kernel_rfl))
  f320 := Tryz.func209.trans (congrArg some (by kernel_rfl))
  f337 := Tryz.func235.trans (congrArg some (by kernel_rfl))
  f338 := Tryz.func236.trans (congrArg some (by kernel_rfl))
  t0 := Tryz.underlying0
  a0 := Tryz.isAgg0
  z0 := Tryz.sizeOf0
  v0 := Tryz.zeroValue0
  t2 := Tryz.underlying2
  a2 := Tryz.isAgg2
  z2 := Tryz.sizeOf2
  v2 := Tryz.zeroValue2
  t3 := Tryz.underlying3
  a3 := Tryz.isAgg3
  z3 := Tryz.sizeOf3
  v3 := Tryz.zeroValue3
  t4 := Tryz.underlying4
  a4 := Tryz.isAgg4
  z4 := Tryz.sizeOf4
  v4 := Tryz.zeroValue4
  t5 := Tryz.underlying5
  a5 := Tryz.isAgg5
  z5 := Tryz.sizeOf5
  v5 := Tryz.zeroValue5
  t9 := Tryz.underlying9
  a9 := Tryz.isAgg9
  z9 := Tryz.sizeOf9
  v9 := Tryz.zeroValue9
  t20 := Tryz.underlying20
  a20 := Tryz.isAgg20
  z20 := Tryz.sizeOf20
  v20 := Tryz.zeroValue20
  t37 := Tryz.underlying49
  a37 := Tryz.isAgg49
  z37 := Tryz.sizeOf49
  v37 := Tryz.zeroValue49
  t46 := Tryz.underlying179
  a46 := Tryz.isAgg179
  z46 := Tryz.sizeOf179
  v46 := Tryz.zeroValue179
  t51 := Tryz.underlying246
  a51 := Tryz.isAgg246
  z51 := Tryz.sizeOf246
  v51 := Tryz.zeroValue246
  t53 := Tryz.underlying189
  a53 := Tryz.isAgg189
  z53 := Tryz.sizeOf189
  v53 := Tryz.zeroValue189
  t171 := Tryz.underlying216
  a171 := Tryz.isAgg216
  z171 := Tryz.sizeOf216
  v171 := Tryz.zeroValue216
  t173 := Tryz.underlying219
  a173 := Tryz.isAgg219
  z173 := Tryz.sizeOf219
  v173 := Tryz.zeroValue219
  t212 := Tryz.underlying245
  a212 := Tryz.isAgg245
  z212 := Tryz.sizeOf245
  v212 := Tryz.zeroValue245
  t213 := Tryz.underlying247
  a213 := Tryz.isAgg247
  z213 := Tryz.sizeOf247
  t232 := Tryz.underlying297
  a232 := Tryz.isAgg297
  z232 := Tryz.sizeOf297
  v232 := Tryz.zeroValue297
  t233 := Tryz.underlying298
  a233 := Tryz.isAgg298
  z233 := Tryz.sizeOf298
  v233 := Tryz.zeroValue298
  g17 := by kernel_rfl
  g18 := by kernel_rfl
  g19 := by kernel_rfl
  i0 := by kernel_rfl
  i2 := by kernel_rfl
  i3 := by kernel_rfl
  i4 := by kernel_rfl
  i5 := by kernel_rfl
  i9 := by kernel_rfl
  i20 := by kernel_rfl
  i37 := by kernel_rfl
  i46 := by kernel_rfl
  i51 := by kernel_rfl
  i53 := by kernel_rfl
  i171 := by kernel_rfl
  i173 := by kernel_rfl
  i212 := by kernel_rfl
  i232 := by kernel_rfl
  i233 := by kernel_rfl
  m17 := by kernel_rfl
  m18 := by kernel_rfl
  m19 := by kernel_rfl }
end Go.Proofs
set_option linter.unusedVariables false
namespace Go.Ae
open Go.RowKit
variable {P : Program} {f : FuncId}
theorem args1 {w : World} {m : Md} {g : List Value} {a : AV} {args : Array Value} (h : RepL w m g [a] args.toList) : ∃ v, args = #[v] ∧ RepV w m g a v := by
  obtain ⟨v1, r1, h1, h2, h3⟩ := h
  have h3' : r1 = [] := h3
  subst h3'
  exact ⟨v1, by cases args; simpa using h1, h2⟩
theorem lib_is {fn : Func} (hf : P.funcs[f]? = some fn) (hb : fn.body.isSome = true) (hname : (fn.name == "runtime.NumGoroutine") = false) {k : IntKind} {F : Int × Unit → Option (List UInt8 × Unit)}
    (h : ∀ (n : Int) (y : List UInt8), F (n, ()) = some (y, ()) → ∀ w, GlobI w → Calls P f #[.int k n] w fun e w' => e = .returned (.string ⟨⟨y⟩⟩) ∧ Below w.heap.size w w') :
    FnOk P f ⟨[.int k], [(.ret, [.str])], F⟩ := by
  intro w m g v args y hob hargs hy
  obtain ⟨s, u⟩ := v
  obtain ⟨v1, rfl, h1⟩ := args1 hargs
  have h1' : v1 = .int k s := h1.1
  subst h1'
  refine .inr ⟨enters hf hb hname _ w, ?_⟩
  obtain ⟨y, u'⟩ := y
  have hy' : F (s, ()) = some (y, ()) := hy
  refine (h s y hy' w hob.gi.i).mono fun e w' ⟨he, hbl⟩ => ⟨_, he, ?_⟩
  exact ⟨.ret, [.str], (y, ()), m, g, ⟨by simp, fun R k => rfl⟩, stp_below hbl hob.nm, repOb_nil hob (stp_below hbl hob.nm), fun _ _ h => h, ⟨_, [], rfl, rfl, rfl⟩⟩
end Go.Ae
set_option maxRecDepth 100000
set_option linter.unusedVariables false
namespace Go.Proofs.YtiacnhhmkdkpmaaGreatDoorC.W
open Go Go.Ae Go.RowKit
def f65_ins : List Sh := [.int .i64]
def f65_outs : Outs := [(.ret, [.str])]
abbrev T65 := Int × Unit → Option (List UInt8 × Unit)
def E65 (f : T65) : FEnt := ⟨f65_ins, f65_outs, f⟩
theorem tab_of {P : Program} {w : World} {name : String} {b : Nat} {k : IntKind} {zs : List Int} (hg : P.globalNamed name = some b) (h : tabAt w b k zs) : Lib.TabIs P w name k zs := by
  obtain ⟨ty, fz, h⟩ := h
  unfold Lib.TabIs World.var?
  rw [hg]
  simp only [Option.bind_some, h]
def digF : Nat → Nat → List UInt8
  | 0, _ => []
  | f + 1, n => if n < 10 then [UInt8.ofNat (48 + n)] else digF f (n / 10) ++ [UInt8.ofNat (48 + n % 10)]
theorem digF_eq : ∀ (f n : Nat), n < 10 ^ (f + 1) → digF (f + 1) n = Lib.decDigits n
  | 0, n, h => by
    have : n < 10 := by simpa using h
    rw [digF, if_pos this, Lib.decDigits, dif_pos this]
  | f + 1, n, h => by
    rw [digF, Lib.decDigits]
    split
    · rfl
    · rw [digF_eq f (n / 10) (by rw [Nat.pow_succ] at h; omega)]
def itoaF (n : Int) : List UInt8 := if n < 0 then 45 :: digF 20 n.natAbs else digF 20 n.toNat
def C65 (v : Int × Unit) : Option (List UInt8 × Unit) := if -9223372036854775808 ≤ v.1 ∧ v.1 ≤ 9223372036854775807 then some (itoaF v.1, ()) else none
theorem ok65 : FnOk Tryz.prog 65 (E65 C65) := lib_is Tryz.func65 (by kernel_rfl) (by kernel_rfl) fun n y h w hg => by
  simp only [C65] at h
  split at h
  · rename_i hc
    obtain ⟨h1, h2⟩ := hc
    simp only [Option.some.injEq, Prod.mk.injEq, and_true] at h
    have hy : y = Lib.itoa n := by
      rw [← h]
      unfold itoaF Lib.itoa
      split
      · rw [digF_eq 19 _ (by omega)]
      · rw [digF_eq 19 _ (by omega)]
    subst hy
    obtain ⟨_, h4, _⟩ := hg
    have ht : Lib.TabIs Tryz.prog w "internal/strconv.uint64pow10" .u64 Lib.pow10Tab := by
      have e : Lib.pow10Tab = tens := by decide
      rw [e]
      exact tab_of (by kernel_rfl) h4
    refine (Any.strconv_Itoa Tryz.laysM171 n h1 h2 w ht).mono fun e w' ⟨he, k, os, hw⟩ => ⟨he, ?_⟩
    subst hw
    refine ⟨rfl, rfl, rfl, by simp [Sort.grow, World.drewN], fun i hi => ?_⟩
    have hi' : i < (w.drewN k).heap.size := hi
    show (((w.drewN k).heap ++ os)[i]? : Option Obj) = w.heap[i]?
    rw [Array.getElem?_append_left hi']
    rfl
  · cases h
end Go.Proofs.YtiacnhhmkdkpmaaGreatDoorC.W
